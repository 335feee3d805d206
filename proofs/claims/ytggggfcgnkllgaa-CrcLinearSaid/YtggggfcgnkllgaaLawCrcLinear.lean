/- cellaragelaw02.CrcLinear: for every three rows of bytes, the sums of the three and of their mix cancel. -/
import Derived.Test.YtggggfcgnkllgaaShown02
import Derived.Test.YtggggfcgnkllgaaT5
import Derived.Test.YtggggfcgnkllgaaFacts
import Derived.Test.YtggggfcgnkllgaaArgs
set_option linter.unusedVariables false
set_option linter.unusedSimpArgs false
set_option linter.constructorNameAsVariable false
namespace Go.Proofs.Ytggggfcgnkllgaa
open Go Go.Sh Go.RowKit Go.ChangeShapes Go.WideShapes Go.ChangeAt
open Go.Proofs.Ytggggfcgnkllgaa
section
attribute [local irreducible] X XU XP XR CALL loopS resC closS Value.okWide
def mix (a b c : List UInt8) : List UInt8 := List.zipWith (· ^^^ ·) (List.zipWith (· ^^^ ·) a b) c
theorem upd1_mix (s t r : W32) (x y z : UInt8) : upd1 (s ^^^ t ^^^ r) (x ^^^ y ^^^ z) = upd1 s x ^^^ upd1 t y ^^^ upd1 r z := by
  have e : ∀ a b c d e f : W32, a ^^^ b ^^^ c ^^^ (d ^^^ e ^^^ f) = a ^^^ d ^^^ (b ^^^ e) ^^^ (c ^^^ f) := by
    intro a b c d e f
    apply BitVec.eq_of_getLsbD_eq
    intro i hi
    simp only [BitVec.getLsbD_xor]
    cases a.getLsbD i <;> cases b.getLsbD i <;> cases c.getLsbD i <;> cases d.getLsbD i <;> cases e.getLsbD i <;> cases f.getLsbD i <;> rfl
  unfold upd1
  rw [← iter_xor, ← iter_xor, top_xor, top_xor, e]
theorem fold_mix (a b c : List UInt8) (s t r : W32) (h1 : a.length = b.length) (h2 : a.length = c.length) : fold (s ^^^ t ^^^ r) (mix a b c) = fold s a ^^^ fold t b ^^^ fold r c := by
  induction a generalizing b c s t r with
  | nil =>
    cases b with
    | nil => cases c with
      | nil => rfl
      | cons _ _ => cases h2
    | cons _ _ => cases h1
  | cons x a ih =>
    cases b with
    | nil => cases h1
    | cons y b =>
      cases c with
      | nil => cases h2
      | cons z c =>
        show fold (upd1 _ _) (mix a b c) = _
        rw [upd1_mix, ih b c _ _ _ (by simpa using h1) (by simpa using h2)]
        rfl
theorem crc_mix (a b c : List UInt8) (h1 : a.length = b.length) (h2 : a.length = c.length) : crc a ^^^ crc b ^^^ crc c ^^^ crc (mix a b c) = 0#32 := by
  unfold crc more
  have h := fold_mix a b c (~~~0#32) (~~~0#32) (~~~0#32) h1 h2
  have e0 : (~~~0#32 ^^^ ~~~0#32 ^^^ ~~~0#32 : W32) = ~~~0#32 := by decide
  rw [e0] at h
  rw [h]
  apply BitVec.eq_of_getLsbD_eq
  intro i hi
  simp only [BitVec.getLsbD_xor, BitVec.getLsbD_not, hi, decide_true, Bool.true_and, BitVec.getLsbD_zero]
  cases (fold (~~~0#32) a).getLsbD i <;> cases (fold (~~~0#32) b).getLsbD i <;> cases (fold (~~~0#32) c).getLsbD i <;> rfl
theorem B8_set (l : List UInt8) (i : Nat) (u : UInt8) : (B8 l).set i (.int .u8 (u.toNat : Int)) = B8 (l.set i u) := by
  unfold B8
  rw [List.map_set]
theorem blk_bts {w : World} {g : Nat} {l : List UInt8} {T : TypeId} {fr : Nat × Nat} (hg : w.heap[g]? = some (.cells (B8 l).toArray T fr)) (hl : l.length ≤ 9223372036854775807) : Bts w (.slice (some ⟨g, 0, none⟩) l.length l.length) l :=
  ⟨_, _, rfl, Nat.le_refl _, hl, fun _ => ⟨_, rfl, fun j u hj => by
    rw [add_plain, cell_blk hg, Nat.zero_add]
    simp [B8_getElem?, hj]⟩⟩
theorem crcLinear_run {v0 v1 v2 : Value} {xs bs cs : List UInt8} (W : World) (ha : Bts W v0 xs) (hb : Bts W v1 bs) (hc : Bts W v2 cs) : CALL Try.prog 15 #[v0, v1, v2] W (fun v w' => v = .bool true ∧ Ext W w') := by
  obtain ⟨a0, c0, e, _⟩ := id ha
  subst e
  obtain ⟨a1, c1, e, _⟩ := id hb
  subst e
  obtain ⟨a2, c2, e, _⟩ := id hc
  subst e
  apply call_law02_CrcLinear
  unfold B_law02_CrcLinear
  refine shown02 ?_
  intro w1 hx1
  simp only [SS, ST]
  obtain ⟨k, hk⟩ : ∃ k : Nat, k = min (min (min xs.length bs.length) cs.length) 10000 := ⟨_, rfl⟩
  have ek : min (min (min (xs.length : Int) (bs.length : Int)) (cs.length : Int)) 10000 = (k : Int) := by omega
  rw [ek]
  refine X_make Try.underlying27 el_5 k k rfl rfl (Nat.le_refl _) (by omega) (by omega) ?_
  have hcells : madeCells (Value.int .u8 0).cells (k * 1) = (B8 (List.replicate k 0)).toArray := by
    apply Array.ext'
    rw [Nat.mul_one]
    have : (madeCells (Value.int .u8 0).cells k).toList = List.replicate k (.int .u8 0) := made_one _ _
    rw [this]
    simp [B8]
  rw [hcells]
  have hget := newB_get w1 (B8 (List.replicate k 0)).toArray 5
  have hext := newB_ext w1 (B8 (List.replicate k 0)).toArray 5
  generalize newB w1 (B8 (List.replicate k 0)).toArray 5 = w2 at hget hext ⊢
  have hx2 := hx1.trans hext
  simp only [SS, ST]
  refine loopS_of (fun ρ wr => ∃ (i : Nat) (l : List UInt8), i ≤ k ∧ Ext W wr ∧ wr.heap[w1.heap.size]? = some (.cells (B8 l).toArray 5 (0, 0)) ∧ l.length = k ∧ (∀ j, j < i → l[j]? = (mix (xs.take k) (bs.take k) (cs.take k))[j]?) ∧
      ρ 23 = .int .i64 (i : Nat) ∧ ρ 22 = .int .i64 (k : Nat) ∧ ρ 9 = .slice (some ⟨w1.heap.size, 0, none⟩) k k ∧ ρ 0 = .slice a0 xs.length c0 ∧ ρ 1 = .slice a1 bs.length c1 ∧ ρ 2 = .slice a2 cs.length c2 ∧ ρ 7 = .bool true ∧ ρ 8 = .int .i64 (k : Nat))
    (fun ρ wr => match ρ 23 with | .int _ s => (k - s).toNat | _ => 0) ?_ ?_
  · exact ⟨0, List.replicate k 0, by omega, hx2, hget, by simp, fun j hj => absurd hj (by omega), rfl, rfl, rfl, rfl, rfl, rfl, rfl, rfl⟩
  · rintro ρ wr ⟨i, l, hi, hxr, hg, hl, hj, h23, h22, h9, h0, h1, h2, h7, h8⟩
    simp only [SS, ST, h23, h22, h9, h0, h1, h2, h7, h8]
    have hmlen : (mix (xs.take k) (bs.take k) (cs.take k)).length = k := by simp [mix]; omega
    by_cases hin : i = k
    · subst hin
      rw [if_neg (by simp)]
      simp only [upds_cons, upds_nil, Nat.reduceEqDiff, if_false, h7, h8, h9, h0, h1, h2, SS, ST, if_true]
      have el : l = mix (xs.take i) (bs.take i) (cs.take i) := by
        apply List.ext_getElem?
        intro j
        by_cases hj' : j < i
        · exact hj j hj'
        · rw [List.getElem?_eq_none (by omega), List.getElem?_eq_none (by omega)]
      refine ⟨Ext, Ext.frame, ?_⟩
      have hxd : Ext W (drewW wr) := hxr.trans (Keep.drew _ wr)
      obtain ⟨u0, hu0, hub0, _⟩ := cut_hi Try.underlying27 info_5 (ha.ext hxd) (kh := .i64) i rfl (by omega)
      obtain ⟨u1, hu1, hub1, _⟩ := cut_hi Try.underlying27 info_5 (hb.ext hxd) (kh := .i64) i rfl (by omega)
      obtain ⟨u2, hu2, hub2, _⟩ := cut_hi Try.underlying27 info_5 (hc.ext hxd) (kh := .i64) i rfl (by omega)
      have hd0 : Bts wr (.slice (some ⟨w1.heap.size, 0, none⟩) l.length l.length) l := blk_bts hg (by omega)
      rw [hl] at hd0
      have hd := hd0.drew
      refine XP_of hu0 ?_
      refine XP_of hu1 ?_
      refine XP_of hu2 ?_
      refine Sum_spec hub0 ?_
      intro w3 hx3
      refine Sum_spec (hub1.ext hx3) ?_
      intro w4 hx4
      refine XP_of (fun w => u32_xor 23 _ _ w) ?_
      refine Sum_spec (hub2.ext (hx3.trans hx4)) ?_
      intro w5 hx5
      refine XP_of (fun w => u32_xor 23 _ _ w) ?_
      refine Sum_spec (hd.ext (hx3.trans (hx4.trans hx5))) ?_
      intro w6 hx6
      refine XP_of (fun w => u32_xor 23 _ _ w) ?_
      rw [el, crc_mix _ _ _ (by simp; omega) (by simp; omega)]
      have e0 : U32 0#32 = .int .u32 0 := rfl
      simp only [e0, SS, ST, decide_true, if_true]
      exact ⟨trivial, hxd.trans (hx3.trans (hx4.trans (hx5.trans hx6)))⟩
    · rw [if_pos (by simp; omega)]
      refine ⟨Ext, Ext.frame, ?_⟩
      have hxd : Ext W (drewW wr) := hxr.trans (Keep.drew _ wr)
      obtain ⟨d0, hi0, hc0, _⟩ := at_bts Try.underlying27 info_5 sz_5 (ha.ext hxd) (k := .i64) i rfl (by omega)
      obtain ⟨d1, hi1, hc1, _⟩ := at_bts Try.underlying27 info_5 sz_5 (hb.ext hxd) (k := .i64) i rfl (by omega)
      obtain ⟨d2, hi2, hc2, _⟩ := at_bts Try.underlying27 info_5 sz_5 (hc.ext hxd) (k := .i64) i rfl (by omega)
      refine XP_of hi0 ?_
      refine XR_ok Ext.frame (fun w' kx => run_loadAt agg_5 (kx.cell (fun h => h) hc0)) ?_
      refine XP_of hi1 ?_
      refine XR_ok Ext.frame (fun w' kx => run_loadAt agg_5 (kx.cell (fun h => h) hc1)) ?_
      refine XP_of (fun w => u8_xor 5 _ _ w) ?_
      refine XP_of hi2 ?_
      refine XR_ok Ext.frame (fun w' kx => run_loadAt agg_5 (kx.cell (fun h => h) hc2)) ?_
      refine XP_of (fun w => u8_xor 5 _ _ w) ?_
      refine XP_of (fun w => ix Try.underlying27 info_5 i rfl (by omega) w) ?_
      rw [sz_5, Nat.mul_one, add_plain, Nat.zero_add]
      have hgd : (drewW wr).heap[w1.heap.size]? = some (.cells (B8 l).toArray 5 (0, 0)) := hg
      refine XU_store info_5 sz_5 rfl hgd (by simp; omega) (by show ¬ ((0 : Nat) ≤ i ∧ i < 0); omega) ?_
      show _ ∧ _
      refine ⟨⟨i + 1, l.set i (xs[i] ^^^ bs[i] ^^^ cs[i]), by omega, Ext.seq hxd (setAt_keep _ _ _ _ _) (fun j hj => by have := hx1.size; omega), ?_, by simp [hl], ?_, next64 (n := 10000) (by decide) (by omega), h22, h9, h0, h1, h2, h7, h8⟩, ?_⟩
      · have e : (B8 l).toArray.setIfInBounds i (.int .u8 (((xs[i] ^^^ bs[i] ^^^ cs[i]).toNat : Nat) : Int)) = (B8 (l.set i (xs[i] ^^^ bs[i] ^^^ cs[i]))).toArray := by
          rw [← B8_set]; simp
        rw [← e]
        exact setAt_same (lt_of_blk hgd)
      · intro j hj'
        by_cases hji : j = i
        · subst hji
          rw [List.getElem?_set_self (by omega)]
          simp [mix, List.getElem?_zipWith, List.getElem?_take, show j < k by omega, List.getElem?_eq_getElem (show j < xs.length by omega), List.getElem?_eq_getElem (show j < bs.length by omega), List.getElem?_eq_getElem (show j < cs.length by omega)]
        · rw [List.getElem?_set_ne (by omega)]
          exact hj j (by omega)
      · show (_ - IntKind.i64.wrap _).toNat < _
        rw [w64 (by omega) (by omega)]
        omega
theorem crcLinear_walk {H : Type} (enc : TypeId × Value → H) (W : World) (v0 v1 v2 : Value) {base : Nat} (ok0 : Value.okWide Try.prog W .any base 27 v0) (ok1 : Value.okWide Try.prog W .any base 27 v1) (ok2 : Value.okWide Try.prog W .any base 27 v2) (d0 : DataW H) (p0 : List MemPlace) (d1 : DataW H) (p1 : List MemPlace) (d2 : DataW H) (p2 : List MemPlace) (h0 : DataW.Trod enc Try.prog W 0 (fun _ => true) true 27 v0 d0 p0) (h1 : DataW.Trod enc Try.prog W 0 (fun _ => true) true 27 v1 d1 p1) (h2 : DataW.Trod enc Try.prog W 0 (fun _ => true) true 27 v2 d2 p2) (hsz : (DataW.weightsEach Try.prog [27, 27, 27] [d0, d1, d2]).all (· ≤ reachBytes) = true) :
    CALL Try.prog 15 #[v0, v1, v2] W (fun v w' => v = .bool true ∧ Ext W w') := by
  obtain ⟨xs, ha⟩ := arg_bytes Try.underlying27 Try.underlying5 (by kernel_rfl) ok0 h0
  obtain ⟨bs, hb⟩ := arg_bytes Try.underlying27 Try.underlying5 (by kernel_rfl) ok1 h1
  obtain ⟨cs, hc⟩ := arg_bytes Try.underlying27 Try.underlying5 (by kernel_rfl) ok2 h2
  exact crcLinear_run W ha hb hc
end
set_option maxRecDepth 100000 in
theorem crcLinear_lifted (os : Os) (started : os.Started) (H : Type) (enc : TypeId × Value → H) :
    ReturnsInHanded {} Try.checked os 15 .any (Rows.crcLinearSpec.pre6 enc Try.prog Try.f15 Rows.crcLinearRow.domain false) (Rows.crcLinearSpec.post enc Try.prog Try.f15 false true false false) := by
  refine returnsInHanded_of_change_sized (C := Try.checked) (by kernel_rfl) started (by kernel_rfl) Try.func15
    (ChangeSpec.witness6 (enc := enc) (C := Try.checked) false ⟨#[], #[(.slice none 0 0), (.slice none 0 0), (.slice none 0 0)], []⟩ 8 (by kernel_rfl) (by kernel_rfl) (by kernel_rfl) (by kernel_rfl)) ?_
  intro W base args ds gs before hval0 hW hcnd hsz0 _
  have hval : ∀ (j : Nat) t v, Try.f15.params[j]? = some t → args[j]? = some v → Value.okWide Try.prog W .any base t v := hval0
  have hW' := hW
  obtain ⟨p, q, hA0, hV, rfl, hfz, hnd⟩ := hW
  have hA : DataW.TrodAll enc Try.prog W 0 (fun _ => true) true Try.f15.params.toList args.toList ds p := hA0
  rw [Try.params15] at hA hval
  obtain ⟨v0, vs0, d0, ds0, p0, q0, hargs, rfl, rfl, h0, r0⟩ := trodAll_cons hA
  obtain ⟨v1, vs1, d1, ds1, p1, q1, rfl, rfl, rfl, h1, r1⟩ := trodAll_cons r0
  obtain ⟨v2, vs2, d2, ds2, p2, q2, rfl, rfl, rfl, h2, r2⟩ := trodAll_cons r1
  obtain ⟨rfl, rfl, rfl⟩ := trodAll_nil r2
  obtain rfl : args = #[v0, v1, v2] := by cases args; simp_all
  obtain ⟨rfl, rfl⟩ := trodVars_none hV
  have hsz : (DataW.weightsEach Try.prog [27, 27, 27] [d0, d1, d2]).all (· ≤ reachBytes) = true := hsz0
  have hw := crcLinear_walk enc W v0 v1 v2 (hval 0 27 v0 rfl rfl) (hval 1 27 v1 rfl rfl) (hval 2 27 v2 rfl rfl) d0 p0 d1 p1 d2 p2 h0 h1 h2 hsz
  refine (CALL_calls hw).mono fun e W' he => ?_
  cases e with
  | returned v =>
    obtain ⟨rfl, hx⟩ := he
    exact ⟨_, rfl, law_post (P := Try.prog) laidOut (by kernel_rfl) rfl rfl rfl Try.underlying4 hW' hx⟩
  | panicked c => exact he.elim
  | outgrown => exact he.elim

theorem crcLinear_closed : joinedFacts Try.prog 15 Try.f15 Rows.crcLinearSpec Rows.crcLinearRow = true := by
  unfold joinedFacts
  rw [mayEnter_is, liftsFinal_is, make_is]
  kernel_rfl
/-- For every input that the row lets in, cellarage/cellaragelaw02.CrcLinear returns true, and what was there stays as it was. -/
theorem crcLinear_holds : Rows.CrcLinearSaid :=
  OpenClaim.holds_of_wide 15 Try.f15 rfl rfl rfl rfl rfl rfl rfl ⟨rfl, rfl, rfl, rfl, rfl⟩ rfl rfl rfl rfl rfl (by kernel_rfl) Try.func15 crcLinear_closed
    (of_decide_eq_true (by kernel_rfl)) (by unfold Func.isWrapper; first | (rw [if_pos (by decide +kernel)]; kernel_rfl) | (rw [if_neg (by decide +kernel)]; exact ⟨rfl, rfl⟩))
    (fun os started H enc _ => crcLinear_lifted os started H enc)
#print axioms crcLinear_holds
end Go.Proofs.Ytggggfcgnkllgaa
