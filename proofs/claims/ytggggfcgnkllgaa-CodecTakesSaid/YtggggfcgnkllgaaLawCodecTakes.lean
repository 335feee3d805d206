/- cellaragelaw01.CodecTakes: for every bytes and every takes, the reader takes what the reference's takes, and stands still behind its first fault. -/
import Derived.Test.YtggggfcgnkllgaaShown01
import Derived.Test.YtggggfcgnkllgaaOrder
import Derived.Test.YtggggfcgnkllgaaRow2
import Derived.Test.YtggggfcgnkllgaaFacts
import Derived.Test.YtggggfcgnkllgaaArgs
set_option linter.unusedVariables false
set_option linter.unusedSimpArgs false
set_option linter.constructorNameAsVariable false
namespace Go.Proofs.Ytggggfcgnkllgaa
open Go Go.Sh Go.RowKit Go.ChangeShapes Go.WideShapes Go.ChangeAt
open Go.Proofs.Ytggggfcgnkllgaa
section
attribute [local irreducible] X XU XP XR CALL loopS resC closS Value.okWide
theorem run_empty27 (w : World) : (Instr.buildSlice 27 0 #[]).run Try.prog w = .ok (.slice (some ⟨w.heap.size, 0, none⟩) 0 0) (newB w #[] 5) := by kernel_rfl
theorem own_empty (w : World) : (newB w #[] 5).ownsRow w.heap.size 5 1 (.slice (some ⟨w.heap.size, 0, none⟩) 0 0) 0 (B8 []) :=
  ⟨rfl, .inr ⟨w.heap.size, 0, #[], rfl, Nat.le_refl _, newB_get _ _ _, Nat.le_refl _, by simp [maxLen], rfl, rfl⟩⟩
theorem run_build_57t (a : Option Addr) (n c : Nat) (w : World) : (Instr.build 57 #[(0, .slice a n c)]).run Try.prog w = .ok (.agg #[.slice a n c, .int .i64 0, .int .i64 0]) w := by kernel_rfl
theorem field59_0 (a : Addr) (w : World) : (Instr.fieldAt 59 (.pointer (some a)) 0).run Try.prog w = .ok (.pointer (some (a.add 0))) w := by kernel_rfl
theorem field59_1 (a : Addr) (w : World) : (Instr.fieldAt 59 (.pointer (some a)) 1).run Try.prog w = .ok (.pointer (some (a.add 1))) w := by kernel_rfl
theorem fields59 (a : Addr) (w : World) (K : Value → World → Prop) : X Try.prog (Instr.fieldAt 59 (.pointer (some a)) 0) w K = K (.pointer (some (a.add 0))) w := X_ok (field59_0 a w)
theorem joinS_of {C : Env → World → Prop} {F : (Env → World → Prop) → Prop} (I : Env → World → Prop) (h1 : ∀ ρ w, I ρ w → C ρ w) (h2 : ∀ J : Env → World → Prop, (∀ ρ w, I ρ w → J ρ w) → F J) : joinS C F := h2 C h1
theorem u8_xor' {P : Program} (T : TypeId) (a b : UInt8) (w : World) : (binOp .xor T (.int .u8 ((a.toNat : Nat) : Int)) (.int .u8 ((b.toNat : Nat) : Int))).run P w = .ok (.int .u8 (((a ^^^ b).toNat : Nat) : Int)) w := by
  rw [run_xor (k := .u8) rfl T a.toNat b.toNat a.toNat_lt b.toNat_lt w, UInt8.toNat_xor]
theorem codecTakes_run {v0 v1 : Value} {bs : List UInt8} {ts : List (Bool × Int)} (W : World) (h0 : Bts W v0 bs) (h1 : Row2 fB fI W v1 ts) (g1 : ∀ x ∈ ts, x.2 ≤ 9223372036854775807) :
    CALL Try.prog 16 #[v0, v1] W (fun v w' => v = .bool true ∧ Ext W w') := by
  obtain ⟨a0, c0, e0⟩ := Bts.slice h0
  obtain ⟨a1, c1, e1⟩ := Row2.slice h1
  obtain ⟨_, _, _, _, _, hcell0⟩ := id h0
  apply call_law01_CodecTakes
  unfold B_law01_CodecTakes
  refine shown01 ?_
  intro w1 hx1
  rw [e0]
  simp only [X_len_27, X_gtr, condS_bool]
  by_cases hl : 100000 < bs.length
  · rw [if_pos (by simp; omega)]
    exact ⟨trivial, hx1⟩
  rw [if_neg (by simp; omega)]
  refine X_of (run_empty27 _) ?_
  have hx2 := newB_ext w1 #[] 5
  have ho2 := own_empty w1
  have hs2 := newB_size w1 #[] 5
  generalize newB w1 #[] 5 = w2 at hx2 ho2 hs2 ⊢
  rw [← e0]
  refine X_append_bts Try.underlying27 el_5 ho2 ((h0.ext hx1).ext hx2) (by omega) (by omega) ?_
  intro v3 w3 ho3 hk3
  have hx3 : Ext w1 w3 := Ext.seq hx2 hk3 (fun i hi => (ho2.lt i hi.symm).1)
  rw [List.nil_append, Nat.zero_add] at ho3
  have hb3 := (own_bts ho3).1
  refine New_spec hb3 (by omega) ?_
  intro b w4 hx4 hb4 hr4
  simp only [X_eql_nil_54, Option.isNone_some, condS_bool, Bool.false_eq_true, if_false]
  rw [e0]
  refine X_of (run_build_57t _ _ _ _) ?_
  refine X_alloc zero_57 ?_
  have hb5 : (newB w4 #[.slice none 0 0, .int .i64 0, .int .i64 0] 57).heap[w4.heap.size]? = some (.cells #[.slice none 0 0, .int .i64 0, .int .i64 0] 57 (0, 0)) := newB_get _ _ _
  have hx5 := newB_ext w4 #[.slice none 0 0, .int .i64 0, .int .i64 0] 57
  have hz5 := newB_size w4 #[.slice none 0 0, .int .i64 0, .int .i64 0] 57
  show XU _ _ (newB w4 #[.slice none 0 0, .int .i64 0, .int .i64 0] 57) _
  generalize newB w4 #[.slice none 0 0, .int .i64 0, .int .i64 0] 57 = w5 at hb5 hx5 hz5 ⊢
  refine XU_storeAgg (l := [.slice a0 bs.length c0, .int .i64 0, .int .i64 0]) info_57 hb5 (by rw [sz_57]; rfl) (by rw [sz_57]; rfl) (by intro v hv; simp at hv; rcases hv with rfl | rfl <;> rfl) ?_
  have hb6 : (setAt w5 w4.heap.size [.slice a0 bs.length c0, .int .i64 0, .int .i64 0].toArray 57 (0, 0)).heap[w4.heap.size]? = some (.cells #[.slice a0 bs.length c0, .int .i64 ((0 : Nat) : Int), .int .i64 0] 57 (0, 0)) := setAt_same (lt_of_blk hb5)
  have hx6 : Ext w4 (setAt w5 w4.heap.size [.slice a0 bs.length c0, .int .i64 0, .int .i64 0].toArray 57 (0, 0)) := Ext.seq hx5 (setAt_keep _ _ _ _ _) (fun i hi => by omega)
  generalize setAt w5 w4.heap.size [.slice a0 bs.length c0, .int .i64 0, .int .i64 0].toArray 57 (0, 0) = w6 at hb6 hx6 ⊢
  have hx06 : Ext W w6 := hx1.trans (hx3.trans (hx4.trans hx6))
  have hr6 := hr4.ext hx6
  have hq6 : RdrR w6 0 W.heap.size w4.heap.size bs bs 0 := by
    rw [e0] at h0
    refine ⟨_, 0, hb6, h0.ext hx06, Nat.zero_le _, rfl, fun hp k hk => ?_⟩
    obtain ⟨a', c', e', _, _, hcc⟩ := id h0
    obtain ⟨ad, ha, hcells⟩ := hcc hp
    injection e' with e1' _ _
    rw [e1', ha] at hk
    have hk' : ad.block = k := by simpa [Value.ownBlock] using hk
    have h0' := hcells 0 _ (List.getElem?_eq_getElem hp)
    have hlt := World.block_lt_of_cell? W _ h0'
    have : (ad.add 0).block = ad.block := by unfold Addr.add; split <;> rfl
    have := hx1.size
    have := hx3.size
    have := hx4.size
    omega
  obtain ⟨a3, c3, e3⟩ := Bts.slice hb3
  have hform : bs.length = 0 ∨ ∃ g cur, v3 = .slice (some ⟨g, 0, none⟩) bs.length c3 ∧ w1.heap.size ≤ g ∧ g < w3.heap.size ∧ w6.heap[g]? = some (.cells cur 5 (0, 0)) ∧ bs.length ≤ cur.size ∧ ∀ j, j < bs.length → ∃ u : UInt8, cur[j]? = some (.int .u8 (u.toNat : Int)) := by
    rcases ho3.2 with ⟨_, h⟩ | ⟨g, cap, cur, hv, hg, hh, hn, _, hs, ht⟩
    · exact .inl h
    · refine .inr ⟨g, cur, ?_, hg, lt_of_blk hh, hx6.get (hx4.get hh), by omega, fun j hj => ⟨bs[j], ?_⟩⟩
      · rw [hv] at e3 ⊢
        injection e3 with _ _ e
        rw [e]
      · have := congrArg (fun l => l[j]?) ht
        simp only [List.getElem?_take, show j < bs.length * 1 by omega, if_true, B8_getElem?, List.getElem?_eq_getElem hj, Option.map_some] at this
        simpa using this
  have hsW : W.heap.size ≤ w1.heap.size := hx1.size
  have hs43 : w3.heap.size ≤ w4.heap.size := hx4.size
  have hs13 : w1.heap.size ≤ w3.heap.size := hx3.size
  have hbq : b < w4.heap.size := hr4.lt
  generalize w3.heap.size = lo at hr6 hform hb4 hs43 hs13
  generalize w4.heap.size = q at hr6 hq6 hs43 hbq ⊢
  rw [e3]
  simp only [X_len_27]
  refine loopS_of (fun ρ wr => ∃ i : Nat, i ≤ bs.length ∧ Ext W wr ∧ Rdr wr lo q b bs 0 ∧ RdrR wr 0 W.heap.size q bs bs 0 ∧
      (bs.length = 0 ∨ ∃ g cur, v3 = .slice (some ⟨g, 0, none⟩) bs.length c3 ∧ w1.heap.size ≤ g ∧ g < lo ∧ wr.heap[g]? = some (.cells cur 5 (0, 0)) ∧ bs.length ≤ cur.size ∧ ∀ j, j < bs.length → ∃ u : UInt8, cur[j]? = some (.int .u8 (u.toNat : Int))) ∧
      ρ 28 = .int .i64 (i : Nat) ∧ ρ 27 = .int .i64 (bs.length : Nat) ∧ ρ 6 = .slice a3 bs.length c3 ∧ ρ 0 = .slice a0 bs.length c0 ∧ ρ 1 = v1 ∧ ρ 5 = .bool true ∧ ρ 7 = .pointer (some ⟨b, 0, none⟩) ∧ ρ 8 = .pointer (some ⟨q, 0, none⟩))
    (fun ρ wr => match ρ 28 with | .int _ s => (bs.length - s).toNat | _ => 0) ?_ ?_
  · exact ⟨0, by omega, hx06, hr6, hq6, hform, rfl, rfl, rfl, rfl, rfl, rfl, rfl, rfl⟩
  rintro ρ wr ⟨i, hi, hxr, hrr, hqr, hf, r28, r27, r6, r0, r1, r5, r7, r8⟩
  by_cases hin : i = bs.length
  case neg =>
    rcases hf with hf | ⟨g, cur, ev, hg1, hg2, hgh, hgs, hgc⟩
    · omega
    rw [e3] at ev
    simp only [SS, ST, r28, r27, r6]
    rw [if_pos (by simp; omega), ev]
    refine X_of (ix Try.underlying27 info_5 i rfl (by omega) _) ?_
    rw [sz_5, Nat.mul_one, add_plain, Nat.zero_add]
    obtain ⟨u, hu⟩ := hgc i (by omega)
    refine X_loadB agg_5 hgh hu ?_
    have e85 : (Value.int .u8 85) = .int .u8 (((85 : UInt8).toNat : Nat) : Int) := rfl
    rw [e85]
    refine X_of (u8_xor' 5 _ _ _) ?_
    refine X_of (ix Try.underlying27 info_5 i rfl (by omega) _) ?_
    rw [sz_5, Nat.mul_one, add_plain, Nat.zero_add]
    refine XU_store info_5 sz_5 rfl hgh (by omega) (by show ¬ ((0 : Nat) ≤ i ∧ i < 0); omega) ?_
    have hk := setAt_keep wr g (cur.setIfInBounds i (.int .u8 (((u ^^^ 85).toNat : Nat) : Int))) 5 (0, 0)
    show _ ∧ _
    refine ⟨⟨i + 1, by omega, Ext.seq hxr hk (fun j hj => by omega), hrr.keep hk (by omega) (fun j h1 h2 h3 => by omega), hqr.keep hk (by omega) (fun j h1 h2 h3 => by omega), .inr ⟨g, _, by rw [e3]; exact ev, hg1, hg2, setAt_same (lt_of_blk hgh), by simp; omega, ?_⟩, next64 (n := 100000) (by decide) (by omega), r27, ?_, r0, r1, r5, r7, r8⟩, ?_⟩
    · intro j hj
      by_cases hji : j = i
      · subst hji
        exact ⟨u ^^^ 85, by simp [show j < cur.size by omega]⟩
      · obtain ⟨u', hu'⟩ := hgc j hj
        exact ⟨u', by rw [Array.getElem?_setIfInBounds_ne (by omega)]; exact hu'⟩
    · rw [← ev]; exact r6
    · show (_ - IntKind.i64.wrap _).toNat < _
      rw [w64 (by omega) (by omega)]
      omega
  case pos =>
    subst hin
    simp only [X_lss, condS_bool, r28, r27]
    rw [if_neg (by simp)]
    simp only [thenS_exit, inBlockS_same, thenS_normal, upds_cons, upds_nil, Nat.reduceEqDiff, if_false, r1]
    rw [e1]
    simp only [X_len_53]
    refine loopS_of (fun σ w => ∃ (i : Nat) (cs : List UInt8) (f : Int), i ≤ ts.length ∧ Ext W w ∧ Rdr w lo q b cs f ∧ RdrR w 0 W.heap.size q bs cs f ∧
        σ 40 = .int .i64 (i : Nat) ∧ σ 39 = .int .i64 (ts.length : Nat) ∧ σ 0 = .slice a0 bs.length c0 ∧ σ 1 = .slice a1 ts.length c1 ∧ σ 5 = .bool true ∧ σ 7 = .pointer (some ⟨b, 0, none⟩) ∧ σ 8 = .pointer (some ⟨q, 0, none⟩))
      (fun ρ w => match ρ 40 with | .int _ s => (ts.length - s).toNat | _ => 0) ?_ ?_
    · exact ⟨0, bs, 0, by omega, hxr, hrr, hqr, rfl, rfl, r0, by rw [← e1]; exact r1, r5, r7, r8⟩
    rintro σ w7 ⟨i, cs, f, hi7, hx7, hr7, hq7, s40, s39, s0, s1, s5, s7, s8⟩
    by_cases hin7 : i = ts.length
    · subst hin7
      simp only [SS, ST, s40, s39]
      rw [if_neg (by simp)]
      simp only [upds_cons, upds_nil, Nat.reduceEqDiff, if_false, s5]
      exact ⟨trivial, hx7⟩
    simp only [X_lss, X_geq, condS_bool, s40, s39]
    rw [if_pos (by simp; omega)]
    by_cases hbig : 1000 ≤ i
    · rw [if_pos (by simp; omega)]
      simp only [SS, ST, upds_cons, upds_nil, Nat.reduceEqDiff, if_false, s5]
      exact ⟨trivial, hx7⟩
    rw [if_neg (by simp; omega)]
    refine joinS_of (fun σ w => ∃ (cs : List UInt8) (f : Int), Ext W w ∧ Rdr w lo q b cs f ∧ RdrR w 0 W.heap.size q bs cs f ∧ σ 11 = .bool true ∧
        σ 40 = .int .i64 (i : Nat) ∧ σ 39 = .int .i64 (ts.length : Nat) ∧ σ 0 = .slice a0 bs.length c0 ∧ σ 1 = .slice a1 ts.length c1 ∧ σ 5 = .bool true ∧ σ 7 = .pointer (some ⟨b, 0, none⟩) ∧ σ 8 = .pointer (some ⟨q, 0, none⟩)) ?_ ?_
    · rintro τ w8 ⟨cs, f, hx8, hr8, hq8, t11, t40, t39, t0, t1, t5, t7, t8⟩
      simp only [t11, t40, t0, t7, t8]
      refine ⟨Ext, Ext.frame, ?_⟩
      rw [XP_not]
      have gs : ∀ {S : World → (Value → World → Prop) → Prop} {w : World} {K : Value → World → Prop}, S w K → gstep (.bool (!true)) false S w K := fun {S w K} h => by
        rw [gstep_bool, if_pos (by decide)]
        exact h
      obtain ⟨v, a, hbq', hv, ha, hd, ho⟩ := id hq8
      have hbq8 : (drewW w8).heap[q]? = some (.cells #[v, .int .i64 (a : Nat), .int .i64 f] 57 (0, 0)) := hbq'
      have hr8d := hr8.ext (Keep.drew _ w8)
      have hq8d := hq8.ext (Keep.drew _ w8)
      refine gs (gs (gs ?_))
      refine XP_of (fun w => run_len_sl Try.underlying27 3 _ _ _ w) ?_
      refine gs (XP_of (fun w => run_field_57_1 _ _ w) ?_)
      refine gs (XR_loadL agg_3 hbq8 rfl ?_)
      refine gs (XP_of (fun w => run_sub 3 .i64 _ _ w) ?_)
      refine gs (Left_spec hr8d ?_)
      refine ⟨Ext.frame.refl _, ?_⟩
      refine gs (XP_of (fun w => run_neq 3 .i64 _ _ _ _ w) ?_)
      refine XP_of (fun w => run_pick _ _ _ w) ?_
      have hcl : cs.length = bs.length - a := by rw [← hd]; simp
      have ew : IntKind.i64.wrap ((bs.length : Int) - (a : Int)) = ((cs.length : Nat) : Int) := by rw [w64 (by omega) (by omega)]; omega
      have dn : decide (((cs.length : Nat) : Int) ≠ ((cs.length : Nat) : Int)) = false := by simp
      rw [if_neg (by decide), ew, dn]
      have gs' : ∀ {S : World → (Value → World → Prop) → Prop} {w : World} {K : Value → World → Prop}, S w K → gstep (.bool false) false S w K := fun {S w K} h => by
        rw [gstep_bool, if_pos (by decide)]
        exact h
      refine gs' (gs' (XP_of (fun w => run_field_57_2 _ _ w) ?_))
      refine gs' ?_
      refine XR_loadL agg_30 hbq8 rfl ?_
      refine gs' (Fault_spec hr8d ?_)
      refine ⟨Ext.frame.refl _, ?_⟩
      have df : decide (f ≠ f) = false := by simp
      refine gs' (XP_of (fun w => run_neq 30 .i64 _ _ _ _ w) ?_)
      refine XP_of (fun w => run_pick _ _ _ w) ?_
      rw [if_neg (by decide), df]
      refine gs' (gs' (End_spec hr8d ?_))
      refine ⟨Ext.frame.refl _, ?_⟩
      refine gs' (REnd_spec hq8d ?_)
      intro w9 hx9
      refine ⟨hx9, ?_⟩
      have de : decide (endR cs f ≠ endR cs f) = false := by simp
      simp only [de, SS, ST, if_true, Bool.false_eq_true, if_false]
      show _ ∧ _
      refine ⟨⟨i + 1, cs, f, by omega, hx8.trans ((Keep.drew _ w8).trans hx9), hr8d.ext hx9, hq8d.ext hx9, next64 (n := 1000) (by decide) (by omega), t39, t0, t1, t5, t7, t8⟩, ?_⟩
      show (_ - IntKind.i64.wrap _).toNat < (_ - ((i : Nat) : Int)).toNat
      rw [w64 (by omega) (by omega)]
      omega
    · intro J hJ
      have h1' := h1
      rw [e1] at h1'
      obtain ⟨ad, hix, hc0, hc1⟩ := Row2.at Try.underlying53 info_59 sz_59 h1' (k := .i64) i rfl (by omega)
      have hti : (ts[i]).2 ≤ 9223372036854775807 := g1 _ (List.getElem_mem _)
      have hWq : W.heap.size ≤ q := by omega
      have hWb : W.heap.size ≤ b := by omega
      have hne1 : ¬ ((ad.add 1).block = b ∨ (ad.add 1).block = q) := by
        have := World.block_lt_of_cell? W _ hc1
        omega
      have hc1d := (Keep.drew (fun _ => False) w7).cell (fun h => h) (hx7.cell (fun h => h) hc1)
      simp only [s1]
      refine X_of (hix _) ?_
      rw [fields59]
      refine X_load agg_4 (hx7.cell (fun h => h) hc0) ?_
      simp only [fB, condS_bool]
      have hr7d := hr7.ext (Keep.drew _ w7)
      have hq7d := hq7.ext (Keep.drew _ w7)
      have hbne : ¬ b = q := by omega
      by_cases htb : (ts[i]).1 = true
      · rw [if_pos htb]
        refine ⟨Keep (fun i => i = b ∨ i = q), Keep.frame _, ?_⟩
        refine XP_of hix ?_
        refine XP_of (fun w => field59_1 ad w) ?_
        refine XR_ok (Keep.frame _) (fun w' kx => run_loadAt agg_3 (kx.cell hne1 hc1d)) ?_
        refine XP_of hix ?_
        refine XP_of (fun w => field59_1 ad w) ?_
        refine XR_ok (Keep.frame _) (fun w' kx => run_loadAt agg_3 (kx.cell hne1 hc1d)) ?_
        simp only [fI, s7, s8]
        refine Text_spec hr7d hti ?_
        intro w8 hk8 hr8
        refine ⟨hk8.mono (fun i _ h => .inl h), ?_⟩
        have hq8 := hq7d.keep hk8 (fun h => hbne h.symm) (fun j h1 h2 h3 => by omega)
        refine RText_spec hq8 hti ?_
        intro w9 hk9 hq9
        refine ⟨hk9.mono (fun i _ h => .inr h), ?_⟩
        have hr9 := hr8.keep hk9 hbne (fun j h1 h2 h3 => by omega)
        simp only [XP_eq_str, decide_true]
        refine hJ _ _ ⟨_, _, Ext.seq (Ext.seq (hx7.trans (Keep.drew _ w7)) hk8 (fun j hj => by omega)) hk9 (fun j hj => by omega), hr9, hq9, rfl, s40, s39, s0, s1, s5, s7, s8⟩
      · rw [if_neg htb]
        refine ⟨Keep (fun i => i = b ∨ i = q), Keep.frame _, ?_⟩
        refine XP_of hix ?_
        refine XP_of (fun w => field59_1 ad w) ?_
        refine XR_ok (Keep.frame _) (fun w' kx => run_loadAt agg_3 (kx.cell hne1 hc1d)) ?_
        refine XP_of hix ?_
        refine XP_of (fun w => field59_1 ad w) ?_
        refine XR_ok (Keep.frame _) (fun w' kx => run_loadAt agg_3 (kx.cell hne1 hc1d)) ?_
        simp only [fI, s7, s8]
        refine Get_spec hr7d ?_
        intro w8 hk8 hr8
        refine ⟨hk8.mono (fun i _ h => .inl h), ?_⟩
        have hq8 := hq7d.keep hk8 (fun h => hbne h.symm) (fun j h1 h2 h3 => by omega)
        refine RGet_spec hq8 ?_
        intro w9 hk9 hq9
        refine ⟨hk9.mono (fun i _ h => .inr h), ?_⟩
        have hr9 := hr8.keep hk9 hbne (fun j h1 h2 h3 => by omega)
        simp only [XP_eql, decide_true]
        refine hJ _ _ ⟨_, _, Ext.seq (Ext.seq (hx7.trans (Keep.drew _ w7)) hk8 (fun j hj => by omega)) hk9 (fun j hj => by omega), hr9, hq9, rfl, s40, s39, s0, s1, s5, s7, s8⟩
theorem codecTakes_walk {H : Type} (enc : TypeId × Value → H) (W : World) (v0 v1 : Value) {base : Nat} (ok0 : Value.okWide Try.prog W .any base 27 v0) (ok1 : Value.okWide Try.prog W .any base 53 v1) (d0 : DataW H) (p0 : List MemPlace) (d1 : DataW H) (p1 : List MemPlace) (h0 : DataW.Trod enc Try.prog W 0 (fun _ => true) true 27 v0 d0 p0) (h1 : DataW.Trod enc Try.prog W 0 (fun _ => true) true 53 v1 d1 p1) (hsz : (DataW.weightsEach Try.prog [27, 53] [d0, d1]).all (· ≤ reachBytes) = true) :
    CALL Try.prog 16 #[v0, v1] W (fun v w' => v = .bool true ∧ Ext W w') := by
  obtain ⟨bs, hb⟩ := arg_bytes Try.underlying27 Try.underlying5 (by kernel_rfl) ok0 h0
  obtain ⟨ts, hr, g1⟩ := arg_takes Try.underlying53 Try.underlying59 (by kernel_rfl) rfl rfl Try.underlying4 Try.underlying3 (by kernel_rfl) (by kernel_rfl) ok1 h1
  exact codecTakes_run W hb hr g1
end
set_option maxRecDepth 100000 in
theorem codecTakes_lifted (os : Os) (started : os.Started) (H : Type) (enc : TypeId × Value → H) :
    ReturnsInHanded {} Try.checked os 16 .any (Rows.codecTakesSpec.pre6 enc Try.prog Try.f16 Rows.codecTakesRow.domain false) (Rows.codecTakesSpec.post enc Try.prog Try.f16 false true false false) := by
  refine returnsInHanded_of_change_sized (C := Try.checked) (by kernel_rfl) started (by kernel_rfl) Try.func16
    (ChangeSpec.witness6 (enc := enc) (C := Try.checked) false ⟨#[], #[(.slice none 0 0), (.slice none 0 0)], []⟩ 8 (by kernel_rfl) (by kernel_rfl) (by kernel_rfl) (by kernel_rfl)) ?_
  intro W base args ds gs before hval0 hW hcnd hsz0 _
  have hval : ∀ (j : Nat) t v, Try.f16.params[j]? = some t → args[j]? = some v → Value.okWide Try.prog W .any base t v := hval0
  have hW' := hW
  obtain ⟨p, q, hA0, hV, rfl, hfz, hnd⟩ := hW
  have hA : DataW.TrodAll enc Try.prog W 0 (fun _ => true) true Try.f16.params.toList args.toList ds p := hA0
  rw [Try.params16] at hA hval
  obtain ⟨v0, vs0, d0, ds0, p0, q0, hargs, rfl, rfl, h0, r0⟩ := trodAll_cons hA
  obtain ⟨v1, vs1, d1, ds1, p1, q1, rfl, rfl, rfl, h1, r1⟩ := trodAll_cons r0
  obtain ⟨rfl, rfl, rfl⟩ := trodAll_nil r1
  obtain rfl : args = #[v0, v1] := by cases args; simp_all
  obtain ⟨rfl, rfl⟩ := trodVars_none hV
  have hsz : (DataW.weightsEach Try.prog [27, 53] [d0, d1]).all (· ≤ reachBytes) = true := hsz0
  have hw := codecTakes_walk enc W v0 v1 (hval 0 27 v0 rfl rfl) (hval 1 53 v1 rfl rfl) d0 p0 d1 p1 h0 h1 hsz
  refine (CALL_calls hw).mono fun e W' he => ?_
  cases e with
  | returned v =>
    obtain ⟨rfl, hx⟩ := he
    exact ⟨_, rfl, law_post (P := Try.prog) laidOut (by kernel_rfl) rfl rfl rfl Try.underlying4 hW' hx⟩
  | panicked c => exact he.elim
  | outgrown => exact he.elim

theorem codecTakes_closed : joinedFacts Try.prog 16 Try.f16 Rows.codecTakesSpec Rows.codecTakesRow = true := by
  unfold joinedFacts
  rw [mayEnter_is, liftsFinal_is, make_is]
  kernel_rfl
/-- For every input that the row lets in, cellarage/cellaragelaw01.CodecTakes returns true, and what was there stays as it was. -/
theorem codecTakes_holds : Rows.CodecTakesSaid :=
  OpenClaim.holds_of_wide 16 Try.f16 rfl rfl rfl rfl rfl rfl rfl ⟨rfl, rfl, rfl, rfl, rfl⟩ rfl rfl rfl rfl rfl (by kernel_rfl) Try.func16 codecTakes_closed
    (of_decide_eq_true (by kernel_rfl)) (by unfold Func.isWrapper; first | (rw [if_pos (by decide +kernel)]; kernel_rfl) | (rw [if_neg (by decide +kernel)]; exact ⟨rfl, rfl⟩))
    (fun os started H enc _ => codecTakes_lifted os started H enc)
#print axioms codecTakes_holds
end Go.Proofs.Ytggggfcgnkllgaa
