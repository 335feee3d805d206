/- Part 6 of what the law is proved with: Cach1 Cach2 Sh2 T35 Cach3 T33. -/
import Derived.Lib.SliceRun
import Derived.Test.YtlnkdphecinnnaaQPC5
section
/- Words of caches: maps that lose an entry, rows of numbers, what is taken out of them. -/
set_option linter.unusedVariables false
set_option linter.unusedSimpArgs false
namespace Go.Sh
open Go Go.RowKit
theorem setRow_eq {w : World} {g : Nat} {cur cs : Array Value} {T : TypeId} (hg : w.heap[g]? = some (.cells cur T (0, 0))) : w.setRow g cs = setAt w g cs T (0, 0) := by
  unfold World.setRow setAt
  congr 1
  apply Array.ext_getElem?
  intro i
  have hl := lt_of_blk hg
  by_cases hi : i = g
  · subst hi
    rw [Array.getElem?_modify, if_pos rfl, hg]
    simp [hl]
  · rw [Array.getElem?_setIfInBounds_ne (Ne.symm hi), Array.getElem?_modify]
    simp [Ne.symm hi]
section
variable {P : Program} {t k e : TypeId} {w : World} {mb : Nat} {l : List (Value × Value)}
/-- A key that is there is taken out of a map. -/
theorem X_delete {ty : TypeId} (K : Maps.Keyed P k) (ht : P.underlying t = some (.map k e)) (hm : MapAt w mb l) (hl : ∀ p ∈ l, ∃ x, keyOf P k p.1 = some x) {key : Value} {kl : Lit} (hkey : keyOf P k key = some kl) (hin : ∃ p ∈ l, p.1 = key) {Q : Value → World → Prop}
    (h : ∀ w1 j p, l[j]? = some p → p.1 = key → MapAt w1 mb (l.eraseIdx j) → Keep (· = mb) w w1 → Q (.tuple #[]) w1) : X P (Builtin.delete_ #[t, k] ty #[.map (some mb), key]) w Q := by
  obtain ⟨es, clock, hb, rfl⟩ := hm
  have hes : ∀ x ∈ es.toList, ∃ y, keyOf P k x.key = some y := fun x hx => hl (x.key, x.val) (List.mem_map.2 ⟨x, hx, rfl⟩)
  rcases K.find w hkey es.toList hes with ⟨h1, h2⟩ | ⟨j, e0, h1, h2, h3⟩
  · obtain ⟨p, hp, hpk⟩ := hin
    obtain ⟨x, hx, rfl⟩ := List.mem_map.1 hp
    exact absurd hpk (h2 x hx)
  · have hr : (Builtin.delete_ #[t, k] ty #[.map (some mb), key]).run P w = .ok (.tuple #[]) { w with heap := w.heap.setIfInBounds mb (.map (es.eraseIdxIfInBounds j) clock) } := by
      simp [Builtin.delete_, run_underlying ht, MapKept.run_getObj_map hb, K.check w _ hkey, h1, MapKept.run_setObj_map _ hb, Result.andThen]
    refine X_of hr (h _ j (e0.key, e0.val) ?_ h3 ⟨es.eraseIdxIfInBounds j, clock, ?_, ?_⟩ ⟨rfl, rfl, rfl, ?_, ?_⟩)
    · rw [List.getElem?_map, h2]; rfl
    · show (w.heap.setIfInBounds mb _)[mb]? = _
      have hlt := lt_of_blk hb
      simp [hlt]
    · have e1 : (es.eraseIdxIfInBounds j).toList = es.toList.eraseIdx j := by
        have hj : j < es.size := by
          have := (List.getElem?_eq_some_iff.1 h2).1
          simpa using this
        rw [Array.eraseIdxIfInBounds, dif_pos hj]
        simp
      rw [e1, List.eraseIdx_eq_take_drop_succ, List.eraseIdx_eq_take_drop_succ, List.map_append, List.map_take, List.map_drop]
    · show _ ≤ (w.heap.setIfInBounds mb _).size
      simp
    · intro i _ hi
      show (w.heap.setIfInBounds mb _)[i]? = _
      rw [Array.getElem?_setIfInBounds_ne (Ne.symm hi)]
end
end Go.Sh
namespace Go.Proofs.Ytlnkdphecinnnaa
open Go Go.Sh Go.RowKit
attribute [local irreducible] X XU XP XR CALL loopS resC closS
abbrev intC (n : Int) : List Value := [.int .i64 n]
theorem intC_len : ∀ n : Int, (intC n).length = 1 := fun _ => rfl
def I64 (n : Int) : Prop := -9223372036854775808 ≤ n ∧ n ≤ 9223372036854775807
theorem int_atK (kd : IntKind) {w : World} {v : Value} {l : List Int} {i : Nat} (hl : RowK 1 intC w v l) (hi : i < l.length) :
    ∃ a, (∀ w', (Instr.indexAt 35 v (.int kd (i : Int))).run Try.prog w' = .ok (.pointer (some a)) w') ∧ w.cell? a = some (.int .i64 l[i]) ∧ v.ownBlock = some a.block := by
  have hl0 := hl
  obtain ⟨ad, hix, hcs⟩ := hl.at Try.underlying35 info_3 sz_3 (kd := kd) (ii := (i : Int)) i rfl hi
  have h0 := hcs 0 _ rfl
  have e : ad.add 0 = ad := by simp [Addr.add]
  rw [e] at h0
  refine ⟨ad, hix, h0, ?_⟩
  obtain ⟨a, c, rfl, h3, h4, h5⟩ := hl0
  obtain ⟨ad', rfl, hc⟩ := h5 (by omega)
  have := ix Try.underlying35 info_3 (a := ad') (n := l.length) (c := c) (k := kd) (ii := (i : Int)) i rfl hi w
  have h := (hix w).symm.trans this
  simp only [Result.ok.injEq, Value.pointer.injEq, Option.some.injEq, and_true] at h
  rw [h]
  show some ad'.block = some (ad'.add _).block
  rw [add_block]
theorem int_at {w : World} {v : Value} {l : List Int} {i : Nat} (hl : RowK 1 intC w v l) (hi : i < l.length) :
    ∃ a, (∀ w', (Instr.indexAt 35 v (.int .i64 (i : Int))).run Try.prog w' = .ok (.pointer (some a)) w') ∧ w.cell? a = some (.int .i64 l[i]) ∧ v.ownBlock = some a.block := int_atK .i64 hl hi
theorem wf_i64 {n : Int} (h : I64 n) : (Lit.int .i64 n).wf = true := by
  unfold I64 at h
  simp [Lit.wf, IntKind.min, IntKind.max, IntKind.signed, IntKind.bits]
  omega
theorem keyed3 : Maps.Keyed Try.prog 3 := Maps.int_keyed Try.underlying3
theorem keyOf_i64 {n : Int} (h : I64 n) : keyOf Try.prog 3 (.int .i64 n) = some (.int .i64 n) := Maps.keyOf_int_mk Try.underlying3 (wf_i64 h)
theorem emp35 (w : World) : (Instr.buildSlice 35 0 #[]).run Try.prog w = .ok (.slice (some ⟨w.heap.size, 0, none⟩) 0 0) (newB w #[] 3) := by kernel_rfl
section
variable {w : World} {K : Value → World → Prop}
/-- Where a number stands. -/
theorem Index_spec {v : Value} {l : List Int} {s : Int} (hl : RowK 1 intC w v l) (hn : l.length ≤ 1000000) (hs : s ∈ l) (hK : ∀ i (h : i < l.length), l[i] = s → K (.int .i64 (i : Int)) w) : CALL Try.prog 46 #[v, .int .i64 s] w K := by
  obtain ⟨a, c, ev⟩ := hl.slice
  apply call_slices_Index_int
  unfold B_slices_Index_int
  rw [ev, X_len_35, ← ev]
  refine loopGR 0 (fun ρ wr => ∃ i : Nat, i ≤ l.length ∧ wr = w ∧ (∀ j (h : j < l.length), j < i → l[j] ≠ s) ∧ ρ 8 = .int .i64 (i : Int) ∧ ρ 7 = .int .i64 (l.length : Int) ∧ ρ 0 = v ∧ ρ 1 = .int .i64 s)
    (fun ρ wr => match ρ 8 with | .int _ s => (l.length - s).toNat | _ => 0)
    (fun ρ wr => False) (fun ρ wr => wr = w ∧ ∃ i, ∃ h : i < l.length, l[i] = s ∧ ρ 4 = .int .i64 (i : Int)) ?_ ?_ ?_ ?_
  · exact ⟨0, by omega, rfl, fun j h h' => by omega, rfl, rfl, rfl, rfl⟩
  · rintro J hJ hJR ρ wr ⟨i, hi, rfl, hno, r8, r7, r0, r1⟩
    rw [r8, r7, r0, r1, X_lss, condS_bool]
    by_cases hie : i = l.length
    · obtain ⟨j, hj, hjs⟩ := List.mem_iff_getElem.1 hs
      exact absurd hjs (hno j hj (by omega))
    rw [if_pos (by simp; omega)]
    have hlt : i < l.length := by omega
    obtain ⟨g, hix, hc, _⟩ := int_at hl hlt
    refine X_of (hix _) ?_
    refine X_of (run_loadAt agg_3 hc) ?_
    rw [X_eql, condS_bool]
    by_cases he : s = l[i]
    · rw [if_pos (by simpa using he)]
      exact hJR _ _ ⟨rfl, i, hlt, he.symm, rfl⟩
    · rw [if_neg (by simpa using he), X_add]
      show _ ∧ _
      refine ⟨⟨i + 1, by omega, rfl, fun j h h' => ?_, next64 (n := 1000000) (by decide) (by omega), r7, r0, r1⟩, ?_⟩
      · by_cases hj : j = i
        · subst hj; exact fun h2 => he h2.symm
        · exact hno j h (by omega)
      · show (_ - IntKind.i64.wrap _).toNat < _
        rw [w64 (by omega) (by omega)]
        first | omega | (show _ < (_ : Int).toNat; omega)
  · intro ρ wr h
    exact h.elim
  · rintro ρ wr ⟨rfl, i, hi, h1, r4⟩
    show K (ρ 4) _
    rw [r4]
    exact hK i hi h1
theorem run_slice3 {T e : TypeId} {P : Program} (hT : P.underlying T = some (.slice e)) (hi : infoB P e = true) (a : Option Addr) (n c : Nat) (lo hi' mx : Nat) (h1 : lo ≤ hi') (h2 : hi' ≤ mx) (h3 : mx ≤ c) (w : World) :
    ∃ u, (Instr.sliceAt T (.slice a n c) (some (.int .i64 lo)) (some (.int .i64 hi')) (some (.int .i64 mx))).run P w = .ok u w := by
  refine ⟨.slice (if mx = lo then a else a.map (·.add (lo * szT P e))) (hi' - lo) (mx - lo), ?_⟩
  simp [Instr.sliceAt, Instr.slice, run_underlying hT, Instr.sliceBounds, Instr.sliceBound, asIntOf, sizeOf_run hi, h1, h2, h3]
theorem cellsK_int (l : List Int) : cellsK intC l = l.map (fun n => Value.int .i64 n) := by
  unfold cellsK
  induction l with
  | nil => rfl
  | cons a l ih => simp [ih]
/-- One number is taken out of a row of the call's own. -/
theorem Delete_spec {base : Nat} {v : Value} {l : List Int} {i : Nat} (ho : OwnK 1 3 intC w base v l) (hi : i < l.length) (hn : l.length ≤ 1000000)
    (hK : ∀ v' w1, OwnK 1 3 intC w1 base v' (l.take i ++ l.drop (i + 1)) → v'.ownBlock = v.ownBlock → Keep (fun g => v.ownBlock = some g) w w1 → K v' w1) : CALL Try.prog 47 #[v, .int .i64 (i : Int), .int .i64 ((i + 1 : Nat) : Int)] w K := by
  rcases id ho.2 with ⟨_, h0⟩ | ⟨g, cap, cur, hv, hg, hh, hnc, hm, hs, ht⟩
  · omega
  rw [Nat.mul_one] at ht hs
  subst hv
  simp only [maxLen] at hm
  apply call_slices_Delete_int
  unfold B_slices_Delete_int
  rw [X_len_35]
  obtain ⟨u3, hu3⟩ := run_slice3 (P := Try.prog) Try.underlying35 info_3 (some ⟨g, 0, none⟩) l.length cap i (i + 1) l.length (by omega) (by omega) hnc w
  refine X_of hu3 ?_
  have c : decide ((i : Int) = ((i + 1 : Nat) : Int)) = false := decide_eq_false (by omega)
  (repeat (simp only [XP_extract0, XP_extract1, XP_extract2, XP_extract3, X_extract0, X_extract1, X_extract2, X_extract3, X_nilS, X_eql_nil_24, X_neq_nil_24, X_eql_nil_103, X_neq_nil_103, X_eql, X_neq, X_lss, X_leq, X_gtr, X_geq, X_not, X_min, X_max, X_len_79, X_len_35, XP_nilS, XP_eql, XP_neq, XP_lss, XP_leq, XP_gtr, XP_geq, XP_not, XP_min, XP_max, XP_len_79, XP_eql_nil_24, X_str_eql, X_str_neq, XP_str_eql, XP_str_neq, GS, gs_u, decide_true, decide_false, Option.isNone_some, Option.isSome_some, Option.isNone_none, Option.isSome_none, eq_self, Bool.not_true, Bool.not_false, Int.reduceEq, Int.reduceNe, Int.reduceLT, Int.reduceLE, Int.reduceGT, Int.reduceGE, c]))
  have kd := Keep.drew (fun _ => False) w
  have hhd : (drewW w).heap[g]? = some (.cells cur 3 (0, 0)) := hh
  refine ⟨Ext, Ext.frame, ?_⟩
  generalize drewW w = wd at kd hhd ⊢
  refine XP_of (fun w' => sl_hi Try.underlying35 info_3 i rfl (by omega) w') ?_
  refine XP_of (fun w' => sl_lo Try.underlying35 info_3 (i + 1) rfl (by omega) w') ?_
  have hcl : (cellsK intC l) = l.map (fun n => Value.int .i64 n) := cellsK_int l
  rw [hcl] at ht
  have hget : ∀ j (h : j < l.length), cur[j]? = some (.int .i64 l[j]) := by
    intro j h
    have := congrArg (fun x => x[j]?) ht
    simp only [List.getElem?_take, if_pos h, List.getElem?_map, List.getElem?_eq_getElem h, Option.map_some] at this
    simpa using this
  have hnews : ∀ j u, ((l.drop (i + 1)).map (fun n => Value.int .i64 n))[j]? = some u → wd.cell? ((if cap = i + 1 then (⟨g, 0, none⟩ : Addr) else (⟨g, 0, none⟩ : Addr).add ((i + 1) * szT Try.prog 3)).add j) = some u := by
    intro j u hu
    rw [List.getElem?_map, List.getElem?_drop] at hu
    obtain ⟨x, hx, rfl⟩ := Option.map_eq_some_iff.1 hu
    have hlt := (List.getElem?_eq_some_iff.1 hx).1
    rw [if_neg (by omega), sz_3, Nat.mul_one, add_plain, add_plain, cell_blk hhd, Nat.zero_add, hget _ hlt]
    exact congrArg (fun y => some (Value.int .i64 y)) (List.getElem?_eq_some_iff.1 hx).2
  obtain ⟨ti, hti, htsz⟩ : ∃ ti, Try.prog.info? 3 = some ti ∧ ti.size = 1 := by
    have h1 := info_3
    have h2 := sz_3
    unfold infoB at h1
    unfold szT at h2
    cases hx : Try.prog.info? 3 with
    | none => rw [hx] at h1; cases h1
    | some ti => rw [hx] at h2; exact ⟨ti, rfl, h2⟩
  have ev : (if cap = i + 1 then some (⟨g, 0, none⟩ : Addr) else (some (⟨g, 0, none⟩ : Addr)).map (·.add ((i + 1) * szT Try.prog 3))) = some (if cap = i + 1 then (⟨g, 0, none⟩ : Addr) else (⟨g, 0, none⟩ : Addr).add ((i + 1) * szT Try.prog 3)) := by
    split <;> rfl
  rw [ev]
  have hl2 : ((l.drop (i + 1)).map (fun n => Value.int .i64 n)).length = l.length - (i + 1) := by simp
  have hr := run_append_room (P := Try.prog) wd 35 35 3 ti Try.underlying35 hti g i cap cur hhd _ (l.length - (i + 1)) (cap - (i + 1)) _ (by rw [hl2, htsz, Nat.mul_one]) hnews (by intro u hu; obtain ⟨x, _, rfl⟩ := List.mem_map.1 hu; rfl) (by omega) (by rw [htsz, hl2]; omega)
  rw [htsz, Nat.mul_one, hl2, setRow_eq hhd] at hr
  refine X_of hr ?_
  have hk2 := setAt_keep wd g (cur.toList.take i ++ (l.drop (i + 1)).map (fun n => Value.int .i64 n) ++ cur.toList.drop (i + (l.length - (i + 1)))).toArray 3 (0, 0)
  have hg2 : (setAt wd g (cur.toList.take i ++ (l.drop (i + 1)).map (fun n => Value.int .i64 n) ++ cur.toList.drop (i + (l.length - (i + 1)))).toArray 3 (0, 0)).heap[g]? = some (.cells (cur.toList.take i ++ (l.drop (i + 1)).map (fun n => Value.int .i64 n) ++ cur.toList.drop (i + (l.length - (i + 1)))).toArray 3 (0, 0)) := setAt_same (lt_of_blk hhd)
  have hcs : (cur.toList.take i ++ (l.drop (i + 1)).map (fun n => Value.int .i64 n) ++ cur.toList.drop (i + (l.length - (i + 1)))).length = cap := by
    simp only [List.length_append, List.length_take, List.length_drop, List.length_map, Array.length_toList]
    omega
  have htk : (cur.toList.take i ++ (l.drop (i + 1)).map (fun n => Value.int .i64 n) ++ cur.toList.drop (i + (l.length - (i + 1)))).take (l.length - 1) = (l.take i ++ l.drop (i + 1)).map (fun n => Value.int .i64 n) := by
    have e1 : cur.toList.take i = (l.take i).map (fun n => Value.int .i64 n) := by
      have : cur.toList.take i = (cur.toList.take l.length).take i := by rw [List.take_take, Nat.min_eq_left (by omega)]
      rw [this, ht, List.map_take]
    rw [e1, ← List.map_append]
    refine List.take_left' ?_
    simp
    omega
  generalize (cur.toList.take i ++ (l.drop (i + 1)).map (fun n => Value.int .i64 n) ++ cur.toList.drop (i + (l.length - (i + 1)))) = cs2 at hk2 hg2 hcs htk ⊢
  generalize setAt wd g cs2.toArray 3 (0, 0) = w2 at hk2 hg2 ⊢
  have hlen2 : i + (l.length - (i + 1)) = l.length - 1 := by omega
  rw [hlen2, X_len_35]
  refine X_of (sl_both Try.underlying35 info_3 (l.length - 1) l.length rfl rfl (by omega) hnc _) ?_
  have hone : l.length - (l.length - 1) = 1 := by omega
  rw [if_neg (by omega), sz_3, Nat.mul_one, hone]
  have hclr := Go.Lib.run_clear_slice (P := Try.prog) w2 35 3 0 (.int .i64 0) Try.underlying35 (fun w => zeroValue_run zero_3 w) rfl rfl g (l.length - 1) 1 (cap - (l.length - 1)) (by decide)
    (fun j hj => by
      have hj0 : j = 0 := by omega
      subst hj0
      rw [cell_blk hg2, Nat.add_zero, Array.getElem?_eq_getElem (by simp; omega)]
      rfl) (fun j hj => frozen_no hg2)
  have e3 : (some (⟨g, 0, none⟩ : Addr)).map (·.add (l.length - 1)) = some ⟨g, l.length - 1, none⟩ := by
    rw [Option.map_some, add_plain, Nat.zero_add]
  rw [e3]
  refine X_of hclr ?_
  have e4 : w2.setCells g (l.length - 1) (List.replicate 1 (.int .i64 0)) = setAt w2 g (cs2.toArray.setIfInBounds (l.length - 1) (.int .i64 0)) 3 (0, 0) := by
    show w2.setCell ⟨g, l.length - 1, none⟩ (.int .i64 0) = _
    exact setCell_setAt hg2
  rw [e4]
  have hk3 := setAt_keep w2 g (cs2.toArray.setIfInBounds (l.length - 1) (.int .i64 0)) 3 (0, 0)
  have hg3 : (setAt w2 g (cs2.toArray.setIfInBounds (l.length - 1) (.int .i64 0)) 3 (0, 0)).heap[g]? = some (.cells (cs2.toArray.setIfInBounds (l.length - 1) (.int .i64 0)) 3 (0, 0)) := setAt_same (lt_of_blk hg2)
  generalize setAt w2 g (cs2.toArray.setIfInBounds (l.length - 1) (.int .i64 0)) 3 (0, 0) = w3 at hk3 hg3 ⊢
  have hll : (l.take i ++ l.drop (i + 1)).length = l.length - 1 := by simp; omega
  refine hK _ _ ?_ rfl ?_
  · unfold OwnK
    rw [hll]
    refine ⟨by rw [cellsK_len intC_len, hll], .inr ⟨g, cap, _, rfl, hg, hg3, by omega, by simp only [maxLen]; omega, by simp [hcs], ?_⟩⟩
    rw [cellsK_int, ← htk, Nat.mul_one, Array.toList_setIfInBounds, List.take_set_of_le (by omega)]
  · have := Keep.trans (Keep.trans (Keep.ext (D := (· = g)) kd) hk2) hk3
    exact this.mono (fun q _ hq => by rw [hq]; rfl)
/-- A row's numbers, again. -/
theorem Clone_spec {v : Value} {l : List Int} (hl : RowK 1 intC w v l) (hn : l.length ≤ 1000000) (hK : ∀ u w1, Ext w w1 → OwnK 1 3 intC w1 w.heap.size u l → K u w1) : CALL Try.prog 48 #[v] w K := by
  apply call_slices_Clone_int
  unfold B_slices_Clone_int
  obtain ⟨a, c, ev⟩ := hl.slice
  have he : (binOpG .eql 35 (.tmp 3) (.const (.slice none 0 0)) v (.slice none 0 0)).run Try.prog w = .ok (.bool a.isNone) w := by
    rw [ev]
    have := Go.Lib.run_eql_slice_nil (P := Try.prog) w 35 3 a l.length c 0 0 Try.underlying35
    simp only [binOpG, eqGuard_at_slice, pure_bind]
    exact this
  refine X_of he ?_
  cases a with
  | none =>
    rw [condS_bool, Option.isNone_none, if_pos rfl]
    have hl0 : l = [] := by
      obtain ⟨a', c', e', h1, h2, h3⟩ := hl
      refine List.eq_nil_of_length_eq_zero ?_
      by_cases h0 : 0 < l.length
      · obtain ⟨ad, ha, _⟩ := h3 h0
        rw [ev] at e'
        injection e' with e1 _ _
        rw [ha] at e1
        cases e1
      · omega
    subst hl0
    exact hK _ w (Keep.refl _ _) (ownK_nil _ _)
  | some ad =>
    rw [condS_bool, if_neg (by simp)]
    refine X_of (emp35 w) ?_
    have hx1 := newB_ext w #[] 3
    have ho1 : OwnK 1 3 intC (newB w #[] 3) w.heap.size (.slice (some ⟨w.heap.size, 0, none⟩) 0 0) [] := ownK_empty w
    generalize newB w #[] 3 = w1 at hx1 ho1 ⊢
    refine X_appendK Try.underlying35 el_3 (by decide) intC_len (fun x hx q hq => by rw [List.mem_singleton.1 hq]; rfl) ho1 (hl.ext hx1) (by simp; omega) (by decide) hx1.size ?_
    intro v' w2 ho2 hk2
    exact hK v' w2 (Ext.seq hx1 hk2 (fun g hg => (ho1.lt g hg.symm).1)) ho2
/-- Are two rows of numbers the same? -/
theorem SameI_spec {va vb : Value} {l m : List Int} (ha : RowK 1 intC w va l) (hb : RowK 1 intC w vb m) (hn : l.length ≤ 1000000000) (hK : ∀ w1, Ext w w1 → K (.bool (decide (l = m))) w1) : CALL Try.prog 22 #[va, vb] w K := by
  obtain ⟨aa, ca, ea⟩ := ha.slice
  obtain ⟨ab, cb, eb⟩ := hb.slice
  apply call_ref09_SameInts
  unfold B_ref09_SameInts
  rw [ea, eb, X_len_35, X_len_35, X_neq, condS_bool, ← ea, ← eb]
  by_cases hlen : l.length = m.length
  case neg =>
    rw [if_pos (decide_eq_true (by omega))]
    have := hK w (Keep.refl _ _)
    rw [decide_eq_false (fun h => hlen (by rw [h]))] at this
    exact this
  rw [if_neg (by simp; omega)]
  refine loopGR 0 (fun ρ wr => ∃ i : Nat, i ≤ l.length ∧ Ext w wr ∧ l.take i = m.take i ∧ ρ 5 = .int .i64 (i : Int) ∧ ρ 0 = va ∧ ρ 1 = vb)
    (fun ρ wr => match ρ 5 with | .int _ s => (l.length - s).toNat | _ => 0)
    (fun ρ wr => Ext w wr ∧ l = m) (fun ρ wr => Ext w wr ∧ l ≠ m ∧ ρ 4 = .bool false) ?_ ?_ ?_ ?_
  · exact ⟨0, by omega, Keep.refl _ _, by simp, rfl, rfl, rfl⟩
  · rintro J hJ hJR ρ wr ⟨i, hi, hx, htk, r5, r0, r1⟩
    rw [r0, r5, ea, X_len_35, X_lss, condS_bool, ← ea]
    by_cases hie : i = l.length
    · rw [if_neg (by simp; omega)]
      refine hJ _ _ ⟨hx, ?_⟩
      rw [List.take_of_length_le (by omega), List.take_of_length_le (by omega)] at htk
      exact htk
    rw [if_pos (by simp; omega), r1]
    have hlt : i < l.length := by omega
    have hlt2 : i < m.length := by omega
    have hxd := hx.trans (Keep.drew (fun _ => False) wr)
    obtain ⟨g, hix, hc, _⟩ := int_at (ha.ext hxd) hlt
    obtain ⟨g2, hix2, hc2, _⟩ := int_at (hb.ext hxd) hlt2
    refine ⟨Ext, Ext.frame, ?_⟩
    generalize drewW wr = wd at hxd hc hc2 ⊢
    refine XP_of hix ?_
    refine XR_ok Ext.frame (fun w' kk => run_loadAt agg_3 (kk.cell (fun h => h) hc)) ?_
    refine XP_of hix2 ?_
    refine XR_ok Ext.frame (fun w' kk => run_loadAt agg_3 (kk.cell (fun h => h) hc2)) ?_
    rw [XP_neq, condS_bool]
    by_cases he : l[i] = m[i]
    · rw [if_neg (by simpa using he), X_add]
      show _ ∧ _
      refine ⟨⟨i + 1, by omega, hxd, ?_, next64 (n := 1000000000) (by decide) (by omega), r0, r1⟩, ?_⟩
      · rw [List.take_succ_eq_append_getElem hlt, List.take_succ_eq_append_getElem hlt2, htk, he]
      · show (_ - IntKind.i64.wrap _).toNat < _
        rw [w64 (by omega) (by omega)]
        first | omega | (show _ < (_ : Int).toNat; omega)
    · rw [if_pos (by simpa using he)]
      refine hJR _ _ ⟨hxd, fun h => he ?_, rfl⟩
      subst h
      rfl
  · rintro ρ wr ⟨hx, h⟩
    show K (.bool true) wr
    have := hK wr hx
    rw [decide_eq_true h] at this
    exact this
  · rintro ρ wr ⟨hx, h, r4⟩
    show K (ρ 4) wr
    rw [r4]
    have := hK wr hx
    rw [decide_eq_false h] at this
    exact this
end
end Go.Proofs.Ytlnkdphecinnnaa
end
section
/- A cache in memory; New, Has, Drop, Shelves. -/
set_option linter.unusedVariables false
set_option linter.unusedSimpArgs false
namespace Go.Proofs.Ytlnkdphecinnnaa
open Go Go.Sh Go.RowKit
attribute [local irreducible] X XU XP XR CALL loopS resC closS
abbrev Pl := Int × Int
abbrev plV (p : Pl) : Value := .agg #[.int .i64 p.1, .int .i64 p.2]
/-- A row of a table: the first row of a chunk counts. -/
def addR (es : List (Ky × Pl)) (r : Ex) : List (Ky × Pl) := if r.k ∈ es.map Prod.fst then es else es ++ [(r.k, (r.off, r.len))]
def tabR (rows : List Ex) : List (Ky × Pl) := rows.foldl addR []
theorem tabR_succ (rows : List Ex) (i : Nat) (h : i < rows.length) : tabR (rows.take (i + 1)) = addR (tabR (rows.take i)) rows[i] := by
  rw [List.take_succ_eq_append_getElem h]
  unfold tabR
  rw [List.foldl_append]
  rfl
abbrev entV (e : Ky × Pl) : Value × Value := (e.1.v, plV e.2)
abbrev Tbl := List (Int × List Ex)
abbrev shs (T : Tbl) : List Int := T.map Prod.fst
abbrev tbV (p : Int × Nat) : Value × Value := (.int .i64 p.1, .map (some p.2))
theorem own_neM' {w : World} {base e size n mb : Nat} {v : Value} {xs : List Value} {ms : List (Value × Value)} (ho : w.ownsRow base e size v n xs) (hm : MapAt w mb ms) : v.ownBlock ≠ some mb := by
  intro h
  rcases ho.2 with ⟨rfl, _⟩ | ⟨g, cap, cur, rfl, _, hg, _⟩
  · cases h
  · have : g = mb := by simpa [Value.ownBlock] using h
    subst this
    obtain ⟨es, c, h1, _⟩ := hm
    rw [hg] at h1
    cases h1
structure CacheAt (w : World) (D : Nat → Prop) (cb : Nat) (room : Nat) (T : Tbl) : Prop where
  ex : ∃ (vo : Value) (mb : Nat) (tb : List (Int × Nat)), w.heap[cb]? = some (.cells #[.int .i64 (room : Int), vo, .map (some mb)] 87 (0, 0)) ∧ OwnK 1 3 intC w 0 vo (shs T) ∧ MapAt w mb (tb.map tbV) ∧ (tb.map Prod.fst).Nodup ∧ (∀ s, s ∈ tb.map Prod.fst ↔ s ∈ shs T) ∧
    (∀ p ∈ tb, ∀ rows, (p.1, rows) ∈ T → MapAt w p.2 ((tabR rows).map entV)) ∧ (∀ p ∈ tb, p.2 ≠ mb ∧ D p.2) ∧ D cb ∧ D mb ∧ (∀ g, vo.ownBlock = some g → D g)
  lt : ∀ g, D g → g < w.heap.size
  nodup : (shs T).Nodup
  i64 : ∀ s ∈ shs T, I64 s
  small : room ≤ 4096
  fits : T.length ≤ room
theorem CacheAt.keep {w w1 : World} {D E : Nat → Prop} {cb room : Nat} {T : Tbl} (h : CacheAt w D cb room T) (k : Keep E w w1) (hd : ∀ g, D g → ¬ E g) : CacheAt w1 D cb room T := by
  obtain ⟨⟨vo, mb, tb, h1, h2, h3, h4, h5, h6, h7, h8, h9, h10⟩, hlt, hnd, hi, hs, hf⟩ := h
  exact ⟨⟨vo, mb, tb, k.get (hd _ h8) h1, h2.keep k (fun g hg => hd g (h10 g hg)), h3.keep k (hd _ h9), h4, h5, fun p hp rows hr => (h6 p hp rows hr).keep k (hd _ (h7 p hp).2), h7, h8, h9, h10⟩, fun g hg => Nat.lt_of_lt_of_le (hlt g hg) k.size, hnd, hi, hs, hf⟩
theorem CacheAt.ext {w w1 : World} {D : Nat → Prop} {cb room : Nat} {T : Tbl} (h : CacheAt w D cb room T) (k : Ext w w1) : CacheAt w1 D cb room T := h.keep k (fun _ _ h => h)
theorem run_build_87 (n : Int) (m : Nat) (w : World) : (Instr.build 87 #[(0, .int .i64 n), (2, .map (some m))]).run Try.prog w = .ok (.agg #[.int .i64 n, .slice none 0 0, .map (some m)]) w := by kernel_rfl
theorem tb_keys (tb : List (Int × Nat)) (h : ∀ s ∈ tb.map Prod.fst, I64 s) : ∀ p ∈ tb.map tbV, ∃ x, keyOf Try.prog 3 p.1 = some x := by
  intro p hp
  obtain ⟨q, hq, rfl⟩ := List.mem_map.1 hp
  exact ⟨_, keyOf_i64 (h q.1 (List.mem_map.2 ⟨q, hq, rfl⟩))⟩
theorem nodup_of_map {α β : Type} {f : α → β} : ∀ {l : List α}, (l.map f).Nodup → l.Nodup := by
  intro l
  induction l with
  | nil => intro _; exact List.nodup_nil
  | cons a l ih =>
    intro h
    rw [List.map_cons, List.nodup_cons] at h
    rw [List.nodup_cons]
    exact ⟨fun ha => h.1 (List.mem_map.2 ⟨a, ha, rfl⟩), ih h.2⟩
theorem fst_inj {α β : Type} {f : α → β} : ∀ {l : List α}, (l.map f).Nodup → ∀ {a b : α}, a ∈ l → b ∈ l → f a = f b → a = b := by
  intro l
  induction l with
  | nil => intro _ a b ha; cases ha
  | cons c l ih =>
    intro h a b ha hb hab
    rw [List.map_cons, List.nodup_cons] at h
    rcases List.mem_cons.1 ha with ha' | ha' <;> rcases List.mem_cons.1 hb with hb' | hb'
    · rw [ha', hb']
    · exact (h.1 (List.mem_map.2 ⟨b, hb', by rw [← hab, ha']⟩)).elim
    · exact (h.1 (List.mem_map.2 ⟨a, ha', by rw [hab, hb']⟩)).elim
    · exact ih h.2 ha' hb' hab
def dropT (T : Tbl) (s : Int) : Tbl := T.filter fun p => decide (p.1 ≠ s)
theorem drop_at {α : Type} (f : α → Int) : ∀ (l : List α) (i : Nat) (h : i < l.length), (l.map f).Nodup → l.take i ++ l.drop (i + 1) = l.filter fun p => decide (f p ≠ f l[i]) := by
  intro l
  induction l with
  | nil => intro i h; simp at h
  | cons a l ih =>
    intro i h hn
    rw [List.map_cons, List.nodup_cons] at hn
    cases i with
    | zero =>
      simp only [List.take_zero, List.nil_append, Nat.zero_add, List.drop_succ_cons, List.drop_zero, List.getElem_cons_zero]
      rw [List.filter_cons, if_neg (by simp)]
      refine (List.filter_eq_self.2 ?_).symm
      intro p hp
      simp only [decide_not, Bool.not_eq_true', decide_eq_false_iff_not]
      intro he
      exact hn.1 (by rw [← he]; exact List.mem_map.2 ⟨p, hp, rfl⟩)
    | succ i =>
      simp only [List.take_succ_cons, List.cons_append, List.drop_succ_cons, List.getElem_cons_succ]
      have hi : i < l.length := by simpa using h
      have hne : f a ≠ f l[i] := fun he => hn.1 (by rw [he]; exact List.mem_map.2 ⟨_, List.getElem_mem hi, rfl⟩)
      rw [List.filter_cons, if_pos (decide_eq_true hne), ih i hi hn.2]
theorem mem_erase {α : Type} {l : List α} (hn : l.Nodup) {j : Nat} (hj : j < l.length) (x : α) : x ∈ l.eraseIdx j ↔ x ∈ l ∧ x ≠ l[j] := by
  rw [List.eraseIdx_eq_take_drop_succ]
  have hs : l = l.take j ++ l[j] :: l.drop (j + 1) := by rw [← List.drop_eq_getElem_cons hj, List.take_append_drop]
  have hn' := hn
  rw [hs] at hn'
  rw [List.nodup_append] at hn'
  obtain ⟨n1, n2, n3⟩ := hn'
  rw [List.nodup_cons] at n2
  constructor
  · intro h
    rcases List.mem_append.1 h with h | h
    · exact ⟨List.mem_of_mem_take h, fun he => n3 x h l[j] List.mem_cons_self he⟩
    · exact ⟨List.mem_of_mem_drop h, fun he => n2.1 (by rw [← he]; exact h)⟩
  · rintro ⟨h, hne⟩
    rw [hs] at h
    rcases List.mem_append.1 h with h | h
    · exact List.mem_append.2 (.inl h)
    · rcases List.mem_cons.1 h with h | h
      · exact absurd h hne
      · exact List.mem_append.2 (.inr h)
theorem shs_drop (T : Tbl) (s : Int) : shs (dropT T s) = (shs T).filter fun x => decide (x ≠ s) := by
  unfold shs dropT
  rw [List.filter_map]
  rfl
theorem nodup_drop {T : Tbl} (h : (shs T).Nodup) (s : Int) : (shs (dropT T s)).Nodup := by rw [shs_drop]; exact h.filter _
theorem mem_drop {T : Tbl} {s x : Int} : x ∈ shs (dropT T s) ↔ x ∈ shs T ∧ x ≠ s := by rw [shs_drop, List.mem_filter]; simp
theorem drop_none {T : Tbl} {s : Int} (h : s ∉ shs T) : dropT T s = T := by
  unfold dropT
  refine List.filter_eq_self.2 (fun p hp => decide_eq_true (fun he => h ?_))
  rw [← he]
  exact List.mem_map.2 ⟨p, hp, rfl⟩
section
variable {w : World} {K : Value → World → Prop}
theorem New_ok {room : Nat} (hr : room ≤ 4096) (hK : ∀ cb w1, Ext w w1 → CacheAt w1 (fun g => w.heap.size ≤ g ∧ g < w1.heap.size) cb room [] → K (.tuple #[ptr cb, .int .i64 0]) w1) : CALL Try.prog 16 #[.int .i64 (room : Int)] w K := by
  apply call_cache_New
  unfold B_cache_New
  have c1 : decide ((room : Int) < 0) = false := decide_eq_false (by omega)
  have c2 : decide ((room : Int) > 4096) = false := decide_eq_false (by omega)
  (repeat (simp only [XP_extract0, XP_extract1, XP_extract2, XP_extract3, X_extract0, X_extract1, X_extract2, X_extract3, X_nilS, X_eql_nil_24, X_neq_nil_24, X_eql_nil_103, X_neq_nil_103, X_eql, X_neq, X_lss, X_leq, X_gtr, X_geq, X_not, X_min, X_max, X_len_79, X_len_35, XP_nilS, XP_eql, XP_neq, XP_lss, XP_leq, XP_gtr, XP_geq, XP_not, XP_min, XP_max, XP_len_79, XP_eql_nil_24, X_str_eql, X_str_neq, XP_str_eql, XP_str_neq, GS, gs_u, decide_true, decide_false, Option.isNone_some, Option.isSome_some, Option.isNone_none, Option.isSome_none, eq_self, Bool.not_true, Bool.not_false, Int.reduceEq, Int.reduceNe, Int.reduceLT, Int.reduceLE, Int.reduceGT, Int.reduceGE, c1, c2]))
  refine X_makeMap0 ?_
  have hx0 := newM_ext w
  have hm0 := newM_at w
  have hs0 : (newM w).heap.size = w.heap.size + 1 := by show (w.heap.push _).size = _; exact Array.size_push _
  generalize newM w = w0 at hx0 hm0 hs0 ⊢
  refine X_of (run_build_87 _ _ _) ?_
  refine X_box ?_
  have hx1 := newB_ext w0 #[.int .i64 (room : Int), .slice none 0 0, .map (some w.heap.size)] 87
  have hg1 := newB_get w0 #[.int .i64 (room : Int), .slice none 0 0, .map (some w.heap.size)] 87
  have hs1 := newB_size w0 #[.int .i64 (room : Int), .slice none 0 0, .map (some w.heap.size)] 87
  show K _ (newB w0 #[.int .i64 (room : Int), .slice none 0 0, .map (some w.heap.size)] 87)
  generalize newB w0 #[.int .i64 (room : Int), .slice none 0 0, .map (some w.heap.size)] 87 = w1 at hx1 hg1 hs1 ⊢
  refine hK _ _ (hx0.trans hx1) ⟨⟨_, w.heap.size, [], hg1, ownK_nil _ _, hm0.ext hx1, by simp, by simp, by simp, by simp, ⟨by omega, by omega⟩, ⟨by omega, by omega⟩, fun g hg => by cases hg⟩, fun g hg => hg.2, by simp, by simp, hr, by simp⟩
theorem New_bad {room : Int} (hr : room < 0 ∨ 4096 < room) (hK : K (.tuple #[.pointer none, .int .i64 1]) w) : CALL Try.prog 16 #[.int .i64 room] w K := by
  apply call_cache_New
  unfold B_cache_New
  by_cases h : room < 0
  · have c1 : decide (room < 0) = true := decide_eq_true h
    (repeat (simp only [XP_extract0, XP_extract1, XP_extract2, XP_extract3, X_extract0, X_extract1, X_extract2, X_extract3, X_nilS, X_eql_nil_24, X_neq_nil_24, X_eql_nil_103, X_neq_nil_103, X_eql, X_neq, X_lss, X_leq, X_gtr, X_geq, X_not, X_min, X_max, X_len_79, X_len_35, XP_nilS, XP_eql, XP_neq, XP_lss, XP_leq, XP_gtr, XP_geq, XP_not, XP_min, XP_max, XP_len_79, XP_eql_nil_24, X_str_eql, X_str_neq, XP_str_eql, XP_str_neq, GS, gs_u, decide_true, decide_false, Option.isNone_some, Option.isSome_some, Option.isNone_none, Option.isSome_none, eq_self, Bool.not_true, Bool.not_false, Int.reduceEq, Int.reduceNe, Int.reduceLT, Int.reduceLE, Int.reduceGT, Int.reduceGE, c1]))
    exact hK
  · have c1 : decide (room < 0) = false := decide_eq_false h
    have c2 : decide (room > 4096) = true := decide_eq_true (by omega)
    (repeat (simp only [XP_extract0, XP_extract1, XP_extract2, XP_extract3, X_extract0, X_extract1, X_extract2, X_extract3, X_nilS, X_eql_nil_24, X_neq_nil_24, X_eql_nil_103, X_neq_nil_103, X_eql, X_neq, X_lss, X_leq, X_gtr, X_geq, X_not, X_min, X_max, X_len_79, X_len_35, XP_nilS, XP_eql, XP_neq, XP_lss, XP_leq, XP_gtr, XP_geq, XP_not, XP_min, XP_max, XP_len_79, XP_eql_nil_24, X_str_eql, X_str_neq, XP_str_eql, XP_str_neq, GS, gs_u, decide_true, decide_false, Option.isNone_some, Option.isSome_some, Option.isNone_none, Option.isSome_none, eq_self, Bool.not_true, Bool.not_false, Int.reduceEq, Int.reduceNe, Int.reduceLT, Int.reduceLE, Int.reduceGT, Int.reduceGE, c1, c2]))
    exact hK
theorem Has_spec {D : Nat → Prop} {cb room : Nat} {T : Tbl} {s : Int} (h : CacheAt w D cb room T) (hs : I64 s) (hK : K (.bool (decide (s ∈ shs T))) w) : CALL Try.prog 18 #[ptr cb, .int .i64 s] w K := by
  obtain ⟨⟨vo, mb, tb, h1, h2, h3, h4, h5, h6, h7, h8, h9, h10⟩, hlt, hnd, hi, hsm, hf⟩ := h
  apply call_cache_Cache_Has
  unfold B_cache_Cache_Has
  (repeat (simp only [XP_extract0, XP_extract1, XP_extract2, XP_extract3, X_extract0, X_extract1, X_extract2, X_extract3, X_nilS, X_eql_nil_24, X_neq_nil_24, X_eql_nil_103, X_neq_nil_103, X_eql, X_neq, X_lss, X_leq, X_gtr, X_geq, X_not, X_min, X_max, X_len_79, X_len_35, XP_nilS, XP_eql, XP_neq, XP_lss, XP_leq, XP_gtr, XP_geq, XP_not, XP_min, XP_max, XP_len_79, XP_eql_nil_24, X_str_eql, X_str_neq, XP_str_eql, XP_str_neq, GS, gs_u, decide_true, decide_false, Option.isNone_some, Option.isSome_some, Option.isNone_none, Option.isSome_none, eq_self, Bool.not_true, Bool.not_false, Int.reduceEq, Int.reduceNe, Int.reduceLT, Int.reduceLE, Int.reduceGT, Int.reduceGE, X_field_87_2]))
  refine X_of (run_loadAt (v := .map (some mb)) agg_85 ((cell_blk h1).trans rfl)) ?_
  have hk := tb_keys tb (fun x hx => hi x ((h5 x).1 hx))
  rcases run_lookupM (P := Try.prog) keyed3 Try.underlying85 zero_88 h3 hk (keyOf_i64 hs) true with ⟨hno, hrun⟩ | ⟨p, hp, hpk, hrun⟩
  · refine X_of hrun ?_
    have hns : s ∉ shs T := by
      intro hs'
      obtain ⟨q, hq, hqs⟩ := List.mem_map.1 ((h5 s).2 hs')
      exact hno (tbV q) (List.mem_map.2 ⟨q, hq, rfl⟩) (by show Value.int .i64 q.1 = _; rw [hqs])
    rw [decide_eq_false hns] at hK
    (repeat (simp only [XP_extract0, XP_extract1, XP_extract2, XP_extract3, X_extract0, X_extract1, X_extract2, X_extract3, X_nilS, X_eql_nil_24, X_neq_nil_24, X_eql_nil_103, X_neq_nil_103, X_eql, X_neq, X_lss, X_leq, X_gtr, X_geq, X_not, X_min, X_max, X_len_79, X_len_35, XP_nilS, XP_eql, XP_neq, XP_lss, XP_leq, XP_gtr, XP_geq, XP_not, XP_min, XP_max, XP_len_79, XP_eql_nil_24, X_str_eql, X_str_neq, XP_str_eql, XP_str_neq, GS, gs_u, decide_true, decide_false, Option.isNone_some, Option.isSome_some, Option.isNone_none, Option.isSome_none, eq_self, Bool.not_true, Bool.not_false, Int.reduceEq, Int.reduceNe, Int.reduceLT, Int.reduceLE, Int.reduceGT, Int.reduceGE, if_true]))
    exact hK
  · refine X_of hrun ?_
    have hys : s ∈ shs T := by
      obtain ⟨q, hq, rfl⟩ := List.mem_map.1 hp
      rw [← h5]
      injection hpk with _ hpk
      exact List.mem_map.2 ⟨q, hq, hpk⟩
    rw [decide_eq_true hys] at hK
    (repeat (simp only [XP_extract0, XP_extract1, XP_extract2, XP_extract3, X_extract0, X_extract1, X_extract2, X_extract3, X_nilS, X_eql_nil_24, X_neq_nil_24, X_eql_nil_103, X_neq_nil_103, X_eql, X_neq, X_lss, X_leq, X_gtr, X_geq, X_not, X_min, X_max, X_len_79, X_len_35, XP_nilS, XP_eql, XP_neq, XP_lss, XP_leq, XP_gtr, XP_geq, XP_not, XP_min, XP_max, XP_len_79, XP_eql_nil_24, X_str_eql, X_str_neq, XP_str_eql, XP_str_neq, GS, gs_u, decide_true, decide_false, Option.isNone_some, Option.isSome_some, Option.isNone_none, Option.isSome_none, eq_self, Bool.not_true, Bool.not_false, Int.reduceEq, Int.reduceNe, Int.reduceLT, Int.reduceLE, Int.reduceGT, Int.reduceGE, if_true]))
    exact hK
theorem Has_nil {s : Value} (hK : K (.bool false) w) : CALL Try.prog 18 #[.pointer none, s] w K := by
  apply call_cache_Cache_Has
  unfold B_cache_Cache_Has
  (repeat (simp only [XP_extract0, XP_extract1, XP_extract2, XP_extract3, X_extract0, X_extract1, X_extract2, X_extract3, X_nilS, X_eql_nil_24, X_neq_nil_24, X_eql_nil_103, X_neq_nil_103, X_eql, X_neq, X_lss, X_leq, X_gtr, X_geq, X_not, X_min, X_max, X_len_79, X_len_35, XP_nilS, XP_eql, XP_neq, XP_lss, XP_leq, XP_gtr, XP_geq, XP_not, XP_min, XP_max, XP_len_79, XP_eql_nil_24, X_str_eql, X_str_neq, XP_str_eql, XP_str_neq, GS, gs_u, decide_true, decide_false, Option.isNone_some, Option.isSome_some, Option.isNone_none, Option.isSome_none, eq_self, Bool.not_true, Bool.not_false, Int.reduceEq, Int.reduceNe, Int.reduceLT, Int.reduceLE, Int.reduceGT, Int.reduceGE]))
  exact hK
theorem Drop_nil {s : Value} (hK : K (.bool false) w) : CALL Try.prog 19 #[.pointer none, s] w K := by
  apply call_cache_Cache_Drop
  unfold B_cache_Cache_Drop
  refine Has_nil ?_
  (repeat (simp only [XP_extract0, XP_extract1, XP_extract2, XP_extract3, X_extract0, X_extract1, X_extract2, X_extract3, X_nilS, X_eql_nil_24, X_neq_nil_24, X_eql_nil_103, X_neq_nil_103, X_eql, X_neq, X_lss, X_leq, X_gtr, X_geq, X_not, X_min, X_max, X_len_79, X_len_35, XP_nilS, XP_eql, XP_neq, XP_lss, XP_leq, XP_gtr, XP_geq, XP_not, XP_min, XP_max, XP_len_79, XP_eql_nil_24, X_str_eql, X_str_neq, XP_str_eql, XP_str_neq, GS, gs_u, decide_true, decide_false, Option.isNone_some, Option.isSome_some, Option.isNone_none, Option.isSome_none, eq_self, Bool.not_true, Bool.not_false, Int.reduceEq, Int.reduceNe, Int.reduceLT, Int.reduceLE, Int.reduceGT, Int.reduceGE]))
  exact hK
theorem Shelves_nil (hK : K (.slice none 0 0) w) : CALL Try.prog 21 #[.pointer none] w K := by
  apply call_cache_Cache_Shelves
  unfold B_cache_Cache_Shelves
  (repeat (simp only [XP_extract0, XP_extract1, XP_extract2, XP_extract3, X_extract0, X_extract1, X_extract2, X_extract3, X_nilS, X_eql_nil_24, X_neq_nil_24, X_eql_nil_103, X_neq_nil_103, X_eql, X_neq, X_lss, X_leq, X_gtr, X_geq, X_not, X_min, X_max, X_len_79, X_len_35, XP_nilS, XP_eql, XP_neq, XP_lss, XP_leq, XP_gtr, XP_geq, XP_not, XP_min, XP_max, XP_len_79, XP_eql_nil_24, X_str_eql, X_str_neq, XP_str_eql, XP_str_neq, GS, gs_u, decide_true, decide_false, Option.isNone_some, Option.isSome_some, Option.isNone_none, Option.isSome_none, eq_self, Bool.not_true, Bool.not_false, Int.reduceEq, Int.reduceNe, Int.reduceLT, Int.reduceLE, Int.reduceGT, Int.reduceGE]))
  exact hK
theorem Shelves_spec {D : Nat → Prop} {cb room : Nat} {T : Tbl} (h : CacheAt w D cb room T) (hK : ∀ u w1, Ext w w1 → OwnK 1 3 intC w1 w.heap.size u (shs T) → K u w1) : CALL Try.prog 21 #[ptr cb] w K := by
  obtain ⟨⟨vo, mb, tb, h1, h2, h3, h4, h5, h6, h7, h8, h9, h10⟩, hlt, hnd, hi, hsm, hf⟩ := h
  apply call_cache_Cache_Shelves
  unfold B_cache_Cache_Shelves
  (repeat (simp only [XP_extract0, XP_extract1, XP_extract2, XP_extract3, X_extract0, X_extract1, X_extract2, X_extract3, X_nilS, X_eql_nil_24, X_neq_nil_24, X_eql_nil_103, X_neq_nil_103, X_eql, X_neq, X_lss, X_leq, X_gtr, X_geq, X_not, X_min, X_max, X_len_79, X_len_35, XP_nilS, XP_eql, XP_neq, XP_lss, XP_leq, XP_gtr, XP_geq, XP_not, XP_min, XP_max, XP_len_79, XP_eql_nil_24, X_str_eql, X_str_neq, XP_str_eql, XP_str_neq, GS, gs_u, decide_true, decide_false, Option.isNone_some, Option.isSome_some, Option.isNone_none, Option.isSome_none, eq_self, Bool.not_true, Bool.not_false, Int.reduceEq, Int.reduceNe, Int.reduceLT, Int.reduceLE, Int.reduceGT, Int.reduceGE, X_field_87_1]))
  refine X_of (run_loadAt (v := vo) agg_35 ((cell_blk h1).trans rfl)) ?_
  exact Clone_spec (OwnK.rowK (by decide) intC_len h2) (by rw [List.length_map]; omega) hK
set_option maxHeartbeats 1000000 in
theorem Drop_spec {D : Nat → Prop} {cb room : Nat} {T : Tbl} {s : Int} (h : CacheAt w D cb room T) (hs : I64 s) (hK : ∀ w1, Keep D w w1 → CacheAt w1 D cb room (dropT T s) → K (.bool (decide (s ∈ shs T))) w1) : CALL Try.prog 19 #[ptr cb, .int .i64 s] w K := by
  apply call_cache_Cache_Drop
  unfold B_cache_Cache_Drop
  refine Has_spec h hs ?_
  by_cases hin : s ∈ shs T
  case neg =>
    have := hK w (Keep.refl _ _) (by rw [drop_none hin]; exact h)
    rw [decide_eq_false hin] at this
    have c : decide (s ∈ shs T) = false := decide_eq_false hin
    (repeat (simp only [XP_extract0, XP_extract1, XP_extract2, XP_extract3, X_extract0, X_extract1, X_extract2, X_extract3, X_nilS, X_eql_nil_24, X_neq_nil_24, X_eql_nil_103, X_neq_nil_103, X_eql, X_neq, X_lss, X_leq, X_gtr, X_geq, X_not, X_min, X_max, X_len_79, X_len_35, XP_nilS, XP_eql, XP_neq, XP_lss, XP_leq, XP_gtr, XP_geq, XP_not, XP_min, XP_max, XP_len_79, XP_eql_nil_24, X_str_eql, X_str_neq, XP_str_eql, XP_str_neq, GS, gs_u, decide_true, decide_false, Option.isNone_some, Option.isSome_some, Option.isNone_none, Option.isSome_none, eq_self, Bool.not_true, Bool.not_false, Int.reduceEq, Int.reduceNe, Int.reduceLT, Int.reduceLE, Int.reduceGT, Int.reduceGE, c]))
    exact this
  have c : decide (s ∈ shs T) = true := decide_eq_true hin
  rw [c] at hK
  obtain ⟨⟨vo, mb, tb, h1, h2, h3, h4, h5, h6, h7, h8, h9, h10⟩, hlt, hnd, hi, hsm, hf⟩ := h
  (repeat (simp only [XP_extract0, XP_extract1, XP_extract2, XP_extract3, X_extract0, X_extract1, X_extract2, X_extract3, X_nilS, X_eql_nil_24, X_neq_nil_24, X_eql_nil_103, X_neq_nil_103, X_eql, X_neq, X_lss, X_leq, X_gtr, X_geq, X_not, X_min, X_max, X_len_79, X_len_35, XP_nilS, XP_eql, XP_neq, XP_lss, XP_leq, XP_gtr, XP_geq, XP_not, XP_min, XP_max, XP_len_79, XP_eql_nil_24, X_str_eql, X_str_neq, XP_str_eql, XP_str_neq, GS, gs_u, decide_true, decide_false, Option.isNone_some, Option.isSome_some, Option.isNone_none, Option.isSome_none, eq_self, Bool.not_true, Bool.not_false, Int.reduceEq, Int.reduceNe, Int.reduceLT, Int.reduceLE, Int.reduceGT, Int.reduceGE, c, X_field_87_2]))
  refine X_of (run_loadAt (v := .map (some mb)) agg_85 ((cell_blk h1).trans rfl)) ?_
  have hk := tb_keys tb (fun x hx => hi x ((h5 x).1 hx))
  obtain ⟨q0, hq0, hq0s⟩ := List.mem_map.1 ((h5 s).2 hin)
  refine X_delete keyed3 Try.underlying85 h3 hk (keyOf_i64 hs) ⟨tbV q0, List.mem_map.2 ⟨q0, hq0, rfl⟩, by show Value.int .i64 q0.1 = _; rw [hq0s]⟩ ?_
  intro w1 j p hj hpk hm1 hk1
  obtain ⟨q, hq, rfl⟩ : ∃ q, tb[j]? = some q ∧ tbV q = p := by
    rw [List.getElem?_map] at hj
    obtain ⟨q, hq, e⟩ := Option.map_eq_some_iff.1 hj
    exact ⟨q, hq, e⟩
  have hqs : q.1 = s := by injection hpk
  have hmE : MapAt w1 mb ((tb.eraseIdx j).map tbV) := by
    have e : (tb.eraseIdx j).map tbV = (tb.map tbV).eraseIdx j := by rw [List.eraseIdx_eq_take_drop_succ, List.eraseIdx_eq_take_drop_succ, List.map_append, List.map_take, List.map_drop]
    rw [e]
    exact hm1
  have hcm : cb ≠ mb := fun he => by
    obtain ⟨es, cl, hm, _⟩ := h3
    rw [he, hm] at h1
    cases h1
  have hvm : ∀ g, vo.ownBlock = some g → g ≠ mb := fun g hg he => own_neM' h2 h3 (by rw [hg, he])
  have h11 := hk1.get hcm h1
  have h21 := h2.keep hk1 (fun g hg hgm => hvm g hg hgm)
  (repeat (simp only [XP_extract0, XP_extract1, XP_extract2, XP_extract3, X_extract0, X_extract1, X_extract2, X_extract3, X_nilS, X_eql_nil_24, X_neq_nil_24, X_eql_nil_103, X_neq_nil_103, X_eql, X_neq, X_lss, X_leq, X_gtr, X_geq, X_not, X_min, X_max, X_len_79, X_len_35, XP_nilS, XP_eql, XP_neq, XP_lss, XP_leq, XP_gtr, XP_geq, XP_not, XP_min, XP_max, XP_len_79, XP_eql_nil_24, X_str_eql, X_str_neq, XP_str_eql, XP_str_neq, GS, gs_u, decide_true, decide_false, Option.isNone_some, Option.isSome_some, Option.isNone_none, Option.isSome_none, eq_self, Bool.not_true, Bool.not_false, Int.reduceEq, Int.reduceNe, Int.reduceLT, Int.reduceLE, Int.reduceGT, Int.reduceGE, X_field_87_1]))
  refine X_of (run_loadAt (v := vo) agg_35 ((cell_blk h11).trans rfl)) ?_
  have hlenT : (shs T).length ≤ 4096 := by rw [List.length_map]; omega
  refine Index_spec (OwnK.rowK (by decide) intC_len h21) (by omega) hin ?_
  intro i hi' his
  (repeat (simp only [XP_extract0, XP_extract1, XP_extract2, XP_extract3, X_extract0, X_extract1, X_extract2, X_extract3, X_nilS, X_eql_nil_24, X_neq_nil_24, X_eql_nil_103, X_neq_nil_103, X_eql, X_neq, X_lss, X_leq, X_gtr, X_geq, X_not, X_min, X_max, X_len_79, X_len_35, XP_nilS, XP_eql, XP_neq, XP_lss, XP_leq, XP_gtr, XP_geq, XP_not, XP_min, XP_max, XP_len_79, XP_eql_nil_24, X_str_eql, X_str_neq, XP_str_eql, XP_str_neq, GS, gs_u, decide_true, decide_false, Option.isNone_some, Option.isSome_some, Option.isNone_none, Option.isSome_none, eq_self, Bool.not_true, Bool.not_false, Int.reduceEq, Int.reduceNe, Int.reduceLT, Int.reduceLE, Int.reduceGT, Int.reduceGE, X_field_87_1]))
  refine X_of (run_loadAt (v := vo) agg_35 ((cell_blk h11).trans rfl)) ?_
  rw [X_add, w64 (by omega) (by omega)]
  have e1 : ((i : Int) + 1) = ((i + 1 : Nat) : Int) := by omega
  rw [e1]
  refine Delete_spec h21 hi' (by omega) ?_
  intro v2 w2 ho2 hob hk2
  have hcv : ¬ vo.ownBlock = some cb := fun he => own_neT h2 h1 (by decide) he
  have h12 := hk2.get hcv h11
  obtain ⟨a2, c2, e2⟩ := (OwnK.rowK (by decide) intC_len ho2).slice
  (repeat (simp only [XP_extract0, XP_extract1, XP_extract2, XP_extract3, X_extract0, X_extract1, X_extract2, X_extract3, X_nilS, X_eql_nil_24, X_neq_nil_24, X_eql_nil_103, X_neq_nil_103, X_eql, X_neq, X_lss, X_leq, X_gtr, X_geq, X_not, X_min, X_max, X_len_79, X_len_35, XP_nilS, XP_eql, XP_neq, XP_lss, XP_leq, XP_gtr, XP_geq, XP_not, XP_min, XP_max, XP_len_79, XP_eql_nil_24, X_str_eql, X_str_neq, XP_str_eql, XP_str_neq, GS, gs_u, decide_true, decide_false, Option.isNone_some, Option.isSome_some, Option.isNone_none, Option.isSome_none, eq_self, Bool.not_true, Bool.not_false, Int.reduceEq, Int.reduceNe, Int.reduceLT, Int.reduceLE, Int.reduceGT, Int.reduceGE, X_field_87_1]))
  refine XU_store info_35 sz_35 (by rw [e2]; rfl) h12 (by show (0 + 1) < 3; decide) (by show ¬ (0 ≤ _ ∧ _ < 0); omega) ?_
  have hk3 := setAt_keep w2 cb (#[.int .i64 (room : Int), vo, .map (some mb)].setIfInBounds (0 + 1) v2) 87 (0, 0)
  have hg3 : (setAt w2 cb (#[.int .i64 (room : Int), vo, .map (some mb)].setIfInBounds (0 + 1) v2) 87 (0, 0)).heap[cb]? = some (.cells #[.int .i64 (room : Int), v2, .map (some mb)] 87 (0, 0)) := setAt_same (lt_of_blk h12)
  generalize setAt w2 cb (#[.int .i64 (room : Int), vo, .map (some mb)].setIfInBounds (0 + 1) v2) 87 (0, 0) = w3 at hk3 hg3 ⊢
  have hfil : (shs T).take i ++ (shs T).drop (i + 1) = shs (dropT T s) := by
    rw [shs_drop, ← his]
    exact drop_at id (shs T) i hi' (by simpa using hnd)
  rw [hfil] at ho2
  have hjl : j < tb.length := (List.getElem?_eq_some_iff.1 hq).1
  have hqj : tb[j] = q := (List.getElem?_eq_some_iff.1 hq).2
  have hntb : tb.Nodup := nodup_of_map h4
  have hEq : ∀ q', q' ∈ tb.eraseIdx j ↔ q' ∈ tb ∧ q' ≠ q := fun q' => by rw [mem_erase hntb hjl, hqj]
  have hnE : ((tb.eraseIdx j).map Prod.fst).Nodup := h4.sublist ((List.eraseIdx_sublist tb j).map Prod.fst)
  have hEm : ∀ x, x ∈ (tb.eraseIdx j).map Prod.fst ↔ x ∈ tb.map Prod.fst ∧ x ≠ s := by
    intro x
    constructor
    · intro h
      obtain ⟨q', hq', rfl⟩ := List.mem_map.1 h
      obtain ⟨g1, g2⟩ := (hEq q').1 hq'
      refine ⟨List.mem_map.2 ⟨q', g1, rfl⟩, fun he => g2 ?_⟩
      exact fst_inj h4 g1 (hqj ▸ List.getElem_mem hjl) (he.trans hqs.symm)
    · rintro ⟨h, hne⟩
      obtain ⟨q', hq', rfl⟩ := List.mem_map.1 h
      exact List.mem_map.2 ⟨q', (hEq q').2 ⟨hq', fun he => hne (by rw [he]; exact hqs)⟩, rfl⟩
  have kD : Keep D w w3 := Keep.trans (Keep.trans (hk1.mono (fun _ _ h => by rw [h]; exact h9)) (hk2.mono (fun g _ h => h10 g h))) (hk3.mono (fun _ _ h => by rw [h]; exact h8))
  refine hK w3 kD ⟨⟨v2, mb, tb.eraseIdx j, hg3, ho2.keep hk3 (fun g hg hgc => hcv (by rw [← hob, hg, hgc])), (hmE.keep hk2 (fun he => hvm mb he rfl)).keep hk3 (fun he => hcm he.symm), ?_, ?_, ?_, ?_, h8, h9, fun g hg => h10 g (by rw [← hob]; exact hg)⟩, fun g hg => Nat.lt_of_lt_of_le (hlt g hg) kD.size, nodup_drop hnd s, fun x hx => hi x (mem_drop.1 hx).1, hsm, ?_⟩
  · exact hnE
  · intro x
    rw [mem_drop, ← h5]
    rw [hEm x]
  · intro q' hq' rows hrows
    have hq2 := (hEq q').1 hq'
    have hr2 : (q'.1, rows) ∈ T := (List.mem_filter.1 hrows).1
    have hm0 := h6 q' hq2.1 rows hr2
    exact (((hm0.keep hk1 (h7 q' hq2.1).1).keep hk2 (fun he => own_neM' h2 hm0 he)).keep hk3 (fun he => by
      obtain ⟨es, cl, hmm, _⟩ := hm0
      rw [he, h1] at hmm
      cases hmm))
  · intro q' hq'
    exact h7 q' ((hEq q').1 hq').1
  · have : (dropT T s).length ≤ T.length := List.length_filter_le _ _
    omega
end
end Go.Proofs.Ytlnkdphecinnnaa
end
section
/- A shallow reading as before, but what must have come before an operation by way of others counts as waited for. -/
set_option linter.unusedSimpArgs false
set_option linter.unusedVariables false
namespace Go.Sh
open Go
/-- o waits for number i, by way of others too. -/
def reachB (ops : Array Oper) : Nat → Oper → Nat → Bool
  | 0, _, _ => false
  | f + 1, o, i => o.after.any fun e => Region.binds .any e && (e.on == i || match ops[e.on]? with
    | some o' => reachB ops f o' i
    | none => false)
def chkT (ops : Array Oper) (listed : Array Bool) (j : Nat) : Bool :=
  match ops[j]? with
  | some oj => (List.range ops.size).any fun i => listed.getD i false && readsB ops i && !reachB ops ops.size oj i
  | none => false
def anyT (P : Program) (R : World → World → Prop) (ops : Array Oper) (K : Env → World → Prop) : Nat → Array Bool → Env → World → Prop
  | 0, _, ρ, w => K ρ w
  | fuel + 1, listed, ρ, w =>
    match Region.ready .any ops listed with
    | [] => K ρ w
    | i :: l =>
      match (i :: l).find? (canTake ops listed) with
      | some i => takeG P R ops ρ (ops.getD i default) w (fun v w' => anyT P R ops K fuel (listed.setIfInBounds i true) (updO ρ (ops.getD i default).dst v) w')
      | none => allL (fun i => stepG P ops ρ (ops.getD i default) w (fun v w' => andIf (chkT ops listed i) (R w w')
          (anyT P R ops K fuel (listed.setIfInBounds i true) (updO ρ (ops.getD i default).dst v) w'))) (i :: l)

def drawT (P : Program) (ops : Array Oper) (K : Env → World → Prop) (ρ : Env) (w : World) : Prop :=
  ∃ R : World → World → Prop, Frame? R ∧ anyT P R ops K ops.size (Array.replicate ops.size false) ρ (drewW w)

def shT (P : Program) : Code → (Exit → Env → World → Prop) → Env → World → Prop
  | .skip, Q, ρ, w => Q .normal ρ w
  | .region _ ops true, Q, ρ, w => drawT P ops (Q .normal) ρ w
  | .region _ ops false, Q, ρ, w => opsS P ops (Q .normal) ops.toList ρ w
  | .seq a b, Q, ρ, w => shT P a (thenS (shT P b Q) Q) ρ w
  | .cond c a b, Q, ρ, w => condS (ev ρ c) (shT P a Q ρ w) (shT P b Q ρ w)
  | .block id a, Q, ρ, w => shT P a (inBlockS id Q) ρ w
  | .loop a, Q, ρ, w => loopS (shT P a) Q ρ w
  | .exit id, Q, ρ, w => Q (.exit id) ρ w
  | .ret, Q, ρ, w => Q .ret ρ w
  | _, _, _, _ => False

def wpAnyT (P : Program) (ops : Array Oper) (Q : Exit → Act → World → Prop) (R : World → World → Prop) : Nat → Array Bool → Act → World → Prop
  | 0, listed, a, w => Region.ready .any ops listed = [] ∧ Q .normal a w
  | fuel + 1, listed, a, w =>
    (Region.ready .any ops listed = [] → Q .normal a w) ∧
    ∀ i ∈ Region.ready .any ops listed, wpOp P ops Q i (fun a' w' => (chkT ops listed i = true → R w w') ∧ wpAnyT P ops Q R fuel (listed.setIfInBounds i true) a' w') a w

section
variable {P : Program} {ops : Array Oper} {Q : Exit → Act → World → Prop} {R : World → World → Prop}

theorem wpAny_of_T : ∀ (fuel : Nat) (listed : Array Bool) (a : Act) (w : World), wpAnyT P ops Q R fuel listed a w → wpAny P .any ops Q fuel listed a w
  | 0, _, _, _, h => h
  | fuel + 1, _, _, _, h => ⟨h.1, fun i hi => wpOp_mono (fun a' w' h' => wpAny_of_T fuel _ a' w' h'.2) (h.2 i hi)⟩

theorem chkT_mono {listed : Array Bool} {i j : Nat} (h : chkT ops listed j = true) : chkT ops (listed.setIfInBounds i true) j = true := by
  unfold chkT at *
  cases hj : ops[j]? with
  | none => simp [hj] at h
  | some oj =>
    simp only [hj, List.any_eq_true, List.mem_range, Bool.and_eq_true] at h ⊢
    obtain ⟨k, hk, ⟨h1, h2⟩, h3⟩ := h
    exact ⟨k, hk, ⟨getD_set_true h1, h2⟩, h3⟩

theorem chkT_reader {listed : Array Bool} {i j : Nat} {oj : Oper} (hj : ops[j]? = some oj) (hi : readsB ops i = true) (hlt : i < listed.size) (hno : reachB ops ops.size oj i = false) :
    chkT ops (listed.setIfInBounds i true) j = true := by
  unfold chkT
  simp only [hj, List.any_eq_true, List.mem_range, Bool.and_eq_true]
  have hio : i < ops.size := by
    unfold readsB at hi
    cases h : ops[i]? with
    | none => simp [h] at hi
    | some o => exact (Array.getElem?_eq_some_iff.1 h).1
  exact ⟨i, hio, ⟨by simp [hlt], hi⟩, by rw [hno]; rfl⟩
theorem gd_tf {l : Array Bool} {x : Nat} (h : l.getD x false = true) : l.getD x true = true := by
  rw [Array.getD_eq_getD_getElem?] at h ⊢
  cases hx : l[x]? with
  | none => rw [hx] at h; cases h
  | some b => rw [hx] at h; exact h
/-- Whatever is laid has behind it what it waits for. -/
def ClosedL (ops : Array Oper) (listed : Array Bool) : Prop := ∀ k ok, ops[k]? = some ok → listed.getD k true = true → ∀ e ∈ ok.after, Region.binds .any e = true → listed.getD e.on true = true
theorem reach_listed {listed : Array Bool} (hc : ClosedL ops listed) {i : Nat} : ∀ (f : Nat) (o : Oper), (∀ e ∈ o.after, Region.binds .any e = true → listed.getD e.on true = true) → reachB ops f o i = true → listed.getD i true = true := by
  intro f
  induction f with
  | zero => intro o _ h; cases h
  | succ f ih =>
    intro o ho h
    unfold reachB at h
    rw [Array.any_eq_true'] at h
    obtain ⟨e, he, h⟩ := h
    simp only [Bool.and_eq_true, Bool.or_eq_true, beq_iff_eq] at h
    obtain ⟨hb, h⟩ := h
    have hl := ho e he hb
    rcases h with h | h
    · rw [← h]; exact hl
    · cases hop : ops[e.on]? with
      | none => rw [hop] at h; cases h
      | some o' =>
        rw [hop] at h
        exact ih o' (hc e.on o' hop hl) h
theorem closed_set {listed : Array Bool} (hc : ClosedL ops listed) {j : Nat} {oj : Oper} (hoj : ops[j]? = some oj) (hall : ∀ e ∈ oj.after, Region.binds .any e = true → listed.getD e.on true = true) : ClosedL ops (listed.setIfInBounds j true) := by
  have mono : ∀ k, listed.getD k true = true → (listed.setIfInBounds j true).getD k true = true := by
    intro k hk
    by_cases hjk : j = k
    · subst hjk
      by_cases hlt : j < listed.size
      · simp [Array.getD_eq_getD_getElem?, hlt]
      · simp [Array.getD_eq_getD_getElem?, hlt]
    · rw [getD_set_ne true hjk]; exact hk
  intro k ok hk hl e he hb
  by_cases hjk : j = k
  · subst hjk
    rw [hoj] at hk
    injection hk with hk
    subst hk
    exact mono _ (hall e he hb)
  · rw [getD_set_ne true hjk] at hl
    exact mono _ (hc k ok hk hl e he hb)
theorem closed_start (ops : Array Oper) : ClosedL ops (Array.replicate ops.size false) := by
  intro k ok hk hl
  have := (Array.getElem?_eq_some_iff.1 hk).1
  simp [Array.getD_eq_getD_getElem?, this] at hl
/-- One that may come up may be taken: it looks at memory. -/
theorem takeRT {i : Nat} {oi : Oper} {v : Value} (fr : Frame? R) (hi : ops[i]? = some oi) (hsel : ∀ (j : Nat) (o : Oper) cs b, ops[j]? = some o → o.op ≠ .select cs b)
    (hQ : ∀ c a w, Q (.panic c) (a.put oi.dst v) w → Q (.panic c) a w) (hrd : readsB ops i = true) :
    ∀ (fuel : Nat) (listed : Array Bool) (a : Act) (w : World), ClosedL ops listed →
      (∀ j oj, ops[j]? = some oj → j ≠ i → listed.getD j true = false → (∀ e ∈ oj.after, Region.binds .any e = true → e.on ≠ i) → oi.apart ops oj = true) →
      i ∈ Region.ready .any ops listed → YieldsIf P ops (R w) oi v a →
      wpAnyT P ops Q R fuel (listed.setIfInBounds i true) (a.put oi.dst v) w → wpAnyT P ops Q R (fuel + 1) listed a w := by
  intro fuel
  induction fuel with
  | zero =>
    intro listed a w hcl _ hr hy H
    refine ⟨fun h => (by rw [h] at hr; cases hr), fun j hj => ?_⟩
    by_cases hji : j = i
    · subst hji; exact hy.wpOp hi (fr.refl w) ⟨fun _ => fr.refl w, H⟩
    · have := ready_mono hj hji
      rw [H.1] at this
      cases this
  | succ fuel ih =>
    intro listed a w hcl hfree hr hy H
    refine ⟨fun h => (by rw [h] at hr; cases hr), fun j hj => ?_⟩
    by_cases hji : j = i
    · subst hji; exact hy.wpOp hi (fr.refl w) ⟨fun _ => fr.refl w, H⟩
    · have h1 := H.2 j (ready_mono hj hji)
      obtain ⟨hjun, oj, hoj, hall⟩ := mem_ready.1 hj
      have hnot : ∀ e ∈ oj.after, Region.binds .any e = true → e.on ≠ i := fun e he hb heq => by
        have h1 := hall e he hb
        have h0 := (mem_ready.1 hr).1
        rw [heq] at h1
        rcases Nat.lt_or_ge i listed.size with h' | h'
        · simp [h'] at h0 h1; rw [h0] at h1; cases h1
        · simp [Array.getElem?_eq_none h'] at h1
      have h2 := wpOp_putIf hoj (hfree j oj hoj hji hjun hnot) (fun cs b => hsel i oi cs b hi) (fun cs b => hsel j oj cs b hoj) hQ hy h1
      have hfree' : ∀ k ok, ops[k]? = some ok → k ≠ i → (listed.setIfInBounds j true).getD k true = false →
          (∀ e ∈ ok.after, Region.binds .any e = true → e.on ≠ i) → oi.apart ops ok = true := fun k ok hk hki hun hno => by
        refine hfree k ok hk hki ?_ hno
        by_cases hjk : j = k
        · subst hjk; exact hjun
        · rw [getD_set_ne true hjk] at hun; exact hun
      have hnr : reachB ops ops.size oj i = false := by
        cases hre : reachB ops ops.size oj i with
        | false => rfl
        | true =>
          have h5 := reach_listed hcl ops.size oj (fun e he hb => gd_tf (hall e he hb)) hre
          have h0 := (mem_ready.1 hr).1
          rw [h5] at h0
          cases h0
      have hchk := chkT_reader (listed := listed) hoj hrd (lt_of_ready hr) hnr
      refine wpOp_mono (fun a' w' h3 => ⟨fun _ => h3.2.1 hchk, ih (listed.setIfInBounds j true) a' w' (closed_set hcl hoj (fun e he hb => gd_tf (hall e he hb))) hfree' (ready_mono hr (Ne.symm hji))
        (yieldsIf_weaken (fun w2 hw2 => fr.trans _ _ _ (h3.2.1 hchk) hw2) h3.1) ?_⟩) h2
      rw [Array.setIfInBounds_comm _ _ hji]
      exact h3.2.2

/-- One that may come up may be taken: it looks at no memory. -/
theorem takePT {i : Nat} {oi : Oper} {v : Value} (fr : Frame? R) (hi : ops[i]? = some oi) (hsel : ∀ (j : Nat) (o : Oper) cs b, ops[j]? = some o → o.op ≠ .select cs b)
    (hQ : ∀ c a w, Q (.panic c) (a.put oi.dst v) w → Q (.panic c) a w) :
    ∀ (fuel : Nat) (listed : Array Bool) (a : Act) (w : World), ClosedL ops listed →
      (∀ j oj, ops[j]? = some oj → j ≠ i → listed.getD j true = false → (∀ e ∈ oj.after, Region.binds .any e = true → e.on ≠ i) → oi.apart ops oj = true) →
      i ∈ Region.ready .any ops listed → Yields P ops oi v a →
      wpAnyT P ops Q R fuel (listed.setIfInBounds i true) (a.put oi.dst v) w → wpAnyT P ops Q R (fuel + 1) listed a w := by
  intro fuel
  induction fuel with
  | zero =>
    intro listed a w hcl _ hr hy H
    refine ⟨fun h => (by rw [h] at hr; cases hr), fun j hj => ?_⟩
    by_cases hji : j = i
    · subst hji; exact hy.wpOp hi ⟨fun _ => fr.refl w, H⟩
    · have := ready_mono hj hji
      rw [H.1] at this
      cases this
  | succ fuel ih =>
    intro listed a w hcl hfree hr hy H
    refine ⟨fun h => (by rw [h] at hr; cases hr), fun j hj => ?_⟩
    by_cases hji : j = i
    · subst hji; exact hy.wpOp hi ⟨fun _ => fr.refl w, H⟩
    · have h1 := H.2 j (ready_mono hj hji)
      obtain ⟨hjun, oj, hoj, hall⟩ := mem_ready.1 hj
      have hnot : ∀ e ∈ oj.after, Region.binds .any e = true → e.on ≠ i := fun e he hb heq => by
        have h1 := hall e he hb
        have h0 := (mem_ready.1 hr).1
        rw [heq] at h1
        rcases Nat.lt_or_ge i listed.size with h' | h'
        · simp [h'] at h0 h1; rw [h0] at h1; cases h1
        · simp [Array.getElem?_eq_none h'] at h1
      have h2 := wpOp_put hoj (hfree j oj hoj hji hjun hnot) (fun cs b => hsel i oi cs b hi) (fun cs b => hsel j oj cs b hoj) hQ hy h1
      have hfree' : ∀ k ok, ops[k]? = some ok → k ≠ i → (listed.setIfInBounds j true).getD k true = false →
          (∀ e ∈ ok.after, Region.binds .any e = true → e.on ≠ i) → oi.apart ops ok = true := fun k ok hk hki hun hno => by
        refine hfree k ok hk hki ?_ hno
        by_cases hjk : j = k
        · subst hjk; exact hjun
        · rw [getD_set_ne true hjk] at hun; exact hun
      refine wpOp_mono (fun a' w' h3 => ⟨fun hc => h3.2.1 (chkT_mono hc), ih (listed.setIfInBounds j true) a' w' (closed_set hcl hoj (fun e he hb => gd_tf (hall e he hb))) hfree' (ready_mono hr (Ne.symm hji)) h3.1 ?_⟩) h2
      rw [Array.setIfInBounds_comm _ _ hji]
      exact h3.2.2
end
theorem anyT_sound {P : Program} {R : World → World → Prop} (fr : Frame? R) {n : Nat} {ops : Array Oper} {Q : Exit → Env → World → Prop} (hops : ops.all (dstOk n) = true) (hsel : noSel ops = true) :
    ∀ (fuel : Nat) (listed : Array Bool) (a : Act) (w : World), ClosedL ops listed → a.tmps.size = n → a.defers = [] → (fuel = 0 → Region.ready .any ops listed = []) → listed.size = ops.size →
      leftOf listed ≤ fuel →
      anyT P R ops (Q .normal) fuel listed (envOf a) w → wpAnyT P ops (liftQ n Q) R fuel listed a w := by
  intro fuel
  induction fuel with
  | zero =>
    intro listed a w hcl hn hd h0 _ _ h
    exact ⟨h0 rfl, hn, hd, h⟩
  | succ fuel ih =>
    intro listed a w hcl hn hd _ hls hcount h
    have hQ : ∀ (o : Oper) (v : Value) (c : List PanicEntry) (a : Act) (w : World), liftQ n Q (.panic c) (a.put o.dst v) w → liftQ n Q (.panic c) a w := fun _ _ _ _ _ h => h.elim
    -- one more is laid: fewer are left
    have hless : ∀ i, i ∈ Region.ready .any ops listed → leftOf (listed.setIfInBounds i true) ≤ fuel := by
      intro i hi
      have := leftOf_set (lt_of_ready hi) (mem_ready.1 hi).1
      omega
    have hend : ∀ i, i ∈ Region.ready .any ops listed → (fuel = 0 → Region.ready .any ops (listed.setIfInBounds i true) = []) := by
      intro i hi h0
      have hc := hless i hi
      cases hr : Region.ready .any ops (listed.setIfInBounds i true) with
      | nil => rfl
      | cons j l =>
        have hj : j ∈ Region.ready .any ops (listed.setIfInBounds i true) := by rw [hr]; simp
        have h1 := (mem_ready.1 hj).1
        rw [leftOf_zero (by omega)] at h1
        cases h1
    have hdst : ∀ (i : Nat) (o : Oper), ops[i]? = some o → ∀ t, o.dst = some t → t < a.tmps.size := by
      intro i o ho t ht
      have := Array.all_eq_true_iff_forall_mem.1 hops o (Array.mem_of_getElem? ho)
      simp only [dstOk, ht, decide_eq_true_eq] at this
      exact hn ▸ this
    have next : ∀ (i : Nat) (o : Oper) (v : Value) (w' : World), i ∈ Region.ready .any ops listed → ops[i]? = some o →
        anyT P R ops (Q .normal) fuel (listed.setIfInBounds i true) (updO (envOf a) (ops.getD i default).dst v) w' → wpAnyT P ops (liftQ n Q) R fuel (listed.setIfInBounds i true) (a.put o.dst v) w' := by
      intro i o v w' hi ho hh
      have e : ops.getD i default = o := by simp [Array.getD_eq_getD_getElem?, ho]
      rw [e, ← envOf_put a o.dst v (hdst i o ho)] at hh
      exact ih _ _ _ (closed_set hcl ho (by obtain ⟨_, o', ho', hall⟩ := mem_ready.1 hi; rw [ho] at ho'; injection ho' with ho'; subst ho'; exact fun e he hb => gd_tf (hall e he hb))) (by rw [put_size]; exact hn) (by rw [put_defers]; exact hd) (hend i hi) (by simpa using hls) (hless i hi) hh
    unfold anyT at h
    cases hrd : Region.ready .any ops listed with
    | nil =>
      simp only [hrd] at h
      refine ⟨fun _ => ⟨hn, hd, h⟩, fun i hi => ?_⟩
      rw [hrd] at hi
      cases hi
    | cons i0 l =>
      simp only [hrd] at h
      cases hf : (i0 :: l).find? (canTake ops listed) with
      | some i =>
        simp only [hf] at h
        have hi : i ∈ Region.ready .any ops listed := by rw [hrd]; exact List.mem_of_find?_eq_some hf
        have hcan : canTake ops listed i = true := List.find?_some hf
        obtain ⟨_, o, ho, _⟩ := mem_ready.1 hi
        simp only [canTake, ho, Bool.and_eq_true, bne_iff_ne, ne_eq] at hcan
        obtain ⟨hk, hfree⟩ := hcan
        have e : ops.getD i default = o := by simp [Array.getD_eq_getD_getElem?, ho]
        -- the value that it yields
        have hy : ∃ v : Value, anyT P R ops (Q .normal) fuel (listed.setIfInBounds i true) (updO (envOf a) (ops.getD i default).dst v) w ∧ (Yields P ops o v a ∨ (kindOf o = 1 ∧ YieldsIf P ops (R w) o v a)) := by
          have fromS : ∀ {K : Value → World → Prop}, takeS P R (envOf a) o w K → Region.wanted o (yielded ops a.tmps) = true → ∃ v, K v w ∧ (Yields P ops o v a ∨ (kindOf o = 1 ∧ YieldsIf P ops (R w) o v a)) := by
            intro K hs hw
            obtain ⟨v, hK, hv⟩ := takeS_yields hk hs
            rcases hv with hv | ⟨h1, hv⟩
            · exact ⟨v, hK, .inl (.inl ⟨hw, hv⟩)⟩
            · exact ⟨v, hK, .inr ⟨h1, .inl ⟨hw, hv⟩⟩⟩
          unfold takeG at h
          rw [e] at h ⊢
          cases hg : o.guard with
          | none =>
            simp only [hg] at h
            exact fromS h (wanted_none hg)
          | some jw =>
            obtain ⟨j, want⟩ := jw
            simp only [hg] at h
            rcases gstep_cases hg h with ⟨hw, hs⟩ | ⟨hw, hs⟩
            · exact fromS hs hw
            · exact ⟨undef, hs, .inl (.inr ⟨hw, rfl⟩)⟩
        obtain ⟨v, hK, hy⟩ := hy
        have hn2 := next i o v w hi ho hK
        rcases hy with hy | ⟨h1, hy⟩
        · exact takePT fr ho (Region.noSelect_spec hsel) (hQ o v) fuel listed a w hcl (Region.free_spec ho hfree) hi hy hn2
        · exact takeRT fr ho (Region.noSelect_spec hsel) (hQ o v) (by simp [readsB, ho, h1]) fuel listed a w hcl (Region.free_spec ho hfree) hi hy hn2
      | none =>
        simp only [hf] at h
        refine ⟨fun h0 => (by rw [hrd] at h0; cases h0), fun i hi => ?_⟩
        have hall : ∀ (l : List Nat) (f : Nat → Prop), allL f l → ∀ i ∈ l, f i := by
          intro l
          induction l with
          | nil => intro f _ i hi; cases hi
          | cons x l ihl =>
            intro f hl i hi
            cases l with
            | nil => rcases List.mem_cons.1 hi with rfl | hi <;> first | exact hl | cases hi
            | cons y l =>
              rcases List.mem_cons.1 hi with rfl | hi
              · exact hl.1
              · exact ihl f hl.2 i hi
        have hs := hall _ _ h i (by rw [← hrd]; exact hi)
        obtain ⟨_, o, ho, _⟩ := mem_ready.1 hi
        have e : ops.getD i default = o := by simp [Array.getD_eq_getD_getElem?, ho]
        have split : ∀ v w', andIf (chkT ops listed i) (R w w') (anyT P R ops (Q .normal) fuel (listed.setIfInBounds i true) (updO (envOf a) (ops.getD i default).dst v) w') →
            (chkT ops listed i = true → R w w') ∧ wpAnyT P ops (liftQ n Q) R fuel (listed.setIfInBounds i true) (a.put o.dst v) w' := by
          intro v w' hh
          unfold andIf at hh
          split at hh
          · exact ⟨fun _ => hh.1, next i o v w' hi ho hh.2⟩
          · rename_i hc
            exact ⟨fun h' => (by rw [hc] at h'; cases h'), next i o v w' hi ho hh⟩
        unfold wpOp
        simp only [ho]
        unfold stepG at hs
        simp only [e] at hs split
        cases hg : o.guard with
        | none =>
          simp only [hg] at hs
          rw [if_pos (wanted_none hg)]
          exact .inl (stepS_sound hs split)
        | some jw =>
          obtain ⟨j, want⟩ := jw
          simp only [hg] at hs
          rcases gstep_cases hg hs with ⟨hw, hs⟩ | ⟨hw, hs⟩
          · rw [if_pos hw]; exact .inl (stepS_sound hs split)
          · rw [if_neg (by simp [hw])]; exact split _ _ hs

theorem drawT_sound {P : Program} (hm : P.follows .mixedOrders = true) {n id : Nat} {ops : Array Oper} {Q : Exit → Env → World → Prop} (hops : ops.all (dstOk n) = true) (hsel : noSel ops = true) {a : Act} {w : World}
    (hn : a.tmps.size = n) (hd : a.defers = []) (h : drawT P ops (Q .normal) (envOf a) w) : (Code.region id ops true).wp P (liftQ n Q) a w := by
  obtain ⟨R, fr, h⟩ := h
  refine wp_region_any hm (wpAny_of_T (R := R) _ _ _ _ (anyT_sound fr hops hsel _ _ _ _ (closed_start ops) hn hd ?_ (by simp) ?_ h))
  · intro h0
    have : ops = #[] := Array.eq_empty_of_size_eq_zero h0
    subst this
    rfl
  · simp [leftOf, List.countP_replicate]

theorem shT_sound {P : Program} (hm : P.follows .mixedOrders = true) {n : Nat} : ∀ (c : Code) (Q : Exit → Env → World → Prop) (a : Act) (w : World), codeOk n c = true → a.tmps.size = n → a.defers = [] →
    shT P c Q (envOf a) w → c.wp P (liftQ n Q) a w := by
  intro c
  induction c with
  | skip => intro Q a w _ hn hd h; exact wp_skip ⟨hn, hd, h⟩
  | region id ops draw =>
    intro Q a w hok hn hd h
    simp only [codeOk, Bool.and_eq_true, Bool.or_eq_true, Bool.not_eq_true'] at hok
    cases draw with
    | false =>
      refine wp_region_list (opsS_sound ops.toList a w (fun o ho => ?_) hn hd h)
      exact Array.all_eq_true_iff_forall_mem.1 hok.1 o (by simpa using ho)
    | true => exact drawT_sound hm hok.1 (hok.2.resolve_left (by simp)) hn hd h
  | seq x y ihx ihy =>
    intro Q a w hok hn hd h
    simp only [codeOk, Bool.and_eq_true] at hok
    refine wp_seq (Code.wp_mono (fun e a w hq => ?_) (ihx _ a w hok.1 hn hd h))
    have := lift_then hq
    cases e with
    | normal => exact ihy _ _ _ hok.2 this.1 this.2.1 this.2.2
    | _ => exact this
  | cond c x y ihx ihy =>
    intro Q a w hok hn hd h
    simp only [codeOk, Bool.and_eq_true] at hok
    simp only [shT, condS, ev_envOf] at h
    split at h
    · rename_i hc; exact wp_cond_true hc (ihx _ _ _ hok.1 hn hd h)
    · rename_i hc; exact wp_cond_false hc (ihy _ _ _ hok.2 hn hd h)
    · exact h.elim
  | block id x ih =>
    intro Q a w hok hn hd h
    exact wp_block (Code.wp_mono (fun e a w hq => lift_block hq) (ih _ a w hok hn hd h))
  | loop x ih =>
    intro Q a w hok hn hd h
    obtain ⟨I, μ, h0, hround⟩ := h
    refine wp_loop (fun a w => a.tmps.size = n ∧ a.defers = [] ∧ I (envOf a) w) (fun a w => μ (envOf a) w) ⟨hn, hd, h0⟩ ?_
    intro a w ⟨hn, hd, hI⟩
    refine Code.wp_mono (fun e a w hq => ?_) (ih _ a w hok hn hd (hround _ _ hI))
    have := lift_then hq
    cases e with
    | normal => exact ⟨⟨this.1, this.2.1, this.2.2.1⟩, this.2.2.2⟩
    | _ => exact this
  | exit id => intro Q a w _ hn hd h; exact wp_exit ⟨hn, hd, h⟩
  | ret => intro Q a w _ hn hd h; exact wp_ret ⟨hn, hd, h⟩
  | _ => intro Q a w _ _ _ h; exact h.elim

theorem callT_of_sh {P : Program} (hm : P.follows .mixedOrders = true) {f : FuncId} {fn : Func} {c : Code} {args : Array Value} {K : Value → World → Prop} {w : World}
    (hf : P.funcs[f]? = some fn) (hb : fn.body = some c) (hnm : (fn.name == "runtime.NumGoroutine") = false) (hok : codeOk fn.ntmps c = true) (hargs : args.size ≤ fn.ntmps)
    (h : shT P c (retS P fn.results K) (env0 args) w) : CALL P f args w K := by
  refine ⟨by simp [callOk, hf, hnm, hb], calls_of_wp hf hb ?_⟩
  refine Code.wp_mono (fun e a w hq => retS_post hq) (shT_sound hm (n := fn.ntmps) c _ _ w hok (by simp; omega) rfl ?_)
  have e : envOf { tmps := args ++ Array.replicate (fn.ntmps - args.size) undef, defers := [] } = env0 args := by
    funext t
    unfold envOf env0
    simp only [Array.getD_eq_getD_getElem?]
    by_cases ht : t < args.size
    · simp [Array.getElem?_append_left ht]
    · rw [Array.getElem?_append_right (by omega), Array.getElem?_eq_none (xs := args) (by omega)]
      by_cases h2 : t - args.size < fn.ntmps - args.size
      · simp [h2]
      · rw [Array.getElem?_eq_none (by simp; omega)]
  rw [e]
  exact h

theorem callT_of_eq {P : Program} (hm : P.follows .mixedOrders = true) {f : FuncId} {fn : Func} {c : Code} {args : Array Value} {K : Value → World → Prop} {w : World} {B : Prop}
    (hf : P.funcs[f]? = some fn) (hb : fn.body = some c) (hnm : (fn.name == "runtime.NumGoroutine") = false) (hok : codeOk fn.ntmps c = true) (hargs : args.size ≤ fn.ntmps)
    (e : shT P c (retS P fn.results K) (env0 args) w = B) (h : B) : CALL P f args w K := callT_of_sh hm hf hb hnm hok hargs (by rw [e]; exact h)

end Go.Sh
end
section
set_option linter.unusedVariables false
namespace Go.Proofs.Ytlnkdphecinnnaa
open Go Go.Sh
attribute [local irreducible] X XU XP XR CALL loopS resC closS
/-- (*cellarage/cache.Cache).Load -/
def B_cache_Cache_LoadT (x0 x1 x2 x3 : Value) (w : World) (K : Value → World → Prop) : Prop :=
  X Try.prog (binOpG .eql 24 (.tmp 13) (.const (.pointer none)) x0 (.pointer none)) w fun v1_14 w1 =>
  gstep v1_14 false (fun w2 K => K x0 w2) w1 fun v2_16 w3 =>
  gstep v1_14 false (fun w4 K => X Try.prog (nilS v2_16) w4 K) w3 fun v3_17 w5 =>
  gstep v1_14 false (fun w6 K => X Try.prog (Instr.fieldAt 87 v3_17 0) w6 K) w5 fun v4_18 w7 =>
  gstep v1_14 false (fun w8 K => X Try.prog (Instr.loadAt 3 v4_18) w8 K) w7 fun v5_19 w9 =>
  gstep v1_14 false (fun w10 K => X Try.prog (binOpG .eql 3 (.tmp 19) (.const (.int .i64 0)) v5_19 (.int .i64 0)) w10 K) w9 fun v6_20 w11 =>
  X Try.prog (pickS v1_14 (.bool true) v6_20) w11 fun v7_21 w12 =>
  gstep v7_21 false (fun w13 K => K x0 w13) w12 fun v8_23 w14 =>
  gstep v7_21 false (fun w15 K => K x1 w15) w14 fun v9_24 w16 =>
  gstep v7_21 false (fun w17 K => CALL Try.prog 18 #[v8_23, v9_24] w17 K) w16 fun v10_25 w18 =>
  X Try.prog (pickS v7_21 (.bool true) v10_25) w18 fun v11_26 w19 =>
  condS v11_26 (
  K (.tuple #[]) w19) (
  joinS (fun ρ1 w20 =>
  X Try.prog (Builtin.len_ #[29] 3 #[(ρ1 2)]) w20 fun v12_54 w21 =>
  X Try.prog (Instr.makeMap 88 (some v12_54)) w21 fun v13_55 w22 =>
  X Try.prog (Builtin.len_ #[29] 3 #[(ρ1 2)]) w22 fun v14_57 w23 =>
  loopS (fun Q2 ρ2 w24 =>
  X Try.prog (binOp .lss 3 (ρ2 58) (ρ2 57)) w24 fun v15_59 w25 =>
  condS v15_59 (
  joinS (fun ρ3 w26 =>
  X Try.prog (binOp .add 3 (ρ3 58) (.int .i64 1)) w26 fun v16_76 w27 =>
  Q2 .normal (upds ρ3 [(58, v16_76), (76, v16_76)]) w27) fun J3 =>
  X Try.prog (Instr.indexAt 29 (ρ2 56) (ρ2 58)) w25 fun v17_60 w28 =>
  X Try.prog (Instr.loadAt 48 v17_60) w28 fun v18_61 w29 =>
  X Try.prog (Instr.alloc 48 true (.tuple #[])) w29 fun v19_10 w30 =>
  XU Try.prog (Instr.storeAt 48 v19_10 v18_61) w30 fun w31 =>
  X Try.prog (Instr.fieldAt 48 v19_10 0) w31 fun v20_64 w32 =>
  X Try.prog (Instr.loadAt 44 v20_64) w32 fun v21_65 w33 =>
  X Try.prog (Instr.lookup 88 (ρ2 8) v21_65 true) w33 fun v22_66 w34 =>
  X Try.prog (Instr.extract v22_66 0) w34 fun v23_67 w35 =>
  X Try.prog (Instr.extract v22_66 1) w35 fun v24_68 w36 =>
  X Try.prog (Instr.alloc 46 true (.tuple #[])) w36 fun v25_11 w37 =>
  XU Try.prog (Instr.storeAt 46 v25_11 v23_67) w37 fun w38 =>
  X Try.prog (Op.unary .not v24_68) w38 fun v26_70 w39 =>
  condS v26_70 (
  X Try.prog (Instr.fieldAt 48 v19_10 0) w39 fun v27_72 w40 =>
  X Try.prog (Instr.loadAt 44 v27_72) w40 fun v28_73 w41 =>
  X Try.prog (Instr.fieldAt 48 v19_10 1) w41 fun v29_74 w42 =>
  X Try.prog (Instr.loadAt 46 v29_74) w42 fun v30_75 w43 =>
  XU Try.prog (Instr.mapUpdate 88 (ρ2 8) v28_73 v30_75) w43 fun w44 =>
  J3 (upds ρ2 [(75, v30_75), (74, v29_74), (73, v28_73), (72, v27_72), (71, (ρ2 8)), (70, v26_70), (69, v24_68), (12, v24_68), (11, v25_11), (68, v24_68), (67, v23_67), (62, v22_66), (66, v22_66), (65, v21_65), (64, v20_64), (63, (ρ2 8)), (10, v19_10), (61, v18_61), (60, v17_60), (59, v15_59)]) w44) (
  J3 (upds ρ2 [(70, v26_70), (69, v24_68), (12, v24_68), (11, v25_11), (68, v24_68), (67, v23_67), (62, v22_66), (66, v22_66), (65, v21_65), (64, v20_64), (63, (ρ2 8)), (10, v19_10), (61, v18_61), (60, v17_60), (59, v15_59)]) w39)) (
  Q2 (.exit 0) (upds ρ2 [(59, v15_59)]) w25)) (inBlockS 0 (thenS (fun ρ4 w45 =>
  X Try.prog (nilS (ρ4 0)) w45 fun v31_78 w46 =>
  X Try.prog (Instr.fieldAt 87 v31_78 2) w46 fun v32_79 w47 =>
  X Try.prog (Instr.loadAt 85 v32_79) w47 fun v33_80 w48 =>
  XU Try.prog (Instr.mapUpdate 85 v33_80 (ρ4 1) (ρ4 8)) w48 fun w49 =>
  X Try.prog (nilS (ρ4 0)) w49 fun v34_85 w50 =>
  X Try.prog (Instr.fieldAt 87 v34_85 1) w50 fun v35_86 w51 =>
  X Try.prog (Instr.loadAt 35 v35_86) w51 fun v36_87 w52 =>
  X Try.prog (Instr.buildSlice 35 1 #[(0, (ρ4 1))]) w52 fun v37_89 w53 =>
  X Try.prog (Builtin.append_ #[35, 35] 35 #[v36_87, v37_89]) w53 fun v38_90 w54 =>
  X Try.prog (nilS (ρ4 0)) w54 fun v39_91 w55 =>
  X Try.prog (Instr.fieldAt 87 v39_91 1) w55 fun v40_92 w56 =>
  XU Try.prog (Instr.storeAt 35 v40_92 v38_90) w56 fun w57 =>
  K (.tuple #[]) w57) (retS Try.prog (Try.f20).results K))) (upds ρ1 [(58, (.int .i64 0)), (57, v14_57), (56, (ρ1 2)), (8, v13_55), (55, v13_55), (54, v12_54), (53, (ρ1 2))]) w23) fun J1 =>
  ∃ R, Frame? R ∧
  XP Try.prog (nilS x0) (drewW w19) fun v41_28 w58 =>
  XP Try.prog (Instr.fieldAt 87 v41_28 1) w58 fun v42_29 w59 =>
  XR Try.prog R (Instr.loadAt 35 v42_29) w59 fun v43_30 w60 =>
  XP Try.prog (Builtin.len_ #[35] 3 #[v43_30]) w60 fun v44_31 w61 =>
  XP Try.prog (nilS x0) w61 fun v45_33 w62 =>
  XP Try.prog (Instr.fieldAt 87 v45_33 0) w62 fun v46_34 w63 =>
  XR Try.prog R (Instr.loadAt 3 v46_34) w63 fun v47_35 w64 =>
  XP Try.prog (binOpG .eql 3 (.tmp 31) (.tmp 35) v44_31 v47_35) w64 fun v48_36 w65 =>
  condS v48_36 (
  ∃ R, Frame? R ∧
  XP Try.prog (nilS x0) (drewW w65) fun v49_39 w66 =>
  XP Try.prog (Instr.fieldAt 87 v49_39 1) w66 fun v50_40 w67 =>
  XR Try.prog R (Instr.loadAt 35 v50_40) w67 fun v51_41 w68 =>
  XP Try.prog (nilS x0) w68 fun v52_44 w69 =>
  XP Try.prog (Instr.fieldAt 87 v52_44 1) w69 fun v53_45 w70 =>
  XR Try.prog R (Instr.loadAt 35 v53_45) w70 fun v54_46 w71 =>
  XP Try.prog (Builtin.len_ #[35] 3 #[v54_46]) w71 fun v55_47 w72 =>
  XR Try.prog R (convert 3 30 v55_47) w72 fun v56_48 w73 =>
  XP Try.prog (binOp .rem 30 x3 v56_48) w73 fun v57_49 w74 =>
  XP Try.prog (Instr.indexAt 35 v51_41 v57_49) w74 fun v58_50 w75 =>
  XR Try.prog R (Instr.loadAt 3 v58_50) w75 fun v59_51 w76 =>
  CALL Try.prog 19 #[x0, v59_51] w76 fun v60_52 w77 =>
  J1 (upds (env0 #[x0, x1, x2, x3]) [(52, v60_52), (51, v59_51), (50, v58_50), (49, v57_49), (48, v56_48), (47, v55_47), (46, v54_46), (45, v53_45), (44, v52_44), (43, x0), (42, x3), (41, v51_41), (40, v50_40), (39, v49_39), (38, x0), (37, x0), (36, v48_36), (35, v47_35), (34, v46_34), (33, v45_33), (32, x0), (31, v44_31), (30, v43_30), (29, v42_29), (28, v41_28), (27, x0), (26, v11_26), (25, v10_25), (24, v9_24), (23, v8_23), (22, v7_21), (21, v7_21), (20, v6_20), (19, v5_19), (18, v4_18), (17, v3_17), (16, v2_16), (15, v1_14), (14, v1_14), (13, x0)]) w77) (
  J1 (upds (env0 #[x0, x1, x2, x3]) [(36, v48_36), (35, v47_35), (34, v46_34), (33, v45_33), (32, x0), (31, v44_31), (30, v43_30), (29, v42_29), (28, v41_28), (27, x0), (26, v11_26), (25, v10_25), (24, v9_24), (23, v8_23), (22, v7_21), (21, v7_21), (20, v6_20), (19, v5_19), (18, v4_18), (17, v3_17), (16, v2_16), (15, v1_14), (14, v1_14), (13, x0)]) w65))

theorem eq_cache_Cache_LoadT (x0 x1 x2 x3 : Value) (w : World) (K : Value → World → Prop) :
    shT Try.prog (Try.f20.body.getD .skip) (retS Try.prog Try.f20.results K) (env0 #[x0, x1, x2, x3]) w = B_cache_Cache_LoadT x0 x1 x2 x3 w K := by kernel_rfl

theorem call_cache_Cache_LoadT (x0 x1 x2 x3 : Value) (w : World) (K : Value → World → Prop) (h : B_cache_Cache_LoadT x0 x1 x2 x3 w K) : CALL Try.prog 20 #[x0, x1, x2, x3] w K :=
  callT_of_eq (c := Try.f20.body.getD .skip) mixed Try.func20 (by kernel_rfl) (by kernel_rfl) (by kernel_rfl) (Nat.le_of_ble_eq_true (by kernel_rfl)) (eq_cache_Cache_LoadT x0 x1 x2 x3 w K) h

end Go.Proofs.Ytlnkdphecinnnaa
end
section
/- A shelf's rows are loaded. -/
set_option linter.unusedVariables false
set_option linter.unusedSimpArgs false
namespace Go.Proofs.Ytlnkdphecinnnaa
open Go Go.Sh Go.RowKit
attribute [local irreducible] X XU XP XR CALL loopS resC closS
theorem CacheAt.mono {w : World} {D E : Nat → Prop} {cb room : Nat} {T : Tbl} (h : CacheAt w D cb room T) (hd : ∀ g, D g → E g) (hl : ∀ g, E g → g < w.heap.size) : CacheAt w E cb room T := by
  obtain ⟨⟨vo, mb, tb, h1, h2, h3, h4, h5, h6, h7, h8, h9, h10⟩, hlt, hnd, hi, hs, hf⟩ := h
  exact ⟨⟨vo, mb, tb, h1, h2, h3, h4, h5, h6, fun p hp => ⟨(h7 p hp).1, hd _ (h7 p hp).2⟩, hd _ h8, hd _ h9, fun g hg => hd g (h10 g hg)⟩, hl, hnd, hi, hs, hf⟩
theorem row_at {w : World} {v : Value} {l : List Ex} {i : Nat} (hl : RowK 35 Ex.cs w v l) (hi : i < l.length) :
    ∃ g o, (∀ w', (Instr.indexAt 29 v (.int .i64 (i : Int))).run Try.prog w' = .ok (.pointer (some ⟨g, o, none⟩)) w') ∧ (∀ j u, l[i].cs[j]? = some u → w.cell? ⟨g, o + j, none⟩ = some u) := by
  obtain ⟨ad, hix, hcs⟩ := hl.at Try.underlying29 info_48 sz_48 (kd := .i64) (ii := (i : Int)) i rfl hi
  obtain ⟨g, o, sp⟩ := ad
  have h0 := hcs 0 _ (List.getElem?_eq_getElem (by rw [Ex.cs_len]; omega))
  have : sp = none := by simpa [Addr.add] using World.cell?_spot h0
  subst this
  exact ⟨g, o, hix, fun j u hu => by have := hcs j u hu; rw [add_plain] at this; exact this⟩
theorem X_takeRow {w : World} {v : Value} {l : List Ex} {i : Nat} {K : Value → Value → Value → World → Prop} (hl : RowK 35 Ex.cs w v l) (hi : i < l.length)
    (hK : ∀ v1 v2 q w1, Ext w w1 → w.heap.size ≤ q → w1.heap[q]? = some (.cells l[i].cs.toArray 48 (0, 0)) → K v1 v2 (ptr q) w1) :
    X Try.prog (Instr.indexAt 29 v (.int .i64 (i : Int))) w fun v1 w1 => X Try.prog (Instr.loadAt 48 v1) w1 fun v2 w2 => X Try.prog (Instr.alloc 48 true (.tuple #[])) w2 fun v3 w3 => XU Try.prog (Instr.storeAt 48 v3 v2) w3 fun w4 => K v1 v2 v3 w4 := by
  obtain ⟨g, o, hix, hc⟩ := row_at hl hi
  refine X_of (hix _) ?_
  refine X_of (load_cells Try.underlying48 agg_48 info_48 (l := l[i].cs) (by rw [sz_48, Ex.cs_len]) (fun j u hj => by rw [add_plain]; exact hc j u hj)) ?_
  refine X_alloc zero_48 ?_
  have hq := newB_get w (List.replicate 32 (Value.int .u8 0) ++ [Value.int .u32 0] ++ [Value.int .i64 0, Value.int .i64 0]).toArray 48
  have hxq := newB_ext w (List.replicate 32 (Value.int .u8 0) ++ [Value.int .u32 0] ++ [Value.int .i64 0, Value.int .i64 0]).toArray 48
  show XU _ _ (newB w (List.replicate 32 (Value.int .u8 0) ++ [Value.int .u32 0] ++ [Value.int .i64 0, Value.int .i64 0]).toArray 48) _
  generalize newB w (List.replicate 32 (Value.int .u8 0) ++ [Value.int .u32 0] ++ [Value.int .i64 0, Value.int .i64 0]).toArray 48 = w2 at hq hxq ⊢
  refine XU_storeAgg info_48 hq (by rw [sz_48]; simp) (by rw [sz_48, Ex.cs_len]) (Ex.one _) ?_
  exact hK _ _ _ _ (Ext.seq hxq (setAt_keep _ _ _ _ _) (fun j hj => by omega)) (Nat.le_refl _) (setAt_same (lt_of_blk hq))
theorem row_key {w : World} {q : Nat} {e : Ex} (h : w.heap[q]? = some (.cells e.cs.toArray 48 (0, 0))) : (Instr.loadAt 44 (ptr q)).run Try.prog w = .ok e.k.v w :=
  load_cells Try.underlying44 agg_44 info_44 (l := e.k.cs) (by rw [sz_44, Ky.cs_len]) (fun j u hj => by rw [add_plain, Nat.zero_add, cell_blk h]; simpa using e.keyAt hj)
theorem Ex.plAt (e : Ex) {j : Nat} {u : Value} (h : [Value.int .i64 e.off, Value.int .i64 e.len][j]? = some u) : e.cs[33 + j]? = some u := by
  unfold Ex.cs
  rw [List.getElem?_append_right (by rw [Ky.cs_len]; omega), Ky.cs_len, show 33 + j - 33 = j by omega]
  exact h
theorem row_pl {w : World} {q : Nat} {e : Ex} (h : w.heap[q]? = some (.cells e.cs.toArray 48 (0, 0))) : (Instr.loadAt 46 (.pointer (some ⟨q, 0 + 33, none⟩))).run Try.prog w = .ok (plV (e.off, e.len)) w :=
  load_cells Try.underlying46 agg_46 info_46 (l := [.int .i64 e.off, .int .i64 e.len]) (by rw [sz_46]; rfl) (fun j u hj => by rw [add_plain, Nat.zero_add, cell_blk h]; simpa using e.plAt hj)
theorem cwu {n : Nat} (h : n < 18446744073709551616) : IntKind.u64.wrap (n : Int) = (n : Int) := by rw [wrap_u64]; omega
theorem drop_lt {T : Tbl} {x : Int} (h : x ∈ shs T) : (dropT T x).length < T.length := by
  obtain ⟨p, hp, hps⟩ := List.mem_map.1 h
  refine List.length_filter_lt_length_iff_exists.2 ⟨p, hp, ?_⟩
  simp [hps]
theorem getD_mem {T : Tbl} {i : Nat} (h : i < T.length) : (shs T).getD i 0 ∈ shs T := by
  have hlt : i < (shs T).length := by rw [List.length_map]; exact h
  rw [List.getD_eq_getElem?_getD, List.getElem?_eq_getElem hlt]
  exact List.getElem_mem hlt
def loadT (T : Tbl) (room : Nat) (s : Int) (rows : List Ex) (d : Nat) : Tbl := if room = 0 ∨ s ∈ shs T then T else (if T.length = room then dropT T ((shs T).getD (d % T.length) 0) else T) ++ [(s, rows)]
theorem loadT_small {T : Tbl} {room : Nat} {s : Int} {rows : List Ex} {d : Nat} (h : T.length ≤ room) : (loadT T room s rows d).length ≤ room := by
  unfold loadT
  split
  · exact h
  · rename_i hn
    rw [List.length_append, List.length_singleton]
    split
    · rename_i he
      have hpos : 0 < T.length := by omega
      have := drop_lt (getD_mem (Nat.mod_lt d hpos))
      omega
    · omega
theorem keyed44_all (es : List (Ky × Pl)) : ∀ p ∈ es.map entV, ∃ x, keyOf Try.prog 44 p.1 = some x := fun p hp => by
  obtain ⟨e, _, rfl⟩ := List.mem_map.1 hp
  exact keyOf_ky e.1
section
variable {w : World} {K : Value → World → Prop}
theorem Load_nil {s r d : Value} (hK : K (.tuple #[]) w) : CALL Try.prog 20 #[.pointer none, s, r, d] w K := by
  apply call_cache_Cache_LoadT
  unfold B_cache_Cache_LoadT
  (repeat (simp only [XP_extract0, XP_extract1, XP_extract2, XP_extract3, X_extract0, X_extract1, X_extract2, X_extract3, X_nilS, X_eql_nil_24, X_neq_nil_24, X_eql_nil_103, X_neq_nil_103, X_eql, X_neq, X_lss, X_leq, X_gtr, X_geq, X_not, X_min, X_max, X_len_79, X_len_35, XP_nilS, XP_eql, XP_neq, XP_lss, XP_leq, XP_gtr, XP_geq, XP_not, XP_min, XP_max, XP_len_79, XP_eql_nil_24, X_str_eql, X_str_neq, XP_str_eql, XP_str_neq, GS, gs_u, decide_true, decide_false, Option.isNone_some, Option.isSome_some, Option.isNone_none, Option.isSome_none, eq_self, Bool.not_true, Bool.not_false, Int.reduceEq, Int.reduceNe, Int.reduceLT, Int.reduceLE, Int.reduceGT, Int.reduceGE]))
  exact hK
/-- What is done where there is room. -/
def AfterDrop (w w1 : World) (D : Nat → Prop) (cb room : Nat) (T1 : Tbl) : Prop := Keep D w w1 ∧ CacheAt w1 D cb room T1
set_option maxHeartbeats 2000000 in
theorem Load_spec {D : Nat → Prop} {cb room : Nat} {T : Tbl} {s : Int} {vr : Value} {rows : List Ex} {d : Nat} (h : CacheAt w D cb room T) (hs : I64 s) (hrow : RowK 35 Ex.cs w vr rows) (hrn : rows.length ≤ 1000000) (hd : d < 18446744073709551616)
    (hapart : 0 < rows.length → ∀ g, vr.ownBlock = some g → ¬ D g)
    (hK : ∀ w1, Keep D w w1 → CacheAt w1 (fun g => D g ∨ (w.heap.size ≤ g ∧ g < w1.heap.size)) cb room (loadT T room s rows d) → K (.tuple #[]) w1) : CALL Try.prog 20 #[ptr cb, .int .i64 s, vr, .int .u64 (d : Int)] w K := by
  have same : loadT T room s rows d = T → K (.tuple #[]) w := fun he => hK w (Keep.refl _ _) (by rw [he]; exact h.mono (fun g hg => .inl hg) (fun g hg => by rcases hg with hg | hg; exact h.lt g hg; exact hg.2))
  have hcell : ∃ vo mb, w.heap[cb]? = some (.cells #[.int .i64 (room : Int), vo, .map (some mb)] 87 (0, 0)) ∧ OwnK 1 3 intC w 0 vo (shs T) := by
    obtain ⟨⟨vo, mb, tb, h1, h2, _⟩, _⟩ := h
    exact ⟨vo, mb, h1, h2⟩
  obtain ⟨vo, mb, h1, h2⟩ := hcell
  apply call_cache_Cache_LoadT
  unfold B_cache_Cache_LoadT
  (repeat (simp only [XP_extract0, XP_extract1, XP_extract2, XP_extract3, X_extract0, X_extract1, X_extract2, X_extract3, X_nilS, X_eql_nil_24, X_neq_nil_24, X_eql_nil_103, X_neq_nil_103, X_eql, X_neq, X_lss, X_leq, X_gtr, X_geq, X_not, X_min, X_max, X_len_79, X_len_35, XP_nilS, XP_eql, XP_neq, XP_lss, XP_leq, XP_gtr, XP_geq, XP_not, XP_min, XP_max, XP_len_79, XP_eql_nil_24, X_str_eql, X_str_neq, XP_str_eql, XP_str_neq, GS, gs_u, decide_true, decide_false, Option.isNone_some, Option.isSome_some, Option.isNone_none, Option.isSome_none, eq_self, Bool.not_true, Bool.not_false, Int.reduceEq, Int.reduceNe, Int.reduceLT, Int.reduceLE, Int.reduceGT, Int.reduceGE, X_field_87_0]))
  refine X_of (run_loadAt (v := .int .i64 (room : Int)) agg_3 ((cell_blk h1).trans rfl)) ?_
  by_cases h0 : room = 0
  · have c : decide ((room : Int) = 0) = true := decide_eq_true (by omega)
    (repeat (simp only [XP_extract0, XP_extract1, XP_extract2, XP_extract3, X_extract0, X_extract1, X_extract2, X_extract3, X_nilS, X_eql_nil_24, X_neq_nil_24, X_eql_nil_103, X_neq_nil_103, X_eql, X_neq, X_lss, X_leq, X_gtr, X_geq, X_not, X_min, X_max, X_len_79, X_len_35, XP_nilS, XP_eql, XP_neq, XP_lss, XP_leq, XP_gtr, XP_geq, XP_not, XP_min, XP_max, XP_len_79, XP_eql_nil_24, X_str_eql, X_str_neq, XP_str_eql, XP_str_neq, GS, gs_u, decide_true, decide_false, Option.isNone_some, Option.isSome_some, Option.isNone_none, Option.isSome_none, eq_self, Bool.not_true, Bool.not_false, Int.reduceEq, Int.reduceNe, Int.reduceLT, Int.reduceLE, Int.reduceGT, Int.reduceGE, c]))
    exact same (if_pos (.inl h0))
  have c : decide ((room : Int) = 0) = false := decide_eq_false (by omega)
  (repeat (simp only [XP_extract0, XP_extract1, XP_extract2, XP_extract3, X_extract0, X_extract1, X_extract2, X_extract3, X_nilS, X_eql_nil_24, X_neq_nil_24, X_eql_nil_103, X_neq_nil_103, X_eql, X_neq, X_lss, X_leq, X_gtr, X_geq, X_not, X_min, X_max, X_len_79, X_len_35, XP_nilS, XP_eql, XP_neq, XP_lss, XP_leq, XP_gtr, XP_geq, XP_not, XP_min, XP_max, XP_len_79, XP_eql_nil_24, X_str_eql, X_str_neq, XP_str_eql, XP_str_neq, GS, gs_u, decide_true, decide_false, Option.isNone_some, Option.isSome_some, Option.isNone_none, Option.isSome_none, eq_self, Bool.not_true, Bool.not_false, Int.reduceEq, Int.reduceNe, Int.reduceLT, Int.reduceLE, Int.reduceGT, Int.reduceGE, c]))
  refine Has_spec h hs ?_
  by_cases hin : s ∈ shs T
  · have c : decide (s ∈ shs T) = true := decide_eq_true hin
    (repeat (simp only [XP_extract0, XP_extract1, XP_extract2, XP_extract3, X_extract0, X_extract1, X_extract2, X_extract3, X_nilS, X_eql_nil_24, X_neq_nil_24, X_eql_nil_103, X_neq_nil_103, X_eql, X_neq, X_lss, X_leq, X_gtr, X_geq, X_not, X_min, X_max, X_len_79, X_len_35, XP_nilS, XP_eql, XP_neq, XP_lss, XP_leq, XP_gtr, XP_geq, XP_not, XP_min, XP_max, XP_len_79, XP_eql_nil_24, X_str_eql, X_str_neq, XP_str_eql, XP_str_neq, GS, gs_u, decide_true, decide_false, Option.isNone_some, Option.isSome_some, Option.isNone_none, Option.isSome_none, eq_self, Bool.not_true, Bool.not_false, Int.reduceEq, Int.reduceNe, Int.reduceLT, Int.reduceLE, Int.reduceGT, Int.reduceGE, c]))
    exact same (if_pos (.inr hin))
  have c : decide (s ∈ shs T) = false := decide_eq_false hin
  (repeat (simp only [XP_extract0, XP_extract1, XP_extract2, XP_extract3, X_extract0, X_extract1, X_extract2, X_extract3, X_nilS, X_eql_nil_24, X_neq_nil_24, X_eql_nil_103, X_neq_nil_103, X_eql, X_neq, X_lss, X_leq, X_gtr, X_geq, X_not, X_min, X_max, X_len_79, X_len_35, XP_nilS, XP_eql, XP_neq, XP_lss, XP_leq, XP_gtr, XP_geq, XP_not, XP_min, XP_max, XP_len_79, XP_eql_nil_24, X_str_eql, X_str_neq, XP_str_eql, XP_str_neq, GS, gs_u, decide_true, decide_false, Option.isNone_some, Option.isSome_some, Option.isNone_none, Option.isSome_none, eq_self, Bool.not_true, Bool.not_false, Int.reduceEq, Int.reduceNe, Int.reduceLT, Int.reduceLE, Int.reduceGT, Int.reduceGE, c]))
  have hload : loadT T room s rows d = (if T.length = room then dropT T ((shs T).getD (d % T.length) 0) else T) ++ [(s, rows)] := if_neg (by rintro (h | h); exact h0 h; exact hin h)
  rw [hload] at hK
  have hsm := h.small
  have hfit := h.fits
  obtain ⟨ao, co, eo⟩ := (OwnK.rowK (by decide) intC_len h2).slice
  have hlT : (shs T).length = T.length := List.length_map ..
  refine joinS_of (fun ρ w1 => ∃ T1 : Tbl, (if T.length = room then dropT T ((shs T).getD (d % T.length) 0) else T) = T1 ∧ AfterDrop w w1 D cb room T1 ∧ s ∉ shs T1 ∧ T1.length < room ∧ ρ 0 = ptr cb ∧ ρ 1 = .int .i64 s ∧ ρ 2 = vr) ?_ ?_
  · rintro ρ w1 ⟨T1, hT1, ⟨hk1, hc1⟩, hin1, hlen1, r0, r1, r2⟩
    rw [hT1] at hK
    rw [r2]
    have hrow1 := hrow.keep hk1 hapart
    obtain ⟨ar, cr, er⟩ := hrow.slice
    rw [er, X_len_29]
    refine X_makeMap Try.underlying88 _ ?_
    have hx2 := newM_ext w1
    have hm2 := newM_at w1
    generalize newM w1 = w2 at hx2 hm2 ⊢
    rw [X_len_29, ← er]
    obtain ⟨⟨vo1, mb1, tb1, b1, b2, b3, b4, b5, b6, b7, b8, b9, b10⟩, blt, bnd, bi, bsm, bfit⟩ := hc1
    refine loopE (fun ρ wr => ∃ i : Nat, i ≤ rows.length ∧ Ext w1 wr ∧ MapAt wr w1.heap.size ((tabR (rows.take i)).map entV) ∧ ρ 58 = .int .i64 (i : Int) ∧ ρ 57 = .int .i64 (rows.length : Int) ∧ ρ 56 = vr ∧ ρ 8 = .map (some w1.heap.size) ∧ ρ 0 = ptr cb ∧ ρ 1 = .int .i64 s)
      (fun ρ wr => match ρ 58 with | .int _ s => (rows.length - s).toNat | _ => 0)
      (fun ρ wr => Ext w1 wr ∧ MapAt wr w1.heap.size ((tabR rows).map entV) ∧ ρ 8 = .map (some w1.heap.size) ∧ ρ 0 = ptr cb ∧ ρ 1 = .int .i64 s) ?_ ?_ ?_
    · exact ⟨0, by omega, hx2, hm2, rfl, rfl, rfl, rfl, r0, r1⟩
    · rintro J hJ ρ2 wr ⟨i, hi, hx, hm, q58, q57, q56, q8, q0, q1⟩
      rw [q58, q57, q56, q8, X_lss, condS_bool]
      by_cases hie : i = rows.length
      · rw [if_neg (by simp; omega)]
        rw [hie, List.take_of_length_le (Nat.le_refl _)] at hm
        exact hJ _ _ ⟨hx, hm, q8, q0, q1⟩
      rw [if_pos (by simp; omega)]
      have hlt : i < rows.length := by omega
      have hts := tabR_succ rows i hlt
      refine joinS_of (fun ρ3 w3 => Ext w1 w3 ∧ MapAt w3 w1.heap.size ((tabR (rows.take (i + 1))).map entV) ∧ ρ3 58 = .int .i64 (i : Int) ∧ ρ3 57 = .int .i64 (rows.length : Int) ∧ ρ3 56 = vr ∧ ρ3 8 = .map (some w1.heap.size) ∧ ρ3 0 = ptr cb ∧ ρ3 1 = .int .i64 s) ?_ ?_
      · rintro ρ3 w3 ⟨g1, g2, p58, p57, p56, p8, p0, p1⟩
        rw [p58, X_add]
        show _ ∧ _
        refine ⟨⟨i + 1, by omega, g1, g2, next64 (n := 1000000) (by decide) (by omega), p57, p56, p8, p0, p1⟩, ?_⟩
        show (_ - IntKind.i64.wrap _).toNat < _
        rw [w64 (by omega) (by omega)]
        first | omega | (show _ < (_ : Int).toNat; omega)
      · intro J3 hJ3
        rw [hts] at hJ3
        refine X_takeRow (hrow1.ext hx) hlt ?_
        intro u1 u2 q w4 hx4 hq hqb
        generalize rows[i] = e at hJ3 hqb
        generalize tabR (rows.take i) = es at hm hJ3
        have hm4 := hm.ext hx4
        have hx14 := hx.trans hx4
        rw [X_field_48_0]
        refine X_of (row_key hqb) ?_
        obtain ⟨kl, hkl⟩ := keyOf_ky e.k
        have hall := keyed44_all es
        rcases run_lookupM (P := Try.prog) keyed44 Try.underlying88 zero_46 hm4 hall hkl true with ⟨hno, hrun⟩ | ⟨p, hp, hpk, hrun⟩
        · refine X_of hrun ?_
          have hnk : e.k ∉ es.map Prod.fst := fun h => by
            obtain ⟨x, hx, hxk⟩ := List.mem_map.1 h
            exact hno (entV x) (List.mem_map.2 ⟨x, hx, rfl⟩) (by show x.1.v = _; rw [hxk])
          have ha : addR es e = es ++ [(e.k, (e.off, e.len))] := if_neg hnk
          rw [ha] at hJ3
          rw [if_pos rfl, X_extract0, X_extract1]
          refine X_alloc zero_46 ?_
          have hxa := newB_ext w4 (Value.agg #[(.int .i64 0), (.int .i64 0)]).cells 46
          have hga : (newB w4 (Value.agg #[(.int .i64 0), (.int .i64 0)]).cells 46).heap[w4.heap.size]? = some (.cells [Value.int .i64 0, Value.int .i64 0].toArray 46 (0, 0)) := newB_get _ _ _
          generalize newB w4 (Value.agg #[(.int .i64 0), (.int .i64 0)]).cells 46 = w5 at hxa hga ⊢
          refine XU_storeAgg (l := [.int .i64 0, .int .i64 0]) info_46 hga (by rw [sz_46]; rfl) (by rw [sz_46]; rfl) (by intro u hu; simp at hu; rcases hu with rfl | rfl <;> rfl) ?_
          have hx46 : Ext w4 (setAt w5 w4.heap.size [Value.int .i64 0, Value.int .i64 0].toArray 46 (0, 0)) := Ext.seq hxa (setAt_keep _ _ _ _ _) (fun g hg => by omega)
          generalize setAt w5 w4.heap.size [Value.int .i64 0, Value.int .i64 0].toArray 46 (0, 0) = w6 at hx46 ⊢
          have hqb6 := hx46.get hqb
          rw [X_not, condS_bool, if_pos (by decide), X_field_48_0]
          refine X_of (row_key hqb6) ?_
          rw [X_field_48_1]
          refine X_of (row_pl hqb6) ?_
          refine XU_updateNew keyed44 Try.underlying88 (hm4.ext hx46) hall hkl hno ?_
          intro w7 hm7 hk7
          refine hJ3 _ _ ⟨Ext.seq (hx14.trans hx46) hk7 (fun g hg => by omega), ?_, q58, q57, q56, q8, q0, q1⟩
          rw [List.map_append]
          exact hm7
        · refine X_of hrun ?_
          obtain ⟨x, hx, rfl⟩ := List.mem_map.1 hp
          have hke : x.1 = e.k := Ky.v_inj hpk
          have ha : addR es e = es := if_pos (List.mem_map.2 ⟨x, hx, hke⟩)
          rw [ha] at hJ3
          rw [if_pos rfl, X_extract0, X_extract1]
          refine X_alloc zero_46 ?_
          have hxa := newB_ext w4 (Value.agg #[(.int .i64 0), (.int .i64 0)]).cells 46
          have hga : (newB w4 (Value.agg #[(.int .i64 0), (.int .i64 0)]).cells 46).heap[w4.heap.size]? = some (.cells [Value.int .i64 0, Value.int .i64 0].toArray 46 (0, 0)) := newB_get _ _ _
          generalize newB w4 (Value.agg #[(.int .i64 0), (.int .i64 0)]).cells 46 = w5 at hxa hga ⊢
          refine XU_storeAgg (l := [.int .i64 x.2.1, .int .i64 x.2.2]) info_46 hga (by rw [sz_46]; rfl) (by rw [sz_46]; rfl) (by intro u hu; simp at hu; rcases hu with rfl | rfl <;> rfl) ?_
          have hx46 : Ext w4 (setAt w5 w4.heap.size [Value.int .i64 x.2.1, Value.int .i64 x.2.2].toArray 46 (0, 0)) := Ext.seq hxa (setAt_keep _ _ _ _ _) (fun g hg => by omega)
          generalize setAt w5 w4.heap.size [Value.int .i64 x.2.1, Value.int .i64 x.2.2].toArray 46 (0, 0) = w6 at hx46 ⊢
          rw [X_not, condS_bool, if_neg (by decide)]
          exact hJ3 _ _ ⟨hx14.trans hx46, hm4.ext hx46, q58, q57, q56, q8, q0, q1⟩
    · rintro ρ2 wr ⟨hx, hmT, q8, q0, q1⟩
      rw [q0, q1, q8]
      have b1r := hx.get b1
      have b2r := b2.ext hx
      have b3r := b3.ext hx
      have hcm : cb ≠ mb1 := fun he => by
        obtain ⟨es, cl, hm, _⟩ := b3
        rw [he, hm] at b1
        cases b1
      (repeat (simp only [XP_extract0, XP_extract1, XP_extract2, XP_extract3, X_extract0, X_extract1, X_extract2, X_extract3, X_nilS, X_eql_nil_24, X_neq_nil_24, X_eql_nil_103, X_neq_nil_103, X_eql, X_neq, X_lss, X_leq, X_gtr, X_geq, X_not, X_min, X_max, X_len_79, X_len_35, XP_nilS, XP_eql, XP_neq, XP_lss, XP_leq, XP_gtr, XP_geq, XP_not, XP_min, XP_max, XP_len_79, XP_eql_nil_24, X_str_eql, X_str_neq, XP_str_eql, XP_str_neq, GS, gs_u, decide_true, decide_false, Option.isNone_some, Option.isSome_some, Option.isNone_none, Option.isSome_none, eq_self, Bool.not_true, Bool.not_false, Int.reduceEq, Int.reduceNe, Int.reduceLT, Int.reduceLE, Int.reduceGT, Int.reduceGE, X_field_87_2]))
      refine X_of (run_loadAt (v := .map (some mb1)) agg_85 ((cell_blk b1r).trans rfl)) ?_
      have hkb := tb_keys tb1 (fun x hx => bi x ((b5 x).1 hx))
      have hnew : ∀ p ∈ tb1.map tbV, p.1 ≠ Value.int .i64 s := fun p hp he => by
        obtain ⟨q, hq, rfl⟩ := List.mem_map.1 hp
        injection he with _ he
        exact hin1 ((b5 s).1 (List.mem_map.2 ⟨q, hq, he⟩))
      refine XU_updateNew keyed3 Try.underlying85 b3r hkb (keyOf_i64 hs) hnew ?_
      intro w3 hm3 hk3
      have b13 := hk3.get hcm b1r
      have hvm : ∀ g, vo1.ownBlock = some g → g ≠ mb1 := fun g hg he => own_neM' b2r b3r (by rw [hg, he])
      have b23 := b2r.keep hk3 (fun g hg hgm => hvm g hg hgm)
      (repeat (simp only [XP_extract0, XP_extract1, XP_extract2, XP_extract3, X_extract0, X_extract1, X_extract2, X_extract3, X_nilS, X_eql_nil_24, X_neq_nil_24, X_eql_nil_103, X_neq_nil_103, X_eql, X_neq, X_lss, X_leq, X_gtr, X_geq, X_not, X_min, X_max, X_len_79, X_len_35, XP_nilS, XP_eql, XP_neq, XP_lss, XP_leq, XP_gtr, XP_geq, XP_not, XP_min, XP_max, XP_len_79, XP_eql_nil_24, X_str_eql, X_str_neq, XP_str_eql, XP_str_neq, GS, gs_u, decide_true, decide_false, Option.isNone_some, Option.isSome_some, Option.isNone_none, Option.isSome_none, eq_self, Bool.not_true, Bool.not_false, Int.reduceEq, Int.reduceNe, Int.reduceLT, Int.reduceLE, Int.reduceGT, Int.reduceGE, X_field_87_1]))
      refine X_of (run_loadAt (v := vo1) agg_35 ((cell_blk b13).trans rfl)) ?_
      refine X_buildSlice1 Try.underlying35 el_3 rfl ?_
      have hx4 := newB_ext w3 #[Value.int .i64 s] 3
      have hrow4 : RowK 1 intC (newB w3 #[Value.int .i64 s] 3) (.slice (some ⟨w3.heap.size, 0, none⟩) 1 1) [s] := RowK.ofK (f := intC) (by decide) intC_len (by rw [newB_get]; rfl) rfl (by decide)
      generalize newB w3 #[Value.int .i64 s] 3 = w4 at hx4 hrow4 ⊢
      have hl1 : (shs T1).length ≤ 4096 := by rw [List.length_map]; omega
      refine X_appendW (base := 0) Try.underlying35 el_3 (by decide) (b23.ext hx4) (news := [.int .i64 s]) (m := 1) rfl (fun j u hu => ?_) (by intro u hu; rw [List.mem_singleton.1 hu]; rfl) (by omega) (by decide) (Nat.zero_le _) ?_
      · obtain ⟨a4, c4, e4, _, _, h4⟩ := hrow4
        injection e4 with e41 _ _
        obtain ⟨ad, had, hc4⟩ := h4 (Nat.zero_lt_one)
        rw [had] at e41
        injection e41 with e41
        rw [e41]
        cases j with
        | zero =>
          have := hc4 0 s rfl 0 _ rfl
          simp at hu
          subst hu
          simpa [Addr.add] using this
        | succ j => simp at hu
      intro v5 w5 ho5' hk5 hnb5
      have ho5 : OwnK 1 3 intC w5 0 v5 (shs T1 ++ [s]) := by
        unfold OwnK
        rw [List.length_append, cellsK_append]
        exact ho5'
      have hcv : ¬ some cb = vo1.ownBlock := fun he => own_neT b2 b1 (by decide) he.symm
      have b15 := hk5.get hcv (hx4.get b13)
      obtain ⟨a5, c5, e5⟩ := (OwnK.rowK (by decide) intC_len ho5).slice
      (repeat (simp only [XP_extract0, XP_extract1, XP_extract2, XP_extract3, X_extract0, X_extract1, X_extract2, X_extract3, X_nilS, X_eql_nil_24, X_neq_nil_24, X_eql_nil_103, X_neq_nil_103, X_eql, X_neq, X_lss, X_leq, X_gtr, X_geq, X_not, X_min, X_max, X_len_79, X_len_35, XP_nilS, XP_eql, XP_neq, XP_lss, XP_leq, XP_gtr, XP_geq, XP_not, XP_min, XP_max, XP_len_79, XP_eql_nil_24, X_str_eql, X_str_neq, XP_str_eql, XP_str_neq, GS, gs_u, decide_true, decide_false, Option.isNone_some, Option.isSome_some, Option.isNone_none, Option.isSome_none, eq_self, Bool.not_true, Bool.not_false, Int.reduceEq, Int.reduceNe, Int.reduceLT, Int.reduceLE, Int.reduceGT, Int.reduceGE, X_field_87_1]))
      refine XU_store info_35 sz_35 (by rw [e5]; rfl) b15 (by show (0 + 1) < 3; decide) (by show ¬ (0 ≤ _ ∧ _ < 0); omega) ?_
      have hk6 := setAt_keep w5 cb (#[.int .i64 (room : Int), vo1, .map (some mb1)].setIfInBounds (0 + 1) v5) 87 (0, 0)
      have hg6 : (setAt w5 cb (#[.int .i64 (room : Int), vo1, .map (some mb1)].setIfInBounds (0 + 1) v5) 87 (0, 0)).heap[cb]? = some (.cells #[.int .i64 (room : Int), v5, .map (some mb1)] 87 (0, 0)) := setAt_same (lt_of_blk b15)
      generalize setAt w5 cb (#[.int .i64 (room : Int), vo1, .map (some mb1)].setIfInBounds (0 + 1) v5) 87 (0, 0) = w6 at hk6 hg6 ⊢
      have ht1 := hmT.lt
      have hmbt : mb1 < w1.heap.size := b3.lt
      have hcbt : cb < w1.heap.size := lt_of_blk b1
      have hsz := hk1.size
      have kD : Keep D w w6 := ((((hk1.trans (Keep.ext hx)).trans (hk3.mono (fun _ _ h => by rw [h]; exact b9))).trans (Keep.ext hx4)).trans (hk5.mono (fun g _ h => b10 g h.symm))).trans (hk6.mono (fun _ _ h => by rw [h]; exact b8))
      have hs6 : wr.heap.size ≤ w6.heap.size := Nat.le_trans hk3.size (Nat.le_trans hx4.size (Nat.le_trans hk5.size hk6.size))
      have mk : ∀ {b : Nat} {ms : List (Value × Value)}, MapAt wr b ms → b ≠ mb1 → MapAt w6 b ms := by
        intro b ms hmb hne
        have q3 := hmb.keep hk3 hne
        have q4 := q3.ext hx4
        have q5 := q4.keep hk5 (fun he => own_neM' (b23.ext hx4) q4 he.symm)
        refine q5.keep hk6 (fun he => ?_)
        obtain ⟨es, cl, hmm, _⟩ := q5
        rw [he, b15] at hmm
        cases hmm
      have m6 := ((hm3.ext hx4).keep hk5 (fun he => hvm mb1 he.symm rfl)).keep hk6 (fun he => hcm he.symm)
      refine hK w6 kD ⟨⟨v5, mb1, tb1 ++ [(s, w1.heap.size)], hg6, ?_, ?_, ?_, ?_, ?_, ?_, .inl b8, .inl b9, ?_⟩, ?_, ?_, ?_, bsm, ?_⟩
      · have e : shs (T1 ++ [(s, rows)]) = shs T1 ++ [s] := by simp
        rw [e]
        refine ho5.keep hk6 (fun g hg hgc => ?_)
        rcases hnb5 g hg with h | h
        · exact hcv (by rw [h, hgc])
        · have := hx4.size
          have := hk3.size
          have := hx.size
          omega
      · rw [List.map_append]
        exact m6
      · rw [List.map_append, List.nodup_append]
        refine ⟨b4, by simp, fun x hx y hy => ?_⟩
        rw [List.map_singleton, List.mem_singleton] at hy
        rw [hy]
        exact fun he => hin1 ((b5 s).1 (by have he' : x = s := he; rw [← he']; exact hx))
      · intro x
        simp only [List.map_append, List.mem_append, b5 x]
        rfl
      · intro p hp rows' hr'
        rcases List.mem_append.1 hp with hp | hp <;> rcases List.mem_append.1 hr' with hr2 | hr2
        · exact mk ((b6 p hp rows' hr2).ext hx) (b7 p hp).1
        · rw [List.mem_singleton] at hr2
          injection hr2 with h1' h2'
          exact (hin1 ((b5 s).1 (List.mem_map.2 ⟨p, hp, h1'⟩))).elim
        · rw [List.mem_singleton] at hp
          subst hp
          exact (hin1 (List.mem_map.2 ⟨_, hr2, rfl⟩)).elim
        · rw [List.mem_singleton] at hp hr2
          subst hp
          injection hr2 with _ h2'
          subst h2'
          exact mk hmT (by show w1.heap.size ≠ mb1; omega)
      · intro p hp
        rcases List.mem_append.1 hp with hp | hp
        · exact ⟨(b7 p hp).1, .inl (b7 p hp).2⟩
        · rw [List.mem_singleton] at hp
          subst hp
          exact ⟨by show w1.heap.size ≠ mb1; omega, .inr ⟨hsz, by show w1.heap.size < _; omega⟩⟩
      · intro g hg
        rcases hnb5 g hg with h | h
        · exact .inl (b10 g h)
        · refine .inr ⟨?_, ?_⟩
          · have := hx4.size
            have := hk3.size
            have := hx.size
            omega
          · have := (ho5.lt g hg).2
            have := hk6.size
            omega
      · rintro g (hg | hg)
        · have := h.lt g hg
          have := kD.size
          omega
        · exact hg.2
      · have e : shs (T1 ++ [(s, rows)]) = shs T1 ++ [s] := by simp
        rw [e, List.nodup_append]
        refine ⟨bnd, by simp, fun x hx y hy => ?_⟩
        rw [List.mem_singleton] at hy
        rw [hy]
        exact fun he => hin1 (by rw [← he]; exact hx)
      · intro x hx
        have e : shs (T1 ++ [(s, rows)]) = shs T1 ++ [s] := by simp
        rw [e] at hx
        rcases List.mem_append.1 hx with hx | hx
        · exact bi x hx
        · rw [List.mem_singleton.1 hx]; exact hs
      · rw [List.length_append, List.length_singleton]
        omega
  · intro J hJ
    have hxd := Keep.drew (fun _ => False) w
    have h1d : (drewW w).heap[cb]? = some (.cells #[.int .i64 (room : Int), vo, .map (some mb)] 87 (0, 0)) := h1
    have h2d := h2.ext hxd
    have hcd := h.ext hxd
    refine ⟨Ext, Ext.frame, ?_⟩
    generalize drewW w = wd at hxd h1d h2d hcd ⊢
    (repeat (simp only [XP_extract0, XP_extract1, XP_extract2, XP_extract3, X_extract0, X_extract1, X_extract2, X_extract3, X_nilS, X_eql_nil_24, X_neq_nil_24, X_eql_nil_103, X_neq_nil_103, X_eql, X_neq, X_lss, X_leq, X_gtr, X_geq, X_not, X_min, X_max, X_len_79, X_len_35, XP_nilS, XP_eql, XP_neq, XP_lss, XP_leq, XP_gtr, XP_geq, XP_not, XP_min, XP_max, XP_len_79, XP_eql_nil_24, X_str_eql, X_str_neq, XP_str_eql, XP_str_neq, GS, gs_u, decide_true, decide_false, Option.isNone_some, Option.isSome_some, Option.isNone_none, Option.isSome_none, eq_self, Bool.not_true, Bool.not_false, Int.reduceEq, Int.reduceNe, Int.reduceLT, Int.reduceLE, Int.reduceGT, Int.reduceGE, XP_field_87_1]))
    refine XR_ok Ext.frame (fun w' kk => run_loadAt (v := vo) agg_35 ((cell_blk (kk.get h1d)).trans rfl)) ?_
    rw [eo]
    (repeat (simp only [XP_extract0, XP_extract1, XP_extract2, XP_extract3, X_extract0, X_extract1, X_extract2, X_extract3, X_nilS, X_eql_nil_24, X_neq_nil_24, X_eql_nil_103, X_neq_nil_103, X_eql, X_neq, X_lss, X_leq, X_gtr, X_geq, X_not, X_min, X_max, X_len_79, X_len_35, XP_nilS, XP_eql, XP_neq, XP_lss, XP_leq, XP_gtr, XP_geq, XP_not, XP_min, XP_max, XP_len_79, XP_eql_nil_24, X_str_eql, X_str_neq, XP_str_eql, XP_str_neq, GS, gs_u, decide_true, decide_false, Option.isNone_some, Option.isSome_some, Option.isNone_none, Option.isSome_none, eq_self, Bool.not_true, Bool.not_false, Int.reduceEq, Int.reduceNe, Int.reduceLT, Int.reduceLE, Int.reduceGT, Int.reduceGE, XP_len_35, XP_field_87_0]))
    refine XR_ok Ext.frame (fun w' kk => run_loadAt (v := .int .i64 (room : Int)) agg_3 ((cell_blk (kk.get h1d)).trans rfl)) ?_
    rw [hlT]
    by_cases hfull : T.length = room
    case neg =>
      have c2 : decide ((T.length : Int) = (room : Int)) = false := decide_eq_false (by omega)
      (repeat (simp only [XP_extract0, XP_extract1, XP_extract2, XP_extract3, X_extract0, X_extract1, X_extract2, X_extract3, X_nilS, X_eql_nil_24, X_neq_nil_24, X_eql_nil_103, X_neq_nil_103, X_eql, X_neq, X_lss, X_leq, X_gtr, X_geq, X_not, X_min, X_max, X_len_79, X_len_35, XP_nilS, XP_eql, XP_neq, XP_lss, XP_leq, XP_gtr, XP_geq, XP_not, XP_min, XP_max, XP_len_79, XP_eql_nil_24, X_str_eql, X_str_neq, XP_str_eql, XP_str_neq, GS, gs_u, decide_true, decide_false, Option.isNone_some, Option.isSome_some, Option.isNone_none, Option.isSome_none, eq_self, Bool.not_true, Bool.not_false, Int.reduceEq, Int.reduceNe, Int.reduceLT, Int.reduceLE, Int.reduceGT, Int.reduceGE, c2]))
      exact hJ _ _ ⟨T, if_neg hfull, ⟨Keep.ext hxd, hcd⟩, hin, by omega, rfl, rfl, rfl⟩
    have c2 : decide ((T.length : Int) = (room : Int)) = true := decide_eq_true (by omega)
    (repeat (simp only [XP_extract0, XP_extract1, XP_extract2, XP_extract3, X_extract0, X_extract1, X_extract2, X_extract3, X_nilS, X_eql_nil_24, X_neq_nil_24, X_eql_nil_103, X_neq_nil_103, X_eql, X_neq, X_lss, X_leq, X_gtr, X_geq, X_not, X_min, X_max, X_len_79, X_len_35, XP_nilS, XP_eql, XP_neq, XP_lss, XP_leq, XP_gtr, XP_geq, XP_not, XP_min, XP_max, XP_len_79, XP_eql_nil_24, X_str_eql, X_str_neq, XP_str_eql, XP_str_neq, GS, gs_u, decide_true, decide_false, Option.isNone_some, Option.isSome_some, Option.isNone_none, Option.isSome_none, eq_self, Bool.not_true, Bool.not_false, Int.reduceEq, Int.reduceNe, Int.reduceLT, Int.reduceLE, Int.reduceGT, Int.reduceGE, c2]))
    have kd2 := Keep.drew (fun _ => False) wd
    have h1e : (drewW wd).heap[cb]? = some (.cells #[.int .i64 (room : Int), vo, .map (some mb)] 87 (0, 0)) := h1d
    have h2e := h2d.ext kd2
    have hce := hcd.ext kd2
    have hxe := hxd.trans kd2
    refine ⟨Ext, Ext.frame, ?_⟩
    generalize drewW wd = we at hxe h1e h2e hce ⊢
    (repeat (simp only [XP_extract0, XP_extract1, XP_extract2, XP_extract3, X_extract0, X_extract1, X_extract2, X_extract3, X_nilS, X_eql_nil_24, X_neq_nil_24, X_eql_nil_103, X_neq_nil_103, X_eql, X_neq, X_lss, X_leq, X_gtr, X_geq, X_not, X_min, X_max, X_len_79, X_len_35, XP_nilS, XP_eql, XP_neq, XP_lss, XP_leq, XP_gtr, XP_geq, XP_not, XP_min, XP_max, XP_len_79, XP_eql_nil_24, X_str_eql, X_str_neq, XP_str_eql, XP_str_neq, GS, gs_u, decide_true, decide_false, Option.isNone_some, Option.isSome_some, Option.isNone_none, Option.isSome_none, eq_self, Bool.not_true, Bool.not_false, Int.reduceEq, Int.reduceNe, Int.reduceLT, Int.reduceLE, Int.reduceGT, Int.reduceGE, XP_field_87_1]))
    refine XR_ok Ext.frame (fun w' kk => run_loadAt (v := vo) agg_35 ((cell_blk (kk.get h1e)).trans rfl)) ?_
    (repeat (simp only [XP_extract0, XP_extract1, XP_extract2, XP_extract3, X_extract0, X_extract1, X_extract2, X_extract3, X_nilS, X_eql_nil_24, X_neq_nil_24, X_eql_nil_103, X_neq_nil_103, X_eql, X_neq, X_lss, X_leq, X_gtr, X_geq, X_not, X_min, X_max, X_len_79, X_len_35, XP_nilS, XP_eql, XP_neq, XP_lss, XP_leq, XP_gtr, XP_geq, XP_not, XP_min, XP_max, XP_len_79, XP_eql_nil_24, X_str_eql, X_str_neq, XP_str_eql, XP_str_neq, GS, gs_u, decide_true, decide_false, Option.isNone_some, Option.isSome_some, Option.isNone_none, Option.isSome_none, eq_self, Bool.not_true, Bool.not_false, Int.reduceEq, Int.reduceNe, Int.reduceLT, Int.reduceLE, Int.reduceGT, Int.reduceGE, XP_field_87_1]))
    refine XR_ok Ext.frame (fun w' kk => run_loadAt (v := vo) agg_35 ((cell_blk (kk.get h1e)).trans rfl)) ?_
    rw [eo, XP_len_35, ← eo, hlT, XR_conv_3_30, cwu (by omega)]
    have hpos : 0 < T.length := by omega
    have hmod : d % T.length < T.length := Nat.mod_lt _ hpos
    refine XP_of (fun w' => run_rem _ _ _ _ (by omega) w') ?_
    have er : (d : Int).tmod (T.length : Int) = ((d % T.length : Nat) : Int) := by rw [Int.tmod_eq_emod_of_nonneg (by omega)]; omega
    rw [er]
    have hlt : d % T.length < (shs T).length := by rw [hlT]; exact hmod
    obtain ⟨g, hix, hc, _⟩ := int_atK .u64 (OwnK.rowK (by decide) intC_len h2e) hlt
    refine XP_of hix ?_
    refine XR_ok Ext.frame (fun w' kk => run_loadAt agg_3 (kk.cell (fun h => h) hc)) ?_
    have hgd : (shs T)[d % T.length] = (shs T).getD (d % T.length) 0 := by rw [List.getD_eq_getElem?_getD, List.getElem?_eq_getElem hlt]; rfl
    have hmem := getD_mem hmod
    rw [hgd]
    refine Drop_spec hce (h.i64 _ hmem) ?_
    intro w77 hk77 hc77
    refine hJ _ _ ⟨dropT T ((shs T).getD (d % T.length) 0), if_pos hfull, ⟨Keep.trans (Keep.ext hxe) hk77, hc77⟩, fun hm => hin (mem_drop.1 hm).1, ?_, rfl, rfl, rfl⟩
    have := drop_lt hmem
    omega
end
end Go.Proofs.Ytlnkdphecinnnaa
end
section
set_option linter.unusedVariables false
namespace Go.Proofs.Ytlnkdphecinnnaa
open Go Go.Sh
attribute [local irreducible] X XU XP XR CALL loopS resC closS
/-- cellarage/cellaragelaw14.shown -/
def B_law14_shown (w : World) (K : Value → World → Prop) : Prop :=
  CALL Try.prog 16 #[(.int .i64 2)] w fun v1_7 w1 =>
  X Try.prog (Instr.extract v1_7 0) w1 fun v2_8 w2 =>
  X Try.prog (Instr.extract v1_7 1) w2 fun v3_9 w3 =>
  X Try.prog (binOpG .eql 24 (.tmp 10) (.const (.pointer none)) v2_8 (.pointer none)) w3 fun v4_11 w4 =>
  gstep v4_11 false (fun w5 K => K v3_9 w5) w4 fun v5_13 w6 =>
  gstep v4_11 false (fun w7 K => X Try.prog (binOpG .neq 25 (.tmp 13) (.const (.int .i64 0)) v5_13 (.int .i64 0)) w7 K) w6 fun v6_14 w8 =>
  X Try.prog (pickS v4_11 (.bool true) v6_14) w8 fun v7_15 w9 =>
  condS v7_15 (
  K (.bool false) w9) (
  X Try.prog (Instr.buildSlice 35 4 #[(0, (.int .i64 5)), (1, (.int .i64 7)), (2, (.int .i64 9)), (3, (.int .i64 9))]) w9 fun v8_16 w10 =>
  X Try.prog (Builtin.len_ #[35] 3 #[v8_16]) w10 fun v9_17 w11 =>
  loopS (fun Q1 ρ1 w12 =>
  X Try.prog (binOp .lss 3 (ρ1 18) (ρ1 17)) w12 fun v10_19 w13 =>
  condS v10_19 (
  X Try.prog (Instr.indexAt 35 (ρ1 16) (ρ1 18)) w13 fun v11_20 w14 =>
  X Try.prog (Instr.loadAt 3 v11_20) w14 fun v12_21 w15 =>
  CALL Try.prog 20 #[(ρ1 1), v12_21, (.slice none 0 0), (.int .u64 0)] w15 fun v13_24 w16 =>
  X Try.prog (binOp .add 3 (ρ1 18) (.int .i64 1)) w16 fun v14_25 w17 =>
  Q1 .normal (upds ρ1 [(18, v14_25), (25, v14_25), (24, v13_24), (23, v12_21), (22, (ρ1 1)), (4, v12_21), (21, v12_21), (20, v11_20), (19, v10_19)]) w17) (
  Q1 (.exit 0) (upds ρ1 [(19, v10_19)]) w13)) (inBlockS 0 (thenS (fun ρ2 w18 =>
  CALL Try.prog 21 #[(ρ2 1)] w18 fun v15_27 w19 =>
  CALL Try.prog 20 #[(ρ2 1), (.int .i64 11), (.slice none 0 0), (.int .u64 3)] w19 fun v16_29 w20 =>
  X Try.prog (Instr.buildSlice 35 2 #[(0, (.int .i64 7)), (1, (.int .i64 9))]) w20 fun v17_31 w21 =>
  CALL Try.prog 22 #[v15_27, v17_31] w21 fun v18_32 w22 =>
  gstep v18_32 true (fun w23 K => K (ρ2 1) w23) w22 fun v19_34 w24 =>
  gstep v18_32 true (fun w25 K => CALL Try.prog 21 #[v19_34] w25 K) w24 fun v20_35 w26 =>
  gstep v18_32 true (fun w27 K => X Try.prog (Instr.buildSlice 35 2 #[(0, (.int .i64 7)), (1, (.int .i64 11))]) w27 K) w26 fun v21_36 w28 =>
  gstep v18_32 true (fun w29 K => CALL Try.prog 22 #[v20_35, v21_36] w29 K) w28 fun v22_37 w30 =>
  X Try.prog (pickS v18_32 v22_37 (.bool false)) w30 fun v23_38 w31 =>
  K v23_38 w31) (retS Try.prog (Try.f15).results K))) (upds (env0 #[]) [(18, (.int .i64 0)), (17, v9_17), (16, v8_16), (15, v7_15), (14, v6_14), (13, v5_13), (12, v4_11), (11, v4_11), (10, v2_8), (2, v3_9), (1, v2_8), (9, v3_9), (8, v2_8), (6, v1_7), (7, v1_7), (0, (.bool false))]) w11)

theorem eq_law14_shown (w : World) (K : Value → World → Prop) :
    sh Try.prog (Try.f15.body.getD .skip) (retS Try.prog Try.f15.results K) (env0 #[]) w = B_law14_shown  w K := by kernel_rfl

theorem call_law14_shown (w : World) (K : Value → World → Prop) (h : B_law14_shown  w K) : CALL Try.prog 15 #[] w K :=
  call_of_eq (c := Try.f15.body.getD .skip) mixed Try.func15 (by kernel_rfl) (by kernel_rfl) (by kernel_rfl) (Nat.le_of_ble_eq_true (by kernel_rfl)) (eq_law14_shown  w K) h

/-- cellarage/cellaragelaw14.few -/
def B_law14_few (x0 : Value) (w : World) (K : Value → World → Prop) : Prop :=
  X Try.prog (Builtin.len_ #[22] 3 #[x0]) w fun v1_5 w1 =>
  loopS (fun Q1 ρ1 w2 =>
  X Try.prog (binOp .lss 3 (ρ1 6) (ρ1 5)) w2 fun v2_7 w3 =>
  condS v2_7 (
  X Try.prog (binOp .geq 3 (ρ1 6) (.int .i64 100)) w3 fun v3_10 w4 =>
  gstep v3_10 false (fun w5 K => K (ρ1 0) w5) w4 fun v4_12 w6 =>
  gstep v3_10 false (fun w7 K => K (ρ1 6) w7) w6 fun v5_13 w8 =>
  gstep v3_10 false (fun w9 K => X Try.prog (Instr.indexAt 22 v4_12 v5_13) w9 K) w8 fun v6_14 w10 =>
  gstep v3_10 false (fun w11 K => X Try.prog (Instr.fieldAt 32 v6_14 2) w11 K) w10 fun v7_15 w12 =>
  gstep v3_10 false (fun w13 K => X Try.prog (Instr.loadAt 29 v7_15) w13 K) w12 fun v8_16 w14 =>
  gstep v3_10 false (fun w15 K => X Try.prog (Builtin.len_ #[29] 3 #[v8_16]) w15 K) w14 fun v9_17 w16 =>
  gstep v3_10 false (fun w17 K => X Try.prog (binOp .gtr 3 v9_17 (.int .i64 50)) w17 K) w16 fun v10_18 w18 =>
  X Try.prog (pickS v3_10 (.bool true) v10_18) w18 fun v11_19 w19 =>
  condS v11_19 (
  X Try.prog (Instr.sliceAt 22 (ρ1 0) none (some (ρ1 6)) none) w19 fun v12_22 w20 =>
  Q1 .ret (upds ρ1 [(2, v12_22), (22, v12_22), (21, (ρ1 6)), (20, (ρ1 0)), (19, v11_19), (18, v10_18), (17, v9_17), (16, v8_16), (15, v7_15), (14, v6_14), (13, v5_13), (12, v4_12), (11, v3_10), (10, v3_10), (9, (ρ1 6)), (3, (ρ1 6)), (8, (ρ1 6)), (7, v2_7)]) w20) (
  X Try.prog (binOp .add 3 (ρ1 6) (.int .i64 1)) w19 fun v13_23 w21 =>
  Q1 .normal (upds ρ1 [(6, v13_23), (23, v13_23), (19, v11_19), (18, v10_18), (17, v9_17), (16, v8_16), (15, v7_15), (14, v6_14), (13, v5_13), (12, v4_12), (11, v3_10), (10, v3_10), (9, (ρ1 6)), (3, (ρ1 6)), (8, (ρ1 6)), (7, v2_7)]) w21)) (
  Q1 (.exit 0) (upds ρ1 [(7, v2_7)]) w3)) (inBlockS 0 (thenS (fun ρ2 w22 =>
  K (ρ2 0) w22) (retS Try.prog (Try.f17).results K))) (upds (env0 #[x0]) [(6, (.int .i64 0)), (5, v1_5), (4, x0), (2, (.slice none 0 0))]) w1

theorem eq_law14_few (x0 : Value) (w : World) (K : Value → World → Prop) :
    sh Try.prog (Try.f17.body.getD .skip) (retS Try.prog Try.f17.results K) (env0 #[x0]) w = B_law14_few x0 w K := by kernel_rfl

theorem call_law14_few (x0 : Value) (w : World) (K : Value → World → Prop) (h : B_law14_few x0 w K) : CALL Try.prog 17 #[x0] w K :=
  call_of_eq (c := Try.f17.body.getD .skip) mixed Try.func17 (by kernel_rfl) (by kernel_rfl) (by kernel_rfl) (Nat.le_of_ble_eq_true (by kernel_rfl)) (eq_law14_few x0 w K) h

def B_law14_CacheRoom_c1 (v39_64 : Value) (w47 : World) (ρ1 : Env) (K : Value → World → Prop) (v16_10 : Value) (v19_40 : Value) (Q1 : Exit → Env → World → Prop) (v38_62 : Value) (v37_61 : Value) (v36_60 : Value) (v35_59 : Value) (v34_58 : Value) (v33_57 : Value) (v32_56 : Value) (v21_42 : Value) (v20_41 : Value) (v18_39 : Value) (v17_38 : Value) (v15_36 : Value) (v14_35 : Value) (v13_34 : Value) : Prop :=
  ∃ R, Frame? R ∧
  XP Try.prog (Builtin.len_ #[35] 3 #[v39_64]) (drewW w47) fun v40_66 w48 =>
  XP Try.prog (binOp .gtr 3 v40_66 (ρ1 6)) w48 fun v41_68 w49 =>
  gstep v41_68 false (fun w50 K => K (ρ1 6) w50) w49 fun v42_70 w51 =>
  gstep v41_68 false (fun w52 K => XP Try.prog (binOp .gtr 3 v42_70 (.int .i64 0)) w52 K) w51 fun v43_71 w53 =>
  gstep v41_68 false (fun w54 K => K v43_71 w54) w53 fun v44_72 w55 =>
  gstep v44_72 true (fun w56 K => K (ρ1 7) w56) w55 fun v45_73 w57 =>
  gstep v44_72 true (fun w58 K => XP Try.prog (Instr.fieldAt 32 v16_10 1) w58 K) w57 fun v46_74 w59 =>
  gstep v44_72 true (fun w60 K => XR Try.prog R (Instr.loadAt 3 v46_74) w60 K) w59 fun v47_75 w61 =>
  gstep v44_72 true (fun w62 K => CALL Try.prog 18 #[v45_73, v47_75] w62 K) w61 fun v48_76 w63 =>
  gstep v44_72 true (fun w64 K => XP Try.prog (Op.unary .not v48_76) w64 K) w63 fun v49_77 w65 =>
  gstep v41_68 false (fun w66 K => XP Try.prog (pickS v44_72 v49_77 (.bool false)) w66 K) w65 fun v50_78 w67 =>
  XP Try.prog (pickS v41_68 (.bool true) v50_78) w67 fun v51_79 w68 =>
  gstep v51_79 false (fun w69 K => K (ρ1 6) w69) w68 fun v52_81 w70 =>
  gstep v51_79 false (fun w71 K => XP Try.prog (binOp .gtr 3 v52_81 (.int .i64 0)) w71 K) w70 fun v53_82 w72 =>
  gstep v51_79 false (fun w73 K => K v53_82 w73) w72 fun v54_83 w74 =>
  gstep v54_83 true (fun w75 K => K v19_40 w75) w74 fun v55_84 w76 =>
  gstep v54_83 true (fun w77 K => XP Try.prog (Op.unary .not v55_84) w77 K) w76 fun v56_85 w78 =>
  gstep v51_79 false (fun w79 K => XP Try.prog (pickS v54_83 v56_85 (.bool false)) w79 K) w78 fun v57_86 w80 =>
  gstep v51_79 false (fun w81 K => K v57_86 w81) w80 fun v58_87 w82 =>
  gstep v58_87 true (fun w83 K => K v39_64 w83) w82 fun v59_88 w84 =>
  gstep v58_87 true (fun w85 K => XP Try.prog (Builtin.len_ #[35] 3 #[v59_88]) w85 K) w84 fun v60_89 w86 =>
  gstep v58_87 true (fun w87 K => XP Try.prog (binOpG .eql 3 (.tmp 89) (.const (.int .i64 0)) v60_89 (.int .i64 0)) w87 K) w86 fun v61_90 w88 =>
  gstep v58_87 true (fun w89 K => K v61_90 w89) w88 fun v62_91 w90 =>
  gstep v62_91 false (fun w91 K => K v39_64 w91) w90 fun v63_92 w92 =>
  gstep v62_91 false (fun w93 K => K v39_64 w93) w92 fun v64_93 w94 =>
  gstep v62_91 false (fun w95 K => XP Try.prog (Builtin.len_ #[35] 3 #[v64_93]) w95 K) w94 fun v65_94 w96 =>
  gstep v62_91 false (fun w97 K => XP Try.prog (binOp .sub 3 v65_94 (.int .i64 1)) w97 K) w96 fun v66_95 w98 =>
  gstep v62_91 false (fun w99 K => XP Try.prog (Instr.indexAt 35 v63_92 v66_95) w99 K) w98 fun v67_96 w100 =>
  gstep v62_91 false (fun w101 K => XR Try.prog R (Instr.loadAt 3 v67_96) w101 K) w100 fun v68_97 w102 =>
  gstep v62_91 false (fun w103 K => XP Try.prog (Instr.fieldAt 32 v16_10 1) w103 K) w102 fun v69_98 w104 =>
  gstep v62_91 false (fun w105 K => XR Try.prog R (Instr.loadAt 3 v69_98) w105 K) w104 fun v70_99 w106 =>
  gstep v62_91 false (fun w107 K => XP Try.prog (binOpG .neq 3 (.tmp 97) (.tmp 99) v68_97 v70_99) w107 K) w106 fun v71_100 w108 =>
  gstep v58_87 true (fun w109 K => XP Try.prog (pickS v62_91 (.bool true) v71_100) w109 K) w108 fun v72_101 w110 =>
  gstep v51_79 false (fun w111 K => XP Try.prog (pickS v58_87 v72_101 (.bool false)) w111 K) w110 fun v73_102 w112 =>
  XP Try.prog (pickS v51_79 (.bool true) v73_102) w112 fun v74_103 w113 =>
  condS v74_103 (
  Q1 .ret (upds ρ1 [(4, (.bool false)), (103, v74_103), (102, v73_102), (101, v72_101), (100, v71_100), (99, v70_99), (98, v69_98), (97, v68_97), (96, v67_96), (95, v66_95), (94, v65_94), (93, v64_93), (92, v63_92), (91, v62_91), (90, v61_90), (89, v60_89), (88, v59_88), (87, v58_87), (86, v57_86), (85, v56_85), (84, v55_84), (83, v54_83), (82, v53_82), (81, v52_81), (80, v51_79), (79, v51_79), (78, v50_78), (77, v49_77), (76, v48_76), (75, v47_75), (74, v46_74), (73, v45_73), (72, v44_72), (71, v43_71), (70, v42_70), (69, v41_68), (68, v41_68), (67, (ρ1 6)), (66, v40_66), (65, v39_64), (12, v39_64), (64, v39_64), (63, (ρ1 7)), (62, v38_62), (61, v37_61), (60, v36_60), (59, v35_59), (58, v34_58), (57, v33_57), (56, v32_56), (55, (ρ1 7)), (42, v21_42), (41, v20_41), (11, v19_40), (40, v19_40), (39, v18_39), (38, v17_38), (37, (ρ1 7)), (10, v16_10), (36, v15_36), (35, v14_35), (34, v13_34)]) w113) (
  X Try.prog (Builtin.len_ #[35] 3 #[v39_64]) w113 fun v75_105 w114 =>
  loopS (fun Q2 ρ2 w115 =>
  X Try.prog (binOp .lss 3 (ρ2 106) (ρ2 105)) w115 fun v76_107 w116 =>
  condS v76_107 (
  loopS (fun Q3 ρ3 w117 =>
  X Try.prog (binOp .lss 3 (ρ3 110) (ρ3 109)) w117 fun v77_111 w118 =>
  condS v77_111 (
  ∃ R, Frame? R ∧
  XP Try.prog (Instr.indexAt 35 (ρ3 12) (ρ3 13)) (drewW w118) fun v78_115 w119 =>
  XR Try.prog R (Instr.loadAt 3 v78_115) w119 fun v79_116 w120 =>
  XP Try.prog (Instr.indexAt 35 (ρ3 12) (ρ3 110)) w120 fun v80_119 w121 =>
  XR Try.prog R (Instr.loadAt 3 v80_119) w121 fun v81_120 w122 =>
  XP Try.prog (binOpG .eql 3 (.tmp 116) (.tmp 120) v79_116 v81_120) w122 fun v82_121 w123 =>
  condS v82_121 (
  Q3 .ret (upds ρ3 [(4, (.bool false)), (121, v82_121), (120, v81_120), (119, v80_119), (118, (ρ3 110)), (117, (ρ3 12)), (116, v79_116), (115, v78_115), (114, (ρ3 13)), (113, (ρ3 12)), (14, (ρ3 110)), (112, (ρ3 110)), (111, v77_111)]) w123) (
  X Try.prog (binOp .add 3 (ρ3 110) (.int .i64 1)) w123 fun v83_122 w124 =>
  Q3 .normal (upds ρ3 [(110, v83_122), (122, v83_122), (121, v82_121), (120, v81_120), (119, v80_119), (118, (ρ3 110)), (117, (ρ3 12)), (116, v79_116), (115, v78_115), (114, (ρ3 13)), (113, (ρ3 12)), (14, (ρ3 110)), (112, (ρ3 110)), (111, v77_111)]) w124)) (
  Q3 (.exit 4) (upds ρ3 [(111, v77_111)]) w118)) (inBlockS 4 (inBlockS 3 (thenS (fun ρ4 w125 =>
  X Try.prog (binOp .add 3 (ρ4 106) (.int .i64 1)) w125 fun v84_123 w126 =>
  Q2 .normal (upds ρ4 [(106, v84_123), (123, v84_123)]) w126) Q2))) (upds ρ2 [(110, (.int .i64 0)), (109, (ρ2 106)), (13, (ρ2 106)), (108, (ρ2 106)), (107, v76_107)]) w116) (
  Q2 (.exit 2) (upds ρ2 [(107, v76_107)]) w116)) (inBlockS 2 (inBlockS 1 (thenS (fun ρ5 w127 =>
  X Try.prog (binOp .add 3 (ρ5 33) (.int .i64 1)) w127 fun v85_124 w128 =>
  Q1 .normal (upds ρ5 [(33, v85_124), (124, v85_124)]) w128) Q1))) (upds ρ1 [(106, (.int .i64 0)), (105, v75_105), (104, v39_64), (103, v74_103), (102, v73_102), (101, v72_101), (100, v71_100), (99, v70_99), (98, v69_98), (97, v68_97), (96, v67_96), (95, v66_95), (94, v65_94), (93, v64_93), (92, v63_92), (91, v62_91), (90, v61_90), (89, v60_89), (88, v59_88), (87, v58_87), (86, v57_86), (85, v56_85), (84, v55_84), (83, v54_83), (82, v53_82), (81, v52_81), (80, v51_79), (79, v51_79), (78, v50_78), (77, v49_77), (76, v48_76), (75, v47_75), (74, v46_74), (73, v45_73), (72, v44_72), (71, v43_71), (70, v42_70), (69, v41_68), (68, v41_68), (67, (ρ1 6)), (66, v40_66), (65, v39_64), (12, v39_64), (64, v39_64), (63, (ρ1 7)), (62, v38_62), (61, v37_61), (60, v36_60), (59, v35_59), (58, v34_58), (57, v33_57), (56, v32_56), (55, (ρ1 7)), (42, v21_42), (41, v20_41), (11, v19_40), (40, v19_40), (39, v18_39), (38, v17_38), (37, (ρ1 7)), (10, v16_10), (36, v15_36), (35, v14_35), (34, v13_34)]) w114)

def B_law14_CacheRoom_c2 (v14_35 : Value) (w17 : World) (ρ1 : Env) (K : Value → World → Prop) (Q1 : Exit → Env → World → Prop) (v13_34 : Value) : Prop :=
  X Try.prog (Instr.loadAt 32 v14_35) w17 fun v15_36 w18 =>
  X Try.prog (Instr.alloc 32 true (.tuple #[])) w18 fun v16_10 w19 =>
  XU Try.prog (Instr.storeAt 32 v16_10 v15_36) w19 fun w20 =>
  X Try.prog (Instr.fieldAt 32 v16_10 1) w20 fun v17_38 w21 =>
  X Try.prog (Instr.loadAt 3 v17_38) w21 fun v18_39 w22 =>
  CALL Try.prog 18 #[(ρ1 7), v18_39] w22 fun v19_40 w23 =>
  X Try.prog (Instr.fieldAt 32 v16_10 0) w23 fun v20_41 w24 =>
  X Try.prog (Instr.loadAt 4 v20_41) w24 fun v21_42 w25 =>
  condS v21_42 (
  X Try.prog (Instr.fieldAt 32 v16_10 1) w25 fun v22_44 w26 =>
  X Try.prog (Instr.loadAt 3 v22_44) w26 fun v23_45 w27 =>
  CALL Try.prog 19 #[(ρ1 7), v23_45] w27 fun v24_46 w28 =>
  X Try.prog (binOpG .neq 4 (.tmp 46) (.tmp 47) v24_46 v19_40) w28 fun v25_48 w29 =>
  gstep v25_48 false (fun w30 K => K (ρ1 7) w30) w29 fun v26_50 w31 =>
  gstep v25_48 false (fun w32 K => X Try.prog (Instr.fieldAt 32 v16_10 1) w32 K) w31 fun v27_51 w33 =>
  gstep v25_48 false (fun w34 K => X Try.prog (Instr.loadAt 3 v27_51) w34 K) w33 fun v28_52 w35 =>
  gstep v25_48 false (fun w36 K => CALL Try.prog 18 #[v26_50, v28_52] w36 K) w35 fun v29_53 w37 =>
  X Try.prog (pickS v25_48 (.bool true) v29_53) w37 fun v30_54 w38 =>
  condS v30_54 (
  Q1 .ret (upds ρ1 [(4, (.bool false)), (54, v30_54), (53, v29_53), (52, v28_52), (51, v27_51), (50, v26_50), (49, v25_48), (48, v25_48), (47, v19_40), (46, v24_46), (45, v23_45), (44, v22_44), (43, (ρ1 7)), (42, v21_42), (41, v20_41), (11, v19_40), (40, v19_40), (39, v18_39), (38, v17_38), (37, (ρ1 7)), (10, v16_10), (36, v15_36), (35, v14_35), (34, v13_34)]) w38) (
  X Try.prog (binOp .add 3 (ρ1 33) (.int .i64 1)) w38 fun v31_124 w39 =>
  Q1 .normal (upds ρ1 [(33, v31_124), (124, v31_124), (54, v30_54), (53, v29_53), (52, v28_52), (51, v27_51), (50, v26_50), (49, v25_48), (48, v25_48), (47, v19_40), (46, v24_46), (45, v23_45), (44, v22_44), (43, (ρ1 7)), (42, v21_42), (41, v20_41), (11, v19_40), (40, v19_40), (39, v18_39), (38, v17_38), (37, (ρ1 7)), (10, v16_10), (36, v15_36), (35, v14_35), (34, v13_34)]) w39)) (
  X Try.prog (Instr.fieldAt 32 v16_10 1) w25 fun v32_56 w40 =>
  X Try.prog (Instr.loadAt 3 v32_56) w40 fun v33_57 w41 =>
  X Try.prog (Instr.fieldAt 32 v16_10 2) w41 fun v34_58 w42 =>
  X Try.prog (Instr.loadAt 29 v34_58) w42 fun v35_59 w43 =>
  X Try.prog (Instr.fieldAt 32 v16_10 3) w43 fun v36_60 w44 =>
  X Try.prog (Instr.loadAt 30 v36_60) w44 fun v37_61 w45 =>
  CALL Try.prog 20 #[(ρ1 7), v33_57, v35_59, v37_61] w45 fun v38_62 w46 =>
  CALL Try.prog 21 #[(ρ1 7)] w46 fun v39_64 w47 =>
  B_law14_CacheRoom_c1 v39_64 w47 ρ1 K v16_10 v19_40 Q1 v38_62 v37_61 v36_60 v35_59 v34_58 v33_57 v32_56 v21_42 v20_41 v18_39 v17_38 v15_36 v14_35 v13_34)

/-- cellarage/cellaragelaw14.CacheRoom -/
def B_law14_CacheRoom (x0 x1 : Value) (w : World) (K : Value → World → Prop) : Prop :=
  CALL Try.prog 15 #[] w fun v1_15 w1 =>
  X Try.prog (binOp .rem 5 x0 (.int .u8 21)) w1 fun v2_17 w2 =>
  X Try.prog (convert 5 3 v2_17) w2 fun v3_18 w3 =>
  CALL Try.prog 16 #[v3_18] w3 fun v4_21 w4 =>
  X Try.prog (Instr.extract v4_21 0) w4 fun v5_22 w5 =>
  X Try.prog (Instr.extract v4_21 1) w5 fun v6_23 w6 =>
  X Try.prog (binOpG .eql 24 (.tmp 24) (.const (.pointer none)) v5_22 (.pointer none)) w6 fun v7_25 w7 =>
  gstep v7_25 false (fun w8 K => K v6_23 w8) w7 fun v8_27 w9 =>
  gstep v7_25 false (fun w10 K => X Try.prog (binOpG .neq 25 (.tmp 27) (.const (.int .i64 0)) v8_27 (.int .i64 0)) w10 K) w9 fun v9_28 w11 =>
  X Try.prog (pickS v7_25 (.bool true) v9_28) w11 fun v10_29 w12 =>
  condS v10_29 (
  K (.bool false) w12) (
  CALL Try.prog 17 #[x1] w12 fun v11_31 w13 =>
  X Try.prog (Builtin.len_ #[22] 3 #[v11_31]) w13 fun v12_32 w14 =>
  loopS (fun Q1 ρ1 w15 =>
  X Try.prog (binOp .lss 3 (ρ1 33) (ρ1 32)) w15 fun v13_34 w16 =>
  condS v13_34 (
  X Try.prog (Instr.indexAt 22 (ρ1 31) (ρ1 33)) w16 fun v14_35 w17 =>
  B_law14_CacheRoom_c2 v14_35 w17 ρ1 K Q1 v13_34) (
  Q1 (.exit 0) (upds ρ1 [(34, v13_34)]) w16)) (inBlockS 0 (thenS (fun ρ6 w129 =>
  K (ρ6 5) w129) (retS Try.prog (Try.f3).results K))) (upds (env0 #[x0, x1]) [(33, (.int .i64 0)), (32, v12_32), (31, v11_31), (30, x1), (29, v10_29), (28, v9_28), (27, v8_27), (26, v7_25), (25, v7_25), (24, v5_22), (8, v6_23), (7, v5_22), (23, v6_23), (22, v5_22), (19, v4_21), (21, v4_21), (20, v3_18), (6, v3_18), (18, v3_18), (17, v2_17), (16, x0), (5, v1_15), (15, v1_15), (4, (.bool false))]) w14)

theorem eq_law14_CacheRoom (x0 x1 : Value) (w : World) (K : Value → World → Prop) :
    sh Try.prog (Try.f3.body.getD .skip) (retS Try.prog Try.f3.results K) (env0 #[x0, x1]) w = B_law14_CacheRoom x0 x1 w K := by kernel_rfl

theorem call_law14_CacheRoom (x0 x1 : Value) (w : World) (K : Value → World → Prop) (h : B_law14_CacheRoom x0 x1 w K) : CALL Try.prog 3 #[x0, x1] w K :=
  call_of_eq (c := Try.f3.body.getD .skip) mixed Try.func3 (by kernel_rfl) (by kernel_rfl) (by kernel_rfl) (Nat.le_of_ble_eq_true (by kernel_rfl)) (eq_law14_CacheRoom x0 x1 w K) h

def B_law14_CacheDrawn_c1 (ρ3 : Env) (w27 : World) (v21_54 : Value) (K : Value → World → Prop) (v20_51 : Value) (v22_58 : Value) : Prop :=
  CALL Try.prog 21 #[(ρ3 11)] w27 fun v23_60 w28 =>
  condS v21_54 (
  gstep (ρ3 9) true (fun w29 K => K v23_60 w29) w28 fun v24_64 w30 =>
  gstep (ρ3 9) true (fun w31 K => K v20_51 w31) w30 fun v25_65 w32 =>
  gstep (ρ3 9) true (fun w33 K => CALL Try.prog 22 #[v24_64, v25_65] w33 K) w32 fun v26_66 w34 =>
  X Try.prog (pickS (ρ3 9) v26_66 (.bool false)) w34 fun v27_67 w35 =>
  K v27_67 w35) (
  joinS (fun ρ4 w36 =>
  gstep (ρ4 9) true (fun w37 K => K (ρ4 16) w37) w36 fun v28_89 w38 =>
  gstep (ρ4 9) true (fun w39 K => K (ρ4 14) w39) w38 fun v29_90 w40 =>
  gstep (ρ4 9) true (fun w41 K => K (ρ4 2) w41) w40 fun v30_91 w42 =>
  gstep (ρ4 9) true (fun w43 K => X Try.prog (Instr.buildSlice 35 1 #[(0, v30_91)]) w43 K) w42 fun v31_92 w44 =>
  gstep (ρ4 9) true (fun w45 K => X Try.prog (Builtin.append_ #[35, 35] 35 #[v29_90, v31_92]) w45 K) w44 fun v32_93 w46 =>
  gstep (ρ4 9) true (fun w47 K => CALL Try.prog 22 #[v28_89, v32_93] w47 K) w46 fun v33_94 w48 =>
  X Try.prog (pickS (ρ4 9) v33_94 (.bool false)) w48 fun v34_95 w49 =>
  K v34_95 w49) fun J4 =>
  X Try.prog (Builtin.len_ #[35] 3 #[v20_51]) w28 fun v35_69 w50 =>
  X Try.prog (binOpG .eql 3 (.tmp 69) (.tmp 70) v35_69 (ρ3 10)) w50 fun v36_71 w51 =>
  condS v36_71 (
  X Try.prog (convert 3 30 (ρ3 10)) w51 fun v37_74 w52 =>
  X Try.prog (binOp .rem 30 (ρ3 3) v37_74) w52 fun v38_75 w53 =>
  X Try.prog (convert 30 3 v38_75) w53 fun v39_76 w54 =>
  ∃ R, Frame? R ∧
  XP Try.prog (Instr.sliceAt 35 v20_51 none (some v39_76) none) (drewW w54) fun v40_80 w55 =>
  XP Try.prog (binOp .add 3 v39_76 (.int .i64 1)) w55 fun v41_84 w56 =>
  XP Try.prog (Instr.sliceAt 35 v20_51 (some v41_84) none none) w56 fun v42_85 w57 =>
  X Try.prog (Instr.buildSlice 35 0 #[]) w57 fun v43_77 w58 =>
  X Try.prog (Builtin.append_ #[35, 35] 35 #[v43_77, v40_80]) w58 fun v44_81 w59 =>
  X Try.prog (Builtin.append_ #[35, 35] 35 #[v44_81, v42_85]) w59 fun v45_86 w60 =>
  J4 (upds ρ3 [(14, v45_86), (86, v45_86), (81, v44_81), (77, v43_77), (85, v42_85), (84, v41_84), (83, v39_76), (82, v20_51), (80, v40_80), (79, v39_76), (78, v20_51), (17, v39_76), (76, v39_76), (75, v38_75), (74, v37_74), (73, (ρ3 10)), (72, (ρ3 3)), (71, v36_71), (70, (ρ3 10)), (69, v35_69), (68, v20_51), (61, v21_54), (16, v23_60), (60, v23_60), (59, (ρ3 11)), (58, v22_58), (57, (ρ3 3)), (56, (ρ3 2)), (55, (ρ3 11)), (15, v21_54), (14, v20_51), (54, v21_54), (53, (ρ3 2)), (52, (ρ3 11)), (51, v20_51), (50, (ρ3 11))]) w60) (
  J4 (upds ρ3 [(71, v36_71), (70, (ρ3 10)), (69, v35_69), (68, v20_51), (61, v21_54), (16, v23_60), (60, v23_60), (59, (ρ3 11)), (58, v22_58), (57, (ρ3 3)), (56, (ρ3 2)), (55, (ρ3 11)), (15, v21_54), (14, v20_51), (54, v21_54), (53, (ρ3 2)), (52, (ρ3 11)), (51, v20_51), (50, (ρ3 11))]) w51))

def B_law14_CacheDrawn_c2 (v2_20 : Value) (w2 : World) (K : Value → World → Prop) (x1 : Value) (x0 : Value) (x2 : Value) (x3 : Value) (v1_18 : Value) : Prop :=
  X Try.prog (convert 5 3 v2_20) w2 fun v3_21 w3 =>
  X Try.prog (binOp .add 3 v3_21 (.int .i64 1)) w3 fun v4_22 w4 =>
  CALL Try.prog 16 #[v4_22] w4 fun v5_25 w5 =>
  X Try.prog (Instr.extract v5_25 0) w5 fun v6_26 w6 =>
  X Try.prog (Instr.extract v5_25 1) w6 fun v7_27 w7 =>
  X Try.prog (binOpG .eql 24 (.tmp 28) (.const (.pointer none)) v6_26 (.pointer none)) w7 fun v8_29 w8 =>
  gstep v8_29 false (fun w9 K => K v7_27 w9) w8 fun v9_31 w10 =>
  gstep v8_29 false (fun w11 K => X Try.prog (binOpG .neq 25 (.tmp 31) (.const (.int .i64 0)) v9_31 (.int .i64 0)) w11 K) w10 fun v10_32 w12 =>
  X Try.prog (pickS v8_29 (.bool true) v10_32) w12 fun v11_33 w13 =>
  condS v11_33 (
  K (.bool false) w13) (
  X Try.prog (Builtin.len_ #[35] 3 #[x1]) w13 fun v12_35 w14 =>
  loopS (fun Q1 ρ1 w15 =>
  X Try.prog (binOp .lss 3 (ρ1 36) (ρ1 35)) w15 fun v13_37 w16 =>
  condS v13_37 (
  joinS (fun ρ2 w17 =>
  X Try.prog (binOp .add 3 (ρ2 36) (.int .i64 1)) w17 fun v14_49 w18 =>
  Q1 .normal (upds ρ2 [(36, v14_49), (49, v14_49)]) w18) fun J2 =>
  X Try.prog (binOp .lss 3 (ρ1 36) (.int .i64 200)) w16 fun v15_40 w19 =>
  condS v15_40 (
  X Try.prog (Instr.indexAt 35 (ρ1 1) (ρ1 36)) w19 fun v16_44 w20 =>
  X Try.prog (Instr.loadAt 3 v16_44) w20 fun v17_45 w21 =>
  X Try.prog (convert 3 30 (ρ1 36)) w21 fun v18_47 w22 =>
  CALL Try.prog 20 #[(ρ1 11), v17_45, (.slice none 0 0), v18_47] w22 fun v19_48 w23 =>
  J2 (upds ρ1 [(48, v19_48), (47, v18_47), (46, (ρ1 36)), (45, v17_45), (44, v16_44), (43, (ρ1 36)), (42, (ρ1 1)), (41, (ρ1 11)), (40, v15_40), (39, (ρ1 36)), (13, (ρ1 36)), (38, (ρ1 36)), (37, v13_37)]) w23) (
  J2 (upds ρ1 [(40, v15_40), (39, (ρ1 36)), (13, (ρ1 36)), (38, (ρ1 36)), (37, v13_37)]) w19)) (
  Q1 (.exit 0) (upds ρ1 [(37, v13_37)]) w16)) (inBlockS 0 (thenS (fun ρ3 w24 =>
  CALL Try.prog 21 #[(ρ3 11)] w24 fun v20_51 w25 =>
  CALL Try.prog 18 #[(ρ3 11), (ρ3 2)] w25 fun v21_54 w26 =>
  CALL Try.prog 20 #[(ρ3 11), (ρ3 2), (.slice none 0 0), (ρ3 3)] w26 fun v22_58 w27 =>
  B_law14_CacheDrawn_c1 ρ3 w27 v21_54 K v20_51 v22_58) (retS Try.prog (Try.f4).results K))) (upds (env0 #[x0, x1, x2, x3]) [(36, (.int .i64 0)), (35, v12_35), (34, x1), (33, v11_33), (32, v10_32), (31, v9_31), (30, v8_29), (29, v8_29), (28, v6_26), (12, v7_27), (11, v6_26), (27, v7_27), (26, v6_26), (23, v5_25), (25, v5_25), (24, v4_22), (10, v4_22), (22, v4_22), (21, v3_21), (20, v2_20), (19, x0), (9, v1_18), (18, v1_18), (8, (.bool false))]) w14)

/-- cellarage/cellaragelaw14.CacheDrawn -/
def B_law14_CacheDrawn (x0 x1 x2 x3 : Value) (w : World) (K : Value → World → Prop) : Prop :=
  CALL Try.prog 15 #[] w fun v1_18 w1 =>
  X Try.prog (binOp .rem 5 x0 (.int .u8 20)) w1 fun v2_20 w2 =>
  B_law14_CacheDrawn_c2 v2_20 w2 K x1 x0 x2 x3 v1_18

theorem eq_law14_CacheDrawn (x0 x1 x2 x3 : Value) (w : World) (K : Value → World → Prop) :
    sh Try.prog (Try.f4.body.getD .skip) (retS Try.prog Try.f4.results K) (env0 #[x0, x1, x2, x3]) w = B_law14_CacheDrawn x0 x1 x2 x3 w K := by kernel_rfl

theorem call_law14_CacheDrawn (x0 x1 x2 x3 : Value) (w : World) (K : Value → World → Prop) (h : B_law14_CacheDrawn x0 x1 x2 x3 w K) : CALL Try.prog 4 #[x0, x1, x2, x3] w K :=
  call_of_eq (c := Try.f4.body.getD .skip) mixed Try.func4 (by kernel_rfl) (by kernel_rfl) (by kernel_rfl) (Nat.le_of_ble_eq_true (by kernel_rfl)) (eq_law14_CacheDrawn x0 x1 x2 x3 w K) h

def B_law14_CachePlays_c1 (ρ1 : Env) (w48 : World) (K : Value → World → Prop) (Q1 : Exit → Env → World → Prop) (v37_69 : Value) (v36_68 : Value) (v35_64 : Value) (v34_67 : Value) (v33_66 : Value) (v32_63 : Value) (v31_62 : Value) (v30_60 : Value) (v29_59 : Value) (v28_12 : Value) (v27_58 : Value) (v26_57 : Value) (v24_56 : Value) (J2 : Env → World → Prop) : Prop :=
  X Try.prog (Instr.fieldAt 48 (ρ1 5) 0) w48 fun v38_101 w49 =>
  X Try.prog (Instr.loadAt 44 v38_101) w49 fun v39_102 w50 =>
  CALL Try.prog 25 #[(ρ1 8), v39_102] w50 fun v40_103 w51 =>
  X Try.prog (Instr.extract v40_103 0) w51 fun v41_104 w52 =>
  X Try.prog (Instr.extract v40_103 1) w52 fun v42_105 w53 =>
  X Try.prog (Instr.alloc 46 true (.tuple #[])) w53 fun v43_15 w54 =>
  XU Try.prog (Instr.storeAt 46 v43_15 v41_104) w54 fun w55 =>
  X Try.prog (Instr.fieldAt 48 (ρ1 5) 0) w55 fun v44_108 w56 =>
  X Try.prog (Instr.loadAt 44 v44_108) w56 fun v45_109 w57 =>
  CALL Try.prog 26 #[(ρ1 10), v45_109] w57 fun v46_110 w58 =>
  X Try.prog (Instr.extract v46_110 0) w58 fun v47_111 w59 =>
  X Try.prog (Instr.extract v46_110 1) w59 fun v48_112 w60 =>
  X Try.prog (Instr.alloc 46 true (.tuple #[])) w60 fun v49_17 w61 =>
  XU Try.prog (Instr.storeAt 46 v49_17 v47_111) w61 fun w62 =>
  X Try.prog (Instr.loadAt 46 v43_15) w62 fun v50_113 w63 =>
  X Try.prog (Instr.loadAt 46 v49_17) w63 fun v51_114 w64 =>
  X Try.prog (binOpG .neq 46 (.tmp 113) (.tmp 114) v50_113 v51_114) w64 fun v52_115 w65 =>
  gstep v52_115 false (fun w66 K => K v42_105 w66) w65 fun v53_117 w67 =>
  gstep v52_115 false (fun w68 K => K v48_112 w68) w67 fun v54_118 w69 =>
  gstep v52_115 false (fun w70 K => X Try.prog (binOpG .neq 4 (.tmp 117) (.tmp 118) v53_117 v54_118) w70 K) w69 fun v55_119 w71 =>
  X Try.prog (pickS v52_115 (.bool true) v55_119) w71 fun v56_120 w72 =>
  gstep v56_120 false (fun w73 K => K (ρ1 8) w73) w72 fun v57_122 w74 =>
  gstep v56_120 false (fun w75 K => CALL Try.prog 21 #[v57_122] w75 K) w74 fun v58_123 w76 =>
  gstep v56_120 false (fun w77 K => K (ρ1 10) w77) w76 fun v59_124 w78 =>
  gstep v56_120 false (fun w79 K => CALL Try.prog 27 #[v59_124] w79 K) w78 fun v60_125 w80 =>
  gstep v56_120 false (fun w81 K => CALL Try.prog 22 #[v58_123, v60_125] w81 K) w80 fun v61_126 w82 =>
  gstep v56_120 false (fun w83 K => X Try.prog (Op.unary .not v61_126) w83 K) w82 fun v62_127 w84 =>
  X Try.prog (pickS v56_120 (.bool true) v62_127) w84 fun v63_128 w85 =>
  condS v63_128 (
  Q1 .ret (upds ρ1 [(6, (.bool false)), (128, v63_128), (127, v62_127), (126, v61_126), (125, v60_125), (124, v59_124), (123, v58_123), (122, v57_122), (121, v56_120), (120, v56_120), (119, v55_119), (118, v54_118), (117, v53_117), (116, v52_115), (115, v52_115), (114, v51_114), (113, v50_113), (18, v48_112), (17, v49_17), (112, v48_112), (111, v47_111), (106, v46_110), (110, v46_110), (109, v45_109), (108, v44_108), (107, (ρ1 10)), (16, v42_105), (15, v43_15), (105, v42_105), (104, v41_104), (99, v40_103), (103, v40_103), (102, v39_102), (101, v38_101), (100, (ρ1 8)), (69, v37_69), (68, v36_68), (64, v35_64), (67, v34_67), (66, v33_66), (65, (ρ1 10)), (63, v32_63), (62, v31_62), (61, (ρ1 8)), (60, v30_60), (59, v29_59), (12, v28_12), (58, v27_58), (57, v26_57), (56, v24_56)]) w85) (
  J2 (upds ρ1 [(128, v63_128), (127, v62_127), (126, v61_126), (125, v60_125), (124, v59_124), (123, v58_123), (122, v57_122), (121, v56_120), (120, v56_120), (119, v55_119), (118, v54_118), (117, v53_117), (116, v52_115), (115, v52_115), (114, v51_114), (113, v50_113), (18, v48_112), (17, v49_17), (112, v48_112), (111, v47_111), (106, v46_110), (110, v46_110), (109, v45_109), (108, v44_108), (107, (ρ1 10)), (16, v42_105), (15, v43_15), (105, v42_105), (104, v41_104), (99, v40_103), (103, v40_103), (102, v39_102), (101, v38_101), (100, (ρ1 8)), (69, v37_69), (68, v36_68), (64, v35_64), (67, v34_67), (66, v33_66), (65, (ρ1 10)), (63, v32_63), (62, v31_62), (61, (ρ1 8)), (60, v30_60), (59, v29_59), (12, v28_12), (58, v27_58), (57, v26_57), (56, v24_56)]) w85)

def B_law14_CachePlays_c2 (ρ4 : Env) (w109 : World) (K : Value → World → Prop) (Q1 : Exit → Env → World → Prop) (J2 : Env → World → Prop) : Prop :=
  X Try.prog (Instr.fieldAt 48 (ρ4 5) 0) w109 fun v85_101 w110 =>
  X Try.prog (Instr.loadAt 44 v85_101) w110 fun v86_102 w111 =>
  CALL Try.prog 25 #[(ρ4 8), v86_102] w111 fun v87_103 w112 =>
  X Try.prog (Instr.extract v87_103 0) w112 fun v88_104 w113 =>
  X Try.prog (Instr.extract v87_103 1) w113 fun v89_105 w114 =>
  X Try.prog (Instr.alloc 46 true (.tuple #[])) w114 fun v90_15 w115 =>
  XU Try.prog (Instr.storeAt 46 v90_15 v88_104) w115 fun w116 =>
  X Try.prog (Instr.fieldAt 48 (ρ4 5) 0) w116 fun v91_108 w117 =>
  X Try.prog (Instr.loadAt 44 v91_108) w117 fun v92_109 w118 =>
  CALL Try.prog 26 #[(ρ4 10), v92_109] w118 fun v93_110 w119 =>
  X Try.prog (Instr.extract v93_110 0) w119 fun v94_111 w120 =>
  X Try.prog (Instr.extract v93_110 1) w120 fun v95_112 w121 =>
  X Try.prog (Instr.alloc 46 true (.tuple #[])) w121 fun v96_17 w122 =>
  XU Try.prog (Instr.storeAt 46 v96_17 v94_111) w122 fun w123 =>
  X Try.prog (Instr.loadAt 46 v90_15) w123 fun v97_113 w124 =>
  X Try.prog (Instr.loadAt 46 v96_17) w124 fun v98_114 w125 =>
  X Try.prog (binOpG .neq 46 (.tmp 113) (.tmp 114) v97_113 v98_114) w125 fun v99_115 w126 =>
  gstep v99_115 false (fun w127 K => K v89_105 w127) w126 fun v100_117 w128 =>
  gstep v99_115 false (fun w129 K => K v95_112 w129) w128 fun v101_118 w130 =>
  gstep v99_115 false (fun w131 K => X Try.prog (binOpG .neq 4 (.tmp 117) (.tmp 118) v100_117 v101_118) w131 K) w130 fun v102_119 w132 =>
  X Try.prog (pickS v99_115 (.bool true) v102_119) w132 fun v103_120 w133 =>
  gstep v103_120 false (fun w134 K => K (ρ4 8) w134) w133 fun v104_122 w135 =>
  gstep v103_120 false (fun w136 K => CALL Try.prog 21 #[v104_122] w136 K) w135 fun v105_123 w137 =>
  gstep v103_120 false (fun w138 K => K (ρ4 10) w138) w137 fun v106_124 w139 =>
  gstep v103_120 false (fun w140 K => CALL Try.prog 27 #[v106_124] w140 K) w139 fun v107_125 w141 =>
  gstep v103_120 false (fun w142 K => CALL Try.prog 22 #[v105_123, v107_125] w142 K) w141 fun v108_126 w143 =>
  gstep v103_120 false (fun w144 K => X Try.prog (Op.unary .not v108_126) w144 K) w143 fun v109_127 w145 =>
  X Try.prog (pickS v103_120 (.bool true) v109_127) w145 fun v110_128 w146 =>
  condS v110_128 (
  Q1 .ret (upds ρ4 [(6, (.bool false)), (128, v110_128), (127, v109_127), (126, v108_126), (125, v107_125), (124, v106_124), (123, v105_123), (122, v104_122), (121, v103_120), (120, v103_120), (119, v102_119), (118, v101_118), (117, v100_117), (116, v99_115), (115, v99_115), (114, v98_114), (113, v97_113), (18, v95_112), (17, v96_17), (112, v95_112), (111, v94_111), (106, v93_110), (110, v93_110), (109, v92_109), (108, v91_108), (107, (ρ4 10)), (16, v89_105), (15, v90_15), (105, v89_105), (104, v88_104), (99, v87_103), (103, v87_103), (102, v86_102), (101, v85_101), (100, (ρ4 8))]) w146) (
  J2 (upds ρ4 [(128, v110_128), (127, v109_127), (126, v108_126), (125, v107_125), (124, v106_124), (123, v105_123), (122, v104_122), (121, v103_120), (120, v103_120), (119, v102_119), (118, v101_118), (117, v100_117), (116, v99_115), (115, v99_115), (114, v98_114), (113, v97_113), (18, v95_112), (17, v96_17), (112, v95_112), (111, v94_111), (106, v93_110), (110, v93_110), (109, v92_109), (108, v91_108), (107, (ρ4 10)), (16, v89_105), (15, v90_15), (105, v89_105), (104, v88_104), (99, v87_103), (103, v87_103), (102, v86_102), (101, v85_101), (100, (ρ4 8))]) w146)

def B_law14_CachePlays_c3 (v29_59 : Value) (w40 : World) (v28_12 : Value) (ρ1 : Env) (Q1 : Exit → Env → World → Prop) (v27_58 : Value) (v26_57 : Value) (v24_56 : Value) (K : Value → World → Prop) (J2 : Env → World → Prop) : Prop :=
  X Try.prog (Instr.loadAt 4 v29_59) w40 fun v30_60 w41 =>
  condS v30_60 (
  ∃ R, Frame? R ∧
  XP Try.prog (Instr.fieldAt 32 v28_12 1) (drewW w41) fun v31_62 w42 =>
  XR Try.prog R (Instr.loadAt 3 v31_62) w42 fun v32_63 w43 =>
  XP Try.prog (Instr.fieldAt 32 v28_12 1) w43 fun v33_66 w44 =>
  XR Try.prog R (Instr.loadAt 3 v33_66) w44 fun v34_67 w45 =>
  CALL Try.prog 19 #[(ρ1 8), v32_63] w45 fun v35_64 w46 =>
  R w45 w46 ∧
  CALL Try.prog 23 #[(ρ1 10), v34_67] w46 fun v36_68 w47 =>
  R w46 w47 ∧
  XP Try.prog (binOpG .neq 4 (.tmp 64) (.tmp 68) v35_64 v36_68) w47 fun v37_69 w48 =>
  condS v37_69 (
  Q1 .ret (upds ρ1 [(6, (.bool false)), (69, v37_69), (68, v36_68), (64, v35_64), (67, v34_67), (66, v33_66), (65, (ρ1 10)), (63, v32_63), (62, v31_62), (61, (ρ1 8)), (60, v30_60), (59, v29_59), (12, v28_12), (58, v27_58), (57, v26_57), (56, v24_56)]) w48) (
  B_law14_CachePlays_c1 ρ1 w48 K Q1 v37_69 v36_68 v35_64 v34_67 v33_66 v32_63 v31_62 v30_60 v29_59 v28_12 v27_58 v26_57 v24_56 J2)) (
  X Try.prog (Instr.buildSlice 29 0 #[]) w41 fun v64_70 w86 =>
  X Try.prog (Instr.fieldAt 32 v28_12 2) w86 fun v65_71 w87 =>
  X Try.prog (Instr.loadAt 29 v65_71) w87 fun v66_72 w88 =>
  X Try.prog (Builtin.append_ #[29, 29] 29 #[v64_70, v66_72]) w88 fun v67_73 w89 =>
  X Try.prog (Instr.fieldAt 32 v28_12 1) w89 fun v68_75 w90 =>
  X Try.prog (Instr.loadAt 3 v68_75) w90 fun v69_76 w91 =>
  X Try.prog (Instr.fieldAt 32 v28_12 3) w91 fun v70_78 w92 =>
  X Try.prog (Instr.loadAt 30 v70_78) w92 fun v71_79 w93 =>
  CALL Try.prog 20 #[(ρ1 8), v69_76, v67_73, v71_79] w93 fun v72_80 w94 =>
  X Try.prog (Instr.fieldAt 32 v28_12 1) w94 fun v73_82 w95 =>
  X Try.prog (Instr.loadAt 3 v73_82) w95 fun v74_83 w96 =>
  X Try.prog (Instr.fieldAt 32 v28_12 2) w96 fun v75_84 w97 =>
  X Try.prog (Instr.loadAt 29 v75_84) w97 fun v76_85 w98 =>
  X Try.prog (Instr.fieldAt 32 v28_12 3) w98 fun v77_86 w99 =>
  X Try.prog (Instr.loadAt 30 v77_86) w99 fun v78_87 w100 =>
  CALL Try.prog 24 #[(ρ1 10), v74_83, v76_85, v78_87] w100 fun v79_88 w101 =>
  X Try.prog (Builtin.len_ #[29] 3 #[v67_73]) w101 fun v80_90 w102 =>
  loopS (fun Q3 ρ3 w103 =>
  X Try.prog (binOp .lss 3 (ρ3 91) (ρ3 90)) w103 fun v81_92 w104 =>
  condS v81_92 (
  X Try.prog (Instr.build 48 #[]) w104 fun v82_96 w105 =>
  X Try.prog (Instr.indexAt 29 (ρ3 13) (ρ3 91)) w105 fun v83_97 w106 =>
  XU Try.prog (Instr.storeAt 48 v83_97 v82_96) w106 fun w107 =>
  X Try.prog (binOp .add 3 (ρ3 91) (.int .i64 1)) w107 fun v84_98 w108 =>
  Q3 .normal (upds ρ3 [(91, v84_98), (98, v84_98), (97, v83_97), (96, v82_96), (95, (ρ3 91)), (94, (ρ3 13)), (14, (ρ3 91)), (93, (ρ3 91)), (92, v81_92)]) w108) (
  Q3 (.exit 2) (upds ρ3 [(92, v81_92)]) w104)) (inBlockS 2 (thenS (fun ρ4 w109 =>
  B_law14_CachePlays_c2 ρ4 w109 K Q1 J2) (inBlockS 1 (thenS J2 Q1)))) (upds ρ1 [(91, (.int .i64 0)), (90, v80_90), (89, v67_73), (88, v79_88), (87, v78_87), (86, v77_86), (85, v76_85), (84, v75_84), (83, v74_83), (82, v73_82), (81, (ρ1 10)), (80, v72_80), (79, v71_79), (78, v70_78), (77, v67_73), (76, v69_76), (75, v68_75), (74, (ρ1 8)), (13, v67_73), (73, v67_73), (72, v66_72), (71, v65_71), (70, v64_70), (60, v30_60), (59, v29_59), (12, v28_12), (58, v27_58), (57, v26_57), (56, v24_56)]) w102)

def B_law14_CachePlays_c4 (K : Value → World → Prop) (x0 : Value) (x1 : Value) (x2 : Value) (v23_54 : Value) (v22_53 : Value) (v21_51 : Value) (v20_50 : Value) (v19_48 : Value) (v18_47 : Value) (v17_46 : Value) (v16_44 : Value) (v4_26 : Value) (v9_33 : Value) (v8_32 : Value) (v7_31 : Value) (v6_29 : Value) (v5_27 : Value) (v3_25 : Value) (v2_22 : Value) (v1_5 : Value) (w31 : World) : Prop :=
  loopS (fun Q1 ρ1 w32 =>
  X Try.prog (binOp .lss 3 (ρ1 55) (ρ1 54)) w32 fun v24_56 w33 =>
  condS v24_56 (
  joinS (fun ρ2 w34 =>
  X Try.prog (binOp .add 3 (ρ2 55) (.int .i64 1)) w34 fun v25_129 w35 =>
  Q1 .normal (upds ρ2 [(55, v25_129), (129, v25_129)]) w35) fun J2 =>
  X Try.prog (Instr.indexAt 22 (ρ1 53) (ρ1 55)) w33 fun v26_57 w36 =>
  X Try.prog (Instr.loadAt 32 v26_57) w36 fun v27_58 w37 =>
  X Try.prog (Instr.alloc 32 true (.tuple #[])) w37 fun v28_12 w38 =>
  XU Try.prog (Instr.storeAt 32 v28_12 v27_58) w38 fun w39 =>
  X Try.prog (Instr.fieldAt 32 v28_12 0) w39 fun v29_59 w40 =>
  B_law14_CachePlays_c3 v29_59 w40 v28_12 ρ1 Q1 v27_58 v26_57 v24_56 K J2) (
  Q1 (.exit 0) (upds ρ1 [(56, v24_56)]) w33)) (inBlockS 0 (thenS (fun ρ5 w147 =>
  CALL Try.prog 27 #[(ρ5 10)] w147 fun v111_131 w148 =>
  X Try.prog (Builtin.len_ #[35] 3 #[v111_131]) w148 fun v112_132 w149 =>
  loopS (fun Q6 ρ6 w150 =>
  X Try.prog (binOp .lss 3 (ρ6 133) (ρ6 132)) w150 fun v113_134 w151 =>
  condS v113_134 (
  X Try.prog (Instr.indexAt 35 (ρ6 131) (ρ6 133)) w151 fun v114_135 w152 =>
  X Try.prog (Instr.loadAt 3 v114_135) w152 fun v115_136 w153 =>
  gstep (ρ6 19) false (fun w154 K => K v115_136 w154) w153 fun v116_139 w155 =>
  gstep (ρ6 19) false (fun w156 K => X Try.prog (Instr.fieldAt 48 (ρ6 5) 1) w156 K) w155 fun v117_140 w157 =>
  gstep (ρ6 19) false (fun w158 K => X Try.prog (Instr.fieldAt 46 v117_140 0) w158 K) w157 fun v118_141 w159 =>
  gstep (ρ6 19) false (fun w160 K => X Try.prog (Instr.loadAt 3 v118_141) w160 K) w159 fun v119_142 w161 =>
  gstep (ρ6 19) false (fun w162 K => X Try.prog (binOpG .eql 3 (.tmp 139) (.tmp 142) v116_139 v119_142) w162 K) w161 fun v120_143 w163 =>
  X Try.prog (pickS (ρ6 19) (.bool true) v120_143) w163 fun v121_144 w164 =>
  X Try.prog (binOp .add 3 (ρ6 133) (.int .i64 1)) w164 fun v122_145 w165 =>
  Q6 .normal (upds ρ6 [(133, v122_145), (145, v122_145), (19, v121_144), (144, v121_144), (143, v120_143), (142, v119_142), (141, v118_141), (140, v117_140), (139, v116_139), (138, (ρ6 19)), (137, (ρ6 19)), (21, v115_136), (136, v115_136), (135, v114_135), (134, v113_134)]) w165) (
  Q6 (.exit 4) (upds ρ6 [(134, v113_134)]) w151)) (inBlockS 4 (thenS (fun ρ7 w166 =>
  gstep (ρ7 7) true (fun w167 K => K (ρ7 8) w167) w166 fun v123_148 w168 =>
  gstep (ρ7 7) true (fun w169 K => X Try.prog (Instr.fieldAt 48 (ρ7 5) 1) w169 K) w168 fun v124_149 w170 =>
  gstep (ρ7 7) true (fun w171 K => X Try.prog (Instr.fieldAt 46 v124_149 0) w171 K) w170 fun v125_150 w172 =>
  gstep (ρ7 7) true (fun w173 K => X Try.prog (Instr.loadAt 3 v125_150) w173 K) w172 fun v126_151 w174 =>
  gstep (ρ7 7) true (fun w175 K => CALL Try.prog 18 #[v123_148, v126_151] w175 K) w174 fun v127_152 w176 =>
  gstep (ρ7 7) true (fun w177 K => K (ρ7 19) w177) w176 fun v128_153 w178 =>
  gstep (ρ7 7) true (fun w179 K => X Try.prog (binOpG .eql 4 (.tmp 152) (.tmp 153) v127_152 v128_153) w179 K) w178 fun v129_154 w180 =>
  X Try.prog (pickS (ρ7 7) v129_154 (.bool false)) w180 fun v130_155 w181 =>
  K v130_155 w181) (retS Try.prog (Try.f5).results K))) (upds ρ5 [(133, (.int .i64 0)), (132, v112_132), (131, v111_131), (130, (ρ5 10)), (19, (.bool false))]) w149) (retS Try.prog (Try.f5).results K))) (upds (env0 #[x0, x1, x2]) [(55, (.int .i64 0)), (54, v23_54), (53, v22_53), (52, x1), (10, v21_51), (51, v21_51), (50, v20_50), (49, x0), (48, v19_48), (47, v18_47), (46, v17_46), (45, v16_44), (44, v16_44), (43, v4_26), (33, v9_33), (32, v8_32), (31, v7_31), (30, v6_29), (29, v6_29), (28, x0), (9, v5_27), (8, v4_26), (27, v5_27), (26, v4_26), (23, v3_25), (25, v3_25), (24, x0), (7, v2_22), (22, v2_22), (6, (.bool false)), (5, v1_5)]) w31

/-- cellarage/cellaragelaw14.CachePlays -/
def B_law14_CachePlays (x0 x1 x2 : Value) (w : World) (K : Value → World → Prop) : Prop :=
  X Try.prog (Instr.box 48 x2) w fun v1_5 w1 =>
  CALL Try.prog 15 #[] w1 fun v2_22 w2 =>
  CALL Try.prog 16 #[x0] w2 fun v3_25 w3 =>
  X Try.prog (Instr.extract v3_25 0) w3 fun v4_26 w4 =>
  X Try.prog (Instr.extract v3_25 1) w4 fun v5_27 w5 =>
  X Try.prog (binOp .lss 3 x0 (.int .i64 0)) w5 fun v6_29 w6 =>
  gstep v6_29 false (fun w7 K => K x0 w7) w6 fun v7_31 w8 =>
  gstep v6_29 false (fun w9 K => X Try.prog (binOp .gtr 3 v7_31 (.int .i64 4096)) w9 K) w8 fun v8_32 w10 =>
  X Try.prog (pickS v6_29 (.bool true) v8_32) w10 fun v9_33 w11 =>
  condS v9_33 (
  gstep v2_22 true (fun w12 K => K v4_26 w12) w11 fun v10_36 w13 =>
  gstep v2_22 true (fun w14 K => X Try.prog (binOpG .eql 24 (.tmp 36) (.const (.pointer none)) v10_36 (.pointer none)) w14 K) w13 fun v11_37 w15 =>
  X Try.prog (pickS v2_22 v11_37 (.bool false)) w15 fun v12_38 w16 =>
  gstep v12_38 true (fun w17 K => K v5_27 w17) w16 fun v13_40 w18 =>
  gstep v12_38 true (fun w19 K => X Try.prog (binOpG .eql 25 (.tmp 40) (.const (.int .i64 1)) v13_40 (.int .i64 1)) w19 K) w18 fun v14_41 w20 =>
  X Try.prog (pickS v12_38 v14_41 (.bool false)) w20 fun v15_42 w21 =>
  K v15_42 w21) (
  X Try.prog (binOpG .eql 24 (.tmp 43) (.const (.pointer none)) v4_26 (.pointer none)) w11 fun v16_44 w22 =>
  gstep v16_44 false (fun w23 K => K v5_27 w23) w22 fun v17_46 w24 =>
  gstep v16_44 false (fun w25 K => X Try.prog (binOpG .neq 25 (.tmp 46) (.const (.int .i64 0)) v17_46 (.int .i64 0)) w25 K) w24 fun v18_47 w26 =>
  X Try.prog (pickS v16_44 (.bool true) v18_47) w26 fun v19_48 w27 =>
  condS v19_48 (
  K (.bool false) w27) (
  X Try.prog (Instr.build 52 #[(1, x0)]) w27 fun v20_50 w28 =>
  X Try.prog (Instr.box 52 v20_50) w28 fun v21_51 w29 =>
  CALL Try.prog 17 #[x1] w29 fun v22_53 w30 =>
  X Try.prog (Builtin.len_ #[22] 3 #[v22_53]) w30 fun v23_54 w31 =>
  B_law14_CachePlays_c4 K x0 x1 x2 v23_54 v22_53 v21_51 v20_50 v19_48 v18_47 v17_46 v16_44 v4_26 v9_33 v8_32 v7_31 v6_29 v5_27 v3_25 v2_22 v1_5 w31))

theorem eq_law14_CachePlays (x0 x1 x2 : Value) (w : World) (K : Value → World → Prop) :
    sh Try.prog (Try.f5.body.getD .skip) (retS Try.prog Try.f5.results K) (env0 #[x0, x1, x2]) w = B_law14_CachePlays x0 x1 x2 w K := by kernel_rfl

theorem call_law14_CachePlays (x0 x1 x2 : Value) (w : World) (K : Value → World → Prop) (h : B_law14_CachePlays x0 x1 x2 w K) : CALL Try.prog 5 #[x0, x1, x2] w K :=
  call_of_eq (c := Try.f5.body.getD .skip) mixed Try.func5 (by kernel_rfl) (by kernel_rfl) (by kernel_rfl) (Nat.le_of_ble_eq_true (by kernel_rfl)) (eq_law14_CachePlays x0 x1 x2 w K) h

def B_law14_CacheTells_c1 (v40_78 : Value) (w48 : World) (ρ4 : Env) (K : Value → World → Prop) (Q4 : Exit → Env → World → Prop) (v39_77 : Value) : Prop :=
  X Try.prog (Instr.loadAt 3 v40_78) w48 fun v41_79 w49 =>
  X Try.prog (Instr.lookup 56 (ρ4 10) v41_79 false) w49 fun v42_82 w50 =>
  X Try.prog (Builtin.len_ #[29] 3 #[v42_82]) w50 fun v43_83 w51 =>
  loopS (fun Q5 ρ5 w52 =>
  X Try.prog (binOp .lss 3 (ρ5 84) (ρ5 83)) w52 fun v44_85 w53 =>
  condS v44_85 (
  X Try.prog (Instr.indexAt 29 (ρ5 82) (ρ5 84)) w53 fun v45_86 w54 =>
  X Try.prog (Instr.loadAt 48 v45_86) w54 fun v46_87 w55 =>
  X Try.prog (Instr.alloc 48 true (.tuple #[])) w55 fun v47_20 w56 =>
  XU Try.prog (Instr.storeAt 48 v47_20 v46_87) w56 fun w57 =>
  gstep (ρ5 16) false (fun w58 K => X Try.prog (Instr.fieldAt 48 v47_20 0) w58 K) w57 fun v48_90 w59 =>
  gstep (ρ5 16) false (fun w60 K => X Try.prog (Instr.loadAt 44 v48_90) w60 K) w59 fun v49_91 w61 =>
  gstep (ρ5 16) false (fun w62 K => X Try.prog (Instr.loadAt 44 (ρ5 5)) w62 K) w61 fun v50_92 w63 =>
  gstep (ρ5 16) false (fun w64 K => X Try.prog (binOpG .eql 44 (.tmp 91) (.tmp 92) v49_91 v50_92) w64 K) w63 fun v51_93 w65 =>
  X Try.prog (pickS (ρ5 16) (.bool true) v51_93) w65 fun v52_94 w66 =>
  gstep (ρ5 15) false (fun w67 K => X Try.prog (Instr.fieldAt 48 v47_20 0) w67 K) w66 fun v53_97 w68 =>
  gstep (ρ5 15) false (fun w69 K => X Try.prog (Instr.loadAt 44 v53_97) w69 K) w68 fun v54_98 w70 =>
  gstep (ρ5 15) false (fun w71 K => X Try.prog (Instr.loadAt 44 (ρ5 5)) w71 K) w70 fun v55_99 w72 =>
  gstep (ρ5 15) false (fun w73 K => X Try.prog (binOpG .eql 44 (.tmp 98) (.tmp 99) v54_98 v55_99) w73 K) w72 fun v56_100 w74 =>
  gstep (ρ5 15) false (fun w75 K => K v56_100 w75) w74 fun v57_101 w76 =>
  gstep v57_101 true (fun w77 K => X Try.prog (Instr.fieldAt 48 v47_20 1) w77 K) w76 fun v58_102 w78 =>
  gstep v57_101 true (fun w79 K => X Try.prog (Instr.loadAt 46 v58_102) w79 K) w78 fun v59_103 w80 =>
  gstep v57_101 true (fun w81 K => X Try.prog (Instr.loadAt 46 (ρ5 13)) w81 K) w80 fun v60_104 w82 =>
  gstep v57_101 true (fun w83 K => X Try.prog (binOpG .eql 46 (.tmp 103) (.tmp 104) v59_103 v60_104) w83 K) w82 fun v61_105 w84 =>
  gstep (ρ5 15) false (fun w85 K => X Try.prog (pickS v57_101 v61_105 (.bool false)) w85 K) w84 fun v62_106 w86 =>
  X Try.prog (pickS (ρ5 15) (.bool true) v62_106) w86 fun v63_107 w87 =>
  X Try.prog (binOp .add 3 (ρ5 84) (.int .i64 1)) w87 fun v64_108 w88 =>
  Q5 .normal (upds ρ5 [(84, v64_108), (108, v64_108), (15, v63_107), (107, v63_107), (106, v62_106), (105, v61_105), (104, v60_104), (103, v59_103), (102, v58_102), (101, v57_101), (100, v56_100), (99, v55_99), (98, v54_98), (97, v53_97), (96, (ρ5 15)), (95, (ρ5 15)), (16, v52_94), (94, v52_94), (93, v51_93), (92, v50_92), (91, v49_91), (90, v48_90), (89, (ρ5 16)), (88, (ρ5 16)), (20, v47_20), (87, v46_87), (86, v45_86), (85, v44_85)]) w88) (
  Q5 (.exit 4) (upds ρ5 [(85, v44_85)]) w53)) (inBlockS 4 (inBlockS 3 (thenS (fun ρ6 w89 =>
  X Try.prog (binOp .add 3 (ρ6 76) (.int .i64 1)) w89 fun v65_109 w90 =>
  Q4 .normal (upds ρ6 [(76, v65_109), (109, v65_109)]) w90) Q4))) (upds ρ4 [(84, (.int .i64 0)), (83, v43_83), (82, v42_82), (81, v41_79), (80, (ρ4 10)), (18, v41_79), (79, v41_79), (78, v40_78), (77, v39_77)]) w51

def B_law14_CacheTells_c2 (ρ3 : Env) (w30 : World) (K : Value → World → Prop) (Q1 : Exit → Env → World → Prop) (J2 : Env → World → Prop) : Prop :=
  X Try.prog (Instr.fieldAt 32 (ρ3 12) 1) w30 fun v25_60 w31 =>
  X Try.prog (Instr.loadAt 3 v25_60) w31 fun v26_61 w32 =>
  X Try.prog (Instr.fieldAt 32 (ρ3 12) 2) w32 fun v27_62 w33 =>
  X Try.prog (Instr.loadAt 29 v27_62) w33 fun v28_63 w34 =>
  X Try.prog (Instr.fieldAt 32 (ρ3 12) 3) w34 fun v29_64 w35 =>
  X Try.prog (Instr.loadAt 30 v29_64) w35 fun v30_65 w36 =>
  CALL Try.prog 20 #[(ρ3 8), v26_61, v28_63, v30_65] w36 fun v31_66 w37 =>
  X Try.prog (Instr.loadAt 44 (ρ3 5)) w37 fun v32_69 w38 =>
  CALL Try.prog 25 #[(ρ3 8), v32_69] w38 fun v33_70 w39 =>
  X Try.prog (Instr.extract v33_70 0) w39 fun v34_71 w40 =>
  X Try.prog (Instr.extract v33_70 1) w40 fun v35_72 w41 =>
  X Try.prog (Instr.alloc 46 true (.tuple #[])) w41 fun v36_13 w42 =>
  XU Try.prog (Instr.storeAt 46 v36_13 v34_71) w42 fun w43 =>
  CALL Try.prog 21 #[(ρ3 8)] w43 fun v37_74 w44 =>
  X Try.prog (Builtin.len_ #[35] 3 #[v37_74]) w44 fun v38_75 w45 =>
  loopS (fun Q4 ρ4 w46 =>
  X Try.prog (binOp .lss 3 (ρ4 76) (ρ4 75)) w46 fun v39_77 w47 =>
  condS v39_77 (
  X Try.prog (Instr.indexAt 35 (ρ4 74) (ρ4 76)) w47 fun v40_78 w48 =>
  B_law14_CacheTells_c1 v40_78 w48 ρ4 K Q4 v39_77) (
  Q4 (.exit 2) (upds ρ4 [(77, v39_77)]) w47)) (inBlockS 2 (thenS (fun ρ7 w91 =>
  X Try.prog (binOpG .neq 4 (.tmp 110) (.tmp 111) (ρ7 14) (ρ7 16)) w91 fun v66_112 w92 =>
  gstep v66_112 false (fun w93 K => K (ρ7 14) w93) w92 fun v67_114 w94 =>
  gstep v66_112 false (fun w95 K => K v67_114 w95) w94 fun v68_115 w96 =>
  gstep v68_115 true (fun w97 K => K (ρ7 15) w97) w96 fun v69_116 w98 =>
  gstep v68_115 true (fun w99 K => X Try.prog (Op.unary .not v69_116) w99 K) w98 fun v70_117 w100 =>
  gstep v66_112 false (fun w101 K => X Try.prog (pickS v68_115 v70_117 (.bool false)) w101 K) w100 fun v71_118 w102 =>
  X Try.prog (pickS v66_112 (.bool true) v71_118) w102 fun v72_119 w103 =>
  condS v72_119 (
  Q1 .ret (upds ρ7 [(6, (.bool false)), (119, v72_119), (118, v71_118), (117, v70_117), (116, v69_116), (115, v68_115), (114, v67_114), (113, v66_112), (112, v66_112), (111, (ρ7 16)), (110, (ρ7 14))]) w103) (
  J2 (upds ρ7 [(119, v72_119), (118, v71_118), (117, v70_117), (116, v69_116), (115, v68_115), (114, v67_114), (113, v66_112), (112, v66_112), (111, (ρ7 16)), (110, (ρ7 14))]) w103)) (inBlockS 1 (thenS J2 Q1)))) (upds ρ3 [(76, (.int .i64 0)), (75, v38_75), (74, v37_74), (73, (ρ3 8)), (16, (.bool false)), (15, (.bool false)), (14, v35_72), (13, v36_13), (72, v35_72), (71, v34_71), (67, v33_70), (70, v33_70), (69, v32_69), (68, (ρ3 8)), (66, v31_66), (65, v30_65), (64, v29_64), (63, v28_63), (62, v27_62), (61, v26_61), (60, v25_60), (59, (ρ3 8))]) w45

def B_law14_CacheTells_c3 (ρ1 : Env) (w17 : World) (Q1 : Exit → Env → World → Prop) (K : Value → World → Prop) : Prop :=
  X Try.prog (binOp .lss 3 (ρ1 39) (ρ1 38)) w17 fun v15_40 w18 =>
  condS v15_40 (
  joinS (fun ρ2 w19 =>
  X Try.prog (binOp .add 3 (ρ2 39) (.int .i64 1)) w19 fun v16_120 w20 =>
  Q1 .normal (upds ρ2 [(39, v16_120), (120, v16_120)]) w20) fun J2 =>
  X Try.prog (Instr.indexAt 22 (ρ1 37) (ρ1 39)) w18 fun v17_41 w21 =>
  X Try.prog (Instr.loadAt 32 v17_41) w21 fun v18_42 w22 =>
  X Try.prog (Instr.alloc 32 true (.tuple #[])) w22 fun v19_12 w23 =>
  XU Try.prog (Instr.storeAt 32 v19_12 v18_42) w23 fun w24 =>
  X Try.prog (Instr.fieldAt 32 v19_12 0) w24 fun v20_43 w25 =>
  X Try.prog (Instr.loadAt 4 v20_43) w25 fun v21_44 w26 =>
  condS v21_44 (
  X Try.prog (Instr.fieldAt 32 v19_12 1) w26 fun v22_46 w27 =>
  X Try.prog (Instr.loadAt 3 v22_46) w27 fun v23_47 w28 =>
  CALL Try.prog 19 #[(ρ1 8), v23_47] w28 fun v24_48 w29 =>
  J2 (upds ρ1 [(48, v24_48), (47, v23_47), (46, v22_46), (45, (ρ1 8)), (44, v21_44), (43, v20_43), (12, v19_12), (42, v18_42), (41, v17_41), (40, v15_40)]) w29) (
  joinS (fun ρ3 w30 =>
  B_law14_CacheTells_c2 ρ3 w30 K Q1 J2) fun J3 =>
  X Try.prog (Instr.fieldAt 32 v19_12 1) w26 fun v73_50 w104 =>
  X Try.prog (Instr.loadAt 3 v73_50) w104 fun v74_51 w105 =>
  CALL Try.prog 18 #[(ρ1 8), v74_51] w105 fun v75_52 w106 =>
  X Try.prog (Op.unary .not v75_52) w106 fun v76_53 w107 =>
  condS v76_53 (
  X Try.prog (Instr.fieldAt 32 v19_12 1) w107 fun v77_55 w108 =>
  X Try.prog (Instr.loadAt 3 v77_55) w108 fun v78_56 w109 =>
  X Try.prog (Instr.fieldAt 32 v19_12 2) w109 fun v79_57 w110 =>
  X Try.prog (Instr.loadAt 29 v79_57) w110 fun v80_58 w111 =>
  XU Try.prog (Instr.mapUpdate 56 (ρ1 10) v78_56 v80_58) w111 fun w112 =>
  J3 (upds ρ1 [(58, v80_58), (57, v79_57), (56, v78_56), (55, v77_55), (54, (ρ1 10)), (53, v76_53), (52, v75_52), (51, v74_51), (50, v73_50), (49, (ρ1 8)), (44, v21_44), (43, v20_43), (12, v19_12), (42, v18_42), (41, v17_41), (40, v15_40)]) w112) (
  J3 (upds ρ1 [(53, v76_53), (52, v75_52), (51, v74_51), (50, v73_50), (49, (ρ1 8)), (44, v21_44), (43, v20_43), (12, v19_12), (42, v18_42), (41, v17_41), (40, v15_40)]) w107))) (
  Q1 (.exit 0) (upds ρ1 [(40, v15_40)]) w18)

/-- cellarage/cellaragelaw14.CacheTells -/
def B_law14_CacheTells (x0 x1 x2 : Value) (w : World) (K : Value → World → Prop) : Prop :=
  X Try.prog (Instr.box 44 x2) w fun v1_5 w1 =>
  CALL Try.prog 15 #[] w1 fun v2_21 w2 =>
  X Try.prog (binOp .rem 5 x0 (.int .u8 21)) w2 fun v3_24 w3 =>
  X Try.prog (convert 5 3 v3_24) w3 fun v4_25 w4 =>
  CALL Try.prog 16 #[v4_25] w4 fun v5_26 w5 =>
  X Try.prog (Instr.extract v5_26 0) w5 fun v6_27 w6 =>
  X Try.prog (Instr.extract v5_26 1) w6 fun v7_28 w7 =>
  X Try.prog (binOpG .eql 24 (.tmp 29) (.const (.pointer none)) v6_27 (.pointer none)) w7 fun v8_30 w8 =>
  gstep v8_30 false (fun w9 K => K v7_28 w9) w8 fun v9_32 w10 =>
  gstep v8_30 false (fun w11 K => X Try.prog (binOpG .neq 25 (.tmp 32) (.const (.int .i64 0)) v9_32 (.int .i64 0)) w11 K) w10 fun v10_33 w12 =>
  X Try.prog (pickS v8_30 (.bool true) v10_33) w12 fun v11_34 w13 =>
  condS v11_34 (
  K (.bool false) w13) (
  X Try.prog (Instr.makeMap 56 none) w13 fun v12_35 w14 =>
  CALL Try.prog 17 #[x1] w14 fun v13_37 w15 =>
  X Try.prog (Builtin.len_ #[22] 3 #[v13_37]) w15 fun v14_38 w16 =>
  loopS (fun Q1 ρ1 w17 =>
  B_law14_CacheTells_c3 ρ1 w17 Q1 K) (inBlockS 0 (thenS (fun ρ8 w113 =>
  K (ρ8 7) w113) (retS Try.prog (Try.f6).results K))) (upds (env0 #[x0, x1, x2]) [(39, (.int .i64 0)), (38, v14_38), (37, v13_37), (36, x1), (10, v12_35), (35, v12_35), (34, v11_34), (33, v10_33), (32, v9_32), (31, v8_30), (30, v8_30), (29, v6_27), (9, v7_28), (8, v6_27), (28, v7_28), (27, v6_27), (22, v5_26), (26, v5_26), (25, v4_25), (24, v3_24), (23, x0), (7, v2_21), (21, v2_21), (6, (.bool false)), (5, v1_5)]) w16)

theorem eq_law14_CacheTells (x0 x1 x2 : Value) (w : World) (K : Value → World → Prop) :
    sh Try.prog (Try.f6.body.getD .skip) (retS Try.prog Try.f6.results K) (env0 #[x0, x1, x2]) w = B_law14_CacheTells x0 x1 x2 w K := by kernel_rfl

theorem call_law14_CacheTells (x0 x1 x2 : Value) (w : World) (K : Value → World → Prop) (h : B_law14_CacheTells x0 x1 x2 w K) : CALL Try.prog 6 #[x0, x1, x2] w K :=
  call_of_eq (c := Try.f6.body.getD .skip) mixed Try.func6 (by kernel_rfl) (by kernel_rfl) (by kernel_rfl) (Nat.le_of_ble_eq_true (by kernel_rfl)) (eq_law14_CacheTells x0 x1 x2 w K) h

def B_law14_CacheNil_c1 (x0 : Value) (w : World) (x1 : Value) (K : Value → World → Prop) : Prop :=
  X Try.prog (Instr.box 44 x0) w fun v1_2 w1 =>
  X Try.prog (Instr.loadAt 44 v1_2) w1 fun v2_10 w2 =>
  X Try.prog (Instr.build 48 #[(0, v2_10)]) w2 fun v3_11 w3 =>
  X Try.prog (Instr.buildSlice 29 1 #[(0, v3_11)]) w3 fun v4_12 w4 =>
  CALL Try.prog 20 #[(.pointer none), x1, v4_12, (.int .u64 1)] w4 fun v5_13 w5 =>
  X Try.prog (Instr.loadAt 44 v1_2) w5 fun v6_16 w6 =>
  CALL Try.prog 25 #[(.pointer none), v6_16] w6 fun v7_17 w7 =>
  X Try.prog (Instr.extract v7_17 0) w7 fun v8_18 w8 =>
  X Try.prog (Instr.extract v7_17 1) w8 fun v9_19 w9 =>
  X Try.prog (Instr.alloc 46 true (.tuple #[])) w9 fun v10_6 w10 =>
  XU Try.prog (Instr.storeAt 46 v10_6 v8_18) w10 fun w11 =>
  CALL Try.prog 15 #[] w11 fun v11_20 w12 =>
  gstep v11_20 true (fun w13 K => K v9_19 w13) w12 fun v12_22 w14 =>
  gstep v11_20 true (fun w15 K => X Try.prog (Op.unary .not v12_22) w15 K) w14 fun v13_23 w16 =>
  X Try.prog (pickS v11_20 v13_23 (.bool false)) w16 fun v14_24 w17 =>
  gstep v14_24 true (fun w18 K => K (.pointer none) w18) w17 fun v15_26 w19 =>
  gstep v14_24 true (fun w20 K => K x1 w20) w19 fun v16_27 w21 =>
  gstep v14_24 true (fun w22 K => CALL Try.prog 18 #[v15_26, v16_27] w22 K) w21 fun v17_28 w23 =>
  gstep v14_24 true (fun w24 K => X Try.prog (Op.unary .not v17_28) w24 K) w23 fun v18_29 w25 =>
  X Try.prog (pickS v14_24 v18_29 (.bool false)) w25 fun v19_30 w26 =>
  gstep v19_30 true (fun w27 K => K (.pointer none) w27) w26 fun v20_32 w28 =>
  gstep v19_30 true (fun w29 K => K x1 w29) w28 fun v21_33 w30 =>
  gstep v19_30 true (fun w31 K => CALL Try.prog 19 #[v20_32, v21_33] w31 K) w30 fun v22_34 w32 =>
  gstep v19_30 true (fun w33 K => X Try.prog (Op.unary .not v22_34) w33 K) w32 fun v23_35 w34 =>
  X Try.prog (pickS v19_30 v23_35 (.bool false)) w34 fun v24_36 w35 =>
  gstep v24_36 true (fun w36 K => K (.pointer none) w36) w35 fun v25_38 w37 =>
  gstep v24_36 true (fun w38 K => CALL Try.prog 21 #[v25_38] w38 K) w37 fun v26_39 w39 =>
  gstep v24_36 true (fun w40 K => X Try.prog (Builtin.len_ #[35] 3 #[v26_39]) w40 K) w39 fun v27_40 w41 =>
  gstep v24_36 true (fun w42 K => X Try.prog (binOpG .eql 3 (.tmp 40) (.const (.int .i64 0)) v27_40 (.int .i64 0)) w42 K) w41 fun v28_41 w43 =>
  X Try.prog (pickS v24_36 v28_41 (.bool false)) w43 fun v29_42 w44 =>
  K v29_42 w44

/-- cellarage/cellaragelaw14.CacheNil -/
def B_law14_CacheNil (x0 x1 : Value) (w : World) (K : Value → World → Prop) : Prop :=
  B_law14_CacheNil_c1 x0 w x1 K

theorem eq_law14_CacheNil (x0 x1 : Value) (w : World) (K : Value → World → Prop) :
    sh Try.prog (Try.f7.body.getD .skip) (retS Try.prog Try.f7.results K) (env0 #[x0, x1]) w = B_law14_CacheNil x0 x1 w K := by kernel_rfl

theorem call_law14_CacheNil (x0 x1 : Value) (w : World) (K : Value → World → Prop) (h : B_law14_CacheNil x0 x1 w K) : CALL Try.prog 7 #[x0, x1] w K :=
  call_of_eq (c := Try.f7.body.getD .skip) mixed Try.func7 (by kernel_rfl) (by kernel_rfl) (by kernel_rfl) (Nat.le_of_ble_eq_true (by kernel_rfl)) (eq_law14_CacheNil x0 x1 w K) h

end Go.Proofs.Ytlnkdphecinnnaa
end
