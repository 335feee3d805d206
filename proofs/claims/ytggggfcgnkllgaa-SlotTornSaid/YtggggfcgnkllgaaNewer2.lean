/- The reference's Newer, by contract. -/
import Derived.Test.YtggggfcgnkllgaaNewer
set_option linter.unusedVariables false
set_option linter.unusedSimpArgs false
namespace Go.Proofs.Ytggggfcgnkllgaa
open Go Go.Sh Go.RowKit
attribute [local irreducible] X XU XP XR CALL loopS resC closS

theorem takeP_cases (bs : List UInt8) : (takeB bs = none ∧ takeP bs = (nilSl, 100)) ∨ ∃ s : Sl, takeB bs = some s ∧ s.gen ≠ 0 ∧ takeP bs = (s, 0) := by
  cases h : takeB bs with
  | none => exact .inl ⟨rfl, by unfold takeP; rw [h]⟩
  | some s => exact .inr ⟨s, rfl, (take_some h).2.1, by unfold takeP; rw [h]⟩
theorem newer_nn {x y : List UInt8} (hx : takeP x = (nilSl, 100)) (hy : takeP y = (nilSl, 100)) : newerP x y = (nilSl, 0, 100) := by
  simp [newerP, chNext, hx, hy, nilSl]
theorem newer_sn {x y : List UInt8} {s : Sl} (hs : s.gen ≠ 0) (hx : takeP x = (s, 0)) (hy : takeP y = (nilSl, 100)) : newerP x y = (s, 0, 0) := by
  have : 0 < s.gen := by omega
  simp [newerP, chNext, hx, hy, nilSl, this, hs]
theorem newer_ns {x y : List UInt8} {s : Sl} (hs : s.gen ≠ 0) (hx : takeP x = (nilSl, 100)) (hy : takeP y = (s, 0)) : newerP x y = (s, 1, 0) := by
  have : 0 < s.gen := by omega
  simp [newerP, chNext, hx, hy, nilSl, this, hs]
theorem newer_ss {x y : List UInt8} {s t : Sl} (hs : s.gen ≠ 0) (ht : t.gen ≠ 0) (hx : takeP x = (s, 0)) (hy : takeP y = (t, 0)) : newerP x y = if s.gen < t.gen then (t, 1, 0) else (s, 0, 0) := by
  have h1 : 0 < s.gen := by omega
  by_cases h : s.gen < t.gen
  · simp [newerP, chNext, hx, hy, nilSl, h1, h, hs, ht]
  · simp [newerP, chNext, hx, hy, nilSl, h1, h, hs, ht]

theorem RNewer_spec {v0 v1 : Value} {xs ys : List UInt8} {w : World} {K : Value → World → Prop} (hb0 : Bts w v0 xs) (hb1 : Bts w v1 ys)
    (h : ∀ w1, Ext w w1 → K (.tuple #[.agg (newerP xs ys).1.cs.toArray, .int .i64 (newerP xs ys).2.1, .int .i64 (newerP xs ys).2.2]) w1) : CALL Try.prog 49 #[v0, v1] w K := by
  apply call_ref10_Newer
  unfold B_ref10_Newer
  refine X_alloc zero_25 ?_
  have hr : (newB w nilSl.cs.toArray 25).heap[w.heap.size]? = some (.cells nilSl.cs.toArray 25 (0, 0)) := newB_get _ _ _
  have hx1 := newB_ext w nilSl.cs.toArray 25
  have hz1 := newB_size w nilSl.cs.toArray 25
  show CALL _ _ _ (newB w nilSl.cs.toArray 25) _
  generalize newB w nilSl.cs.toArray 25 = w1 at hr hx1 hz1 ⊢
  refine RTake_all (hb0.ext hx1) ?_
  intro w2 hx2
  simp only [SS, ST]
  refine X_slotVar ?_
  intro w3 hx3 hb3
  have hx13 := hx1.trans (hx2.trans hx3)
  refine RTake_all (hb1.ext hx13) ?_
  intro w4 hx4
  simp only [SS, ST]
  refine X_slotVar ?_
  intro w5 hx5 hb5
  have hx15 : Ext w1 w5 := hx2.trans (hx3.trans (hx4.trans hx5))
  have hr5 := Ext.get hx15 hr
  have hb35 := Ext.get (hx4.trans hx5) hb3
  have put : ∀ (s : Sl) (i e : Int), newerP xs ys = (s, i, e) → XU Try.prog (Instr.storeAt 25 (.pointer (some ⟨w.heap.size, 0, none⟩)) (.agg s.cs.toArray)) w5 fun w41 =>
      resC Try.prog 25 (.pointer (some ⟨w.heap.size, 0, none⟩)) w41 fun r0 => K (.tuple #[r0, (.int .i64 i), (.int .i64 e)]) w41 := by
    intro s i e hn
    refine XU_storeAgg info_25 hr5 (by rw [sz_25]; rfl) (by rw [sz_25]; rfl) (Sl.one _) ?_
    refine resC_agg Try.underlying25 agg_25 info_25 (setAt_same (lt_of_blk hr5)) (by rw [sz_25]; rfl) ?_
    have := h _ (Ext.seq (hx1.trans hx15) (setAt_keep w5 w.heap.size s.cs.toArray 25 (0, 0)) (fun i hi => by omega))
    rw [hn] at this
    exact this
  have d0 : decide ((0 : Int) ≠ 0) = false := by decide
  have d1 : decide ((100 : Int) ≠ 0) = true := by decide
  have d2 : decide ((100 : Int) = 0) = false := by decide
  rcases takeP_cases xs with ⟨_, hA⟩ | ⟨s, _, hs, hA⟩
  · rcases takeP_cases ys with ⟨_, hB⟩ | ⟨t, _, ht, hB⟩
    · simp only [hA, hB, SS, ST, d0, d1, d2, if_true, Bool.false_eq_true, if_false]
      refine X_of (run_build_25z _) ?_
      exact put nilSl 0 100 (newer_nn hA hB)
    · simp only [hA, hB, SS, ST, d0, d1, d2, if_true, Bool.false_eq_true, if_false, Bool.true_eq_false]
      rw [hB] at hb5
      refine X_loadAgg Try.underlying25 agg_25 info_25 hb5 (by rw [sz_25]; rfl) ?_
      exact put t 1 0 (newer_ns ht hA hB)
  · rcases takeP_cases ys with ⟨_, hB⟩ | ⟨t, _, ht, hB⟩
    · simp only [hA, hB, SS, ST, d0, d1, d2, if_true, Bool.false_eq_true, if_false, Bool.true_eq_false]
      rw [hA] at hb35
      refine X_loadAgg Try.underlying25 agg_25 info_25 hb35 (by rw [sz_25]; rfl) ?_
      exact put s 0 0 (newer_sn hs hA hB)
    · simp only [hA, hB, SS, ST, d0, d1, d2, if_true, Bool.false_eq_true, if_false, Bool.true_eq_false, decide_true]
      rw [hA] at hb35
      rw [hB] at hb5
      refine X_loadL agg_22 hb5 rfl ?_
      refine X_loadL agg_22 hb35 rfl ?_
      simp only [SS, ST]
      have hn := newer_ss hs ht hA hB
      by_cases hgt : s.gen < t.gen
      · have eg : decide ((t.gen : Int) > (s.gen : Int)) = true := by simp; omega
        rw [if_pos eg]
        rw [if_pos hgt] at hn
        refine X_loadAgg Try.underlying25 agg_25 info_25 hb5 (by rw [sz_25]; rfl) ?_
        exact put t 1 0 hn
      · have eg : decide ((t.gen : Int) > (s.gen : Int)) = false := by simp; omega
        rw [if_neg (by rw [eg]; decide)]
        rw [if_neg hgt] at hn
        refine X_loadAgg Try.underlying25 agg_25 info_25 hb35 (by rw [sz_25]; rfl) ?_
        exact put s 0 0 hn
end Go.Proofs.Ytggggfcgnkllgaa
