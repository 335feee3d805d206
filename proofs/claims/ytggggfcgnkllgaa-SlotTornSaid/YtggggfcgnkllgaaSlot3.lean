/- cellarage/slot's Take and the reference's, by contract. -/
import Derived.Test.YtggggfcgnkllgaaSlot2
set_option linter.unusedVariables false
set_option linter.unusedSimpArgs false
namespace Go.Proofs.Ytggggfcgnkllgaa
open Go Go.Sh Go.RowKit
attribute [local irreducible] X XU XP XR CALL loopS resC closS

def slotOf (bs : List UInt8) : Sl := ⟨num (bs.take 8), num ((bs.drop 8).take 1), num (((bs.drop 8).drop 1).take 4), num ((((bs.drop 8).drop 1).drop 4).take 4)⟩
def takeB (bs : List UInt8) : Option Sl := if bs.length = 128 ∧ (slotOf bs).gen ≠ 0 ∧ layB (slotOf bs) = bs then some (slotOf bs) else none
theorem num_bound (l : List UInt8) (n k : Nat) (hn : 256 ^ n = k) : num (l.take n) < k := by
  rw [← hn]
  have h := num_lt (l.take n)
  exact Nat.lt_of_lt_of_le h (Nat.pow_le_pow_right (by decide) (by simp; omega))
theorem slotOf_ok (bs : List UInt8) : (slotOf bs).ok :=
  ⟨num_bound _ 8 _ (by decide), num_bound _ 1 _ (by decide), num_bound _ 4 _ (by decide), num_bound _ 4 _ (by decide)⟩
theorem getR_ok (x : List UInt8) (m : Nat) (hm : m ≤ 8) (h : m ≤ x.length) : getR x 0 (m : Int) = (num (x.take m), x.drop m, 0) := by
  have h1 : ¬ ((m : Int) < 0 ∨ 8 < (m : Int)) := by omega
  have h2 : ¬ x.length < ((m : Int)).toNat := by omega
  have h3 : ((m : Int)).toNat = m := by omega
  simp only [getR, ne_eq, not_true, if_false, h1, h2, h3]
  rw [if_neg (by omega)]

theorem getR_at (x : List UInt8) (m : Nat) (mi : Int) (e : mi = (m : Int)) (hm : m ≤ 8) (h : m ≤ x.length) : getR x 0 mi = (num (x.take m), x.drop m, 0) := by
  subst e; exact getR_ok x m hm h
theorem neq_arr (a b : Operand) (xs ys : List UInt8) (hx : xs.length = 128) (hy : ys.length = 128) (w : World) :
    (binOpG .neq 169 a b (.agg (B8 xs).toArray) (.agg (B8 ys).toArray)).run Try.prog w = .ok (.bool (!(decide (xs = ys)))) w := by
  obtain ⟨⟨i, hi, _⟩, _⟩ := el_5
  exact agg_neq (by kernel_rfl) a b (arr_equal Try.underlying169 Try.underlying5 agg_5 hi (by kernel_rfl) xs ys hx hy w)

theorem Take_spec {v : Value} {bs : List UInt8} {w : World} {K : Value → World → Prop} (hb : Bts w v bs)
    (h0 : takeB bs = none → ∀ w1, Ext w w1 → K (.tuple #[nilSl.v, .int .i64 100]) w1)
    (h1 : ∀ s, takeB bs = some s → ∀ w1, Ext w w1 → K (.tuple #[s.v, .int .i64 0]) w1) : CALL Try.prog 44 #[v] w K := by
  obtain ⟨a, cp, e, hcp1, hcp2, hcell⟩ := id hb
  subst e
  apply call_slot_Take
  unfold B_slot_Take
  refine X_alloc zero_25 ?_
  have hb1 : (newB w nilSl.cs.toArray 25).heap[w.heap.size]? = some (.cells nilSl.cs.toArray 25 (0, 0)) := newB_get _ _ _
  have hx1 := newB_ext w nilSl.cs.toArray 25
  have hz1 := newB_size w nilSl.cs.toArray 25
  show X _ _ (newB w nilSl.cs.toArray 25) _
  generalize newB w nilSl.cs.toArray 25 = w1 at hb1 hx1 hz1 ⊢
  have bad : ∀ w5, Ext w1 w5 → takeB bs = none → X Try.prog (Instr.build 25 #[]) w5 fun v4_13 w4 =>
      XU Try.prog (Instr.storeAt 25 (.pointer (some ⟨w.heap.size, 0, none⟩)) v4_13) w4 fun w5 => resC Try.prog 25 (.pointer (some ⟨w.heap.size, 0, none⟩)) w5 fun r0 => K (.tuple #[r0, (.int .i64 100)]) w5 := by
    intro w5 hx5 hn
    refine X_of (run_build_25z _) ?_
    have hb5 := hx5.get hb1
    refine XU_storeAgg info_25 hb5 (by rw [sz_25]; rfl) (by rw [sz_25]; rfl) (Sl.one nilSl) ?_
    refine resC_agg Try.underlying25 agg_25 info_25 (setAt_same (lt_of_blk hb5)) (by rw [sz_25]; rfl) ?_
    exact h0 hn _ (Ext.seq (hx1.trans hx5) (setAt_keep _ _ _ _ _) (fun i hi => by omega))
  by_cases hl : bs.length = 128
  case neg =>
    simp only [SS, ST]
    rw [if_pos (by simp; omega)]
    exact bad w1 (Keep.refl _ _) (by simp [takeB, hl])
  case pos =>
    simp only [SS, ST]
    rw [if_neg (by simp; omega)]
    obtain ⟨ad, rfl, hcells⟩ := hcell (by omega)
    refine New_spec (hb.ext hx1) (by omega) ?_
    intro b w2 hx2 hb2 hr2
    have hbne : ∀ k, w1.heap.size ≤ k → k ≠ w.heap.size := fun k hk => by omega
    refine Get_spec hr2 ?_
    rw [getR_at bs 8 8 rfl (by decide) (by omega)]
    intro w3 hk3 hr3
    refine Get_spec hr3 ?_
    rw [getR_at _ 1 1 rfl (by decide) (by simp; omega)]
    intro w4 hk4 hr4
    refine Get_spec hr4 ?_
    rw [getR_at _ 4 4 rfl (by decide) (by simp; omega)]
    intro w5 hk5 hr5
    refine Get_spec hr5 ?_
    rw [getR_at _ 4 4 rfl (by decide) (by simp; omega)]
    intro w6 hk6 hr6
    have hx16 : Ext w1 w6 := Ext.seq hx2 (hk3.trans (hk4.trans (hk5.trans hk6))) (fun i hi => by subst hi; exact hb2)
    obtain ⟨og, oa, oz, om⟩ := slotOf_ok bs
    simp only [SS, ST]
    rw [w8u (n := num ((bs.drop 8).take 1)) oa, w32u (n := num (((bs.drop 8).drop 1).take 4)) oz, w32u (n := num ((((bs.drop 8).drop 1).drop 4).take 4)) om]
    refine X_of (run_build_25 _ _ _ _ _) ?_
    refine X_alloc zero_25 ?_
    have hb7 : (newB w6 nilSl.cs.toArray 25).heap[w6.heap.size]? = some (.cells nilSl.cs.toArray 25 (0, 0)) := newB_get _ _ _
    have hx7 := newB_ext w6 nilSl.cs.toArray 25
    show XU _ _ (newB w6 nilSl.cs.toArray 25) _
    generalize newB w6 nilSl.cs.toArray 25 = w7 at hb7 hx7 ⊢
    refine XU_storeAgg (l := (slotOf bs).cs) info_25 hb7 (by rw [sz_25]; rfl) (by rw [sz_25]; rfl) (Sl.one _) ?_
    have hb8 : (setAt w7 w6.heap.size (slotOf bs).cs.toArray 25 (0, 0)).heap[w6.heap.size]? = some (.cells (slotOf bs).cs.toArray 25 (0, 0)) := setAt_same (lt_of_blk hb7)
    have hx8 : Ext w6 (setAt w7 w6.heap.size (slotOf bs).cs.toArray 25 (0, 0)) := Ext.seq hx7 (setAt_keep _ _ _ _ _) (fun i hi => by omega)
    generalize setAt w7 w6.heap.size (slotOf bs).cs.toArray 25 (0, 0) = w8 at hb8 hx8 ⊢
    have hx18 := hx16.trans hx8
    have hx18d : Ext w1 (drewW w8) := hx18.trans (Keep.drew _ w8)
    have hb8d : (drewW w8).heap[w6.heap.size]? = some (.cells (slotOf bs).cs.toArray 25 (0, 0)) := hb8
    refine ⟨Ext, Ext.frame, ?_⟩
    have eg : num (bs.take 8) = (slotOf bs).gen := rfl
    rw [eg]
    by_cases hgen : (slotOf bs).gen = 0
    · have ed : decide (((slotOf bs).gen : Int) = 0) = true := by simp [hgen]
      simp only [SS, ST, ed, Bool.true_eq_false, if_false, if_true]
      refine ⟨Ext.frame.refl _, ?_⟩
      exact bad _ hx18d (by simp [takeB, hgen])
    · have ed : decide (((slotOf bs).gen : Int) = 0) = false := by simp [hgen]
      simp only [SS, ST, ed, Bool.false_eq_true, if_false, if_true]
      refine XR_loadAgg Try.underlying25 agg_25 info_25 hb8d (by rw [sz_25]; rfl) ?_
      refine XP_of (fun w => run_arrayAt Try.underlying169 _ (by omega) _ w) ?_
      refine XR_ok Ext.frame (fun w' k => run_loadBytes Try.underlying169 agg_169 info_169 (l := bs) (by rw [sz_169]; exact hl) (fun j u hj => k.cell (fun h => h) (hx18d.cell (fun h => h) (hx1.cell (fun h => h) (hcells j u hj))))) ?_
      refine lay_spec (slotOf_ok bs) ?_
      intro w9 hx9
      refine ⟨hx9, ?_⟩
      refine XP_of (fun w => neq_arr _ _ _ _ (layB_len _) hl w) ?_
      simp only [SS, ST]
      by_cases heq : layB (slotOf bs) = bs
      · have e9 : decide (layB (slotOf bs) = bs) = true := by simpa using heq
        simp only [e9, Bool.not_true, Bool.false_eq_true, if_false]
        refine X_loadAgg Try.underlying25 agg_25 info_25 (hx9.get hb8d) (by rw [sz_25]; rfl) ?_
        have hx19 := hx18d.trans hx9
        have hb9 := Ext.get hx19 hb1
        refine XU_storeAgg info_25 hb9 (by rw [sz_25]; rfl) (by rw [sz_25]; rfl) (Sl.one _) ?_
        refine resC_agg Try.underlying25 agg_25 info_25 (setAt_same (lt_of_blk hb9)) (by rw [sz_25]; rfl) ?_
        exact h1 (slotOf bs) (by simp [takeB, hl, hgen, heq]) _ (Ext.seq (hx1.trans hx19) (setAt_keep _ _ _ _ _) (fun i hi => by omega))
      · have e9 : decide (layB (slotOf bs) = bs) = false := by simpa using heq
        simp only [e9, Bool.not_false, if_true]
        exact bad _ (hx18d.trans hx9) (by simp [takeB, heq])
end Go.Proofs.Ytggggfcgnkllgaa
