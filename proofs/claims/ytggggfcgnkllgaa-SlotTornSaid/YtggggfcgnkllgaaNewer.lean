/- cellarage/slot's Newer and the reference's, by contract. -/
import Derived.Test.YtggggfcgnkllgaaTakeAll
set_option linter.unusedVariables false
set_option linter.unusedSimpArgs false
namespace Go.Proofs.Ytggggfcgnkllgaa
open Go Go.Sh Go.RowKit
attribute [local irreducible] X XU XP XR CALL loopS resC closS

/-- One more row of bytes is looked at. -/
def chNext (c : Sl × Int) (i : Nat) (bs : List UInt8) : Sl × Int :=
  if (takeP bs).2 = 0 ∧ c.1.gen < (takeP bs).1.gen then ((takeP bs).1, (i : Int)) else c
def newerP (x y : List UInt8) : Sl × Int × Int :=
  let c := chNext (chNext (nilSl, 0) 0 x) 1 y
  if c.1.gen = 0 then (nilSl, 0, 100) else (c.1, c.2, 0)

theorem run_row70 (a : Option Addr) (n c : Nat) (a' : Option Addr) (n' c' : Nat) (w : World) : (Instr.buildSlice 70 2 #[(0, .slice a n c), (1, .slice a' n' c')]).run Try.prog w = .ok (.slice (some ⟨w.heap.size, 0, none⟩) 2 2) (newB w #[.slice a n c, .slice a' n' c'] 27) := by kernel_rfl

theorem Newer_spec {v0 v1 : Value} {xs ys : List UInt8} {w : World} {K : Value → World → Prop} (hb0 : Bts w v0 xs) (hb1 : Bts w v1 ys)
    (h : ∀ w1, Ext w w1 → K (.tuple #[.agg (newerP xs ys).1.cs.toArray, .int .i64 (newerP xs ys).2.1, .int .i64 (newerP xs ys).2.2]) w1) : CALL Try.prog 48 #[v0, v1] w K := by
  obtain ⟨a0, c0, e0⟩ := Bts.slice hb0
  obtain ⟨a1, c1, e1⟩ := Bts.slice hb1
  apply call_slot_Newer
  unfold B_slot_Newer
  refine X_alloc zero_25 ?_
  have hr : (newB w nilSl.cs.toArray 25).heap[w.heap.size]? = some (.cells nilSl.cs.toArray 25 (0, 0)) := newB_get _ _ _
  have hx1 := newB_ext w nilSl.cs.toArray 25
  have hz1 := newB_size w nilSl.cs.toArray 25
  show X _ _ (newB w nilSl.cs.toArray 25) _
  generalize newB w nilSl.cs.toArray 25 = w1 at hr hx1 hz1 ⊢
  refine X_alloc zero_25 ?_
  have hc : (newB w1 nilSl.cs.toArray 25).heap[w1.heap.size]? = some (.cells nilSl.cs.toArray 25 (0, 0)) := newB_get _ _ _
  have hx2 := newB_ext w1 nilSl.cs.toArray 25
  have hz2 := newB_size w1 nilSl.cs.toArray 25
  show X _ _ (newB w1 nilSl.cs.toArray 25) _
  generalize newB w1 nilSl.cs.toArray 25 = w2 at hc hx2 hz2 ⊢
  have hrow : ∃ w3, (Instr.buildSlice 70 2 #[(0, v0), (1, v1)]).run Try.prog w2 = .ok (.slice (some ⟨w2.heap.size, 0, none⟩) 2 2) w3 ∧ w3.heap[w2.heap.size]? = some (.cells [v0, v1].toArray 27 (0, 0)) ∧ Ext w2 w3 ∧ w3.heap.size = w2.heap.size + 1 := by
    rw [e0, e1]
    exact ⟨_, run_row70 _ _ _ _ _ _ _, newB_get _ _ _, newB_ext _ _ _, newB_size _ _ _⟩
  obtain ⟨w3, hrun, hrw, hx3, hz3⟩ := hrow
  refine X_of hrun ?_
  simp only [SS, ST]
  have hx13 : Ext w w3 := hx1.trans (hx2.trans hx3)
  refine loopS_of (fun ρ wr => ∃ (i : Nat) (c : Sl × Int), i ≤ 2 ∧ c = (match i with | 0 => (nilSl, 0) | 1 => chNext (nilSl, 0) 0 xs | _ => chNext (chNext (nilSl, 0) 0 xs) 1 ys) ∧ Ext w wr ∧ w3.heap.size ≤ wr.heap.size ∧
      wr.heap[w.heap.size]? = some (.cells nilSl.cs.toArray 25 (0, 0)) ∧ wr.heap[w1.heap.size]? = some (.cells c.1.cs.toArray 25 (0, 0)) ∧ wr.heap[w2.heap.size]? = some (.cells [v0, v1].toArray 27 (0, 0)) ∧
      ρ 17 = .int .i64 (i : Nat) ∧ ρ 16 = .int .i64 2 ∧ ρ 15 = .slice (some ⟨w2.heap.size, 0, none⟩) 2 2 ∧ ρ 7 = .pointer (some ⟨w1.heap.size, 0, none⟩) ∧ ρ 8 = .int .i64 c.2 ∧ ρ 4 = .pointer (some ⟨w.heap.size, 0, none⟩))
    (fun ρ wr => match ρ 17 with | .int _ s => (2 - s).toNat | _ => 0) ?_ ?_
  · exact ⟨0, _, by omega, rfl, hx13, Nat.le_refl _, hx3.get (hx2.get hr), hx3.get hc, hrw, rfl, rfl, rfl, rfl, rfl, rfl⟩
  · rintro ρ wr ⟨i, c, hi, hce, hxr, hsz, hr', hc', hrw', h17, h16, h15, h7, h8, h4⟩
    by_cases hin : i = 2
    · subst hin
      simp only [SS, ST, h17, h16, h15, h7, h8, h4]
      rw [if_neg (by simp)]
      simp only [upds_cons, upds_nil, Nat.reduceEqDiff, if_false, h7, h8, h4, SS, ST]
      refine X_loadL agg_22 hc' rfl ?_
      simp only [SS, ST]
      have hce' : c = chNext (chNext (nilSl, 0) 0 xs) 1 ys := hce
      by_cases hg : c.1.gen = 0
      · have ed : decide ((c.1.gen : Int) = 0) = true := by simp [hg]
        rw [if_pos ed]
        refine X_of (run_build_25z _) ?_
        refine XU_storeAgg info_25 hr' (by rw [sz_25]; rfl) (by rw [sz_25]; rfl) (Sl.one nilSl) ?_
        refine resC_agg Try.underlying25 agg_25 info_25 (setAt_same (lt_of_blk hr')) (by rw [sz_25]; rfl) ?_
        have := h _ (Ext.seq hxr (setAt_keep wr w.heap.size nilSl.cs.toArray 25 (0, 0)) (fun i hi => by omega))
        rw [show newerP xs ys = (nilSl, 0, 100) by unfold newerP; rw [← hce']; simp [hg]] at this
        exact this
      · have ed : decide ((c.1.gen : Int) = 0) = false := by simp [hg]
        rw [if_neg (by rw [ed]; decide)]
        refine X_loadAgg Try.underlying25 agg_25 info_25 hc' (by rw [sz_25]; rfl) ?_
        refine XU_storeAgg info_25 hr' (by rw [sz_25]; rfl) (by rw [sz_25]; rfl) (Sl.one _) ?_
        refine resC_agg Try.underlying25 agg_25 info_25 (setAt_same (lt_of_blk hr')) (by rw [sz_25]; rfl) ?_
        have := h _ (Ext.seq hxr (setAt_keep wr w.heap.size c.1.cs.toArray 25 (0, 0)) (fun i hi => by omega))
        rw [show newerP xs ys = (c.1, c.2, 0) by unfold newerP; rw [← hce']; simp [hg]] at this
        exact this
    · have hsel : ∃ vi bi, [v0, v1][i]? = some vi ∧ Bts w vi bi ∧ (match i + 1 with | 0 => (nilSl, 0) | 1 => chNext (nilSl, 0) 0 xs | _ => chNext (chNext (nilSl, 0) 0 xs) 1 ys) = chNext c i bi := by
        have hi2 : i = 0 ∨ i = 1 := by omega
        rcases hi2 with rfl | rfl
        · exact ⟨v0, xs, rfl, hb0, by rw [hce]; rfl⟩
        · exact ⟨v1, ys, rfl, hb1, by rw [hce]; rfl⟩
      obtain ⟨vi, bi, hvi, hbi, hnext⟩ := hsel
      simp only [SS, ST, h17, h16, h15, h7, h8, h4]
      rw [if_pos (by simp; omega)]
      refine X_of (ix Try.underlying70 info_27 i rfl (by omega) _) ?_
      have ea : (⟨w2.heap.size, 0, none⟩ : Addr).add (i * szT Try.prog 27) = ⟨w2.heap.size, i, none⟩ := by
        rw [sz_27, Nat.mul_one]; unfold Addr.add; split <;> simp_all
      rw [ea]
      refine X_loadL agg_27 hrw' hvi ?_
      refine Take_all (hbi.ext hxr) ?_
      intro w4 hx4
      simp only [SS, ST]
      refine X_slotVar (s := (takeP bi).1) ?_
      intro w5 hx5 hb5
      have hx45 := hx4.trans hx5
      have hr5 := Ext.get hx45 hr'
      have hc5 := Ext.get hx45 hc'
      have hrw5 := Ext.get hx45 hrw'
      have hxr5 : Ext w w5 := hxr.trans hx45
      have hs4 := hx4.size
      have hs5 := hx5.size
      by_cases herr : (takeP bi).2 = 0
      · have ee : decide ((takeP bi).2 = 0) = true := by simpa using herr
        simp only [SS, ST, ee, if_true]
        refine X_loadL agg_22 hb5 rfl ?_
        refine X_loadL agg_22 hc5 rfl ?_
        simp only [SS, ST]
        by_cases hgt : c.1.gen < (takeP bi).1.gen
        · have eg : decide (((takeP bi).1.gen : Int) > (c.1.gen : Int)) = true := by simp; omega
          rw [if_pos eg]
          refine X_loadAgg Try.underlying25 agg_25 info_25 hb5 (by rw [sz_25]; rfl) ?_
          refine XU_storeAgg info_25 hc5 (by rw [sz_25]; rfl) (by rw [sz_25]; rfl) (Sl.one _) ?_
          simp only [upds_cons, upds_nil, Nat.reduceEqDiff, if_false, if_true, h17, SS, ST]
          show _ ∧ _
          have hk := setAt_keep w5 w1.heap.size (takeP bi).1.cs.toArray 25 (0, 0)
          refine ⟨⟨i + 1, chNext c i bi, by omega, hnext.symm, Ext.seq hxr5 hk (fun j hj => by omega), ?_, hk.get (by omega) hr5, ?_, hk.get (by omega) hrw5, next64 (n := 2) (by decide) hi, h16, h15, h7, ?_, h4⟩, ?_⟩
          · rw [setAt_size]; omega
          · rw [show (chNext c i bi).1 = (takeP bi).1 by unfold chNext; rw [if_pos ⟨herr, hgt⟩]]
            exact setAt_same (lt_of_blk hc5)
          · rw [show (chNext c i bi).2 = (i : Int) by unfold chNext; rw [if_pos ⟨herr, hgt⟩]]
          · show (_ - IntKind.i64.wrap _).toNat < _
            rw [w64 (by omega) (by omega)]
            omega
        · have eg : decide (((takeP bi).1.gen : Int) > (c.1.gen : Int)) = false := by simp; omega
          rw [if_neg (by rw [eg]; decide)]
          simp only [upds_cons, upds_nil, Nat.reduceEqDiff, if_false, if_true, h17, SS, ST]
          show _ ∧ _
          have ecn : chNext c i bi = c := by unfold chNext; rw [if_neg (fun hh => hgt hh.2)]
          refine ⟨⟨i + 1, c, by omega, by rw [← ecn, ← hnext], hxr5, by omega, hr5, hc5, hrw5, next64 (n := 2) (by decide) hi, h16, h15, h7, h8, h4⟩, ?_⟩
          · show (_ - IntKind.i64.wrap _).toNat < _
            rw [w64 (by omega) (by omega)]
            omega
      · have ee : decide ((takeP bi).2 = 0) = false := by simpa using herr
        simp only [SS, ST, ee, Bool.false_eq_true, if_false]
        simp only [upds_cons, upds_nil, Nat.reduceEqDiff, if_false, if_true, h17, SS, ST]
        show _ ∧ _
        have ecn : chNext c i bi = c := by unfold chNext; rw [if_neg (fun hh => herr hh.1)]
        refine ⟨⟨i + 1, c, by omega, by rw [← ecn, ← hnext], hxr5, by omega, hr5, hc5, hrw5, next64 (n := 2) (by decide) hi, h16, h15, h7, h8, h4⟩, ?_⟩
        · show (_ - IntKind.i64.wrap _).toNat < _
          rw [w64 (by omega) (by omega)]
          omega
end Go.Proofs.Ytggggfcgnkllgaa
