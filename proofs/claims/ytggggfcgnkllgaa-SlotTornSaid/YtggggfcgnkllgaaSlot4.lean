/- The reference's Take of a slot, by contract; slots compared; what cellaragelaw10.shown computes: true. -/
import Derived.Test.YtggggfcgnkllgaaSlot3
import Derived.Test.YtggggfcgnkllgaaT4
set_option linter.unusedVariables false
set_option linter.unusedSimpArgs false
namespace Go.Proofs.Ytggggfcgnkllgaa
open Go Go.Sh Go.RowKit
attribute [local irreducible] X XU XP XR CALL loopS resC closS

theorem run_build_57 (a : Option Addr) (n c : Nat) (w : World) : (Instr.build 57 #[(0, .slice a n c)]).run Try.prog w = .ok (.agg #[.slice a n c, .int .i64 0, .int .i64 0]) w := by kernel_rfl
theorem run_build_25a (a : Int) (w : World) : (Instr.build 25 #[(0, .int .u64 a)]).run Try.prog w = .ok (.agg #[.int .u64 a, .int .u8 0, .int .u32 0, .int .u32 0]) w := by kernel_rfl
theorem getR_bound (x : List UInt8) (f mi : Int) (n k : Nat) (e : mi = (n : Int)) (hk : 256 ^ n = k) : (getR x f mi).1 < k := by
  have hp : 0 < k := by rw [← hk]; exact Nat.pow_pos (by decide)
  have h3 : mi.toNat = n := by omega
  unfold getR
  rw [h3]
  split
  · exact hp
  · split
    · exact hp
    · split
      · exact hp
      · exact num_bound x n k hk

theorem RTake_spec {v : Value} {bs : List UInt8} {w : World} {K : Value → World → Prop} (hb : Bts w v bs)
    (h0 : takeB bs = none → ∀ w1, Ext w w1 → K (.tuple #[nilSl.v, .int .i64 100]) w1)
    (h1 : ∀ s, takeB bs = some s → ∀ w1, Ext w w1 → K (.tuple #[s.v, .int .i64 0]) w1) : CALL Try.prog 45 #[v] w K := by
  obtain ⟨a, cp, e, hcp1, hcp2, hcell⟩ := id hb
  subst e
  apply call_ref10_Take
  unfold B_ref10_Take
  refine X_alloc zero_25 ?_
  have hb1 : (newB w nilSl.cs.toArray 25).heap[w.heap.size]? = some (.cells nilSl.cs.toArray 25 (0, 0)) := newB_get _ _ _
  have hx1 := newB_ext w nilSl.cs.toArray 25
  have hz1 := newB_size w nilSl.cs.toArray 25
  show X _ _ (newB w nilSl.cs.toArray 25) _
  generalize newB w nilSl.cs.toArray 25 = w1 at hb1 hx1 hz1 ⊢
  have bad : ∀ w5, Ext w1 w5 → takeB bs = none → X Try.prog (Instr.build 25 #[]) w5 fun v4_13 w4 =>
      XU Try.prog (Instr.storeAt 25 (.pointer (some ⟨w.heap.size, 0, none⟩)) v4_13) w4 fun w5 => resC Try.prog 25 (.pointer (some ⟨w.heap.size, 0, none⟩)) w5 fun r0 => K (.tuple #[r0, (.int .i64 100)]) w5 := by
    intro w5 hx5 hn
    refine X_of (run_build_25z _) ?_
    have hb5 := hx5.get hb1
    refine XU_storeAgg info_25 hb5 (by rw [sz_25]; rfl) (by rw [sz_25]; rfl) (Sl.one nilSl) ?_
    refine resC_agg Try.underlying25 agg_25 info_25 (setAt_same (lt_of_blk hb5)) (by rw [sz_25]; rfl) ?_
    exact h0 hn _ (Ext.seq (hx1.trans hx5) (setAt_keep _ _ _ _ _) (fun i hi => by omega))
  refine X_of (run_build_57 _ _ _ _) ?_
  refine X_alloc zero_57 ?_
  have hb2 : (newB w1 #[.slice none 0 0, .int .i64 0, .int .i64 0] 57).heap[w1.heap.size]? = some (.cells #[.slice none 0 0, .int .i64 0, .int .i64 0] 57 (0, 0)) := newB_get _ _ _
  have hx2 := newB_ext w1 #[.slice none 0 0, .int .i64 0, .int .i64 0] 57
  have hz2 := newB_size w1 #[.slice none 0 0, .int .i64 0, .int .i64 0] 57
  show XU _ _ (newB w1 #[.slice none 0 0, .int .i64 0, .int .i64 0] 57) _
  generalize newB w1 #[.slice none 0 0, .int .i64 0, .int .i64 0] 57 = w2 at hb2 hx2 hz2 ⊢
  refine XU_storeAgg (l := [.slice a bs.length cp, .int .i64 0, .int .i64 0]) info_57 hb2 (by rw [sz_57]; rfl) (by rw [sz_57]; rfl) (by intro v hv; simp at hv; rcases hv with rfl | rfl <;> rfl) ?_
  have hb3 : (setAt w2 w1.heap.size [.slice a bs.length cp, .int .i64 0, .int .i64 0].toArray 57 (0, 0)).heap[w1.heap.size]? = some (.cells #[.slice a bs.length cp, .int .i64 ((0 : Nat) : Int), .int .i64 0] 57 (0, 0)) := setAt_same (lt_of_blk hb2)
  have hx3 : Ext w1 (setAt w2 w1.heap.size [.slice a bs.length cp, .int .i64 0, .int .i64 0].toArray 57 (0, 0)) := Ext.seq hx2 (setAt_keep _ _ _ _ _) (fun i hi => by omega)
  generalize setAt w2 w1.heap.size [.slice a bs.length cp, .int .i64 0, .int .i64 0].toArray 57 (0, 0) = w3 at hb3 hx3 ⊢
  have hr3 : RdrR w3 0 w.heap.size w1.heap.size bs bs 0 := by
    refine ⟨_, 0, hb3, (hb.ext hx1).ext hx3, Nat.zero_le _, rfl, fun hp k hk => ?_⟩
    obtain ⟨ad, rfl, hcells⟩ := hcell hp
    have hk' : ad.block = k := by simpa [Value.ownBlock] using hk
    have h0' : w.cell? (ad.add 0) = some (.int .u8 (bs[0].toNat : Int)) := hcells 0 _ (List.getElem?_eq_getElem hp)
    have hlt := World.block_lt_of_cell? w _ h0'
    have : (ad.add 0).block = ad.block := by unfold Addr.add; split <;> rfl
    omega
  refine RGet_spec hr3 ?_
  intro w4 hk4 hr4
  generalize hg1 : getR bs 0 8 = r1 at hr4 ⊢
  refine X_of (run_build_25a _ _) ?_
  refine X_alloc zero_25 ?_
  have hb5 : (newB w4 nilSl.cs.toArray 25).heap[w4.heap.size]? = some (.cells nilSl.cs.toArray 25 (0, 0)) := newB_get _ _ _
  have hx5 := newB_ext w4 nilSl.cs.toArray 25
  have hz5 := newB_size w4 nilSl.cs.toArray 25
  show XU _ _ (newB w4 nilSl.cs.toArray 25) _
  generalize newB w4 nilSl.cs.toArray 25 = w5 at hb5 hx5 hz5 ⊢
  have hsz14 : w1.heap.size < w4.heap.size := hr4.lt
  have hx14 : Ext w1 w4 := Ext.seq hx3 hk4 (fun i hi => by omega)
  refine XU_storeAgg (l := [.int .u64 (r1.1 : Int), .int .u8 0, .int .u32 0, .int .u32 0]) info_25 hb5 (by rw [sz_25]; rfl) (by rw [sz_25]; rfl) (by intro v hv; simp at hv; rcases hv with rfl | rfl | rfl <;> rfl) ?_
  have hb6 : (setAt w5 w4.heap.size [.int .u64 (r1.1 : Int), .int .u8 0, .int .u32 0, .int .u32 0].toArray 25 (0, 0)).heap[w4.heap.size]? = some (.cells #[.int .u64 (r1.1 : Int), .int .u8 0, .int .u32 0, .int .u32 0] 25 (0, 0)) := setAt_same (lt_of_blk hb5)
  have hx6 : Ext w4 (setAt w5 w4.heap.size [.int .u64 (r1.1 : Int), .int .u8 0, .int .u32 0, .int .u32 0].toArray 25 (0, 0)) := Ext.seq hx5 (setAt_keep _ _ _ _ _) (fun i hi => by omega)
  generalize setAt w5 w4.heap.size [.int .u64 (r1.1 : Int), .int .u8 0, .int .u32 0, .int .u32 0].toArray 25 (0, 0) = w6 at hb6 hx6 ⊢
  have hne : w4.heap.size ≠ w1.heap.size := by omega
  have off : ∀ i, 0 ≤ i → i < w.heap.size → i ≠ w1.heap.size → ¬ i = w4.heap.size := fun i _ h _ => by omega
  refine RGet_spec (hr4.ext hx6) ?_
  intro w7 hk7 hr7
  generalize hg2 : getR r1.2.1 r1.2.2 1 = r2 at hr7 ⊢
  have bd2 : r2.1 < 256 := by rw [← hg2]; exact getR_bound _ _ _ 1 _ rfl rfl
  have hb7 := hk7.get hne hb6
  simp only [SS, ST]
  rw [w8u bd2]
  refine XU_store info_5 sz_5 rfl hb7 (by simp) (by decide) ?_
  have hb8 : (setAt w7 w4.heap.size #[.int .u64 (r1.1 : Int), .int .u8 (r2.1 : Int), .int .u32 0, .int .u32 0] 25 (0, 0)).heap[w4.heap.size]? = some (.cells #[.int .u64 (r1.1 : Int), .int .u8 (r2.1 : Int), .int .u32 0, .int .u32 0] 25 (0, 0)) := setAt_same (lt_of_blk hb7)
  have hk8 := setAt_keep w7 w4.heap.size #[.int .u64 (r1.1 : Int), .int .u8 (r2.1 : Int), .int .u32 0, .int .u32 0] 25 (0, 0)
  show CALL _ _ _ (setAt w7 w4.heap.size #[.int .u64 (r1.1 : Int), .int .u8 (r2.1 : Int), .int .u32 0, .int .u32 0] 25 (0, 0)) _
  generalize setAt w7 w4.heap.size #[.int .u64 (r1.1 : Int), .int .u8 (r2.1 : Int), .int .u32 0, .int .u32 0] 25 (0, 0) = w8 at hb8 hk8 ⊢
  refine RGet_spec (hr7.keep hk8 (fun h => hne h.symm) off) ?_
  intro w9 hk9 hr9
  generalize hg3 : getR r2.2.1 r2.2.2 4 = r3 at hr9 ⊢
  have bd3 : r3.1 < 4294967296 := by rw [← hg3]; exact getR_bound _ _ _ 4 _ rfl rfl
  have hb9 := hk9.get hne hb8
  simp only [SS, ST]
  rw [w32u bd3]
  refine XU_store info_23 sz_23 rfl hb9 (by simp) (by decide) ?_
  have hb10 : (setAt w9 w4.heap.size #[.int .u64 (r1.1 : Int), .int .u8 (r2.1 : Int), .int .u32 (r3.1 : Int), .int .u32 0] 25 (0, 0)).heap[w4.heap.size]? = some (.cells #[.int .u64 (r1.1 : Int), .int .u8 (r2.1 : Int), .int .u32 (r3.1 : Int), .int .u32 0] 25 (0, 0)) := setAt_same (lt_of_blk hb9)
  have hk10 := setAt_keep w9 w4.heap.size #[.int .u64 (r1.1 : Int), .int .u8 (r2.1 : Int), .int .u32 (r3.1 : Int), .int .u32 0] 25 (0, 0)
  show CALL _ _ _ (setAt w9 w4.heap.size #[.int .u64 (r1.1 : Int), .int .u8 (r2.1 : Int), .int .u32 (r3.1 : Int), .int .u32 0] 25 (0, 0)) _
  generalize setAt w9 w4.heap.size #[.int .u64 (r1.1 : Int), .int .u8 (r2.1 : Int), .int .u32 (r3.1 : Int), .int .u32 0] 25 (0, 0) = w10 at hb10 hk10 ⊢
  refine RGet_spec (hr9.keep hk10 (fun h => hne h.symm) off) ?_
  intro w11 hk11 hr11
  generalize hg4 : getR r3.2.1 r3.2.2 4 = r4 at hr11 ⊢
  have bd4 : r4.1 < 4294967296 := by rw [← hg4]; exact getR_bound _ _ _ 4 _ rfl rfl
  have hb11 := hk11.get hne hb10
  simp only [SS, ST]
  rw [w32u bd4]
  refine XU_store info_23 sz_23 rfl hb11 (by simp) (by decide) ?_
  obtain ⟨s, hs⟩ : ∃ s : Sl, s = ⟨r1.1, r2.1, r3.1, r4.1⟩ := ⟨_, rfl⟩
  have hb12 : (setAt w11 w4.heap.size s.cs.toArray 25 (0, 0)).heap[w4.heap.size]? = some (.cells s.cs.toArray 25 (0, 0)) := setAt_same (lt_of_blk hb11)
  have hk12 := setAt_keep w11 w4.heap.size s.cs.toArray 25 (0, 0)
  have es : setAt w11 w4.heap.size (#[.int .u64 (r1.1 : Int), .int .u8 (r2.1 : Int), .int .u32 (r3.1 : Int), .int .u32 0].setIfInBounds 3 (.int .u32 (r4.1 : Int))) 25 (0, 0) = setAt w11 w4.heap.size s.cs.toArray 25 (0, 0) := by rw [hs]; rfl
  rw [show (0 + 3 : Nat) = 3 from rfl, es]
  generalize setAt w11 w4.heap.size s.cs.toArray 25 (0, 0) = w12 at hb12 hk12 ⊢
  have bd1 : r1.1 < 18446744073709551616 := by rw [← hg1]; exact getR_bound _ _ _ 8 _ rfl rfl
  have hok : s.ok := by rw [hs]; exact ⟨bd1, bd2, bd3, bd4⟩
  have hx112 : Ext w1 w12 := by
    refine Ext.seq (Ext.seq (Ext.seq (Ext.seq (Ext.seq (Ext.seq (hx14.trans hx6) hk7 ?_) hk8 ?_) hk9 ?_) hk10 ?_) hk11 ?_) hk12 ?_
    all_goals (intro i hi; omega)
  have h128 : bs.length = 128 → s = slotOf bs := by
    intro hl
    have e1 := getR_at bs 8 8 rfl (by decide) (by omega)
    rw [hg1] at e1
    subst e1
    have e2 := getR_at (bs.drop 8) 1 1 rfl (by decide) (by simp; omega)
    rw [hg2] at e2
    subst e2
    have e3 := getR_at ((bs.drop 8).drop 1) 4 4 rfl (by decide) (by simp; omega)
    rw [hg3] at e3
    subst e3
    have e4 := getR_at (((bs.drop 8).drop 1).drop 4) 4 4 rfl (by decide) (by simp; omega)
    rw [hg4] at e4
    subst e4
    exact hs
  have hnone : (s.gen = 0 ∨ layB s ≠ bs) → takeB bs = none := by
    intro h
    unfold takeB
    rw [if_neg]
    rintro ⟨hl, h2, h3⟩
    rw [← h128 hl] at h2 h3
    rcases h with h | h
    · exact h2 h
    · exact h h3
  have hx12d : Ext w1 (drewW w12) := hx112.trans (Keep.drew _ w12)
  have hb12d : (drewW w12).heap[w4.heap.size]? = some (.cells s.cs.toArray 25 (0, 0)) := hb12
  refine ⟨Ext, Ext.frame, ?_⟩
  refine XR_loadL agg_22 hb12d rfl ?_
  by_cases hgen : s.gen = 0
  · have ed : decide ((s.gen : Int) = 0) = true := by simp [hgen]
    simp only [SS, ST, ed, Bool.true_eq_false, if_false, if_true]
    refine ⟨Ext.frame.refl _, ?_⟩
    exact bad _ hx12d (hnone (.inl hgen))
  · have ed : decide ((s.gen : Int) = 0) = false := by simp [hgen]
    simp only [SS, ST, ed, Bool.false_eq_true, if_false, if_true]
    refine XR_loadAgg Try.underlying25 agg_25 info_25 hb12d (by rw [sz_25]; rfl) ?_
    refine XR_str Try.underlying27 Try.underlying5 Try.underlying9 ((hb.ext hx1).ext hx12d) ?_
    refine RLay_spec hok ?_
    intro v13 w13 hx13 hv13
    refine ⟨hx13, ?_⟩
    refine XR_str Try.underlying27 Try.underlying5 Try.underlying9 hv13 ?_
    simp only [SS, ST, str_toList, l8_bne]
    by_cases heq : layB s = bs
    · have e9 : decide (layB s ≠ bs) = false := by simpa using heq
      simp only [e9, Bool.false_eq_true, if_false]
      refine X_loadAgg Try.underlying25 agg_25 info_25 (Ext.get hx13 hb12d) (by rw [sz_25]; rfl) ?_
      have hx19 := hx12d.trans hx13
      have hb9 := Ext.get hx19 hb1
      refine XU_storeAgg info_25 hb9 (by rw [sz_25]; rfl) (by rw [sz_25]; rfl) (Sl.one _) ?_
      refine resC_agg Try.underlying25 agg_25 info_25 (setAt_same (lt_of_blk hb9)) (by rw [sz_25]; rfl) ?_
      have hl : bs.length = 128 := by rw [← heq, layB_len]
      refine h1 s ?_ _ (Ext.seq (hx1.trans hx19) (setAt_keep _ _ _ _ _) (fun i hi => by omega))
      unfold takeB
      rw [← h128 hl, if_pos ⟨hl, hgen, heq⟩]
    · have e9 : decide (layB s ≠ bs) = true := by simpa using heq
      simp only [e9, if_true]
      exact bad _ (hx12d.trans hx13) (hnone (.inr heq))
end Go.Proofs.Ytggggfcgnkllgaa
