/- cellarage/slot and the reference's, by contract. -/
import Derived.Test.YtggggfcgnkllgaaCodec3
import Derived.Test.YtggggfcgnkllgaaAgg
import Derived.Test.YtggggfcgnkllgaaOrder
import Derived.Test.YtggggfcgnkllgaaT3
set_option linter.unusedVariables false
set_option linter.unusedSimpArgs false
namespace Go.Proofs.Ytggggfcgnkllgaa
open Go Go.Sh Go.RowKit
attribute [local irreducible] X XU XP XR CALL loopS resC closS

structure Sl where
  gen : Nat
  area : Nat
  size : Nat
  sum : Nat
theorem Sl.eq_iff (a b : Sl) : (a.gen = b.gen ∧ a.area = b.area ∧ a.size = b.size ∧ a.sum = b.sum) ↔ a = b := by
  obtain ⟨a1, a2, a3, a4⟩ := a
  obtain ⟨b1, b2, b3, b4⟩ := b
  simp
instance : DecidableEq Sl := fun a b => decidable_of_iff _ (Sl.eq_iff a b)
def Sl.ok (s : Sl) : Prop := s.gen < 18446744073709551616 ∧ s.area < 256 ∧ s.size < 4294967296 ∧ s.sum < 4294967296
def Sl.cs (s : Sl) : List Value := [.int .u64 (s.gen : Int), .int .u8 (s.area : Int), .int .u32 (s.size : Int), .int .u32 (s.sum : Int)]
def Sl.v (s : Sl) : Value := .agg s.cs.toArray
def nilSl : Sl := ⟨0, 0, 0, 0⟩
def headB (s : Sl) : List UInt8 := be 8 s.gen ++ be 1 s.area ++ be 4 s.size ++ be 4 s.sum
def layB (s : Sl) : List UInt8 := headB s ++ List.replicate 103 0 ++ be 8 s.gen
theorem headB_len (s : Sl) : (headB s).length = 17 := by simp [headB]
theorem layB_len (s : Sl) : (layB s).length = 128 := by simp [layB, headB]

theorem run_build_25 (a b c d : Int) (w : World) : (Instr.build 25 #[(0, .int .u64 a), (1, .int .u8 b), (2, .int .u32 c), (3, .int .u32 d)]).run Try.prog w = .ok (.agg #[.int .u64 a, .int .u8 b, .int .u32 c, .int .u32 d]) w := by kernel_rfl
theorem run_build_25z (w : World) : (Instr.build 25 #[]).run Try.prog w = .ok nilSl.v w := by kernel_rfl
theorem Sl.one (s : Sl) : ∀ v ∈ s.cs, v.oneCell' = true := by
  intro v hv
  simp [Sl.cs] at hv
  rcases hv with rfl | rfl | rfl | rfl <;> rfl
theorem u_small {k : IntKind} {n m : Nat} (e : ∀ x : Int, k.wrap x = x % (m : Int)) (h : n < m) : k.wrap (n : Int) = (n : Int) := by
  rw [e, ← Int.natCast_emod, Nat.mod_eq_of_lt h]
theorem w64u {n : Nat} (h : n < 18446744073709551616) : IntKind.u64.wrap (n : Int) = (n : Int) := u_small (m := 18446744073709551616) wrap_u64 h
theorem w32u {n : Nat} (h : n < 4294967296) : IntKind.u32.wrap (n : Int) = (n : Int) := u_small (m := 4294967296) wrap_u32 h
theorem w8u {n : Nat} (h : n < 256) : IntKind.u8.wrap (n : Int) = (n : Int) := u_small (m := 256) wrap_u8 h

theorem lay_spec {s : Sl} (hs : s.ok) {w : World} {K : Value → World → Prop} (h : ∀ w1, Ext w w1 → K (.agg (B8 (layB s)).toArray) w1) : CALL Try.prog 124 #[s.v] w K := by
  obtain ⟨hg, ha, hz, hm⟩ := hs
  apply call_slot_lay
  unfold B_slot_lay
  refine X_box ?_
  have hb1 : (newB w s.v.cells 25).heap[w.heap.size]? = some (.cells s.cs.toArray 25 (0, 0)) := newB_get _ _ _
  have hx1 := newB_ext w s.v.cells 25
  have hz1 := newB_size w s.v.cells 25
  generalize newB w s.v.cells 25 = w1 at hb1 hx1 hz1 ⊢
  refine X_alloc zero_169 ?_
  have hb2 : (newB w1 (List.replicate 128 (Value.int .u8 0)).toArray 169).heap[w1.heap.size]? = some (.cells (List.replicate 128 (Value.int .u8 0)).toArray 169 (0, 0)) := newB_get _ _ _
  have hx2 := newB_ext w1 (List.replicate 128 (Value.int .u8 0)).toArray 169
  have hz2 := newB_size w1 (List.replicate 128 (Value.int .u8 0)).toArray 169
  show X _ _ (newB w1 (List.replicate 128 (Value.int .u8 0)).toArray 169) _
  generalize newB w1 (List.replicate 128 (Value.int .u8 0)).toArray 169 = w2 at hb2 hx2 hz2 ⊢
  refine X_alloc zero_169 ?_
  have hb3 : (newB w2 (List.replicate 128 (Value.int .u8 0)).toArray 169).heap[w2.heap.size]? = some (.cells (List.replicate 128 (Value.int .u8 0)).toArray 169 (0, 0)) := newB_get _ _ _
  have hx3 := newB_ext w2 (List.replicate 128 (Value.int .u8 0)).toArray 169
  have hz3 := newB_size w2 (List.replicate 128 (Value.int .u8 0)).toArray 169
  refine ⟨Ext, Ext.frame, ?_⟩
  show XP _ _ (drewW (newB w2 (List.replicate 128 (Value.int .u8 0)).toArray 169)) _
  generalize newB w2 (List.replicate 128 (Value.int .u8 0)).toArray 169 = w3 at hb3 hx3 hz3 ⊢
  simp only [SS, ST]
  have hbb : (drewW w3).heap[w.heap.size]? = some (.cells s.cs.toArray 25 (0, 0)) := hx3.get (hx2.get hb1)
  refine XR_loadL agg_22 hbb rfl ?_
  refine XR_loadL agg_5 hbb rfl ?_
  simp only [SS, ST]
  refine XR_loadL agg_23 hbb rfl ?_
  simp only [SS, ST]
  refine XR_loadL agg_23 hbb rfl ?_
  simp only [SS, ST]
  rw [w64u (by omega), w64u (n := s.size) (by omega), w64u (n := s.sum) (by omega)]
  refine Put_spec (Bts.nil _) (by simp) hg ?_
  intro v4 w4 hx4 ho4
  refine ⟨hx4, ?_⟩
  refine Put_spec (own_bts ho4).1 (by simp [putB_8, putB_1, putB_4]) (by omega) ?_
  intro v5 w5 hx5 ho5
  refine ⟨hx5, ?_⟩
  refine Put_spec (own_bts ho5).1 (by simp [putB_8, putB_1, putB_4]) (by omega) ?_
  intro v6 w6 hx6 ho6
  refine ⟨hx6, ?_⟩
  refine Put_spec (own_bts ho6).1 (by simp [putB_8, putB_1, putB_4]) (by omega) ?_
  intro v7 w7 hx7 ho7
  refine ⟨hx7, ?_⟩
  have e7 : [] ++ putB s.gen 8 ++ putB s.area 1 ++ putB s.size 4 ++ putB s.sum 4 = headB s := rfl
  have hv7 := (own_bts ho7).1
  rw [e7] at hv7
  have hx37 : Ext w3 w7 := (Keep.drew _ w3).trans (hx4.trans (hx5.trans (hx6.trans hx7)))
  have hb37 := hx37.get hb3
  have hb27 := hx37.get (hx3.get hb2)
  have hne : w1.heap.size ≠ w2.heap.size := by omega
  refine X_of (run_slice_arr_all Try.underlying169 info_5 _ _) ?_
  have hlr : (List.replicate 128 (Value.int .u8 0)).toArray.size = 128 := by simp
  have hh := headB_len s
  refine X_copy_bts Try.underlying27 (by kernel_rfl) hb37 hv7 (by rw [hlr, hh]; decide) ?_
  intro w8 hb8 hs8 hk8
  obtain ⟨c8, hc8⟩ : ∃ c, c = headB s ++ List.replicate 111 0 := ⟨_, rfl⟩
  have ec8 : (List.replicate 128 (Value.int .u8 0)).toArray.toList.take 0 ++ B8 ((headB s).take 128) ++ (List.replicate 128 (Value.int .u8 0)).toArray.toList.drop (0 + min (headB s).length 128) = B8 c8 := by
    rw [hh, hc8, List.take_of_length_le (l := headB s) (by omega), B8_append]
    simp [B8]
  rw [ec8] at hb8
  refine ⟨Ext, Ext.frame, ?_⟩
  refine XP_of (fun w => run_slice_arr_lo Try.underlying169 info_5 _ .i64 120 (by decide) w) ?_
  have ea : (if (128 : Nat) = 120 then (⟨w2.heap.size, 0, none⟩ : Addr) else (⟨w2.heap.size, 0, none⟩ : Addr).add (120 * szT Try.prog 5)) = ⟨w2.heap.size, 120, none⟩ := by
    rw [if_neg (by decide), sz_5]; rfl
  rw [ea]
  have hv8 : Bts (drewW w8) v7 (headB s) := (hv7.keep hk8 (fun k hk => by have := (ho7.lt k hk).1; have := hx4.size; have := hx5.size; have := hx6.size; have e : (drewW w3).heap.size = w3.heap.size := rfl; omega)).drew
  obtain ⟨u9, hu9, hub9, _⟩ := cut_hi Try.underlying27 info_5 hv8 (kh := .i64) 8 rfl (by omega)
  refine XP_of hu9 ?_
  have e9 : (headB s).take 8 = be 8 s.gen := by
    unfold headB
    rw [List.append_assoc, List.append_assoc, List.take_append_of_le_length (by simp), List.take_of_length_le (by simp)]
  rw [e9] at hub9
  have hb8d : (drewW w8).heap[w2.heap.size]? = some (.cells (B8 c8).toArray 169 (0, 0)) := hb8
  have hc8l : c8.length = 128 := by rw [hc8]; simp [hh]
  refine X_copy_bts Try.underlying27 (by kernel_rfl) hb8d hub9 (by simp [hc8l]) ?_
  intro w10 hb10 hs10 hk10
  have ec10 : (B8 c8).toArray.toList.take 120 ++ B8 ((be 8 s.gen).take (128 - 120)) ++ (B8 c8).toArray.toList.drop (120 + min (be 8 s.gen).length (128 - 120)) = B8 (layB s) := by
    rw [List.take_of_length_le (l := be 8 s.gen) (by simp)]
    have e1 : (B8 c8).toArray.toList.drop (120 + min (be 8 s.gen).length (128 - 120)) = [] := List.drop_eq_nil_of_le (by simp [hc8l])
    rw [e1, List.append_nil]
    have e2 : (B8 c8).toArray.toList.take 120 = B8 (headB s ++ List.replicate 103 0) := by
      have : c8.take 120 = headB s ++ List.replicate 103 0 := by
        rw [hc8, List.take_append, hh, List.take_of_length_le (by omega)]
        simp
      rw [← this]
      simp [B8, List.map_take]
    rw [e2, ← B8_append]
    rfl
  rw [ec10] at hb10
  refine X_loadAgg Try.underlying169 agg_169 info_169 hb10 (by rw [B8_length, layB_len, sz_169]) ?_
  have hb2' : w10.heap[w1.heap.size]? = some (.cells (List.replicate 128 (Value.int .u8 0)).toArray 169 (0, 0)) := by
    refine hk10.get hne ?_
    exact hk8.get hne hb27
  refine XU_storeAgg info_169 hb2' (by rw [sz_169]; simp) (by rw [B8_length, layB_len, sz_169]) B8_one ?_
  refine resC_agg Try.underlying169 agg_169 info_169 (setAt_same (lt_of_blk hb2')) (by rw [B8_length, layB_len, sz_169]) ?_
  refine h _ ?_
  have hx07 : Ext w w7 := hx1.trans (hx2.trans (hx3.trans hx37))
  refine Ext.seq (Ext.seq (Ext.seq hx07 hk8 ?_) ((Keep.drew _ w8).trans hk10) ?_) (setAt_keep _ _ _ _ _) ?_
  all_goals (intro i hi; omega)
end Go.Proofs.Ytggggfcgnkllgaa
