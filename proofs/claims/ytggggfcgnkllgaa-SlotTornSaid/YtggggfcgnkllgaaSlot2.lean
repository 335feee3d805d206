/- cellarage/slot's Lay and Take, and the reference's, by contract. -/
import Derived.Test.YtggggfcgnkllgaaSlot
set_option linter.unusedVariables false
set_option linter.unusedSimpArgs false
namespace Go.Proofs.Ytggggfcgnkllgaa
open Go Go.Sh Go.RowKit
attribute [local irreducible] X XU XP XR CALL loopS resC closS

theorem blk_bts {w : World} {g : Nat} {l : List UInt8} {T : TypeId} {fr : Nat × Nat} (hg : w.heap[g]? = some (.cells (B8 l).toArray T fr)) (hl : l.length ≤ 9223372036854775807) : Bts w (.slice (some ⟨g, 0, none⟩) l.length l.length) l :=
  ⟨_, _, rfl, Nat.le_refl _, hl, fun _ => ⟨_, rfl, fun j u hj => by
    have e : (⟨g, 0, none⟩ : Addr).add j = ⟨g, j, none⟩ := by unfold Addr.add; split <;> simp_all
    rw [e, cell_blk hg]
    simp [B8_getElem?, hj]⟩⟩
theorem own_ext {w w' : World} {base : Nat} {e : TypeId} {size : Nat} {v : Value} {n : Nat} {xs : List Value} (h : w.ownsRow base e size v n xs) (k : Ext w w') : w'.ownsRow base e size v n xs := by
  refine h.kept ⟨k.os, k.tape, k.output, k.size, fun i hi _ => k.block i hi (fun h => h)⟩ (row := none) ?_
  cases v.ownBlock <;> simp

theorem Lay_spec {s : Sl} (hs : s.ok) {w : World} {K : Value → World → Prop} (h : ∀ v w1, Ext w w1 → Bts w1 v (layB s) → K v w1) : CALL Try.prog 42 #[s.v] w K := by
  apply call_slot_Lay
  unfold B_slot_Lay
  refine X_box ?_
  have hb1 : (newB w s.v.cells 25).heap[w.heap.size]? = some (.cells s.cs.toArray 25 (0, 0)) := newB_get _ _ _
  have hx1 := newB_ext w s.v.cells 25
  refine X_loadAgg Try.underlying25 agg_25 info_25 hb1 (by rw [sz_25]; rfl) ?_
  refine lay_spec hs ?_
  intro w2 hx2
  refine X_alloc zero_169 ?_
  have hb3 : (newB w2 (List.replicate 128 (Value.int .u8 0)).toArray 169).heap[w2.heap.size]? = some (.cells (List.replicate 128 (Value.int .u8 0)).toArray 169 (0, 0)) := newB_get _ _ _
  have hx3 := newB_ext w2 (List.replicate 128 (Value.int .u8 0)).toArray 169
  show XU _ _ (newB w2 (List.replicate 128 (Value.int .u8 0)).toArray 169) _
  generalize newB w2 (List.replicate 128 (Value.int .u8 0)).toArray 169 = w3 at hb3 hx3 ⊢
  refine XU_storeAgg info_169 hb3 (by rw [sz_169]; simp) (by rw [B8_length, layB_len, sz_169]) B8_one ?_
  refine X_of (run_slice_arr_all Try.underlying169 info_5 _ _) ?_
  have hb4 : Bts (setAt w3 w2.heap.size (B8 (layB s)).toArray 169 (0, 0)) (.slice (some ⟨w2.heap.size, 0, none⟩) (layB s).length (layB s).length) (layB s) := blk_bts (setAt_same (lt_of_blk hb3)) (by rw [layB_len]; decide)
  rw [layB_len] at hb4
  refine h _ _ ?_ hb4
  refine Ext.seq (hx1.trans (hx2.trans hx3)) (setAt_keep _ _ _ _ _) ?_
  intro i hi
  have := hx1.size
  have := hx2.size
  omega

def lenM : Value → Nat
  | .slice _ n _ => n
  | _ => 0
theorem RLay_spec {s : Sl} (hs : s.ok) {w : World} {K : Value → World → Prop} (h : ∀ v w1, Ext w w1 → Bts w1 v (layB s) → K v w1) : CALL Try.prog 43 #[s.v] w K := by
  obtain ⟨hg, ha, hz, hm⟩ := hs
  apply call_ref10_Lay
  unfold B_ref10_Lay
  refine X_box ?_
  have hb1 : (newB w s.v.cells 25).heap[w.heap.size]? = some (.cells s.cs.toArray 25 (0, 0)) := newB_get _ _ _
  have hx1 := newB_ext w s.v.cells 25
  have hz1 := newB_size w s.v.cells 25
  generalize newB w s.v.cells 25 = w1 at hb1 hx1 hz1 ⊢
  simp only [SS, ST]
  refine X_loadL agg_22 hb1 rfl ?_
  refine RPut_spec hg ?_
  intro v2 w2 hx2 ho2
  refine X_loadL agg_5 (hx2.get hb1) rfl ?_
  have ea : (s.area : Int) = ((UInt8.ofNat s.area).toNat : Int) := by simp; omega
  rw [ea]
  refine X_buildSlice1 Try.underlying27 el_5 rfl ?_
  refine X_append_u8 Try.underlying27 el_5 ho2 (by simp [putB_8]) hx2.size ?_
  intro v3 w3 ho3 hk3
  have hx13 : Ext w1 w3 := Ext.seq hx2 hk3 (fun i hi => (ho2.lt i hi.symm).1)
  refine X_loadL agg_23 (hx13.get hb1) rfl ?_
  simp only [SS, ST]
  rw [w64u (n := s.size) (by omega)]
  refine RPut_spec (by omega) ?_
  intro v4 w4 hx4 ho4
  refine X_append_bts Try.underlying27 el_5 (own_ext ho3 hx4) (own_bts ho4).1 (by simp [putB_8, putB_4]) (Nat.le_trans hx13.size hx4.size) ?_
  intro v5 w5 ho5 hk5
  have hx15 : Ext w1 w5 := Ext.seq (hx13.trans hx4) hk5 (fun i hi => (ho3.lt i hi.symm).1)
  refine X_loadL agg_23 (hx15.get hb1) rfl ?_
  simp only [SS, ST]
  rw [w64u (n := s.sum) (by omega)]
  refine RPut_spec (by omega) ?_
  intro v6 w6 hx6 ho6
  refine X_append_bts Try.underlying27 el_5 (own_ext ho5 hx6) (own_bts ho6).1 (by simp [putB_8, putB_4]) (Nat.le_trans hx15.size hx6.size) ?_
  intro v7 w7 ho7 hk7
  have hx17 : Ext w1 w7 := Ext.seq (hx15.trans hx6) hk7 (fun i hi => (ho5.lt i hi.symm).1)
  have eh : putB s.gen 8 ++ [UInt8.ofNat s.area] ++ putB s.size 4 ++ putB s.sum 4 = headB s := by
    unfold headB
    rw [putB_8, putB_4, putB_4]
    have : be 1 s.area = [UInt8.ofNat s.area] := by simp [be]
    rw [this]
  have en : (putB s.gen 8).length + 1 + (putB s.size 4).length + (putB s.sum 4).length = 17 := by simp [putB_8, putB_4]
  rw [eh, en] at ho7
  refine loopS_of (fun ρ wr => ∃ n, n ≤ 103 ∧ Ext w1 wr ∧ wr.ownsRow w1.heap.size 5 1 (ρ 3) (17 + n) (B8 (headB s ++ List.replicate n 0)) ∧ ρ 1 = .pointer (some ⟨w.heap.size, 0, none⟩))
    (fun ρ wr => 120 - lenM (ρ 3)) ?_ ?_
  · refine ⟨0, by omega, hx17, ?_, rfl⟩
    show w7.ownsRow w1.heap.size 5 1 v7 17 (B8 (headB s ++ []))
    rw [List.append_nil]
    exact ho7
  · rintro ρ wr ⟨n, hn, hxr, ho, h1⟩
    obtain ⟨a, c, e⟩ := Bts.slice (own_bts ho).1
    have elen : (headB s ++ List.replicate n 0).length = 17 + n := by simp [headB_len]
    rw [elen] at e
    by_cases hin : n = 103
    · subst hin
      simp only [SS, ST, h1, e]
      rw [if_neg (by simp)]
      simp only [upds_cons, upds_nil, Nat.reduceEqDiff, if_false, h1, SS, ST]
      refine X_loadL agg_22 (hxr.get hb1) rfl ?_
      refine RPut_spec hg ?_
      intro v8 w8 hx8 ho8
      rw [e] at ho ⊢
      refine X_append_bts Try.underlying27 el_5 (own_ext ho hx8) (own_bts ho8).1 (by simp [putB_8]) (Nat.le_trans hxr.size hx8.size) ?_
      intro v9 w9 ho9 hk9
      refine h v9 w9 (hx1.trans (Ext.seq (hxr.trans hx8) hk9 (fun i hi => (ho.lt i hi.symm).1))) ?_
      have := (own_bts ho9).1
      rw [putB_8] at this
      exact this
    · simp only [SS, ST, h1, e]
      rw [if_pos (by simp; omega)]
      refine X_buildSlice1 Try.underlying27 el_5 rfl ?_
      rw [e] at ho
      refine X_append_u8 (u := 0) Try.underlying27 el_5 ho (by omega) hxr.size ?_
      intro v8 w8 ho8 hk8
      have e8 : headB s ++ List.replicate n 0 ++ [0] = headB s ++ List.replicate (n + 1) 0 := by
        rw [List.replicate_succ', List.append_assoc]
      rw [e8] at ho8
      obtain ⟨a8, c8, e8'⟩ := Bts.slice (own_bts ho8).1
      have elen8 : (headB s ++ List.replicate (n + 1) 0).length = 17 + n + 1 := by simp [headB_len]; omega
      rw [elen8] at e8'
      show _ ∧ _
      refine ⟨⟨n + 1, by omega, Ext.seq hxr hk8 (fun i hi => (ho.lt i hi.symm).1), ho8, h1⟩, ?_⟩
      show 120 - lenM v8 < 120 - lenM (.slice a (17 + n) c)
      rw [e8']
      show 120 - (17 + n + 1) < 120 - (17 + n)
      omega
end Go.Proofs.Ytggggfcgnkllgaa
