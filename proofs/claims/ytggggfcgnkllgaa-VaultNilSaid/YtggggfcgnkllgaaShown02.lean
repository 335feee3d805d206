/- What cellaragelaw02.shown computes: true. -/
import Derived.Test.YtggggfcgnkllgaaCrc3
import Derived.Lib.SlBytesConst
set_option linter.unusedVariables false
set_option linter.unusedSimpArgs false
namespace Go.Proofs.Ytggggfcgnkllgaa
open Go Go.Sh Go.RowKit
attribute [local irreducible] X XU XP XR CALL loopS resC closS

theorem lit_bts {w : World} (l : List UInt8) (hl : l.length ≤ 9223372036854775807) (T : TypeId) : Bts (newB w (B8 l).toArray T) (.slice (some ⟨w.heap.size, 0, none⟩) l.length l.length) l :=
  ⟨_, _, rfl, Nat.le_refl _, hl, fun _ => ⟨_, rfl, fun j u hj => by
    rw [add_plain, cell_blk (newB_get _ _ _), Nat.zero_add]
    simp [B8_getElem?, hj]⟩⟩
theorem lit3 (w : World) : (Instr.buildSlice 27 3 #[(0, (.int .u8 1)), (1, (.int .u8 2)), (2, (.int .u8 3))]).run Try.prog w = .ok (.slice (some ⟨w.heap.size, 0, none⟩) 3 3) (newB w (B8 [1, 2, 3]).toArray 5) := by kernel_rfl
theorem lit9 (w : World) : (Instr.buildSlice 27 9 #[(0, (.int .u8 49)), (1, (.int .u8 50)), (2, (.int .u8 51)), (3, (.int .u8 52)), (4, (.int .u8 53)), (5, (.int .u8 54)), (6, (.int .u8 55)), (7, (.int .u8 56)), (8, (.int .u8 57))]).run Try.prog w =
    .ok (.slice (some ⟨w.heap.size, 0, none⟩) 9 9) (newB w (B8 [49, 50, 51, 52, 53, 54, 55, 56, 57]).toArray 5) := by kernel_rfl
theorem alloc_ext (w : World) (o : Obj) : Ext w (w.alloc o) :=
  ⟨rfl, rfl, rfl, by show _ ≤ (w.heap.push _).size; rw [Array.size_push]; omega, fun i hi _ => by
    show (w.heap.push _)[i]? = _
    exact Array.getElem?_push_lt hi |>.trans (Array.getElem?_eq_getElem hi).symm⟩
theorem mark_bts {w : World} (l : List UInt8) (hl : l.length ≤ 9223372036854775807) (T : TypeId) (fr : Nat × Nat) : Bts (w.alloc (.cells (B8 l).toArray T fr)) (.slice (some ⟨w.heap.size, 0, none⟩) l.length l.length) l :=
  ⟨_, _, rfl, Nat.le_refl _, hl, fun _ => ⟨_, rfl, fun j u hj => by
    rw [add_plain, Nat.zero_add]
    have hg : (w.alloc (.cells (B8 l).toArray T fr)).heap[w.heap.size]? = some (.cells (B8 l).toArray T fr) := by
      show (w.heap.push _)[w.heap.size]? = _
      exact Array.getElem?_push_size
    rw [cell_blk hg]
    simp [B8_getElem?, hj]⟩⟩
theorem crc_nil' : (crc []).toNat = 0 := by decide +kernel
theorem crc_nine' : (crc [49, 50, 51, 52, 53, 54, 55, 56, 57]).toNat = 4236843288 := by decide +kernel
theorem crc_nil : U32 (crc []) = .int .u32 0 := by unfold U32; rw [crc_nil']; rfl
theorem crc_nine : U32 (crc [49, 50, 51, 52, 53, 54, 55, 56, 57]) = .int .u32 4236843288 := by unfold U32; rw [crc_nine']; rfl
theorem str_lit2 (l : List UInt8) : ({ data := l.toArray } : ByteArray) = str l := rfl

theorem shown02 {w : World} {K : Value → World → Prop} (h : ∀ w1, Ext w w1 → K (.bool true) w1) : CALL Try.prog 50 #[] w K := by
  apply call_law02_shown
  unfold B_law02_shown
  refine X_of (lit3 w) ?_
  have hx0 := newB_ext w (B8 [1, 2, 3]).toArray 5
  have hb0 := lit_bts (w := w) [1, 2, 3] (by decide) 5
  refine Open_spec hb0 (by decide) ?_ (fun cs v' w1 hc => absurd hc (by simp [openB]))
  intro _ w1 hx1
  simp only [SS, ST]
  refine Sum_spec (Bts.nil _) ?_
  intro w2 hx2
  simp only [crc_nil, SS, ST, decide_true, if_true]
  refine X_of (lit9 _) ?_
  have hx3 := alloc_ext w2 (.cells (B8 [49, 50, 51, 52, 53, 54, 55, 56, 57]).toArray 5 ((B8 [49, 50, 51, 52, 53, 54, 55, 56, 57]).toArray.size, (B8 [49, 50, 51, 52, 53, 54, 55, 56, 57]).toArray.size + 1))
  have hb3 := mark_bts (w := w2) [49, 50, 51, 52, 53, 54, 55, 56, 57] (by decide) 5 ((B8 [49, 50, 51, 52, 53, 54, 55, 56, 57]).toArray.size, (B8 [49, 50, 51, 52, 53, 54, 55, 56, 57]).toArray.size + 1)
  refine X_of (Lib.run_convert_bytes_const w2 27 5 (B8 [49, 50, 51, 52, 53, 54, 55, 56, 57]).toArray 9 9 Try.underlying27 Try.underlying5) ?_
  refine Sum_spec hb3 ?_
  intro w4 hx4
  simp only [crc_nine, SS, ST, decide_true, if_true]
  refine Seal_spec (Bts.nil _) (by decide) ?_
  intro v5 w5 hx5 ho5
  refine X_str Try.underlying27 Try.underlying5 Try.underlying9 (own_bts ho5).1 ?_
  have es : decide (sealB [] = ([0, 0, 0, 0] : List UInt8)) = true := by decide +kernel
  simp only [str_lit2, str_toList, l8_beq, es, SS, ST, if_true, Bool.not_false]
  exact h _ (hx0.trans (hx1.trans (hx2.trans (hx3.trans (hx4.trans hx5)))))
end Go.Proofs.Ytggggfcgnkllgaa
