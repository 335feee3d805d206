/- Slots compared; and what cellaragelaw10.shown computes: true. -/
import Derived.Test.YtggggfcgnkllgaaSlot4
set_option linter.unusedVariables false
set_option linter.unusedSimpArgs false
namespace Go.Proofs.Ytggggfcgnkllgaa
open Go Go.Sh Go.RowKit
attribute [local irreducible] X XU XP XR CALL loopS resC closS

theorem fields25 : (Try.prog.fieldsOf 25).toList = [{ name := "Gen", type := 22, offset := 0, embedded := false, tag := "", pkgPath := "", byteOffset := 0 }, { name := "Area", type := 5, offset := 1, embedded := false, tag := "", pkgPath := "", byteOffset := 8 },
    { name := "Size", type := 23, offset := 2, embedded := false, tag := "", pkgPath := "", byteOffset := 12 }, { name := "Sum", type := 23, offset := 3, embedded := false, tag := "", pkgPath := "", byteOffset := 16 }] := by kernel_rfl
theorem struct25 : Try.prog.underlying 25 = some (.struct (Try.prog.fieldsOf 25)) := by kernel_rfl
theorem held25 : Try.prog.stoodInHeld 25 = false := by kernel_rfl
theorem guard25 : Try.prog.eqGuardType Try.prog.depth 25 = false := by kernel_rfl
theorem slot_equal (s t : Sl) (w : World) : (Op.equalIn 10000 25 (.agg s.cs.toArray) (.agg t.cs.toArray)).run Try.prog w = .ok (decide (s = t)) w := by
  rw [show (10000 : Nat) = 9999 + 1 from rfl, run_equalIn_struct w 9999 25 _ _ struct25 held25, fields25]
  have p0 : ∀ s : Sl, s.cs.toArray[0]? = some (.int .u64 (s.gen : Int)) := fun _ => rfl
  have p1 : ∀ s : Sl, s.cs.toArray[1]? = some (.int .u8 (s.area : Int)) := fun _ => rfl
  have p2 : ∀ s : Sl, s.cs.toArray[2]? = some (.int .u32 (s.size : Int)) := fun _ => rfl
  have p3 : ∀ s : Sl, s.cs.toArray[3]? = some (.int .u32 (s.sum : Int)) := fun _ => rfl
  have n1 : ("Gen" : String) ≠ "_" := by decide
  have n2 : ("Area" : String) ≠ "_" := by decide
  have n3 : ("Size" : String) ≠ "_" := by decide
  have n4 : ("Sum" : String) ≠ "_" := by decide
  have q22 : ∀ (a b : Int) (w : World), (Op.equalIn 9999 22 (.int .u64 a) (.int .u64 b)).run Try.prog w = .ok (a == b) w := fun a b w => run_equalIn_int w 9998 22 .u64 .u64 a b Try.underlying22
  have q5 : ∀ (a b : Int) (w : World), (Op.equalIn 9999 5 (.int .u8 a) (.int .u8 b)).run Try.prog w = .ok (a == b) w := fun a b w => run_equalIn_int w 9998 5 .u8 .u8 a b Try.underlying5
  have q23 : ∀ (a b : Int) (w : World), (Op.equalIn 9999 23 (.int .u32 a) (.int .u32 b)).run Try.prog w = .ok (a == b) w := fun a b w => run_equalIn_int w 9998 23 .u32 .u32 a b Try.underlying23
  have bz : ∀ a b : Nat, ((a : Int) == (b : Int)) = decide (a = b) := fun a b => by
    rw [Bool.eq_iff_iff]; simp; omega
  have hd : decide (s = t) = decide (s.gen = t.gen ∧ s.area = t.area ∧ s.size = t.size ∧ s.sum = t.sum) := decide_eq_decide.2 (Sl.eq_iff s t).symm
  rw [hd]
  by_cases h1 : s.gen = t.gen <;> by_cases h2 : s.area = t.area <;> by_cases h3 : s.size = t.size <;> by_cases h4 : s.sum = t.sum <;>
    simp [Op.eqFields, n1, n2, n3, n4, part_cell agg_22 (p0 _), part_cell agg_5 (p1 _), part_cell agg_23 (p2 _), part_cell agg_23 (p3 _), q22, q5, q23, bz, h1, h2, h3, h4]
theorem X_slot_eql (a b : Operand) (s t : Sl) (w : World) (K : Value → World → Prop) : X Try.prog (binOpG .eql 25 a b (.agg s.cs.toArray) (.agg t.cs.toArray)) w K = K (.bool (decide (s = t))) w :=
  X_ok (agg_eql guard25 a b (slot_equal s t w))
theorem X_slot_neq (a b : Operand) (s t : Sl) (w : World) (K : Value → World → Prop) : X Try.prog (binOpG .neq 25 a b (.agg s.cs.toArray) (.agg t.cs.toArray)) w K = K (.bool (!(decide (s = t)))) w :=
  X_ok (agg_neq guard25 a b (slot_equal s t w))
theorem XP_slot_eql (a b : Operand) (s t : Sl) (w : World) (K : Value → World → Prop) : XP Try.prog (binOpG .eql 25 a b (.agg s.cs.toArray) (.agg t.cs.toArray)) w K = K (.bool (decide (s = t))) w :=
  XP_ok (fun w => agg_eql guard25 a b (slot_equal s t w))
/-- A local that holds a slot: laid and written at once. -/
theorem X_slotVar {s : Sl} {w : World} {K : Value → World → Prop} (h : ∀ w1, Ext w w1 → w1.heap[w.heap.size]? = some (.cells s.cs.toArray 25 (0, 0)) → K (.pointer (some ⟨w.heap.size, 0, none⟩)) w1) :
    X Try.prog (Instr.alloc 25 true (.tuple #[])) w fun v5_5 w5 => XU Try.prog (Instr.storeAt 25 v5_5 (.agg s.cs.toArray)) w5 fun w6 => K v5_5 w6 := by
  refine X_alloc zero_25 ?_
  have hb5 : (newB w nilSl.cs.toArray 25).heap[w.heap.size]? = some (.cells nilSl.cs.toArray 25 (0, 0)) := newB_get _ _ _
  have hx5 := newB_ext w nilSl.cs.toArray 25
  show XU _ _ (newB w nilSl.cs.toArray 25) _
  generalize newB w nilSl.cs.toArray 25 = w5 at hb5 hx5 ⊢
  refine XU_storeAgg info_25 hb5 (by rw [sz_25]; rfl) (by rw [sz_25]; rfl) (Sl.one _) ?_
  exact h _ (Ext.seq hx5 (setAt_keep _ _ _ _ _) (fun i hi => by omega)) (setAt_same (lt_of_blk hb5))

theorem take_zero : takeB (List.replicate 128 0) = none := by decide +kernel
theorem lay_one : (layB ⟨1, 0, 0, 0⟩)[7]? = some 1 ∧ (layB ⟨1, 0, 0, 0⟩)[127]? = some 1 ∧ (layB ⟨1, 0, 0, 0⟩)[8]? = some 0 := by decide +kernel
theorem shown10 {w : World} {K : Value → World → Prop} (h : ∀ w1, Ext w w1 → K (.bool true) w1) : CALL Try.prog 41 #[] w K := by
  apply call_law10_shown
  unfold B_law10_shown
  refine X_make Try.underlying27 el_5 128 128 rfl rfl (Nat.le_refl _) (by decide) (by decide) ?_
  have hcells : madeCells (Value.int .u8 0).cells (128 * 1) = (B8 (List.replicate 128 0)).toArray := by
    apply Array.ext'
    have : (madeCells (Value.int .u8 0).cells (128 * 1)).toList = List.replicate (128 * 1) (.int .u8 0) := made_one _ _
    rw [this]
    simp [B8]
  rw [hcells]
  have hx0 := newB_ext w (B8 (List.replicate 128 0)).toArray 5
  have hb0 : Bts (newB w (B8 (List.replicate 128 0)).toArray 5) (.slice (some ⟨w.heap.size, 0, none⟩) (List.replicate 128 (0 : UInt8)).length (List.replicate 128 (0 : UInt8)).length) (List.replicate 128 0) := blk_bts (newB_get _ _ _) (by simp)
  have hrl : (List.replicate 128 (0 : UInt8)).length = 128 := by simp
  rw [hrl] at hb0
  generalize newB w (B8 (List.replicate 128 0)).toArray 5 = w0 at hx0 hb0 ⊢
  refine Take_spec hb0 ?_ (fun s hs => absurd hs (by rw [take_zero]; simp))
  intro _ w1 hx1
  simp only [SS, ST]
  refine X_slotVar (s := nilSl) ?_
  intro w2 hx2 hb2
  refine X_of (run_build_25a 1 _) ?_
  refine Lay_spec (s := ⟨1, 0, 0, 0⟩) (by refine ⟨?_, ?_, ?_, ?_⟩ <;> decide) ?_
  intro v3 w3 hx3 hv3
  obtain ⟨l7, l127, l8⟩ := lay_one
  have h7 := (List.getElem?_eq_some_iff.1 l7).2
  have h127 := (List.getElem?_eq_some_iff.1 l127).2
  have h8 := (List.getElem?_eq_some_iff.1 l8).2
  have hl := layB_len ⟨1, 0, 0, 0⟩
  obtain ⟨a7, i7, c7, _⟩ := at_bts Try.underlying27 info_5 sz_5 hv3 (k := .i64) 7 rfl (by omega)
  obtain ⟨a127, i127, c127, _⟩ := at_bts Try.underlying27 info_5 sz_5 hv3 (k := .i64) 127 rfl (by omega)
  obtain ⟨a8, i8, c8, _⟩ := at_bts Try.underlying27 info_5 sz_5 hv3 (k := .i64) 8 rfl (by omega)
  rw [h7] at c7
  rw [h127] at c127
  rw [h8] at c8
  obtain ⟨a, c, e⟩ := Bts.slice hv3
  rw [hl] at e
  subst e
  simp only [SS, ST, decide_true, if_true]
  have e128 : decide (((128 : Nat) : Int) = 128) = true := by decide
  simp only [e128, SS, ST, if_true]
  refine X_of (i7 _) ?_
  refine X_load agg_5 c7 ?_
  have e1 : decide ((((1 : UInt8).toNat : Nat) : Int) = 1) = true := by decide
  have e0 : decide ((((0 : UInt8).toNat : Nat) : Int) = 0) = true := by decide
  simp only [e1, SS, ST, if_true]
  refine X_of (i127 _) ?_
  refine X_load agg_5 c127 ?_
  simp only [e1, SS, ST, if_true]
  refine X_of (i8 _) ?_
  refine X_load agg_5 c8 ?_
  simp only [e0, SS, ST, if_true]
  exact h _ (hx0.trans (hx1.trans (hx2.trans hx3)))
end Go.Proofs.Ytggggfcgnkllgaa
