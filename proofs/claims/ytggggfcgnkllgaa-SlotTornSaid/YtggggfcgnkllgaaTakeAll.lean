/- Taking a slot, in one word for both ends. -/
import Derived.Test.YtggggfcgnkllgaaArgSlot
set_option linter.unusedVariables false
namespace Go.Proofs.Ytggggfcgnkllgaa
open Go Go.Sh Go.RowKit
attribute [local irreducible] X XU XP XR CALL loopS resC closS
def takeP (bs : List UInt8) : Sl × Int :=
  match takeB bs with
  | none => (nilSl, 100)
  | some s => (s, 0)
theorem Take_all {v : Value} {bs : List UInt8} {w : World} {K : Value → World → Prop} (hb : Bts w v bs)
    (h : ∀ w1, Ext w w1 → K (.tuple #[.agg (takeP bs).1.cs.toArray, .int .i64 (takeP bs).2]) w1) : CALL Try.prog 44 #[v] w K := by
  refine Take_spec hb ?_ ?_
  · intro hn w1 hx
    have := h w1 hx
    rw [show takeP bs = (nilSl, 100) by unfold takeP; rw [hn]] at this
    exact this
  · intro s hs w1 hx
    have := h w1 hx
    rw [show takeP bs = (s, 0) by unfold takeP; rw [hs]] at this
    exact this
theorem RTake_all {v : Value} {bs : List UInt8} {w : World} {K : Value → World → Prop} (hb : Bts w v bs)
    (h : ∀ w1, Ext w w1 → K (.tuple #[.agg (takeP bs).1.cs.toArray, .int .i64 (takeP bs).2]) w1) : CALL Try.prog 45 #[v] w K := by
  refine RTake_spec hb ?_ ?_
  · intro hn w1 hx
    have := h w1 hx
    rw [show takeP bs = (nilSl, 100) by unfold takeP; rw [hn]] at this
    exact this
  · intro s hs w1 hx
    have := h w1 hx
    rw [show takeP bs = (s, 0) by unfold takeP; rw [hs]] at this
    exact this
/-- Laying, then taking, gives the slot back, unless its generation is nought. -/
theorem slotOf_lay {s : Sl} (hs : s.ok) : slotOf (layB s) = s := by
  obtain ⟨hg, ha, hz, hm⟩ := hs
  have e0 : layB s = be 8 s.gen ++ (be 1 s.area ++ (be 4 s.size ++ (be 4 s.sum ++ (List.replicate 103 0 ++ be 8 s.gen)))) := by simp [layB, headB, List.append_assoc]
  have d8 : (layB s).drop 8 = be 1 s.area ++ (be 4 s.size ++ (be 4 s.sum ++ (List.replicate 103 0 ++ be 8 s.gen))) := by
    rw [e0, List.drop_append_of_le_length (by simp), List.drop_eq_nil_of_le (by simp), List.nil_append]
  have d9 : ((layB s).drop 8).drop 1 = be 4 s.size ++ (be 4 s.sum ++ (List.replicate 103 0 ++ be 8 s.gen)) := by
    rw [d8, List.drop_append_of_le_length (by simp), List.drop_eq_nil_of_le (by simp), List.nil_append]
  have d13 : (((layB s).drop 8).drop 1).drop 4 = be 4 s.sum ++ (List.replicate 103 0 ++ be 8 s.gen) := by
    rw [d9, List.drop_append_of_le_length (by simp), List.drop_eq_nil_of_le (by simp), List.nil_append]
  have t8 : (layB s).take 8 = be 8 s.gen := by
    rw [e0, List.take_append_of_le_length (by simp), List.take_of_length_le (by simp)]
  unfold slotOf
  rw [d13, d9, d8, t8, List.take_append_of_le_length (by simp), List.take_append_of_le_length (by simp), List.take_append_of_le_length (by simp), List.take_of_length_le (by simp), List.take_of_length_le (by simp), List.take_of_length_le (by simp),
    num_be, num_be, num_be, num_be, Nat.mod_eq_of_lt (by simpa using hg), Nat.mod_eq_of_lt (by simpa using ha), Nat.mod_eq_of_lt (by simpa using hz), Nat.mod_eq_of_lt (by simpa using hm)]
theorem take_lay {s : Sl} (hs : s.ok) : takeB (layB s) = if s.gen = 0 then none else some s := by
  unfold takeB
  rw [slotOf_lay hs]
  by_cases h : s.gen = 0
  · simp [h]
  · simp [h, layB_len]
theorem take_some {bs : List UInt8} {s : Sl} (h : takeB bs = some s) : bs.length = 128 ∧ s.gen ≠ 0 ∧ layB s = bs ∧ s.ok := by
  unfold takeB at h
  split at h
  · rename_i h1
    obtain rfl := Option.some.inj h
    exact ⟨h1.1, h1.2.1, h1.2.2, slotOf_ok bs⟩
  · cases h
end Go.Proofs.Ytggggfcgnkllgaa
