/- A row with some of 32 neighbouring bits turned: its fold, plain Lean. -/
import Derived.Test.YtggggfcgnkllgaaTellsFlip
set_option linter.unusedSimpArgs false
set_option linter.unusedVariables false
namespace Go.Sh
theorem flips_none (l : List UInt8) (p m i : Nat) (h : ∀ j, j < i → m.testBit j = false) : flips l p m i = l := by
  induction i with
  | zero => rfl
  | succ i ih =>
    show (if m.testBit i = true then flip (flips l p m i) (p + i) else flips l p m i) = l
    rw [h i (by omega), if_neg (by decide)]
    exact ih (fun j hj => h j (by omega))
theorem flip_append (a b : List UInt8) (j : Nat) (h : j < 8 * a.length) : flip (a ++ b) j = flip a j ++ b :=
  modify_app_left _ _ _ _ (by omega)
theorem flips_append (a b : List UInt8) (p m i : Nat) (h : p + i ≤ 8 * a.length) : flips (a ++ b) p m i = flips a p m i ++ b := by
  induction i with
  | zero => rfl
  | succ i ih =>
    show (if m.testBit i = true then flip (flips (a ++ b) p m i) (p + i) else flips (a ++ b) p m i) = (if m.testBit i = true then flip (flips a p m i) (p + i) else flips a p m i) ++ b
    rw [ih (by omega)]
    split
    · exact flip_append _ _ _ (by rw [flips_length]; omega)
    · rfl
theorem pat_some {m i j : Nat} (hj : j < i) (h : m.testBit j = true) : true ∈ pat m i := by
  unfold pat
  rw [List.mem_map]
  exact ⟨j, List.mem_range.2 hj, h⟩
/-- Such a row folds elsewhere. -/
theorem fold_flips (c : W32) (l : List UInt8) (p m i : Nat) (hp : p + i ≤ 8 * l.length) (hi : i ≤ 32) {j : Nat} (hj : j < i) (h : m.testBit j = true) : fold c (flips l p m i) ≠ fold c l := by
  have hb := burst (flips (List.replicate l.length 0) p m i) p (8 * l.length - (p + i)) (pat m i) (by rw [pat_length]; exact hi) (pat_some hj h) (flips_bits l.length p m i _ (by omega))
  have e : fold c (flips l p m i) = fold c l ^^^ fold 0#32 (flips (List.replicate l.length 0) p m i) := by
    rw [flips_mix]
    have := fold_mix2 l (flips (List.replicate l.length 0) p m i) c 0#32 (by rw [flips_length]; simp)
    rwa [BitVec.xor_zero] at this
  intro h'
  rw [e] at h'
  apply hb
  have h2 := congrArg (fun x => fold c l ^^^ x) h'
  simp only [← BitVec.xor_assoc, BitVec.xor_self, BitVec.zero_xor] at h2
  exact h2
/-- A sealed row with turned bits is not sealed. -/
theorem seal_flips (bs : List UInt8) (p m i : Nat) (hp : p + i ≤ 8 * (bs.length + 4)) (hi : i ≤ 32) {j : Nat} (hj : j < i) (h : m.testBit j = true) (q : List UInt8) (d : W32)
    (e : flips (bs ++ be 4 (crc bs).toNat) p m i = q ++ be 4 d.toNat) : d ≠ crc q := by
  intro hd
  have h1 := (res_iff q d).2 hd
  have h2 := (res_iff bs (crc bs)).2 rfl
  refine fold_flips (~~~0#32) (bs ++ be 4 (crc bs).toNat) p m i (by simpa using hp) hi hj h ?_
  rw [e, h1, h2]
theorem crc_flips (bs t : List UInt8) (p m i : Nat) (hp : p + i ≤ 8 * bs.length) (hi : i ≤ 32) {j : Nat} (hj : j < i) (h : m.testBit j = true) : crc ((flips (bs ++ t) p m i).take bs.length) ≠ crc bs := by
  rw [flips_append _ _ _ _ _ hp, List.take_append_of_le_length (by rw [flips_length]; omega), List.take_of_length_le (by rw [flips_length]; omega)]
  intro e
  unfold crc more at e
  refine fold_flips (~~~0#32) bs p m i hp hi hj h ?_
  have := congrArg (fun x => ~~~x) e
  simpa using this
end Go.Sh
