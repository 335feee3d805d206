/- One bit of a row of bytes turned: plain Lean. -/
import Derived.Test.YtggggfcgnkllgaaTellsNum
set_option linter.unusedSimpArgs false
set_option linter.unusedVariables false
namespace Go.Sh
/-- A byte with one bit, counted from the highest. -/
def oneBit (r : Nat) : UInt8 := UInt8.ofNat (128 / 2 ^ r)
def flip (l : List UInt8) (j : Nat) : List UInt8 := l.modify (j / 8) (· ^^^ oneBit (j % 8))
theorem bits_flip1 : ∀ n, n < 256 → ∀ r, r < 8 → bitsN (n ^^^ (128 / 2 ^ r)) = (bitsN n).modify r not := by decide +kernel
theorem oneBit_toNat (r : Nat) (h : r < 8) : (oneBit r).toNat = 128 / 2 ^ r := by
  unfold oneBit
  rw [UInt8.toNat_ofNat']
  have : 128 / 2 ^ r ≤ 128 := Nat.div_le_self _ _
  exact Nat.mod_eq_of_lt (by omega)
theorem bits_flipU (u : UInt8) (r : Nat) (h : r < 8) : bitsN (u ^^^ oneBit r).toNat = (bitsN u.toNat).modify r not := by
  rw [UInt8.toNat_xor, oneBit_toNat r h, bits_flip1 _ u.toNat_lt r h]
theorem flip_length (l : List UInt8) (j : Nat) : (flip l j).length = l.length := by simp [flip]
theorem bitsOf_cons (u : UInt8) (l : List UInt8) : bitsOf (u :: l) = bitsN u.toNat ++ bitsOf l := by simp [bitsOf]
theorem bitsOf_len (l : List UInt8) : (bitsOf l).length = 8 * l.length := by
  induction l with
  | nil => rfl
  | cons u l ih => rw [bitsOf_cons, List.length_append, bitsN_len, ih, List.length_cons]; omega
theorem flip_head (u : UInt8) (l : List UInt8) (j : Nat) (h : j < 8) : flip (u :: l) j = (u ^^^ oneBit j) :: l := by
  unfold flip
  rw [Nat.div_eq_of_lt h, Nat.mod_eq_of_lt h]
  rfl
theorem flip_tail (u : UInt8) (l : List UInt8) (j : Nat) : flip (u :: l) (j + 8) = u :: flip l j := by
  unfold flip
  rw [Nat.add_div_right _ (by decide), Nat.add_mod_right]
  rfl
theorem modify_app_left {α : Type} (f : α → α) (a b : List α) (j : Nat) (h : j < a.length) : (a ++ b).modify j f = a.modify j f ++ b := by
  apply List.ext_getElem?
  intro i
  rw [List.getElem?_modify]
  by_cases hi : i < a.length
  · rw [List.getElem?_append_left hi, List.getElem?_append_left (by simpa using hi), List.getElem?_modify]
  · rw [List.getElem?_append_right (by omega), List.getElem?_append_right (by simp; omega)]
    have : ¬ j = i := by omega
    simp [this]
theorem modify_app_right {α : Type} (f : α → α) (a b : List α) (j : Nat) : (a ++ b).modify (j + a.length) f = a ++ b.modify j f := by
  apply List.ext_getElem?
  intro i
  rw [List.getElem?_modify]
  by_cases hi : i < a.length
  · rw [List.getElem?_append_left hi, List.getElem?_append_left hi]
    have : ¬ j + a.length = i := by omega
    simp [this]
  · rw [List.getElem?_append_right (by omega), List.getElem?_append_right (by omega), List.getElem?_modify]
    by_cases hj : j + a.length = i
    · subst hj
      have : j = j + a.length - a.length := by omega
      simp only [← this, if_true]
    · have : ¬ j = i - a.length := by omega
      simp only [hj, this, if_false]
theorem bitsOf_flip (l : List UInt8) (j : Nat) (h : j < 8 * l.length) : bitsOf (flip l j) = (bitsOf l).modify j not := by
  induction l generalizing j with
  | nil => simp at h
  | cons u l ih =>
    rcases Nat.lt_or_ge j 8 with h8 | h8
    · rw [flip_head u l j h8, bitsOf_cons, bitsOf_cons, bits_flipU u j h8, modify_app_left _ _ _ _ (by rw [bitsN_len]; exact h8)]
    · obtain ⟨k, rfl⟩ : ∃ k, j = k + 8 := ⟨j - 8, by omega⟩
      rw [flip_tail, bitsOf_cons, bitsOf_cons, ih k (by simp at h; omega)]
      have := modify_app_right not (bitsN u.toNat) (bitsOf l) k
      rw [bitsN_len] at this
      exact this.symm
theorem flip_mix2 (a b : List UInt8) (j : Nat) (h : a.length = b.length) : flip (mix2 a b) j = mix2 a (flip b j) := by
  induction a generalizing b j with
  | nil =>
    cases b with
    | nil => simp [flip, mix2]
    | cons _ _ => cases h
  | cons x a ih =>
    cases b with
    | nil => cases h
    | cons y b =>
      have e : mix2 (x :: a) (y :: b) = (x ^^^ y) :: mix2 a b := rfl
      rcases Nat.lt_or_ge j 8 with h8 | h8
      · rw [e, flip_head _ _ _ h8, flip_head _ _ _ h8, UInt8.xor_assoc]
        rfl
      · obtain ⟨k, rfl⟩ : ∃ k, j = k + 8 := ⟨j - 8, by omega⟩
        rw [e, flip_tail, flip_tail, ih b k (by simpa using h)]
        rfl
/-- The first i bits of a mask, turned from a place on. -/
def flips (l : List UInt8) (p m : Nat) : Nat → List UInt8
  | 0 => l
  | i + 1 => if m.testBit i = true then flip (flips l p m i) (p + i) else flips l p m i
theorem flips_length (l : List UInt8) (p m i : Nat) : (flips l p m i).length = l.length := by
  induction i with
  | zero => rfl
  | succ i ih =>
    show (if m.testBit i = true then flip (flips l p m i) (p + i) else flips l p m i).length = _
    split
    · rw [flip_length, ih]
    · exact ih
theorem mix2_zeros (l : List UInt8) : mix2 l (List.replicate l.length 0) = l := by
  induction l with
  | nil => rfl
  | cons x l ih =>
    show (x ^^^ 0) :: mix2 l (List.replicate l.length 0) = _
    rw [ih, UInt8.xor_zero]
theorem flips_mix (l : List UInt8) (p m i : Nat) : flips l p m i = mix2 l (flips (List.replicate l.length 0) p m i) := by
  induction i with
  | zero => exact (mix2_zeros l).symm
  | succ i ih =>
    show (if m.testBit i = true then flip (flips l p m i) (p + i) else flips l p m i) = mix2 l (if m.testBit i = true then flip (flips (List.replicate l.length 0) p m i) (p + i) else flips (List.replicate l.length 0) p m i)
    split
    · rw [ih, flip_mix2 _ _ _ (by rw [flips_length]; simp)]
    · exact ih
theorem bitsOf_zeros (n : Nat) : bitsOf (List.replicate n 0) = List.replicate (8 * n) false := by
  induction n with
  | zero => rfl
  | succ n ih =>
    rw [List.replicate_succ, bitsOf_cons, ih, show bitsN (0 : UInt8).toNat = List.replicate 8 false by decide, List.replicate_append_replicate]
    congr 1
    omega
def pat (m i : Nat) : List Bool := (List.range i).map m.testBit
theorem pat_succ (m i : Nat) : pat m (i + 1) = pat m i ++ [m.testBit i] := by simp [pat, List.range_succ]
theorem pat_length (m i : Nat) : (pat m i).length = i := by simp [pat]
theorem flips_bits (n p m i r : Nat) (h : p + i + r = 8 * n) : bitsOf (flips (List.replicate n 0) p m i) = List.replicate p false ++ pat m i ++ List.replicate r false := by
  induction i generalizing r with
  | zero =>
    show bitsOf (List.replicate n 0) = _
    rw [bitsOf_zeros, show pat m 0 = [] from rfl, List.append_nil, List.replicate_append_replicate]
    congr 1
    omega
  | succ i ih =>
    have hi := ih (r + 1) (by omega)
    rw [List.replicate_succ] at hi
    show bitsOf (if m.testBit i = true then flip (flips (List.replicate n 0) p m i) (p + i) else flips (List.replicate n 0) p m i) = _
    rw [pat_succ, ← List.append_assoc, List.append_assoc (List.replicate p false ++ pat m i)]
    cases hb : m.testBit i with
    | true =>
      rw [if_pos rfl, bitsOf_flip _ _ (by rw [flips_length]; simp; omega), hi]
      have hl : (List.replicate p false ++ pat m i).length = p + i := by simp [pat_length]
      have := modify_app_right not (List.replicate p false ++ pat m i) (false :: List.replicate r false) 0
      rw [Nat.zero_add, hl] at this
      rw [this]
      rfl
    | false =>
      rw [if_neg (by decide), hi]
      rfl
end Go.Sh
