/- Check sums: plain Lean over words of 32 bits. -/
import Derived.Test.YtggggfcgnkllgaaNum
set_option linter.unusedSimpArgs false
namespace Go.Sh
abbrev W32 := BitVec 32
def poly : W32 := BitVec.ofNat 32 79764919
def bit1 (c : W32) : W32 := (c <<< 1) ^^^ (if c.msb = true then poly else 0#32)
def iter : Nat → W32 → W32
  | 0, c => c
  | k + 1, c => iter k (bit1 c)
/-- A byte at the top of a word. -/
def top (u : UInt8) : W32 := BitVec.ofNat 32 u.toNat <<< 24
def step8 (u : UInt8) : W32 := iter 8 (top u)
def upd1 (c : W32) (u : UInt8) : W32 := iter 8 (c ^^^ top u)
def fold (c : W32) (l : List UInt8) : W32 := l.foldl upd1 c
def more (c : W32) (l : List UInt8) : W32 := ~~~ (fold (~~~ c) l)
def crc (l : List UInt8) : W32 := more 0#32 l

theorem bit1_xor (a b : W32) : bit1 (a ^^^ b) = bit1 a ^^^ bit1 b := by
  unfold bit1
  rw [BitVec.shiftLeft_xor_distrib, BitVec.msb_xor]
  cases ha : a.msb <;> cases hb : b.msb
  · simp
  · simp [BitVec.xor_assoc]
  · simp only [Bool.xor_false, if_true, Bool.false_eq_true, if_false, BitVec.xor_zero]
    rw [BitVec.xor_assoc, BitVec.xor_comm (b <<< 1), ← BitVec.xor_assoc]
  · simp only [Bool.xor_self, Bool.false_eq_true, if_false, if_true, BitVec.xor_zero]
    rw [BitVec.xor_assoc, BitVec.xor_comm poly, BitVec.xor_assoc (b <<< 1), BitVec.xor_self, BitVec.xor_zero]
theorem bit1_zero : bit1 0#32 = 0#32 := by decide
theorem iter_xor (k : Nat) (a b : W32) : iter k (a ^^^ b) = iter k a ^^^ iter k b := by
  induction k generalizing a b with
  | zero => rfl
  | succ k ih => show iter k (bit1 _) = _; rw [bit1_xor, ih]; rfl
theorem iter_zero (k : Nat) : iter k 0#32 = 0#32 := by
  induction k with
  | zero => rfl
  | succ k ih => show iter k (bit1 0#32) = 0#32; rw [bit1_zero, ih]
theorem iter_add (j k : Nat) (c : W32) : iter (j + k) c = iter k (iter j c) := by
  induction j generalizing c with
  | zero => rw [Nat.zero_add]; rfl
  | succ j ih => rw [Nat.succ_add]; show iter (j + k) (bit1 c) = _; rw [ih]; rfl
theorem iter_succ (k : Nat) (c : W32) : iter (k + 1) c = bit1 (iter k c) := iter_add k 1 c
theorem iter_small (k : Nat) (c : W32) (h : c.toNat * 2 ^ k < 2 ^ 32) : iter k c = c <<< k := by
  induction k generalizing c with
  | zero => simp [iter]
  | succ k ih =>
    have hp : 1 ≤ 2 ^ k := Nat.one_le_two_pow
    have h2 : c.toNat * 2 < 2 ^ 32 := by
      have : c.toNat * 2 * 1 ≤ c.toNat * 2 * 2 ^ k := Nat.mul_le_mul_left _ hp
      rw [Nat.pow_succ, Nat.mul_comm (2 ^ k), ← Nat.mul_assoc] at h
      omega
    have hm : c.msb = false := by
      rw [BitVec.msb_eq_decide]
      simp
      omega
    have hb : bit1 c = c <<< 1 := by simp [bit1, hm]
    have ht : (c <<< 1).toNat = c.toNat * 2 := by
      rw [BitVec.toNat_shiftLeft, Nat.shiftLeft_eq, Nat.pow_one, Nat.mod_eq_of_lt h2]
    show iter k (bit1 c) = _
    rw [hb, ih _ (by rw [ht]; rw [Nat.pow_succ, Nat.mul_comm (2 ^ k), ← Nat.mul_assoc] at h; exact h), ← BitVec.shiftLeft_add, Nat.add_comm]

theorem top_xor (a b : UInt8) : top (a ^^^ b) = top a ^^^ top b := by
  unfold top
  rw [← BitVec.shiftLeft_xor_distrib, UInt8.toNat_xor]
  congr 1
  apply BitVec.eq_of_toNat_eq
  rw [BitVec.toNat_xor, BitVec.toNat_ofNat, BitVec.toNat_ofNat, BitVec.toNat_ofNat]
  have ha := a.toNat_lt
  have hb := b.toNat_lt
  have hx : a.toNat ^^^ b.toNat < 2 ^ 8 := Nat.xor_lt_two_pow ha hb
  rw [Nat.mod_eq_of_lt (by omega), Nat.mod_eq_of_lt (by omega), Nat.mod_eq_of_lt (by omega)]
theorem split_word (c : W32) : c = ((c >>> 24) <<< 24) ^^^ ((c <<< 8) >>> 8) := by
  apply BitVec.eq_of_getLsbD_eq
  intro i hi
  simp only [BitVec.getLsbD_xor, BitVec.getLsbD_shiftLeft, BitVec.getLsbD_ushiftRight]
  by_cases h : i < 24
  · have h1 : decide (i < 24) = true := by simpa using h
    have h2 : decide (8 + i < 32) = true := by simp; omega
    have h3 : decide (8 + i < 8) = false := by simp
    have h4 : 8 + i - 8 = i := by omega
    simp [h1, h2, h3, h4]
  · have h1 : decide (i < 24) = false := by simpa using h
    have h2 : decide (8 + i < 32) = false := by simp; omega
    have h4 : 24 + (i - 24) = i := by omega
    simp [h1, h2, h4, hi]
theorem shl8_back (c : W32) : ((c <<< 8) >>> 8) <<< 8 = c <<< 8 := by
  apply BitVec.eq_of_getLsbD_eq
  intro i hi
  simp only [BitVec.getLsbD_shiftLeft, BitVec.getLsbD_ushiftRight]
  by_cases h : i < 8
  · simp [h]
  · have h2 : 8 + (i - 8) = i := by omega
    simp [h, h2, hi]
/-- The high byte of a word. -/
def hi8 (c : W32) : UInt8 := UInt8.ofNat (c >>> 24).toNat
theorem hi8_lt (c : W32) : (c >>> 24).toNat < 256 := by
  rw [BitVec.toNat_ushiftRight, Nat.shiftRight_eq_div_pow]
  have := c.isLt
  omega
theorem hi8_toNat (c : W32) : (hi8 c).toNat = (c >>> 24).toNat := by
  unfold hi8
  rw [UInt8.toNat_ofNat']
  exact Nat.mod_eq_of_lt (hi8_lt c)
theorem top_hi8 (c : W32) : top (hi8 c) = (c >>> 24) <<< 24 := by
  unfold top
  rw [hi8_toNat]
  congr 1
  apply BitVec.eq_of_toNat_eq
  rw [BitVec.toNat_ofNat]
  have := hi8_lt c
  exact Nat.mod_eq_of_lt (by omega)
theorem upd_eq (c : W32) (u : UInt8) : (c <<< 8) ^^^ step8 (hi8 c ^^^ u) = upd1 c u := by
  have h1 : iter 8 ((c <<< 8) >>> 8) = c <<< 8 := by
    rw [iter_small, shl8_back]
    rw [BitVec.toNat_ushiftRight, Nat.shiftRight_eq_div_pow]
    have := (c <<< 8).isLt
    omega
  unfold upd1 step8
  rw [top_xor, top_hi8, ← h1, ← iter_xor]
  congr 1
  conv => rhs; rw [split_word c]
  rw [← BitVec.xor_assoc, BitVec.xor_comm ((c <<< 8) >>> 8)]
theorem fold_nil (c : W32) : fold c [] = c := rfl
theorem fold_cons (c : W32) (u : UInt8) (l : List UInt8) : fold c (u :: l) = fold (upd1 c u) l := rfl
theorem fold_append (c : W32) (a b : List UInt8) : fold c (a ++ b) = fold (fold c a) b := List.foldl_append
theorem more_append (c : W32) (a b : List UInt8) : more (more c a) b = more c (a ++ b) := by
  unfold more
  rw [BitVec.not_not, fold_append]
/-- Four bytes of a word, at once. -/
theorem fold_be4 (c d : W32) : fold c (be 4 d.toNat) = iter 32 (c ^^^ d) := by
  obtain ⟨n, hn⟩ : ∃ n, n = d.toNat := ⟨_, rfl⟩
  have hlt := d.isLt
  have small : ∀ (u : UInt8) (k : Nat), k ≤ 3 → iter (8 * k) (BitVec.ofNat 32 u.toNat <<< (24 - 8 * k)) = top u := by
    intro u k hk
    have hu := u.toNat_lt
    rw [iter_small, ← BitVec.shiftLeft_add]
    · unfold top; congr 1; omega
    · rw [BitVec.toNat_shiftLeft, Nat.shiftLeft_eq, BitVec.toNat_ofNat, Nat.mod_eq_of_lt (a := u.toNat) (by omega)]
      have hk' : k = 0 ∨ k = 1 ∨ k = 2 ∨ k = 3 := by omega
      rcases hk' with rfl | rfl | rfl | rfl <;> simp <;> omega
  have hd : d = (BitVec.ofNat 32 (UInt8.ofNat (n / 256 ^ 3)).toNat <<< 24) ^^^ (BitVec.ofNat 32 (UInt8.ofNat (n / 256 ^ 2)).toNat <<< 16) ^^^ (BitVec.ofNat 32 (UInt8.ofNat (n / 256 ^ 1)).toNat <<< 8) ^^^ BitVec.ofNat 32 (UInt8.ofNat (n / 256 ^ 0)).toNat := by
    apply BitVec.eq_of_getLsbD_eq
    intro i hi
    simp only [BitVec.getLsbD_xor, BitVec.getLsbD_shiftLeft, BitVec.getLsbD_ofNat, UInt8.toNat_ofNat']
    have e : d.getLsbD i = n.testBit i := by rw [hn]; rfl
    have p3 : 256 ^ 3 = 2 ^ 24 := by decide
    have p2 : 256 ^ 2 = 2 ^ 16 := by decide
    have p1 : 256 ^ 1 = 2 ^ 8 := by decide
    have p0 : 256 ^ 0 = 2 ^ 0 := by decide
    have pm : (2 : Nat) ^ 8 = 2 ^ 8 := rfl
    rw [e, p3, p2, p1, p0]
    simp only [Nat.testBit_mod_two_pow, Nat.testBit_div_two_pow]
    have hc : i < 8 ∨ (8 ≤ i ∧ i < 16) ∨ (16 ≤ i ∧ i < 24) ∨ 24 ≤ i := by omega
    rcases hc with h | ⟨h, h'⟩ | ⟨h, h'⟩ | h
    · have a1 : i < 16 := by omega
      have a2 : i < 24 := by omega
      have a3 : i < 32 := by omega
      simp [h, a1, a2, a3]
    · have a1 : ¬ i < 8 := by omega
      have a2 : i < 24 := by omega
      have a3 : i - 8 < 8 := by omega
      have a4 : i - 8 < 32 := by omega
      have a5 : i - 8 + 8 = i := by omega
      have a6 : 8 + (i - 8) = i := by omega
      simp [h', a1, a2, a3, a4, a5, a6, hi]
    · have a1 : ¬ i < 8 := by omega
      have a2 : ¬ i < 16 := by omega
      have a3 : ¬ i - 8 < 8 := by omega
      have a4 : i - 16 < 8 := by omega
      have a7 : i - 16 < 32 := by omega
      have a5 : i - 16 + 16 = i := by omega
      have a6 : 16 + (i - 16) = i := by omega
      simp [h', a1, a2, a3, a4, a5, a6, a7, hi]
    · have a1 : ¬ i < 8 := by omega
      have a2 : ¬ i < 16 := by omega
      have a3 : ¬ i < 24 := by omega
      have a4 : ¬ i - 8 < 8 := by omega
      have a5 : ¬ i - 16 < 8 := by omega
      have a6 : i - 24 < 8 := by omega
      have a9 : i - 24 < 32 := by omega
      have a7 : i - 24 + 24 = i := by omega
      have a8 : 24 + (i - 24) = i := by omega
      simp [a1, a2, a3, a4, a5, a6, a7, a8, a9, hi]
  rw [← hn]
  show upd1 (upd1 (upd1 (upd1 c _) _) _) _ = _
  unfold upd1
  have e2 := small (UInt8.ofNat (n / 256 ^ 2)) 1 (by omega)
  have e1 := small (UInt8.ofNat (n / 256 ^ 1)) 2 (by omega)
  have e0 := small (UInt8.ofNat (n / 256 ^ 0)) 3 (by omega)
  rw [← e2, ← e1, ← e0]
  have i1 : ∀ x y : W32, iter 8 x ^^^ iter (8 * 1) y = iter 8 (x ^^^ y) := fun x y => (iter_xor 8 x y).symm
  have i2 : ∀ x y : W32, iter 8 (iter 8 x) ^^^ iter (8 * 2) y = iter 8 (iter 8 (x ^^^ y)) := fun x y => by
    rw [← iter_add, ← iter_add, iter_xor]
  have i3 : ∀ x y : W32, iter 8 (iter 8 (iter 8 x)) ^^^ iter (8 * 3) y = iter 8 (iter 8 (iter 8 (x ^^^ y))) := fun x y => by
    have a : ∀ z, iter 8 (iter 8 (iter 8 z)) = iter (8 * 3) z := fun z => by rw [← iter_add, ← iter_add]
    rw [a, a, iter_xor]
  rw [i1, i2, i3]
  rw [← iter_add, ← iter_add, ← iter_add]
  show iter 32 _ = iter 32 _
  congr 1
  conv => rhs; rw [hd]
  simp only [← BitVec.xor_assoc, top, Nat.mul_one, Nat.reduceMul, Nat.reduceSub, BitVec.shiftLeft_zero]

/-- The sum of sealed bytes is always the same. -/
theorem crc_sealed (l : List UInt8) : crc (l ++ be 4 (crc l).toNat) = BitVec.ofNat 32 955982468 := by
  unfold crc more
  have e : ∀ x : W32, x ^^^ ~~~x = BitVec.allOnes 32 := fun x => by
    apply BitVec.eq_of_getLsbD_eq
    intro i hi
    rw [BitVec.getLsbD_xor, BitVec.getLsbD_not, BitVec.getLsbD_allOnes]
    cases x.getLsbD i <;> simp [hi]
  rw [fold_append, fold_be4, e]
  decide
end Go.Sh
