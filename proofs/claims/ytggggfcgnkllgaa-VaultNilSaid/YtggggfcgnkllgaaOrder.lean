/- Numbers as bytes: their order, and the way back. Plain Lean. -/
import Derived.Test.YtggggfcgnkllgaaNum
import GoSem.Op.String
namespace Go.Sh
open Go
/-! ### The order of bytes -/
theorem mod_step (x m : Nat) : x % 256 ^ (m + 1) = x % 256 ^ m + 256 ^ m * (x / 256 ^ m % 256) := by
  rw [Nat.pow_succ, Nat.mod_mul]
theorem less_be (m x y : Nat) : Op.bytesLess (be m x) (be m y) = decide (x % 256 ^ m < y % 256 ^ m) := by
  induction m with
  | zero => simp [be, Op.bytesLess, Nat.mod_one]
  | succ m ih =>
    show (decide (UInt8.ofNat (x / 256 ^ m) < UInt8.ofNat (y / 256 ^ m)) || (UInt8.ofNat (x / 256 ^ m) == UInt8.ofNat (y / 256 ^ m) && Op.bytesLess (be m x) (be m y))) = _
    rw [ih, Bool.eq_iff_iff]
    simp only [Bool.or_eq_true, Bool.and_eq_true, decide_eq_true_eq, beq_iff_eq]
    rw [mod_step x, mod_step y]
    have hp : 0 < 256 ^ m := Nat.pow_pos (by decide)
    have hx := Nat.mod_lt x hp
    have hy := Nat.mod_lt y hp
    have e1 : (UInt8.ofNat (x / 256 ^ m) < UInt8.ofNat (y / 256 ^ m)) ↔ x / 256 ^ m % 256 < y / 256 ^ m % 256 := by
      rw [UInt8.lt_iff_toNat_lt]; simp
    have e2 : (UInt8.ofNat (x / 256 ^ m) = UInt8.ofNat (y / 256 ^ m)) ↔ x / 256 ^ m % 256 = y / 256 ^ m % 256 := by
      rw [← UInt8.toNat_inj]; simp
    rw [e1, e2]
    generalize x / 256 ^ m % 256 = a
    generalize y / 256 ^ m % 256 = b
    generalize x % 256 ^ m = r at hx
    generalize y % 256 ^ m = s at hy
    generalize 256 ^ m = q at hx hy hp
    constructor
    · rintro (h | ⟨rfl, h⟩)
      · have : q * (a + 1) ≤ q * b := Nat.mul_le_mul_left q (by omega)
        rw [Nat.mul_add, Nat.mul_one] at this
        omega
      · omega
    · intro h
      rcases Nat.lt_trichotomy a b with h1 | h1 | h1
      · exact .inl h1
      · subst h1; exact .inr ⟨rfl, by omega⟩
      · have : q * (b + 1) ≤ q * a := Nat.mul_le_mul_left q (by omega)
        rw [Nat.mul_add, Nat.mul_one] at this
        omega
theorem be_inj {m x y : Nat} (hx : x < 256 ^ m) (hy : y < 256 ^ m) (h : be m x = be m y) : x = y := by
  have h1 := less_be m x y
  have h2 := less_be m y x
  rw [h, less_be, Nat.mod_eq_of_lt hy] at h1
  rw [← h, less_be, Nat.mod_eq_of_lt hx] at h2
  rw [Nat.mod_eq_of_lt hx] at h1
  rw [Nat.mod_eq_of_lt hy] at h2
  simp at h1 h2
  omega
theorem num_be (m x : Nat) : num (be m x) = x % 256 ^ m := by
  have key : ∀ m a, (be m x).foldl (fun n u => n * 256 + u.toNat) a = a * 256 ^ m + x % 256 ^ m := by
    intro m
    induction m with
    | zero => intro a; simp [be, Nat.mod_one]
    | succ m ih =>
      intro a
      show (be m x).foldl _ (a * 256 + (UInt8.ofNat (x / 256 ^ m)).toNat) = _
      rw [ih, mod_step]
      have : (UInt8.ofNat (x / 256 ^ m)).toNat = x / 256 ^ m % 256 := by simp
      rw [this, Nat.pow_succ, Nat.add_mul, Nat.mul_comm (x / 256 ^ m % 256), Nat.mul_assoc, Nat.mul_comm 256]
      omega
  have := key m 0
  simpa [num] using this
theorem be_cons_mod (m x y : Nat) (h : x % 256 ^ m = y % 256 ^ m) : be m x = be m y := by
  induction m generalizing x y with
  | zero => rfl
  | succ m ih =>
    rw [mod_step x, mod_step y] at h
    have hp : 0 < 256 ^ m := Nat.pow_pos (by decide)
    have hx := Nat.mod_lt x hp
    have hy := Nat.mod_lt y hp
    have h1 : x % 256 ^ m = y % 256 ^ m := by
      have := congrArg (· % 256 ^ m) h
      simpa [Nat.add_mul_mod_self_left, Nat.mod_mod] using this
    have h2 : x / 256 ^ m % 256 = y / 256 ^ m % 256 := by
      rw [h1] at h
      exact Nat.eq_of_mul_eq_mul_left hp (by omega)
    show UInt8.ofNat (x / 256 ^ m) :: be m x = UInt8.ofNat (y / 256 ^ m) :: be m y
    rw [ih x y h1]
    congr 1
    apply UInt8.toNat_inj.1
    simpa using h2
theorem num_cons (u : UInt8) (l : List UInt8) : num (u :: l) = u.toNat * 256 ^ l.length + num l := by
  have key : ∀ (l : List UInt8) (a : Nat), l.foldl (fun n u => n * 256 + u.toNat) a = a * 256 ^ l.length + num l := by
    intro l
    induction l with
    | nil => intro a; simp [num]
    | cons v l ih =>
      intro a
      have e : num (v :: l) = l.foldl (fun n u => n * 256 + u.toNat) (0 * 256 + v.toNat) := rfl
      rw [List.foldl_cons, ih, e, ih, List.length_cons, Nat.pow_succ, Nat.add_mul, Nat.zero_mul, Nat.zero_add, Nat.mul_assoc, Nat.mul_comm 256, Nat.add_assoc]
  have := key l (0 * 256 + u.toNat)
  have e : num (u :: l) = l.foldl (fun n u => n * 256 + u.toNat) (0 * 256 + u.toNat) := rfl
  rw [e, this, Nat.zero_mul, Nat.zero_add]
theorem num_lt' (l : List UInt8) : num l < 256 ^ l.length := by
  induction l with
  | nil => simp [num]
  | cons u l ih =>
    rw [num_cons, List.length_cons, Nat.pow_succ]
    have := u.toNat_lt
    have h3 : u.toNat * 256 ^ l.length ≤ 255 * 256 ^ l.length := Nat.mul_le_mul_right _ (by omega)
    omega
theorem be_num (l : List UInt8) : be l.length (num l) = l := by
  induction l with
  | nil => rfl
  | cons u l ih =>
    have hlt := num_lt' l
    have hp : 0 < 256 ^ l.length := Nat.pow_pos (by decide)
    show UInt8.ofNat (num (u :: l) / 256 ^ l.length) :: be l.length (num (u :: l)) = _
    have h1 : num (u :: l) / 256 ^ l.length = u.toNat := by
      rw [num_cons, Nat.add_comm, Nat.add_mul_div_right _ _ hp, Nat.div_eq_of_lt hlt, Nat.zero_add]
    have h2 : be l.length (num (u :: l)) = be l.length (num l) := be_cons_mod _ _ _ (by rw [num_cons, Nat.add_comm, Nat.add_mul_mod_self_right])
    rw [h1, h2, ih, UInt8.ofNat_toNat]
end Go.Sh
