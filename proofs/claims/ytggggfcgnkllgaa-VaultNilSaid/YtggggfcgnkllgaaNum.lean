/- Numbers as bytes: plain Lean. -/
import Derived.Test.YtggggfcgnkllgaaSh
namespace Go.Sh
/-- The m lowest bytes of n, the highest of them first. -/
def be : Nat → Nat → List UInt8
  | 0, _ => []
  | m + 1, n => UInt8.ofNat (n / 256 ^ m) :: be m n
@[simp] theorem be_length (m n : Nat) : (be m n).length = m := by
  induction m with
  | zero => rfl
  | succ m ih => simp [be, ih]
/-- The first k of them. -/
theorem be_take_succ (m n k : Nat) (h : k < m) : (be m n).take (k + 1) = (be m n).take k ++ [UInt8.ofNat (n / 256 ^ (m - 1 - k))] := by
  induction m generalizing k with
  | zero => omega
  | succ m ih =>
    cases k with
    | zero => simp [be]
    | succ k =>
      have := ih k (by omega)
      simp only [be, List.take_succ_cons, this, List.cons_append]
      have e : m + 1 - 1 - (k + 1) = m - 1 - k := by omega
      rw [e]
def clamp8 (many : Int) : Nat := (max 0 (min many 8)).toNat
def putB (n : Nat) (many : Int) : List UInt8 := be (clamp8 many) n
/-- Bytes as a number. -/
def num (l : List UInt8) : Nat := l.foldl (fun n u => n * 256 + u.toNat) 0
theorem u8_wrap (n : Nat) : Go.IntKind.u8.wrap (n : Int) = ((UInt8.ofNat n).toNat : Int) := by
  have h : ∀ x : Int, Go.IntKind.u8.wrap x = x % 256 := fun x => by simp [Go.IntKind.wrap, Go.IntKind.bits, Go.IntKind.signed]
  rw [h]
  simp
theorem fdiv_pow (n j : Nat) : (n : Int).fdiv (2 ^ j) = ((n / 2 ^ j : Nat) : Int) := by
  have hp : (0 : Int) ≤ 2 ^ j := Int.pow_nonneg (by decide)
  rw [Int.fdiv_eq_ediv_of_nonneg _ hp]
  norm_cast
theorem shr_byte (n i : Nat) : (n : Int).fdiv (2 ^ (8 * i)) = ((n / 256 ^ i : Nat) : Int) := by
  rw [fdiv_pow, Nat.pow_mul]
end Go.Sh
