/- What a row's arguments are, type by type; and the order of bytes. -/
import Derived.Test.YtggggfcgnkllgaaFrame
import Derived.ChangeMaps5
import Derived.Test.YtggggfcgnkllgaaOps2
import Derived.Test.YtggggfcgnkllgaaNum
set_option linter.unusedVariables false
set_option linter.unusedSimpArgs false
namespace Go.Sh
open Go Go.RowKit Go.ChangeShapes Go.WideShapes Go.ChangeAt
section
variable {P : Program} {H : Type} {enc : TypeId × Value → H} {W : World} {base : Nat} {v : Value} {d : DataW H} {p : List MemPlace} {t : TypeId}
theorem arg_u64 (ht : P.underlying t = some (.int .u64)) (ok : Value.okWide P W .any base t v) (h : DataW.Trod enc P W 0 (fun _ => true) true t v d p) : ∃ n : Nat, v = .int .u64 (n : Int) ∧ n < 18446744073709551616 := by
  obtain ⟨n, rfl, _, _, hw⟩ := open_int ht ok h
  simp [Lit.wf, IntKind.min, IntKind.max, IntKind.signed, IntKind.bits] at hw
  exact ⟨n.toNat, by rw [Int.toNat_of_nonneg hw.1], by omega⟩
theorem arg_u32 (ht : P.underlying t = some (.int .u32)) (ok : Value.okWide P W .any base t v) (h : DataW.Trod enc P W 0 (fun _ => true) true t v d p) : ∃ n : Nat, v = .int .u32 (n : Int) ∧ n < 4294967296 := by
  obtain ⟨n, rfl, _, _, hw⟩ := open_int ht ok h
  simp [Lit.wf, IntKind.min, IntKind.max, IntKind.signed, IntKind.bits] at hw
  exact ⟨n.toNat, by rw [Int.toNat_of_nonneg hw.1], by omega⟩
theorem arg_u16 (ht : P.underlying t = some (.int .u16)) (ok : Value.okWide P W .any base t v) (h : DataW.Trod enc P W 0 (fun _ => true) true t v d p) : ∃ n : Nat, v = .int .u16 (n : Int) ∧ n < 65536 := by
  obtain ⟨n, rfl, _, _, hw⟩ := open_int ht ok h
  simp [Lit.wf, IntKind.min, IntKind.max, IntKind.signed, IntKind.bits] at hw
  exact ⟨n.toNat, by rw [Int.toNat_of_nonneg hw.1], by omega⟩
theorem arg_u8 (ht : P.underlying t = some (.int .u8)) (ok : Value.okWide P W .any base t v) (h : DataW.Trod enc P W 0 (fun _ => true) true t v d p) : ∃ n : Nat, v = .int .u8 (n : Int) ∧ n < 256 := by
  obtain ⟨n, rfl, _, _, hw⟩ := open_int ht ok h
  simp [Lit.wf, IntKind.min, IntKind.max, IntKind.signed, IntKind.bits] at hw
  exact ⟨n.toNat, by rw [Int.toNat_of_nonneg hw.1], by omega⟩
theorem arg_i64 (ht : P.underlying t = some (.int .i64)) (ok : Value.okWide P W .any base t v) (h : DataW.Trod enc P W 0 (fun _ => true) true t v d p) : ∃ n : Int, v = .int .i64 n ∧ -9223372036854775808 ≤ n ∧ n ≤ 9223372036854775807 := by
  obtain ⟨n, rfl, _, _, hw⟩ := open_int ht ok h
  simp [Lit.wf, IntKind.min, IntKind.max, IntKind.signed, IntKind.bits] at hw
  exact ⟨n, rfl, by omega, by omega⟩
theorem arg_bool (ht : P.underlying t = some .bool) (ok : Value.okWide P W .any base t v) (h : DataW.Trod enc P W 0 (fun _ => true) true t v d p) : ∃ b : Bool, v = .bool b := by
  obtain ⟨b, rfl, _⟩ := open_bool ht ok h
  exact ⟨b, rfl⟩
theorem arg_bytes {e : TypeId} (ht : P.underlying t = some (.slice e)) (he : P.underlying e = some (.int .u8)) (hc : P.cellsOf e = 1) (ok : Value.okWide P W .any base t v)
    (h : DataW.Trod enc P W 0 (fun _ => true) true t v d p) : ∃ bs, Bts W v bs := by
  have hs : ∃ a n c, v = .slice a n c := by
    obtain ⟨a, n, c, e⟩ := okWide_slice ht ok
    exact ⟨a, n, c, e⟩
  obtain ⟨a, n, c, rfl⟩ := hs
  exact TrC.bytes ht he hc (TrC.of h)
theorem arg_string {ts : List TypeId} {ds : List (DataW H)} {j : Nat} (ht : P.underlying t = some .string) (ok : Value.okWide P W .any base t v) (h : DataW.Trod enc P W 0 (fun _ => true) true t v d p)
    (hsz : (DataW.weightsEach P ts ds).all (· ≤ reachBytes) = true) (hj : ts[j]? = some t) (hd : ds[j]? = some d) : ∃ s : List UInt8, v = .string (str s) ∧ s.length < 140737488355328 := by
  obtain ⟨s, rfl, rfl, _, _⟩ := ChangeMaps.open_string ht ok h
  have h1 := sized_string hsz hj hd
  have h2 := reachBytes_lt
  exact ⟨s.data.toList, by rw [← str_of], by omega⟩
end

/-! ### The order of bytes -/
theorem mod_step (x m : Nat) : x % 256 ^ (m + 1) = x % 256 ^ m + 256 ^ m * (x / 256 ^ m % 256) := by
  rw [Nat.pow_succ, Nat.mod_mul]
theorem less_be (m x y : Nat) : Op.bytesLess (be m x) (be m y) = decide (x % 256 ^ m < y % 256 ^ m) := by
  induction m with
  | zero => simp [be, Op.bytesLess, Nat.mod_one]
  | succ m ih =>
    show (decide (UInt8.ofNat (x / 256 ^ m) < UInt8.ofNat (y / 256 ^ m)) || (UInt8.ofNat (x / 256 ^ m) == UInt8.ofNat (y / 256 ^ m) && Op.bytesLess (be m x) (be m y))) = _
    rw [ih, Bool.eq_iff_iff]
    simp only [Bool.or_eq_true, Bool.and_eq_true, decide_eq_true_eq, beq_iff_eq]
    rw [mod_step x, mod_step y]
    have hp : 0 < 256 ^ m := Nat.pow_pos (by decide)
    have hx := Nat.mod_lt x hp
    have hy := Nat.mod_lt y hp
    have e1 : (UInt8.ofNat (x / 256 ^ m) < UInt8.ofNat (y / 256 ^ m)) ↔ x / 256 ^ m % 256 < y / 256 ^ m % 256 := by
      rw [UInt8.lt_iff_toNat_lt]; simp
    have e2 : (UInt8.ofNat (x / 256 ^ m) = UInt8.ofNat (y / 256 ^ m)) ↔ x / 256 ^ m % 256 = y / 256 ^ m % 256 := by
      rw [← UInt8.toNat_inj]; simp
    rw [e1, e2]
    generalize x / 256 ^ m % 256 = a
    generalize y / 256 ^ m % 256 = b
    generalize x % 256 ^ m = r at hx
    generalize y % 256 ^ m = s at hy
    generalize 256 ^ m = q at hx hy hp
    constructor
    · rintro (h | ⟨rfl, h⟩)
      · have : q * (a + 1) ≤ q * b := Nat.mul_le_mul_left q (by omega)
        rw [Nat.mul_add, Nat.mul_one] at this
        omega
      · omega
    · intro h
      rcases Nat.lt_trichotomy a b with h1 | h1 | h1
      · exact .inl h1
      · subst h1; exact .inr ⟨rfl, by omega⟩
      · have : q * (b + 1) ≤ q * a := Nat.mul_le_mul_left q (by omega)
        rw [Nat.mul_add, Nat.mul_one] at this
        omega
theorem be_inj {m x y : Nat} (hx : x < 256 ^ m) (hy : y < 256 ^ m) (h : be m x = be m y) : x = y := by
  have h1 := less_be m x y
  have h2 := less_be m y x
  rw [h, less_be, Nat.mod_eq_of_lt hy] at h1
  rw [← h, less_be, Nat.mod_eq_of_lt hx] at h2
  rw [Nat.mod_eq_of_lt hx] at h1
  rw [Nat.mod_eq_of_lt hy] at h2
  simp at h1 h2
  omega
theorem num_be (m x : Nat) : num (be m x) = x % 256 ^ m := by
  have key : ∀ m a, (be m x).foldl (fun n u => n * 256 + u.toNat) a = a * 256 ^ m + x % 256 ^ m := by
    intro m
    induction m with
    | zero => intro a; simp [be, Nat.mod_one]
    | succ m ih =>
      intro a
      show (be m x).foldl _ (a * 256 + (UInt8.ofNat (x / 256 ^ m)).toNat) = _
      rw [ih, mod_step]
      have : (UInt8.ofNat (x / 256 ^ m)).toNat = x / 256 ^ m % 256 := by simp
      rw [this, Nat.pow_succ, Nat.add_mul, Nat.mul_comm (x / 256 ^ m % 256), Nat.mul_assoc, Nat.mul_comm 256]
      omega
  have := key m 0
  simpa [num] using this
end Go.Sh
