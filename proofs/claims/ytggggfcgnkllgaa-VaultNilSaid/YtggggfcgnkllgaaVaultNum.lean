/- What a vault is, plain Lean: shelves of a disk. -/
import Derived.Test.YtggggfcgnkllgaaDiskNum
import Derived.Test.YtggggfcgnkllgaaNum
set_option linter.unusedSimpArgs false
set_option linter.unusedVariables false
namespace Go.Sh
/-- Bytes are written, sector by sector. -/
def layAll (d : Dk) (to_ : Nat) (x : List UInt8) : Dk × Int :=
  if x = [] then (d, 0) else if (d.write (to_ : Int) (x.take 128)).2 ≠ 0 then d.write (to_ : Int) (x.take 128) else layAll (d.write (to_ : Int) (x.take 128)).1 (to_ + 1) (x.drop 128)
termination_by x.length
decreasing_by
  rename_i h _
  have : 0 < x.length := by
    cases x with
    | nil => exact absurd rfl h
    | cons _ _ => simp
  simp
  omega
theorem layAll_nil (d : Dk) (to_ : Nat) : layAll d to_ [] = (d, 0) := by unfold layAll; rw [if_pos rfl]
theorem layAll_cons (d : Dk) (to_ : Nat) {x : List UInt8} (h : x ≠ []) : layAll d to_ x = if (d.write (to_ : Int) (x.take 128)).2 ≠ 0 then d.write (to_ : Int) (x.take 128) else layAll (d.write (to_ : Int) (x.take 128)).1 (to_ + 1) (x.drop 128) := by
  rw [layAll.eq_1 d to_ x, if_neg h]
theorem layAll_ind {P : Dk → Nat → List UInt8 → Prop} (h0 : ∀ d t, P d t []) (h1 : ∀ d t x, x ≠ [] → (d.write (t : Int) (x.take 128)).2 ≠ 0 → P d t x)
    (h2 : ∀ d t x, x ≠ [] → (d.write (t : Int) (x.take 128)).2 = 0 → P (d.write (t : Int) (x.take 128)).1 (t + 1) (x.drop 128) → P d t x) : ∀ d t x, P d t x := by
  have key : ∀ n d t x, x.length ≤ n → P d t x := by
    intro n
    induction n with
    | zero =>
      intro d t x hx
      have : x = [] := List.eq_nil_of_length_eq_zero (by omega)
      rw [this]; exact h0 d t
    | succ n ih =>
      intro d t x hx
      by_cases hn : x = []
      · rw [hn]; exact h0 d t
      · have hp : 0 < x.length := List.length_pos_iff.2 hn
        by_cases he : (d.write (t : Int) (x.take 128)).2 = 0
        · exact h2 d t x hn he (ih _ _ _ (by simp; omega))
        · exact h1 d t x hn he
  exact fun d t x => key x.length d t x (Nat.le_refl _)
theorem layAll_ok {d : Dk} (h : d.ok) (t : Nat) (x : List UInt8) : (layAll d t x).1.ok := by
  refine layAll_ind (P := fun d t x => d.ok → (layAll d t x).1.ok) ?_ ?_ ?_ d t x h
  · intro d t h; rw [layAll_nil]; exact h
  · intro d t x hx he h; rw [layAll_cons d t hx, if_pos he]; exact Dk.write_ok h _ _
  · intro d t x hx he ih h; rw [layAll_cons d t hx, if_neg (by simpa using he)]; exact ih (Dk.write_ok h _ _)
theorem layAll_size (d : Dk) (t : Nat) (x : List UInt8) : (layAll d t x).1.safe.length = d.safe.length := by
  refine layAll_ind (P := fun d t x => (layAll d t x).1.safe.length = d.safe.length) ?_ ?_ ?_ d t x
  · intro d t; rw [layAll_nil]
  · intro d t x hx he; rw [layAll_cons d t hx, if_pos he]; exact Dk.write_size _ _ _
  · intro d t x hx he ih; rw [layAll_cons d t hx, if_neg (by simpa using he), ih]; exact Dk.write_size _ _ _
theorem layAll_ws (d : Dk) (t : Nat) (x : List UInt8) : (layAll d t x).1.ws.length ≤ d.ws.length + x.length := by
  refine layAll_ind (P := fun d t x => (layAll d t x).1.ws.length ≤ d.ws.length + x.length) ?_ ?_ ?_ d t x
  · intro d t; rw [layAll_nil]; simp
  · intro d t x hx he
    rw [layAll_cons d t hx, if_pos he]
    have := Dk.write_ws d (t : Int) (x.take 128)
    have hp : 0 < x.length := List.length_pos_iff.2 hx
    omega
  · intro d t x hx he ih
    rw [layAll_cons d t hx, if_neg (by simpa using he)]
    have := Dk.write_ws d (t : Int) (x.take 128)
    have hp : 0 < x.length := List.length_pos_iff.2 hx
    rw [List.length_drop] at ih
    omega
structure Vt where
  fm : Nat
  each : Nat
  n : Nat
def Vt.ok (v : Vt) (size : Nat) : Prop := 1 ≤ v.each ∧ v.each ≤ 16384 ∧ v.fm + v.n * v.each ≤ size ∧ size ≤ 16384
def Vt.room (v : Vt) : Nat := v.each * 128 - 4
theorem Vt.n_le {v : Vt} {size : Nat} (h : v.ok size) : v.n ≤ 16384 := by
  obtain ⟨h1, h2, h3, h4⟩ := h
  have : v.n * 1 ≤ v.n * v.each := Nat.mul_le_mul_left _ h1
  omega
theorem Vt.at_le {v : Vt} {size at_ : Nat} (h : v.ok size) (ha : at_ < v.n) : v.fm + at_ * v.each + v.each ≤ size := by
  obtain ⟨h1, h2, h3, h4⟩ := h
  have : (at_ + 1) * v.each ≤ v.n * v.each := Nat.mul_le_mul_right _ ha
  rw [Nat.succ_mul] at this
  omega
/-- Bytes onto a shelf. -/
def vput (v : Vt) (d : Dk) (at_ : Int) (bs : List UInt8) : Dk × Int :=
  if at_ < 0 ∨ (v.n : Int) ≤ at_ then (d, 1) else if v.room < bs.length then (d, 4) else layAll d (v.fm + at_.toNat * v.each) (be 4 bs.length ++ bs)
/-- All bytes of a shelf. -/
def vall (v : Vt) (d : Dk) (at_ : Nat) : List UInt8 := ((d.now.drop (v.fm + at_ * v.each)).take v.each).flatten
def vget (v : Vt) (d : Dk) (at_ : Int) : List UInt8 × Int :=
  if at_ < 0 ∨ (v.n : Int) ≤ at_ then ([], 1) else if d.dead = true then ([], 6) else
    if v.room < num ((vall v d at_.toNat).take 4) then ([], 110) else (((vall v d at_.toNat).drop 4).take (num ((vall v d at_.toNat).take 4)), 0)
theorem vput_ok {v : Vt} {d : Dk} (h : d.ok) (at_ : Int) (bs : List UInt8) : (vput v d at_ bs).1.ok := by
  unfold vput
  split
  · exact h
  · split
    · exact h
    · exact layAll_ok h _ _
theorem vput_size (v : Vt) (d : Dk) (at_ : Int) (bs : List UInt8) : (vput v d at_ bs).1.safe.length = d.safe.length := by
  unfold vput
  split
  · rfl
  · split
    · rfl
    · exact layAll_size _ _ _
theorem vput_ws (v : Vt) (d : Dk) (at_ : Int) (bs : List UInt8) : (vput v d at_ bs).1.ws.length ≤ d.ws.length + bs.length + 4 := by
  unfold vput
  split
  · show d.ws.length ≤ _; omega
  · split
    · show d.ws.length ≤ _; omega
    · have := layAll_ws d (v.fm + at_.toNat * v.each) (be 4 bs.length ++ bs)
      rw [List.length_append, be_length] at this
      omega
/-- What a new vault is, and why there is none. -/
def vnew (size : Nat) (fm each n : Int) : Option Vt :=
  if fm < 0 ∨ each < 1 ∨ 16384 < each ∨ n < 0 ∨ (size : Int) < fm ∨ ((size : Int) - fm) / each < n then none else some ⟨fm.toNat, each.toNat, n.toNat⟩
theorem vnew_ok {size : Nat} {fm each n : Int} {v : Vt} (hs : size ≤ 16384) (h : vnew size fm each n = some v) : v.ok size ∧ (v.fm : Int) = fm ∧ (v.each : Int) = each ∧ (v.n : Int) = n := by
  unfold vnew at h
  split at h
  · cases h
  · rename_i hn
    have e := Option.some.inj h
    subst e
    refine ⟨⟨by show 1 ≤ each.toNat; omega, by show each.toNat ≤ 16384; omega, ?_, hs⟩, by show ((fm.toNat : Nat) : Int) = fm; omega, by show ((each.toNat : Nat) : Int) = each; omega, by show ((n.toNat : Nat) : Int) = n; omega⟩
    show fm.toNat + n.toNat * each.toNat ≤ size
    have h1 : n ≤ ((size : Int) - fm) / each := by omega
    have h2 : n * each ≤ (size : Int) - fm := by
      have h3 : n * each ≤ ((size : Int) - fm) / each * each := Int.mul_le_mul_of_nonneg_right h1 (by omega)
      have h4 := Int.ediv_mul_le ((size : Int) - fm) (b := each) (by omega)
      omega
    have h5 : ((n.toNat * each.toNat : Nat) : Int) = n * each := by
      rw [Int.natCast_mul, Int.toNat_of_nonneg (by omega), Int.toNat_of_nonneg (by omega)]
    omega
end Go.Sh
