/- What a disk is, plain Lean: sectors that are safe, writes that are not. -/
import Derived.Test.YtggggfcgnkllgaaKit1
set_option linter.unusedSimpArgs false
set_option linter.unusedVariables false
namespace Go.Sh
structure Dk where
  safe : List (List UInt8)
  ws : List (Nat × List UInt8)
  dead : Bool
  fuse : Int
  done : Int
def putAll (l : List (List UInt8)) (ws : List (Nat × List UInt8)) : List (List UInt8) := ws.foldl (fun l p => l.set p.1 p.2) l
def Dk.now (d : Dk) : List (List UInt8) := putAll d.safe d.ws
def Dk.ok (d : Dk) : Prop := (∀ s ∈ d.safe, s.length = 128) ∧ (∀ p ∈ d.ws, p.1 < d.safe.length ∧ p.2.length = 128) ∧ d.safe.length ≤ 16384 ∧ -1 ≤ d.fuse ∧ d.fuse ≤ 9223372036854775807
theorem putAll_length (l : List (List UInt8)) (ws : List (Nat × List UInt8)) : (putAll l ws).length = l.length := by
  induction ws generalizing l with
  | nil => rfl
  | cons p ws ih =>
    show (putAll (l.set p.1 p.2) ws).length = _
    rw [ih, List.length_set]
theorem putAll_append (l : List (List UInt8)) (a b : List (Nat × List UInt8)) : putAll l (a ++ b) = putAll (putAll l a) b := List.foldl_append
theorem set_all128 {l : List (List UInt8)} (h : ∀ s ∈ l, s.length = 128) (i : Nat) {x : List UInt8} (hx : x.length = 128) : ∀ s ∈ l.set i x, s.length = 128 := by
  intro s hs
  rcases List.mem_or_eq_of_mem_set hs with h1 | h1
  · exact h s h1
  · rw [h1]; exact hx
theorem putAll_128 {l : List (List UInt8)} {ws : List (Nat × List UInt8)} (h : ∀ s ∈ l, s.length = 128) (hw : ∀ p ∈ ws, p.2.length = 128) : ∀ s ∈ putAll l ws, s.length = 128 := by
  induction ws generalizing l with
  | nil => exact h
  | cons p ws ih => exact ih (set_all128 h p.1 (hw p (by simp))) (fun q hq => hw q (by simp [hq]))
theorem Dk.now_length (d : Dk) : d.now.length = d.safe.length := putAll_length _ _
theorem Dk.now_128 {d : Dk} (h : d.ok) : ∀ s ∈ d.now, s.length = 128 := putAll_128 h.1 (fun p hp => (h.2.1 p hp).2)
/-- Bytes of a sector. -/
def padB (b : List UInt8) : List UInt8 := b ++ List.replicate (128 - b.length) 0
theorem padB_len {b : List UInt8} (h : b.length ≤ 128) : (padB b).length = 128 := by simp [padB]; omega
/-- The power goes off, if it is about to. -/
def Dk.trip (d : Dk) : Dk := if d.fuse = 0 then { d with dead := true, fuse := -1 } else d
/-- An operation is OK. -/
def Dk.tick (d : Dk) : Dk := { d with done := Go.IntKind.i64.wrap (d.done + 1), fuse := if 0 < d.fuse then d.fuse - 1 else d.fuse }
def Dk.write (d : Dk) (at_ : Int) (b : List UInt8) : Dk × Int :=
  if at_ < 0 ∨ (d.safe.length : Int) ≤ at_ ∨ 128 < b.length then (d, 1)
  else if d.trip.dead = true then (d.trip, 6)
  else ({ d.trip.tick with ws := d.ws ++ [(at_.toNat, padB b)] }, 0)
def Dk.flush (d : Dk) : Dk × Int :=
  if d.trip.dead = true then (d.trip, 6)
  else ({ d.trip.tick with safe := d.now, ws := [] }, 0)
def Dk.cut (d : Dk) (n : Int) : Dk := if d.dead = true then d else { d with fuse := max n (-1) }
/-- So many bytes of a write are there. -/
def fateAt (fates : List Int) (i : Nat) : Nat := match fates[i]? with | some f => (max 0 (min f 128)).toNat | none => 0
theorem fateAt_le (fates : List Int) (i : Nat) : fateAt fates i ≤ 128 := by
  unfold fateAt
  split
  · omega
  · omega
/-- One sector of l, its first n bytes those of b. -/
def tearAt (l : List (List UInt8)) (p : Nat × List UInt8) (n : Nat) : List (List UInt8) := l.set p.1 (p.2.take n ++ (l.getD p.1 []).drop n)
def tears (fates : List Int) : Nat → List (List UInt8) → List (Nat × List UInt8) → List (List UInt8)
  | _, l, [] => l
  | i, l, p :: ws => tears fates (i + 1) (tearAt l p (fateAt fates i)) ws
def Dk.crash (d : Dk) (fates : List Int) : Dk := { d with safe := tears fates 0 d.safe d.ws, ws := [], dead := false, fuse := -1 }
def Dk.read (d : Dk) (at_ : Int) : List UInt8 × Int :=
  if at_ < 0 ∨ (d.safe.length : Int) ≤ at_ then ([], 1)
  else if d.dead = true then ([], 6)
  else (d.now.getD at_.toNat [], 0)
def Dk.new (n : Nat) : Dk := ⟨List.replicate n (List.replicate 128 0), [], false, -1, 0⟩
theorem tearAt_length (l : List (List UInt8)) (p : Nat × List UInt8) (n : Nat) : (tearAt l p n).length = l.length := by simp [tearAt]
theorem tears_length (fates : List Int) (i : Nat) (l : List (List UInt8)) (ws : List (Nat × List UInt8)) : (tears fates i l ws).length = l.length := by
  induction ws generalizing i l with
  | nil => rfl
  | cons p ws ih =>
    show (tears fates (i + 1) (tearAt l p (fateAt fates i)) ws).length = _
    rw [ih, tearAt_length]
theorem tearAt_128 {l : List (List UInt8)} (h : ∀ s ∈ l, s.length = 128) {p : Nat × List UInt8} (hp : p.1 < l.length ∧ p.2.length = 128) (n : Nat) (hn : n ≤ 128) : ∀ s ∈ tearAt l p n, s.length = 128 := by
  have hx : (l.getD p.1 []).length = 128 := by
    rw [List.getD_eq_getElem?_getD, List.getElem?_eq_getElem hp.1]
    exact h _ (List.getElem_mem hp.1)
  refine set_all128 h _ ?_
  rw [List.length_append, List.length_take, List.length_drop, hx, hp.2]
  omega
theorem tears_128 (fates : List Int) (i : Nat) {l : List (List UInt8)} {ws : List (Nat × List UInt8)} (h : ∀ s ∈ l, s.length = 128) (hw : ∀ p ∈ ws, p.1 < l.length ∧ p.2.length = 128) : ∀ s ∈ tears fates i l ws, s.length = 128 := by
  induction ws generalizing i l with
  | nil => exact h
  | cons p ws ih =>
    refine ih (i + 1) (tearAt_128 h (hw p (by simp)) _ (fateAt_le _ _)) (fun q hq => ?_)
    rw [tearAt_length]
    exact hw q (by simp [hq])
theorem tears_append (fates : List Int) (i : Nat) (l : List (List UInt8)) (a b : List (Nat × List UInt8)) : tears fates i l (a ++ b) = tears fates (i + a.length) (tears fates i l a) b := by
  induction a generalizing i l with
  | nil => rfl
  | cons p a ih =>
    show tears fates (i + 1) (tearAt l p (fateAt fates i)) (a ++ b) = tears fates (i + (a.length + 1)) (tears fates (i + 1) (tearAt l p (fateAt fates i)) a) b
    rw [ih]
    congr 1
    omega
/-! What is OK stays OK. -/
theorem Dk.new_ok {n : Nat} (h : n ≤ 16384) : (Dk.new n).ok := by
  refine ⟨?_, ?_, ?_, by show (-1 : Int) ≤ -1; decide, by show (-1 : Int) ≤ _; decide⟩
  · intro s hs
    simp only [Dk.new, List.mem_replicate] at hs
    rw [hs.2]; simp
  · intro p hp; simp [Dk.new] at hp
  · simpa [Dk.new] using h
theorem Dk.trip_ok {d : Dk} (h : d.ok) : d.trip.ok := by
  unfold Dk.trip
  split
  · exact ⟨h.1, h.2.1, h.2.2.1, by show (-1 : Int) ≤ -1; decide, by show (-1 : Int) ≤ _; decide⟩
  · exact h
theorem Dk.trip_safe (d : Dk) : d.trip.safe = d.safe := by unfold Dk.trip; split <;> rfl
theorem Dk.trip_ws (d : Dk) : d.trip.ws = d.ws := by unfold Dk.trip; split <;> rfl
theorem Dk.trip_done (d : Dk) : d.trip.done = d.done := by unfold Dk.trip; split <;> rfl
theorem Dk.trip_fuse {d : Dk} (h : d.ok) : d.trip.fuse ≠ 0 := by
  unfold Dk.trip
  split
  · show (-1 : Int) ≠ 0; decide
  · assumption
theorem Dk.tick_ok {d : Dk} (h : d.ok) : d.tick.ok := by
  obtain ⟨h1, h2, h3, h4, h5⟩ := h
  refine ⟨h1, h2, h3, ?_, ?_⟩
  · show -1 ≤ (if 0 < d.fuse then d.fuse - 1 else d.fuse)
    split <;> omega
  · show (if 0 < d.fuse then d.fuse - 1 else d.fuse) ≤ _
    split <;> omega
theorem Dk.write_ok {d : Dk} (h : d.ok) (at_ : Int) (b : List UInt8) : (d.write at_ b).1.ok := by
  unfold Dk.write
  split
  · exact h
  · rename_i hn
    split
    · exact Dk.trip_ok h
    · have ht := Dk.tick_ok (Dk.trip_ok h)
      obtain ⟨h1, h2, h3, h4, h5⟩ := ht
      have es : d.trip.tick.safe = d.safe := Dk.trip_safe d
      rw [es] at h1 h3
      refine ⟨?_, ?_, ?_, h4, h5⟩
      · show ∀ s ∈ d.trip.safe, _
        rw [Dk.trip_safe]; exact h1
      · intro p hp
        show p.1 < d.trip.safe.length ∧ _
        rw [Dk.trip_safe]
        rcases List.mem_append.1 hp with hp | hp
        · exact h.2.1 p hp
        · rw [List.mem_singleton.1 hp]
          exact ⟨by show at_.toNat < _; omega, padB_len (by omega)⟩
      · show d.trip.safe.length ≤ _
        rw [Dk.trip_safe]; exact h3
theorem Dk.flush_ok {d : Dk} (h : d.ok) : d.flush.1.ok := by
  unfold Dk.flush
  split
  · exact Dk.trip_ok h
  · have ht := Dk.tick_ok (Dk.trip_ok h)
    refine ⟨Dk.now_128 h, by intro p hp; exact absurd hp (by simp), ?_, ht.2.2.2.1, ht.2.2.2.2⟩
    show d.now.length ≤ _
    rw [Dk.now_length]; exact h.2.2.1
theorem Dk.cut_ok {d : Dk} (h : d.ok) {n : Int} (hn : n ≤ 9223372036854775807) : (d.cut n).ok := by
  unfold Dk.cut
  split
  · exact h
  · exact ⟨h.1, h.2.1, h.2.2.1, by show -1 ≤ max n (-1); omega, by show max n (-1) ≤ _; omega⟩
theorem Dk.crash_ok {d : Dk} (h : d.ok) (fates : List Int) : (d.crash fates).ok := by
  refine ⟨tears_128 fates 0 h.1 h.2.1, by intro p hp; exact absurd hp (by simp [Dk.crash]), ?_, by show (-1 : Int) ≤ -1; decide, by show (-1 : Int) ≤ _; decide⟩
  show (tears fates 0 d.safe d.ws).length ≤ _
  rw [tears_length]; exact h.2.2.1
/-! How many sectors. -/
theorem Dk.write_size (d : Dk) (at_ : Int) (b : List UInt8) : (d.write at_ b).1.safe.length = d.safe.length := by
  unfold Dk.write
  split
  · rfl
  · split
    · rw [Dk.trip_safe]
    · show d.trip.safe.length = _; rw [Dk.trip_safe]
theorem Dk.flush_size (d : Dk) : d.flush.1.safe.length = d.safe.length := by
  unfold Dk.flush
  split
  · rw [Dk.trip_safe]
  · exact Dk.now_length d
theorem Dk.cut_size (d : Dk) (n : Int) : (d.cut n).safe.length = d.safe.length := by unfold Dk.cut; split <;> rfl
theorem Dk.crash_size (d : Dk) (fates : List Int) : (d.crash fates).safe.length = d.safe.length := tears_length _ _ _ _
theorem Dk.write_ws (d : Dk) (at_ : Int) (b : List UInt8) : (d.write at_ b).1.ws.length ≤ d.ws.length + 1 := by
  unfold Dk.write
  split
  · exact Nat.le_succ _
  · split
    · show d.trip.ws.length ≤ _; rw [Dk.trip_ws]; exact Nat.le_succ _
    · simp
theorem Dk.flush_ws (d : Dk) : d.flush.1.ws.length ≤ d.ws.length := by
  unfold Dk.flush
  split
  · rw [Dk.trip_ws]; exact Nat.le_refl _
  · simp
/-! Rows of one length, laid together. -/
theorem flat_len {α : Type} {n : Nat} {l : List (List α)} (h : ∀ s ∈ l, s.length = n) : l.flatten.length = l.length * n := by
  induction l with
  | nil => simp
  | cons x l ih =>
    rw [List.flatten_cons, List.length_append, h x (by simp), ih (fun s hs => h s (by simp [hs])), List.length_cons, Nat.succ_mul]
    omega
theorem flat_take {α : Type} {n : Nat} {l : List (List α)} (h : ∀ s ∈ l, s.length = n) (i : Nat) : l.flatten.take (i * n) = (l.take i).flatten := by
  induction l generalizing i with
  | nil => simp
  | cons x l ih =>
    cases i with
    | zero => simp
    | succ i =>
      have hx := h x (by simp)
      have e : (i + 1) * n = n + i * n := by rw [Nat.succ_mul]; omega
      rw [List.flatten_cons, List.take_succ_cons, List.flatten_cons, e, List.take_append, List.take_of_length_le (by omega), hx, show n + i * n - n = i * n by omega, ih (fun s hs => h s (by simp [hs]))]
theorem flat_drop {α : Type} {n : Nat} {l : List (List α)} (h : ∀ s ∈ l, s.length = n) (i : Nat) : l.flatten.drop (i * n) = (l.drop i).flatten := by
  induction l generalizing i with
  | nil => simp
  | cons x l ih =>
    cases i with
    | zero => simp
    | succ i =>
      have hx := h x (by simp)
      have e : (i + 1) * n = n + i * n := by rw [Nat.succ_mul]; omega
      rw [List.flatten_cons, List.drop_succ_cons, e, List.drop_append, List.drop_eq_nil_of_le (by omega), hx, show n + i * n - n = i * n by omega, List.nil_append, ih (fun s hs => h s (by simp [hs]))]
theorem flat_at {α : Type} {n : Nat} {l : List (List α)} (h : ∀ s ∈ l, s.length = n) {i : Nat} (hi : i < l.length) : (l.flatten.drop (i * n)).take n = l[i] := by
  have hx := h _ (List.getElem_mem hi)
  rw [flat_drop h, List.drop_eq_getElem_cons hi, List.flatten_cons, List.take_append_of_le_length (by omega), List.take_of_length_le (by omega)]
/-- A row's first cells are others. -/
theorem flat_put {α : Type} {n : Nat} {l : List (List α)} (h : ∀ s ∈ l, s.length = n) {i : Nat} (hi : i < l.length) (x : List α) (hx : x.length ≤ n) : (l.set i (x ++ l[i].drop x.length)).flatten = l.flatten.take (i * n) ++ x ++ l.flatten.drop (i * n + x.length) := by
  have hl := h _ (List.getElem_mem hi)
  have e : l.flatten.drop (i * n + x.length) = l[i].drop x.length ++ (l.drop (i + 1)).flatten := by
    rw [← List.drop_drop, flat_drop h, List.drop_eq_getElem_cons hi, List.flatten_cons, List.drop_append_of_le_length (by omega)]
  rw [e, flat_take h, List.set_eq_take_append_cons_drop, if_pos hi]
  simp
end Go.Sh
