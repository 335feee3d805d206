/- Bursts and check sums: plain Lean. -/
import Derived.Test.YtggggfcgnkllgaaCrcNum
set_option linter.unusedSimpArgs false
namespace Go.Sh
theorem bit1_inj0 (c : W32) (h : bit1 c = 0#32) : c = 0#32 := by
  unfold bit1 at h
  cases hm : c.msb with
  | true =>
    rw [hm, if_pos rfl] at h
    have h0 := congrArg (fun x : W32 => x.getLsbD 0) h
    simp only [BitVec.getLsbD_xor, BitVec.getLsbD_shiftLeft] at h0
    have hp : poly.getLsbD 0 = true := by decide
    rw [hp] at h0
    simp at h0
  | false =>
    rw [hm, if_neg (by decide), BitVec.xor_zero] at h
    apply BitVec.eq_of_getLsbD_eq
    intro i hi
    rcases Nat.lt_or_ge i 31 with h1 | h1
    · have h0 := congrArg (fun x : W32 => x.getLsbD (i + 1)) h
      simp only [BitVec.getLsbD_shiftLeft] at h0
      simpa [show i + 1 < 32 by omega] using h0
    · have e : i = 31 := by omega
      subst e
      have : c.msb = c.getLsbD 31 := BitVec.msb_eq_getLsbD_last c
      rw [← this, hm]
      simp
theorem iter_inj0 (k : Nat) (c : W32) (h : iter k c = 0#32) : c = 0#32 := by
  induction k generalizing c with
  | zero => exact h
  | succ k ih => exact bit1_inj0 c (ih (bit1 c) h)
/-- One bit at the top. -/
def topBit (b : Bool) : W32 := if b = true then BitVec.ofNat 32 2147483648 else 0#32
def foldBits (c : W32) (l : List Bool) : W32 := l.foldl (fun c b => bit1 (c ^^^ topBit b)) c
theorem foldBits_append (c : W32) (a b : List Bool) : foldBits c (a ++ b) = foldBits (foldBits c a) b := List.foldl_append
theorem foldBits_zeros (c : W32) (n : Nat) : foldBits c (List.replicate n false) = iter n c := by
  induction n generalizing c with
  | zero => rfl
  | succ n ih =>
    show foldBits (bit1 (c ^^^ topBit false)) (List.replicate n false) = iter n (bit1 c)
    rw [ih]
    simp [topBit]
/-- Bits as a word, from the top. -/
def word : List Bool → W32
  | [] => 0#32
  | b :: l => topBit b ^^^ (word l >>> 1)
theorem topBit_get (b : Bool) (i : Nat) (h : i < 31) : (topBit b).getLsbD i = false := by
  unfold topBit
  cases b
  · simp
  · rw [if_pos rfl, BitVec.getLsbD_ofNat]
    have e : (2147483648 : Nat) = 2 ^ 31 := rfl
    rw [e, Nat.testBit_two_pow]
    simp
    omega
theorem word_low (l : List Bool) (i : Nat) (h : i + l.length < 32) : (word l).getLsbD i = false := by
  induction l generalizing i with
  | nil => simp [word]
  | cons b l ih =>
    simp only [List.length_cons] at h
    show (topBit b ^^^ (word l >>> 1)).getLsbD i = false
    rw [BitVec.getLsbD_xor, BitVec.getLsbD_ushiftRight, topBit_get b i (by omega), ih (1 + i) (by omega)]
    rfl
theorem bit1_half (x : W32) (h : x.getLsbD 0 = false) : bit1 (x >>> 1) = x := by
  have hm : (x >>> 1).msb = false := by
    rw [BitVec.msb_eq_getLsbD_last, BitVec.getLsbD_ushiftRight]
    exact BitVec.getLsbD_of_ge _ _ (by decide)
  unfold bit1
  rw [hm, if_neg (by decide), BitVec.xor_zero]
  apply BitVec.eq_of_getLsbD_eq
  intro i hi
  rw [BitVec.getLsbD_shiftLeft, BitVec.getLsbD_ushiftRight]
  rcases Nat.eq_zero_or_pos i with h0 | h0
  · subst h0
    rw [h]
    rfl
  · have e : 1 + (i - 1) = i := by omega
    simp [hi, e]
    omega
theorem foldBits_word (c : W32) (l : List Bool) (h : l.length ≤ 32) : foldBits c l = iter l.length (c ^^^ word l) := by
  induction l generalizing c with
  | nil => simp [foldBits, word, iter]
  | cons b l ih =>
    simp only [List.length_cons] at h
    show foldBits (bit1 (c ^^^ topBit b)) l = iter l.length (bit1 (c ^^^ (topBit b ^^^ (word l >>> 1))))
    rw [ih _ (by omega), ← BitVec.xor_assoc, bit1_xor (c ^^^ topBit b), bit1_half (word l) (word_low l 0 (by omega))]
/-- A byte's bits, the highest first. -/
def bitsN (n : Nat) : List Bool := (List.range 8).map fun i => n.testBit (7 - i)
theorem word_bits : ∀ n, n < 256 → word (bitsN n) = BitVec.ofNat 32 n <<< 24 := by decide +kernel
def bitsOf (l : List UInt8) : List Bool := (l.map fun u => bitsN u.toNat).flatten
theorem bitsN_len (n : Nat) : (bitsN n).length = 8 := by simp [bitsN]
theorem upd1_bits (c : W32) (u : UInt8) : upd1 c u = foldBits c (bitsN u.toNat) := by
  rw [foldBits_word c _ (by rw [bitsN_len]; decide), word_bits _ u.toNat_lt, bitsN_len]
  rfl
theorem fold_bits (c : W32) (l : List UInt8) : fold c l = foldBits c (bitsOf l) := by
  induction l generalizing c with
  | nil => rfl
  | cons u l ih =>
    show fold (upd1 c u) l = foldBits c (bitsN u.toNat ++ bitsOf l)
    rw [ih, foldBits_append, upd1_bits]
def mix2 (a b : List UInt8) : List UInt8 := List.zipWith (· ^^^ ·) a b
theorem upd1_mix2 (s t : W32) (x y : UInt8) : upd1 (s ^^^ t) (x ^^^ y) = upd1 s x ^^^ upd1 t y := by
  have e : ∀ a b c d : W32, a ^^^ b ^^^ (c ^^^ d) = a ^^^ c ^^^ (b ^^^ d) := by
    intro a b c d
    apply BitVec.eq_of_getLsbD_eq
    intro i hi
    simp only [BitVec.getLsbD_xor]
    cases a.getLsbD i <;> cases b.getLsbD i <;> cases c.getLsbD i <;> cases d.getLsbD i <;> rfl
  unfold upd1
  rw [← iter_xor, top_xor, e]
theorem fold_mix2 (a b : List UInt8) (s t : W32) (h : a.length = b.length) : fold (s ^^^ t) (mix2 a b) = fold s a ^^^ fold t b := by
  induction a generalizing b s t with
  | nil =>
    cases b with
    | nil => rfl
    | cons _ _ => cases h
  | cons x a ih =>
    cases b with
    | nil => cases h
    | cons y b =>
      show fold (upd1 _ _) (mix2 a b) = _
      rw [upd1_mix2, ih b _ _ (by simpa using h)]
      rfl
theorem iter_inj (k : Nat) (a b : W32) (h : iter k a = iter k b) : a = b := by
  have h0 : iter k (a ^^^ b) = 0#32 := by rw [iter_xor, h, BitVec.xor_self]
  have h1 := iter_inj0 k _ h0
  have h2 : a ^^^ b ^^^ b = 0#32 ^^^ b := by rw [h1]
  rwa [BitVec.xor_assoc, BitVec.xor_self, BitVec.xor_zero, BitVec.zero_xor] at h2
/-- Bytes and a word behind them are sealed just where the whole leaves what all ones leave. -/
theorem res_iff (p : List UInt8) (d : W32) : fold (~~~0#32) (p ++ be 4 d.toNat) = iter 32 (BitVec.allOnes 32) ↔ d = crc p := by
  have e : ∀ x : W32, x ^^^ ~~~x = BitVec.allOnes 32 := fun x => by
    apply BitVec.eq_of_getLsbD_eq
    intro i hi
    rw [BitVec.getLsbD_xor, BitVec.getLsbD_not, BitVec.getLsbD_allOnes]
    cases x.getLsbD i <;> simp [hi]
  rw [fold_append, fold_be4]
  constructor
  · intro h
    have h1 := iter_inj 32 _ _ h
    rw [← e (fold (~~~0#32) p)] at h1
    have h2 : fold (~~~0#32) p ^^^ (fold (~~~0#32) p ^^^ d) = fold (~~~0#32) p ^^^ (fold (~~~0#32) p ^^^ ~~~(fold (~~~0#32) p)) := by rw [h1]
    rw [← BitVec.xor_assoc, ← BitVec.xor_assoc, BitVec.xor_self, BitVec.zero_xor, BitVec.zero_xor] at h2
    exact h2
  · intro h
    rw [h]
    unfold crc more
    rw [e]
theorem word_zero (l : List Bool) (h : l.length ≤ 32) (hw : word l = 0#32) : ∀ b ∈ l, b = false := by
  have key : iter l.length (word l) = 0#32 := by rw [hw, iter_zero]
  induction l with
  | nil => simp
  | cons b l ih =>
    simp only [List.length_cons] at h
    have h31 : (topBit b ^^^ (word l >>> 1)).getLsbD 31 = false := by
      have : word (b :: l) = topBit b ^^^ (word l >>> 1) := rfl
      rw [← this, hw]
      simp
    rw [BitVec.getLsbD_xor, BitVec.getLsbD_ushiftRight, BitVec.getLsbD_of_ge (word l) (1 + 31) (by decide), Bool.xor_false] at h31
    have hb : b = false := by
      cases b
      · rfl
      · exact absurd h31 (by decide)
    subst hb
    have hl : word l >>> 1 = 0#32 := by
      have : word (false :: l) = topBit false ^^^ (word l >>> 1) := rfl
      rw [hw] at this
      have ht : topBit false = 0#32 := rfl
      rw [ht, BitVec.zero_xor] at this
      exact this.symm
    have hwl : word l = 0#32 := by
      rw [← bit1_half (word l) (word_low l 0 (by omega)), hl, bit1_zero]
    intro x hx
    rcases List.mem_cons.1 hx with rfl | hx
    · rfl
    · exact ih (by omega) hwl (by rw [hwl, iter_zero]) x hx
/-- A burst of at most 32 bits, one of them set, leaves something. -/
theorem burst (e : List UInt8) (a r : Nat) (pat : List Bool) (hp : pat.length ≤ 32) (ht : true ∈ pat) (he : bitsOf e = List.replicate a false ++ pat ++ List.replicate r false) : fold 0#32 e ≠ 0#32 := by
  intro h
  rw [fold_bits, he, foldBits_append, foldBits_append, foldBits_zeros, foldBits_zeros, iter_zero, foldBits_word _ _ hp, BitVec.zero_xor] at h
  have h1 := iter_inj0 _ _ (iter_inj0 _ _ h)
  exact absurd (word_zero pat hp h1 true ht) (by decide)
end Go.Sh
