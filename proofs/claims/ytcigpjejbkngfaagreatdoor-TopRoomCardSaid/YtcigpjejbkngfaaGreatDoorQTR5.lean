/- Part 5 of what the law is proved with. -/
import Derived.Test.YtcigpjejbkngfaaGreatDoorQTR4
set_option linter.unusedVariables false
set_option linter.unusedSimpArgs false
section
namespace Go.Proofs.YtcigpjejbkngfaaGreatDoor
open Go Go.Sh
def Live (d : Dk) : Prop := d.dead = false ∧ d.fuse = -1
theorem live_trip {d : Dk} (h : Live d) : d.trip = d := by
  unfold Dk.trip
  rw [if_neg (by rw [h.2]; decide)]
theorem live_write {d : Dk} (h : Live d) {t : Nat} {b : List UInt8} (ht : t < d.safe.length) (hb : b.length ≤ 128) :
    (d.write (t : Int) b).2 = 0 ∧ Live (d.write (t : Int) b).1 ∧ (d.write (t : Int) b).1.now = d.now.set t (padB b) ∧ (d.write (t : Int) b).1.done = IntKind.i64.wrap (d.done + 1) := by
  have e : d.write (t : Int) b = ({ d.tick with ws := d.ws ++ [(t, padB b)] }, 0) := by
    unfold Dk.write
    rw [if_neg (by omega), live_trip h, if_neg (by rw [h.1]; decide)]
    simp
  rw [e]
  refine ⟨rfl, ⟨h.1, ?_⟩, ?_, rfl⟩
  · show (if 0 < d.fuse then d.fuse - 1 else d.fuse) = -1
    rw [h.2]; decide
  · show putAll d.safe (d.ws ++ [(t, padB b)]) = _
    rw [putAll_append]
    rfl
def nsec (x : List UInt8) : Nat := (x.length + 127) / 128
theorem lay_live (d : Dk) (t : Nat) (x : List UInt8) : Live d → t + nsec x ≤ d.safe.length → 0 ≤ d.done → d.done + nsec x ≤ 9223372036854775807 →
    (layAll d t x).2 = 0 ∧ Live (layAll d t x).1 ∧ (layAll d t x).1.done = d.done + nsec x ∧ (∀ s, s < t ∨ t + nsec x ≤ s → (layAll d t x).1.now[s]? = d.now[s]?) ∧
      (∀ j, j < nsec x → (layAll d t x).1.now[t + j]? = some (padB ((x.drop (128 * j)).take 128))) := by
  refine layAll_ind (P := fun d t x => Live d → t + nsec x ≤ d.safe.length → 0 ≤ d.done → d.done + nsec x ≤ 9223372036854775807 →
    (layAll d t x).2 = 0 ∧ Live (layAll d t x).1 ∧ (layAll d t x).1.done = d.done + nsec x ∧ (∀ s, s < t ∨ t + nsec x ≤ s → (layAll d t x).1.now[s]? = d.now[s]?) ∧
      (∀ j, j < nsec x → (layAll d t x).1.now[t + j]? = some (padB ((x.drop (128 * j)).take 128)))) ?_ ?_ ?_ d t x
  · intro d t hl ht h0 hd
    rw [layAll_nil]
    have e : nsec [] = 0 := rfl
    rw [e]
    exact ⟨rfl, hl, by simp, fun s _ => rfl, fun j hj => absurd hj (by omega)⟩
  · intro d t x hx he hl ht h0 hd
    have hp : 0 < x.length := List.length_pos_iff.2 hx
    have hn : 1 ≤ nsec x := by unfold nsec; omega
    obtain ⟨h1, _⟩ := live_write hl (t := t) (b := x.take 128) (by omega) (by simp; omega)
    exact absurd h1 he
  · intro d t x hx he ih hl ht h0 hd
    have hp : 0 < x.length := List.length_pos_iff.2 hx
    have hn : nsec x = 1 + nsec (x.drop 128) := by unfold nsec; rw [List.length_drop]; omega
    obtain ⟨h1, h2, h3, h4⟩ := live_write hl (t := t) (b := x.take 128) (by omega) (by simp; omega)
    rw [w64 (by omega) (by omega)] at h4
    have ih' := ih h2 (by rw [Dk.write_size]; omega) (by omega) (by omega)
    rw [layAll_cons d t hx, if_neg (by rw [h1]; decide)]
    have hlen : t < d.now.length := by rw [Dk.now_length]; omega
    obtain ⟨i1, i2, i3, i4, i5⟩ := ih'
    refine ⟨i1, i2, by rw [i3, h4, hn]; omega, ?_, ?_⟩
    · intro s hs
      rw [i4 s (by omega), h3, List.getElem?_set_ne (by omega)]
    · intro j hj
      cases j with
      | zero =>
        refine (i4 t (by omega)).trans ?_
        rw [h3, List.getElem?_set_self hlen]
        rfl
      | succ j =>
        have := i5 j (by omega)
        rw [show t + (j + 1) = t + 1 + j by omega, this, List.drop_drop]
        congr 4
        omega
theorem flat_get {l : List (List UInt8)} (h : ∀ s ∈ l, s.length = 128) (p : Nat) : l.flatten[p]? = (l[p / 128]?).bind (fun s => s[p % 128]?) := by
  have e : p = p / 128 * 128 + p % 128 := by omega
  have h1 : l.flatten[p]? = (l.flatten.drop (p / 128 * 128))[p % 128]? := by rw [List.getElem?_drop, ← e]
  rw [h1, flat_drop h]
  by_cases hq : p / 128 < l.length
  · rw [List.drop_eq_getElem_cons hq, List.flatten_cons, List.getElem?_append_left (by rw [h _ (List.getElem_mem hq)]; omega), List.getElem?_eq_getElem hq]
    rfl
  · rw [List.drop_eq_nil_of_le (by omega), List.getElem?_eq_none (l := l) (by omega)]
    rfl
theorem vall_get {v : Vt} {d : Dk} (hd : d.ok) (at_ p : Nat) (hp : p < v.each * 128) : (vall v d at_)[p]? = (d.now[v.fm + at_ * v.each + p / 128]?).bind (fun s => s[p % 128]?) := by
  unfold vall
  rw [flat_get (fun s hs => Dk.now_128 hd s (List.mem_of_mem_drop (List.mem_of_mem_take hs)))]
  rw [List.getElem?_take, if_pos (by omega), List.getElem?_drop]
theorem vall_len {v : Vt} {d : Dk} (hd : d.ok) (ok : v.ok d.safe.length) {at_ : Nat} (ha : at_ < v.n) : (vall v d at_).length = v.each * 128 := by
  have := Vt.at_le ok ha
  unfold vall
  exact flat_take_drop d.now (Dk.now_128 hd) _ _ (by rw [Dk.now_length]; omega)
theorem vput_good {v : Vt} {d : Dk} (hd : d.ok) (ok : v.ok d.safe.length) (hl : Live d) {at_ : Nat} (ha : at_ < v.n) {bs : List UInt8} (h : bs.length ≤ v.room) (h0 : 0 ≤ d.done) (h1 : d.done ≤ 9000000000000000000) :
    (vput v d (at_ : Int) bs).2 = 0 ∧ Live (vput v d (at_ : Int) bs).1 ∧ (vput v d (at_ : Int) bs).1.done = d.done + ((bs.length + 4 + 127) / 128 : Nat) ∧ vget v (vput v d (at_ : Int) bs).1 (at_ : Int) = (bs, 0) ∧
      (∀ k, k < v.n → k ≠ at_ → vget v (vput v d (at_ : Int) bs).1 (k : Int) = vget v d (k : Int)) ∧ (∀ s, s < v.fm ∨ v.fm + v.n * v.each ≤ s → (vput v d (at_ : Int) bs).1.now[s]? = d.now[s]?) := by
  obtain ⟨o1, o2, o3, o4⟩ := id ok
  have hle := Vt.at_le ok ha
  have e : vput v d (at_ : Int) bs = layAll d (v.fm + at_ * v.each) (be 4 bs.length ++ bs) := by
    unfold vput
    rw [if_neg (by omega), if_neg (by omega)]
    rfl
  have hdo := vput_ok (v := v) hd (at_ : Int) bs
  have hds := vput_size v d (at_ : Int) bs
  rw [e] at hdo hds ⊢
  obtain ⟨x, hx⟩ : ∃ x, x = be 4 bs.length ++ bs := ⟨_, rfl⟩
  have hxl : x.length = 4 + bs.length := by rw [hx]; simp
  rw [← hx] at hdo hds ⊢
  have hroom : bs.length + 4 ≤ v.each * 128 := by unfold Vt.room at h; omega
  have hns : nsec x = (bs.length + 4 + 127) / 128 := by unfold nsec; rw [hxl]; congr 1; omega
  have hns' : nsec x ≤ v.each := by rw [hns]; omega
  obtain ⟨l1, l2, l3, l4, l5⟩ := lay_live d (v.fm + at_ * v.each) x hl (by omega) h0 (by omega)
  rw [← hns]
  generalize layAll d (v.fm + at_ * v.each) x = r at hdo hds l1 l2 l3 l4 l5
  have same : ∀ k, k < v.n → k ≠ at_ → vall v r.1 k = vall v d k := by
    intro k hk hne
    have hkle := Vt.at_le ok hk
    apply List.ext_getElem?
    intro p
    by_cases hp : p < v.each * 128
    · rw [vall_get hdo k p hp, vall_get hd k p hp, l4]
      rcases Nat.lt_or_gt_of_ne hne with hlt | hlt
      · left
        have : (k + 1) * v.each ≤ at_ * v.each := Nat.mul_le_mul_right _ hlt
        rw [Nat.succ_mul] at this
        omega
      · right
        have : (at_ + 1) * v.each ≤ k * v.each := Nat.mul_le_mul_right _ hlt
        rw [Nat.succ_mul] at this
        omega
    · have hl1 := vall_len hdo (by rw [hds]; exact ok) hk
      have hl2 := vall_len hd ok hk
      rw [List.getElem?_eq_none (by omega), List.getElem?_eq_none (by omega)]
  have own : (vall v r.1 at_).take x.length = x := by
    have hl1 := vall_len hdo (by rw [hds]; exact ok) ha
    apply List.ext_getElem?
    intro p
    rw [List.getElem?_take]
    by_cases hp : p < x.length
    · rw [if_pos hp, vall_get hdo at_ p (by omega), l5 (p / 128) (by unfold nsec; omega)]
      show (padB ((x.drop (128 * (p / 128))).take 128))[p % 128]? = x[p]?
      unfold padB
      rw [List.getElem?_append_left (by simp; omega), List.getElem?_take, if_pos (by omega), List.getElem?_drop]
      congr 1
      omega
    · rw [if_neg hp, List.getElem?_eq_none (by omega)]
  have h4 : (vall v r.1 at_).take 4 = be 4 bs.length := by
    have := congrArg (List.take 4) own
    rw [List.take_take, Nat.min_eq_left (by omega)] at this
    rw [this, hx, List.take_append_of_le_length (by simp), List.take_of_length_le (by simp)]
  have hnum : num ((vall v r.1 at_).take 4) = bs.length := by
    rw [h4, num_be]
    exact Nat.mod_eq_of_lt (by have : bs.length < 256 ^ 4 := by omega
                               exact this)
  refine ⟨l1, l2, l3, ?_, ?_, ?_⟩
  · unfold vget
    rw [if_neg (by omega), if_neg (by rw [l2.1]; decide), Int.toNat_natCast, hnum, if_neg (by omega)]
    have e3 : ((vall v r.1 at_).drop 4).take bs.length = bs := by
      have := congrArg (List.drop 4) own
      rw [List.drop_take, hxl, show 4 + bs.length - 4 = bs.length by omega] at this
      rw [this, hx, List.drop_append_of_le_length (by simp), List.drop_eq_nil_of_le (by simp), List.nil_append]
    rw [e3]
  · intro k hk hne
    unfold vget
    have c1 : ¬ ((k : Int) < 0 ∨ (v.n : Int) ≤ (k : Int)) := by omega
    have c2 : ¬ r.1.dead = true := by rw [l2.1]; decide
    have c3 : ¬ d.dead = true := by rw [hl.1]; decide
    rw [if_neg c1, if_neg c1, if_neg c2, if_neg c3, Int.toNat_natCast, same k hk hne]
  · intro s hs
    refine l4 s ?_
    rcases hs with hs | hs
    · left; omega
    · right
      have : (at_ + 1) * v.each ≤ v.n * v.each := Nat.mul_le_mul_right _ ha
      rw [Nat.succ_mul] at this
      omega
theorem new_now (N s : Nat) (h : s < N) : (Dk.new N).now[s]? = some (List.replicate 128 0) := by
  show (List.replicate N (List.replicate 128 (0 : UInt8)))[s]? = _
  rw [List.getElem?_replicate, if_pos h]
theorem new_get {v : Vt} {N : Nat} (hN : N ≤ 16384) (ok : v.ok N) {k : Nat} (hk : k < v.n) : vget v (Dk.new N) (k : Int) = ([], 0) := by
  have hd := Dk.new_ok hN
  have hs : (Dk.new N).safe.length = N := by simp [Dk.new]
  obtain ⟨o1, o2, o3, o4⟩ := id ok
  have hle := Vt.at_le ok hk
  have hl := vall_len (v := v) hd (by rw [hs]; exact ok) hk
  have e4 : (vall v (Dk.new N) k).take 4 = [0, 0, 0, 0] := by
    apply List.ext_getElem?
    intro p
    rw [List.getElem?_take]
    by_cases hp : p < 4
    · rw [if_pos hp, vall_get hd k p (by omega), new_now N _ (by omega)]
      have : p = 0 ∨ p = 1 ∨ p = 2 ∨ p = 3 := by omega
      rcases this with rfl | rfl | rfl | rfl <;> rfl
    · rw [if_neg hp, List.getElem?_eq_none (by simp; omega)]
  unfold vget
  rw [if_neg (by omega), if_neg (by show ¬ false = true; decide), Int.toNat_natCast, e4]
  have : num [0, 0, 0, 0] = 0 := by decide
  rw [this, if_neg (by omega), List.take_zero]
end Go.Proofs.YtcigpjejbkngfaaGreatDoor
end
section
namespace Go.Sh
abbrev W32 := BitVec 32
def poly : W32 := BitVec.ofNat 32 79764919
def bit1 (c : W32) : W32 := (c <<< 1) ^^^ (if c.msb = true then poly else 0#32)
def iter : Nat → W32 → W32
  | 0, c => c
  | k + 1, c => iter k (bit1 c)
def top (u : UInt8) : W32 := BitVec.ofNat 32 u.toNat <<< 24
def step8 (u : UInt8) : W32 := iter 8 (top u)
def upd1 (c : W32) (u : UInt8) : W32 := iter 8 (c ^^^ top u)
def fold (c : W32) (l : List UInt8) : W32 := l.foldl upd1 c
def more (c : W32) (l : List UInt8) : W32 := ~~~ (fold (~~~ c) l)
def crc (l : List UInt8) : W32 := more 0#32 l
theorem bit1_xor (a b : W32) : bit1 (a ^^^ b) = bit1 a ^^^ bit1 b := by
  unfold bit1
  rw [BitVec.shiftLeft_xor_distrib, BitVec.msb_xor]
  cases ha : a.msb <;> cases hb : b.msb
  · simp
  · simp [BitVec.xor_assoc]
  · simp only [Bool.xor_false, if_true, Bool.false_eq_true, if_false, BitVec.xor_zero]
    rw [BitVec.xor_assoc, BitVec.xor_comm (b <<< 1), ← BitVec.xor_assoc]
  · simp only [Bool.xor_self, Bool.false_eq_true, if_false, if_true, BitVec.xor_zero]
    rw [BitVec.xor_assoc, BitVec.xor_comm poly, BitVec.xor_assoc (b <<< 1), BitVec.xor_self, BitVec.xor_zero]
theorem iter_xor (k : Nat) (a b : W32) : iter k (a ^^^ b) = iter k a ^^^ iter k b := by
  induction k generalizing a b with
  | zero => rfl
  | succ k ih => show iter k (bit1 _) = _; rw [bit1_xor, ih]; rfl
theorem iter_add (j k : Nat) (c : W32) : iter (j + k) c = iter k (iter j c) := by
  induction j generalizing c with
  | zero => rw [Nat.zero_add]; rfl
  | succ j ih => rw [Nat.succ_add]; show iter (j + k) (bit1 c) = _; rw [ih]; rfl
theorem iter_succ (k : Nat) (c : W32) : iter (k + 1) c = bit1 (iter k c) := iter_add k 1 c
theorem iter_small (k : Nat) (c : W32) (h : c.toNat * 2 ^ k < 2 ^ 32) : iter k c = c <<< k := by
  induction k generalizing c with
  | zero => simp [iter]
  | succ k ih =>
    have hp : 1 ≤ 2 ^ k := Nat.one_le_two_pow
    have h2 : c.toNat * 2 < 2 ^ 32 := by
      have : c.toNat * 2 * 1 ≤ c.toNat * 2 * 2 ^ k := Nat.mul_le_mul_left _ hp
      rw [Nat.pow_succ, Nat.mul_comm (2 ^ k), ← Nat.mul_assoc] at h
      omega
    have hm : c.msb = false := by
      rw [BitVec.msb_eq_decide]
      simp
      omega
    have hb : bit1 c = c <<< 1 := by simp [bit1, hm]
    have ht : (c <<< 1).toNat = c.toNat * 2 := by
      rw [BitVec.toNat_shiftLeft, Nat.shiftLeft_eq, Nat.pow_one, Nat.mod_eq_of_lt h2]
    show iter k (bit1 c) = _
    rw [hb, ih _ (by rw [ht]; rw [Nat.pow_succ, Nat.mul_comm (2 ^ k), ← Nat.mul_assoc] at h; exact h), ← BitVec.shiftLeft_add, Nat.add_comm]
theorem top_xor (a b : UInt8) : top (a ^^^ b) = top a ^^^ top b := by
  unfold top
  rw [← BitVec.shiftLeft_xor_distrib, UInt8.toNat_xor]
  congr 1
  apply BitVec.eq_of_toNat_eq
  rw [BitVec.toNat_xor, BitVec.toNat_ofNat, BitVec.toNat_ofNat, BitVec.toNat_ofNat]
  have ha := a.toNat_lt
  have hb := b.toNat_lt
  have hx : a.toNat ^^^ b.toNat < 2 ^ 8 := Nat.xor_lt_two_pow ha hb
  rw [Nat.mod_eq_of_lt (by omega), Nat.mod_eq_of_lt (by omega), Nat.mod_eq_of_lt (by omega)]
theorem split_word (c : W32) : c = ((c >>> 24) <<< 24) ^^^ ((c <<< 8) >>> 8) := by
  apply BitVec.eq_of_getLsbD_eq
  intro i hi
  simp only [BitVec.getLsbD_xor, BitVec.getLsbD_shiftLeft, BitVec.getLsbD_ushiftRight]
  by_cases h : i < 24
  · have h1 : decide (i < 24) = true := by simpa using h
    have h2 : decide (8 + i < 32) = true := by simp; omega
    have h3 : decide (8 + i < 8) = false := by simp
    have h4 : 8 + i - 8 = i := by omega
    simp [h1, h2, h3, h4]
  · have h1 : decide (i < 24) = false := by simpa using h
    have h2 : decide (8 + i < 32) = false := by simp; omega
    have h4 : 24 + (i - 24) = i := by omega
    simp [h1, h2, h4, hi]
theorem shl8_back (c : W32) : ((c <<< 8) >>> 8) <<< 8 = c <<< 8 := by
  apply BitVec.eq_of_getLsbD_eq
  intro i hi
  simp only [BitVec.getLsbD_shiftLeft, BitVec.getLsbD_ushiftRight]
  by_cases h : i < 8
  · simp [h]
  · have h2 : 8 + (i - 8) = i := by omega
    simp [h, h2, hi]
def hi8 (c : W32) : UInt8 := UInt8.ofNat (c >>> 24).toNat
theorem hi8_lt (c : W32) : (c >>> 24).toNat < 256 := by
  rw [BitVec.toNat_ushiftRight, Nat.shiftRight_eq_div_pow]
  have := c.isLt
  omega
theorem hi8_toNat (c : W32) : (hi8 c).toNat = (c >>> 24).toNat := by
  unfold hi8
  rw [UInt8.toNat_ofNat']
  exact Nat.mod_eq_of_lt (hi8_lt c)
theorem top_hi8 (c : W32) : top (hi8 c) = (c >>> 24) <<< 24 := by
  unfold top
  rw [hi8_toNat]
  congr 1
  apply BitVec.eq_of_toNat_eq
  rw [BitVec.toNat_ofNat]
  have := hi8_lt c
  exact Nat.mod_eq_of_lt (by omega)
theorem upd_eq (c : W32) (u : UInt8) : (c <<< 8) ^^^ step8 (hi8 c ^^^ u) = upd1 c u := by
  have h1 : iter 8 ((c <<< 8) >>> 8) = c <<< 8 := by
    rw [iter_small, shl8_back]
    rw [BitVec.toNat_ushiftRight, Nat.shiftRight_eq_div_pow]
    have := (c <<< 8).isLt
    omega
  unfold upd1 step8
  rw [top_xor, top_hi8, ← h1, ← iter_xor]
  congr 1
  conv => rhs; rw [split_word c]
  rw [← BitVec.xor_assoc, BitVec.xor_comm ((c <<< 8) >>> 8)]
theorem fold_append (c : W32) (a b : List UInt8) : fold c (a ++ b) = fold (fold c a) b := List.foldl_append
end Go.Sh
end
section
namespace Go.Proofs.YtcigpjejbkngfaaGreatDoor
open Go Go.Sh
attribute [local irreducible] X XU XP XR CALL loopS resC closS
def B_crc_Seal (x0 : Value) (w : World) (K : Value → World → Prop) : Prop :=
  CALL Tryz.prog 77 #[x0] w fun v1 w1 =>
  X Tryz.prog (convert 31 37 v1) w1 fun v2 w2 =>
  CALL Tryz.prog 47 #[x0, v2, (.int .i64 4)] w2 fun v3 w3 =>
  K v3 w3
theorem eq_crc_Seal (x0 : Value) (w : World) (K : Value → World → Prop) :
    sh Tryz.prog (Tryz.f48.body.getD .skip) (retS Tryz.prog Tryz.f48.results K) (env0 #[x0]) w = B_crc_Seal x0 w K := by kernel_rfl
theorem call_crc_Seal (x0 : Value) (w : World) (K : Value → World → Prop) (h : B_crc_Seal x0 w K) : CALL Tryz.prog 48 #[x0] w K :=
  call_of_eq (c := Tryz.f48.body.getD .skip) mixed Tryz.func48 (by kernel_rfl) (by kernel_rfl) (by kernel_rfl) (Nat.le_of_ble_eq_true (by kernel_rfl)) (eq_crc_Seal x0 w K) h
def B_crc_Sum (x0 : Value) (w : World) (K : Value → World → Prop) : Prop :=
  CALL Tryz.prog 104 #[(.int .u32 0), x0] w fun v1 w1 =>
  K v1 w1
theorem eq_crc_Sum (x0 : Value) (w : World) (K : Value → World → Prop) :
    sh Tryz.prog (Tryz.f77.body.getD .skip) (retS Tryz.prog Tryz.f77.results K) (env0 #[x0]) w = B_crc_Sum x0 w K := by kernel_rfl
theorem call_crc_Sum (x0 : Value) (w : World) (K : Value → World → Prop) (h : B_crc_Sum x0 w K) : CALL Tryz.prog 77 #[x0] w K :=
  call_of_eq (c := Tryz.f77.body.getD .skip) mixed Tryz.func77 (by kernel_rfl) (by kernel_rfl) (by kernel_rfl) (Nat.le_of_ble_eq_true (by kernel_rfl)) (eq_crc_Sum x0 w K) h
def B_crc_More (x0 x1 : Value) (w : World) (K : Value → World → Prop) : Prop :=
  X Tryz.prog (Op.unary .xor x0) w fun v1 w1 =>
  X Tryz.prog (Builtin.len_ #[28] 3 #[x1]) w1 fun v2 w2 =>
  X Tryz.prog (binOp .lss 3 v2 (.int .i64 64)) w2 fun v3 w3 =>
  condS v3 (
  X Tryz.prog (Builtin.len_ #[28] 3 #[x1]) w3 fun v4 w4 =>
  loopS (fun Q1 ρ1 w5 =>
  X Tryz.prog (binOp .lss 3 (ρ1 18) (ρ1 17)) w5 fun v5 w6 =>
  condS v5 (
  X Tryz.prog (Instr.indexAt 28 (ρ1 16) (ρ1 18)) w6 fun v6 w7 =>
  X Tryz.prog (Instr.loadAt 5 v6) w7 fun v7 w8 =>
  X Tryz.prog (binOp .shl 31 (ρ1 5) (.int .u64 8)) w8 fun v8 w9 =>
  X Tryz.prog (binOp .shr 31 (ρ1 5) (.int .u64 24)) w9 fun v9 w10 =>
  X Tryz.prog (convert 31 5 v9) w10 fun v10 w11 =>
  X Tryz.prog (binOp .xor 5 v10 v7) w11 fun v11 w12 =>
  CALL Tryz.prog 123 #[v11] w12 fun v12 w13 =>
  X Tryz.prog (binOp .xor 31 v8 v12) w13 fun v13 w14 =>
  X Tryz.prog (binOp .add 3 (ρ1 18) (.int .i64 1)) w14 fun v14 w15 =>
  Q1 .normal (upds ρ1 [(18, v14), (31, v14), (5, v13), (30, v13), (29, v12), (28, v11), (27, v7), (26, v10), (25, v9), (24, (ρ1 5)), (23, v8), (22, (ρ1 5)), (7, v7), (21, v7), (20, v6), (19, v5)]) w15) (
  Q1 (.exit 0) (upds ρ1 [(19, v5)]) w6)) (inBlockS 0 (thenS (fun ρ2 w16 =>
  X Tryz.prog (Op.unary .xor (ρ2 5)) w16 fun v15 w17 =>
  K v15 w17) (thenS (fun ρ3 w18 =>
  CALL Tryz.prog 124 #[] w18 fun v16 w19 =>
  X Tryz.prog (Builtin.len_ #[28] 3 #[(ρ3 1)]) w19 fun v17 w20 =>
  loopS (fun Q4 ρ4 w21 =>
  X Tryz.prog (binOp .lss 3 (ρ4 37) (ρ4 36)) w21 fun v18 w22 =>
  condS v18 (
  X Tryz.prog (Instr.indexAt 28 (ρ4 35) (ρ4 37)) w22 fun v19 w23 =>
  X Tryz.prog (Instr.loadAt 5 v19) w23 fun v20 w24 =>
  X Tryz.prog (binOp .shl 31 (ρ4 5) (.int .u64 8)) w24 fun v21 w25 =>
  X Tryz.prog (binOp .shr 31 (ρ4 5) (.int .u64 24)) w25 fun v22 w26 =>
  X Tryz.prog (convert 31 5 v22) w26 fun v23 w27 =>
  X Tryz.prog (binOp .xor 5 v23 v20) w27 fun v24 w28 =>
  X Tryz.prog (nilS (ρ4 8)) w28 fun v25 w29 =>
  X Tryz.prog (Instr.indexAt 224 v25 v24) w29 fun v26 w30 =>
  X Tryz.prog (Instr.loadAt 31 v26) w30 fun v27 w31 =>
  X Tryz.prog (binOp .xor 31 v21 v27) w31 fun v28 w32 =>
  X Tryz.prog (binOp .add 3 (ρ4 37) (.int .i64 1)) w32 fun v29 w33 =>
  Q4 .normal (upds ρ4 [(37, v29), (53, v29), (5, v28), (52, v28), (51, v27), (50, v26), (49, v25), (48, v24), (47, v20), (46, v23), (45, v22), (44, (ρ4 5)), (43, (ρ4 8)), (42, v21), (41, (ρ4 5)), (10, v20), (40, v20), (39, v19), (38, v18)]) w33) (
  Q4 (.exit 2) (upds ρ4 [(38, v18)]) w22)) (inBlockS 2 (thenS (fun ρ5 w34 =>
  X Tryz.prog (Op.unary .xor (ρ5 5)) w34 fun v30 w35 =>
  K v30 w35) (retS Tryz.prog (Tryz.f104).results K))) (upds ρ3 [(37, (.int .i64 0)), (36, v17), (35, (ρ3 1)), (8, v16), (34, v16)]) w20) (retS Tryz.prog (Tryz.f104).results K)))) (upds (env0 #[x0, x1]) [(18, (.int .i64 0)), (17, v4), (16, x1), (15, v3), (14, v2), (13, x1), (5, v1), (12, v1), (11, x0), (4, (.int .u32 0))]) w4) (
  CALL Tryz.prog 124 #[] w3 fun v31 w36 =>
  X Tryz.prog (Builtin.len_ #[28] 3 #[x1]) w36 fun v32 w37 =>
  loopS (fun Q6 ρ6 w38 =>
  X Tryz.prog (binOp .lss 3 (ρ6 37) (ρ6 36)) w38 fun v33 w39 =>
  condS v33 (
  X Tryz.prog (Instr.indexAt 28 (ρ6 35) (ρ6 37)) w39 fun v34 w40 =>
  X Tryz.prog (Instr.loadAt 5 v34) w40 fun v35 w41 =>
  X Tryz.prog (binOp .shl 31 (ρ6 5) (.int .u64 8)) w41 fun v36 w42 =>
  X Tryz.prog (binOp .shr 31 (ρ6 5) (.int .u64 24)) w42 fun v37 w43 =>
  X Tryz.prog (convert 31 5 v37) w43 fun v38 w44 =>
  X Tryz.prog (binOp .xor 5 v38 v35) w44 fun v39 w45 =>
  X Tryz.prog (nilS (ρ6 8)) w45 fun v40 w46 =>
  X Tryz.prog (Instr.indexAt 224 v40 v39) w46 fun v41 w47 =>
  X Tryz.prog (Instr.loadAt 31 v41) w47 fun v42 w48 =>
  X Tryz.prog (binOp .xor 31 v36 v42) w48 fun v43 w49 =>
  X Tryz.prog (binOp .add 3 (ρ6 37) (.int .i64 1)) w49 fun v44 w50 =>
  Q6 .normal (upds ρ6 [(37, v44), (53, v44), (5, v43), (52, v43), (51, v42), (50, v41), (49, v40), (48, v39), (47, v35), (46, v38), (45, v37), (44, (ρ6 5)), (43, (ρ6 8)), (42, v36), (41, (ρ6 5)), (10, v35), (40, v35), (39, v34), (38, v33)]) w50) (
  Q6 (.exit 2) (upds ρ6 [(38, v33)]) w39)) (inBlockS 2 (thenS (fun ρ7 w51 =>
  X Tryz.prog (Op.unary .xor (ρ7 5)) w51 fun v45 w52 =>
  K v45 w52) (retS Tryz.prog (Tryz.f104).results K))) (upds (env0 #[x0, x1]) [(37, (.int .i64 0)), (36, v32), (35, x1), (8, v31), (34, v31), (15, v3), (14, v2), (13, x1), (5, v1), (12, v1), (11, x0), (4, (.int .u32 0))]) w37)
theorem eq_crc_More (x0 x1 : Value) (w : World) (K : Value → World → Prop) :
    sh Tryz.prog (Tryz.f104.body.getD .skip) (retS Tryz.prog Tryz.f104.results K) (env0 #[x0, x1]) w = B_crc_More x0 x1 w K := by kernel_rfl
theorem call_crc_More (x0 x1 : Value) (w : World) (K : Value → World → Prop) (h : B_crc_More x0 x1 w K) : CALL Tryz.prog 104 #[x0, x1] w K :=
  call_of_eq (c := Tryz.f104.body.getD .skip) mixed Tryz.func104 (by kernel_rfl) (by kernel_rfl) (by kernel_rfl) (Nat.le_of_ble_eq_true (by kernel_rfl)) (eq_crc_More x0 x1 w K) h
def B_crc_Open (x0 : Value) (w : World) (K : Value → World → Prop) : Prop :=
  X Tryz.prog (Builtin.len_ #[28] 3 #[x0]) w fun v1 w1 =>
  X Tryz.prog (binOp .sub 3 v1 (.int .i64 4)) w1 fun v2 w2 =>
  ∃ R, Frame? R ∧
  XP Tryz.prog (binOp .lss 3 v2 (.int .i64 0)) (drewW w2) fun v3 w3 =>
  gstep v3 false (fun w4 K => K x0 w4) w3 fun v4 w5 =>
  gstep v3 false (fun w6 K => K v2 w6) w5 fun v5 w7 =>
  gstep v3 false (fun w8 K => XP Tryz.prog (Instr.sliceAt 28 v4 (some v5) none none) w8 K) w7 fun v6 w9 =>
  gstep v3 false (fun w10 K => K x0 w10) w9 fun v7 w11 =>
  gstep v3 false (fun w12 K => K v2 w12) w11 fun v8 w13 =>
  gstep v3 false (fun w14 K => XP Tryz.prog (Instr.sliceAt 28 v7 none (some v8) none) w14 K) w13 fun v9 w15 =>
  gstep v3 false (fun w16 K => CALL Tryz.prog 92 #[v6] w16 K) w15 fun v10 w17 =>
  gstep v3 false (fun w18 K => CALL Tryz.prog 93 #[v10, (.int .i64 4)] w18 K) w17 fun v11 w19 =>
  gstep v3 false (fun w20 K => CALL Tryz.prog 77 #[v9] w20 K) w19 fun v12 w21 =>
  gstep v3 false (fun w22 K => XR Tryz.prog R (convert 31 37 v12) w22 K) w21 fun v13 w23 =>
  gstep v3 false (fun w24 K => XP Tryz.prog (binOpG .neq 37 (.tmp 15) (.tmp 20) v11 v13) w24 K) w23 fun v14 w25 =>
  XP Tryz.prog (pickS v3 (.bool true) v14) w25 fun v15 w26 =>
  condS v15 (
  K (.tuple #[(.slice none 0 0), (.bool false)]) w26) (
  X Tryz.prog (Instr.sliceAt 28 x0 none (some v2) none) w26 fun v16 w27 =>
  X Tryz.prog (Builtin.append_ #[28, 28] 28 #[(.slice none 0 0), v16]) w27 fun v17 w28 =>
  K (.tuple #[v17, (.bool true)]) w28)
theorem eq_crc_Open (x0 : Value) (w : World) (K : Value → World → Prop) :
    sh Tryz.prog (Tryz.f117.body.getD .skip) (retS Tryz.prog Tryz.f117.results K) (env0 #[x0]) w = B_crc_Open x0 w K := by kernel_rfl
theorem call_crc_Open (x0 : Value) (w : World) (K : Value → World → Prop) (h : B_crc_Open x0 w K) : CALL Tryz.prog 117 #[x0] w K :=
  call_of_eq (c := Tryz.f117.body.getD .skip) mixed Tryz.func117 (by kernel_rfl) (by kernel_rfl) (by kernel_rfl) (Nat.le_of_ble_eq_true (by kernel_rfl)) (eq_crc_Open x0 w K) h
def B_crc_step (x0 : Value) (w : World) (K : Value → World → Prop) : Prop :=
  X Tryz.prog (convert 5 31 x0) w fun v1 w1 =>
  X Tryz.prog (binOp .shl 31 v1 (.int .u64 24)) w1 fun v2 w2 =>
  loopS (fun Q1 ρ1 w3 =>
  X Tryz.prog (binOp .lss 3 (ρ1 8) (.int .i64 8)) w3 fun v3 w4 =>
  condS v3 (
  X Tryz.prog (binOp .shr 31 (ρ1 3) (.int .u64 31)) w4 fun v4 w5 =>
  X Tryz.prog (binOp .shl 31 (ρ1 3) (.int .u64 1)) w5 fun v5 w6 =>
  X Tryz.prog (binOp .mul 31 (.int .u32 79764919) v4) w6 fun v6 w7 =>
  X Tryz.prog (binOp .xor 31 v5 v6) w7 fun v7 w8 =>
  X Tryz.prog (binOp .add 3 (ρ1 8) (.int .i64 1)) w8 fun v8 w9 =>
  Q1 .normal (upds ρ1 [(8, v8), (17, v8), (3, v7), (16, v7), (15, v6), (14, v4), (13, v5), (12, (ρ1 3)), (4, v4), (11, v4), (10, (ρ1 3)), (9, v3)]) w9) (
  Q1 (.exit 0) (upds ρ1 [(9, v3)]) w4)) (inBlockS 0 (thenS (fun ρ2 w10 =>
  K (ρ2 3) w10) (retS Tryz.prog (Tryz.f123).results K))) (upds (env0 #[x0]) [(8, (.int .i64 0)), (3, v2), (7, v2), (6, v1), (5, x0), (2, (.int .u32 0))]) w2
theorem eq_crc_step (x0 : Value) (w : World) (K : Value → World → Prop) :
    sh Tryz.prog (Tryz.f123.body.getD .skip) (retS Tryz.prog Tryz.f123.results K) (env0 #[x0]) w = B_crc_step x0 w K := by kernel_rfl
theorem call_crc_step (x0 : Value) (w : World) (K : Value → World → Prop) (h : B_crc_step x0 w K) : CALL Tryz.prog 123 #[x0] w K :=
  call_of_eq (c := Tryz.f123.body.getD .skip) mixed Tryz.func123 (by kernel_rfl) (by kernel_rfl) (by kernel_rfl) (Nat.le_of_ble_eq_true (by kernel_rfl)) (eq_crc_step x0 w K) h
def B_crc_table (w : World) (K : Value → World → Prop) : Prop :=
  X Tryz.prog (Instr.alloc 224 true (.tuple #[])) w fun v1 w1 =>
  loopS (fun Q1 ρ1 w2 =>
  X Tryz.prog (binOp .lss 3 (ρ1 3) (.int .i64 256)) w2 fun v2 w3 =>
  condS v2 (
  X Tryz.prog (convert 3 5 (ρ1 3)) w3 fun v3 w4 =>
  CALL Tryz.prog 123 #[v3] w4 fun v4 w5 =>
  X Tryz.prog (Instr.indexAt 224 (ρ1 1) (ρ1 3)) w5 fun v5 w6 =>
  XU Tryz.prog (Instr.storeAt 31 v5 v4) w6 fun w7 =>
  X Tryz.prog (binOp .add 3 (ρ1 3) (.int .i64 1)) w7 fun v6 w8 =>
  Q1 .normal (upds ρ1 [(3, v6), (11, v6), (10, v5), (9, v4), (8, v3), (7, (ρ1 3)), (6, (ρ1 3)), (2, (ρ1 3)), (5, (ρ1 3)), (4, v2)]) w8) (
  Q1 (.exit 0) (upds ρ1 [(4, v2)]) w3)) (inBlockS 0 (thenS (fun ρ2 w9 =>
  K (ρ2 1) w9) (retS Tryz.prog (Tryz.f124).results K))) (upds (env0 #[]) [(3, (.int .i64 0)), (1, v1), (0, (.pointer none))]) w1
theorem eq_crc_table (w : World) (K : Value → World → Prop) :
    sh Tryz.prog (Tryz.f124.body.getD .skip) (retS Tryz.prog Tryz.f124.results K) (env0 #[]) w = B_crc_table  w K := by kernel_rfl
theorem call_crc_table (w : World) (K : Value → World → Prop) (h : B_crc_table  w K) : CALL Tryz.prog 124 #[] w K :=
  call_of_eq (c := Tryz.f124.body.getD .skip) mixed Tryz.func124 (by kernel_rfl) (by kernel_rfl) (by kernel_rfl) (Nat.le_of_ble_eq_true (by kernel_rfl)) (eq_crc_table  w K) h
end Go.Proofs.YtcigpjejbkngfaaGreatDoor
end
section
namespace Go.Sh
open Go
def U32 (c : W32) : Value := .int .u32 ((c.toNat : Nat) : Int)
section
variable {P : Program}
theorem u32_xor (T : TypeId) (a b : W32) (w : World) : (binOp .xor T (U32 a) (U32 b)).run P w = .ok (U32 (a ^^^ b)) w := by
  unfold U32
  rw [run_xor (k := .u32) rfl T a.toNat b.toNat a.isLt b.isLt w, BitVec.toNat_xor]
theorem u32_not (c : W32) (w : World) : (Op.unary .xor (U32 c)).run P w = .ok (U32 (~~~c)) w := by
  have h : (Op.unary .xor (U32 c)) = binOp .xor 0 (U32 (BitVec.allOnes 32)) (U32 c) := rfl
  rw [h, u32_xor]
  congr 2
theorem u32_shl (T : TypeId) (k : IntKind) (c : W32) (n : Nat) (hn : n ≤ 32) (w : World) : (binOp .shl T (U32 c) (.int k (n : Int))).run P w = .ok (U32 (c <<< n)) w := by
  unfold U32
  rw [run_shl _ _ (by omega) w, BitVec.toNat_shiftLeft, Nat.shiftLeft_eq]
  have e1 : min ((n : Int).toNat) IntKind.u32.bits = n := by show min _ 32 = _; omega
  rw [e1, wrap_u32]
  congr 2
theorem u32_shr (T : TypeId) (k : IntKind) (c : W32) (n : Nat) (hn : n ≤ 32) (w : World) : (binOp .shr T (U32 c) (.int k (n : Int))).run P w = .ok (U32 (c >>> n)) w := by
  unfold U32
  rw [run_shr _ _ (by omega) w, BitVec.toNat_ushiftRight, Nat.shiftRight_eq_div_pow]
  have e1 : min ((n : Int).toNat) IntKind.u32.bits = n := by show min _ 32 = _; omega
  rw [e1, fdiv_pow]
theorem u32_of_u8 {S T : TypeId} {d : TypeDesc} (hS : P.underlying S = some d) (hT : P.underlying T = some (.int .u32)) (u : UInt8) (w : World) : (convert S T (.int .u8 ((u.toNat : Nat) : Int))).run P w = .ok (U32 (BitVec.ofNat 32 u.toNat)) w := by
  rw [run_conv_int hS hT]
  unfold U32
  have := u.toNat_lt
  rw [BitVec.toNat_ofNat, Nat.mod_eq_of_lt (by omega), wrap_u32]
  congr 2
  omega
theorem u8_of_u32 {S T : TypeId} {d : TypeDesc} (hS : P.underlying S = some d) (hT : P.underlying T = some (.int .u8)) (c : W32) (w : World) : (convert S T (U32 (c >>> 24))).run P w = .ok (.int .u8 (((hi8 c).toNat : Nat) : Int)) w := by
  unfold U32
  rw [run_conv_int hS hT, hi8_toNat, wrap_u8]
  have := hi8_lt c
  congr 2
  omega
theorem u8_xor (T : TypeId) (a b : UInt8) (w : World) : (binOp .xor T (.int .u8 ((a.toNat : Nat) : Int)) (.int .u8 ((b.toNat : Nat) : Int))).run P w = .ok (.int .u8 (((a ^^^ b).toNat : Nat) : Int)) w := by
  rw [run_xor (k := .u8) rfl T a.toNat b.toNat a.toNat_lt b.toNat_lt w, UInt8.toNat_xor]
theorem msb_top (c : W32) : (c >>> 31).toNat = c.msb.toNat := by
  rw [BitVec.toNat_ushiftRight, Nat.shiftRight_eq_div_pow, BitVec.msb_eq_decide]
  have := c.isLt
  by_cases h : 2 ^ 31 ≤ c.toNat
  · simp [h]; omega
  · simp [h]; omega
theorem u32_polymul (T : TypeId) (c : W32) (w : World) : (binOp .mul T (.int .u32 79764919) (U32 (c >>> 31))).run P w = .ok (U32 (if c.msb = true then poly else 0#32)) w := by
  unfold U32
  rw [msb_top, run_mul, wrap_u32]
  cases c.msb <;> rfl
end
end Go.Sh
namespace Go.Proofs.YtcigpjejbkngfaaGreatDoor
open Go Go.Sh Go.RowKit
attribute [local irreducible] X XU XP XR CALL loopS resC closS
theorem step_spec {u : UInt8} {w : World} {K : Value → World → Prop} (h : K (U32 (step8 u)) w) : CALL Tryz.prog 123 #[.int .u8 ((u.toNat : Nat) : Int)] w K := by
  apply call_crc_step
  unfold B_crc_step
  refine X_of (u32_of_u8 Tryz.underlying5 Tryz.underlying31 u w) ?_
  refine X_of (u32_shl 31 .u64 _ 24 (by decide) w) ?_
  refine loopS_of (fun ρ wr => ∃ i : Nat, i ≤ 8 ∧ wr = w ∧ ρ 8 = .int .i64 (i : Nat) ∧ ρ 3 = U32 (iter i (top u))) (fun ρ wr => match ρ 8 with | .int _ s => (8 - s).toNat | _ => 0) ?_ ?_
  · exact ⟨0, by omega, rfl, rfl, rfl⟩
  · rintro ρ wr ⟨i, hi, rfl, h8, h3⟩
    simp only [SS, ST, h8, h3]
    by_cases hin : i = 8
    · subst hin
      rw [if_neg (by simp)]
      show K (ρ 3) wr
      rw [h3]
      exact h
    · rw [if_pos (by simp; omega)]
      refine X_of (u32_shr 31 .u64 _ 31 (by decide) _) ?_
      refine X_of (u32_shl 31 .u64 _ 1 (by decide) _) ?_
      refine X_of (u32_polymul 31 _ _) ?_
      refine X_of (u32_xor 31 _ _ _) ?_
      show _ ∧ _
      refine ⟨⟨i + 1, by omega, rfl, ?_, ?_⟩, ?_⟩
      · show Value.int .i64 _ = _
        congr 1
        rw [w64 (by omega) (by omega)]
        omega
      · rw [iter_succ]
        rfl
      · show (_ - IntKind.i64.wrap _).toNat < _
        rw [w64 (by omega) (by omega)]
        omega
def tabCells : List Value := (List.range 256).map fun i => U32 (step8 (UInt8.ofNat i))
theorem tab_len : tabCells.length = 256 := by simp [tabCells]
theorem tab_get (j : Nat) (h : j < 256) : tabCells[j]? = some (U32 (step8 (UInt8.ofNat j))) := by simp [tabCells, h]
attribute [local irreducible] tabCells
theorem table_spec {w : World} {K : Value → World → Prop} (h : ∀ b w1, Ext w w1 → w.heap.size ≤ b → w1.heap[b]? = some (.cells tabCells.toArray 224 (0, 0)) → K (.pointer (some ⟨b, 0, none⟩)) w1) :
    CALL Tryz.prog 124 #[] w K := by
  apply call_crc_table
  unfold B_crc_table
  refine X_alloc zero_224 ?_
  have hc : (Value.agg ((List.replicate 256 (Value.int .u32 0)).toArray)).cells = (List.replicate 256 (Value.int .u32 0)).toArray := rfl
  rw [hc]
  have hg := newB_get w (List.replicate 256 (Value.int .u32 0)).toArray 224
  have hx := newB_ext w (List.replicate 256 (Value.int .u32 0)).toArray 224
  have hz := newB_size w (List.replicate 256 (Value.int .u32 0)).toArray 224
  obtain ⟨l0, hl0⟩ : ∃ l, l = List.replicate 256 (Value.int .u32 0) := ⟨_, rfl⟩
  have hl0' : l0.length = 256 := by rw [hl0]; exact List.length_replicate
  rw [← hl0] at hg hx hz ⊢
  generalize newB w l0.toArray 224 = w0 at hg hx hz ⊢
  refine loopS_of (fun ρ wr => ∃ (i : Nat) (l : List Value), i ≤ 256 ∧ Ext w wr ∧ ρ 3 = .int .i64 (i : Nat) ∧ ρ 1 = .pointer (some ⟨w.heap.size, 0, none⟩) ∧ wr.heap[w.heap.size]? = some (.cells l.toArray 224 (0, 0)) ∧ l.length = 256 ∧ ∀ j, j < i → l[j]? = tabCells[j]?)
    (fun ρ wr => match ρ 3 with | .int _ s => (256 - s).toNat | _ => 0) ?_ ?_
  · exact ⟨0, l0, by omega, hx, rfl, rfl, hg, hl0', fun j hj => absurd hj (by omega)⟩
  · rintro ρ wr ⟨i, l, hi, hxr, h3, h1, hb, hl, hj⟩
    rcases Nat.lt_or_ge i 256 with hin | hin
    rotate_left
    · have hin : i = 256 := by omega
      subst hin
      simp only [SS, ST, h3, h1]
      rw [if_neg (by simp)]
      show K (ρ 1) wr
      rw [h1]
      refine h _ wr hxr (Nat.le_refl _) ?_
      have : l = tabCells := by
        apply List.ext_getElem?
        intro j
        by_cases hj' : j < 256
        · exact hj j hj'
        · rw [List.getElem?_eq_none (by omega), List.getElem?_eq_none (by rw [tab_len]; omega)]
      rw [← this]
      exact hb
    · simp only [SS, ST, h3, h1]
      rw [if_pos (by simp; omega)]
      have e8 : IntKind.u8.wrap ((i : Nat) : Int) = (((UInt8.ofNat i).toNat : Nat) : Int) := u8_wrap i
      rw [e8]
      refine step_spec ?_
      refine X_of (ix_arr Tryz.underlying224 info_31 i rfl (by omega) _) ?_
      have ea : (⟨w.heap.size, 0, none⟩ : Addr).add (i * szT Tryz.prog 31) = ⟨w.heap.size, i, none⟩ := by
        rw [sz_31, add_plain, Nat.mul_one, Nat.zero_add]
      rw [ea]
      refine XU_store info_31 sz_31 rfl hb (by simp [hl]; omega) (by show ¬ ((0 : Nat) ≤ i ∧ i < 0); omega) ?_
      show _ ∧ _
      refine ⟨⟨i + 1, l.set i (U32 (step8 (UInt8.ofNat i))), by omega, Ext.seq hxr (setAt_keep _ _ _ _ _) (fun k hk => by omega), ?_, h1, ?_, by simp [hl], ?_⟩, ?_⟩
      · exact next64 (n := 256) (by decide) hi
      · have e : l.toArray.setIfInBounds i (U32 (step8 (UInt8.ofNat i))) = (l.set i (U32 (step8 (UInt8.ofNat i)))).toArray := by simp
        rw [← e]
        exact setAt_same (lt_of_blk hb)
      · intro j hj'
        by_cases hji : j = i
        · subst hji
          rw [List.getElem?_set_self (by omega), tab_get j (by omega)]
        · rw [List.getElem?_set_ne (by omega)]
          exact hj j (by omega)
      · show (_ - IntKind.i64.wrap _).toNat < _
        rw [w64 (by omega) (by omega)]
        omega
end Go.Proofs.YtcigpjejbkngfaaGreatDoor
end
section
namespace Go.Sh
open Go Go.RowKit Go.ChangeShapes Go.WideShapes Go.ChangeAt
def RowK {α : Type} (k : Nat) (f : α → List Value) (w : World) (v : Value) (xs : List α) : Prop :=
  ∃ a c, v = .slice a xs.length c ∧ xs.length ≤ c ∧ c ≤ 9223372036854775807 ∧ (0 < xs.length → ∃ ad, a = some ad ∧ ∀ j x, xs[j]? = some x → ∀ i u, (f x)[i]? = some u → w.cell? ((ad.add (j * k)).add i) = some u)
theorem RowK.slice {α : Type} {k : Nat} {f : α → List Value} {w : World} {v : Value} {xs : List α} (h : RowK k f w v xs) : ∃ a c, v = .slice a xs.length c := by
  obtain ⟨a, c, e, _⟩ := h
  exact ⟨a, c, e⟩
theorem add_block (ad : Addr) (j : Nat) : (ad.add j).block = ad.block := by unfold Addr.add; split <;> rfl
theorem RowK.keep {α : Type} {n : Nat} {f : α → List Value} {w w' : World} {v : Value} {xs : List α} {D : Nat → Prop} (h : RowK n f w v xs) (k : Keep D w w') (hd : 0 < xs.length → ∀ b, v.ownBlock = some b → ¬ D b) : RowK n f w' v xs := by
  obtain ⟨a, c, rfl, h1, h2, h3⟩ := h
  refine ⟨a, c, rfl, h1, h2, fun hn => ?_⟩
  obtain ⟨ad, rfl, hc⟩ := h3 hn
  refine ⟨ad, rfl, fun j x hj i u hu => k.cell ?_ (hc j x hj i u hu)⟩
  rw [add_block, add_block]
  exact hd hn _ rfl
theorem RowK.ext {α : Type} {n : Nat} {f : α → List Value} {w w' : World} {v : Value} {xs : List α} (h : RowK n f w v xs) (k : Ext w w') : RowK n f w' v xs := h.keep k (fun _ _ _ h => h)
section
variable {P : Program} {α : Type} {k : Nat} {f : α → List Value}
theorem RowK.cut {T e : TypeId} (hT : P.underlying T = some (.slice e)) (hi : infoB P e = true) {v : Value} {xs : List α} {w0 : World} (hb : RowK k f w0 v xs) {kh : IntKind} {hj : Int} (h' : Nat) (e2 : hj = h') (h1 : h' ≤ xs.length) :
    ∃ u, (∀ w, (Instr.sliceAt T v none (some (.int kh hj)) none).run P w = .ok u w) ∧ RowK k f w0 u (xs.take h') := by
  obtain ⟨a, c, rfl, h2, h3, h4⟩ := hb
  refine ⟨_, fun w => sl_hi hT hi h' e2 (by omega) w, ?_⟩
  have hl : (xs.take h').length = h' := by simp; omega
  refine ⟨a, c, by rw [hl], by omega, h3, fun hn => ?_⟩
  obtain ⟨ad, rfl, hc⟩ := h4 (by omega)
  refine ⟨ad, rfl, fun j x hj => hc j x ?_⟩
  rw [List.getElem?_take] at hj
  split at hj
  · exact hj
  · cases hj
theorem RowK.at {T e : TypeId} (hT : P.underlying T = some (.slice e)) (hi : infoB P e = true) (hs : szT P e = k) {v : Value} {xs : List α} {w0 : World} (hb : RowK k f w0 v xs) {kd : IntKind} {ii : Int} (i : Nat) (e1 : ii = i) (h : i < xs.length) :
    ∃ a, (∀ w, (Instr.indexAt T v (.int kd ii)).run P w = .ok (.pointer (some a)) w) ∧ (∀ j u, (f xs[i])[j]? = some u → w0.cell? (a.add j) = some u) := by
  obtain ⟨a, c, rfl, h3, h4, h5⟩ := hb
  obtain ⟨ad, rfl, hc⟩ := h5 (by omega)
  refine ⟨_, fun w => ix hT hi i e1 h w, ?_⟩
  rw [hs]
  exact fun j u hu => hc i _ (List.getElem?_eq_getElem h) j u hu
theorem load_cells {t : TypeId} {d : TypeDesc} (hu : P.underlying t = some d) (ha : aggB P t = true) (hi : infoB P t = true) {a : Addr} {l : List Value} {w : World} (hn : l.length = szT P t)
    (hc : ∀ j u, l[j]? = some u → w.cell? (a.add j) = some u) : (Instr.loadAt t (.pointer (some a))).run P w = .ok (.agg l.toArray) w := by
  have hload : (loadCells a l.length).run P w = .ok l.toArray w := run_loadCells_list w _ l hc
  rw [hn] at hload
  simp [Instr.loadAt, Instr.sureAddr, loadVar, isAgg_run' hu ha, sizeOf_run hi, hload]
theorem mapM_get {β γ : Type} (g : β → Option γ) : ∀ (l : List β) (es : List γ), l.mapM g = some es → ∀ (i : Nat) (u : γ), es[i]? = some u → ∃ x, l[i]? = some x ∧ g x = some u
  | [], es, h, i, u, hu => by
    simp at h
    subst h
    cases hu
  | x :: l, es, h, i, u, hu => by
    rw [List.mapM_cons] at h
    cases hx : g x with
    | none => rw [hx] at h; simp at h
    | some y =>
      cases hl : l.mapM g with
      | none => rw [hx, hl] at h; simp at h
      | some ys =>
        rw [hx, hl] at h
        simp at h
        subst h
        cases i with
        | zero => exact ⟨x, rfl, by simpa [hx] using hu⟩
        | succ i => exact mapM_get g l ys hl i u hu
theorem cells_all {W : World} {a : Addr} {n : Nat} {es : List Value} (h : W.cells? 0 a n = some es) : ∀ i u, es[i]? = some u → W.cell? (a.add i) = some u := by
  unfold World.cells? at h
  simp only [Nat.zero_le, if_true] at h
  intro i u hu
  obtain ⟨x, hx, hg⟩ := mapM_get _ _ _ h i u hu
  have hx' := List.getElem?_eq_some_iff.1 hx
  obtain ⟨hi, hx'⟩ := hx'
  rw [List.getElem_range] at hx'
  subst hx'
  exact hg
theorem TrC.rowK {H : Type} {enc : TypeId × Value → H} {W : World} {t e : TypeId} {v : Value} {Good : α → Prop} (ht : P.underlying t = some (.slice e)) (hc : P.cellsOf e = k)
    (he : ∀ es, TrC enc P W e es → ∃ x, es = f x ∧ Good x) (h : TrC enc P W t [v]) : ∃ xs, RowK k f W v xs ∧ ∀ x ∈ xs, Good x := by
  rcases h.slice ht with hv | ⟨a, len, cap, hv, h1, h2, h3⟩
  · injection hv with hv
    subst hv
    exact ⟨[], ⟨none, 0, rfl, Nat.le_refl _, by omega, fun h => absurd h (by simp)⟩, by simp⟩
  · injection hv with hv
    subst hv
    have key : ∀ i, i < len → ∃ x, (∀ j u, (f x)[j]? = some u → W.cell? ((a.add (i * k)).add j) = some u) ∧ Good x := by
      intro i hi
      obtain ⟨es, h4, h5⟩ := h3 i hi
      rw [hc] at h4
      obtain ⟨x, hx, hg⟩ := he _ h5
      subst hx
      exact ⟨x, cells_all h4, hg⟩
    have all : ∀ n, n ≤ len → ∃ xs : List α, xs.length = n ∧ (∀ j x, xs[j]? = some x → ∀ i u, (f x)[i]? = some u → W.cell? ((a.add (j * k)).add i) = some u) ∧ ∀ x ∈ xs, Good x := by
      intro n
      induction n with
      | zero => intro _; exact ⟨[], rfl, by simp, by simp⟩
      | succ n ih =>
        intro hn
        obtain ⟨xs, hl, hb, hg⟩ := ih (by omega)
        obtain ⟨x, hx, hgx⟩ := key n (by omega)
        refine ⟨xs ++ [x], by simp [hl], fun j y hj => ?_, ?_⟩
        · by_cases hjn : j < xs.length
          · exact hb j y (by rwa [List.getElem?_append_left hjn] at hj)
          · have hlt := (List.getElem?_eq_some_iff.1 hj).1
            simp at hlt
            have : j = xs.length := by omega
            subst this
            simp at hj
            subst hj
            rw [hl]; exact hx
        · intro y hy
          rcases List.mem_append.1 hy with hy | hy
          · exact hg y hy
          · simp at hy; subst hy; exact hgx
    obtain ⟨xs, hl, hb, hg⟩ := all len (Nat.le_refl _)
    exact ⟨xs, ⟨some a, cap, by rw [hl], by omega, h2, fun _ => ⟨a, rfl, hb⟩⟩, hg⟩
end
theorem Bts.blk_lt {w : World} {v : Value} {bs : List UInt8} (h : Bts w v bs) (h0 : 0 < bs.length) : ∀ k, v.ownBlock = some k → k < w.heap.size := by
  obtain ⟨a, c, rfl, h1, h2, h3⟩ := h
  obtain ⟨ad, rfl, hc⟩ := h3 h0
  intro k hk
  have := World.block_lt_of_cell? w _ (hc 0 _ (List.getElem?_eq_getElem h0))
  rw [add_block] at this
  injection hk with hk
  omega
theorem Row.blk_lt {α : Type} {f : α → Value} {w : World} {v : Value} {xs : List α} (h : Row f w v xs) (h0 : 0 < xs.length) : ∀ k, v.ownBlock = some k → k < w.heap.size := by
  obtain ⟨a, c, rfl, h1, h2, h3⟩ := h
  obtain ⟨ad, rfl, hc⟩ := h3 h0
  intro k hk
  have := World.block_lt_of_cell? w _ (hc 0 _ (List.getElem?_eq_getElem h0))
  rw [add_block] at this
  injection hk with hk
  omega
theorem RowK.blk_lt {α : Type} {n : Nat} {f : α → List Value} {w : World} {v : Value} {xs : List α} (h : RowK n f w v xs) (h0 : 0 < xs.length) (hf : ∀ x ∈ xs, 0 < (f x).length) : ∀ k, v.ownBlock = some k → k < w.heap.size := by
  obtain ⟨a, c, rfl, h1, h2, h3⟩ := h
  obtain ⟨ad, rfl, hc⟩ := h3 h0
  intro k hk
  have := World.block_lt_of_cell? w _ (hc 0 _ (List.getElem?_eq_getElem h0) 0 _ (List.getElem?_eq_getElem (hf _ (List.getElem_mem h0))))
  rw [add_block, add_block] at this
  injection hk with hk
  omega
end Go.Sh
end
section
namespace Go.Sh
open Go Go.RowKit
theorem add_add (a : Addr) (x y : Nat) : (a.add x).add y = a.add (x + y) := by
  unfold Addr.add
  by_cases hx : x = 0
  · subst hx; simp
  · by_cases hy : y = 0
    · subst hy; simp
    · simp [hx, hy]; try omega
theorem flatten_get {α : Type} {k : Nat} (hk : 0 < k) : ∀ (l : List (List α)), (∀ s ∈ l, s.length = k) → ∀ p, l.flatten[p]? = (l[p / k]?).bind (fun s => s[p % k]?) := by
  intro l
  induction l with
  | nil => intro _ p; simp
  | cons s l ih =>
    intro h p
    have hs : s.length = k := h s (by simp)
    rw [List.flatten_cons]
    by_cases hp : p < k
    · rw [List.getElem?_append_left (by omega), Nat.div_eq_of_lt hp, Nat.mod_eq_of_lt hp]
      rfl
    · rw [List.getElem?_append_right (by omega), hs, ih (fun t ht => h t (by simp [ht]))]
      have e1 : p / k = (p - k) / k + 1 := by
        have : p = (p - k) + k := by omega
        conv => lhs; rw [this]
        rw [Nat.add_div_right _ hk]
      have e2 : p % k = (p - k) % k := by
        have : p = (p - k) + k := by omega
        conv => lhs; rw [this]
        rw [Nat.add_mod_right]
      rw [e1, e2]
      rfl
def cellsK {α : Type} (f : α → List Value) (xs : List α) : List Value := (xs.map f).flatten
theorem cellsK_append {α : Type} (f : α → List Value) (xs ys : List α) : cellsK f (xs ++ ys) = cellsK f xs ++ cellsK f ys := by simp [cellsK]
theorem cellsK_len {α : Type} {k : Nat} {f : α → List Value} (hf : ∀ x, (f x).length = k) (xs : List α) : (cellsK f xs).length = xs.length * k := by
  unfold cellsK
  induction xs with
  | nil => simp
  | cons x xs ih => simp only [List.map_cons, List.flatten_cons, List.length_append, ih, hf, List.length_cons, Nat.succ_mul]; omega
theorem cellsK_get {α : Type} {k : Nat} {f : α → List Value} (hk : 0 < k) (hf : ∀ x, (f x).length = k) (xs : List α) (p : Nat) : (cellsK f xs)[p]? = (xs[p / k]?).bind (fun x => (f x)[p % k]?) := by
  unfold cellsK
  rw [flatten_get hk _ (fun s hs => by obtain ⟨x, _, rfl⟩ := List.mem_map.1 hs; exact hf x)]
  rw [List.getElem?_map]
  cases xs[p / k]? <;> rfl
theorem cellsK_at {α : Type} {k : Nat} {f : α → List Value} (hk : 0 < k) (hf : ∀ x, (f x).length = k) {xs : List α} {j i : Nat} {x : α} {u : Value} (hx : xs[j]? = some x) (hu : (f x)[i]? = some u) : (cellsK f xs)[j * k + i]? = some u := by
  have hi : i < k := by
    have := (List.getElem?_eq_some_iff.1 hu).1
    rw [hf] at this; exact this
  rw [cellsK_get hk hf]
  have e1 : (j * k + i) / k = j := by rw [Nat.add_comm, Nat.add_mul_div_right _ _ hk, Nat.div_eq_of_lt hi, Nat.zero_add]
  have e2 : (j * k + i) % k = i := by rw [Nat.add_comm, Nat.add_mul_mod_self_right, Nat.mod_eq_of_lt hi]
  rw [e1, e2, hx]
  exact hu
def OwnK {α : Type} (k e : Nat) (f : α → List Value) (w : World) (base : Nat) (v : Value) (xs : List α) : Prop := w.ownsRow base e k v xs.length (cellsK f xs)
section
variable {α : Type} {k e : Nat} {f : α → List Value} {w w' : World} {base : Nat} {v : Value} {xs ys : List α}
theorem OwnK.rowK (hk : 0 < k) (hf : ∀ x, (f x).length = k) (h : OwnK k e f w base v xs) : RowK k f w v xs := by
  rcases id h.2 with ⟨rfl, h0⟩ | ⟨g, cap, cur, rfl, hg, hh, hm, hmx, hs, ht⟩
  · have : xs = [] := List.eq_nil_of_length_eq_zero h0
    subst this
    exact ⟨none, 0, rfl, Nat.le_refl _, by omega, fun h => absurd h (by simp)⟩
  · refine ⟨_, cap, rfl, hm, by simpa [maxLen] using hmx, fun _ => ⟨_, rfl, fun j x hx i u hu => ?_⟩⟩
    have hc := cellsK_at hk hf hx hu
    have hi : i < k := by
      have := (List.getElem?_eq_some_iff.1 hu).1
      rw [hf] at this; exact this
    have hj := (List.getElem?_eq_some_iff.1 hx).1
    have hlt : j * k + i < xs.length * k := by
      have := Nat.mul_le_mul_right k (Nat.succ_le_of_lt hj)
      rw [Nat.succ_mul] at this
      omega
    rw [← ht, List.getElem?_take, if_pos hlt] at hc
    rw [add_add, Go.Proofs.YtcigpjejbkngfaaGreatDoor.add_plain, Nat.zero_add, cell_blk hh]
    simpa using hc
theorem RowK.cells (hk : 0 < k) (hf : ∀ x, (f x).length = k) (h : RowK k f w v xs) : ∃ a c, v = .slice a xs.length c ∧ (0 < xs.length → ∃ ad, a = some ad ∧ ∀ j u, (cellsK f xs)[j]? = some u → w.cell? (ad.add j) = some u) := by
  obtain ⟨a, c, rfl, h1, h2, h3⟩ := h
  refine ⟨a, c, rfl, fun h0 => ?_⟩
  obtain ⟨ad, rfl, hc⟩ := h3 h0
  refine ⟨ad, rfl, fun j u hu => ?_⟩
  rw [cellsK_get hk hf] at hu
  obtain ⟨x, hx, hu⟩ := Option.bind_eq_some_iff.1 hu
  have := hc _ _ hx _ _ hu
  rw [add_add] at this
  rw [show j = j / k * k + j % k by rw [Nat.mul_comm]; exact (Nat.div_add_mod j k).symm]
  exact this
theorem RowK.ofK (hk : 0 < k) (hf : ∀ x, (f x).length = k) {g : Nat} {T : TypeId} {fr : Nat × Nat} (hg : w.heap[g]? = some (.cells (cellsK f xs).toArray T fr)) {n : Nat} (hn : xs.length = n) (hmx : n ≤ 9223372036854775807) : RowK k f w (.slice (some ⟨g, 0, none⟩) n n) xs := by
  subst hn
  refine ⟨_, _, rfl, Nat.le_refl _, hmx, fun _ => ⟨_, rfl, fun j x hx i u hu => ?_⟩⟩
  have hc := cellsK_at hk hf hx hu
  rw [add_add, Go.Proofs.YtcigpjejbkngfaaGreatDoor.add_plain, Nat.zero_add, cell_blk hg]
  simpa using hc
theorem X_appendK {P : Program} {t U : TypeId} {bytes : Nat} {z : Value} {K : Value → World → Prop} (ht : P.underlying t = some (.slice e)) (hE : El P e k z bytes) (hk : 0 < k) (hf : ∀ x, (f x).length = k) (h1 : ∀ x ∈ ys, ∀ u ∈ f x, u.oneCell' = true)
    (hown : OwnK k e f w base v xs) {y : Value} (hy : RowK k f w y ys) (hb : (xs.length + ys.length) * bytes ≤ 140737488355328) (hb0 : 0 < bytes) (hbase : base ≤ w.heap.size)
    (h : ∀ v' w1, OwnK k e f w1 base v' (xs ++ ys) → Keep (fun q => some q = v.ownBlock) w w1 → K v' w1) : X P (Builtin.append_ #[t, t] U #[v, y]) w K := by
  obtain ⟨a, c, rfl, h3⟩ := hy.cells hk hf
  have fin : ∀ v' w1, w1.ownsRow base e k v' (xs.length + ys.length) (cellsK f xs ++ cellsK f ys) → Keep (fun q => some q = v.ownBlock) w w1 → K v' w1 := fun v' w1 ho hk' => h v' w1 (by
    unfold OwnK
    rw [List.length_append, cellsK_append]
    exact ho) hk'
  have hone : ∀ u ∈ cellsK f ys, u.oneCell' = true := by
    intro u hu
    unfold cellsK at hu
    obtain ⟨s, hs, hu⟩ := List.mem_flatten.1 hu
    obtain ⟨x, hx, rfl⟩ := List.mem_map.1 hs
    exact h1 x hx u hu
  by_cases h0 : 0 < ys.length
  · obtain ⟨ad, rfl, hc⟩ := h3 h0
    exact X_append ht hE hk hown (news := cellsK f ys) (cellsK_len hf ys) hc hone hb hb0 hbase fin
  · have hnil : ys = [] := List.eq_nil_of_length_eq_zero (by omega)
    subst hnil
    have fin0 : K v w := by
      refine fin v w ?_ (Keep.refl _ _)
      have e : cellsK f ([] : List α) = [] := rfl
      rw [e, List.append_nil, List.length_nil, Nat.add_zero]
      exact hown
    cases a with
    | none => exact X_append_none ht hE hown fin0
    | some ad => exact X_append ht hE hk hown (news := []) (m := 0) (by simp) (by simp) (by simp) (by simpa using hb) hb0 hbase (fun v' w1 ho hk' => fin v' w1 (by
        have e : cellsK f ([] : List α) = [] := rfl
        rw [e]
        exact ho) hk')
theorem OwnK.keep {D : Nat → Prop} (h : OwnK k e f w base v xs) (kp : Keep D w w') (hd : ∀ g, v.ownBlock = some g → ¬ D g) : OwnK k e f w' base v xs := own_keepD h kp hd
theorem OwnK.ext (h : OwnK k e f w base v xs) (kp : Ext w w') : OwnK k e f w' base v xs := own_extD h kp
theorem ownK_nil (w : World) (base : Nat) : OwnK k e f w base (.slice none 0 0) ([] : List α) := World.ownsRow_nil w base e k
end
end Go.Sh
end
