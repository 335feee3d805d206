/- Part 3 of what the law is proved with: Frame Num Order Args Row RowK ShSound T1 Codec Codec2 Codec3 Kit1 Foot. -/
import Derived.ProofKit
import Derived.SizedLaws
import Derived.OpenShut
import GoSem.Op.String
import Derived.ChangeMaps5
import Derived.Test.YtlnkdphecinnnaaQPC2
section
/- From a call's contract to a law's row: the arguments read as they did, nothing that was there has turned. -/
set_option linter.unusedVariables false
namespace Go.Sh
open Go Go.RowKit Go.ChangeShapes Go.WideShapes

theorem ext_same {W W' : World} (h : Ext W W') {p : MemPlace} (hp : p.block < W.heap.size) : W.sameAt W' p := h.below.same hp

theorem trodAll_stays {H : Type} {enc : TypeId × Value → H} {P : Program} (hl : laidOutB P = true) {W W' : World} (he : Ext W W') {sp : Nat → Bool} :
    ∀ {ts : List TypeId} {vs : List Value} {ds : List (DataW H)} {ps : List MemPlace}, ts.all (fun t => P.readableRec t && decide (t < P.types.size)) = true →
      DataW.TrodAll enc P W 0 (fun _ => true) true ts vs ds ps → (∀ p ∈ ps, p.block < W.heap.size) → (∀ p ∈ ps, sp p.block = true) → DataW.TrodAll enc P W' 0 sp true ts vs ds ps
  | [], vs, ds, ps, _, h, _, _ => by
    obtain ⟨rfl, rfl, rfl⟩ := trodAll_nil h
    exact trodAll_mk0
  | t :: ts, vs, ds, ps, ht, h, hlt, hs => by
    obtain ⟨v, vs1, d, ds1, a, b, rfl, rfl, rfl, h1, h2⟩ := trodAll_cons h
    simp only [List.all_cons, Bool.and_eq_true, decide_eq_true_eq] at ht
    exact ⟨a, b, WideElems.Trod_stays hl ht.1.1 ht.1.2 h1 (fun x hx => ext_same he (hlt x (by simp [hx]))) (fun x hx => hs x (by simp [hx])),
      trodAll_stays hl he ht.2 h2 (fun x hx => hlt x (by simp [hx])) (fun x hx => hs x (by simp [hx])), rfl⟩

theorem ext_keptBut {W W' : World} (h : Ext W W') (may : MemPlace → Prop) : W.keptBut W' may := by
  refine ⟨h.os, h.output, fun i hi => ?_⟩
  rw [h.block i hi (fun h => h)]
  cases hb : W.heap[i]? with
  | none => simp
  | some o => cases o <;> simp

theorem law_post {H : Type} {enc : TypeId × Value → H} {P : Program} {f : Func} {s : ChangeSpec} {W W' : World} {args : Array Value} {ds : List (DataW H)} {before : List MemPlace} {tb : TypeId}
    (hl : laidOutB P = true) (hT : f.params.toList.all (fun t => P.readableRec t && decide (t < P.types.size)) = true) (hv : s.vars = [])
    (hfn : s.fn H (ds ++ []) = { results := [.lit (.bool true)], args := ds }) (hres : f.resultTypes = #[tb]) (htb : P.underlying tb = some .bool)
    (hW : DataW.Whole enc P f.params.toList s.vars false W args.toList ds [] before) (he : Ext W W') : s.post enc P f false true false false W args (.bool true) W' := by
  have hlt := hW.lt
  obtain ⟨p, q, hA, hV, hp, hz, hn⟩ := id hW
  rw [hv] at hV
  obtain ⟨_, rfl⟩ := trodVars_none hV
  rw [List.append_nil] at hp
  subst hp
  refine ⟨ds, [], before, [], before, [], hW, ?_, ?_, ?_, ext_keptBut he _, fun h => by cases h⟩
  · rw [hfn, hres]
    exact ⟨[], [], ⟨1, by simp [DataW.trod, Value.cells, htb]⟩, rfl, rfl⟩
  · rw [hfn]
    exact trodAll_stays hl he hT hA hlt (fun x hx => by simpa using hlt x hx)
  · rw [hfn, hv]
    rfl

/-! ### What an argument holds -/
section
variable {H : Type} {enc : TypeId × Value → H} {P : Program} {W : World}

/-- These cells read as data of that type. -/
def TrC (enc : TypeId × Value → H) (P : Program) (W : World) (t : TypeId) (cs : List Value) : Prop := ∃ fuel x, DataW.trod enc P W 0 (fun _ => true) true fuel t cs = some x

theorem TrC.of {t : TypeId} {v : Value} {d : DataW H} {p : List MemPlace} (h : DataW.Trod enc P W 0 (fun _ => true) true t v d p) : TrC enc P W t v.cells.toList := by
  obtain ⟨fuel, h⟩ := h; exact ⟨fuel, _, h⟩
theorem TrC.int {t : TypeId} {k : IntKind} {cs : List Value} (ht : P.underlying t = some (.int k)) (h : TrC enc P W t cs) : ∃ n, cs = [.int k n] ∧ (Lit.int k n).wf = true := by
  obtain ⟨fuel, x, h⟩ := h
  cases fuel with
  | zero => simp [DataW.trod] at h
  | succ fuel =>
    unfold DataW.trod at h
    rw [ht] at h
    split at h <;> first | (simp at *; done) | skip
    rename_i k1 k' n e1
    injection e1 with e1
    injection e1 with e1
    subst e1
    split at h
    · rename_i hh; obtain ⟨rfl, hw⟩ := hh; exact ⟨n, rfl, hw⟩
    · cases h
theorem TrC.bool {t : TypeId} {cs : List Value} (ht : P.underlying t = some .bool) (h : TrC enc P W t cs) : ∃ b, cs = [.bool b] := by
  obtain ⟨fuel, x, h⟩ := h
  cases fuel with
  | zero => simp [DataW.trod] at h
  | succ fuel =>
    unfold DataW.trod at h
    rw [ht] at h
    split at h <;> first | (simp at *; done) | exact ⟨_, rfl⟩
theorem TrC.string {t : TypeId} {cs : List Value} (ht : P.underlying t = some .string) (h : TrC enc P W t cs) : ∃ s, cs = [.string s] ∧ s.size ≤ 9223372036854775807 := by
  obtain ⟨fuel, x, h⟩ := h
  cases fuel with
  | zero => simp [DataW.trod] at h
  | succ fuel =>
    unfold DataW.trod at h
    rw [ht] at h
    split at h <;> first | (simp at *; done) | skip
    split at h
    · rename_i hh; exact ⟨_, rfl, by simpa [maxLen] using hh⟩
    · cases h
theorem mapM_some {α β : Type} {f : α → Option β} : ∀ {l : List α} {r : List β}, l.mapM f = some r → ∀ x ∈ l, ∃ y, f x = some y
  | [], _, _, x, hx => by cases hx
  | a :: l, r, h, x, hx => by
    rw [List.mapM_cons] at h
    cases ha : f a with
    | none => simp [ha] at h
    | some y =>
      rcases List.mem_cons.1 hx with rfl | hx
      · exact ⟨y, ha⟩
      · cases hl : l.mapM f with
        | none => simp [ha, hl] at h
        | some ys => exact mapM_some hl x hx
theorem TrC.slice {t e : TypeId} {cs : List Value} (ht : P.underlying t = some (.slice e)) (h : TrC enc P W t cs) : cs = [.slice none 0 0] ∨ ∃ a len cap, cs = [.slice (some a) len cap] ∧ len ≤ cap ∧ cap ≤ 9223372036854775807 ∧
    ∀ i, i < len → ∃ es, W.cells? 0 (a.add (i * P.cellsOf e)) (P.cellsOf e) = some es ∧ TrC enc P W e es := by
  obtain ⟨fuel, x, h⟩ := h
  cases fuel with
  | zero => simp [DataW.trod] at h
  | succ fuel =>
    unfold DataW.trod at h
    rw [ht] at h
    split at h <;> first | (simp at *; done) | skip
    · rename_i e1 a len cap e2
      injection e2 with e2
      injection e2 with e2
      subst e2
      right
      simp only at h
      split at h
      · rename_i hb
        refine ⟨a, len, cap, rfl, hb.2.1, by simpa [maxLen] using hb.2.2, fun i hi => ?_⟩
        cases hm : (List.range len).mapM (fun i => (W.cells? 0 (a.add (i * P.cellsOf e)) (P.cellsOf e)).bind (DataW.trod enc P W 0 (fun _ => true) true fuel e)) with
        | none => rw [hm] at h; simp at h
        | some elems =>
          obtain ⟨y, hy⟩ := mapM_some hm i (by simpa using hi)
          obtain ⟨es, h1, h2⟩ := Option.bind_eq_some_iff.1 hy
          exact ⟨es, h1, fuel, y, h2⟩
      · cases h
theorem TrC.struct {t : TypeId} {fs : Array Field} {cs : List Value} (ht : P.underlying t = some (.struct fs)) (h : TrC enc P W t cs) : cs.length = P.cellsOf t ∧ ∀ f ∈ fs.toList, TrC enc P W f.type ((cs.drop f.offset).take (P.cellsOf f.type)) := by
  obtain ⟨fuel, x, h⟩ := h
  cases fuel with
  | zero => simp [DataW.trod] at h
  | succ fuel =>
    unfold DataW.trod at h
    rw [ht] at h
    split at h <;> first | (simp at *; done) | skip
    rename_i fs1 e1
    injection e1 with e1
    injection e1 with e1
    subst e1
    split at h
    · rename_i hl
      refine ⟨hl, fun f hf => ?_⟩
      obtain ⟨xs, hm, _⟩ := Option.map_eq_some_iff.1 h
      obtain ⟨y, hy⟩ := mapM_some hm f hf
      exact ⟨fuel, y, hy⟩
    · cases h
theorem TrC.array {t e n : Nat} {cs : List Value} (ht : P.underlying t = some (.array n e)) (h : TrC enc P W t cs) : cs.length = P.cellsOf t ∧ ∀ i, i < n → TrC enc P W e ((cs.drop (i * P.cellsOf e)).take (P.cellsOf e)) := by
  obtain ⟨fuel, x, h⟩ := h
  cases fuel with
  | zero => simp [DataW.trod] at h
  | succ fuel =>
    unfold DataW.trod at h
    rw [ht] at h
    split at h <;> first | (simp at *; done) | skip
    rename_i n1 e1 e2
    injection e2 with e2
    injection e2 with e2 e3
    subst e2; subst e3
    split at h
    · rename_i hl
      refine ⟨hl, fun i hi => ?_⟩
      obtain ⟨xs, hm, _⟩ := Option.map_eq_some_iff.1 h
      obtain ⟨y, hy⟩ := mapM_some hm i (by simpa using hi)
      exact ⟨fuel, y, hy⟩
    · cases h
theorem cells_one {W : World} {a : Addr} {es : List Value} (h : W.cells? 0 a 1 = some es) : ∃ v, es = [v] ∧ W.cell? a = some v := by
  unfold World.cells? at h
  simp only [Nat.zero_le, if_true] at h
  have e1 : (List.range 1).mapM (fun i => W.cell? (a.add i)) = (W.cell? a).map (fun v => [v]) := by
    simp [List.range_succ, Addr.add]
    cases W.cell? a <;> rfl
  rw [e1] at h
  obtain ⟨v, hv, rfl⟩ := Option.map_eq_some_iff.1 h
  exact ⟨v, rfl, hv⟩
theorem u8_of_wf {n : Int} (h : (Lit.int .u8 n).wf = true) : ∃ u : UInt8, n = (u.toNat : Int) := by
  simp [Lit.wf, IntKind.min, IntKind.max, IntKind.signed, IntKind.bits] at h
  refine ⟨UInt8.ofNat n.toNat, ?_⟩
  simp
  omega
/-- A slice of bytes. -/
theorem TrC.bytes {t e : TypeId} {v : Value} (ht : P.underlying t = some (.slice e)) (he : P.underlying e = some (.int .u8)) (hc : P.cellsOf e = 1) (h : TrC enc P W t [v]) : ∃ bs, Bts W v bs := by
  rcases h.slice ht with hv | ⟨a, len, cap, hv, h1, h2, h3⟩
  · injection hv with hv
    subst hv
    exact ⟨[], Bts.nil W⟩
  · injection hv with hv
    subst hv
    have key : ∀ i, i < len → ∃ u : UInt8, W.cell? (a.add i) = some (.int .u8 (u.toNat : Int)) := by
      intro i hi
      obtain ⟨es, h4, h5⟩ := h3 i hi
      rw [hc, Nat.mul_one] at h4
      obtain ⟨c, rfl, hcell⟩ := cells_one h4
      obtain ⟨n, hn, hw⟩ := h5.int he
      injection hn with hn
      obtain ⟨u, rfl⟩ := u8_of_wf hw
      exact ⟨u, by rw [hcell, hn]⟩
    have all : ∀ n, n ≤ len → ∃ bs : List UInt8, bs.length = n ∧ ∀ j u, bs[j]? = some u → W.cell? (a.add j) = some (.int .u8 (u.toNat : Int)) := by
      intro n
      induction n with
      | zero => intro _; exact ⟨[], rfl, by simp⟩
      | succ n ih =>
        intro hn
        obtain ⟨bs, hl, hb⟩ := ih (by omega)
        obtain ⟨u, hu⟩ := key n (by omega)
        refine ⟨bs ++ [u], by simp [hl], fun j y hj => ?_⟩
        by_cases hjn : j < bs.length
        · exact hb j y (by rwa [List.getElem?_append_left hjn] at hj)
        · have hlt := (List.getElem?_eq_some_iff.1 hj).1
          simp at hlt
          have : j = bs.length := by omega
          subst this
          simp at hj
          subst hj
          rw [hl]; exact hu
    obtain ⟨bs, hl, hb⟩ := all len (Nat.le_refl _)
    exact ⟨bs, some a, cap, by rw [hl], by omega, h2, fun _ => ⟨a, rfl, hb⟩⟩
end
end Go.Sh
end
section
/- Numbers as bytes: plain Lean. -/
namespace Go.Sh
/-- The m lowest bytes of n, the highest of them first. -/
def be : Nat → Nat → List UInt8
  | 0, _ => []
  | m + 1, n => UInt8.ofNat (n / 256 ^ m) :: be m n
@[simp] theorem be_length (m n : Nat) : (be m n).length = m := by
  induction m with
  | zero => rfl
  | succ m ih => simp [be, ih]
/-- The first k of them. -/
theorem be_take_succ (m n k : Nat) (h : k < m) : (be m n).take (k + 1) = (be m n).take k ++ [UInt8.ofNat (n / 256 ^ (m - 1 - k))] := by
  induction m generalizing k with
  | zero => omega
  | succ m ih =>
    cases k with
    | zero => simp [be]
    | succ k =>
      have := ih k (by omega)
      simp only [be, List.take_succ_cons, this, List.cons_append]
      have e : m + 1 - 1 - (k + 1) = m - 1 - k := by omega
      rw [e]
def clamp8 (many : Int) : Nat := (max 0 (min many 8)).toNat
def putB (n : Nat) (many : Int) : List UInt8 := be (clamp8 many) n
/-- Bytes as a number. -/
def num (l : List UInt8) : Nat := l.foldl (fun n u => n * 256 + u.toNat) 0
theorem u8_wrap (n : Nat) : Go.IntKind.u8.wrap (n : Int) = ((UInt8.ofNat n).toNat : Int) := by
  have h : ∀ x : Int, Go.IntKind.u8.wrap x = x % 256 := fun x => by simp [Go.IntKind.wrap, Go.IntKind.bits, Go.IntKind.signed]
  rw [h]
  simp
theorem fdiv_pow (n j : Nat) : (n : Int).fdiv (2 ^ j) = ((n / 2 ^ j : Nat) : Int) := by
  have hp : (0 : Int) ≤ 2 ^ j := Int.pow_nonneg (by decide)
  rw [Int.fdiv_eq_ediv_of_nonneg _ hp]
  norm_cast
theorem shr_byte (n i : Nat) : (n : Int).fdiv (2 ^ (8 * i)) = ((n / 256 ^ i : Nat) : Int) := by
  rw [fdiv_pow, Nat.pow_mul]
end Go.Sh
end
section
/- Numbers as bytes: their order, and the way back. Plain Lean. -/
namespace Go.Sh
open Go
/-! ### The order of bytes -/
theorem mod_step (x m : Nat) : x % 256 ^ (m + 1) = x % 256 ^ m + 256 ^ m * (x / 256 ^ m % 256) := by
  rw [Nat.pow_succ, Nat.mod_mul]
theorem less_be (m x y : Nat) : Op.bytesLess (be m x) (be m y) = decide (x % 256 ^ m < y % 256 ^ m) := by
  induction m with
  | zero => simp [be, Op.bytesLess, Nat.mod_one]
  | succ m ih =>
    show (decide (UInt8.ofNat (x / 256 ^ m) < UInt8.ofNat (y / 256 ^ m)) || (UInt8.ofNat (x / 256 ^ m) == UInt8.ofNat (y / 256 ^ m) && Op.bytesLess (be m x) (be m y))) = _
    rw [ih, Bool.eq_iff_iff]
    simp only [Bool.or_eq_true, Bool.and_eq_true, decide_eq_true_eq, beq_iff_eq]
    rw [mod_step x, mod_step y]
    have hp : 0 < 256 ^ m := Nat.pow_pos (by decide)
    have hx := Nat.mod_lt x hp
    have hy := Nat.mod_lt y hp
    have e1 : (UInt8.ofNat (x / 256 ^ m) < UInt8.ofNat (y / 256 ^ m)) ↔ x / 256 ^ m % 256 < y / 256 ^ m % 256 := by
      rw [UInt8.lt_iff_toNat_lt]; simp
    have e2 : (UInt8.ofNat (x / 256 ^ m) = UInt8.ofNat (y / 256 ^ m)) ↔ x / 256 ^ m % 256 = y / 256 ^ m % 256 := by
      rw [← UInt8.toNat_inj]; simp
    rw [e1, e2]
    generalize x / 256 ^ m % 256 = a
    generalize y / 256 ^ m % 256 = b
    generalize x % 256 ^ m = r at hx
    generalize y % 256 ^ m = s at hy
    generalize 256 ^ m = q at hx hy hp
    constructor
    · rintro (h | ⟨rfl, h⟩)
      · have : q * (a + 1) ≤ q * b := Nat.mul_le_mul_left q (by omega)
        rw [Nat.mul_add, Nat.mul_one] at this
        omega
      · omega
    · intro h
      rcases Nat.lt_trichotomy a b with h1 | h1 | h1
      · exact .inl h1
      · subst h1; exact .inr ⟨rfl, by omega⟩
      · have : q * (b + 1) ≤ q * a := Nat.mul_le_mul_left q (by omega)
        rw [Nat.mul_add, Nat.mul_one] at this
        omega
theorem be_inj {m x y : Nat} (hx : x < 256 ^ m) (hy : y < 256 ^ m) (h : be m x = be m y) : x = y := by
  have h1 := less_be m x y
  have h2 := less_be m y x
  rw [h, less_be, Nat.mod_eq_of_lt hy] at h1
  rw [← h, less_be, Nat.mod_eq_of_lt hx] at h2
  rw [Nat.mod_eq_of_lt hx] at h1
  rw [Nat.mod_eq_of_lt hy] at h2
  simp at h1 h2
  omega
theorem num_be (m x : Nat) : num (be m x) = x % 256 ^ m := by
  have key : ∀ m a, (be m x).foldl (fun n u => n * 256 + u.toNat) a = a * 256 ^ m + x % 256 ^ m := by
    intro m
    induction m with
    | zero => intro a; simp [be, Nat.mod_one]
    | succ m ih =>
      intro a
      show (be m x).foldl _ (a * 256 + (UInt8.ofNat (x / 256 ^ m)).toNat) = _
      rw [ih, mod_step]
      have : (UInt8.ofNat (x / 256 ^ m)).toNat = x / 256 ^ m % 256 := by simp
      rw [this, Nat.pow_succ, Nat.add_mul, Nat.mul_comm (x / 256 ^ m % 256), Nat.mul_assoc, Nat.mul_comm 256]
      omega
  have := key m 0
  simpa [num] using this
theorem be_cons_mod (m x y : Nat) (h : x % 256 ^ m = y % 256 ^ m) : be m x = be m y := by
  induction m generalizing x y with
  | zero => rfl
  | succ m ih =>
    rw [mod_step x, mod_step y] at h
    have hp : 0 < 256 ^ m := Nat.pow_pos (by decide)
    have hx := Nat.mod_lt x hp
    have hy := Nat.mod_lt y hp
    have h1 : x % 256 ^ m = y % 256 ^ m := by
      have := congrArg (· % 256 ^ m) h
      simpa [Nat.add_mul_mod_self_left, Nat.mod_mod] using this
    have h2 : x / 256 ^ m % 256 = y / 256 ^ m % 256 := by
      rw [h1] at h
      exact Nat.eq_of_mul_eq_mul_left hp (by omega)
    show UInt8.ofNat (x / 256 ^ m) :: be m x = UInt8.ofNat (y / 256 ^ m) :: be m y
    rw [ih x y h1]
    congr 1
    apply UInt8.toNat_inj.1
    simpa using h2
theorem num_cons (u : UInt8) (l : List UInt8) : num (u :: l) = u.toNat * 256 ^ l.length + num l := by
  have key : ∀ (l : List UInt8) (a : Nat), l.foldl (fun n u => n * 256 + u.toNat) a = a * 256 ^ l.length + num l := by
    intro l
    induction l with
    | nil => intro a; simp [num]
    | cons v l ih =>
      intro a
      have e : num (v :: l) = l.foldl (fun n u => n * 256 + u.toNat) (0 * 256 + v.toNat) := rfl
      rw [List.foldl_cons, ih, e, ih, List.length_cons, Nat.pow_succ, Nat.add_mul, Nat.zero_mul, Nat.zero_add, Nat.mul_assoc, Nat.mul_comm 256, Nat.add_assoc]
  have := key l (0 * 256 + u.toNat)
  have e : num (u :: l) = l.foldl (fun n u => n * 256 + u.toNat) (0 * 256 + u.toNat) := rfl
  rw [e, this, Nat.zero_mul, Nat.zero_add]
theorem num_lt' (l : List UInt8) : num l < 256 ^ l.length := by
  induction l with
  | nil => simp [num]
  | cons u l ih =>
    rw [num_cons, List.length_cons, Nat.pow_succ]
    have := u.toNat_lt
    have h3 : u.toNat * 256 ^ l.length ≤ 255 * 256 ^ l.length := Nat.mul_le_mul_right _ (by omega)
    omega
theorem be_num (l : List UInt8) : be l.length (num l) = l := by
  induction l with
  | nil => rfl
  | cons u l ih =>
    have hlt := num_lt' l
    have hp : 0 < 256 ^ l.length := Nat.pow_pos (by decide)
    show UInt8.ofNat (num (u :: l) / 256 ^ l.length) :: be l.length (num (u :: l)) = _
    have h1 : num (u :: l) / 256 ^ l.length = u.toNat := by
      rw [num_cons, Nat.add_comm, Nat.add_mul_div_right _ _ hp, Nat.div_eq_of_lt hlt, Nat.zero_add]
    have h2 : be l.length (num (u :: l)) = be l.length (num l) := be_cons_mod _ _ _ (by rw [num_cons, Nat.add_comm, Nat.add_mul_mod_self_right])
    rw [h1, h2, ih, UInt8.ofNat_toNat]
end Go.Sh
end
section
/- What a row's arguments are, type by type; and the order of bytes. -/
set_option linter.unusedVariables false
set_option linter.unusedSimpArgs false
namespace Go.Sh
open Go Go.RowKit Go.ChangeShapes Go.WideShapes Go.ChangeAt
section
variable {P : Program} {H : Type} {enc : TypeId × Value → H} {W : World} {base : Nat} {v : Value} {d : DataW H} {p : List MemPlace} {t : TypeId}
theorem arg_u64 (ht : P.underlying t = some (.int .u64)) (ok : Value.okWide P W .any base t v) (h : DataW.Trod enc P W 0 (fun _ => true) true t v d p) : ∃ n : Nat, v = .int .u64 (n : Int) ∧ n < 18446744073709551616 := by
  obtain ⟨n, rfl, _, _, hw⟩ := open_int ht ok h
  simp [Lit.wf, IntKind.min, IntKind.max, IntKind.signed, IntKind.bits] at hw
  exact ⟨n.toNat, by rw [Int.toNat_of_nonneg hw.1], by omega⟩
theorem arg_u32 (ht : P.underlying t = some (.int .u32)) (ok : Value.okWide P W .any base t v) (h : DataW.Trod enc P W 0 (fun _ => true) true t v d p) : ∃ n : Nat, v = .int .u32 (n : Int) ∧ n < 4294967296 := by
  obtain ⟨n, rfl, _, _, hw⟩ := open_int ht ok h
  simp [Lit.wf, IntKind.min, IntKind.max, IntKind.signed, IntKind.bits] at hw
  exact ⟨n.toNat, by rw [Int.toNat_of_nonneg hw.1], by omega⟩
theorem arg_w32 (ht : P.underlying t = some (.int .u32)) (ok : Value.okWide P W .any base t v) (h : DataW.Trod enc P W 0 (fun _ => true) true t v d p) : ∃ c : BitVec 32, v = .int .u32 ((c.toNat : Nat) : Int) := by
  obtain ⟨n, rfl, hn⟩ := arg_u32 ht ok h
  exact ⟨BitVec.ofNat 32 n, by rw [BitVec.toNat_ofNat, Nat.mod_eq_of_lt hn]⟩
theorem arg_u16 (ht : P.underlying t = some (.int .u16)) (ok : Value.okWide P W .any base t v) (h : DataW.Trod enc P W 0 (fun _ => true) true t v d p) : ∃ n : Nat, v = .int .u16 (n : Int) ∧ n < 65536 := by
  obtain ⟨n, rfl, _, _, hw⟩ := open_int ht ok h
  simp [Lit.wf, IntKind.min, IntKind.max, IntKind.signed, IntKind.bits] at hw
  exact ⟨n.toNat, by rw [Int.toNat_of_nonneg hw.1], by omega⟩
theorem arg_u8 (ht : P.underlying t = some (.int .u8)) (ok : Value.okWide P W .any base t v) (h : DataW.Trod enc P W 0 (fun _ => true) true t v d p) : ∃ n : Nat, v = .int .u8 (n : Int) ∧ n < 256 := by
  obtain ⟨n, rfl, _, _, hw⟩ := open_int ht ok h
  simp [Lit.wf, IntKind.min, IntKind.max, IntKind.signed, IntKind.bits] at hw
  exact ⟨n.toNat, by rw [Int.toNat_of_nonneg hw.1], by omega⟩
theorem arg_i64 (ht : P.underlying t = some (.int .i64)) (ok : Value.okWide P W .any base t v) (h : DataW.Trod enc P W 0 (fun _ => true) true t v d p) : ∃ n : Int, v = .int .i64 n ∧ -9223372036854775808 ≤ n ∧ n ≤ 9223372036854775807 := by
  obtain ⟨n, rfl, _, _, hw⟩ := open_int ht ok h
  simp [Lit.wf, IntKind.min, IntKind.max, IntKind.signed, IntKind.bits] at hw
  exact ⟨n, rfl, by omega, by omega⟩
theorem arg_bool (ht : P.underlying t = some .bool) (ok : Value.okWide P W .any base t v) (h : DataW.Trod enc P W 0 (fun _ => true) true t v d p) : ∃ b : Bool, v = .bool b := by
  obtain ⟨b, rfl, _⟩ := open_bool ht ok h
  exact ⟨b, rfl⟩
theorem arg_bytes {e : TypeId} (ht : P.underlying t = some (.slice e)) (he : P.underlying e = some (.int .u8)) (hc : P.cellsOf e = 1) (ok : Value.okWide P W .any base t v)
    (h : DataW.Trod enc P W 0 (fun _ => true) true t v d p) : ∃ bs, Bts W v bs := by
  have hs : ∃ a n c, v = .slice a n c := by
    obtain ⟨a, n, c, e⟩ := okWide_slice ht ok
    exact ⟨a, n, c, e⟩
  obtain ⟨a, n, c, rfl⟩ := hs
  exact TrC.bytes ht he hc (TrC.of h)
theorem arg_string {ts : List TypeId} {ds : List (DataW H)} {j : Nat} (ht : P.underlying t = some .string) (ok : Value.okWide P W .any base t v) (h : DataW.Trod enc P W 0 (fun _ => true) true t v d p)
    (hsz : (DataW.weightsEach P ts ds).all (· ≤ reachBytes) = true) (hj : ts[j]? = some t) (hd : ds[j]? = some d) : ∃ s : List UInt8, v = .string (str s) ∧ s.length < 140737488355328 := by
  obtain ⟨s, rfl, rfl, _, _⟩ := ChangeMaps.open_string ht ok h
  have h1 := sized_string hsz hj hd
  have h2 := reachBytes_lt
  exact ⟨s.data.toList, by rw [← str_of], by omega⟩
end

end Go.Sh
end
section
/- A slice whose elements are one cell each, as a list. -/
set_option linter.unusedVariables false
set_option linter.unusedSimpArgs false
namespace Go.Sh
open Go Go.RowKit Go.ChangeShapes Go.WideShapes Go.ChangeAt

def Row {α : Type} (f : α → Value) (w : World) (v : Value) (xs : List α) : Prop :=
  ∃ a c, v = .slice a xs.length c ∧ xs.length ≤ c ∧ c ≤ 9223372036854775807 ∧ (0 < xs.length → ∃ ad, a = some ad ∧ ∀ j x, xs[j]? = some x → w.cell? (ad.add j) = some (f x))
theorem Row.ext {α : Type} {f : α → Value} {w w' : World} {v : Value} {xs : List α} (h : Row f w v xs) (k : Ext w w') : Row f w' v xs := by
  obtain ⟨a, c, rfl, h1, h2, h3⟩ := h
  refine ⟨a, c, rfl, h1, h2, fun hn => ?_⟩
  obtain ⟨ad, rfl, hc⟩ := h3 hn
  exact ⟨ad, rfl, fun j x hj => k.cell (fun h => h) (hc j x hj)⟩
theorem Row.slice {α : Type} {f : α → Value} {w : World} {v : Value} {xs : List α} (h : Row f w v xs) : ∃ a c, v = .slice a xs.length c := by
  obtain ⟨a, c, e, _⟩ := h
  exact ⟨a, c, e⟩
section
variable {P : Program} {α : Type} {f : α → Value}
theorem Row.cut {T e : TypeId} (hT : P.underlying T = some (.slice e)) (hi : infoB P e = true) {v : Value} {xs : List α} {w0 : World} (hb : Row f w0 v xs) {kh : IntKind} {hj : Int} (h' : Nat) (e2 : hj = h') (h1 : h' ≤ xs.length) :
    ∃ u, (∀ w, (Instr.sliceAt T v none (some (.int kh hj)) none).run P w = .ok u w) ∧ Row f w0 u (xs.take h') := by
  obtain ⟨a, c, rfl, h2, h3, h4⟩ := hb
  refine ⟨_, fun w => sl_hi hT hi h' e2 (by omega) w, ?_⟩
  have hl : (xs.take h').length = h' := by simp; omega
  refine ⟨a, c, by rw [hl], by omega, h3, fun hn => ?_⟩
  obtain ⟨ad, rfl, hc⟩ := h4 (by omega)
  refine ⟨ad, rfl, fun j x hj => hc j x ?_⟩
  rw [List.getElem?_take] at hj
  split at hj
  · exact hj
  · cases hj
theorem Row.at {T e : TypeId} (hT : P.underlying T = some (.slice e)) (hi : infoB P e = true) (hs : szT P e = 1) {v : Value} {xs : List α} {w0 : World} (hb : Row f w0 v xs) {k : IntKind} {ii : Int} (i : Nat) (e1 : ii = i) (h : i < xs.length) :
    ∃ a, (∀ w, (Instr.indexAt T v (.int k ii)).run P w = .ok (.pointer (some a)) w) ∧ w0.cell? a = some (f xs[i]) := by
  obtain ⟨a, c, rfl, h3, h4, h5⟩ := hb
  obtain ⟨ad, rfl, hc⟩ := h5 (by omega)
  refine ⟨_, fun w => ix hT hi i e1 h w, ?_⟩
  rw [hs, Nat.mul_one]
  exact hc i _ (List.getElem?_eq_getElem h)
theorem TrC.row {H : Type} {enc : TypeId × Value → H} {W : World} {t e : TypeId} {v : Value} {Good : α → Prop} (ht : P.underlying t = some (.slice e)) (hc : P.cellsOf e = 1)
    (he : ∀ es, TrC enc P W e es → ∃ x, es = [f x] ∧ Good x) (h : TrC enc P W t [v]) : ∃ xs, Row f W v xs ∧ ∀ x ∈ xs, Good x := by
  rcases h.slice ht with hv | ⟨a, len, cap, hv, h1, h2, h3⟩
  · injection hv with hv
    subst hv
    exact ⟨[], ⟨none, 0, rfl, Nat.le_refl _, by omega, fun h => absurd h (by simp)⟩, by simp⟩
  · injection hv with hv
    subst hv
    have key : ∀ i, i < len → ∃ x, W.cell? (a.add i) = some (f x) ∧ Good x := by
      intro i hi
      obtain ⟨es, h4, h5⟩ := h3 i hi
      rw [hc, Nat.mul_one] at h4
      obtain ⟨c, rfl, hcell⟩ := cells_one h4
      obtain ⟨x, hx, hg⟩ := he _ h5
      injection hx with hx
      exact ⟨x, by rw [hcell, hx], hg⟩
    have all : ∀ n, n ≤ len → ∃ xs : List α, xs.length = n ∧ (∀ j x, xs[j]? = some x → W.cell? (a.add j) = some (f x)) ∧ ∀ x ∈ xs, Good x := by
      intro n
      induction n with
      | zero => intro _; exact ⟨[], rfl, by simp, by simp⟩
      | succ n ih =>
        intro hn
        obtain ⟨xs, hl, hb, hg⟩ := ih (by omega)
        obtain ⟨x, hx, hgx⟩ := key n (by omega)
        refine ⟨xs ++ [x], by simp [hl], fun j y hj => ?_, ?_⟩
        · by_cases hjn : j < xs.length
          · exact hb j y (by rwa [List.getElem?_append_left hjn] at hj)
          · have hlt := (List.getElem?_eq_some_iff.1 hj).1
            simp at hlt
            have : j = xs.length := by omega
            subst this
            simp at hj
            subst hj
            rw [hl]; exact hx
        · intro y hy
          rcases List.mem_append.1 hy with hy | hy
          · exact hg y hy
          · simp at hy; subst hy; exact hgx
    obtain ⟨xs, hl, hb, hg⟩ := all len (Nat.le_refl _)
    exact ⟨xs, ⟨some a, cap, by rw [hl], by omega, h2, fun _ => ⟨a, rfl, hb⟩⟩, hg⟩
variable {H : Type} {enc : TypeId × Value → H} {W : World} {base : Nat} {v : Value} {d : DataW H} {p : List MemPlace} {t : TypeId}
/-- A row of numbers of 64 bits. -/
def fU64 (n : Nat) : Value := .int .u64 (n : Int)
theorem arg_u64s {e : TypeId} (ht : P.underlying t = some (.slice e)) (he : P.underlying e = some (.int .u64)) (hc : P.cellsOf e = 1) (ok : Value.okWide P W .any base t v)
    (h : DataW.Trod enc P W 0 (fun _ => true) true t v d p) : ∃ xs : List Nat, Row fU64 W v xs ∧ ∀ x ∈ xs, x < 18446744073709551616 := by
  obtain ⟨a, n, c, rfl⟩ := okWide_slice ht ok
  refine TrC.row ht hc (fun es hes => ?_) (TrC.of h)
  obtain ⟨n, rfl, hw⟩ := hes.int he
  simp [Lit.wf, IntKind.min, IntKind.max, IntKind.signed, IntKind.bits] at hw
  exact ⟨n.toNat, by unfold fU64; rw [Int.toNat_of_nonneg hw.1], by omega⟩
/-- A row of texts. -/
def fStr (s : List UInt8) : Value := .string (str s)
theorem arg_strs {e : TypeId} (ht : P.underlying t = some (.slice e)) (he : P.underlying e = some .string) (hc : P.cellsOf e = 1) (ok : Value.okWide P W .any base t v)
    (h : DataW.Trod enc P W 0 (fun _ => true) true t v d p) : ∃ xs : List (List UInt8), Row fStr W v xs ∧ ∀ x ∈ xs, x.length ≤ 9223372036854775807 := by
  obtain ⟨a, n, c, rfl⟩ := okWide_slice ht ok
  refine TrC.row ht hc (fun es hes => ?_) (TrC.of h)
  obtain ⟨s, rfl, hs⟩ := hes.string he
  exact ⟨s.data.toList, by unfold fStr; rw [← str_of], by rw [show s.data.toList.length = s.size from rfl]; exact hs⟩
end
end Go.Sh
end
section
/- A slice whose elements are any number of cells, as a list. -/
set_option linter.unusedVariables false
set_option linter.unusedSimpArgs false
namespace Go.Sh
open Go Go.RowKit Go.ChangeShapes Go.WideShapes Go.ChangeAt
def RowK {α : Type} (k : Nat) (f : α → List Value) (w : World) (v : Value) (xs : List α) : Prop :=
  ∃ a c, v = .slice a xs.length c ∧ xs.length ≤ c ∧ c ≤ 9223372036854775807 ∧ (0 < xs.length → ∃ ad, a = some ad ∧ ∀ j x, xs[j]? = some x → ∀ i u, (f x)[i]? = some u → w.cell? ((ad.add (j * k)).add i) = some u)
theorem RowK.slice {α : Type} {k : Nat} {f : α → List Value} {w : World} {v : Value} {xs : List α} (h : RowK k f w v xs) : ∃ a c, v = .slice a xs.length c := by
  obtain ⟨a, c, e, _⟩ := h
  exact ⟨a, c, e⟩
theorem add_block (ad : Addr) (j : Nat) : (ad.add j).block = ad.block := by unfold Addr.add; split <;> rfl
theorem RowK.keep {α : Type} {n : Nat} {f : α → List Value} {w w' : World} {v : Value} {xs : List α} {D : Nat → Prop} (h : RowK n f w v xs) (k : Keep D w w') (hd : 0 < xs.length → ∀ b, v.ownBlock = some b → ¬ D b) : RowK n f w' v xs := by
  obtain ⟨a, c, rfl, h1, h2, h3⟩ := h
  refine ⟨a, c, rfl, h1, h2, fun hn => ?_⟩
  obtain ⟨ad, rfl, hc⟩ := h3 hn
  refine ⟨ad, rfl, fun j x hj i u hu => k.cell ?_ (hc j x hj i u hu)⟩
  rw [add_block, add_block]
  exact hd hn _ rfl
theorem RowK.ext {α : Type} {n : Nat} {f : α → List Value} {w w' : World} {v : Value} {xs : List α} (h : RowK n f w v xs) (k : Ext w w') : RowK n f w' v xs := h.keep k (fun _ _ _ h => h)
section
variable {P : Program} {α : Type} {k : Nat} {f : α → List Value}
theorem RowK.cut {T e : TypeId} (hT : P.underlying T = some (.slice e)) (hi : infoB P e = true) {v : Value} {xs : List α} {w0 : World} (hb : RowK k f w0 v xs) {kh : IntKind} {hj : Int} (h' : Nat) (e2 : hj = h') (h1 : h' ≤ xs.length) :
    ∃ u, (∀ w, (Instr.sliceAt T v none (some (.int kh hj)) none).run P w = .ok u w) ∧ RowK k f w0 u (xs.take h') := by
  obtain ⟨a, c, rfl, h2, h3, h4⟩ := hb
  refine ⟨_, fun w => sl_hi hT hi h' e2 (by omega) w, ?_⟩
  have hl : (xs.take h').length = h' := by simp; omega
  refine ⟨a, c, by rw [hl], by omega, h3, fun hn => ?_⟩
  obtain ⟨ad, rfl, hc⟩ := h4 (by omega)
  refine ⟨ad, rfl, fun j x hj => hc j x ?_⟩
  rw [List.getElem?_take] at hj
  split at hj
  · exact hj
  · cases hj
theorem RowK.at {T e : TypeId} (hT : P.underlying T = some (.slice e)) (hi : infoB P e = true) (hs : szT P e = k) {v : Value} {xs : List α} {w0 : World} (hb : RowK k f w0 v xs) {kd : IntKind} {ii : Int} (i : Nat) (e1 : ii = i) (h : i < xs.length) :
    ∃ a, (∀ w, (Instr.indexAt T v (.int kd ii)).run P w = .ok (.pointer (some a)) w) ∧ (∀ j u, (f xs[i])[j]? = some u → w0.cell? (a.add j) = some u) := by
  obtain ⟨a, c, rfl, h3, h4, h5⟩ := hb
  obtain ⟨ad, rfl, hc⟩ := h5 (by omega)
  refine ⟨_, fun w => ix hT hi i e1 h w, ?_⟩
  rw [hs]
  exact fun j u hu => hc i _ (List.getElem?_eq_getElem h) j u hu
/-- A struct is read, wherever it lies. -/
theorem load_cells {t : TypeId} {d : TypeDesc} (hu : P.underlying t = some d) (ha : aggB P t = true) (hi : infoB P t = true) {a : Addr} {l : List Value} {w : World} (hn : l.length = szT P t)
    (hc : ∀ j u, l[j]? = some u → w.cell? (a.add j) = some u) : (Instr.loadAt t (.pointer (some a))).run P w = .ok (.agg l.toArray) w := by
  have hload : (loadCells a l.length).run P w = .ok l.toArray w := run_loadCells_list w _ l hc
  rw [hn] at hload
  simp [Instr.loadAt, Instr.sureAddr, loadVar, isAgg_run' hu ha, sizeOf_run hi, hload]
theorem mapM_get {β γ : Type} (g : β → Option γ) : ∀ (l : List β) (es : List γ), l.mapM g = some es → ∀ (i : Nat) (u : γ), es[i]? = some u → ∃ x, l[i]? = some x ∧ g x = some u
  | [], es, h, i, u, hu => by
    simp at h
    subst h
    cases hu
  | x :: l, es, h, i, u, hu => by
    rw [List.mapM_cons] at h
    cases hx : g x with
    | none => rw [hx] at h; simp at h
    | some y =>
      cases hl : l.mapM g with
      | none => rw [hx, hl] at h; simp at h
      | some ys =>
        rw [hx, hl] at h
        simp at h
        subst h
        cases i with
        | zero => exact ⟨x, rfl, by simpa [hx] using hu⟩
        | succ i => exact mapM_get g l ys hl i u hu
theorem cells_all {W : World} {a : Addr} {n : Nat} {es : List Value} (h : W.cells? 0 a n = some es) : ∀ i u, es[i]? = some u → W.cell? (a.add i) = some u := by
  unfold World.cells? at h
  simp only [Nat.zero_le, if_true] at h
  intro i u hu
  obtain ⟨x, hx, hg⟩ := mapM_get _ _ _ h i u hu
  have hx' := List.getElem?_eq_some_iff.1 hx
  obtain ⟨hi, hx'⟩ := hx'
  rw [List.getElem_range] at hx'
  subst hx'
  exact hg
theorem TrC.rowK {H : Type} {enc : TypeId × Value → H} {W : World} {t e : TypeId} {v : Value} {Good : α → Prop} (ht : P.underlying t = some (.slice e)) (hc : P.cellsOf e = k)
    (he : ∀ es, TrC enc P W e es → ∃ x, es = f x ∧ Good x) (h : TrC enc P W t [v]) : ∃ xs, RowK k f W v xs ∧ ∀ x ∈ xs, Good x := by
  rcases h.slice ht with hv | ⟨a, len, cap, hv, h1, h2, h3⟩
  · injection hv with hv
    subst hv
    exact ⟨[], ⟨none, 0, rfl, Nat.le_refl _, by omega, fun h => absurd h (by simp)⟩, by simp⟩
  · injection hv with hv
    subst hv
    have key : ∀ i, i < len → ∃ x, (∀ j u, (f x)[j]? = some u → W.cell? ((a.add (i * k)).add j) = some u) ∧ Good x := by
      intro i hi
      obtain ⟨es, h4, h5⟩ := h3 i hi
      rw [hc] at h4
      obtain ⟨x, hx, hg⟩ := he _ h5
      subst hx
      exact ⟨x, cells_all h4, hg⟩
    have all : ∀ n, n ≤ len → ∃ xs : List α, xs.length = n ∧ (∀ j x, xs[j]? = some x → ∀ i u, (f x)[i]? = some u → W.cell? ((a.add (j * k)).add i) = some u) ∧ ∀ x ∈ xs, Good x := by
      intro n
      induction n with
      | zero => intro _; exact ⟨[], rfl, by simp, by simp⟩
      | succ n ih =>
        intro hn
        obtain ⟨xs, hl, hb, hg⟩ := ih (by omega)
        obtain ⟨x, hx, hgx⟩ := key n (by omega)
        refine ⟨xs ++ [x], by simp [hl], fun j y hj => ?_, ?_⟩
        · by_cases hjn : j < xs.length
          · exact hb j y (by rwa [List.getElem?_append_left hjn] at hj)
          · have hlt := (List.getElem?_eq_some_iff.1 hj).1
            simp at hlt
            have : j = xs.length := by omega
            subst this
            simp at hj
            subst hj
            rw [hl]; exact hx
        · intro y hy
          rcases List.mem_append.1 hy with hy | hy
          · exact hg y hy
          · simp at hy; subst hy; exact hgx
    obtain ⟨xs, hl, hb, hg⟩ := all len (Nat.le_refl _)
    exact ⟨xs, ⟨some a, cap, by rw [hl], by omega, h2, fun _ => ⟨a, rfl, hb⟩⟩, hg⟩
end
/-- Bytes, told as a row. -/
theorem bts_of_row {w : World} {v : Value} {bs : List UInt8} (h : Row (fun u : UInt8 => .int .u8 ((u.toNat : Nat) : Int)) w v bs) : Bts w v bs := h
theorem Bts.blk_lt {w : World} {v : Value} {bs : List UInt8} (h : Bts w v bs) (h0 : 0 < bs.length) : ∀ k, v.ownBlock = some k → k < w.heap.size := by
  obtain ⟨a, c, rfl, h1, h2, h3⟩ := h
  obtain ⟨ad, rfl, hc⟩ := h3 h0
  intro k hk
  have := World.block_lt_of_cell? w _ (hc 0 _ (List.getElem?_eq_getElem h0))
  rw [add_block] at this
  injection hk with hk
  omega
theorem Row.blk_lt {α : Type} {f : α → Value} {w : World} {v : Value} {xs : List α} (h : Row f w v xs) (h0 : 0 < xs.length) : ∀ k, v.ownBlock = some k → k < w.heap.size := by
  obtain ⟨a, c, rfl, h1, h2, h3⟩ := h
  obtain ⟨ad, rfl, hc⟩ := h3 h0
  intro k hk
  have := World.block_lt_of_cell? w _ (hc 0 _ (List.getElem?_eq_getElem h0))
  rw [add_block] at this
  injection hk with hk
  omega
theorem RowK.blk_lt {α : Type} {n : Nat} {f : α → List Value} {w : World} {v : Value} {xs : List α} (h : RowK n f w v xs) (h0 : 0 < xs.length) (hf : ∀ x ∈ xs, 0 < (f x).length) : ∀ k, v.ownBlock = some k → k < w.heap.size := by
  obtain ⟨a, c, rfl, h1, h2, h3⟩ := h
  obtain ⟨ad, rfl, hc⟩ := h3 h0
  intro k hk
  have := World.block_lt_of_cell? w _ (hc 0 _ (List.getElem?_eq_getElem h0) 0 _ (List.getElem?_eq_getElem (hf _ (List.getElem_mem h0))))
  rw [add_block, add_block] at this
  injection hk with hk
  omega
end Go.Sh
end
section
/- The shallow reading is sound: what it asks of a function's code gives a contract of the function. -/
set_option linter.unusedSimpArgs false
namespace Go.Sh
open Go

def envOf (a : Act) : Env := fun t => a.tmps.getD t undef

theorem ev_envOf (a : Act) (x : Operand) : ev (envOf a) x = a.eval x := by cases x <;> rfl
theorem ev_envOf' (a : Act) : ev (envOf a) = a.eval := funext (ev_envOf a)

theorem envOf_put (a : Act) (d : Option Nat) (v : Value) (h : ∀ t, d = some t → t < a.tmps.size) : envOf (a.put d v) = updO (envOf a) d v := by
  cases d with
  | none => rfl
  | some d =>
    have hd := h d rfl
    funext t
    by_cases e : t = d
    · subst e; simp [envOf, Act.put, updO, upd, hd]
    · simp [envOf, Act.put, updO, upd, e, Array.getElem?_setIfInBounds_ne (Ne.symm e)]

theorem put_size (a : Act) (d : Option Nat) (v : Value) : (a.put d v).tmps.size = a.tmps.size := by cases d <;> simp [Act.put]
theorem put_defers (a : Act) (d : Option Nat) (v : Value) : (a.put d v).defers = a.defers := by cases d <;> rfl

theorem map_list {α β : Type} (xs : Array α) (f : α → β) : (xs.toList.map f).toArray = xs.map f := by
  apply Array.ext'
  simp

theorem upon_value {P : Program} {o : Oper} {a : Act} {w : World} {next : Act → World → Prop} {Q : Exit → Act → World → Prop} {s : Sem Value} {K : Value → World → Prop}
    (he : execOp a.eval o = (do pure (.value (← s)))) (h : X P s w K) (hk : ∀ v w', K v w' → next (a.put o.dst v) w') : o.wp P a w next Q := by
  obtain ⟨v, w', hr, hK⟩ := X_iff.1 h
  unfold Oper.wp
  rw [he]
  simp only [Sem.run_bind, hr, Result.andThen_ok, Sem.run_pure, Oper.upon]
  exact hk _ _ hK

theorem upon_unit {P : Program} {o : Oper} {a : Act} {w : World} {next : Act → World → Prop} {Q : Exit → Act → World → Prop} {s : Sem Unit} {K : World → Prop}
    (he : execOp a.eval o = (do s; pure .skip)) (h : XU P s w K) (hk : ∀ w', K w' → next (a.put o.dst undef) w') : o.wp P a w next Q := by
  obtain ⟨w', hr, hK⟩ := XU_iff.1 h
  unfold Oper.wp
  rw [he]
  simp only [Sem.run_bind, hr, Result.andThen_ok, Sem.run_pure, Oper.upon]
  exact hk _ hK

theorem X_of_no {P : Program} {s : Sem Value} {K : Value → World → Prop} {w : World} {why : String} (e : s = stuck why) (h : X P s w K) : False := by
  obtain ⟨v, w', hr, _⟩ := X_iff.1 h
  subst e
  simp [stuck] at hr

theorem enter_of_callFunc {P : Program} {f : FuncId} {args : Array Value} {w : World} (h : callOk P f = true) : (callFunc f args).run P w = .ok (.enter f args) w := by
  unfold callOk at h
  cases hf : P.funcs[f]? with
  | none => simp [hf] at h
  | some fn =>
    simp only [hf, Bool.and_eq_true, Bool.not_eq_true'] at h
    have h1 : ¬ (fn.name == "runtime.NumGoroutine") = true := by rw [h.1]; simp
    have h2 : ¬ fn.body.isNone = true := by cases hb : fn.body <;> simp_all
    unfold callFunc
    simp only [program, Sem.run_bind, Sem.run, Result.andThen_ok, hf]
    rw [if_neg h1, if_neg h2]
    rfl

theorem calls_wp {P : Program} {o : Oper} {a : Act} {w : World} {next : Act → World → Prop} {Q : Exit → Act → World → Prop} {f : FuncId} {args : Array Value} {K : Value → World → Prop}
    (he : (execOp a.eval o).run P w = (callFunc f args).run P w) (h : CALL P f args w K) (hk : ∀ v w', K v w' → next (a.put o.dst v) w') : o.wp P a w next Q := by
  unfold Oper.wp
  rw [he, enter_of_callFunc h.1]
  simp only [Oper.upon]
  refine h.2.mono fun e w' hh => ?_
  cases e with
  | returned v => exact hk _ _ hh
  | panicked c => exact hh.elim
  | outgrown => exact hh.elim

theorem nilS_eq {P : Program} {v : Value} {K : Value → World → Prop} {w : World} (h : X P (nilS v) w K) {a : Act} {o : Oper} {x : Operand} (ho : o.op = .nilCheck x) (hv : a.eval x = v) {next : Act → World → Prop} {Q : Exit → Act → World → Prop}
    (hk : ∀ v w', K v w' → next (a.put o.dst v) w') : o.wp P a w next Q := by
  obtain ⟨u, w', hr, hK⟩ := X_iff.1 h
  unfold Oper.wp execOp
  simp only [ho, hv]
  cases v with
  | pointer p =>
    cases p with
    | none => simp [nilS, runtimePanic, program, Sem.run, goPanic] at hr
    | some p =>
      simp only [nilS, Sem.run_pure, Result.ok.injEq] at hr
      obtain ⟨rfl, rfl⟩ := hr
      exact hk _ _ hK
  | nilIface => simp [nilS, runtimePanic, program, Sem.run, goPanic] at hr
  | nilFunc => simp [nilS, runtimePanic, program, Sem.run, goPanic] at hr
  | func fn first captured =>
    cases fn with
    | method name => simp [nilS, stuck, Sem.run] at hr
    | _ =>
      simp only [nilS, Sem.run_pure, Result.ok.injEq] at hr
      obtain ⟨rfl, rfl⟩ := hr
      exact hk _ _ hK
  | _ =>
    simp only [nilS, Sem.run_pure, Result.ok.injEq] at hr
    obtain ⟨rfl, rfl⟩ := hr
    exact hk _ _ hK

theorem binOpS_run {P : Program} (op : BinOp) (t : TypeId) (x y : Operand) (a b : Value) (w : World) : (binOpS op t x y a b).run P w = (do eqGuard op t x y a b; binOp op t a b : Sem Value).run P w := by
  cases op <;> first | rfl | (simp only [binOpS, eqGuard]; rfl)

theorem resolve_value {P : Program} {ρ : Operand → Value} {c : Call} {t : TypeId} {x : Operand} (hc : c.callee = .value x) {f : FuncId} {first captured : Array Value} (hx : ρ x = .func (.func f) first captured) (w : World) :
    (do let d ← resolve ρ c t; invoke d.target d.args : Sem Next).run P w = (callFunc f (first ++ c.args.map ρ ++ captured)).run P w := by
  simp only [resolve, hc, hx, Deferred.ofValue, Sem.run_bind, Sem.run_pure, Result.andThen_ok, invoke]

theorem resolve_builtin {P : Program} {ρ : Operand → Value} {c : Call} {t : TypeId} {b : Builtin} (hc : c.callee = .builtin b) (w : World) {v : Value} {w' : World}
    (h : (builtinSem b c.argTypes t (c.args.map ρ)).run P w = .ok v w') :
    (do let d ← resolve ρ c t; invoke d.target d.args : Sem Next).run P w = .ok (.value v) w' := by
  simp only [resolve, hc, Sem.run_bind, Sem.run_pure, Result.andThen_ok, invoke, builtin]
  cases b <;> simp only [builtinSem] at h <;> first
    | (simp only [Sem.run_bind, h, Result.andThen_ok, Sem.run_pure]; done)
    | (simp [stuck] at h; done)

theorem stepS_sound {P : Program} {o : Oper} {a : Act} {w : World} {next : Act → World → Prop} {Q : Exit → Act → World → Prop} {K : Value → World → Prop}
    (h : stepS P (envOf a) o w K) (hk : ∀ v w', K v w' → next (a.put o.dst v) w') : o.wp P a w next Q := by
  unfold stepS at h
  rw [ev_envOf'] at h
  have hm : ∀ (xs : Array Operand), (xs.toList.map a.eval).toArray = xs.map a.eval := fun xs => map_list xs _
  have hp : ∀ (ps : Array (Nat × Operand)), (ps.toList.map fun p => (p.1, a.eval p.2)).toArray = ps.map fun (i, x) => (i, a.eval x) := fun ps => map_list ps _
  cases hop : o.op with
  | move x => simp only [hop] at h; exact upon_value (s := pure (a.eval x)) (by unfold execOp; simp only [hop]; rfl) (X_iff.2 ⟨_, _, rfl, h⟩) hk
  | assign x => simp only [hop] at h; exact upon_value (s := pure (a.eval x)) (by unfold execOp; simp only [hop]; rfl) (X_iff.2 ⟨_, _, rfl, h⟩) hk
  | store t x y => simp only [hop] at h; exact upon_unit (by unfold execOp; simp only [hop]) h (fun w' hw => hk _ _ hw)
  | mapUpdate t m k x => simp only [hop] at h; exact upon_unit (by unfold execOp; simp only [hop]) h (fun w' hw => hk _ _ hw)
  | insert t m k x => simp only [hop] at h; exact upon_unit (by unfold execOp; simp only [hop]) h (fun w' hw => hk _ _ hw)
  | call c =>
    simp only [hop] at h
    unfold callS at h
    rw [ev_envOf', hm] at h
    cases hc : c.callee with
    | value x =>
      have key : ∀ f first captured, a.eval x = .func (.func f) first captured → CALL P f (first ++ c.args.map a.eval ++ captured) w K → o.wp P a w next Q := by
        intro f first captured hx hcall
        refine calls_wp ?_ hcall hk
        unfold execOp
        simp only [hop]
        exact resolve_value hc hx w
      cases x with
      | func f =>
        simp only [hc] at h
        exact key f #[] #[] rfl (by simpa using h)
      | tmp t =>
        simp only [hc, closS] at h
        split at h
        · rename_i f first captured hx
          exact key _ _ _ hx h
        · exact h.elim
      | const v =>
        simp only [hc, closS] at h
        split at h
        · rename_i f first captured hx
          exact key _ _ _ hx h
        · exact h.elim
      | global g => simp only [hc, closS, Act.eval] at h
    | invoke r m => simp only [hc] at h
    | builtin b =>
      simp only [hc] at h
      obtain ⟨v, w', hr, hK⟩ := X_iff.1 h
      unfold Oper.wp execOp
      simp only [hop]
      rw [resolve_builtin hc w hr]
      exact hk _ _ hK
  | nilCheck x =>
    simp only [hop, opSem, ev_envOf'] at h
    exact nilS_eq h hop rfl hk
  | pick c x y =>
    simp only [hop, opSem, ev_envOf'] at h
    obtain ⟨v, w', hr, hK⟩ := X_iff.1 h
    unfold Oper.wp execOp
    simp only [hop]
    simp only [pickS, Sem.run_bind] at hr ⊢
    generalize (asBool (a.eval c)).run P w = r at hr ⊢
    cases r with
    | ok b w1 =>
      simp only [Result.andThen_ok, Sem.run_pure, Result.ok.injEq] at hr
      obtain ⟨rfl, rfl⟩ := hr
      exact hk _ _ hK
    | halt x w1 => simp [Result.andThen] at hr
  | binOp op t x y u =>
    simp only [hop, opSem, ev_envOf'] at h
    obtain ⟨v, w', hr, hK⟩ := X_iff.1 h
    rw [binOpS_run] at hr
    exact upon_value (s := do eqGuard op t x y (a.eval x) (a.eval y); binOp op t (a.eval x) (a.eval y)) (by unfold execOp; simp only [hop]) (X_iff.2 ⟨v, w', hr, hK⟩) hk
  | _ =>
    simp only [hop, opSem, ev_envOf', hm, hp] at h
    first
      | exact (X_of_no rfl h).elim
      | exact upon_value (by unfold execOp; simp only [hop]) h hk

theorem yielded_gval {ops : Array Oper} {a : Act} {j : Nat} {b : Bool} : yielded ops a.tmps j = some b ↔ gval ops (envOf a) j = .bool b := by
  unfold yielded gval envOf
  cases hd : (ops[j]?).bind (·.dst) with
  | none => simp [undef]
  | some d =>
    simp only [Option.bind_some]
    cases ht : a.tmps[d]? with
    | none => simp [ht, undef, Array.getD_eq_getD_getElem?]
    | some v => simp only [Array.getD_eq_getD_getElem?, ht, Option.getD_some]; cases v <;> simp

theorem yielded_none {ops : Array Oper} {a : Act} {j : Nat} (h : ∀ b, gval ops (envOf a) j ≠ .bool b) : yielded ops a.tmps j = none := by
  cases hy : yielded ops a.tmps j with
  | none => rfl
  | some b => exact absurd (yielded_gval.1 hy) (h b)

theorem wanted_none {o : Oper} {y : Nat → Option Bool} (h : o.guard = none) : Region.wanted o y = true := by simp [Region.wanted, h]

/-- The guard decides: the step, or nothing. -/
theorem gstep_cases {ops : Array Oper} {a : Act} {o : Oper} {j : Nat} {want : Bool} (hg : o.guard = some (j, want)) {S : World → (Value → World → Prop) → Prop} {K : Value → World → Prop} {w : World}
    (h : gstep (gval ops (envOf a) j) want S w K) : (Region.wanted o (yielded ops a.tmps) = true ∧ S w K) ∨ (Region.wanted o (yielded ops a.tmps) = false ∧ K undef w) := by
  unfold gstep at h
  split at h
  · rename_i b hb
    have hy := yielded_gval.2 hb
    split at h
    · rename_i e; subst e
      exact .inl ⟨by simp [Region.wanted, hg, hy], h⟩
    · rename_i e
      exact .inr ⟨by simp [Region.wanted, hg, hy, e], h⟩
  · rename_i hne
    have hy := yielded_none (ops := ops) (a := a) (j := j) (fun b hb => hne b hb)
    exact .inr ⟨by simp [Region.wanted, hg, hy], h⟩

/-- How a region's post is read off the frame. -/
def liftQ (n : Nat) (Q : Exit → Env → World → Prop) : Exit → Act → World → Prop
  | .panic _, _, _ => False
  | .outgrown, _, _ => False
  | e, a, w => a.tmps.size = n ∧ a.defers = [] ∧ Q e (envOf a) w

theorem opsS_sound {P : Program} {n : Nat} {ops : Array Oper} {Q : Exit → Env → World → Prop} : ∀ (l : List Oper) (a : Act) (w : World), (∀ o ∈ l, dstOk n o = true) → a.tmps.size = n → a.defers = [] →
    opsS P ops (Q .normal) l (envOf a) w → wpList P ops (liftQ n Q) l a w := by
  intro l
  induction l with
  | nil => intro a w _ hn hd h; exact ⟨hn, hd, h⟩
  | cons o rest ih =>
    intro a w hl hn hd h
    have hdst : ∀ t, o.dst = some t → t < a.tmps.size := by
      intro t ht
      have := hl o (by simp)
      simp only [dstOk, ht, decide_eq_true_eq] at this
      exact hn ▸ this
    have next : ∀ v w', opsS P ops (Q .normal) rest (updO (envOf a) o.dst v) w' → wpList P ops (liftQ n Q) rest (a.put o.dst v) w' := by
      intro v w' hh
      refine ih _ _ (fun o ho => hl o (by simp [ho])) (by rw [put_size]; exact hn) (by rw [put_defers]; exact hd) ?_
      rw [envOf_put a o.dst v hdst]
      exact hh
    unfold opsS stepG at h
    unfold wpList
    cases hg : o.guard with
    | none =>
      simp only [hg] at h
      rw [if_pos (wanted_none hg)]
      exact .inl (stepS_sound h next)
    | some jw =>
      obtain ⟨j, want⟩ := jw
      simp only [hg] at h
      rcases gstep_cases hg h with ⟨hw, hs⟩ | ⟨hw, hs⟩
      · rw [if_pos hw]; exact .inl (stepS_sound hs next)
      · rw [if_neg (by simp [hw])]; exact next _ _ hs

/-! ### The order is open -/

def wpAnyR (P : Program) (ops : Array Oper) (Q : Exit → Act → World → Prop) (R : World → World → Prop) : Nat → Array Bool → Act → World → Prop
  | 0, listed, a, w => Region.ready .any ops listed = [] ∧ Q .normal a w
  | fuel + 1, listed, a, w =>
    (Region.ready .any ops listed = [] → Q .normal a w) ∧
    ∀ i ∈ Region.ready .any ops listed, wpOp P ops Q i (fun a' w' => (chkB ops listed i = true → R w w') ∧ wpAnyR P ops Q R fuel (listed.setIfInBounds i true) a' w') a w

section
variable {P : Program} {ops : Array Oper} {Q : Exit → Act → World → Prop} {R : World → World → Prop}

theorem wpAny_of_R : ∀ (fuel : Nat) (listed : Array Bool) (a : Act) (w : World), wpAnyR P ops Q R fuel listed a w → wpAny P .any ops Q fuel listed a w
  | 0, _, _, _, h => h
  | fuel + 1, _, _, _, h => ⟨h.1, fun i hi => wpOp_mono (fun a' w' h' => wpAny_of_R fuel _ a' w' h'.2) (h.2 i hi)⟩

theorem chkB_mono {listed : Array Bool} {i j : Nat} (h : chkB ops listed j = true) : chkB ops (listed.setIfInBounds i true) j = true := by
  unfold chkB at *
  cases hj : ops[j]? with
  | none => simp [hj] at h
  | some oj =>
    simp only [hj, List.any_eq_true, List.mem_range, Bool.and_eq_true] at h ⊢
    obtain ⟨k, hk, ⟨h1, h2⟩, h3⟩ := h
    exact ⟨k, hk, ⟨getD_set_true h1, h2⟩, h3⟩

theorem chkB_reader {listed : Array Bool} {i j : Nat} {oj : Oper} (hj : ops[j]? = some oj) (hi : readsB ops i = true) (hlt : i < listed.size) (hno : ∀ e ∈ oj.after, Region.binds .any e = true → e.on ≠ i) :
    chkB ops (listed.setIfInBounds i true) j = true := by
  unfold chkB
  simp only [hj, List.any_eq_true, List.mem_range, Bool.and_eq_true]
  have hio : i < ops.size := by
    unfold readsB at hi
    cases h : ops[i]? with
    | none => simp [h] at hi
    | some o => exact (Array.getElem?_eq_some_iff.1 h).1
  refine ⟨i, hio, ⟨by simp [hlt], hi⟩, ?_⟩
  unfold waitsB
  simp only [Bool.not_eq_true', Bool.eq_false_iff, ne_eq, Array.any_eq_true', Bool.and_eq_true, beq_iff_eq, not_exists, not_and]
  exact fun e he hb => hno e he hb

theorem lt_of_ready {i : Nat} {listed : Array Bool} (h : i ∈ Region.ready .any ops listed) : i < listed.size := by
  have h0 := (mem_ready.1 h).1
  rcases Nat.lt_or_ge i listed.size with h' | h'
  · exact h'
  · simp [Array.getElem?_eq_none h'] at h0

theorem yieldsIf_weaken {S S' : World → Prop} {o : Oper} {v : Value} {a : Act} (hs : ∀ w, S' w → S w) (h : YieldsIf P ops S o v a) : YieldsIf P ops S' o v a :=
  h.imp (fun ⟨a, b⟩ => ⟨a, fun w hw => b w (hs w hw)⟩) id

/-- One that may come up may be taken: it looks at memory. -/
theorem takeR {i : Nat} {oi : Oper} {v : Value} (fr : Frame? R) (hi : ops[i]? = some oi) (hsel : ∀ (j : Nat) (o : Oper) cs b, ops[j]? = some o → o.op ≠ .select cs b)
    (hQ : ∀ c a w, Q (.panic c) (a.put oi.dst v) w → Q (.panic c) a w) (hrd : readsB ops i = true) :
    ∀ (fuel : Nat) (listed : Array Bool) (a : Act) (w : World),
      (∀ j oj, ops[j]? = some oj → j ≠ i → listed.getD j true = false → (∀ e ∈ oj.after, Region.binds .any e = true → e.on ≠ i) → oi.apart ops oj = true) →
      i ∈ Region.ready .any ops listed → YieldsIf P ops (R w) oi v a →
      wpAnyR P ops Q R fuel (listed.setIfInBounds i true) (a.put oi.dst v) w → wpAnyR P ops Q R (fuel + 1) listed a w := by
  intro fuel
  induction fuel with
  | zero =>
    intro listed a w _ hr hy H
    refine ⟨fun h => (by rw [h] at hr; cases hr), fun j hj => ?_⟩
    by_cases hji : j = i
    · subst hji; exact hy.wpOp hi (fr.refl w) ⟨fun _ => fr.refl w, H⟩
    · have := ready_mono hj hji
      rw [H.1] at this
      cases this
  | succ fuel ih =>
    intro listed a w hfree hr hy H
    refine ⟨fun h => (by rw [h] at hr; cases hr), fun j hj => ?_⟩
    by_cases hji : j = i
    · subst hji; exact hy.wpOp hi (fr.refl w) ⟨fun _ => fr.refl w, H⟩
    · have h1 := H.2 j (ready_mono hj hji)
      obtain ⟨hjun, oj, hoj, hall⟩ := mem_ready.1 hj
      have hnot : ∀ e ∈ oj.after, Region.binds .any e = true → e.on ≠ i := fun e he hb heq => by
        have h1 := hall e he hb
        have h0 := (mem_ready.1 hr).1
        rw [heq] at h1
        rcases Nat.lt_or_ge i listed.size with h' | h'
        · simp [h'] at h0 h1; rw [h0] at h1; cases h1
        · simp [Array.getElem?_eq_none h'] at h1
      have h2 := wpOp_putIf hoj (hfree j oj hoj hji hjun hnot) (fun cs b => hsel i oi cs b hi) (fun cs b => hsel j oj cs b hoj) hQ hy h1
      have hfree' : ∀ k ok, ops[k]? = some ok → k ≠ i → (listed.setIfInBounds j true).getD k true = false →
          (∀ e ∈ ok.after, Region.binds .any e = true → e.on ≠ i) → oi.apart ops ok = true := fun k ok hk hki hun hno => by
        refine hfree k ok hk hki ?_ hno
        by_cases hjk : j = k
        · subst hjk; exact hjun
        · rw [getD_set_ne true hjk] at hun; exact hun
      have hchk := chkB_reader (listed := listed) hoj hrd (lt_of_ready hr) hnot
      refine wpOp_mono (fun a' w' h3 => ⟨fun _ => h3.2.1 hchk, ih (listed.setIfInBounds j true) a' w' hfree' (ready_mono hr (Ne.symm hji))
        (yieldsIf_weaken (fun w2 hw2 => fr.trans _ _ _ (h3.2.1 hchk) hw2) h3.1) ?_⟩) h2
      rw [Array.setIfInBounds_comm _ _ hji]
      exact h3.2.2

/-- One that may come up may be taken: it looks at no memory. -/
theorem takeP {i : Nat} {oi : Oper} {v : Value} (fr : Frame? R) (hi : ops[i]? = some oi) (hsel : ∀ (j : Nat) (o : Oper) cs b, ops[j]? = some o → o.op ≠ .select cs b)
    (hQ : ∀ c a w, Q (.panic c) (a.put oi.dst v) w → Q (.panic c) a w) :
    ∀ (fuel : Nat) (listed : Array Bool) (a : Act) (w : World),
      (∀ j oj, ops[j]? = some oj → j ≠ i → listed.getD j true = false → (∀ e ∈ oj.after, Region.binds .any e = true → e.on ≠ i) → oi.apart ops oj = true) →
      i ∈ Region.ready .any ops listed → Yields P ops oi v a →
      wpAnyR P ops Q R fuel (listed.setIfInBounds i true) (a.put oi.dst v) w → wpAnyR P ops Q R (fuel + 1) listed a w := by
  intro fuel
  induction fuel with
  | zero =>
    intro listed a w _ hr hy H
    refine ⟨fun h => (by rw [h] at hr; cases hr), fun j hj => ?_⟩
    by_cases hji : j = i
    · subst hji; exact hy.wpOp hi ⟨fun _ => fr.refl w, H⟩
    · have := ready_mono hj hji
      rw [H.1] at this
      cases this
  | succ fuel ih =>
    intro listed a w hfree hr hy H
    refine ⟨fun h => (by rw [h] at hr; cases hr), fun j hj => ?_⟩
    by_cases hji : j = i
    · subst hji; exact hy.wpOp hi ⟨fun _ => fr.refl w, H⟩
    · have h1 := H.2 j (ready_mono hj hji)
      obtain ⟨hjun, oj, hoj, hall⟩ := mem_ready.1 hj
      have hnot : ∀ e ∈ oj.after, Region.binds .any e = true → e.on ≠ i := fun e he hb heq => by
        have h1 := hall e he hb
        have h0 := (mem_ready.1 hr).1
        rw [heq] at h1
        rcases Nat.lt_or_ge i listed.size with h' | h'
        · simp [h'] at h0 h1; rw [h0] at h1; cases h1
        · simp [Array.getElem?_eq_none h'] at h1
      have h2 := wpOp_put hoj (hfree j oj hoj hji hjun hnot) (fun cs b => hsel i oi cs b hi) (fun cs b => hsel j oj cs b hoj) hQ hy h1
      have hfree' : ∀ k ok, ops[k]? = some ok → k ≠ i → (listed.setIfInBounds j true).getD k true = false →
          (∀ e ∈ ok.after, Region.binds .any e = true → e.on ≠ i) → oi.apart ops ok = true := fun k ok hk hki hun hno => by
        refine hfree k ok hk hki ?_ hno
        by_cases hjk : j = k
        · subst hjk; exact hjun
        · rw [getD_set_ne true hjk] at hun; exact hun
      refine wpOp_mono (fun a' w' h3 => ⟨fun hc => h3.2.1 (chkB_mono hc), ih (listed.setIfInBounds j true) a' w' hfree' (ready_mono hr (Ne.symm hji)) h3.1 ?_⟩) h2
      rw [Array.setIfInBounds_comm _ _ hji]
      exact h3.2.2
end

theorem semOf_run {P : Program} {a : Act} {o : Oper} {w w' : World} {v : Value} (hk : kindOf o ≠ 2) (h : (semOf (envOf a) o).run P w = .ok v w') : (execOp a.eval o).run P w = .ok (.value v) w' := by
  -- one that is carried out as a step is carried out so
  have key : ∀ (K : Value → World → Prop), X P (semOf (envOf a) o) w K → stepS P (envOf a) o w K := by
    intro K hX
    unfold stepS
    unfold semOf at hX
    cases hop : o.op with
    | move x => simp only [hop, opSem] at hX ⊢; obtain ⟨v, w', hr, hK⟩ := X_iff.1 hX; simp only [Sem.run_pure, Result.ok.injEq] at hr; obtain ⟨rfl, rfl⟩ := hr; exact hK
    | assign x => simp only [hop, opSem] at hX ⊢; obtain ⟨v, w', hr, hK⟩ := X_iff.1 hX; simp only [Sem.run_pure, Result.ok.injEq] at hr; obtain ⟨rfl, rfl⟩ := hr; exact hK
    | store t x y => simp [kindOf, hop] at hk
    | mapUpdate t m k x => simp [kindOf, hop] at hk
    | insert t m k x => simp [kindOf, hop] at hk
    | call c =>
      obtain ⟨callee, args, ts⟩ := c
      cases callee with
      | value x => simp [kindOf, hop] at hk
      | invoke r m => simp [kindOf, hop] at hk
      | builtin b => simp only [hop] at hX ⊢; exact hX
    | _ => simp only [hop] at hX ⊢; exact hX
  have h1 : stepS P (envOf a) o w (fun u w2 => u = v ∧ w2 = w') := key _ (X_iff.2 ⟨v, w', h, rfl, rfl⟩)
  -- a step with no effect beyond its value
  by_cases hc : ∃ c, o.op = .call c
  · obtain ⟨c, hop⟩ := hc
    obtain ⟨callee, args, ts⟩ := c
    cases callee with
    | value x => simp [kindOf, hop] at hk
    | invoke r m => simp [kindOf, hop] at hk
    | builtin b =>
      unfold execOp
      simp only [hop]
      refine resolve_builtin rfl w ?_
      rw [← map_list]
      simpa only [semOf, hop, ev_envOf'] using h
  · have hq : o.wp P a w (fun a' w2 => True) (fun _ _ _ => False) := stepS_sound h1 (fun _ _ _ => trivial)
    clear hq
    have hp : ∀ (ps : Array (Nat × Operand)), (ps.toList.map fun p => (p.1, a.eval p.2)).toArray = ps.map fun (i, x) => (i, a.eval x) := fun ps => map_list ps _
    cases hop : o.op with
    | call c => exact absurd ⟨c, hop⟩ hc
    | binOp op t x y u =>
      simp only [semOf, hop, opSem, ev_envOf'] at h
      rw [binOpS_run] at h
      unfold execOp
      simp only [hop]
      rw [Sem.run_bind, h]
      rfl
    | nilCheck x =>
      simp only [semOf, hop, opSem, ev_envOf'] at h
      unfold execOp
      simp only [hop]
      cases hv : a.eval x with
      | pointer p =>
        cases p with
        | none => simp [hv, nilS, runtimePanic, program, Sem.run, goPanic] at h
        | some p => simpa [hv, nilS] using h
      | nilIface => simp [hv, nilS, runtimePanic, program, Sem.run, goPanic] at h
      | nilFunc => simp [hv, nilS, runtimePanic, program, Sem.run, goPanic] at h
      | func fn first captured =>
        cases fn with
        | method name => simp [hv, nilS, stuck] at h
        | _ => simpa [hv, nilS] using h
      | _ => simpa [hv, nilS] using h
    | _ =>
      simp only [semOf, hop, opSem, ev_envOf', map_list, hp] at h
      first
        | (simp [kindOf, hop] at hk; done)
        | (simp [stuck] at h; done)
        | (unfold execOp
           simp only [hop]
           first
             | (simp only [Sem.run_bind, h, Result.andThen_ok, Sem.run_pure]; done)
             | (simp only [Sem.run_pure, Result.ok.injEq] at h ⊢; obtain ⟨rfl, rfl⟩ := h; exact ⟨rfl, rfl⟩)
             | (simp only [pickS, binOpG, Sem.run_bind] at h ⊢; generalize hr : Sem.run P _ w = r at h ⊢; cases r <;> simp_all [Result.andThen])
             | skip)

/-! ### The region whose order is open, as a whole -/

theorem takeS_yields {P : Program} {R : World → World → Prop} {a : Act} {o : Oper} {w : World} {K : Value → World → Prop} (hk : kindOf o ≠ 2) (h : takeS P R (envOf a) o w K) :
    ∃ v, K v w ∧ ((∀ w', (execOp a.eval o).run P w' = .ok (.value v) w') ∨ (kindOf o = 1 ∧ ∀ w', R w w' → (execOp a.eval o).run P w' = .ok (.value v) w')) := by
  have step : ∀ {K : Value → World → Prop}, (match kindOf o with | 0 => XP P (semOf (envOf a) o) w K | _ => XR P R (semOf (envOf a) o) w K) →
      ∃ v, K v w ∧ ((∀ w', (execOp a.eval o).run P w' = .ok (.value v) w') ∨ (kindOf o = 1 ∧ ∀ w', R w w' → (execOp a.eval o).run P w' = .ok (.value v) w')) := by
    intro K h
    by_cases h0 : kindOf o = 0
    · simp only [h0] at h
      obtain ⟨v, hv, hK⟩ := XP_iff.1 h
      exact ⟨v, hK, .inl fun w' => semOf_run hk (hv w')⟩
    · have h1 : kindOf o = 1 := by
        have : kindOf o = 0 ∨ kindOf o = 1 ∨ kindOf o = 2 := by
          unfold kindOf
          repeat' split
          all_goals simp
        omega
      simp only [h1] at h
      obtain ⟨v, hv, hK⟩ := XR_imp h
      exact ⟨v, hK, .inr ⟨h1, fun w' hw => semOf_run hk (hv w' hw)⟩⟩
  unfold takeS at h
  cases hop : o.op with
  | move x =>
    simp only [hop] at h
    refine ⟨_, h, .inl fun w' => ?_⟩
    unfold execOp
    simp only [hop, Sem.run_pure, ev_envOf]
  | assign x =>
    simp only [hop] at h
    refine ⟨_, h, .inl fun w' => ?_⟩
    unfold execOp
    simp only [hop, Sem.run_pure, ev_envOf]
  | _ => simp only [hop] at h; exact step h

def leftOf (l : Array Bool) : Nat := l.toList.countP (fun b => !b)
theorem countP_set_true : ∀ (l : List Bool) (i : Nat), l[i]? = some false → (l.set i true).countP (fun b => !b) + 1 = l.countP (fun b => !b)
  | [], i, h => by simp at h
  | b :: l, 0, h => by
    simp at h
    subst h
    simp
  | b :: l, i + 1, h => by
    have := countP_set_true l i (by simpa using h)
    simp only [List.set_cons_succ, List.countP_cons]
    omega
theorem leftOf_set {l : Array Bool} {i : Nat} (hlt : i < l.size) (h : l.getD i true = false) : leftOf (l.setIfInBounds i true) + 1 = leftOf l := by
  unfold leftOf
  have e : (l.setIfInBounds i true).toList = l.toList.set i true := by simp
  rw [e]
  refine countP_set_true _ _ ?_
  rw [Array.getElem?_toList]
  simpa [Array.getD_eq_getD_getElem?, Array.getElem?_eq_getElem hlt] using h
theorem leftOf_zero {l : Array Bool} (h : leftOf l = 0) (j : Nat) : l.getD j true = true := by
  unfold leftOf at h
  rw [List.countP_eq_zero] at h
  rw [Array.getD_eq_getD_getElem?]
  cases hj : l[j]? with
  | none => rfl
  | some b =>
    have := h b (by rw [← Array.getElem?_toList] at hj; exact List.mem_of_getElem? hj)
    simpa using this

theorem anyS_sound {P : Program} {R : World → World → Prop} (fr : Frame? R) {n : Nat} {ops : Array Oper} {Q : Exit → Env → World → Prop} (hops : ops.all (dstOk n) = true) (hsel : noSel ops = true) :
    ∀ (fuel : Nat) (listed : Array Bool) (a : Act) (w : World), a.tmps.size = n → a.defers = [] → (fuel = 0 → Region.ready .any ops listed = []) → listed.size = ops.size →
      leftOf listed ≤ fuel →
      anyS P R ops (Q .normal) fuel listed (envOf a) w → wpAnyR P ops (liftQ n Q) R fuel listed a w := by
  intro fuel
  induction fuel with
  | zero =>
    intro listed a w hn hd h0 _ _ h
    exact ⟨h0 rfl, hn, hd, h⟩
  | succ fuel ih =>
    intro listed a w hn hd _ hls hcount h
    have hQ : ∀ (o : Oper) (v : Value) (c : List PanicEntry) (a : Act) (w : World), liftQ n Q (.panic c) (a.put o.dst v) w → liftQ n Q (.panic c) a w := fun _ _ _ _ _ h => h.elim
    -- one more is laid: fewer are left
    have hless : ∀ i, i ∈ Region.ready .any ops listed → leftOf (listed.setIfInBounds i true) ≤ fuel := by
      intro i hi
      have := leftOf_set (lt_of_ready hi) (mem_ready.1 hi).1
      omega
    have hend : ∀ i, i ∈ Region.ready .any ops listed → (fuel = 0 → Region.ready .any ops (listed.setIfInBounds i true) = []) := by
      intro i hi h0
      have hc := hless i hi
      cases hr : Region.ready .any ops (listed.setIfInBounds i true) with
      | nil => rfl
      | cons j l =>
        have hj : j ∈ Region.ready .any ops (listed.setIfInBounds i true) := by rw [hr]; simp
        have h1 := (mem_ready.1 hj).1
        rw [leftOf_zero (by omega)] at h1
        cases h1
    have hdst : ∀ (i : Nat) (o : Oper), ops[i]? = some o → ∀ t, o.dst = some t → t < a.tmps.size := by
      intro i o ho t ht
      have := Array.all_eq_true_iff_forall_mem.1 hops o (Array.mem_of_getElem? ho)
      simp only [dstOk, ht, decide_eq_true_eq] at this
      exact hn ▸ this
    have next : ∀ (i : Nat) (o : Oper) (v : Value) (w' : World), i ∈ Region.ready .any ops listed → ops[i]? = some o →
        anyS P R ops (Q .normal) fuel (listed.setIfInBounds i true) (updO (envOf a) (ops.getD i default).dst v) w' → wpAnyR P ops (liftQ n Q) R fuel (listed.setIfInBounds i true) (a.put o.dst v) w' := by
      intro i o v w' hi ho hh
      have e : ops.getD i default = o := by simp [Array.getD_eq_getD_getElem?, ho]
      rw [e, ← envOf_put a o.dst v (hdst i o ho)] at hh
      exact ih _ _ _ (by rw [put_size]; exact hn) (by rw [put_defers]; exact hd) (hend i hi) (by simpa using hls) (hless i hi) hh
    unfold anyS at h
    cases hrd : Region.ready .any ops listed with
    | nil =>
      simp only [hrd] at h
      refine ⟨fun _ => ⟨hn, hd, h⟩, fun i hi => ?_⟩
      rw [hrd] at hi
      cases hi
    | cons i0 l =>
      simp only [hrd] at h
      cases hf : (i0 :: l).find? (canTake ops listed) with
      | some i =>
        simp only [hf] at h
        have hi : i ∈ Region.ready .any ops listed := by rw [hrd]; exact List.mem_of_find?_eq_some hf
        have hcan : canTake ops listed i = true := List.find?_some hf
        obtain ⟨_, o, ho, _⟩ := mem_ready.1 hi
        simp only [canTake, ho, Bool.and_eq_true, bne_iff_ne, ne_eq] at hcan
        obtain ⟨hk, hfree⟩ := hcan
        have e : ops.getD i default = o := by simp [Array.getD_eq_getD_getElem?, ho]
        -- the value that it yields
        have hy : ∃ v : Value, anyS P R ops (Q .normal) fuel (listed.setIfInBounds i true) (updO (envOf a) (ops.getD i default).dst v) w ∧ (Yields P ops o v a ∨ (kindOf o = 1 ∧ YieldsIf P ops (R w) o v a)) := by
          have fromS : ∀ {K : Value → World → Prop}, takeS P R (envOf a) o w K → Region.wanted o (yielded ops a.tmps) = true → ∃ v, K v w ∧ (Yields P ops o v a ∨ (kindOf o = 1 ∧ YieldsIf P ops (R w) o v a)) := by
            intro K hs hw
            obtain ⟨v, hK, hv⟩ := takeS_yields hk hs
            rcases hv with hv | ⟨h1, hv⟩
            · exact ⟨v, hK, .inl (.inl ⟨hw, hv⟩)⟩
            · exact ⟨v, hK, .inr ⟨h1, .inl ⟨hw, hv⟩⟩⟩
          unfold takeG at h
          rw [e] at h ⊢
          cases hg : o.guard with
          | none =>
            simp only [hg] at h
            exact fromS h (wanted_none hg)
          | some jw =>
            obtain ⟨j, want⟩ := jw
            simp only [hg] at h
            rcases gstep_cases hg h with ⟨hw, hs⟩ | ⟨hw, hs⟩
            · exact fromS hs hw
            · exact ⟨undef, hs, .inl (.inr ⟨hw, rfl⟩)⟩
        obtain ⟨v, hK, hy⟩ := hy
        have hn2 := next i o v w hi ho hK
        rcases hy with hy | ⟨h1, hy⟩
        · exact takeP fr ho (Region.noSelect_spec hsel) (hQ o v) fuel listed a w (Region.free_spec ho hfree) hi hy hn2
        · exact takeR fr ho (Region.noSelect_spec hsel) (hQ o v) (by simp [readsB, ho, h1]) fuel listed a w (Region.free_spec ho hfree) hi hy hn2
      | none =>
        simp only [hf] at h
        refine ⟨fun h0 => (by rw [hrd] at h0; cases h0), fun i hi => ?_⟩
        have hall : ∀ (l : List Nat) (f : Nat → Prop), allL f l → ∀ i ∈ l, f i := by
          intro l
          induction l with
          | nil => intro f _ i hi; cases hi
          | cons x l ihl =>
            intro f hl i hi
            cases l with
            | nil => rcases List.mem_cons.1 hi with rfl | hi <;> first | exact hl | cases hi
            | cons y l =>
              rcases List.mem_cons.1 hi with rfl | hi
              · exact hl.1
              · exact ihl f hl.2 i hi
        have hs := hall _ _ h i (by rw [← hrd]; exact hi)
        obtain ⟨_, o, ho, _⟩ := mem_ready.1 hi
        have e : ops.getD i default = o := by simp [Array.getD_eq_getD_getElem?, ho]
        have split : ∀ v w', andIf (chkB ops listed i) (R w w') (anyS P R ops (Q .normal) fuel (listed.setIfInBounds i true) (updO (envOf a) (ops.getD i default).dst v) w') →
            (chkB ops listed i = true → R w w') ∧ wpAnyR P ops (liftQ n Q) R fuel (listed.setIfInBounds i true) (a.put o.dst v) w' := by
          intro v w' hh
          unfold andIf at hh
          split at hh
          · exact ⟨fun _ => hh.1, next i o v w' hi ho hh.2⟩
          · rename_i hc
            exact ⟨fun h' => (by rw [hc] at h'; cases h'), next i o v w' hi ho hh⟩
        unfold wpOp
        simp only [ho]
        unfold stepG at hs
        simp only [e] at hs split
        cases hg : o.guard with
        | none =>
          simp only [hg] at hs
          rw [if_pos (wanted_none hg)]
          exact .inl (stepS_sound hs split)
        | some jw =>
          obtain ⟨j, want⟩ := jw
          simp only [hg] at hs
          rcases gstep_cases hg hs with ⟨hw, hs⟩ | ⟨hw, hs⟩
          · rw [if_pos hw]; exact .inl (stepS_sound hs split)
          · rw [if_neg (by simp [hw])]; exact split _ _ hs

theorem drawS_sound {P : Program} (hm : P.follows .mixedOrders = true) {n id : Nat} {ops : Array Oper} {Q : Exit → Env → World → Prop} (hops : ops.all (dstOk n) = true) (hsel : noSel ops = true) {a : Act} {w : World}
    (hn : a.tmps.size = n) (hd : a.defers = []) (h : drawS P ops (Q .normal) (envOf a) w) : (Code.region id ops true).wp P (liftQ n Q) a w := by
  obtain ⟨R, fr, h⟩ := h
  refine wp_region_any hm (wpAny_of_R (R := R) _ _ _ _ (anyS_sound fr hops hsel _ _ _ _ hn hd ?_ (by simp) ?_ h))
  · intro h0
    have : ops = #[] := Array.eq_empty_of_size_eq_zero h0
    subst this
    rfl
  · simp [leftOf, List.countP_replicate]

/-! ### Code -/
theorem lift_then {n : Nat} {K : Env → World → Prop} {Q : Exit → Env → World → Prop} {e : Exit} {a : Act} {w : World} (h : liftQ n (thenS K Q) e a w) :
    Exit.then (fun a w => a.tmps.size = n ∧ a.defers = [] ∧ K (envOf a) w) (liftQ n Q) e a w := by
  cases e <;> exact h

theorem lift_block {n id : Nat} {Q : Exit → Env → World → Prop} {e : Exit} {a : Act} {w : World} (h : liftQ n (inBlockS id Q) e a w) : Exit.inBlock id (liftQ n Q) e a w := by
  cases e with
  | exit id' =>
    obtain ⟨h1, h2, h3⟩ := h
    unfold Exit.inBlock
    simp only [inBlockS] at h3 ⊢
    split
    · rename_i e; rw [if_pos e] at h3; exact ⟨h1, h2, h3⟩
    · rename_i e; rw [if_neg e] at h3; exact ⟨h1, h2, h3⟩
  | _ => exact h

theorem sh_sound {P : Program} (hm : P.follows .mixedOrders = true) {n : Nat} : ∀ (c : Code) (Q : Exit → Env → World → Prop) (a : Act) (w : World), codeOk n c = true → a.tmps.size = n → a.defers = [] →
    sh P c Q (envOf a) w → c.wp P (liftQ n Q) a w := by
  intro c
  induction c with
  | skip => intro Q a w _ hn hd h; exact wp_skip ⟨hn, hd, h⟩
  | region id ops draw =>
    intro Q a w hok hn hd h
    simp only [codeOk, Bool.and_eq_true, Bool.or_eq_true, Bool.not_eq_true'] at hok
    cases draw with
    | false =>
      refine wp_region_list (opsS_sound ops.toList a w (fun o ho => ?_) hn hd h)
      exact Array.all_eq_true_iff_forall_mem.1 hok.1 o (by simpa using ho)
    | true => exact drawS_sound hm hok.1 (hok.2.resolve_left (by simp)) hn hd h
  | seq x y ihx ihy =>
    intro Q a w hok hn hd h
    simp only [codeOk, Bool.and_eq_true] at hok
    refine wp_seq (Code.wp_mono (fun e a w hq => ?_) (ihx _ a w hok.1 hn hd h))
    have := lift_then hq
    cases e with
    | normal => exact ihy _ _ _ hok.2 this.1 this.2.1 this.2.2
    | _ => exact this
  | cond c x y ihx ihy =>
    intro Q a w hok hn hd h
    simp only [codeOk, Bool.and_eq_true] at hok
    simp only [sh, condS, ev_envOf] at h
    split at h
    · rename_i hc; exact wp_cond_true hc (ihx _ _ _ hok.1 hn hd h)
    · rename_i hc; exact wp_cond_false hc (ihy _ _ _ hok.2 hn hd h)
    · exact h.elim
  | block id x ih =>
    intro Q a w hok hn hd h
    exact wp_block (Code.wp_mono (fun e a w hq => lift_block hq) (ih _ a w hok hn hd h))
  | loop x ih =>
    intro Q a w hok hn hd h
    obtain ⟨I, μ, h0, hround⟩ := h
    refine wp_loop (fun a w => a.tmps.size = n ∧ a.defers = [] ∧ I (envOf a) w) (fun a w => μ (envOf a) w) ⟨hn, hd, h0⟩ ?_
    intro a w ⟨hn, hd, hI⟩
    refine Code.wp_mono (fun e a w hq => ?_) (ih _ a w hok hn hd (hround _ _ hI))
    have := lift_then hq
    cases e with
    | normal => exact ⟨⟨this.1, this.2.1, this.2.2.1⟩, this.2.2.2⟩
    | _ => exact this
  | exit id => intro Q a w _ hn hd h; exact wp_exit ⟨hn, hd, h⟩
  | ret => intro Q a w _ hn hd h; exact wp_ret ⟨hn, hd, h⟩
  | _ => intro Q a w _ _ _ h; exact h.elim

theorem resS_run {P : Program} {a : Act} {w : World} :
    ∀ (rs : List ResultVar) (K : List Value → Prop), resS P (envOf a) w rs K →
      ∃ vs, K vs ∧ ∀ f : ResultVar → Sem Value, (∀ u, f (.tmp u) = pure (a.tmps.getD u undef)) → (∀ x t, f (.cell x t) = (do loadVar t (← asAddr (a.tmps.getD x undef)))) → (rs.mapM f).run P w = .ok vs w := by
  intro rs
  induction rs with
  | nil => intro K h; exact ⟨[], h, fun f _ _ => by simp⟩
  | cons r rs ih =>
    intro K h
    cases r with
    | tmp t =>
      obtain ⟨vs, hK, hr⟩ := ih _ h
      refine ⟨_, hK, fun f hf hc => ?_⟩
      rw [List.mapM_cons, hf]
      simp only [Sem.run_bind, Sem.run_pure, Result.andThen_ok, hr f hf hc]
      rfl
    | cell x t =>
      obtain ⟨v, w', hv, ew, h⟩ := onR_iff.1 h
      subst ew
      obtain ⟨vs, hK, hr⟩ := ih _ h
      refine ⟨v :: vs, hK, fun f hf hc => ?_⟩
      have hv' : (f (.cell x t)).run P w' = .ok v w' := by rw [hc]; exact hv
      rw [List.mapM_cons]
      simp only [Sem.run_bind, hv', Result.andThen_ok, hr f hf hc, Sem.run_pure]

theorem oneS_cases {K : Value → Prop} {vs : List Value} (h : oneS K vs) : K (if h : vs.toArray.size = 1 then vs.toArray[0]'(by omega) else .tuple vs.toArray) := by
  match vs, h with
  | [], h => exact h
  | [v], h => exact h
  | v :: u :: vs, h => rw [dif_neg (by simp)]; exact h

theorem retS_post {P : Program} {n : Nat} {fn : Func} {K : Value → World → Prop} {e : Exit} {a : Act} {w : World} (h : liftQ n (retS P fn.results K) e a w) :
    bodyPost P fn (fun | .returned v, w' => K v w' | _, _ => False) e a w := by
  have main : a.defers = [] → resS P (envOf a) w fn.results.toList (oneS fun v => K v w) → a.defers = [] ∧ ∃ v, (results fn a.tmps).run P w = .ok v w ∧ K v w := by
    intro hd h
    refine ⟨hd, ?_⟩
    unfold results
    rw [Array.mapM_eq_mapM_toList]
    simp only [Sem.run_bind, Sem.run_map]
    obtain ⟨vs, hK, hr⟩ := resS_run (P := P) (a := a) (w := w) _ _ h
    rw [hr]
    · exact ⟨_, rfl, oneS_cases hK⟩
    · intro u; rfl
    · intro x t; rfl
  cases e with
  | normal => exact main h.2.1 h.2.2
  | ret => exact main h.2.1 h.2.2
  | panic c => exact h.elim
  | outgrown => exact h.elim
  | exit id => exact h.2.2.elim
  | goto l => exact h.2.2.elim

/-- **The contract of a function, off the shallow reading of its code.** -/
theorem call_of_sh {P : Program} (hm : P.follows .mixedOrders = true) {f : FuncId} {fn : Func} {c : Code} {args : Array Value} {K : Value → World → Prop} {w : World}
    (hf : P.funcs[f]? = some fn) (hb : fn.body = some c) (hnm : (fn.name == "runtime.NumGoroutine") = false) (hok : codeOk fn.ntmps c = true) (hargs : args.size ≤ fn.ntmps)
    (h : sh P c (retS P fn.results K) (env0 args) w) : CALL P f args w K := by
  refine ⟨by simp [callOk, hf, hnm, hb], calls_of_wp hf hb ?_⟩
  refine Code.wp_mono (fun e a w hq => retS_post hq) (sh_sound hm (n := fn.ntmps) c _ _ w hok (by simp; omega) rfl ?_)
  have e : envOf { tmps := args ++ Array.replicate (fn.ntmps - args.size) undef, defers := [] } = env0 args := by
    funext t
    unfold envOf env0
    simp only [Array.getD_eq_getD_getElem?]
    by_cases ht : t < args.size
    · simp [Array.getElem?_append_left ht]
    · rw [Array.getElem?_append_right (by omega), Array.getElem?_eq_none (xs := args) (by omega)]
      by_cases h2 : t - args.size < fn.ntmps - args.size
      · simp [h2]
      · rw [Array.getElem?_eq_none (by simp; omega)]
  rw [e]
  exact h

theorem call_of_eq {P : Program} (hm : P.follows .mixedOrders = true) {f : FuncId} {fn : Func} {c : Code} {args : Array Value} {K : Value → World → Prop} {w : World} {B : Prop}
    (hf : P.funcs[f]? = some fn) (hb : fn.body = some c) (hnm : (fn.name == "runtime.NumGoroutine") = false) (hok : codeOk fn.ntmps c = true) (hargs : args.size ≤ fn.ntmps)
    (e : sh P c (retS P fn.results K) (env0 args) w = B) (h : B) : CALL P f args w K := call_of_sh hm hf hb hnm hok hargs (by rw [e]; exact h)

end Go.Sh
end
section
set_option linter.unusedVariables false
namespace Go.Proofs.Ytlnkdphecinnnaa
open Go Go.Sh
attribute [local irreducible] X XU XP XR CALL loopS resC closS
/-- cellarage/codec.Put -/
def B_codec_Put (x0 x1 x2 : Value) (w : World) (K : Value → World → Prop) : Prop :=
  X Try.prog (Builtin.min_ #[3, 3] 3 #[x2, (.int .i64 8)]) w fun v1_10 w1 =>
  X Try.prog (Builtin.max_ #[3, 3] 3 #[(.int .i64 0), v1_10]) w1 fun v2_11 w2 =>
  X Try.prog (Builtin.len_ #[79] 3 #[x0]) w2 fun v3_13 w3 =>
  X Try.prog (Builtin.len_ #[79] 3 #[x0]) w3 fun v4_15 w4 =>
  X Try.prog (binOp .add 3 v4_15 v2_11) w4 fun v5_17 w5 =>
  X Try.prog (Instr.makeSlice 79 v3_13 v5_17) w5 fun v6_18 w6 =>
  X Try.prog (Builtin.copy_ #[79, 79] 3 #[v6_18, x0]) w6 fun v7_21 w7 =>
  X Try.prog (binOp .sub 3 v2_11 (.int .i64 1)) w7 fun v8_23 w8 =>
  X Try.prog (binOp .mul 3 (.int .i64 8) v8_23) w8 fun v9_24 w9 =>
  loopS (fun Q1 ρ1 w10 =>
  X Try.prog (binOp .geq 3 (ρ1 8) (.int .i64 0)) w10 fun v10_26 w11 =>
  condS v10_26 (
  X Try.prog (binOp .shr 30 (ρ1 1) (ρ1 8)) w11 fun v11_32 w12 =>
  X Try.prog (convert 30 5 v11_32) w12 fun v12_33 w13 =>
  X Try.prog (Instr.buildSlice 79 1 #[(0, v12_33)]) w13 fun v13_34 w14 =>
  X Try.prog (Builtin.append_ #[79, 79] 79 #[(ρ1 7), v13_34]) w14 fun v14_35 w15 =>
  X Try.prog (binOp .sub 3 (ρ1 8) (.int .i64 8)) w15 fun v15_28 w16 =>
  Q1 .normal (upds ρ1 [(8, v15_28), (28, v15_28), (27, (ρ1 8)), (7, v14_35), (35, v14_35), (34, v13_34), (33, v12_33), (32, v11_32), (31, (ρ1 8)), (30, (ρ1 1)), (29, (ρ1 7)), (26, v10_26), (25, (ρ1 8))]) w16) (
  Q1 (.exit 0) (upds ρ1 [(26, v10_26), (25, (ρ1 8))]) w11)) (inBlockS 0 (thenS (fun ρ2 w17 =>
  K (ρ2 7) w17) (retS Try.prog (Try.f53).results K))) (upds (env0 #[x0, x1, x2]) [(8, v9_24), (24, v9_24), (23, v8_23), (22, v2_11), (21, v7_21), (20, x0), (19, v6_18), (7, v6_18), (18, v6_18), (17, v5_17), (16, v2_11), (15, v4_15), (14, x0), (13, v3_13), (12, x0), (2, v2_11), (11, v2_11), (10, v1_10), (9, x2), (6, (.slice none 0 0))]) w9

theorem eq_codec_Put (x0 x1 x2 : Value) (w : World) (K : Value → World → Prop) :
    sh Try.prog (Try.f53.body.getD .skip) (retS Try.prog Try.f53.results K) (env0 #[x0, x1, x2]) w = B_codec_Put x0 x1 x2 w K := by kernel_rfl

theorem call_codec_Put (x0 x1 x2 : Value) (w : World) (K : Value → World → Prop) (h : B_codec_Put x0 x1 x2 w K) : CALL Try.prog 53 #[x0, x1, x2] w K :=
  call_of_eq (c := Try.f53.body.getD .skip) mixed Try.func53 (by kernel_rfl) (by kernel_rfl) (by kernel_rfl) (Nat.le_of_ble_eq_true (by kernel_rfl)) (eq_codec_Put x0 x1 x2 w K) h

/-- cellarage/cellarageref01.Put -/
def B_ref01_Put (x0 x1 : Value) (w : World) (K : Value → World → Prop) : Prop :=
  X Try.prog (Builtin.max_ #[3, 3] 3 #[x1, (.int .i64 0)]) w fun v1_10 w1 =>
  X Try.prog (Builtin.min_ #[3, 3] 3 #[v1_10, (.int .i64 8)]) w1 fun v2_11 w2 =>
  X Try.prog (binOp .sub 3 v2_11 (.int .i64 1)) w2 fun v3_12 w3 =>
  loopS (fun Q1 ρ1 w4 =>
  X Try.prog (binOp .geq 3 (ρ1 6) (.int .i64 0)) w4 fun v4_14 w5 =>
  condS v4_14 (
  loopS (fun Q2 ρ2 w6 =>
  X Try.prog (binOp .lss 3 (ρ2 8) (ρ2 6)) w6 fun v5_20 w7 =>
  condS v5_20 (
  X Try.prog (binOp .quo 30 (ρ2 7) (.int .u64 256)) w7 fun v6_24 w8 =>
  X Try.prog (binOp .add 3 (ρ2 8) (.int .i64 1)) w8 fun v7_22 w9 =>
  Q2 .normal (upds ρ2 [(8, v7_22), (22, v7_22), (21, (ρ2 8)), (7, v6_24), (24, v6_24), (23, (ρ2 7)), (20, v5_20), (19, (ρ2 6)), (18, (ρ2 8))]) w9) (
  Q2 (.exit 2) (upds ρ2 [(20, v5_20), (19, (ρ2 6)), (18, (ρ2 8))]) w7)) (inBlockS 2 (thenS (fun ρ3 w10 =>
  X Try.prog (binOp .rem 30 (ρ3 7) (.int .u64 256)) w10 fun v8_27 w11 =>
  X Try.prog (convert 30 5 v8_27) w11 fun v9_28 w12 =>
  X Try.prog (Instr.buildSlice 79 1 #[(0, v9_28)]) w12 fun v10_29 w13 =>
  X Try.prog (Builtin.append_ #[79, 79] 79 #[(ρ3 5), v10_29]) w13 fun v11_30 w14 =>
  X Try.prog (binOp .sub 3 (ρ3 6) (.int .i64 1)) w14 fun v12_16 w15 =>
  Q1 .normal (upds ρ3 [(6, v12_16), (16, v12_16), (15, (ρ3 6)), (5, v11_30), (30, v11_30), (29, v10_29), (28, v9_28), (27, v8_27), (26, (ρ3 7)), (25, (ρ3 5))]) w15) (inBlockS 1 (thenS (fun ρ4 w16 =>
  X Try.prog (binOp .sub 3 (ρ4 6) (.int .i64 1)) w16 fun v13_16 w17 =>
  Q1 .normal (upds ρ4 [(6, v13_16), (16, v13_16), (15, (ρ4 6))]) w17) Q1)))) (upds ρ1 [(8, (.int .i64 0)), (7, (ρ1 0)), (17, (ρ1 0)), (14, v4_14), (13, (ρ1 6))]) w5) (
  Q1 (.exit 0) (upds ρ1 [(14, v4_14), (13, (ρ1 6))]) w5)) (inBlockS 0 (thenS (fun ρ5 w18 =>
  K (ρ5 5) w18) (retS Try.prog (Try.f54).results K))) (upds (env0 #[x0, x1]) [(6, v3_12), (12, v3_12), (11, v2_11), (10, v1_10), (9, x1), (5, (.slice none 0 0)), (4, (.slice none 0 0))]) w3

theorem eq_ref01_Put (x0 x1 : Value) (w : World) (K : Value → World → Prop) :
    sh Try.prog (Try.f54.body.getD .skip) (retS Try.prog Try.f54.results K) (env0 #[x0, x1]) w = B_ref01_Put x0 x1 w K := by kernel_rfl

theorem call_ref01_Put (x0 x1 : Value) (w : World) (K : Value → World → Prop) (h : B_ref01_Put x0 x1 w K) : CALL Try.prog 54 #[x0, x1] w K :=
  call_of_eq (c := Try.f54.body.getD .skip) mixed Try.func54 (by kernel_rfl) (by kernel_rfl) (by kernel_rfl) (Nat.le_of_ble_eq_true (by kernel_rfl)) (eq_ref01_Put x0 x1 w K) h

/-- cellarage/codec.New -/
def B_codec_New (x0 : Value) (w : World) (K : Value → World → Prop) : Prop :=
  X Try.prog (Builtin.append_ #[79, 79] 79 #[(.slice none 0 0), x0]) w fun v1_4 w1 =>
  X Try.prog (Instr.build 112 #[(0, v1_4)]) w1 fun v2_5 w2 =>
  X Try.prog (Instr.box 112 v2_5) w2 fun v3_6 w3 =>
  K v3_6 w3

theorem eq_codec_New (x0 : Value) (w : World) (K : Value → World → Prop) :
    sh Try.prog (Try.f55.body.getD .skip) (retS Try.prog Try.f55.results K) (env0 #[x0]) w = B_codec_New x0 w K := by kernel_rfl

theorem call_codec_New (x0 : Value) (w : World) (K : Value → World → Prop) (h : B_codec_New x0 w K) : CALL Try.prog 55 #[x0] w K :=
  call_of_eq (c := Try.f55.body.getD .skip) mixed Try.func55 (by kernel_rfl) (by kernel_rfl) (by kernel_rfl) (Nat.le_of_ble_eq_true (by kernel_rfl)) (eq_codec_New x0 w K) h

/-- (*cellarage/codec.Reader).Get -/
def B_codec_Reader_Get (x0 x1 : Value) (w : World) (K : Value → World → Prop) : Prop :=
  CALL Try.prog 60 #[x0] w fun v1_8 w1 =>
  X Try.prog (Op.unary .not v1_8) w1 fun v2_9 w2 =>
  condS v2_9 (
  K (.int .u64 0) w2) (
  X Try.prog (binOp .lss 3 x1 (.int .i64 0)) w2 fun v3_12 w3 =>
  gstep v3_12 false (fun w4 K => K x1 w4) w3 fun v4_14 w5 =>
  gstep v3_12 false (fun w6 K => X Try.prog (binOp .gtr 3 v4_14 (.int .i64 8)) w6 K) w5 fun v5_15 w7 =>
  X Try.prog (pickS v3_12 (.bool true) v5_15) w7 fun v6_16 w8 =>
  condS v6_16 (
  X Try.prog (nilS x0) w8 fun v7_18 w9 =>
  X Try.prog (Instr.fieldAt 112 v7_18 1) w9 fun v8_19 w10 =>
  XU Try.prog (Instr.storeAt 25 v8_19 (.int .i64 1)) w10 fun w11 =>
  K (.int .u64 0) w11) (
  X Try.prog (nilS x0) w8 fun v9_23 w12 =>
  X Try.prog (Instr.fieldAt 112 v9_23 0) w12 fun v10_24 w13 =>
  X Try.prog (Instr.loadAt 79 v10_24) w13 fun v11_25 w14 =>
  X Try.prog (Builtin.len_ #[79] 3 #[v11_25]) w14 fun v12_26 w15 =>
  X Try.prog (binOp .gtr 3 x1 v12_26) w15 fun v13_27 w16 =>
  condS v13_27 (
  X Try.prog (nilS x0) w16 fun v14_29 w17 =>
  X Try.prog (Instr.fieldAt 112 v14_29 1) w17 fun v15_30 w18 =>
  XU Try.prog (Instr.storeAt 25 v15_30 (.int .i64 10)) w18 fun w19 =>
  K (.int .u64 0) w19) (
  X Try.prog (nilS x0) w16 fun v16_32 w20 =>
  X Try.prog (Instr.fieldAt 112 v16_32 0) w20 fun v17_33 w21 =>
  X Try.prog (Instr.loadAt 79 v17_33) w21 fun v18_34 w22 =>
  X Try.prog (Instr.sliceAt 79 v18_34 none (some x1) none) w22 fun v19_36 w23 =>
  CALL Try.prog 61 #[v19_36] w23 fun v20_37 w24 =>
  X Try.prog (nilS x0) w24 fun v21_40 w25 =>
  X Try.prog (Instr.fieldAt 112 v21_40 0) w25 fun v22_41 w26 =>
  X Try.prog (Instr.loadAt 79 v22_41) w26 fun v23_42 w27 =>
  X Try.prog (Instr.sliceAt 79 v23_42 (some x1) none none) w27 fun v24_44 w28 =>
  X Try.prog (nilS x0) w28 fun v25_45 w29 =>
  X Try.prog (Instr.fieldAt 112 v25_45 0) w29 fun v26_46 w30 =>
  XU Try.prog (Instr.storeAt 79 v26_46 v24_44) w30 fun w31 =>
  K v20_37 w31)))

theorem eq_codec_Reader_Get (x0 x1 : Value) (w : World) (K : Value → World → Prop) :
    sh Try.prog (Try.f56.body.getD .skip) (retS Try.prog Try.f56.results K) (env0 #[x0, x1]) w = B_codec_Reader_Get x0 x1 w K := by kernel_rfl

theorem call_codec_Reader_Get (x0 x1 : Value) (w : World) (K : Value → World → Prop) (h : B_codec_Reader_Get x0 x1 w K) : CALL Try.prog 56 #[x0, x1] w K :=
  call_of_eq (c := Try.f56.body.getD .skip) mixed Try.func56 (by kernel_rfl) (by kernel_rfl) (by kernel_rfl) (Nat.le_of_ble_eq_true (by kernel_rfl)) (eq_codec_Reader_Get x0 x1 w K) h

/-- (*cellarage/cellarageref01.Reader).Get -/
def B_ref01_Reader_Get (x0 x1 : Value) (w : World) (K : Value → World → Prop) : Prop :=
  X Try.prog (nilS x0) w fun v1_7 w1 =>
  X Try.prog (Instr.fieldAt 108 v1_7 2) w1 fun v2_8 w2 =>
  X Try.prog (Instr.loadAt 25 v2_8) w2 fun v3_9 w3 =>
  X Try.prog (binOpG .neq 25 (.tmp 9) (.const (.int .i64 0)) v3_9 (.int .i64 0)) w3 fun v4_10 w4 =>
  condS v4_10 (
  K (.int .u64 0) w4) (
  X Try.prog (binOp .lss 3 x1 (.int .i64 0)) w4 fun v5_12 w5 =>
  gstep v5_12 false (fun w6 K => K x1 w6) w5 fun v6_14 w7 =>
  gstep v5_12 false (fun w8 K => X Try.prog (binOp .gtr 3 v6_14 (.int .i64 8)) w8 K) w7 fun v7_15 w9 =>
  X Try.prog (pickS v5_12 (.bool true) v7_15) w9 fun v8_16 w10 =>
  condS v8_16 (
  X Try.prog (nilS x0) w10 fun v9_18 w11 =>
  X Try.prog (Instr.fieldAt 108 v9_18 2) w11 fun v10_19 w12 =>
  XU Try.prog (Instr.storeAt 25 v10_19 (.int .i64 1)) w12 fun w13 =>
  K (.int .u64 0) w13) (
  ∃ R, Frame? R ∧
  XP Try.prog (nilS x0) (drewW w10) fun v11_22 w14 =>
  XP Try.prog (Instr.fieldAt 108 v11_22 0) w14 fun v12_23 w15 =>
  XR Try.prog R (Instr.loadAt 79 v12_23) w15 fun v13_24 w16 =>
  XP Try.prog (Builtin.len_ #[79] 3 #[v13_24]) w16 fun v14_25 w17 =>
  XP Try.prog (nilS x0) w17 fun v15_27 w18 =>
  XP Try.prog (Instr.fieldAt 108 v15_27 1) w18 fun v16_28 w19 =>
  XR Try.prog R (Instr.loadAt 3 v16_28) w19 fun v17_29 w20 =>
  XP Try.prog (binOp .sub 3 v14_25 v17_29) w20 fun v18_30 w21 =>
  XP Try.prog (binOp .gtr 3 x1 v18_30) w21 fun v19_31 w22 =>
  condS v19_31 (
  X Try.prog (nilS x0) w22 fun v20_33 w23 =>
  X Try.prog (Instr.fieldAt 108 v20_33 2) w23 fun v21_34 w24 =>
  XU Try.prog (Instr.storeAt 25 v21_34 (.int .i64 10)) w24 fun w25 =>
  K (.int .u64 0) w25) (
  X Try.prog (nilS x0) w22 fun v22_37 w26 =>
  X Try.prog (Instr.fieldAt 108 v22_37 1) w26 fun v23_38 w27 =>
  X Try.prog (Instr.loadAt 3 v23_38) w27 fun v24_39 w28 =>
  CALL Try.prog 62 #[x0, v24_39, x1] w28 fun v25_41 w29 =>
  X Try.prog (nilS x0) w29 fun v26_44 w30 =>
  X Try.prog (Instr.fieldAt 108 v26_44 1) w30 fun v27_45 w31 =>
  X Try.prog (Instr.loadAt 3 v27_45) w31 fun v28_46 w32 =>
  X Try.prog (binOp .add 3 v28_46 x1) w32 fun v29_48 w33 =>
  X Try.prog (nilS x0) w33 fun v30_49 w34 =>
  X Try.prog (Instr.fieldAt 108 v30_49 1) w34 fun v31_50 w35 =>
  XU Try.prog (Instr.storeAt 3 v31_50 v29_48) w35 fun w36 =>
  K v25_41 w36)))

theorem eq_ref01_Reader_Get (x0 x1 : Value) (w : World) (K : Value → World → Prop) :
    sh Try.prog (Try.f57.body.getD .skip) (retS Try.prog Try.f57.results K) (env0 #[x0, x1]) w = B_ref01_Reader_Get x0 x1 w K := by kernel_rfl

theorem call_ref01_Reader_Get (x0 x1 : Value) (w : World) (K : Value → World → Prop) (h : B_ref01_Reader_Get x0 x1 w K) : CALL Try.prog 57 #[x0, x1] w K :=
  call_of_eq (c := Try.f57.body.getD .skip) mixed Try.func57 (by kernel_rfl) (by kernel_rfl) (by kernel_rfl) (Nat.le_of_ble_eq_true (by kernel_rfl)) (eq_ref01_Reader_Get x0 x1 w K) h

/-- (*cellarage/cellarageref01.Reader).End -/
def B_ref01_Reader_End (x0 : Value) (w : World) (K : Value → World → Prop) : Prop :=
  ∃ R, Frame? R ∧
  XP Try.prog (nilS x0) (drewW w) fun v1_4 w1 =>
  XP Try.prog (Instr.fieldAt 108 v1_4 2) w1 fun v2_5 w2 =>
  XR Try.prog R (Instr.loadAt 25 v2_5) w2 fun v3_6 w3 =>
  XP Try.prog (binOpG .eql 25 (.tmp 6) (.const (.int .i64 0)) v3_6 (.int .i64 0)) w3 fun v4_7 w4 =>
  gstep v4_7 true (fun w5 K => K x0 w5) w4 fun v5_9 w6 =>
  gstep v4_7 true (fun w7 K => XP Try.prog (nilS v5_9) w7 K) w6 fun v6_10 w8 =>
  gstep v4_7 true (fun w9 K => XP Try.prog (Instr.fieldAt 108 v6_10 1) w9 K) w8 fun v7_11 w10 =>
  gstep v4_7 true (fun w11 K => XR Try.prog R (Instr.loadAt 3 v7_11) w11 K) w10 fun v8_12 w12 =>
  gstep v4_7 true (fun w13 K => K x0 w13) w12 fun v9_13 w14 =>
  gstep v4_7 true (fun w15 K => XP Try.prog (nilS v9_13) w15 K) w14 fun v10_14 w16 =>
  gstep v4_7 true (fun w17 K => XP Try.prog (Instr.fieldAt 108 v10_14 0) w17 K) w16 fun v11_15 w18 =>
  gstep v4_7 true (fun w19 K => XR Try.prog R (Instr.loadAt 79 v11_15) w19 K) w18 fun v12_16 w20 =>
  gstep v4_7 true (fun w21 K => XP Try.prog (Builtin.len_ #[79] 3 #[v12_16]) w21 K) w20 fun v13_17 w22 =>
  gstep v4_7 true (fun w23 K => XP Try.prog (binOp .lss 3 v8_12 v13_17) w23 K) w22 fun v14_18 w24 =>
  XP Try.prog (pickS v4_7 v14_18 (.bool false)) w24 fun v15_19 w25 =>
  condS v15_19 (
  K (.int .i64 11) w25) (
  X Try.prog (nilS x0) w25 fun v16_21 w26 =>
  X Try.prog (Instr.fieldAt 108 v16_21 2) w26 fun v17_22 w27 =>
  X Try.prog (Instr.loadAt 25 v17_22) w27 fun v18_23 w28 =>
  K v18_23 w28)

theorem eq_ref01_Reader_End (x0 : Value) (w : World) (K : Value → World → Prop) :
    sh Try.prog (Try.f58.body.getD .skip) (retS Try.prog Try.f58.results K) (env0 #[x0]) w = B_ref01_Reader_End x0 w K := by kernel_rfl

theorem call_ref01_Reader_End (x0 : Value) (w : World) (K : Value → World → Prop) (h : B_ref01_Reader_End x0 w K) : CALL Try.prog 58 #[x0] w K :=
  call_of_eq (c := Try.f58.body.getD .skip) mixed Try.func58 (by kernel_rfl) (by kernel_rfl) (by kernel_rfl) (Nat.le_of_ble_eq_true (by kernel_rfl)) (eq_ref01_Reader_End x0 w K) h

/-- (*cellarage/codec.Reader).ready -/
def B_codec_Reader_ready (x0 : Value) (w : World) (K : Value → World → Prop) : Prop :=
  X Try.prog (binOpG .neq 103 (.tmp 3) (.const (.pointer none)) x0 (.pointer none)) w fun v1_4 w1 =>
  gstep v1_4 true (fun w2 K => K x0 w2) w1 fun v2_6 w3 =>
  gstep v1_4 true (fun w4 K => X Try.prog (nilS v2_6) w4 K) w3 fun v3_7 w5 =>
  gstep v1_4 true (fun w6 K => X Try.prog (Instr.fieldAt 112 v3_7 1) w6 K) w5 fun v4_8 w7 =>
  gstep v1_4 true (fun w8 K => X Try.prog (Instr.loadAt 25 v4_8) w8 K) w7 fun v5_9 w9 =>
  gstep v1_4 true (fun w10 K => X Try.prog (binOpG .eql 25 (.tmp 9) (.const (.int .i64 0)) v5_9 (.int .i64 0)) w10 K) w9 fun v6_10 w11 =>
  X Try.prog (pickS v1_4 v6_10 (.bool false)) w11 fun v7_11 w12 =>
  K v7_11 w12

theorem eq_codec_Reader_ready (x0 : Value) (w : World) (K : Value → World → Prop) :
    sh Try.prog (Try.f60.body.getD .skip) (retS Try.prog Try.f60.results K) (env0 #[x0]) w = B_codec_Reader_ready x0 w K := by kernel_rfl

theorem call_codec_Reader_ready (x0 : Value) (w : World) (K : Value → World → Prop) (h : B_codec_Reader_ready x0 w K) : CALL Try.prog 60 #[x0] w K :=
  call_of_eq (c := Try.f60.body.getD .skip) mixed Try.func60 (by kernel_rfl) (by kernel_rfl) (by kernel_rfl) (Nat.le_of_ble_eq_true (by kernel_rfl)) (eq_codec_Reader_ready x0 w K) h

/-- cellarage/codec.number -/
def B_codec_number (x0 : Value) (w : World) (K : Value → World → Prop) : Prop :=
  X Try.prog (Builtin.len_ #[79] 3 #[x0]) w fun v1_7 w1 =>
  loopS (fun Q1 ρ1 w2 =>
  X Try.prog (binOp .lss 3 (ρ1 8) (ρ1 7)) w2 fun v2_9 w3 =>
  condS v2_9 (
  X Try.prog (Instr.indexAt 79 (ρ1 6) (ρ1 8)) w3 fun v3_10 w4 =>
  X Try.prog (Instr.loadAt 5 v3_10) w4 fun v4_11 w5 =>
  X Try.prog (binOp .shl 30 (ρ1 3) (.int .u64 8)) w5 fun v5_13 w6 =>
  X Try.prog (convert 5 30 v4_11) w6 fun v6_15 w7 =>
  X Try.prog (binOp .or 30 v5_13 v6_15) w7 fun v7_16 w8 =>
  X Try.prog (binOp .add 3 (ρ1 8) (.int .i64 1)) w8 fun v8_17 w9 =>
  Q1 .normal (upds ρ1 [(8, v8_17), (17, v8_17), (3, v7_16), (16, v7_16), (15, v6_15), (14, v4_11), (13, v5_13), (12, (ρ1 3)), (5, v4_11), (11, v4_11), (10, v3_10), (9, v2_9)]) w9) (
  Q1 (.exit 0) (upds ρ1 [(9, v2_9)]) w3)) (inBlockS 0 (thenS (fun ρ2 w10 =>
  K (ρ2 3) w10) (retS Try.prog (Try.f61).results K))) (upds (env0 #[x0]) [(8, (.int .i64 0)), (7, v1_7), (6, x0), (3, (.int .u64 0)), (2, (.int .u64 0))]) w1

theorem eq_codec_number (x0 : Value) (w : World) (K : Value → World → Prop) :
    sh Try.prog (Try.f61.body.getD .skip) (retS Try.prog Try.f61.results K) (env0 #[x0]) w = B_codec_number x0 w K := by kernel_rfl

theorem call_codec_number (x0 : Value) (w : World) (K : Value → World → Prop) (h : B_codec_number x0 w K) : CALL Try.prog 61 #[x0] w K :=
  call_of_eq (c := Try.f61.body.getD .skip) mixed Try.func61 (by kernel_rfl) (by kernel_rfl) (by kernel_rfl) (Nat.le_of_ble_eq_true (by kernel_rfl)) (eq_codec_number x0 w K) h

/-- (*cellarage/cellarageref01.Reader).number -/
def B_ref01_Reader_number (x0 x1 x2 : Value) (w : World) (K : Value → World → Prop) : Prop :=
  loopS (fun Q1 ρ1 w1 =>
  X Try.prog (binOp .lss 3 (ρ1 8) (ρ1 2)) w1 fun v1_11 w2 =>
  condS v1_11 (
  X Try.prog (binOp .mul 30 (ρ1 7) (.int .u64 256)) w2 fun v2_15 w3 =>
  X Try.prog (nilS (ρ1 0)) w3 fun v3_17 w4 =>
  X Try.prog (Instr.fieldAt 108 v3_17 0) w4 fun v4_18 w5 =>
  X Try.prog (Instr.loadAt 79 v4_18) w5 fun v5_19 w6 =>
  X Try.prog (binOp .add 3 (ρ1 1) (ρ1 8)) w6 fun v6_22 w7 =>
  X Try.prog (Instr.indexAt 79 v5_19 v6_22) w7 fun v7_23 w8 =>
  X Try.prog (Instr.loadAt 5 v7_23) w8 fun v8_24 w9 =>
  X Try.prog (convert 5 30 v8_24) w9 fun v9_25 w10 =>
  X Try.prog (binOp .add 30 v2_15 v9_25) w10 fun v10_26 w11 =>
  X Try.prog (binOp .add 3 (ρ1 8) (.int .i64 1)) w11 fun v11_13 w12 =>
  Q1 .normal (upds ρ1 [(8, v11_13), (13, v11_13), (12, (ρ1 8)), (7, v10_26), (26, v10_26), (25, v9_25), (24, v8_24), (23, v7_23), (22, v6_22), (21, (ρ1 8)), (20, (ρ1 1)), (19, v5_19), (18, v4_18), (17, v3_17), (16, (ρ1 0)), (15, v2_15), (14, (ρ1 7)), (11, v1_11), (10, (ρ1 2)), (9, (ρ1 8))]) w12) (
  Q1 (.exit 0) (upds ρ1 [(11, v1_11), (10, (ρ1 2)), (9, (ρ1 8))]) w2)) (inBlockS 0 (thenS (fun ρ2 w13 =>
  K (ρ2 7) w13) (retS Try.prog (Try.f62).results K))) (upds (env0 #[x0, x1, x2]) [(8, (.int .i64 0)), (7, (.int .u64 0)), (6, (.int .u64 0))]) w

theorem eq_ref01_Reader_number (x0 x1 x2 : Value) (w : World) (K : Value → World → Prop) :
    sh Try.prog (Try.f62.body.getD .skip) (retS Try.prog Try.f62.results K) (env0 #[x0, x1, x2]) w = B_ref01_Reader_number x0 x1 x2 w K := by kernel_rfl

theorem call_ref01_Reader_number (x0 x1 x2 : Value) (w : World) (K : Value → World → Prop) (h : B_ref01_Reader_number x0 x1 x2 w K) : CALL Try.prog 62 #[x0, x1, x2] w K :=
  call_of_eq (c := Try.f62.body.getD .skip) mixed Try.func62 (by kernel_rfl) (by kernel_rfl) (by kernel_rfl) (Nat.le_of_ble_eq_true (by kernel_rfl)) (eq_ref01_Reader_number x0 x1 x2 w K) h

end Go.Proofs.Ytlnkdphecinnnaa
end
section
set_option linter.unusedVariables false
set_option linter.unusedSimpArgs false
namespace Go.Proofs.Ytlnkdphecinnnaa
open Go Go.Sh Go.RowKit
attribute [local irreducible] X XU XP XR CALL loopS resC closS

theorem w64 {x : Int} (h1 : -9223372036854775808 ≤ x) (h2 : x ≤ 9223372036854775807) : IntKind.i64.wrap x = x := by rw [IntKind.wrap_i64]; omega

theorem add_plain (b o i : Nat) : (⟨b, o, none⟩ : Addr).add i = ⟨b, o + i, none⟩ := by
  unfold Addr.add; split <;> simp_all
theorem next64 {i : Nat} {n : Nat} (h : n < 9223372036854775807) (hi : i ≤ n) : Value.int .i64 (IntKind.i64.wrap ((i : Int) + 1)) = Value.int .i64 ((i + 1 : Nat) : Int) := by
  rw [w64 (by omega) (by omega)]; rfl
theorem shr8 {P : Program} {T : TypeId} {yk : IntKind} (n i : Nat) (hi : i ≤ 7) {s : Int} (e : s = 8 * (i : Int)) (w : World) :
    (binOp .shr T (.int .u64 (n : Int)) (.int yk s)).run P w = .ok (.int .u64 ((n / 256 ^ i : Nat) : Int)) w := by
  subst e
  rw [run_shr _ _ (by omega) w]
  have e1 : min (8 * (i : Int)).toNat IntKind.u64.bits = 8 * i := by
    show min _ 64 = _
    omega
  rw [e1, shr_byte]

theorem Put_spec {b : Value} {bs : List UInt8} {n : Nat} {many : Int} {w : World} {K : Value → World → Prop} (hb : Bts w b bs) (hbs : bs.length ≤ 140737488351232) (hn : n < 18446744073709551616)
    (h : ∀ v w1, Ext w w1 → w1.ownsRow w.heap.size 5 1 v (bs ++ putB n many).length (B8 (bs ++ putB n many)) → K v w1) :
    CALL Try.prog 53 #[b, .int .u64 n, .int .i64 many] w K := by
  obtain ⟨m, hm⟩ : ∃ m : Nat, max 0 (min many 8) = (m : Int) := ⟨clamp8 many, by unfold clamp8; omega⟩
  have hm8 : m ≤ 8 := by omega
  have hput : putB n many = be m n := by unfold putB clamp8; rw [hm]; rfl
  rw [hput] at h
  obtain ⟨a, c, e, h1, h2, h3⟩ := id hb
  subst e
  apply call_codec_Put
  unfold B_codec_Put
  simp only [SS, ST, hm]
  refine X_make Try.underlying79 el_5 bs.length (bs.length + m) rfl (by rw [IntKind.wrap_i64]; omega) (by omega) (by omega) (by omega) ?_
  have hcells : madeCells (Value.int .u8 0).cells ((bs.length + m) * 1) = (List.replicate (bs.length + m) (Value.int .u8 0)).toArray := by
    apply Array.ext'
    rw [Nat.mul_one]
    exact made_one _ _
  rw [hcells]
  have hget := newB_get w (List.replicate (bs.length + m) (Value.int .u8 0)).toArray 5
  have hext := newB_ext w (List.replicate (bs.length + m) (Value.int .u8 0)).toArray 5
  have hsz := newB_size w (List.replicate (bs.length + m) (Value.int .u8 0)).toArray 5
  generalize newB w (List.replicate (bs.length + m) (Value.int .u8 0)).toArray 5 = w1 at hget hext hsz ⊢
  refine X_copy_bts Try.underlying79 (by kernel_rfl) hget (hb.ext hext) (by simp) ?_
  intro w2 hg2 hs2 hk2
  have hrow : w2.ownsRow w.heap.size 5 1 (.slice (some ⟨w.heap.size, 0, none⟩) bs.length (bs.length + m)) bs.length (B8 (bs ++ (be m n).take 0)) := by
    refine ⟨by simp, .inr ⟨w.heap.size, bs.length + m, _, rfl, Nat.le_refl _, hg2, by omega, by simp only [maxLen]; omega, ?_, ?_⟩⟩
    · simp
    · simp
  have hext2 : Ext w w2 := Ext.seq hext hk2 (fun i hi => by omega)
  refine loopS_of (fun ρ wr => ∃ k v, k ≤ m ∧ ρ 1 = .int .u64 n ∧ ρ 7 = v ∧ ρ 8 = .int .i64 (8 * ((m : Int) - 1 - k)) ∧ Ext w wr ∧
      wr.ownsRow w.heap.size 5 1 v (bs.length + k) (B8 (bs ++ (be m n).take k))) (fun ρ wr => match ρ 8 with | .int _ s => (s + 8).toNat | _ => 0) ?_ ?_
  · refine ⟨0, _, by omega, rfl, rfl, ?_, hext2, hrow⟩
    show Value.int .i64 _ = _
    congr 1
    simp only [IntKind.wrap_i64]
    omega
  · rintro ρ wr ⟨k, v, hk, h1', h7, h8, he, ho⟩
    simp only [SS, ST, h1', h7, h8]
    by_cases hkm : k = m
    · subst hkm
      rw [if_neg (by simp; omega)]
      show K (ρ 7) wr
      rw [h7]
      refine h v wr he ?_
      rw [List.take_of_length_le (by simp)] at ho
      simpa using ho
    · rw [if_pos (by simp; omega)]
      obtain ⟨j, hj⟩ : ∃ j, m = k + 1 + j := ⟨m - 1 - k, by omega⟩
      refine X_of (shr8 n j (by omega) (by omega) wr) ?_
      simp only [SS, ST]
      rw [u8_wrap]
      refine X_buildSlice1 Try.underlying79 el_5 rfl ?_
      refine X_append_u8 Try.underlying79 el_5 ho (by omega) he.size ?_
      intro v1 w3 ho3 hk3
      show _ ∧ _
      refine ⟨⟨k + 1, v1, by omega, h1', rfl, ?_, Ext.seq he hk3 ?_, ?_⟩, ?_⟩
      · show Value.int .i64 _ = _
        congr 1
        rw [w64 (by omega) (by omega)]
        omega
      · intro i hi
        exact (ho.lt i hi.symm).1
      · rw [be_take_succ m n k (by omega), ← List.append_assoc]
        have e1 : m - 1 - k = j := by omega
        rw [e1]
        exact ho3
      · show (IntKind.i64.wrap _ + 8).toNat < _
        rw [w64 (by omega) (by omega)]
        omega
end Go.Proofs.Ytlnkdphecinnnaa
end
section
/- cellarage/codec's reader: each function by its contract. -/
set_option linter.unusedVariables false
set_option linter.unusedSimpArgs false
namespace Go.Proofs.Ytlnkdphecinnnaa
open Go Go.Sh Go.RowKit
attribute [local irreducible] X XU XP XR CALL loopS resC closS

/-- A codec reader lies in block b: bs are left, f is its fault; its bytes lie in a block between lo and hi. -/
def Rdr (w : World) (lo hi b : Nat) (bs : List UInt8) (f : Int) : Prop :=
  ∃ v, w.heap[b]? = some (.cells #[v, .int .i64 f] 112 (0, 0)) ∧ Bts w v bs ∧ ∀ k, v.ownBlock = some k → lo ≤ k ∧ k < hi ∧ k ≠ b
theorem Rdr.keep {D : Nat → Prop} {w w' : World} {lo hi b : Nat} {bs : List UInt8} {f : Int} (h : Rdr w lo hi b bs f) (k : Keep D w w') (h1 : ¬ D b) (h2 : ∀ i, lo ≤ i → i < hi → i ≠ b → ¬ D i) : Rdr w' lo hi b bs f := by
  obtain ⟨v, hb, hv, ho⟩ := h
  exact ⟨v, k.get h1 hb, hv.keep k (fun i hi => h2 i (ho i hi).1 (ho i hi).2.1 (ho i hi).2.2), ho⟩
theorem Rdr.ext {w w' : World} {lo hi b : Nat} {bs : List UInt8} {f : Int} (h : Rdr w lo hi b bs f) (k : Ext w w') : Rdr w' lo hi b bs f := h.keep k (fun h => h) (fun _ _ _ _ h => h)
theorem Rdr.lt {w : World} {lo hi b : Nat} {bs : List UInt8} {f : Int} (h : Rdr w lo hi b bs f) : b < w.heap.size := by
  obtain ⟨v, hb, _⟩ := h
  exact lt_of_blk hb

theorem num_append (l : List UInt8) (u : UInt8) : num (l ++ [u]) = num l * 256 + u.toNat := by simp [num]
theorem num_lt (l : List UInt8) : num l < 256 ^ l.length := by
  have : ∀ (l : List UInt8) (a : Nat), l.foldl (fun n u => n * 256 + u.toNat) a < (a + 1) * 256 ^ l.length := by
    intro l
    induction l with
    | nil => intro a; simp
    | cons u l ih =>
      intro a
      have h1 := ih (a * 256 + u.toNat)
      have h2 := u.toNat_lt
      have h3 : (a * 256 + u.toNat + 1) * 256 ^ l.length ≤ ((a + 1) * 256) * 256 ^ l.length := Nat.mul_le_mul_right _ (by omega)
      rw [List.foldl_cons, List.length_cons, Nat.pow_succ, Nat.mul_comm (256 ^ l.length) 256, ← Nat.mul_assoc]
      omega
  simpa [num] using this l 0
theorem take_succ' (l : List UInt8) (i : Nat) (h : i < l.length) : l.take (i + 1) = l.take i ++ [l[i]] := by
  rw [List.take_add_one, List.getElem?_eq_getElem h]; rfl
theorem shl8_or (n : Nat) (u : UInt8) : n * 256 ||| u.toNat = n * 256 + u.toNat := by
  have h := Nat.shiftLeft_add_eq_or_of_lt (i := 8) (b := u.toNat) u.toNat_lt n
  rw [Nat.shiftLeft_eq] at h
  exact h.symm

theorem number_spec {v : Value} {bs : List UInt8} {w : World} {K : Value → World → Prop} (hb : Bts w v bs) (hl : bs.length ≤ 8) (h : K (.int .u64 (num bs : Nat)) w) :
    CALL Try.prog 61 #[v] w K := by
  obtain ⟨a, c, e, h1, h2, h3⟩ := id hb
  subst e
  apply call_codec_number
  unfold B_codec_number
  simp only [SS, ST]
  refine loopS_of (fun ρ wr => ∃ i, i ≤ bs.length ∧ wr = w ∧ ρ 8 = .int .i64 (i : Nat) ∧ ρ 7 = .int .i64 (bs.length : Nat) ∧ ρ 6 = .slice a bs.length c ∧ ρ 3 = .int .u64 (num (bs.take i) : Nat))
    (fun ρ wr => match ρ 8 with | .int _ s => (bs.length - s).toNat | _ => 0) ?_ ?_
  · exact ⟨0, by omega, rfl, rfl, rfl, rfl, rfl⟩
  · rintro ρ wr ⟨i, hi, rfl, h8, h7, h6, h3⟩
    simp only [SS, ST, h8, h7, h6, h3]
    by_cases hin : i = bs.length
    · subst hin
      rw [if_neg (by simp)]
      show K (ρ 3) wr
      rw [h3, List.take_length]
      exact h
    · rw [if_pos (by simp; omega)]
      obtain ⟨ad, hix, hcell, _⟩ := at_bts Try.underlying79 info_5 sz_5 hb (k := .i64) i rfl (by omega)
      refine X_of (hix _) ?_
      refine X_load agg_5 hcell ?_
      refine X_of (run_shl _ _ (by decide) _) ?_
      simp only [SS, ST]
      have hn := num_lt (bs.take i)
      have hp : (256 : Nat) ^ (bs.take i).length ≤ 256 ^ 7 := Nat.pow_le_pow_right (by decide) (by simp; omega)
      have hu := (bs[i]).toNat_lt
      have e1 : IntKind.u64.wrap (((num (bs.take i) : Nat) : Int) * 2 ^ min (Int.toNat 8) IntKind.u64.bits) = ((num (bs.take i) * 256 : Nat) : Int) := by
        have : (2 : Int) ^ min (Int.toNat 8) IntKind.u64.bits = 256 := by decide
        rw [this, wrap_u64]
        omega
      have e2 : IntKind.u64.wrap ((bs[i].toNat : Nat) : Int) = ((bs[i].toNat : Nat) : Int) := by
        rw [wrap_u64]
        omega
      rw [e1, e2]
      refine X_of (run_or rfl _ _ _ (by show _ < 2 ^ 64; omega) (by show _ < 2 ^ 64; omega) _) ?_
      simp only [SS, ST]
      rw [shl8_or, ← num_append, ← take_succ' bs i (by omega)]
      show _ ∧ _
      refine ⟨⟨i + 1, by omega, trivial, ?_, h7, h6, rfl⟩, ?_⟩
      · show Value.int .i64 _ = _
        congr 1
        rw [w64 (by omega) (by omega)]
        omega
      · show (_ - IntKind.i64.wrap _).toNat < _
        rw [w64 (by omega) (by omega)]
        omega

theorem run_build_112 (a : Option Addr) (n c : Nat) (w : World) : (Instr.build 112 #[(0, .slice a n c)]).run Try.prog w = .ok (.agg #[.slice a n c, .int .i64 0]) w := by kernel_rfl

theorem Bts.slice {w : World} {v : Value} {bs : List UInt8} (h : Bts w v bs) : ∃ a c, v = .slice a bs.length c := by
  obtain ⟨a, c, e, _⟩ := h
  exact ⟨a, c, e⟩

theorem New_spec {v : Value} {bs : List UInt8} {w : World} {K : Value → World → Prop} (hb : Bts w v bs) (hl : bs.length ≤ 140737488355328)
    (h : ∀ b w1, Ext w w1 → w.heap.size ≤ b → Rdr w1 w.heap.size w1.heap.size b bs 0 → K (.pointer (some ⟨b, 0, none⟩)) w1) :
    CALL Try.prog 55 #[v] w K := by
  apply call_codec_New
  unfold B_codec_New
  refine X_append_bts Try.underlying79 el_5 (xs := []) (World.ownsRow_nil w w.heap.size 5 1) hb (by omega) (Nat.le_refl _) ?_
  intro v1 w1 ho hk
  obtain ⟨hv1, hn⟩ := own_bts ho
  rw [List.nil_append] at hv1 ho
  obtain ⟨a, c, e⟩ := Bts.slice hv1
  have hlt := ho.lt
  subst e
  refine X_of (run_build_112 a _ c _) ?_
  refine X_box ?_
  have hx : Ext w w1 := hk.mono (fun i _ h => by cases h)
  refine h _ _ (hx.trans (newB_ext _ _ _)) hx.size ⟨_, newB_get _ _ _, hv1.ext (newB_ext _ _ _), fun k hk => ?_⟩
  have := hlt k hk
  rw [newB_size]
  omega

theorem ready_spec {lo hi b : Nat} {bs : List UInt8} {f : Int} {w : World} {K : Value → World → Prop} (hr : Rdr w lo hi b bs f) (h : K (.bool (decide (f = 0))) w) :
    CALL Try.prog 60 #[.pointer (some ⟨b, 0, none⟩)] w K := by
  obtain ⟨v, hb, hv, ho⟩ := hr
  apply call_codec_Reader_ready
  unfold B_codec_Reader_ready
  simp only [SS, ST, Option.isSome_some, if_true]
  refine X_loadL agg_25 hb rfl ?_
  simp only [SS, ST, if_true]
  exact h
theorem ready_nil {w : World} {K : Value → World → Prop} (h : K (.bool false) w) : CALL Try.prog 60 #[.pointer none] w K := by
  apply call_codec_Reader_ready
  unfold B_codec_Reader_ready
  simp only [SS, ST, Option.isSome_none, if_false, Bool.false_eq_true]
  exact h

def getR (bs : List UInt8) (f m : Int) : Nat × List UInt8 × Int :=
  if f ≠ 0 then (0, bs, f) else if m < 0 ∨ 8 < m then (0, bs, 1) else if bs.length < m.toNat then (0, bs, 10) else (num (bs.take m.toNat), bs.drop m.toNat, 0)

/-- The reader's fault is set. -/
theorem Rdr.fault {lo hi b : Nat} {bs : List UInt8} {f : Int} {w : World} (g : Int) {v : Value} (hb : w.heap[b]? = some (.cells #[v, .int .i64 f] 112 (0, 0))) (hv : Bts w v bs) (ho : ∀ k, v.ownBlock = some k → lo ≤ k ∧ k < hi ∧ k ≠ b) :
    Rdr (setAt w b #[v, .int .i64 g] 112 (0, 0)) lo hi b bs g :=
  ⟨v, setAt_same (lt_of_blk hb), hv.keep (setAt_keep _ _ _ _ _) (fun k hk => (ho k hk).2.2), ho⟩
theorem Rdr.move {lo hi b : Nat} {bs' : List UInt8} {f : Int} {w : World} {v v' : Value} (hb : w.heap[b]? = some (.cells #[v, .int .i64 f] 112 (0, 0))) (hv : Bts w v' bs') (ho : ∀ k, v'.ownBlock = some k → lo ≤ k ∧ k < hi ∧ k ≠ b) :
    Rdr (setAt w b #[v', .int .i64 f] 112 (0, 0)) lo hi b bs' f :=
  ⟨v', setAt_same (lt_of_blk hb), hv.keep (setAt_keep _ _ _ _ _) (fun k hk => (ho k hk).2.2), ho⟩

theorem Get_spec {lo hi b : Nat} {bs : List UInt8} {f m : Int} {w : World} {K : Value → World → Prop} (hr : Rdr w lo hi b bs f)
    (h : ∀ w1, Keep (· = b) w w1 → Rdr w1 lo hi b (getR bs f m).2.1 (getR bs f m).2.2 → K (.int .u64 ((getR bs f m).1 : Nat)) w1) :
    CALL Try.prog 56 #[.pointer (some ⟨b, 0, none⟩), .int .i64 m] w K := by
  apply call_codec_Reader_Get
  unfold B_codec_Reader_Get
  refine ready_spec hr ?_
  obtain ⟨v, hb, hv, ho⟩ := id hr
  simp only [SS, ST]
  by_cases hf : f = 0
  · subst hf
    rw [if_neg (by simp)]
    have epick : (if decide (m < 0) = true then Value.bool true else if decide (m < 0) = false then Value.bool (decide (m > 8)) else undef) = .bool (decide (m < 0 ∨ 8 < m)) := by
      by_cases h1 : m < 0
      · simp [h1]
      · simp [h1]
    by_cases hm : m < 0 ∨ 8 < m
    · have eg : getR bs 0 m = (0, bs, 1) := by simp [getR, hm]
      rw [eg] at h
      have goal : K (.int .u64 0) (setAt w b #[v, .int .i64 1] 112 (0, 0)) := h _ (setAt_keep _ _ _ _ _) (Rdr.fault 1 hb hv ho)
      by_cases h1 : m < 0
      · simp only [h1, SS, ST, decide_true, if_true, Bool.true_eq_false, if_false]
        refine XU_store info_25 sz_25 rfl hb (by simp) (by decide) ?_
        exact goal
      · have h2 : 8 < m := by omega
        simp only [h1, h2, SS, ST, decide_true, decide_false, if_true, Bool.false_eq_true, if_false, gt_iff_lt]
        refine XU_store info_25 sz_25 rfl hb (by simp) (by decide) ?_
        exact goal
    · obtain ⟨n, rfl⟩ : ∃ n : Nat, m = n := ⟨m.toNat, by omega⟩
      have h1 : ¬ ((n : Int) < 0) := by omega
      have h2 : ¬ (8 < (n : Int)) := by omega
      simp only [h1, h2, SS, ST, decide_false, if_true, Bool.false_eq_true, if_false, gt_iff_lt]
      refine X_loadL agg_79 hb rfl ?_
      obtain ⟨a, c, e⟩ := Bts.slice hv
      subst e
      simp only [SS, ST]
      by_cases hlen : bs.length < n
      · have eg : getR bs 0 n = (0, bs, 10) := by simp [getR, hm, hlen]
        rw [eg] at h
        rw [if_pos (by simp; omega)]
        refine XU_store info_25 sz_25 rfl hb (by simp) (by decide) ?_
        exact h _ (setAt_keep _ _ _ _ _) (Rdr.fault 10 hb hv ho)
      · have eg : getR bs 0 n = (num (bs.take n), bs.drop n, 0) := by simp [getR, hm, hlen]
        rw [eg] at h
        rw [if_neg (by simp; omega)]
        refine X_loadL agg_79 hb rfl ?_
        obtain ⟨u, hu, hub, huo⟩ := cut_hi Try.underlying79 info_5 hv (kh := .i64) n rfl (by omega)
        refine X_of (hu _) ?_
        refine number_spec hub (by simp; omega) ?_
        refine X_loadL agg_79 hb rfl ?_
        obtain ⟨u2, hu2, hub2, huo2⟩ := cut_lo Try.underlying79 info_5 sz_5 hv (kl := .i64) n rfl (by omega)
        refine X_of (hu2 _) ?_
        obtain ⟨a2, c2, e2⟩ := Bts.slice hub2
        subst e2
        refine XU_store info_79 sz_79 rfl hb (by simp) (by decide) ?_
        exact h _ (setAt_keep _ _ _ _ _) (Rdr.move hb hub2 (fun k hk => ho k (by rw [← huo2]; exact hk)))
  · rw [if_pos (by simp [hf])]
    have eg : getR bs f m = (0, bs, f) := by simp [getR, hf]
    rw [eg] at h
    exact h w (Keep.refl _ _) hr
theorem Get_nil {m : Value} {w : World} {K : Value → World → Prop} (h : K (.int .u64 0) w) : CALL Try.prog 56 #[.pointer none, m] w K := by
  apply call_codec_Reader_Get
  unfold B_codec_Reader_Get
  refine ready_nil ?_
  simp only [SS, ST]
  exact h

def textR (bs : List UInt8) (f limit : Int) : List UInt8 × List UInt8 × Int :=
  if f ≠ 0 then ([], bs, f) else if bs.length < 4 then ([], bs, 10)
  else if max limit 0 < (num (bs.take 4) : Int) then ([], bs, 4)
  else if (bs.drop 4).length < num (bs.take 4) then ([], bs, 10)
  else ((bs.drop 4).take (num (bs.take 4)), (bs.drop 4).drop (num (bs.take 4)), 0)

def endR (bs : List UInt8) (f : Int) : Int := if f = 0 ∧ 0 < bs.length then 11 else f
end Go.Proofs.Ytlnkdphecinnnaa
end
section
/- codec.Text, and the reference's Put and reader, by contract. -/
set_option linter.unusedVariables false
set_option linter.unusedSimpArgs false
namespace Go.Proofs.Ytlnkdphecinnnaa
open Go Go.Sh Go.RowKit
attribute [local irreducible] X XU XP XR CALL loopS resC closS

theorem putB_4 (n : Nat) : putB n 4 = be 4 n := rfl
theorem putB_8 (n : Nat) : putB n 8 = be 8 n := rfl
theorem putB_1 (n : Nat) : putB n 1 = be 1 n := rfl

/-- ref01's number. -/
theorem rnumber_spec {v : Value} {all : List UInt8} {b a n : Nat} {rest : List Value} {w : World} {K : Value → World → Prop} (hb : w.heap[b]? = some (.cells (v :: rest).toArray 108 (0, 0))) (hv : Bts w v all) (hn : a + n ≤ all.length) (h8 : n ≤ 8)
    (h : K (.int .u64 (num ((all.drop a).take n) : Nat)) w) : CALL Try.prog 62 #[.pointer (some ⟨b, 0, none⟩), .int .i64 (a : Int), .int .i64 (n : Int)] w K := by
  obtain ⟨ao, c, e, h1, h2, h3⟩ := id hv
  subst e
  apply call_ref01_Reader_number
  unfold B_ref01_Reader_number
  refine loopS_of (fun ρ wr => ∃ i, i ≤ n ∧ wr = w ∧ ρ 8 = .int .i64 (i : Nat) ∧ ρ 0 = .pointer (some ⟨b, 0, none⟩) ∧ ρ 1 = .int .i64 (a : Nat) ∧ ρ 2 = .int .i64 (n : Nat) ∧ ρ 7 = .int .u64 (num (((all.drop a).take n).take i) : Nat))
    (fun ρ wr => match ρ 8 with | .int _ s => (n - s).toNat | _ => 0) ?_ ?_
  · exact ⟨0, by omega, rfl, rfl, rfl, rfl, rfl, rfl⟩
  · rintro ρ wr ⟨i, hi, rfl, h8', h0, h1', h2', h7⟩
    simp only [SS, ST, h8', h0, h1', h2', h7]
    have hlen : ((all.drop a).take n).length = n := by simp; omega
    by_cases hin : i = n
    · subst hin
      rw [if_neg (by simp)]
      show K (ρ 7) wr
      rw [h7, List.take_of_length_le (by omega)]
      exact h
    · rw [if_pos (by simp; omega)]
      refine X_loadL agg_79 hb rfl ?_
      obtain ⟨ad, hix, hcell, _⟩ := at_bts Try.underlying79 info_5 sz_5 hv (k := .i64) (ii := IntKind.i64.wrap ((a : Int) + (i : Int))) (a + i) (by rw [w64 (by omega) (by omega)]; omega) (by omega)
      refine X_of (hix _) ?_
      refine X_load agg_5 hcell ?_
      simp only [SS, ST]
      have hn' := num_lt (((all.drop a).take n).take i)
      have hp : (256 : Nat) ^ (((all.drop a).take n).take i).length ≤ 256 ^ 7 := Nat.pow_le_pow_right (by decide) (by simp; omega)
      have hu := (all[a + i]).toNat_lt
      have e0 : ((all.drop a).take n)[i]'(by omega) = all[a + i] := by simp
      have e1 : IntKind.u64.wrap (IntKind.u64.wrap (((num (((all.drop a).take n).take i) : Nat) : Int) * 256) + IntKind.u64.wrap ((all[a + i].toNat : Nat) : Int)) = ((num (((all.drop a).take n).take (i + 1)) : Nat) : Int) := by
        rw [take_succ' _ i (by omega), num_append, e0]
        simp only [wrap_u64]
        omega
      rw [e1]
      show _ ∧ _
      refine ⟨⟨i + 1, by omega, trivial, ?_, h0, h1', h2', rfl⟩, ?_⟩
      · show Value.int .i64 _ = _
        congr 1
        rw [w64 (by omega) (by omega)]
        omega
      · show (_ - IntKind.i64.wrap _).toNat < _
        rw [w64 (by omega) (by omega)]
        omega

/-- A reference reader lies in block b: of all, bs are left. -/
def RdrR (w : World) (lo hi b : Nat) (all bs : List UInt8) (f : Int) : Prop :=
  ∃ v a, w.heap[b]? = some (.cells #[v, .int .i64 (a : Nat), .int .i64 f] 108 (0, 0)) ∧ Bts w v all ∧ a ≤ all.length ∧ all.drop a = bs ∧ (0 < all.length → ∀ k, v.ownBlock = some k → lo ≤ k ∧ k < hi ∧ k ≠ b)
theorem RdrR.keep {D : Nat → Prop} {w w' : World} {lo hi b : Nat} {all bs : List UInt8} {f : Int} (h : RdrR w lo hi b all bs f) (k : Keep D w w') (h1 : ¬ D b) (h2 : ∀ i, lo ≤ i → i < hi → i ≠ b → ¬ D i) : RdrR w' lo hi b all bs f := by
  obtain ⟨v, a, hb, hv, ha, hd, ho⟩ := h
  exact ⟨v, a, k.get h1 hb, hv.keep' k (fun hp i hi => h2 i (ho hp i hi).1 (ho hp i hi).2.1 (ho hp i hi).2.2), ha, hd, ho⟩
theorem RdrR.ext {w w' : World} {lo hi b : Nat} {all bs : List UInt8} {f : Int} (h : RdrR w lo hi b all bs f) (k : Ext w w') : RdrR w' lo hi b all bs f := h.keep k (fun h => h) (fun _ _ _ _ h => h)
theorem RdrR.lt {w : World} {lo hi b : Nat} {all bs : List UInt8} {f : Int} (h : RdrR w lo hi b all bs f) : b < w.heap.size := by
  obtain ⟨v, a, hb, _⟩ := h
  exact lt_of_blk hb
theorem RdrR.fault {lo hi b a : Nat} {all bs : List UInt8} {f : Int} {w : World} (g : Int) {v : Value} (hb : w.heap[b]? = some (.cells #[v, .int .i64 (a : Nat), .int .i64 f] 108 (0, 0))) (hv : Bts w v all) (ha : a ≤ all.length) (hd : all.drop a = bs)
    (ho : 0 < all.length → ∀ k, v.ownBlock = some k → lo ≤ k ∧ k < hi ∧ k ≠ b) : RdrR (setAt w b #[v, .int .i64 (a : Nat), .int .i64 g] 108 (0, 0)) lo hi b all bs g :=
  ⟨v, a, setAt_same (lt_of_blk hb), hv.keep' (setAt_keep _ _ _ _ _) (fun hp k hk => (ho hp k hk).2.2), ha, hd, ho⟩
theorem RdrR.move {lo hi b a a' : Nat} {all bs : List UInt8} {f : Int} {w : World} {v : Value} (hb : w.heap[b]? = some (.cells #[v, .int .i64 (a : Nat), .int .i64 f] 108 (0, 0))) (hv : Bts w v all) (ha : a' ≤ all.length) (hd : all.drop a' = bs)
    (ho : 0 < all.length → ∀ k, v.ownBlock = some k → lo ≤ k ∧ k < hi ∧ k ≠ b) : RdrR (setAt w b #[v, .int .i64 (a' : Nat), .int .i64 f] 108 (0, 0)) lo hi b all bs f :=
  ⟨v, a', setAt_same (lt_of_blk hb), hv.keep' (setAt_keep _ _ _ _ _) (fun hp k hk => (ho hp k hk).2.2), ha, hd, ho⟩

theorem RGet_spec {lo hi b : Nat} {all bs : List UInt8} {f m : Int} {w : World} {K : Value → World → Prop} (hr : RdrR w lo hi b all bs f)
    (h : ∀ w1, Keep (· = b) w w1 → RdrR w1 lo hi b all (getR bs f m).2.1 (getR bs f m).2.2 → K (.int .u64 ((getR bs f m).1 : Nat)) w1) :
    CALL Try.prog 57 #[.pointer (some ⟨b, 0, none⟩), .int .i64 m] w K := by
  apply call_ref01_Reader_Get
  unfold B_ref01_Reader_Get
  obtain ⟨v, a, hb, hv, ha, hd, ho⟩ := id hr
  simp only [SS, ST]
  refine X_loadL agg_25 hb rfl ?_
  simp only [SS, ST]
  by_cases hf : f = 0
  · subst hf
    rw [if_neg (by simp)]
    by_cases hm : m < 0 ∨ 8 < m
    · have eg : getR bs 0 m = (0, bs, 1) := by simp [getR, hm]
      rw [eg] at h
      have goal : K (.int .u64 0) (setAt w b #[v, .int .i64 (a : Nat), .int .i64 1] 108 (0, 0)) := h _ (setAt_keep _ _ _ _ _) (RdrR.fault 1 hb hv ha hd ho)
      by_cases h1 : m < 0
      · simp only [h1, SS, ST, decide_true, if_true, Bool.true_eq_false, if_false]
        refine XU_store info_25 sz_25 rfl hb (by simp) (by decide) ?_
        exact goal
      · have h2 : 8 < m := by omega
        simp only [h1, h2, SS, ST, decide_true, decide_false, if_true, Bool.false_eq_true, if_false, gt_iff_lt]
        refine XU_store info_25 sz_25 rfl hb (by simp) (by decide) ?_
        exact goal
    · obtain ⟨n, rfl⟩ : ∃ n : Nat, m = n := ⟨m.toNat, by omega⟩
      have h1 : ¬ ((n : Int) < 0) := by omega
      have h2 : ¬ (8 < (n : Int)) := by omega
      simp only [h1, h2, SS, ST, decide_false, if_true, Bool.false_eq_true, if_false, gt_iff_lt]
      refine ⟨Ext, Ext.frame, ?_⟩
      have hbd : (drewW w).heap[b]? = some (.cells #[v, .int .i64 (a : Nat), .int .i64 0] 108 (0, 0)) := hb
      refine XR_loadL agg_79 hbd rfl ?_
      obtain ⟨ao, c, e⟩ := Bts.slice hv
      subst e
      obtain ⟨_, _, _, hc1, hc2, _⟩ := id hv
      simp only [SS, ST]
      refine XR_loadL agg_3 hbd rfl ?_
      simp only [SS, ST]
      have hlb : bs.length = all.length - a := by rw [← hd]; simp
      have e1 : IntKind.i64.wrap ((all.length : Int) - (a : Int)) = (bs.length : Int) := by rw [w64 (by omega) (by omega)]; omega
      rw [e1]
      by_cases hlen : bs.length < n
      · have eg : getR bs 0 n = (0, bs, 10) := by simp [getR, hm, hlen]
        rw [eg] at h
        rw [if_pos (by simp; omega)]
        refine XU_store info_25 sz_25 rfl hbd (by simp) (by decide) ?_
        exact h _ ((Keep.drew _ w).trans (setAt_keep _ _ _ _ _)) (RdrR.fault 10 hbd hv.drew ha hd ho)
      · have eg : getR bs 0 n = (num (bs.take n), bs.drop n, 0) := by simp [getR, hm, hlen]
        rw [eg] at h
        rw [if_neg (by simp; omega)]
        refine X_loadL agg_3 hbd rfl ?_
        refine rnumber_spec hbd hv.drew (by omega) (by omega) ?_
        refine X_loadL agg_3 hbd rfl ?_
        simp only [SS, ST]
        refine XU_store info_3 sz_3 rfl hbd (by simp) (by decide) ?_
        rw [hd]
        refine h _ ((Keep.drew _ w).trans (setAt_keep _ _ _ _ _)) ?_
        have e2 : IntKind.i64.wrap ((a : Int) + (n : Int)) = ((a + n : Nat) : Int) := by rw [w64 (by omega) (by omega)]; omega
        rw [e2]
        exact RdrR.move hbd hv.drew (by omega) (by rw [← List.drop_drop, hd]) ho
  · rw [if_pos (by simp [hf])]
    have eg : getR bs f m = (0, bs, f) := by simp [getR, hf]
    rw [eg] at h
    exact h w (Keep.refl _ _) hr

theorem REnd_spec {lo hi b : Nat} {all bs : List UInt8} {f : Int} {w : World} {K : Value → World → Prop} (hr : RdrR w lo hi b all bs f) (h : ∀ w1, Ext w w1 → K (.int .i64 (endR bs f)) w1) :
    CALL Try.prog 58 #[.pointer (some ⟨b, 0, none⟩)] w K := by
  apply call_ref01_Reader_End
  unfold B_ref01_Reader_End
  obtain ⟨v, a, hb, hv, ha, hd, ho⟩ := id hr
  refine ⟨Ext, Ext.frame, ?_⟩
  have hbd : (drewW w).heap[b]? = some (.cells #[v, .int .i64 (a : Nat), .int .i64 f] 108 (0, 0)) := hb
  simp only [SS, ST]
  refine XR_loadL agg_25 hbd rfl ?_
  have hlb : bs.length = all.length - a := by rw [← hd]; simp
  by_cases hf : f = 0
  · subst hf
    simp only [SS, ST, decide_true, if_true]
    refine XR_loadL agg_3 hbd rfl ?_
    refine XR_loadL agg_79 hbd rfl ?_
    obtain ⟨ao, c, e⟩ := Bts.slice hv
    subst e
    simp only [SS, ST, if_true]
    by_cases hl : 0 < bs.length
    · rw [if_pos (by simp; omega)]
      simpa [endR, hl] using h _ (Keep.drew _ w)
    · rw [if_neg (by simp; omega)]
      refine X_loadL agg_25 hbd rfl ?_
      simpa [endR, hl] using h _ (Keep.drew _ w)
  · simp only [SS, ST, hf, decide_false, Bool.false_eq_true, if_false]
    refine X_loadL agg_25 hbd rfl ?_
    simpa [endR, hf] using h _ (Keep.drew _ w)

theorem u8_rem (n : Nat) : IntKind.u8.wrap (((n : Nat) : Int).tmod 256) = ((UInt8.ofNat n).toNat : Int) := by
  rw [wrap_u8]
  have : ((n : Nat) : Int).tmod 256 = ((n % 256 : Nat) : Int) := by
    rw [Int.tmod_eq_emod_of_nonneg (by omega)]
    omega
  rw [this]
  simp
theorem quo256 (n : Nat) : ((n : Nat) : Int).tdiv 256 = ((n / 256 : Nat) : Int) := by
  rw [Int.tdiv_eq_ediv_of_nonneg (by omega)]
  omega

theorem RPut_spec {n : Nat} {many : Int} {w : World} {K : Value → World → Prop} (hn : n < 18446744073709551616)
    (h : ∀ v w1, Ext w w1 → w1.ownsRow w.heap.size 5 1 v (putB n many).length (B8 (putB n many)) → K v w1) :
    CALL Try.prog 54 #[.int .u64 n, .int .i64 many] w K := by
  obtain ⟨m, hm⟩ : ∃ m : Nat, min (max many 0) 8 = (m : Int) := ⟨clamp8 many, by unfold clamp8; omega⟩
  have hm8 : m ≤ 8 := by omega
  have hput : putB n many = be m n := by
    have : clamp8 many = m := by unfold clamp8; omega
    unfold putB; rw [this]
  rw [hput] at h
  apply call_ref01_Put
  unfold B_ref01_Put
  simp only [SS, ST, hm]
  refine loopS_of (fun ρ wr => ∃ k v, k ≤ m ∧ ρ 0 = .int .u64 n ∧ ρ 5 = v ∧ ρ 6 = .int .i64 ((m : Int) - 1 - k) ∧ Ext w wr ∧
      wr.ownsRow w.heap.size 5 1 v k (B8 ((be m n).take k))) (fun ρ wr => match ρ 6 with | .int _ s => (s + 1).toNat | _ => 0) ?_ ?_
  · refine ⟨0, _, by omega, rfl, rfl, ?_, Keep.refl _ _, World.ownsRow_nil _ _ _ _⟩
    show Value.int .i64 _ = _
    congr 1
    rw [w64 (by omega) (by omega)]
    omega
  · rintro ρ wr ⟨k, v, hk, h0, h5, h6, he, ho⟩
    simp only [SS, ST, h0, h5, h6]
    by_cases hkm : k = m
    · subst hkm
      rw [if_neg (by simp; omega)]
      show K (ρ 5) wr
      rw [h5]
      refine h v wr he ?_
      rw [List.take_of_length_le (by simp)] at ho
      simpa using ho
    · rw [if_pos (by simp; omega)]
      obtain ⟨j, hj⟩ : ∃ j, m = k + 1 + j := ⟨m - 1 - k, by omega⟩
      refine loopS_of (fun ρ' wr' => ∃ i, i ≤ j ∧ wr' = wr ∧ ρ' 0 = .int .u64 n ∧ ρ' 5 = v ∧ ρ' 6 = .int .i64 ((m : Int) - 1 - k) ∧ ρ' 8 = .int .i64 (i : Nat) ∧ ρ' 7 = .int .u64 (n / 256 ^ i : Nat))
        (fun ρ wr => match ρ 8 with | .int _ s => (j - s).toNat | _ => 0) ?_ ?_
      · exact ⟨0, by omega, rfl, h0, h5, h6, rfl, by simp [upds_cons, upds_nil]⟩
      · rintro ρ' wr' ⟨i, hi, rfl, h0', h5', h6', h8', h7'⟩
        simp only [SS, ST, h0', h5', h6', h8', h7']
        by_cases hij : i = j
        · subst hij
          rw [if_neg (by simp; omega)]
          simp only [upds_cons, upds_nil, Nat.reduceEqDiff, if_false, h7', h5', h6']
          refine X_of (run_rem 30 .u64 _ 256 (by decide) _) ?_
          simp only [SS, ST]
          rw [u8_rem]
          refine X_buildSlice1 Try.underlying79 el_5 rfl ?_
          refine X_append_u8 Try.underlying79 el_5 ho (by omega) he.size ?_
          intro v1 w3 ho3 hk3
          show _ ∧ _
          refine ⟨⟨k + 1, v1, by omega, h0', rfl, ?_, Ext.seq he hk3 ?_, ?_⟩, ?_⟩
          · show Value.int .i64 _ = _
            congr 1
            rw [w64 (by omega) (by omega)]
            omega
          · intro i hi
            exact (ho.lt i hi.symm).1
          · rw [be_take_succ m n k (by omega)]
            have e1 : m - 1 - k = i := by omega
            rw [e1]
            exact ho3
          · show (IntKind.i64.wrap _ + 1).toNat < _
            rw [w64 (by omega) (by omega)]
            omega
        · rw [if_pos (by simp; omega)]
          refine X_of (run_quo 30 .u64 _ 256 (by decide) _) ?_
          simp only [SS, ST]
          show _ ∧ _
          refine ⟨⟨i + 1, by omega, trivial, h0', h5', h6', ?_, ?_⟩, ?_⟩
          · show Value.int .i64 _ = _
            congr 1
            rw [w64 (by omega) (by omega)]
            omega
          · show Value.int .u64 _ = _
            congr 1
            have hle : n / 256 ^ i / 256 ≤ n := Nat.le_trans (Nat.div_le_self _ _) (Nat.div_le_self _ _)
            rw [quo256, wrap_u64, Nat.pow_succ, ← Nat.div_div_eq_div_mul]
            generalize n / 256 ^ i / 256 = q at hle
            omega
          · show (_ - IntKind.i64.wrap _).toNat < _
            rw [w64 (by omega) (by omega)]
            omega
end Go.Proofs.Ytlnkdphecinnnaa
end
section
/- Words that many laws share: joins, loops with their end told, bytes of the call's own that are written. -/
set_option linter.unusedSimpArgs false
set_option linter.unusedVariables false
namespace Go.Sh
open Go Go.RowKit
theorem joinS_of {C : Env → World → Prop} {F : (Env → World → Prop) → Prop} (I : Env → World → Prop) (h1 : ∀ ρ w, I ρ w → C ρ w) (h2 : ∀ J : Env → World → Prop, (∀ ρ w, I ρ w → J ρ w) → F J) : joinS C F := h2 C h1
/-- A loop with its end told: E holds where it is left. -/
theorem loopE {B : (Exit → Env → World → Prop) → Env → World → Prop} {C : Env → World → Prop} {Q : Exit → Env → World → Prop} {ρ : Env} {w : World} {id : Nat} (I : Env → World → Prop) (μ : Env → World → Nat) (E : Env → World → Prop) (h0 : I ρ w)
    (h : ∀ J : Env → World → Prop, (∀ ρ w, E ρ w → J ρ w) → ∀ ρ w, I ρ w → B (thenS (fun ρ' w' => I ρ' w' ∧ μ ρ' w' < μ ρ w) (inBlockS id (thenS J Q))) ρ w) (hE : ∀ ρ w, E ρ w → C ρ w) : loopS B (inBlockS id (thenS C Q)) ρ w :=
  ⟨I, μ, h0, h C hE⟩
/-- The same, whatever stands around; left by one exit alone. -/
theorem loopG {B : (Exit → Env → World → Prop) → Env → World → Prop} {Q : Exit → Env → World → Prop} {ρ : Env} {w : World} (id : Nat) (I : Env → World → Prop) (μ : Env → World → Nat) (E : Env → World → Prop) (h0 : I ρ w)
    (h : ∀ J : Exit → Env → World → Prop, (∀ ρ w, E ρ w → J (.exit id) ρ w) → ∀ ρ w, I ρ w → B (thenS (fun ρ' w' => I ρ' w' ∧ μ ρ' w' < μ ρ w) J) ρ w) (hE : ∀ ρ w, E ρ w → Q (.exit id) ρ w) : loopS B Q ρ w :=
  ⟨I, μ, h0, h Q hE⟩
theorem gs_t (S : World → (Value → World → Prop) → Prop) (w : World) (K : Value → World → Prop) : gstep (.bool true) true S w K = S w K := rfl
theorem gs_f (S : World → (Value → World → Prop) → Prop) (w : World) (K : Value → World → Prop) : gstep (.bool false) false S w K = S w K := rfl
theorem gs_tf (S : World → (Value → World → Prop) → Prop) (w : World) (K : Value → World → Prop) : gstep (.bool true) false S w K = K undef w := rfl
theorem gs_ft (S : World → (Value → World → Prop) → Prop) (w : World) (K : Value → World → Prop) : gstep (.bool false) true S w K = K undef w := rfl
theorem cs_t (A B : Prop) : condS (.bool true) A B = A := rfl
theorem cs_f (A B : Prop) : condS (.bool false) A B = B := rfl
theorem pk_t {P : Program} (a b : Value) (w : World) (K : Value → World → Prop) : X P (pickS (.bool true) a b) w K = K a w := X_ok (run_pick true a b w)
theorem pk_f {P : Program} (a b : Value) (w : World) (K : Value → World → Prop) : X P (pickS (.bool false) a b) w K = K b w := X_ok (run_pick false a b w)
theorem pp_t {P : Program} (a b : Value) (w : World) (K : Value → World → Prop) : XP P (pickS (.bool true) a b) w K = K a w := XP_ok (fun w' => run_pick true a b w')
theorem pp_f {P : Program} (a b : Value) (w : World) (K : Value → World → Prop) : XP P (pickS (.bool false) a b) w K = K b w := XP_ok (fun w' => run_pick false a b w')
theorem g_ff {c : Bool} {S : World → (Value → World → Prop) → Prop} {w : World} {K : Value → World → Prop} (hc : c = false) (h : S w K) : gstep (.bool c) false S w K := by subst hc; exact h
theorem g_tt {c : Bool} {S : World → (Value → World → Prop) → Prop} {w : World} {K : Value → World → Prop} (hc : c = true) (h : S w K) : gstep (.bool c) true S w K := by subst hc; exact h
theorem g_tf {c : Bool} {S : World → (Value → World → Prop) → Prop} {w : World} {K : Value → World → Prop} (hc : c = true) (h : K undef w) : gstep (.bool c) false S w K := by subst hc; exact h
theorem g_ft {c : Bool} {S : World → (Value → World → Prop) → Prop} {w : World} {K : Value → World → Prop} (hc : c = false) (h : K undef w) : gstep (.bool c) true S w K := by subst hc; exact h
theorem c_t {c : Bool} {A B : Prop} (hc : c = true) (h : A) : condS (.bool c) A B := by subst hc; exact h
theorem c_f {c : Bool} {A B : Prop} (hc : c = false) (h : B) : condS (.bool c) A B := by subst hc; exact h
theorem p_t {P : Program} {c : Bool} {a b : Value} {w : World} {K : Value → World → Prop} (hc : c = true) (h : K a w) : X P (pickS (.bool c) a b) w K := by subst hc; rw [pk_t]; exact h
theorem p_f {P : Program} {c : Bool} {a b : Value} {w : World} {K : Value → World → Prop} (hc : c = false) (h : K b w) : X P (pickS (.bool c) a b) w K := by subst hc; rw [pk_f]; exact h
theorem q_t {P : Program} {c : Bool} {a b : Value} {w : World} {K : Value → World → Prop} (hc : c = true) (h : K a w) : XP P (pickS (.bool c) a b) w K := by subst hc; rw [pp_t]; exact h
theorem q_f {P : Program} {c : Bool} {a b : Value} {w : World} {K : Value → World → Prop} (hc : c = false) (h : K b w) : XP P (pickS (.bool c) a b) w K := by subst hc; rw [pp_f]; exact h
set_option linter.defProp false in
/-- Steps whose condition is known. -/
def GS := And.intro @gs_t (And.intro @gs_f (And.intro @gs_tf (And.intro @gs_ft (And.intro @cs_t (And.intro @cs_f (And.intro @pk_t (And.intro @pk_f (And.intro @pp_t @pp_f))))))))
theorem B8_set (l : List UInt8) (i : Nat) (u : UInt8) : (B8 l).set i (.int .u8 (u.toNat : Int)) = B8 (l.set i u) := by
  unfold B8
  rw [List.map_set]
/-- One byte of the call's own is written. -/
theorem own_put {w : World} {base n e : Nat} {v : Value} {l : List UInt8} (ho : w.ownsRow base e 1 v n (B8 l)) {j : Nat} (hj : j < l.length) (u : UInt8) :
    ∃ g cap cur, v = .slice (some ⟨g, 0, none⟩) n cap ∧ base ≤ g ∧ w.heap[g]? = some (.cells cur e (0, 0)) ∧ j < cur.size ∧ cur[j]? = some (.int .u8 ((l[j].toNat : Nat) : Int)) ∧ j < n ∧
      (setAt w g (cur.setIfInBounds j (.int .u8 ((u.toNat : Nat) : Int))) e (0, 0)).ownsRow base e 1 v n (B8 (l.set j u)) := by
  have hl : l.length = n := by have := ho.1; simpa using this
  rcases id ho.2 with ⟨_, h0⟩ | ⟨g, cap, cur, hv, hg, hh, hn, hm, hs, ht⟩
  · omega
  · have hjc : j < cur.size := by omega
    refine ⟨g, cap, cur, hv, hg, hh, hjc, ?_, by omega, ?_⟩
    · have := congrArg (fun x => x[j]?) ht
      simp only [List.getElem?_take, show j < n * 1 by omega, if_true, B8_getElem?, List.getElem?_eq_getElem hj, Option.map_some] at this
      simpa using this
    · refine ⟨by simp [hl], .inr ⟨g, cap, _, hv, hg, setAt_same (lt_of_blk hh), hn, hm, by simpa using hs, ?_⟩⟩
      rw [← B8_set, ← ht]
      simp [List.take_set]
end Go.Sh
namespace Go.Proofs.Ytlnkdphecinnnaa
open Go Go.Sh Go.RowKit
theorem xp_add {P : Program} (T : TypeId) (x y z : Nat) (e : x + y = z) (hz : z ≤ 9223372036854775807) (w : World) : (binOp .add T (.int .i64 (x : Int)) (.int .i64 (y : Int))).run P w = .ok (.int .i64 (z : Int)) w := by
  rw [run_add, w64 (by omega) (by omega)]
  congr 2
  omega
end Go.Proofs.Ytlnkdphecinnnaa
end
section
/- Objects and what they hold: the block of a struct and the blocks of its slices. -/
set_option linter.unusedSimpArgs false
set_option linter.unusedVariables false
namespace Go.Sh
open Go Go.RowKit
/-- The block b, and those its cells are slices of. -/
def foot (w : World) (b k : Nat) : Prop := k = b ∨ ∃ cs T fr, w.heap[b]? = some (.cells cs T fr) ∧ ∃ v ∈ cs.toList, v.ownBlock = some k
theorem foot_self (w : World) (b : Nat) : foot w b b := .inl rfl
theorem foot_same {w w' : World} {b k : Nat} (h : w'.heap[b]? = w.heap[b]?) : foot w' b k ↔ foot w b k := by unfold foot; rw [h]
theorem foot_cells {w : World} {b k : Nat} {cs : Array Value} {T : TypeId} {fr : Nat × Nat} (hb : w.heap[b]? = some (.cells cs T fr)) : foot w b k ↔ k = b ∨ ∃ v ∈ cs.toList, v.ownBlock = some k := by
  unfold foot
  constructor
  · rintro (h | ⟨cs', T', fr', e, h⟩)
    · exact .inl h
    · rw [hb] at e
      injection e with e
      injection e with e1 e2 e3
      subst e1
      exact .inr h
  · rintro (h | h)
    · exact .inl h
    · exact .inr ⟨cs, T, fr, hb, h⟩
/-- What is done to the object b: its own blocks may change, and it may get new ones. -/
structure Step (b : Nat) (w w1 : World) : Prop where
  keep : Keep (foot w b) w w1
  grow : ∀ k, foot w1 b k → foot w b k ∨ w.heap.size ≤ k
theorem Step.size {b : Nat} {w w1 : World} (h : Step b w w1) : w.heap.size ≤ w1.heap.size := h.keep.size
theorem Step.trans {b : Nat} {x y z : World} (h : Step b x y) (k : Step b y z) : Step b x z :=
  ⟨Keep.seq h.keep k.keep (fun i hi hf => (h.grow i hf).resolve_right (by omega)), fun i hf => by
    rcases k.grow i hf with h1 | h1
    · exact h.grow i h1
    · have := h.size
      exact .inr (by omega)⟩
theorem Step.ext {b : Nat} {w w1 : World} (h : Ext w w1) (hb : b < w.heap.size) : Step b w w1 :=
  ⟨h.ext, fun k hf => .inl ((foot_same (h.block b hb (fun h => h))).1 hf)⟩
theorem Step.refl {b : Nat} {w : World} : Step b w w := ⟨Keep.refl _ _, fun _ h => .inl h⟩
theorem Step.out {b : Nat} {W w w1 : World} (h : Step b w w1) (hx : Ext W w) (hl : ∀ k, foot w b k → W.heap.size ≤ k) : Ext W w1 := Ext.seq hx h.keep hl
theorem Step.low {b n : Nat} {w w1 : World} (h : Step b w w1) (hn : n ≤ w.heap.size) (hl : ∀ k, foot w b k → n ≤ k) : ∀ k, foot w1 b k → n ≤ k := fun k hk => by
  rcases h.grow k hk with h1 | h1
  · exact hl k h1
  · omega
/-- What stands apart stays apart. -/
def Apart (w : World) (b b' : Nat) : Prop := ∀ k, foot w b k → ¬ foot w b' k
theorem Apart.symm {w : World} {b b' : Nat} (h : Apart w b b') : Apart w b' b := fun k h1 h2 => h k h2 h1
theorem Step.other {b b' : Nat} {w w1 : World} (h : Step b w w1) (ha : Apart w b b') (hl : b' < w.heap.size) : w1.heap[b']? = w.heap[b']? := h.keep.block b' hl (fun hf => ha b' hf (foot_self w b'))
theorem Step.apart {b b' : Nat} {w w1 : World} (h : Step b w w1) (ha : Apart w b b') (hl : ∀ k, foot w b' k → k < w.heap.size) : Apart w1 b b' := fun k h1 h2 => by
  have h2' := (foot_same (h.other ha (hl b' (foot_self w b')))).1 h2
  rcases h.grow k h1 with h3 | h3
  · exact ha k h3 h2'
  · have := hl k h2'
    omega
theorem Apart.new {w w1 : World} {b b' : Nat} (h : Ext w w1) (hl : ∀ k, foot w b k → k < w.heap.size) (hn : ∀ k, foot w1 b' k → w.heap.size ≤ k) : Apart w1 b b' := fun k h1 h2 => by
  have h1' := (foot_same (h.block b (hl b (foot_self w b)) (fun h => h))).1 h1
  have := hl k h1'
  have := hn k h2
  omega
theorem Apart.ext {w w1 : World} {b b' : Nat} (h : Apart w b b') (x : Ext w w1) (h1 : b < w.heap.size) (h2 : b' < w.heap.size) : Apart w1 b b' := fun k f1 f2 =>
  h k ((foot_same (x.block b h1 (fun h => h))).1 f1) ((foot_same (x.block b' h2 (fun h => h))).1 f2)
/-- Rows of the call's own stay where their block is kept. -/
theorem own_keepD {w w' : World} {base e size n : Nat} {v : Value} {xs : List Value} {D : Nat → Prop} (h : w.ownsRow base e size v n xs) (k : Keep D w w') (hd : ∀ g, v.ownBlock = some g → ¬ D g) : w'.ownsRow base e size v n xs := by
  refine ⟨h.1, h.2.imp id ?_⟩
  rintro ⟨g, cap, cur, rfl, hg, hh, rest⟩
  exact ⟨g, cap, cur, rfl, hg, k.get (hd g rfl) hh, rest⟩
theorem own_extD {w w' : World} {base e size n : Nat} {v : Value} {xs : List Value} (h : w.ownsRow base e size v n xs) (k : Ext w w') : w'.ownsRow base e size v n xs := own_keepD h k (fun _ _ h => h)
theorem own_neT {w : World} {base e size n : Nat} {v : Value} {xs : List Value} (ho : w.ownsRow base e size v n xs) {b : Nat} {cs : Array Value} {T : TypeId} {fr : Nat × Nat} (hb : w.heap[b]? = some (.cells cs T fr)) (hT : T ≠ e) : v.ownBlock ≠ some b := by
  intro h
  rcases ho.2 with ⟨rfl, _⟩ | ⟨g, cap, cur, rfl, _, hg, _⟩
  · cases h
  · have : g = b := by simpa [Value.ownBlock] using h
    subst this
    rw [hb] at hg
    injection hg with hg
    injection hg with _ h2
    exact hT h2
theorem own_neO {w : World} {base base' e e' size size' n n' : Nat} {v v' : Value} {xs xs' : List Value} (ho : w.ownsRow base e size v n xs) (ho' : w.ownsRow base' e' size' v' n' xs') (hT : e ≠ e') {g : Nat} (hg : v.ownBlock = some g) : v'.ownBlock ≠ some g := by
  rcases ho.2 with ⟨rfl, _⟩ | ⟨g', cap, cur, rfl, _, hh, _⟩
  · cases hg
  · have : g' = g := by simpa [Value.ownBlock] using hg
    subst this
    exact own_neT ho' hh hT
theorem own_max {w : World} {base e size n : Nat} {v : Value} {xs : List Value} (ho : w.ownsRow base e size v n xs) : n ≤ 9223372036854775807 := by
  rcases ho.2 with ⟨_, h⟩ | ⟨_, _, _, _, _, _, h, h', _⟩
  · omega
  · simp only [maxLen] at h'
    omega
theorem own_base0 {w : World} {base e size n : Nat} {v : Value} {xs : List Value} (ho : w.ownsRow base e size v n xs) : w.ownsRow 0 e size v n xs := own_mono ho (Nat.zero_le _)
/-- v lies apart from the object b. -/
def Outs (w : World) (b : Nat) (v : Value) : Prop := ∀ k, v.ownBlock = some k → ¬ foot w b k ∧ k < w.heap.size
theorem Outs.step {w w1 : World} {b : Nat} {v : Value} (h : Outs w b v) (s : Step b w w1) : Outs w1 b v := fun k hk => by
  obtain ⟨h1, h2⟩ := h k hk
  refine ⟨fun hf => ?_, Nat.lt_of_lt_of_le h2 s.size⟩
  rcases s.grow k hf with h3 | h3
  · exact h1 h3
  · omega
theorem Outs.ext {w w1 : World} {b : Nat} {v : Value} (h : Outs w b v) (hb : b < w.heap.size) (x : Ext w w1) : Outs w1 b v := h.step (Step.ext x hb)
theorem Bts.step {w w1 : World} {b : Nat} {v : Value} {l : List UInt8} (h : Bts w v l) (o : Outs w b v) (s : Step b w w1) : Bts w1 v l := h.keep s.keep (fun k hk => (o k hk).1)
theorem outs_own {w w1 : World} {b base e size n : Nat} {v : Value} {xs : List Value} (ho : w1.ownsRow base e size v n xs) (x : Ext w w1) (hl : ∀ k, foot w b k → k < w.heap.size) (hb : w.heap.size ≤ base) : Outs w1 b v := fun k hk => by
  obtain ⟨h1, h2⟩ := ho.lt k hk
  refine ⟨fun hf => ?_, h2⟩
  have := hl k ((foot_same (x.block b (hl b (foot_self w b)) (fun h => h))).1 hf)
  omega
/-- An aggregate is written into a block, anywhere. -/
theorem XU_storeAggAt {P : Program} {t : TypeId} (hi : infoB P t = true) {b o : Nat} {cs : Array Value} {l : List Value} {T : TypeId} {w : World} {K : World → Prop} (hb : w.heap[b]? = some (.cells cs T (0, 0))) (hc : o + l.length ≤ cs.size) (hn : l.length = szT P t)
    (h1 : ∀ v ∈ l, v.oneCell' = true) (h : K (setAt w b (cs.toList.take o ++ l ++ cs.toList.drop (o + l.length)).toArray T (0, 0))) : XU P (Instr.storeAt t (.pointer (some ⟨b, o, none⟩)) (.agg l.toArray)) w K := by
  have hst := run_storeCells_at P b o T l 0 cs w hb (by omega) h1
  have e : w.setRow b ((cs.toList.take (o + 0) ++ l ++ cs.toList.drop (o + 0 + l.length)).toArray) = setAt w b (cs.toList.take o ++ l ++ cs.toList.drop (o + l.length)).toArray T (0, 0) := by
    rw [Nat.add_zero]
    unfold World.setRow setAt
    congr 1
    apply Array.ext_getElem?
    intro i
    have hl := lt_of_blk hb
    by_cases hi : i = b
    · subst hi
      rw [Array.getElem?_modify, if_pos rfl, hb]
      simp [hl]
    · rw [Array.getElem?_setIfInBounds_ne (Ne.symm hi), Array.getElem?_modify]
      simp [Ne.symm hi]
  rw [e] at hst
  have hv : (Value.agg l.toArray).cells = l.toArray := rfl
  have hr : (Instr.storeAt t (.pointer (some ⟨b, o, none⟩)) (.agg l.toArray)).run P w = .ok () (setAt w b (cs.toList.take o ++ l ++ cs.toList.drop (o + l.length)).toArray T (0, 0)) := by
    simp [Instr.storeAt, Instr.sureAddr, storeVar, sizeOf_run hi, hv, ← hn, hst]
  unfold XU; rw [hr]; exact h
theorem splice_len (l m : List Value) (o : Nat) (h : o + m.length ≤ l.length) : (l.take o ++ m ++ l.drop (o + m.length)).length = l.length := by
  simp; omega
/-- copy of cells into a block, elements of any size. -/
theorem X_copy_cells {P : Program} {t u U e size : Nat} {w : World} {K : Value → World → Prop} (ht : P.underlying t = some (.slice e)) (hi : infoB P e = true) (hs : szT P e = size) {g o n c : Nat} {cur : Array Value} {T : TypeId} (hg : w.heap[g]? = some (.cells cur T (0, 0)))
    {a : Addr} {m c' : Nat} {l : List Value} (hl : l.length = min m n * size) (hc : ∀ j v, l[j]? = some v → w.cell? (a.add j) = some v) (h1 : ∀ v ∈ l, v.oneCell' = true) (hfit : o + l.length ≤ cur.size)
    (h : K (.int .i64 (min m n : Nat)) (setAt w g (cur.toList.take o ++ l ++ cur.toList.drop (o + l.length)).toArray T (0, 0))) : X P (Builtin.copy_ #[t, u] U #[.slice (some ⟨g, o, none⟩) n c, .slice (some a) m c']) w K := by
  have hld := run_loadCells_list (P := P) w a l hc
  have hst := run_storeCells_at P g o T l 0 cur w hg (by omega) h1
  have e : w.setRow g ((cur.toList.take (o + 0) ++ l ++ cur.toList.drop (o + 0 + l.length)).toArray) = setAt w g (cur.toList.take o ++ l ++ cur.toList.drop (o + l.length)).toArray T (0, 0) := by
    rw [Nat.add_zero]
    unfold World.setRow setAt
    congr 1
    apply Array.ext_getElem?
    intro i
    have hl := lt_of_blk hg
    by_cases hi : i = g
    · subst hi
      rw [Array.getElem?_modify, if_pos rfl, hg]
      simp [hl]
    · rw [Array.getElem?_setIfInBounds_ne (Ne.symm hi), Array.getElem?_modify]
      simp [Ne.symm hi]
  rw [e] at hst
  rw [hl] at hld
  refine X_of (w1 := setAt w g (cur.toList.take o ++ l ++ cur.toList.drop (o + l.length)).toArray T (0, 0)) (v := .int .i64 (min m n : Nat)) ?_ h
  have hm : Nat.min m n = min m n := rfl
  simp [Builtin.copy_, run_underlying ht, Builtin.lenOf, Builtin.firstCells, sizeOf_run hi, hs, hm, hld, hst, goInt]
/-- append to a row of the call's own, and where the new row lies. -/
theorem X_appendW {P : Program} {w : World} {K : Value → World → Prop} {base : Nat} {t U e : TypeId} {size bytes : Nat} {z : Value} (ht : P.underlying t = some (.slice e)) (hE : El P e size z bytes) (h0 : 0 < size) {v : Value} {n : Nat} {xs : List Value} (hown : w.ownsRow base e size v n xs)
    {a : Addr} {m c : Nat} {news : List Value} (hl : news.length = m * size) (hnews : ∀ j u, news[j]? = some u → w.cell? (a.add j) = some u) (h1 : ∀ u ∈ news, u.oneCell' = true)
    (hb : (n + m) * bytes ≤ 140737488355328) (hb0 : 0 < bytes) (hbase : base ≤ w.heap.size)
    (h : ∀ v' w1, w1.ownsRow base e size v' (n + m) (xs ++ news) → Keep (fun k => some k = v.ownBlock) w w1 → (∀ g, v'.ownBlock = some g → v.ownBlock = some g ∨ w.heap.size ≤ g) → K v' w1) : X P (Builtin.append_ #[t, t] U #[v, .slice (some a) m c]) w K := by
  obtain ⟨⟨i, hi, hs, hz, hby⟩, hzc⟩ := hE
  have hm : n + m ≤ 140737488355328 := Nat.le_trans (Nat.le_mul_of_pos_right _ hb0) hb
  have h63 : n + m ≤ maxLen := by simp only [maxLen]; omega
  obtain ⟨v', w1, hr, h2, h3, h4⟩ := run_append_own (P := P) w base t U e i z size bytes ht hi hz hs hby hzc h0 v n xs hown a m c news hl hnews h1 h63 hb hbase
  rw [X_ok hr]
  refine h v' w1 h2 (keep_grown h3) ?_
  intro g hg
  rcases id hown.2 with ⟨rfl, rfl⟩ | ⟨g0, cap, cur, rfl, hbg, hh, hnc, hcm, hcs, htake⟩
  · have hx : xs = [] := List.eq_nil_of_length_eq_zero (by simpa using hown.1)
    subst hx
    obtain ⟨v2, w2, hr2, h22, _, _⟩ := run_append_own (P := P) w w.heap.size t U e i z size bytes ht hi hz hs hby hzc h0 (.slice none 0 0) 0 [] (World.ownsRow_nil w _ e size) a m c news hl hnews h1 h63 hb (Nat.le_refl _)
    rw [hr] at hr2
    injection hr2 with e1 e2
    subst e1
    exact .inr (h22.lt g hg).1
  · subst hs
    subst hby
    by_cases hroom : n + m ≤ cap
    · have hfit : n * i.size + news.length ≤ cur.size := by rw [hl, hcs, ← Nat.add_mul]; exact Nat.mul_le_mul_right _ hroom
      have hr2 := run_append_room (P := P) w t U e i ht hi g0 n cap cur hh a m c news hl hnews h1 hroom hfit
      rw [hr] at hr2
      injection hr2 with e1 e2
      subst e1
      exact .inl hg
    · have holds : ∀ j u, xs[j]? = some u → w.cell? ((⟨g0, 0, none⟩ : Addr).add j) = some u := hown.cells (g := g0) rfl
      simp only [maxLen] at h63 hcm
      have hr2 := run_append_grow (P := P) w t U e i z ht hi hz ⟨g0, 0, none⟩ n cap xs hown.1 holds a m c news hl hnews (by omega) (by omega) (growslice_fits (by omega) hb)
      rw [hr] at hr2
      injection hr2 with e1 e2
      subst e1
      refine .inr ?_
      injection hg with hg
      exact Nat.le_of_eq hg
/-- A literal of one struct. -/
theorem foldl_put (l : List Value) : ∀ (k : Nat) (cs : Array Value), k + l.length ≤ cs.size → ((l.zipIdx k).foldl (fun (cs : Array Value) (x : Value × Nat) => cs.setIfInBounds (0 + x.2) x.1) cs).toList = cs.toList.take k ++ l ++ cs.toList.drop (k + l.length) := by
  induction l with
  | nil => intro k cs h; simp
  | cons v l ih =>
    intro k cs h
    simp only [List.length_cons] at h
    rw [List.zipIdx_cons, List.foldl_cons, ih (k + 1) _ (by rw [Array.size_setIfInBounds]; omega)]
    simp only [Array.toList_setIfInBounds, Nat.zero_add]
    have hs := list_seg_step cs.toList k v l (by rw [Array.length_toList]; omega)
    rw [hs]
    simp
theorem X_buildSliceAgg {P : Program} {w : World} {K : Value → World → Prop} {T e size bytes : Nat} {z : Value} (hT : P.underlying T = some (.slice e)) (hE : El P e size z bytes) (h0 : 0 < size) (hsz : size ≤ 16777216) {l : List Value} (hl : l.length = size)
    (h : K (.slice (some ⟨w.heap.size, 0, none⟩) 1 1) (newB w l.toArray e)) : X P (Instr.buildSlice T 1 #[(0, .agg l.toArray)]) w K := by
  obtain ⟨⟨i, hi, hs, hz, _⟩, hzc⟩ := hE
  subst hs
  have hv : (Value.agg l.toArray).cells = l.toArray := rfl
  have hnz : ¬ i.size = 0 := by omega
  have hfill : Instr.fill (fun i_1 => some (i_1 * i.size, i.size)) ((Array.range (1 * i.size)).map (z.cells[· % z.cells.size]!)) [(0, Value.agg l.toArray)] = some l.toArray := by
    simp only [Instr.fill, hv, List.size_toArray, hl, Nat.zero_mul, Nat.zero_add, Array.size_map, Array.size_range, Nat.one_mul]
    rw [if_neg (by simp)]
    congr 1
    apply Array.ext'
    have hf := foldl_put l 0 ((Array.range i.size).map (z.cells[· % z.cells.size]!)) (by simp [hl])
    rw [List.take_zero, List.nil_append, List.drop_eq_nil_of_le (by simp [hl]), List.append_nil] at hf
    rw [Array.zipIdx_toArray, List.foldl_toArray]
    simpa only [Nat.zero_add] using hf
  refine X_of (v := .slice (some ⟨w.heap.size, 0, none⟩) 1 1) (w1 := newB w l.toArray e) ?_ h
  have hle : ¬ (1 * i.size > 2 ^ 24) := by omega
  have hne : ¬ (1 * i.size = 0) := by omega
  have hle' : ¬ 16777216 < i.size := by omega
  rw [Nat.one_mul] at hfill
  simp [Instr.buildSlice, run_underlying hT, sizeOf, typeInfo, hi, hle', hnz, zeroValue, hz, hfill, newRow, newB]
end Go.Sh
end
