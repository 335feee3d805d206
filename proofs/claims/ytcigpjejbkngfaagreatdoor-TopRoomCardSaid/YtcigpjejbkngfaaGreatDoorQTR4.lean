/- Part 4 of what the law is proved with. -/
import Derived.ProofKit
import Derived.SizedLaws
import Derived.OpenShut
import GoSem.Op.String
import Derived.ChangeMaps5
import Derived.Test.YtcigpjejbkngfaaGreatDoorQTR3
set_option linter.unusedVariables false
set_option linter.unusedSimpArgs false
section
namespace Go.Sh
open Go Go.RowKit Go.ChangeShapes Go.WideShapes
theorem ext_same {W W' : World} (h : Ext W W') {p : MemPlace} (hp : p.block < W.heap.size) : W.sameAt W' p := h.below.same hp
theorem trodAll_stays {H : Type} {enc : TypeId × Value → H} {P : Program} (hl : laidOutB P = true) {W W' : World} (he : Ext W W') {sp : Nat → Bool} :
    ∀ {ts : List TypeId} {vs : List Value} {ds : List (DataW H)} {ps : List MemPlace}, ts.all (fun t => P.readableRec t && decide (t < P.types.size)) = true →
      DataW.TrodAll enc P W 0 (fun _ => true) true ts vs ds ps → (∀ p ∈ ps, p.block < W.heap.size) → (∀ p ∈ ps, sp p.block = true) → DataW.TrodAll enc P W' 0 sp true ts vs ds ps
  | [], vs, ds, ps, _, h, _, _ => by
    obtain ⟨rfl, rfl, rfl⟩ := trodAll_nil h
    exact trodAll_mk0
  | t :: ts, vs, ds, ps, ht, h, hlt, hs => by
    obtain ⟨v, vs1, d, ds1, a, b, rfl, rfl, rfl, h1, h2⟩ := trodAll_cons h
    simp only [List.all_cons, Bool.and_eq_true, decide_eq_true_eq] at ht
    exact ⟨a, b, WideElems.Trod_stays hl ht.1.1 ht.1.2 h1 (fun x hx => ext_same he (hlt x (by simp [hx]))) (fun x hx => hs x (by simp [hx])),
      trodAll_stays hl he ht.2 h2 (fun x hx => hlt x (by simp [hx])) (fun x hx => hs x (by simp [hx])), rfl⟩
theorem ext_keptBut {W W' : World} (h : Ext W W') (may : MemPlace → Prop) : W.keptBut W' may := by
  refine ⟨h.os, h.output, fun i hi => ?_⟩
  rw [h.block i hi (fun h => h)]
  cases hb : W.heap[i]? with
  | none => simp
  | some o => cases o <;> simp
theorem law_post {H : Type} {enc : TypeId × Value → H} {P : Program} {f : Func} {s : ChangeSpec} {W W' : World} {args : Array Value} {ds : List (DataW H)} {before : List MemPlace} {tb : TypeId}
    (hl : laidOutB P = true) (hT : f.params.toList.all (fun t => P.readableRec t && decide (t < P.types.size)) = true) (hv : s.vars = [])
    (hfn : s.fn H (ds ++ []) = { results := [.lit (.bool true)], args := ds }) (hres : f.resultTypes = #[tb]) (htb : P.underlying tb = some .bool)
    (hW : DataW.Whole enc P f.params.toList s.vars false W args.toList ds [] before) (he : Ext W W') : s.post enc P f false true false false W args (.bool true) W' := by
  have hlt := hW.lt
  obtain ⟨p, q, hA, hV, hp, hz, hn⟩ := id hW
  rw [hv] at hV
  obtain ⟨_, rfl⟩ := trodVars_none hV
  rw [List.append_nil] at hp
  subst hp
  refine ⟨ds, [], before, [], before, [], hW, ?_, ?_, ?_, ext_keptBut he _, fun h => by cases h⟩
  · rw [hfn, hres]
    exact ⟨[], [], ⟨1, by simp [DataW.trod, Value.cells, htb]⟩, rfl, rfl⟩
  · rw [hfn]
    exact trodAll_stays hl he hT hA hlt (fun x hx => by simpa using hlt x hx)
  · rw [hfn, hv]
    rfl
section
variable {H : Type} {enc : TypeId × Value → H} {P : Program} {W : World}
def TrC (enc : TypeId × Value → H) (P : Program) (W : World) (t : TypeId) (cs : List Value) : Prop := ∃ fuel x, DataW.trod enc P W 0 (fun _ => true) true fuel t cs = some x
theorem TrC.of {t : TypeId} {v : Value} {d : DataW H} {p : List MemPlace} (h : DataW.Trod enc P W 0 (fun _ => true) true t v d p) : TrC enc P W t v.cells.toList := by
  obtain ⟨fuel, h⟩ := h; exact ⟨fuel, _, h⟩
theorem TrC.int {t : TypeId} {k : IntKind} {cs : List Value} (ht : P.underlying t = some (.int k)) (h : TrC enc P W t cs) : ∃ n, cs = [.int k n] ∧ (Lit.int k n).wf = true := by
  obtain ⟨fuel, x, h⟩ := h
  cases fuel with
  | zero => simp [DataW.trod] at h
  | succ fuel =>
    unfold DataW.trod at h
    rw [ht] at h
    split at h <;> first | (simp at *; done) | skip
    rename_i k1 k' n e1
    injection e1 with e1
    injection e1 with e1
    subst e1
    split at h
    · rename_i hh; obtain ⟨rfl, hw⟩ := hh; exact ⟨n, rfl, hw⟩
    · cases h
theorem TrC.bool {t : TypeId} {cs : List Value} (ht : P.underlying t = some .bool) (h : TrC enc P W t cs) : ∃ b, cs = [.bool b] := by
  obtain ⟨fuel, x, h⟩ := h
  cases fuel with
  | zero => simp [DataW.trod] at h
  | succ fuel =>
    unfold DataW.trod at h
    rw [ht] at h
    split at h <;> first | (simp at *; done) | exact ⟨_, rfl⟩
theorem TrC.string {t : TypeId} {cs : List Value} (ht : P.underlying t = some .string) (h : TrC enc P W t cs) : ∃ s, cs = [.string s] ∧ s.size ≤ 9223372036854775807 := by
  obtain ⟨fuel, x, h⟩ := h
  cases fuel with
  | zero => simp [DataW.trod] at h
  | succ fuel =>
    unfold DataW.trod at h
    rw [ht] at h
    split at h <;> first | (simp at *; done) | skip
    split at h
    · rename_i hh; exact ⟨_, rfl, by simpa [maxLen] using hh⟩
    · cases h
theorem mapM_some {α β : Type} {f : α → Option β} : ∀ {l : List α} {r : List β}, l.mapM f = some r → ∀ x ∈ l, ∃ y, f x = some y
  | [], _, _, x, hx => by cases hx
  | a :: l, r, h, x, hx => by
    rw [List.mapM_cons] at h
    cases ha : f a with
    | none => simp [ha] at h
    | some y =>
      rcases List.mem_cons.1 hx with rfl | hx
      · exact ⟨y, ha⟩
      · cases hl : l.mapM f with
        | none => simp [ha, hl] at h
        | some ys => exact mapM_some hl x hx
theorem TrC.slice {t e : TypeId} {cs : List Value} (ht : P.underlying t = some (.slice e)) (h : TrC enc P W t cs) : cs = [.slice none 0 0] ∨ ∃ a len cap, cs = [.slice (some a) len cap] ∧ len ≤ cap ∧ cap ≤ 9223372036854775807 ∧
    ∀ i, i < len → ∃ es, W.cells? 0 (a.add (i * P.cellsOf e)) (P.cellsOf e) = some es ∧ TrC enc P W e es := by
  obtain ⟨fuel, x, h⟩ := h
  cases fuel with
  | zero => simp [DataW.trod] at h
  | succ fuel =>
    unfold DataW.trod at h
    rw [ht] at h
    split at h <;> first | (simp at *; done) | skip
    · rename_i e1 a len cap e2
      injection e2 with e2
      injection e2 with e2
      subst e2
      right
      simp only at h
      split at h
      · rename_i hb
        refine ⟨a, len, cap, rfl, hb.2.1, by simpa [maxLen] using hb.2.2, fun i hi => ?_⟩
        cases hm : (List.range len).mapM (fun i => (W.cells? 0 (a.add (i * P.cellsOf e)) (P.cellsOf e)).bind (DataW.trod enc P W 0 (fun _ => true) true fuel e)) with
        | none => rw [hm] at h; simp at h
        | some elems =>
          obtain ⟨y, hy⟩ := mapM_some hm i (by simpa using hi)
          obtain ⟨es, h1, h2⟩ := Option.bind_eq_some_iff.1 hy
          exact ⟨es, h1, fuel, y, h2⟩
      · cases h
theorem TrC.struct {t : TypeId} {fs : Array Field} {cs : List Value} (ht : P.underlying t = some (.struct fs)) (h : TrC enc P W t cs) : cs.length = P.cellsOf t ∧ ∀ f ∈ fs.toList, TrC enc P W f.type ((cs.drop f.offset).take (P.cellsOf f.type)) := by
  obtain ⟨fuel, x, h⟩ := h
  cases fuel with
  | zero => simp [DataW.trod] at h
  | succ fuel =>
    unfold DataW.trod at h
    rw [ht] at h
    split at h <;> first | (simp at *; done) | skip
    rename_i fs1 e1
    injection e1 with e1
    injection e1 with e1
    subst e1
    split at h
    · rename_i hl
      refine ⟨hl, fun f hf => ?_⟩
      obtain ⟨xs, hm, _⟩ := Option.map_eq_some_iff.1 h
      obtain ⟨y, hy⟩ := mapM_some hm f hf
      exact ⟨fuel, y, hy⟩
    · cases h
theorem TrC.array {t e n : Nat} {cs : List Value} (ht : P.underlying t = some (.array n e)) (h : TrC enc P W t cs) : cs.length = P.cellsOf t ∧ ∀ i, i < n → TrC enc P W e ((cs.drop (i * P.cellsOf e)).take (P.cellsOf e)) := by
  obtain ⟨fuel, x, h⟩ := h
  cases fuel with
  | zero => simp [DataW.trod] at h
  | succ fuel =>
    unfold DataW.trod at h
    rw [ht] at h
    split at h <;> first | (simp at *; done) | skip
    rename_i n1 e1 e2
    injection e2 with e2
    injection e2 with e2 e3
    subst e2; subst e3
    split at h
    · rename_i hl
      refine ⟨hl, fun i hi => ?_⟩
      obtain ⟨xs, hm, _⟩ := Option.map_eq_some_iff.1 h
      obtain ⟨y, hy⟩ := mapM_some hm i (by simpa using hi)
      exact ⟨fuel, y, hy⟩
    · cases h
theorem cells_one {W : World} {a : Addr} {es : List Value} (h : W.cells? 0 a 1 = some es) : ∃ v, es = [v] ∧ W.cell? a = some v := by
  unfold World.cells? at h
  simp only [Nat.zero_le, if_true] at h
  have e1 : (List.range 1).mapM (fun i => W.cell? (a.add i)) = (W.cell? a).map (fun v => [v]) := by
    simp [List.range_succ, Addr.add]
    cases W.cell? a <;> rfl
  rw [e1] at h
  obtain ⟨v, hv, rfl⟩ := Option.map_eq_some_iff.1 h
  exact ⟨v, rfl, hv⟩
theorem u8_of_wf {n : Int} (h : (Lit.int .u8 n).wf = true) : ∃ u : UInt8, n = (u.toNat : Int) := by
  simp [Lit.wf, IntKind.min, IntKind.max, IntKind.signed, IntKind.bits] at h
  refine ⟨UInt8.ofNat n.toNat, ?_⟩
  simp
  omega
theorem TrC.bytes {t e : TypeId} {v : Value} (ht : P.underlying t = some (.slice e)) (he : P.underlying e = some (.int .u8)) (hc : P.cellsOf e = 1) (h : TrC enc P W t [v]) : ∃ bs, Bts W v bs := by
  rcases h.slice ht with hv | ⟨a, len, cap, hv, h1, h2, h3⟩
  · injection hv with hv
    subst hv
    exact ⟨[], Bts.nil W⟩
  · injection hv with hv
    subst hv
    have key : ∀ i, i < len → ∃ u : UInt8, W.cell? (a.add i) = some (.int .u8 (u.toNat : Int)) := by
      intro i hi
      obtain ⟨es, h4, h5⟩ := h3 i hi
      rw [hc, Nat.mul_one] at h4
      obtain ⟨c, rfl, hcell⟩ := cells_one h4
      obtain ⟨n, hn, hw⟩ := h5.int he
      injection hn with hn
      obtain ⟨u, rfl⟩ := u8_of_wf hw
      exact ⟨u, by rw [hcell, hn]⟩
    have all : ∀ n, n ≤ len → ∃ bs : List UInt8, bs.length = n ∧ ∀ j u, bs[j]? = some u → W.cell? (a.add j) = some (.int .u8 (u.toNat : Int)) := by
      intro n
      induction n with
      | zero => intro _; exact ⟨[], rfl, by simp⟩
      | succ n ih =>
        intro hn
        obtain ⟨bs, hl, hb⟩ := ih (by omega)
        obtain ⟨u, hu⟩ := key n (by omega)
        refine ⟨bs ++ [u], by simp [hl], fun j y hj => ?_⟩
        by_cases hjn : j < bs.length
        · exact hb j y (by rwa [List.getElem?_append_left hjn] at hj)
        · have hlt := (List.getElem?_eq_some_iff.1 hj).1
          simp at hlt
          have : j = bs.length := by omega
          subst this
          simp at hj
          subst hj
          rw [hl]; exact hu
    obtain ⟨bs, hl, hb⟩ := all len (Nat.le_refl _)
    exact ⟨bs, some a, cap, by rw [hl], by omega, h2, fun _ => ⟨a, rfl, hb⟩⟩
end
end Go.Sh
end
section
namespace Go.Sh
open Go
theorem mod_step (x m : Nat) : x % 256 ^ (m + 1) = x % 256 ^ m + 256 ^ m * (x / 256 ^ m % 256) := by
  rw [Nat.pow_succ, Nat.mod_mul]
theorem num_be (m x : Nat) : num (be m x) = x % 256 ^ m := by
  have key : ∀ m a, (be m x).foldl (fun n u => n * 256 + u.toNat) a = a * 256 ^ m + x % 256 ^ m := by
    intro m
    induction m with
    | zero => intro a; simp [be, Nat.mod_one]
    | succ m ih =>
      intro a
      show (be m x).foldl _ (a * 256 + (UInt8.ofNat (x / 256 ^ m)).toNat) = _
      rw [ih, mod_step]
      have : (UInt8.ofNat (x / 256 ^ m)).toNat = x / 256 ^ m % 256 := by simp
      rw [this, Nat.pow_succ, Nat.add_mul, Nat.mul_comm (x / 256 ^ m % 256), Nat.mul_assoc, Nat.mul_comm 256]
      omega
  have := key m 0
  simpa [num] using this
theorem be_cons_mod (m x y : Nat) (h : x % 256 ^ m = y % 256 ^ m) : be m x = be m y := by
  induction m generalizing x y with
  | zero => rfl
  | succ m ih =>
    rw [mod_step x, mod_step y] at h
    have hp : 0 < 256 ^ m := Nat.pow_pos (by decide)
    have hx := Nat.mod_lt x hp
    have hy := Nat.mod_lt y hp
    have h1 : x % 256 ^ m = y % 256 ^ m := by
      have := congrArg (· % 256 ^ m) h
      simpa [Nat.add_mul_mod_self_left, Nat.mod_mod] using this
    have h2 : x / 256 ^ m % 256 = y / 256 ^ m % 256 := by
      rw [h1] at h
      exact Nat.eq_of_mul_eq_mul_left hp (by omega)
    show UInt8.ofNat (x / 256 ^ m) :: be m x = UInt8.ofNat (y / 256 ^ m) :: be m y
    rw [ih x y h1]
    congr 1
    apply UInt8.toNat_inj.1
    simpa using h2
theorem num_cons (u : UInt8) (l : List UInt8) : num (u :: l) = u.toNat * 256 ^ l.length + num l := by
  have key : ∀ (l : List UInt8) (a : Nat), l.foldl (fun n u => n * 256 + u.toNat) a = a * 256 ^ l.length + num l := by
    intro l
    induction l with
    | nil => intro a; simp [num]
    | cons v l ih =>
      intro a
      have e : num (v :: l) = l.foldl (fun n u => n * 256 + u.toNat) (0 * 256 + v.toNat) := rfl
      rw [List.foldl_cons, ih, e, ih, List.length_cons, Nat.pow_succ, Nat.add_mul, Nat.zero_mul, Nat.zero_add, Nat.mul_assoc, Nat.mul_comm 256, Nat.add_assoc]
  have := key l (0 * 256 + u.toNat)
  have e : num (u :: l) = l.foldl (fun n u => n * 256 + u.toNat) (0 * 256 + u.toNat) := rfl
  rw [e, this, Nat.zero_mul, Nat.zero_add]
theorem num_lt' (l : List UInt8) : num l < 256 ^ l.length := by
  induction l with
  | nil => simp [num]
  | cons u l ih =>
    rw [num_cons, List.length_cons, Nat.pow_succ]
    have := u.toNat_lt
    have h3 : u.toNat * 256 ^ l.length ≤ 255 * 256 ^ l.length := Nat.mul_le_mul_right _ (by omega)
    omega
theorem be_num (l : List UInt8) : be l.length (num l) = l := by
  induction l with
  | nil => rfl
  | cons u l ih =>
    have hlt := num_lt' l
    have hp : 0 < 256 ^ l.length := Nat.pow_pos (by decide)
    show UInt8.ofNat (num (u :: l) / 256 ^ l.length) :: be l.length (num (u :: l)) = _
    have h1 : num (u :: l) / 256 ^ l.length = u.toNat := by
      rw [num_cons, Nat.add_comm, Nat.add_mul_div_right _ _ hp, Nat.div_eq_of_lt hlt, Nat.zero_add]
    have h2 : be l.length (num (u :: l)) = be l.length (num l) := be_cons_mod _ _ _ (by rw [num_cons, Nat.add_comm, Nat.add_mul_mod_self_right])
    rw [h1, h2, ih, UInt8.ofNat_toNat]
end Go.Sh
end
section
namespace Go.Sh
open Go Go.RowKit Go.ChangeShapes Go.WideShapes Go.ChangeAt
section
variable {P : Program} {H : Type} {enc : TypeId × Value → H} {W : World} {base : Nat} {v : Value} {d : DataW H} {p : List MemPlace} {t : TypeId}
theorem arg_u8 (ht : P.underlying t = some (.int .u8)) (ok : Value.okWide P W .any base t v) (h : DataW.Trod enc P W 0 (fun _ => true) true t v d p) : ∃ n : Nat, v = .int .u8 (n : Int) ∧ n < 256 := by
  obtain ⟨n, rfl, _, _, hw⟩ := open_int ht ok h
  simp [Lit.wf, IntKind.min, IntKind.max, IntKind.signed, IntKind.bits] at hw
  exact ⟨n.toNat, by rw [Int.toNat_of_nonneg hw.1], by omega⟩
end
end Go.Sh
end
section
namespace Go.Sh
open Go Go.RowKit Go.ChangeShapes Go.WideShapes Go.ChangeAt
def Row {α : Type} (f : α → Value) (w : World) (v : Value) (xs : List α) : Prop :=
  ∃ a c, v = .slice a xs.length c ∧ xs.length ≤ c ∧ c ≤ 9223372036854775807 ∧ (0 < xs.length → ∃ ad, a = some ad ∧ ∀ j x, xs[j]? = some x → w.cell? (ad.add j) = some (f x))
theorem Row.ext {α : Type} {f : α → Value} {w w' : World} {v : Value} {xs : List α} (h : Row f w v xs) (k : Ext w w') : Row f w' v xs := by
  obtain ⟨a, c, rfl, h1, h2, h3⟩ := h
  refine ⟨a, c, rfl, h1, h2, fun hn => ?_⟩
  obtain ⟨ad, rfl, hc⟩ := h3 hn
  exact ⟨ad, rfl, fun j x hj => k.cell (fun h => h) (hc j x hj)⟩
theorem Row.slice {α : Type} {f : α → Value} {w : World} {v : Value} {xs : List α} (h : Row f w v xs) : ∃ a c, v = .slice a xs.length c := by
  obtain ⟨a, c, e, _⟩ := h
  exact ⟨a, c, e⟩
section
variable {P : Program} {α : Type} {f : α → Value}
theorem Row.cut {T e : TypeId} (hT : P.underlying T = some (.slice e)) (hi : infoB P e = true) {v : Value} {xs : List α} {w0 : World} (hb : Row f w0 v xs) {kh : IntKind} {hj : Int} (h' : Nat) (e2 : hj = h') (h1 : h' ≤ xs.length) :
    ∃ u, (∀ w, (Instr.sliceAt T v none (some (.int kh hj)) none).run P w = .ok u w) ∧ Row f w0 u (xs.take h') := by
  obtain ⟨a, c, rfl, h2, h3, h4⟩ := hb
  refine ⟨_, fun w => sl_hi hT hi h' e2 (by omega) w, ?_⟩
  have hl : (xs.take h').length = h' := by simp; omega
  refine ⟨a, c, by rw [hl], by omega, h3, fun hn => ?_⟩
  obtain ⟨ad, rfl, hc⟩ := h4 (by omega)
  refine ⟨ad, rfl, fun j x hj => hc j x ?_⟩
  rw [List.getElem?_take] at hj
  split at hj
  · exact hj
  · cases hj
theorem Row.at {T e : TypeId} (hT : P.underlying T = some (.slice e)) (hi : infoB P e = true) (hs : szT P e = 1) {v : Value} {xs : List α} {w0 : World} (hb : Row f w0 v xs) {k : IntKind} {ii : Int} (i : Nat) (e1 : ii = i) (h : i < xs.length) :
    ∃ a, (∀ w, (Instr.indexAt T v (.int k ii)).run P w = .ok (.pointer (some a)) w) ∧ w0.cell? a = some (f xs[i]) := by
  obtain ⟨a, c, rfl, h3, h4, h5⟩ := hb
  obtain ⟨ad, rfl, hc⟩ := h5 (by omega)
  refine ⟨_, fun w => ix hT hi i e1 h w, ?_⟩
  rw [hs, Nat.mul_one]
  exact hc i _ (List.getElem?_eq_getElem h)
theorem TrC.row {H : Type} {enc : TypeId × Value → H} {W : World} {t e : TypeId} {v : Value} {Good : α → Prop} (ht : P.underlying t = some (.slice e)) (hc : P.cellsOf e = 1)
    (he : ∀ es, TrC enc P W e es → ∃ x, es = [f x] ∧ Good x) (h : TrC enc P W t [v]) : ∃ xs, Row f W v xs ∧ ∀ x ∈ xs, Good x := by
  rcases h.slice ht with hv | ⟨a, len, cap, hv, h1, h2, h3⟩
  · injection hv with hv
    subst hv
    exact ⟨[], ⟨none, 0, rfl, Nat.le_refl _, by omega, fun h => absurd h (by simp)⟩, by simp⟩
  · injection hv with hv
    subst hv
    have key : ∀ i, i < len → ∃ x, W.cell? (a.add i) = some (f x) ∧ Good x := by
      intro i hi
      obtain ⟨es, h4, h5⟩ := h3 i hi
      rw [hc, Nat.mul_one] at h4
      obtain ⟨c, rfl, hcell⟩ := cells_one h4
      obtain ⟨x, hx, hg⟩ := he _ h5
      injection hx with hx
      exact ⟨x, by rw [hcell, hx], hg⟩
    have all : ∀ n, n ≤ len → ∃ xs : List α, xs.length = n ∧ (∀ j x, xs[j]? = some x → W.cell? (a.add j) = some (f x)) ∧ ∀ x ∈ xs, Good x := by
      intro n
      induction n with
      | zero => intro _; exact ⟨[], rfl, by simp, by simp⟩
      | succ n ih =>
        intro hn
        obtain ⟨xs, hl, hb, hg⟩ := ih (by omega)
        obtain ⟨x, hx, hgx⟩ := key n (by omega)
        refine ⟨xs ++ [x], by simp [hl], fun j y hj => ?_, ?_⟩
        · by_cases hjn : j < xs.length
          · exact hb j y (by rwa [List.getElem?_append_left hjn] at hj)
          · have hlt := (List.getElem?_eq_some_iff.1 hj).1
            simp at hlt
            have : j = xs.length := by omega
            subst this
            simp at hj
            subst hj
            rw [hl]; exact hx
        · intro y hy
          rcases List.mem_append.1 hy with hy | hy
          · exact hg y hy
          · simp at hy; subst hy; exact hgx
    obtain ⟨xs, hl, hb, hg⟩ := all len (Nat.le_refl _)
    exact ⟨xs, ⟨some a, cap, by rw [hl], by omega, h2, fun _ => ⟨a, rfl, hb⟩⟩, hg⟩
variable {H : Type} {enc : TypeId × Value → H} {W : World} {base : Nat} {v : Value} {d : DataW H} {p : List MemPlace} {t : TypeId}
end
end Go.Sh
end
section
namespace Go.Proofs.YtcigpjejbkngfaaGreatDoor
open Go Go.Sh Go.RowKit
attribute [local irreducible] X XU XP XR CALL loopS resC closS
def wcs (p : Nat × List UInt8) : List Value := .int .i64 (p.1 : Int) :: B8 p.2
def wsL (ws : List (Nat × List UInt8)) : List Value := (ws.map wcs).flatten
theorem wsL_append (a b : List (Nat × List UInt8)) : wsL (a ++ b) = wsL a ++ wsL b := by simp [wsL]
theorem wcs_one (p : Nat × List UInt8) : ∀ v ∈ wcs p, v.oneCell' = true := by
  intro v hv
  simp only [wcs, List.mem_cons] at hv
  rcases hv with rfl | hv
  · rfl
  · exact B8_one v hv
structure Raw where
  now : List (List UInt8)
  safe : List (List UInt8)
  ws : List (Nat × List UInt8)
  dead : Bool
  fuse : Int
  done : Int
structure RawAt (w : World) (b : Nat) (r : Raw) (nv sv wv : Value) : Prop where
  blk : w.heap[b]? = some (.cells #[nv, sv, wv, .bool r.dead, .int .i64 r.fuse, .int .i64 r.done] 90 (0, 0))
  now : w.ownsRow 0 160 128 nv r.now.length (B8 r.now.flatten)
  safe : w.ownsRow 0 160 128 sv r.safe.length (B8 r.safe.flatten)
  ws : w.ownsRow 0 162 129 wv r.ws.length (wsL r.ws)
  ne : ∀ g, nv.ownBlock = some g → sv.ownBlock ≠ some g
  n128 : ∀ s ∈ r.now, s.length = 128
  s128 : ∀ s ∈ r.safe, s.length = 128
  w128 : ∀ p ∈ r.ws, p.2.length = 128
def Dk.raw (d : Dk) : Raw := ⟨d.now, d.safe, d.ws, d.dead, d.fuse, d.done⟩
def DiskAt (w : World) (b : Nat) (d : Dk) : Prop := d.ok ∧ ∃ nv sv wv, RawAt w b (Dk.raw d) nv sv wv
theorem RawAt.foot {w : World} {b : Nat} {r : Raw} {nv sv wv : Value} (h : RawAt w b r nv sv wv) {k : Nat} : foot w b k ↔ k = b ∨ nv.ownBlock = some k ∨ sv.ownBlock = some k ∨ wv.ownBlock = some k := by
  rw [foot_cells h.blk]
  simp [Value.ownBlock]
theorem RawAt.lt {w : World} {b : Nat} {r : Raw} {nv sv wv : Value} (h : RawAt w b r nv sv wv) {k : Nat} (hk : Go.Sh.foot w b k) : k < w.heap.size := by
  rcases h.foot.1 hk with rfl | h1 | h1 | h1
  · exact lt_of_blk h.blk
  · exact (h.now.lt k h1).2
  · exact (h.safe.lt k h1).2
  · exact (h.ws.lt k h1).2
theorem RawAt.keep {w w' : World} {b : Nat} {r : Raw} {nv sv wv : Value} {D : Nat → Prop} (h : RawAt w b r nv sv wv) (k : Keep D w w') (hd : ∀ k, Go.Sh.foot w b k → ¬ D k) : RawAt w' b r nv sv wv :=
  ⟨k.get (hd b (foot_self w b)) h.blk, own_keepD h.now k (fun g hg => hd g (h.foot.2 (.inr (.inl hg)))), own_keepD h.safe k (fun g hg => hd g (h.foot.2 (.inr (.inr (.inl hg))))),
    own_keepD h.ws k (fun g hg => hd g (h.foot.2 (.inr (.inr (.inr hg))))), h.ne, h.n128, h.s128, h.w128⟩
theorem RawAt.ext {w w' : World} {b : Nat} {r : Raw} {nv sv wv : Value} (h : RawAt w b r nv sv wv) (k : Ext w w') : RawAt w' b r nv sv wv := h.keep k (fun _ _ h => h)
theorem RawAt.b_ne {w : World} {b : Nat} {r : Raw} {nv sv wv : Value} (h : RawAt w b r nv sv wv) : nv.ownBlock ≠ some b ∧ sv.ownBlock ≠ some b ∧ wv.ownBlock ≠ some b :=
  ⟨own_neT h.now h.blk (by decide), own_neT h.safe h.blk (by decide), own_neT h.ws h.blk (by decide)⟩
theorem DiskAt.lt {w : World} {b : Nat} {d : Dk} (h : DiskAt w b d) : ∀ k, Go.Sh.foot w b k → k < w.heap.size := fun k hk => by
  obtain ⟨_, nv, sv, wv, h⟩ := h
  exact h.lt hk
theorem DiskAt.keep {w w' : World} {b : Nat} {d : Dk} {D : Nat → Prop} (h : DiskAt w b d) (k : Keep D w w') (hd : ∀ k, Go.Sh.foot w b k → ¬ D k) : DiskAt w' b d := by
  obtain ⟨ho, nv, sv, wv, h⟩ := h
  exact ⟨ho, nv, sv, wv, h.keep k hd⟩
theorem DiskAt.ext {w w' : World} {b : Nat} {d : Dk} (h : DiskAt w b d) (k : Ext w w') : DiskAt w' b d := h.keep k (fun _ _ h => h)
theorem RawAt.put {w : World} {b : Nat} {r : Raw} {nv sv wv : Value} (h : RawAt w b r nv sv wv) {cs' : Array Value} (r' : Raw) (e1 : r'.now = r.now) (e2 : r'.safe = r.safe) (e3 : r'.ws = r.ws)
    (e : cs' = #[nv, sv, wv, .bool r'.dead, .int .i64 r'.fuse, .int .i64 r'.done]) : RawAt (setAt w b cs' 90 (0, 0)) b r' nv sv wv ∧ Step b w (setAt w b cs' 90 (0, 0)) := by
  have k := setAt_keep w b cs' 90 (0, 0)
  have hb := setAt_same (cs := cs') (T := 90) (fr := (0, 0)) (lt_of_blk h.blk)
  obtain ⟨n1, n2, n3⟩ := h.b_ne
  have hr : RawAt (setAt w b cs' 90 (0, 0)) b r' nv sv wv := by
    refine ⟨by rw [hb, e], ?_, ?_, ?_, h.ne, by rw [e1]; exact h.n128, by rw [e2]; exact h.s128, by rw [e3]; exact h.w128⟩
    · rw [e1]; exact own_keepD h.now k (fun g hg hgb => n1 (by rw [hg, hgb]))
    · rw [e2]; exact own_keepD h.safe k (fun g hg hgb => n2 (by rw [hg, hgb]))
    · rw [e3]; exact own_keepD h.ws k (fun g hg hgb => n3 (by rw [hg, hgb]))
  refine ⟨hr, k.mono (fun i _ hi => by subst hi; exact foot_self w i), fun k' hk' => .inl ?_⟩
  exact h.foot.2 (hr.foot.1 hk')
theorem own_sec {w : World} {base : Nat} {v : Value} {l : List (List UInt8)} (ho : w.ownsRow base 160 128 v l.length (B8 l.flatten)) (h : ∀ s ∈ l, s.length = 128) {i : Nat} (hi : i < l.length) :
    ∃ g cap cur, v = .slice (some ⟨g, 0, none⟩) l.length cap ∧ w.heap[g]? = some (.cells cur 160 (0, 0)) ∧ i * 128 + 128 ≤ cur.size ∧ (cur.toList.drop (i * 128)).take 128 = B8 l[i] ∧
      ∀ x : List UInt8, x.length ≤ 128 → (setAt w g (cur.toList.take (i * 128) ++ B8 x ++ cur.toList.drop (i * 128 + (B8 x).length)).toArray 160 (0, 0)).ownsRow base 160 128 v (l.set i (x ++ l[i].drop x.length)).length (B8 (l.set i (x ++ l[i].drop x.length)).flatten) := by
  have hfl := flat_len h
  rcases id ho.2 with ⟨_, h0⟩ | ⟨g, cap, cur, hv, hg, hh, hn, hm, hs, ht⟩
  · omega
  · have hcur : l.length * 128 ≤ cur.size := by omega
    have hti : cur.toList.take (l.length * 128) = B8 l.flatten := ht
    have hat : (cur.toList.drop (i * 128)).take 128 = B8 l[i] := by
      have e := congrArg (fun x => (x.drop (i * 128)).take 128) hti
      rw [List.drop_take, List.take_take, show min 128 (l.length * 128 - i * 128) = 128 by omega] at e
      rw [e]
      unfold B8
      rw [← List.map_drop, ← List.map_take, flat_at h hi]
    refine ⟨g, cap, cur, hv, hh, by omega, hat, fun x hx => ?_⟩
    have hlen : (l.set i (x ++ l[i].drop x.length)).length = l.length := List.length_set
    have hli := h _ (List.getElem_mem hi)
    have h' : ∀ s ∈ l.set i (x ++ l[i].drop x.length), s.length = 128 := by
      refine set_all128 h i ?_
      rw [List.length_append, List.length_drop]
      omega
    refine ⟨?_, .inr ⟨g, cap, _, by rw [hlen]; exact hv, hg, setAt_same (lt_of_blk hh), by rw [hlen]; exact hn, hm, ?_, ?_⟩⟩
    · rw [B8_length, flat_len h', hlen]
    · rw [List.size_toArray, splice_len _ _ _ (by simp; omega)]
      simpa using hs
    · rw [hlen, flat_put h hi x hx, B8_append, B8_append]
      have t1 : B8 (l.flatten.take (i * 128)) = cur.toList.take (i * 128) := by
        have e := congrArg (fun x => x.take (i * 128)) hti
        rw [List.take_take, show min (i * 128) (l.length * 128) = i * 128 by omega] at e
        rw [e]; unfold B8; rw [List.map_take]
      have t2 : B8 (l.flatten.drop (i * 128 + x.length)) = (cur.toList.take (l.length * 128)).drop (i * 128 + x.length) := by
        rw [hti]; unfold B8; rw [List.map_drop]
      rw [t1, t2, B8_length]
      have e1 : (cur.toList.take (i * 128) ++ B8 x).length = i * 128 + x.length := by
        rw [List.length_append, List.length_take, B8_length, Array.length_toList]; omega
      show ((cur.toList.take (i * 128) ++ B8 x ++ cur.toList.drop (i * 128 + x.length))).take (l.length * 128) = _
      rw [List.take_append, List.take_of_length_le (by omega), e1, List.drop_take]
theorem RawAt.now_at {w : World} {b : Nat} {r : Raw} {nv sv wv : Value} (h : RawAt w b r nv sv wv) {i : Nat} (hi : i < r.now.length) :
    ∃ g cap cur, nv = .slice (some ⟨g, 0, none⟩) r.now.length cap ∧ w.heap[g]? = some (.cells cur 160 (0, 0)) ∧ i * 128 + 128 ≤ cur.size ∧ (cur.toList.drop (i * 128)).take 128 = B8 r.now[i] ∧
      ∀ x : List UInt8, x.length ≤ 128 → RawAt (setAt w g (cur.toList.take (i * 128) ++ B8 x ++ cur.toList.drop (i * 128 + (B8 x).length)).toArray 160 (0, 0)) b { r with now := r.now.set i (x ++ r.now[i].drop x.length) } nv sv wv ∧
        Step b w (setAt w g (cur.toList.take (i * 128) ++ B8 x ++ cur.toList.drop (i * 128 + (B8 x).length)).toArray 160 (0, 0)) := by
  obtain ⟨g, cap, cur, hv, hh, h1, h2, h3⟩ := own_sec h.now h.n128 hi
  refine ⟨g, cap, cur, hv, hh, h1, h2, fun x hx => ?_⟩
  have hown := h3 x hx
  have hnb : nv.ownBlock = some g := by rw [hv]; rfl
  generalize (cur.toList.take (i * 128) ++ B8 x ++ cur.toList.drop (i * 128 + (B8 x).length)).toArray = cs' at hown ⊢
  have k := setAt_keep w g cs' 160 (0, 0)
  obtain ⟨n1, n2, n3⟩ := h.b_ne
  have hgb : ¬ b = g := fun e => n1 (by rw [hnb, e])
  have hr : RawAt (setAt w g cs' 160 (0, 0)) b { r with now := r.now.set i (x ++ r.now[i].drop x.length) } nv sv wv := by
    refine ⟨k.get hgb h.blk, hown, own_keepD h.safe k (fun g' hg' e => h.ne g hnb (by rw [hg', e])), own_keepD h.ws k (fun g' hg' e => own_neO h.now h.ws (by decide) hnb (by rw [hg', e])), h.ne, ?_, h.s128, h.w128⟩
    refine set_all128 h.n128 i ?_
    have hli := h.n128 _ (List.getElem_mem hi)
    rw [List.length_append, List.length_drop]
    omega
  refine ⟨hr, k.mono (fun j _ hj => by rw [hj]; exact h.foot.2 (.inr (.inl hnb))), fun k' hk' => .inl ?_⟩
  exact h.foot.2 (hr.foot.1 hk')
theorem RawAt.append {w w1 : World} {b : Nat} {r : Raw} {nv sv wv v' : Value} (h : RawAt w b r nv sv wv) (p : Nat × List UInt8) (hp : p.2.length = 128) (k : Keep (fun k => some k = wv.ownBlock) w w1)
    (ho : ∃ base, w1.ownsRow base 162 129 v' (r.ws.length + 1) (wsL r.ws ++ wcs p)) (hn : ∀ g, v'.ownBlock = some g → wv.ownBlock = some g ∨ w.heap.size ≤ g) :
    w1.heap[b]? = some (.cells #[nv, sv, wv, .bool r.dead, .int .i64 r.fuse, .int .i64 r.done] 90 (0, 0)) ∧
    RawAt (setAt w1 b #[nv, sv, v', .bool r.dead, .int .i64 r.fuse, .int .i64 r.done] 90 (0, 0)) b { r with ws := r.ws ++ [p] } nv sv v' ∧ Step b w (setAt w1 b #[nv, sv, v', .bool r.dead, .int .i64 r.fuse, .int .i64 r.done] 90 (0, 0)) := by
  obtain ⟨n1, n2, n3⟩ := h.b_ne
  have hb1 : w1.heap[b]? = some (.cells #[nv, sv, wv, .bool r.dead, .int .i64 r.fuse, .int .i64 r.done] 90 (0, 0)) := k.get (fun e => n3 e.symm) h.blk
  obtain ⟨base, ho⟩ := ho
  have ho0 := own_base0 ho
  have k2 := setAt_keep w1 b #[nv, sv, v', .bool r.dead, .int .i64 r.fuse, .int .i64 r.done] 90 (0, 0)
  have hnow1 := own_keepD h.now k (fun g hg e => own_neO h.now h.ws (by decide) hg e.symm)
  have hsafe1 := own_keepD h.safe k (fun g hg e => own_neO h.safe h.ws (by decide) hg e.symm)
  have hr : RawAt (setAt w1 b #[nv, sv, v', .bool r.dead, .int .i64 r.fuse, .int .i64 r.done] 90 (0, 0)) b { r with ws := r.ws ++ [p] } nv sv v' := by
    refine ⟨setAt_same (lt_of_blk hb1), own_keepD hnow1 k2 (fun g hg e => n1 (by rw [hg, e])), own_keepD hsafe1 k2 (fun g hg e => n2 (by rw [hg, e])), ?_, h.ne, h.n128, h.s128, ?_⟩
    · have e1 : (r.ws ++ [p]).length = r.ws.length + 1 := by simp
      have e2 : wsL (r.ws ++ [p]) = wsL r.ws ++ wcs p := by rw [wsL_append]; simp [wsL]
      show World.ownsRow _ 0 162 129 v' (r.ws ++ [p]).length (wsL (r.ws ++ [p]))
      rw [e1, e2]
      exact own_keepD ho0 k2 (fun g hg e => own_neT ho0 hb1 (by decide) (by rw [hg, e]))
    · intro q hq
      rcases List.mem_append.1 hq with hq | hq
      · exact h.w128 q hq
      · rw [List.mem_singleton.1 hq]; exact hp
  refine ⟨hb1, hr, ?_, fun k' hk' => ?_⟩
  · refine Keep.seq (k.mono (fun i _ hi => h.foot.2 (.inr (.inr (.inr hi.symm))))) k2 (fun i _ hi => ?_)
    rw [hi]; exact foot_self w b
  · rcases hr.foot.1 hk' with h1 | h1 | h1 | h1
    · exact .inl (h.foot.2 (.inl h1))
    · exact .inl (h.foot.2 (.inr (.inl h1)))
    · exact .inl (h.foot.2 (.inr (.inr (.inl h1))))
    · rcases hn _ h1 with h2 | h2
      · exact .inl (h.foot.2 (.inr (.inr (.inr h2))))
      · exact .inr h2
theorem RawAt.clear {w : World} {b : Nat} {r : Raw} {nv sv wv : Value} (h : RawAt w b r nv sv wv) :
    RawAt (setAt w b #[nv, sv, .slice none 0 0, .bool r.dead, .int .i64 r.fuse, .int .i64 r.done] 90 (0, 0)) b { r with ws := [] } nv sv (.slice none 0 0) ∧ Step b w (setAt w b #[nv, sv, .slice none 0 0, .bool r.dead, .int .i64 r.fuse, .int .i64 r.done] 90 (0, 0)) := by
  obtain ⟨n1, n2, n3⟩ := h.b_ne
  have k := setAt_keep w b #[nv, sv, .slice none 0 0, .bool r.dead, .int .i64 r.fuse, .int .i64 r.done] 90 (0, 0)
  have hr : RawAt (setAt w b #[nv, sv, .slice none 0 0, .bool r.dead, .int .i64 r.fuse, .int .i64 r.done] 90 (0, 0)) b { r with ws := [] } nv sv (.slice none 0 0) :=
    ⟨setAt_same (lt_of_blk h.blk), own_keepD h.now k (fun g hg e => n1 (by rw [hg, e])), own_keepD h.safe k (fun g hg e => n2 (by rw [hg, e])), ⟨rfl, .inl ⟨rfl, rfl⟩⟩, h.ne, h.n128, h.s128, by intro p hp; exact absurd hp (by simp)⟩
  refine ⟨hr, k.mono (fun i _ hi => by rw [hi]; exact foot_self w b), fun k' hk' => .inl ?_⟩
  rcases hr.foot.1 hk' with h1 | h1 | h1 | h1
  · exact h.foot.2 (.inl h1)
  · exact h.foot.2 (.inr (.inl h1))
  · exact h.foot.2 (.inr (.inr (.inl h1)))
  · cases h1
end Go.Proofs.YtcigpjejbkngfaaGreatDoor
end
section
namespace Go.Proofs.YtcigpjejbkngfaaGreatDoor
open Go Go.Sh Go.RowKit
attribute [local irreducible] X XU XP XR CALL loopS resC closS
abbrev ptr (b : Nat) : Value := .pointer (some ⟨b, 0, none⟩)
abbrev i64v (n : Int) : Value := .int .i64 n
theorem run_eql_nilsl {P : Program} {T e : TypeId} (hT : P.underlying T = some (.slice e)) (a b : Operand) (p : Option Addr) (n c : Nat) (w : World) : (binOpG .eql T a b (.slice p n c) (.slice none 0 0)).run P w = .ok (.bool p.isNone) w := by
  have e1 : binOpG .eql T a b (.slice p n c) (.slice none 0 0) = (do eqGuard .eql T a b (.slice p n c) (.slice none 0 0); let r ← Op.equal T (.slice p n c) (.slice none 0 0); pure (.bool r) : Sem Value) := by cases p <;> rfl
  have e2 : (Op.equal T (.slice p n c) (.slice none 0 0)).run P w = .ok p.isNone w := by
    rw [equal_succ]
    unfold Op.equalIn
    rw [Sem.run_bind, run_underlying hT]
    cases p <;> rfl
  rw [e1, eqGuard_at_slice]
  simp only [Sem.run_bind, Sem.run_pure, Result.andThen_ok, e2]
theorem run_empty28 (w : World) : (Instr.buildSlice 28 0 #[]).run Tryz.prog w = .ok (.slice (some ⟨w.heap.size, 0, none⟩) 0 0) (newB w #[] 5) := by kernel_rfl
theorem own_emptyT (w : World) (e size : Nat) : (newB w #[] e).ownsRow w.heap.size e size (.slice (some ⟨w.heap.size, 0, none⟩) 0 0) 0 [] :=
  ⟨by simp, .inr ⟨w.heap.size, 0, #[], rfl, Nat.le_refl _, newB_get _ _ _, Nat.le_refl _, by simp [maxLen], by simp, by simp⟩⟩
theorem own_nilB (w : World) : w.ownsRow w.heap.size 5 1 (.slice none 0 0) ([] : List UInt8).length (B8 []) := World.ownsRow_nil w _ 5 1
theorem Clone_spec {v : Value} {bs : List UInt8} {w : World} {K : Value → World → Prop} (hb : Bts w v bs) (hl : bs.length ≤ 140737488355328)
    (h : ∀ v' w1, Ext w w1 → w1.ownsRow w.heap.size 5 1 v' bs.length (B8 bs) → K v' w1) : CALL Tryz.prog 23 #[v] w K := by
  obtain ⟨a, c, e⟩ := Bts.slice hb
  apply call_slices_Clone_byte
  unfold B_slices_Clone_byte
  rw [e]
  refine X_of (run_eql_nilsl Tryz.underlying28 _ _ _ _ _ _) ?_
  rw [condS_bool]
  cases a with
  | none =>
    have h0 : bs = [] := by
      obtain ⟨a', c', e', _, _, hc⟩ := hb
      rw [e] at e'
      injection e' with e1 _ _
      subst e1
      apply List.eq_nil_of_length_eq_zero
      rcases Nat.eq_zero_or_pos bs.length with h' | h'
      · exact h'
      · obtain ⟨ad, h'', _⟩ := hc h'
        cases h''
    subst h0
    show K _ _
    exact h _ _ (Keep.refl _ _) (own_nilB w)
  | some ad =>
    rw [if_neg (by simp)]
    refine X_of (run_empty28 _) ?_
    have hx := newB_ext w #[] 5
    have ho := own_emptyT w 5 1
    rw [← e]
    refine X_append_bts (base := w.heap.size) Tryz.underlying28 el_5 (xs := []) ho (hb.ext hx) (by omega) hx.size ?_
    intro v' w1 ho' hk
    rw [Nat.zero_add, List.nil_append] at ho'
    refine h v' w1 (Ext.seq hx hk (fun i hi => ?_)) ho'
    injection hi with hi
    exact Nat.le_of_eq hi.symm
theorem own_sl {w : World} {base e size n : Nat} {v : Value} {xs : List Value} (h : w.ownsRow base e size v n xs) : ∃ a c, v = .slice a n c := by
  rcases h.2 with ⟨rfl, rfl⟩ | ⟨g, cap, _, rfl, _⟩
  · exact ⟨_, _, rfl⟩
  · exact ⟨_, _, rfl⟩
section
variable {w : World} {b : Nat} {d : Dk} {K : Value → World → Prop}
theorem Size_spec (h : DiskAt w b d) (hK : K (i64v d.safe.length) w) : CALL Tryz.prog 32 #[ptr b] w K := by
  obtain ⟨ok, nv, sv, wv, h⟩ := h
  apply call_disk_Disk_Size
  unfold B_disk_Disk_Size
  simp only [X_eql_nil_54, Option.isNone_some, condS_bool, Bool.false_eq_true, if_false, X_nilS, X_field_90_0]
  refine X_loadL agg_87 h.blk rfl ?_
  obtain ⟨a, c, e⟩ := own_sl h.now
  rw [e, X_len_87, show (Dk.raw d).now.length = d.safe.length from Dk.now_length d]
  exact hK
theorem powered_spec {r : Raw} {nv sv wv : Value} (h : RawAt w b r nv sv wv)
    (hK : ∀ (p : Raw) w1, p.now = r.now → p.safe = r.safe → p.ws = r.ws → p.dead = (if r.fuse = 0 then true else r.dead) → p.fuse = (if r.fuse = 0 then -1 else if p.dead = false ∧ 0 < r.fuse then IntKind.i64.wrap (r.fuse - 1) else r.fuse) →
      p.done = (if p.dead = true then r.done else IntKind.i64.wrap (r.done + 1)) → RawAt w1 b p nv sv wv → Step b w w1 → K (i64v (if p.dead = true then 6 else 0)) w1) : CALL Tryz.prog 78 #[ptr b] w K := by
  apply call_disk_Disk_powered
  unfold B_disk_Disk_powered
  simp only [X_nilS, X_field_90_3, X_field_90_4, X_field_90_5]
  refine joinS_of (fun ρ w1 => ρ 0 = ptr b ∧ RawAt w1 b { r with dead := if r.fuse = 0 then true else r.dead, fuse := if r.fuse = 0 then -1 else r.fuse } nv sv wv ∧ Step b w w1) ?_ ?_
  · rintro ρ w1 ⟨e0, h1, s1⟩
    rw [e0]
    simp only [X_nilS, X_field_90_3, X_field_90_4, X_field_90_5]
    refine X_loadL agg_4 h1.blk rfl ?_
    rw [condS_bool]
    by_cases hd : (if r.fuse = 0 then true else r.dead) = true
    · rw [if_pos hd]
      have := hK { r with dead := if r.fuse = 0 then true else r.dead, fuse := if r.fuse = 0 then -1 else r.fuse } w1 rfl rfl rfl rfl (by
        show (if r.fuse = 0 then (-1 : Int) else r.fuse) = (if r.fuse = 0 then -1 else if (if r.fuse = 0 then true else r.dead) = false ∧ 0 < r.fuse then IntKind.i64.wrap (r.fuse - 1) else r.fuse)
        rw [hd]
        simp) (by
        show r.done = (if (if r.fuse = 0 then true else r.dead) = true then r.done else IntKind.i64.wrap (r.done + 1))
        rw [if_pos hd]) h1 s1
      rw [if_pos hd] at this
      exact this
    · rw [if_neg hd]
      have hf0 : r.fuse ≠ 0 := fun e => hd (by rw [if_pos e])
      have hd' : r.dead = false := by
        rw [if_neg hf0] at hd
        simpa using hd
      refine X_loadL agg_3 h1.blk rfl ?_
      rw [X_add]
      refine XU_store info_3 sz_3 rfl h1.blk (Nat.le_of_ble_eq_true rfl) (by show ¬ ((0 : Nat) ≤ 5 ∧ 5 < 0); omega) ?_
      obtain ⟨h2, s2⟩ := h1.put (cs' := (#[nv, sv, wv, .bool (if r.fuse = 0 then true else r.dead), .int .i64 (if r.fuse = 0 then -1 else r.fuse), .int .i64 r.done] : Array Value).setIfInBounds (0 + 5) (.int .i64 (IntKind.i64.wrap (r.done + 1))))
        { r with dead := if r.fuse = 0 then true else r.dead, fuse := if r.fuse = 0 then -1 else r.fuse, done := IntKind.i64.wrap (r.done + 1) } rfl rfl rfl rfl
      refine joinS_of (fun _ w2 => RawAt w2 b { r with dead := if r.fuse = 0 then true else r.dead, fuse := if r.fuse = 0 then -1 else if 0 < r.fuse then IntKind.i64.wrap (r.fuse - 1) else r.fuse, done := IntKind.i64.wrap (r.done + 1) } nv sv wv ∧ Step b w w2) ?_ ?_
      · rintro ρ' w2 ⟨h3, s3⟩
        have := hK { r with dead := if r.fuse = 0 then true else r.dead, fuse := if r.fuse = 0 then -1 else if 0 < r.fuse then IntKind.i64.wrap (r.fuse - 1) else r.fuse, done := IntKind.i64.wrap (r.done + 1) } w2 rfl rfl rfl rfl (by
          show (if r.fuse = 0 then (-1 : Int) else if 0 < r.fuse then IntKind.i64.wrap (r.fuse - 1) else r.fuse) = (if r.fuse = 0 then -1 else if (if r.fuse = 0 then true else r.dead) = false ∧ 0 < r.fuse then IntKind.i64.wrap (r.fuse - 1) else r.fuse)
          rw [if_neg hf0, if_neg hf0, if_neg hf0, hd']
          simp) (by
          show IntKind.i64.wrap (r.done + 1) = (if (if r.fuse = 0 then true else r.dead) = true then r.done else IntKind.i64.wrap (r.done + 1))
          rw [if_neg hd]) h3 s3
        rw [if_neg hd] at this
        exact this
      · intro J hJ
        generalize setAt w1 b _ 90 (0, 0) = w2 at h2 s2 ⊢
        refine X_loadL agg_3 h2.blk rfl ?_
        simp only [hf0, if_false, X_gtr, condS_bool]
        simp only [hf0, if_false] at h2
        by_cases hp : 0 < r.fuse
        · rw [if_pos (by simpa using hp)]
          refine X_loadL agg_3 h2.blk rfl ?_
          rw [X_sub]
          refine XU_store info_3 sz_3 rfl h2.blk (Nat.le_of_ble_eq_true rfl) (by show ¬ ((0 : Nat) ≤ 4 ∧ 4 < 0); omega) ?_
          obtain ⟨h3, s3⟩ := h2.put (cs' := (#[nv, sv, wv, .bool r.dead, .int .i64 r.fuse, .int .i64 (IntKind.i64.wrap (r.done + 1))] : Array Value).setIfInBounds (0 + 4) (.int .i64 (IntKind.i64.wrap (r.fuse - 1))))
            { r with fuse := IntKind.i64.wrap (r.fuse - 1), done := IntKind.i64.wrap (r.done + 1) } rfl rfl rfl rfl
          refine hJ _ _ ⟨?_, s1.trans (s2.trans s3)⟩
          simp only [hf0, if_false, hp, if_true]
          exact h3
        · rw [if_neg (by simpa using hp)]
          refine hJ _ _ ⟨?_, s1.trans s2⟩
          simp only [hf0, if_false, hp, if_false]
          exact h2
  · intro J hJ
    refine X_loadL agg_3 h.blk rfl ?_
    rw [X_eql, condS_bool]
    by_cases hf : r.fuse = 0
    · rw [if_pos (by simpa using hf)]
      refine XU_store info_4 sz_4 rfl h.blk (Nat.le_of_ble_eq_true rfl) (by show ¬ ((0 : Nat) ≤ 3 ∧ 3 < 0); omega) ?_
      obtain ⟨h1, s1⟩ := h.put (cs' := (#[nv, sv, wv, .bool r.dead, .int .i64 r.fuse, .int .i64 r.done] : Array Value).setIfInBounds (0 + 3) (.bool true)) { r with dead := true } rfl rfl rfl rfl
      generalize setAt w b _ 90 (0, 0) = w1 at h1 s1 ⊢
      refine XU_store info_3 sz_3 rfl h1.blk (Nat.le_of_ble_eq_true rfl) (by show ¬ ((0 : Nat) ≤ 4 ∧ 4 < 0); omega) ?_
      obtain ⟨h2, s2⟩ := h1.put (cs' := (#[nv, sv, wv, .bool true, .int .i64 r.fuse, .int .i64 r.done] : Array Value).setIfInBounds (0 + 4) (.int .i64 (-1))) { r with dead := true, fuse := -1 } rfl rfl rfl rfl
      refine hJ _ _ ⟨rfl, ?_, s1.trans s2⟩
      simp only [hf, if_true]
      exact h2
    · rw [if_neg (by simpa using hf)]
      refine hJ _ _ ⟨rfl, ?_, Step.refl⟩
      simp only [hf, if_false]
      exact h
theorem powered_spec' {nv sv wv : Value} (hok : d.ok) (h : RawAt w b (Dk.raw d) nv sv wv)
    (h0 : d.trip.dead = true → ∀ w1, RawAt w1 b (Dk.raw d.trip) nv sv wv → Step b w w1 → K (i64v 6) w1)
    (h1 : d.trip.dead = false → ∀ w1, RawAt w1 b (Dk.raw d.trip.tick) nv sv wv → Step b w w1 → K (i64v 0) w1) : CALL Tryz.prog 78 #[ptr b] w K := by
  refine powered_spec h ?_
  rintro ⟨pn, ps, pw, pd, pf, pdn⟩ w1 e1 e2 e3 e4 e5 e6 hr hs
  simp only at e1 e2 e3 e4 e5 e6
  have et : d.trip.dead = pd := by
    rw [e4]
    show (Dk.trip d).dead = (if d.fuse = 0 then true else d.dead)
    unfold Dk.trip
    split <;> rfl
  have ef : (Dk.trip d).fuse = if d.fuse = 0 then -1 else d.fuse := by unfold Dk.trip; split <;> rfl
  by_cases hd : pd = true
  · rw [if_pos hd]
    refine h0 (by rw [et, hd]) w1 ?_ hs
    have er : Dk.raw d.trip = ⟨pn, ps, pw, pd, pf, pdn⟩ := by
      unfold Dk.raw Dk.now
      rw [Dk.trip_safe, Dk.trip_ws, Dk.trip_done, et, ef, e1, e2, e3, e5, e6, if_pos hd, hd]
      simp [Dk.raw, Dk.now]
    rw [er]; exact hr
  · have hd' : pd = false := by simpa using hd
    rw [if_neg hd]
    refine h1 (by rw [et, hd']) w1 ?_ hs
    have hf0 : d.fuse ≠ 0 := by
      intro e
      rw [hd'] at e4
      have : (Dk.raw d).fuse = 0 := e
      rw [if_pos this] at e4
      cases e4
    have hr0 : (Dk.raw d).fuse = d.fuse := rfl
    have er : Dk.raw d.trip.tick = ⟨pn, ps, pw, pd, pf, pdn⟩ := by
      have t1 : d.trip.tick.safe = d.safe := Dk.trip_safe d
      have t2 : d.trip.tick.ws = d.ws := Dk.trip_ws d
      have t3 : d.trip.tick.dead = d.trip.dead := rfl
      have t4 : d.trip.tick.done = IntKind.i64.wrap (d.done + 1) := by show IntKind.i64.wrap (d.trip.done + 1) = _; rw [Dk.trip_done]
      have t5 : d.trip.tick.fuse = if 0 < d.fuse then d.fuse - 1 else d.fuse := by
        show (if 0 < d.trip.fuse then d.trip.fuse - 1 else d.trip.fuse) = _
        rw [ef, if_neg hf0]
      unfold Dk.raw Dk.now
      rw [t1, t2, t3, t4, t5, et, e1, e2, e3, e5, e6, hd', hr0, if_neg hf0]
      have hw : 0 < d.fuse → IntKind.i64.wrap (d.fuse - 1) = d.fuse - 1 := fun hp => w64 (by omega) (by have := hok.2.2.2.2; omega)
      by_cases hp : 0 < d.fuse
      · rw [if_pos hp, if_pos ⟨rfl, hp⟩, hw hp]
        simp [Dk.raw, Dk.now]
      · rw [if_neg hp, if_neg (fun h => hp h.2)]
        simp [Dk.raw, Dk.now]
    rw [er]; exact hr
end
end Go.Proofs.YtcigpjejbkngfaaGreatDoor
end
section
namespace Go.Proofs.YtcigpjejbkngfaaGreatDoor
open Go Go.Sh Go.RowKit
attribute [local irreducible] X XU XP XR CALL loopS resC closS
theorem run_build_162 (n : Int) (w : World) : (Instr.build 162 #[(0, .int .i64 n)]).run Tryz.prog w = .ok (.agg (.int .i64 n :: List.replicate 128 (Value.int .u8 0)).toArray) w := by kernel_rfl
theorem B8_zeros (n : Nat) : B8 (List.replicate n 0) = List.replicate n (Value.int .u8 0) := by simp [B8]
theorem szm_5 : (Tryz.prog.info? 5).map (·.size) = some 1 := by kernel_rfl
theorem blk_get {w : World} {b o : Nat} {cs : Array Value} {T : TypeId} {fr : Nat × Nat} {v : Value} (hb : w.heap[b]? = some (.cells cs T fr)) (hv : cs[o]? = some v) : w.cell? ⟨b, o, none⟩ = some v := (cell_blk hb).trans hv
theorem padB_cells (a : Int) (bs : List UInt8) (h : bs.length ≤ 128) :
    ((Value.int .i64 a :: List.replicate 128 (Value.int .u8 0)).take 1 ++ B8 (bs.take 128) ++ (Value.int .i64 a :: List.replicate 128 (Value.int .u8 0)).drop (1 + min bs.length 128)) = .int .i64 a :: B8 (padB bs) := by
  have e1 : bs.take 128 = bs := List.take_of_length_le h
  have e2 : 1 + min bs.length 128 = bs.length + 1 := by omega
  rw [e1, e2, List.drop_succ_cons, List.drop_replicate]
  unfold padB
  rw [B8_append, B8_zeros]
  rfl
section
variable {w : World} {b : Nat} {d : Dk} {K : Value → World → Prop}
theorem Write_spec {at_ : Int} {v : Value} {bs : List UInt8} (h : DiskAt w b d) (hw : d.ws.length ≤ 1000000) (hb : Bts w v bs) (hnb : 0 < bs.length → ∀ k, v.ownBlock = some k → ¬ foot w b k)
    (hK : ∀ w1, DiskAt w1 b (d.write at_ bs).1 → Step b w w1 → K (i64v (d.write at_ bs).2) w1) : CALL Tryz.prog 50 #[ptr b, i64v at_, v] w K := by
  have hd0 := h
  obtain ⟨ok, nv, sv, wv, h⟩ := h
  obtain ⟨av, cv, ev⟩ := Bts.slice hb
  subst ev
  obtain ⟨an, cn, en⟩ := own_sl h.now
  have enl : (Dk.raw d).now.length = d.safe.length := Dk.now_length d
  apply call_disk_Disk_Write
  unfold B_disk_Disk_Write
  simp only [X_eql_nil_54, Option.isNone_some, condS_bool, Bool.false_eq_true, if_false, X_lss, gstep_bool]
  have bad : at_ < 0 ∨ (d.safe.length : Int) ≤ at_ ∨ 128 < bs.length → K (i64v 1) w := by
    intro hbad
    have e : d.write at_ bs = (d, 1) := by unfold Dk.write; rw [if_pos hbad]
    have := hK w (by rw [e]; exact hd0) Step.refl
    rw [e] at this
    exact this
  by_cases hneg : at_ < 0
  · have e1 : decide (at_ < 0) = true := by simpa using hneg
    simp only [e1, Bool.true_eq_false, if_false, X_pick, if_true, gstep_bool, condS_bool]
    exact bad (.inl hneg)
  have e1 : decide (at_ < 0) = false := by simpa using hneg
  simp only [e1, if_true, X_nilS, X_field_90_0]
  refine X_loadL agg_87 h.blk rfl ?_
  rw [en, enl]
  simp only [X_len_87, X_geq, X_pick, gstep_bool, Bool.false_eq_true, if_false]
  by_cases hge : (d.safe.length : Int) ≤ at_
  · have e2 : decide (at_ ≥ (d.safe.length : Int)) = true := by simpa using hge
    simp only [e2, Bool.true_eq_false, if_false, X_pick, if_true, gstep_bool, condS_bool]
    exact bad (.inr (.inl hge))
  have e2 : decide (at_ ≥ (d.safe.length : Int)) = false := by simpa using hge
  simp only [e2, if_true, X_len_28, X_gtr, X_pick, Bool.false_eq_true, if_false, condS_bool]
  by_cases hlen : 128 < bs.length
  · rw [if_pos (by simp; omega)]
    exact bad (.inr (.inr hlen))
  rw [if_neg (by simp; omega)]
  have hgood : ¬ (at_ < 0 ∨ (d.safe.length : Int) ≤ at_ ∨ 128 < bs.length) := by omega
  obtain ⟨i, rfl⟩ : ∃ i : Nat, at_ = (i : Int) := ⟨at_.toNat, by omega⟩
  have hi : i < d.safe.length := by omega
  refine powered_spec' ok h (fun hd w1 h1 s1 => ?_) (fun hd w1 h1 s1 => ?_)
  · have e6 : decide ((6 : Int) ≠ 0) = true := by decide
    simp only [X_neq, e6, condS_bool, if_true]
    have e : d.write (i : Int) bs = (d.trip, 6) := by unfold Dk.write; rw [if_neg hgood, if_pos hd]
    have := hK w1 (by rw [e]; exact ⟨Dk.trip_ok ok, nv, sv, wv, h1⟩) s1
    rw [e] at this
    exact this
  have e6 : decide ((0 : Int) ≠ 0) = false := by decide
  simp only [X_neq, e6, condS_bool, Bool.false_eq_true, if_false]
  have hdf : ¬ d.trip.dead = true := by rw [hd]; decide
  have ew : d.write (i : Int) bs = ({ d.trip.tick with ws := d.ws ++ [(i, padB bs)] }, 0) := by unfold Dk.write; rw [if_neg hgood, if_neg hdf]; simp
  have hpl : (padB bs).length = 128 := padB_len (by omega)
  -- the record
  refine X_of (run_build_162 _ _) ?_
  refine X_alloc zero_162 ?_
  have hq := newB_get w1 ([Value.int .i64 0] ++ List.replicate 128 (Value.int .u8 0)).toArray 162
  have hxq := newB_ext w1 ([Value.int .i64 0] ++ List.replicate 128 (Value.int .u8 0)).toArray 162
  show XU _ _ (newB w1 ([Value.int .i64 0] ++ List.replicate 128 (Value.int .u8 0)).toArray 162) _
  generalize newB w1 ([Value.int .i64 0] ++ List.replicate 128 (Value.int .u8 0)).toArray 162 = w2 at hq hxq ⊢
  have hqn : ∀ k, foot w1 b k → k ≠ w1.heap.size := fun k hk => by have := h1.lt hk; omega
  generalize hqe : w1.heap.size = q at hq hqn ⊢
  refine XU_storeAgg info_162 hq (by rw [sz_162]; simp) (by rw [sz_162]; simp) (by
    intro u hu
    simp only [List.mem_cons, List.mem_replicate] at hu
    rcases hu with rfl | ⟨_, rfl⟩ <;> rfl) ?_
  have hq2 := setAt_same (cs := (Value.int .i64 (i : Int) :: List.replicate 128 (Value.int .u8 0)).toArray) (T := 162) (fr := (0, 0)) (lt_of_blk hq)
  have hx2 : Ext w1 (setAt w2 q (Value.int .i64 (i : Int) :: List.replicate 128 (Value.int .u8 0)).toArray 162 (0, 0)) := Ext.seq hxq (setAt_keep _ _ _ _ _) (fun j hj => by omega)
  generalize setAt w2 q (Value.int .i64 (i : Int) :: List.replicate 128 (Value.int .u8 0)).toArray 162 (0, 0) = w3 at hq2 hx2 ⊢
  simp only [X_field_162_1, Nat.zero_add]
  refine X_of (run_slice_arr_all Tryz.underlying160 info_5 _ _) ?_
  have hb3 : Bts w3 (.slice av bs.length cv) bs := (hb.keep' s1.keep hnb).ext hx2
  refine X_copy_bts Tryz.underlying28 szm_5 hq2 hb3 (by simp; omega) ?_
  intro w4 hq4 hz4 hk4
  have hcs : ((Value.int .i64 (i : Int) :: List.replicate 128 (Value.int .u8 0)).toArray.toList.take 1 ++ B8 (bs.take 128) ++ (Value.int .i64 (i : Int) :: List.replicate 128 (Value.int .u8 0)).toArray.toList.drop (1 + min bs.length 128)) = wcs (i, padB bs) := padB_cells _ _ (by omega)
  rw [hcs] at hq4
  have hx4 : Ext w1 w4 := Ext.seq hx2 hk4 (fun j hj => by omega)
  have h4 := h1.ext hx4
  have hwl : (wcs (i, padB bs)).length = 129 := by simp [wcs, hpl]
  refine ⟨Keep (fun k => some k = wv.ownBlock), Keep.frame _, ?_⟩
  try simp only [XP_nilS, XP_field_90_2]
  have h4d : RawAt (drewW w4) b (Dk.raw d.trip.tick) nv sv wv := h4.ext (Keep.drew _ _)
  have hq4d : (drewW w4).heap[q]? = some (.cells (wcs (i, padB bs)).toArray 162 (0, 0)) := hq4
  obtain ⟨n1, n2, n3⟩ := h4d.b_ne
  have hqw : ¬ some q = wv.ownBlock := fun e => hqn q (h1.foot.2 (.inr (.inr (.inr e.symm)))) rfl
  refine XR_ok (Keep.frame _) (fun w' k => run_loadAt agg_88 (blk_get (k.get (fun e => n3 e.symm) h4d.blk) (v := wv) rfl)) ?_
  have hld : ((wcs (i, padB bs)).toArray.toList.drop 0).take (szT Tryz.prog 162) = wcs (i, padB bs) := by
    rw [sz_162]
    exact List.take_of_length_le (by simp [hwl])
  refine XR_ok (Keep.frame _) (fun w' k => run_loadAgg Tryz.underlying162 agg_162 info_162 (k.get hqw hq4d) hld (by rw [sz_162, hwl])) ?_
  refine X_buildSliceAgg Tryz.underlying88 el_162 (by decide) (by decide) hwl ?_
  have hx5 := newB_ext (drewW w4) (wcs (i, padB bs)).toArray 162
  have hg5 := newB_get (drewW w4) (wcs (i, padB bs)).toArray 162
  refine ⟨hx5.ext, ?_⟩
  generalize hne : newB (drewW w4) (wcs (i, padB bs)).toArray 162 = w5 at hx5 hg5 ⊢
  have h5 := h4d.ext hx5
  have et : (Dk.raw d.trip.tick).ws = d.ws := Dk.trip_ws d
  refine X_appendW (base := 0) Tryz.underlying88 el_162 (by decide) h5.ws (news := wcs (i, padB bs)) (by rw [hwl]) ?_ (wcs_one _) (by rw [et]; omega) (by decide) (Nat.zero_le _) ?_
  · intro j u hj
    rw [add_plain, Nat.zero_add, cell_blk hg5]
    simpa using hj
  intro v' w6 ho6 hk6 hn6
  refine ⟨hk6, ?_⟩
  try simp only [XP_nilS, XP_field_90_2]
  obtain ⟨hb6, h7, s7⟩ := h5.append (i, padB bs) hpl hk6 ⟨0, ho6⟩ hn6
  refine XU_store info_88 sz_88 (by obtain ⟨_, _, e⟩ := own_sl ho6; rw [e]; rfl) hb6 (Nat.le_of_ble_eq_true rfl) (by show ¬ ((0 : Nat) ≤ 0 + 2 ∧ 0 + 2 < 0); omega) ?_
  have hq7 : (setAt w6 b #[nv, sv, v', .bool (Dk.raw d.trip.tick).dead, .int .i64 (Dk.raw d.trip.tick).fuse, .int .i64 (Dk.raw d.trip.tick).done] 90 (0, 0)).heap[q]? = some (.cells (wcs (i, padB bs)).toArray 162 (0, 0)) :=
    (setAt_other (fun e => hqn q (h1.foot.2 (.inl e)) rfl)).trans (hk6.get hqw (hx5.get hq4d))
  show ∃ R, Frame? R ∧ XP _ _ (drewW (setAt w6 b #[nv, sv, v', .bool (Dk.raw d.trip.tick).dead, .int .i64 (Dk.raw d.trip.tick).fuse, .int .i64 (Dk.raw d.trip.tick).done] 90 (0, 0))) _
  generalize setAt w6 b #[nv, sv, v', .bool (Dk.raw d.trip.tick).dead, .int .i64 (Dk.raw d.trip.tick).fuse, .int .i64 (Dk.raw d.trip.tick).done] 90 (0, 0) = w7 at h7 s7 hq7 ⊢
  refine ⟨Ext, Ext.frame, ?_⟩
  try simp only [XP_nilS, XP_field_90_0, XP_field_162_1, Nat.zero_add]
  have h7d : RawAt (drewW w7) b { Dk.raw d.trip.tick with ws := (Dk.raw d.trip.tick).ws ++ [(i, padB bs)] } nv sv v' := h7.ext (Keep.drew _ _)
  have hq7d : (drewW w7).heap[q]? = some (.cells (wcs (i, padB bs)).toArray 162 (0, 0)) := hq7
  refine XR_ok Ext.frame (fun w' k => run_loadAt agg_87 (blk_get (k.get h7d.blk) (v := nv) rfl)) ?_
  have hld2 : ((wcs (i, padB bs)).toArray.toList.drop 1).take (szT Tryz.prog 160) = B8 (padB bs) := by
    rw [sz_160]
    show (B8 (padB bs)).take 128 = _
    exact List.take_of_length_le (by simp [hpl])
  refine XR_ok Ext.frame (fun w' k => run_loadAgg Tryz.underlying160 agg_160 info_160 (k.get hq7d) hld2 (by rw [sz_160, B8_length, hpl])) ?_
  have enow : (Dk.raw d.trip.tick).now = d.now := by
    show putAll d.trip.safe d.trip.ws = _
    rw [Dk.trip_safe, Dk.trip_ws]; rfl
  have hin : i < ({ Dk.raw d.trip.tick with ws := (Dk.raw d.trip.tick).ws ++ [(i, padB bs)] } : Raw).now.length := by
    show i < (Dk.raw d.trip.tick).now.length
    rw [enow, Dk.now_length]; exact hi
  obtain ⟨g, cap, cur, hnv, hg, hfit, hold, hput⟩ := h7d.now_at hin
  obtain ⟨h8, s8⟩ := hput (padB bs) (by omega)
  rw [hnv]
  refine XP_of (fun w => ix Tryz.underlying87 info_160 i rfl hin w) ?_
  rw [sz_160, add_plain, Nat.zero_add]
  refine XU_storeAggAt info_160 hg (by rw [B8_length, hpl]; exact hfit) (by rw [sz_160, B8_length, hpl]) B8_one ?_
  have hs : Step b w (setAt (drewW w7) g (cur.toList.take (i * 128) ++ B8 (padB bs) ++ cur.toList.drop (i * 128 + (B8 (padB bs)).length)).toArray 160 (0, 0)) := by
    have hbw : ∀ {x : World}, RawAt x b (Dk.raw d.trip.tick) nv sv wv → b < x.heap.size := fun h => lt_of_blk h.blk
    refine s1.trans ((Step.ext hx4 (hbw h1)).trans ((Step.ext (Keep.drew _ _) (hbw h4)).trans ((Step.ext hx5 (hbw h4d)).trans (s7.trans ((Step.ext (Keep.drew _ _) (lt_of_blk h7.blk)).trans s8)))))
  have := hK _ (by
    refine ⟨Dk.write_ok ok _ _, nv, sv, v', ?_⟩
    have er : Dk.raw (d.write (i : Int) bs).1 = { ({ Dk.raw d.trip.tick with ws := (Dk.raw d.trip.tick).ws ++ [(i, padB bs)] } : Raw) with now := ({ Dk.raw d.trip.tick with ws := (Dk.raw d.trip.tick).ws ++ [(i, padB bs)] } : Raw).now.set i (padB bs ++ (({ Dk.raw d.trip.tick with ws := (Dk.raw d.trip.tick).ws ++ [(i, padB bs)] } : Raw).now[i]'hin).drop (padB bs).length) } := by
      rw [ew]
      have ed : (({ Dk.raw d.trip.tick with ws := (Dk.raw d.trip.tick).ws ++ [(i, padB bs)] } : Raw).now[i]'hin).drop (padB bs).length = [] := by
        apply List.drop_eq_nil_of_le
        have := h7d.n128 _ (List.getElem_mem hin)
        omega
      rw [ed, List.append_nil]
      have e1 : (Dk.now { d.trip.tick with ws := d.ws ++ [(i, padB bs)] }) = (Dk.raw d.trip.tick).now.set i (padB bs) := by
        rw [enow]
        show putAll d.trip.safe (d.ws ++ [(i, padB bs)]) = _
        rw [Dk.trip_safe, putAll_append]
        rfl
      show Raw.mk (Dk.now { d.trip.tick with ws := d.ws ++ [(i, padB bs)] }) _ _ _ _ _ = Raw.mk _ _ _ _ _ _
      rw [e1, et]
      rfl
    rw [er]
    exact h8) hs
  rw [ew] at this
  exact this
end
end Go.Proofs.YtcigpjejbkngfaaGreatDoor
end
section
namespace Go.Proofs.YtcigpjejbkngfaaGreatDoor
open Go Go.Sh Go.RowKit
attribute [local irreducible] X XU XP XR CALL loopS resC closS
section
variable {w : World} {b : Nat} {d : Dk} {K : Value → World → Prop}
theorem Read_spec {at_ : Int} (h : DiskAt w b d) (hK : ∀ v w1, Ext w w1 → w1.ownsRow w.heap.size 5 1 v (d.read at_).1.length (B8 (d.read at_).1) → K (.tuple #[v, i64v (d.read at_).2]) w1) : CALL Tryz.prog 91 #[ptr b, i64v at_] w K := by
  obtain ⟨ok, nv, sv, wv, h⟩ := h
  obtain ⟨an, cn, en⟩ := own_sl h.now
  have enl : (Dk.raw d).now.length = d.safe.length := Dk.now_length d
  apply call_disk_Disk_Read
  unfold B_disk_Disk_Read
  simp only [X_eql_nil_54, Option.isNone_some, condS_bool, Bool.false_eq_true, if_false, X_lss, gstep_bool]
  have bad : at_ < 0 ∨ (d.safe.length : Int) ≤ at_ → K (.tuple #[.slice none 0 0, i64v 1]) w := by
    intro hbad
    have e : d.read at_ = ([], 1) := by unfold Dk.read; rw [if_pos hbad]
    have := hK (.slice none 0 0) w (Keep.refl _ _) (by rw [e]; exact own_nilB w)
    rw [e] at this
    exact this
  by_cases hneg : at_ < 0
  · have e1 : decide (at_ < 0) = true := by simpa using hneg
    simp only [e1, Bool.true_eq_false, if_false, X_pick, if_true, gstep_bool, condS_bool]
    exact bad (.inl hneg)
  have e1 : decide (at_ < 0) = false := by simpa using hneg
  simp only [e1, if_true, X_nilS, X_field_90_0, X_field_90_3]
  refine X_loadL agg_87 h.blk rfl ?_
  rw [en, enl]
  simp only [X_len_87, X_geq, X_pick, condS_bool, Bool.false_eq_true, if_false]
  by_cases hge : (d.safe.length : Int) ≤ at_
  · rw [if_pos (by simpa using hge)]
    exact bad (.inr hge)
  rw [if_neg (by simpa using hge)]
  have hgood : ¬ (at_ < 0 ∨ (d.safe.length : Int) ≤ at_) := by omega
  refine X_loadL agg_4 h.blk rfl ?_
  rw [condS_bool]
  by_cases hd : d.dead = true
  · rw [if_pos (by exact hd)]
    have e : d.read at_ = ([], 6) := by unfold Dk.read; rw [if_neg hgood, if_pos hd]
    have := hK (.slice none 0 0) w (Keep.refl _ _) (by rw [e]; exact own_nilB w)
    rw [e] at this
    exact this
  rw [if_neg (by exact hd)]
  refine X_loadL agg_87 h.blk rfl ?_
  obtain ⟨i, rfl⟩ : ∃ i : Nat, at_ = (i : Int) := ⟨at_.toNat, by omega⟩
  have hi : i < (Dk.raw d).now.length := by rw [enl]; omega
  obtain ⟨g, cap, cur, hnv, hg, hfit, hold, hput⟩ := h.now_at hi
  have h128 := h.n128 _ (List.getElem_mem hi)
  rw [hnv]
  refine X_of (ix Tryz.underlying87 info_160 i rfl hi _) ?_
  rw [sz_160, add_plain, Nat.zero_add]
  refine X_of (run_slice_arr_all Tryz.underlying160 info_5 _ _) ?_
  have e : d.read (i : Int) = ((Dk.raw d).now[i], 0) := by
    unfold Dk.read
    rw [if_neg hgood, if_neg hd]
    show (d.now.getD ((i : Int).toNat) [], (0 : Int)) = _
    rw [List.getD_eq_getElem?_getD, Int.toNat_natCast, List.getElem?_eq_getElem (show i < d.now.length from hi)]
    rfl
  have hb : Bts w (.slice (some ⟨g, i * 128, none⟩) (Dk.raw d).now[i].length 128) (Dk.raw d).now[i] := by
    refine ⟨_, _, rfl, by omega, by omega, fun _ => ⟨_, rfl, fun j u hj => ?_⟩⟩
    rw [add_plain, cell_blk hg]
    have hc := congrArg (fun x => x[j]?) hold
    simp only [B8_getElem?, hj, List.getElem?_take, List.getElem?_drop, Option.map_some] at hc
    split at hc
    · rw [← hc]; simp
    · cases hc
  rw [h128] at hb
  refine Clone_spec hb (by omega) ?_
  intro v' w1 hx ho
  have := hK v' w1 hx (by rw [e]; exact ho)
  rw [e] at this
  exact this
theorem run_build_90 (a a' : Option Addr) (n c n' c' : Nat) (w : World) : (Instr.build 90 #[(0, .slice a n c), (1, .slice a' n' c'), (4, .int .i64 (-1))]).run Tryz.prog w = .ok (.agg #[.slice a n c, .slice a' n' c', .slice none 0 0, .bool false, .int .i64 (-1), .int .i64 0]) w := by kernel_rfl
theorem madeCells_const (v : Value) (m n : Nat) (hm : 0 < m) : madeCells (List.replicate m v).toArray n = (List.replicate n v).toArray := by
  unfold madeCells
  apply Array.ext
  · simp
  · intro i h1 h2
    simp only [Array.getElem_map, Array.getElem_range, List.size_toArray, List.length_replicate]
    have hlt : i % m < m := Nat.mod_lt _ hm
    rw [getElem!_pos _ _ (by simpa using hlt)]
    simp
theorem new_sectors (n : Nat) : madeCells (Value.agg (List.replicate 128 (Value.int .u8 0)).toArray).cells (n * 128) = (B8 (List.replicate n (List.replicate 128 0)).flatten).toArray := by
  have e : (Value.agg (List.replicate 128 (Value.int .u8 0)).toArray).cells = (List.replicate 128 (Value.int .u8 0)).toArray := rfl
  rw [e, madeCells_const _ _ _ (by decide), List.flatten_replicate_replicate, B8_zeros]
theorem New_disk {n : Int} (hbad : n < 0 ∨ 16384 < n → K (.tuple #[.pointer none, i64v 1]) w)
    (hgood : ∀ m : Nat, n = m → m ≤ 16384 → ∀ b w1, Ext w w1 → (∀ k, foot w1 b k → w.heap.size ≤ k) → DiskAt w1 b (Dk.new m) → K (.tuple #[ptr b, i64v 0]) w1) : CALL Tryz.prog 13 #[i64v n] w K := by
  apply call_disk_New
  unfold B_disk_New
  simp only [X_lss, gstep_bool, X_gtr, X_pick, condS_bool]
  by_cases hneg : n < 0
  · have e1 : decide (n < 0) = true := by simpa using hneg
    simp only [e1, Bool.true_eq_false, if_false, X_pick, if_true, gstep_bool, condS_bool]
    exact hbad (.inl hneg)
  have e1 : decide (n < 0) = false := by simpa using hneg
  simp only [e1, if_true, X_gtr, X_pick, Bool.false_eq_true, if_false, condS_bool]
  by_cases hbig : 16384 < n
  · rw [if_pos (by simpa using hbig)]
    exact hbad (.inr hbig)
  rw [if_neg (by simpa using hbig)]
  obtain ⟨m, rfl⟩ : ∃ m : Nat, n = (m : Int) := ⟨n.toNat, by omega⟩
  have hm : m ≤ 16384 := by omega
  have hx0 := Keep.drew (fun _ => False) w
  have hsz0 : (drewW w).heap.size = w.heap.size := rfl
  have key : ∀ (g1 g2 : Nat) (w2 : World), Ext (drewW w) w2 → w.heap.size ≤ g1 → w.heap.size ≤ g2 → g1 ≠ g2 → w2.heap[g1]? = some (.cells (B8 (List.replicate m (List.replicate 128 0)).flatten).toArray 160 (0, 0)) → w2.heap[g2]? = some (.cells (B8 (List.replicate m (List.replicate 128 0)).flatten).toArray 160 (0, 0)) →
      XP Tryz.prog (Instr.build 90 #[(0, .slice (some ⟨g1, 0, none⟩) m m), (1, .slice (some ⟨g2, 0, none⟩) m m), (4, (.int .i64 (-1)))]) w2 fun v6 w3 => X Tryz.prog (Instr.box 90 v6) w3 fun v7 w4 => K (.tuple #[v7, (.int .i64 0)]) w4 := by
    intro g1 g2 w2 hx hg1 hg2 hne h1 h2
    refine XP_of (fun w => run_build_90 _ _ _ _ _ _ w) ?_
    refine X_box ?_
    have hb := newB_get w2 (Value.agg #[.slice (some ⟨g1, 0, none⟩) m m, .slice (some ⟨g2, 0, none⟩) m m, .slice none 0 0, .bool false, .int .i64 (-1), .int .i64 0]).cells 90
    have hxb := newB_ext w2 (Value.agg #[.slice (some ⟨g1, 0, none⟩) m m, .slice (some ⟨g2, 0, none⟩) m m, .slice none 0 0, .bool false, .int .i64 (-1), .int .i64 0]).cells 90
    have hlen : (B8 (List.replicate m (List.replicate 128 0)).flatten).length = m * 128 := by rw [B8_length, flat_len (n := 128) (by intro s hs; rw [(List.mem_replicate.1 hs).2]; simp)]; simp
    have own : ∀ g, w2.heap[g]? = some (.cells (B8 (List.replicate m (List.replicate 128 0)).flatten).toArray 160 (0, 0)) → (newB w2 (Value.agg #[.slice (some ⟨g1, 0, none⟩) m m, .slice (some ⟨g2, 0, none⟩) m m, .slice none 0 0, .bool false, .int .i64 (-1), .int .i64 0]).cells 90).ownsRow 0 160 128 (.slice (some ⟨g, 0, none⟩) m m) m (B8 (List.replicate m (List.replicate 128 0)).flatten) := fun g hg =>
      ⟨hlen, .inr ⟨g, m, _, rfl, Nat.zero_le _, hxb.get hg, Nat.le_refl _, by simp only [maxLen]; omega, by rw [List.size_toArray, hlen], by rw [List.take_of_length_le (by simp [hlen])]⟩⟩
    have hraw : RawAt (newB w2 (Value.agg #[.slice (some ⟨g1, 0, none⟩) m m, .slice (some ⟨g2, 0, none⟩) m m, .slice none 0 0, .bool false, .int .i64 (-1), .int .i64 0]).cells 90) w2.heap.size (Dk.raw (Dk.new m)) (.slice (some ⟨g1, 0, none⟩) m m) (.slice (some ⟨g2, 0, none⟩) m m) (.slice none 0 0) := by
      have ok := Dk.new_ok hm
      have hl : (List.replicate m (List.replicate 128 (0 : UInt8))).length = m := by simp
      refine ⟨hb, ?_, ?_, ⟨rfl, .inl ⟨rfl, rfl⟩⟩, ?_, Dk.now_128 ok, ok.1, by intro p hp; exact absurd hp (by simp [Dk.raw, Dk.new])⟩
      · show World.ownsRow _ 0 160 128 _ (List.replicate m (List.replicate 128 (0 : UInt8))).length (B8 (List.replicate m (List.replicate 128 0)).flatten)
        rw [hl]; exact own g1 h1
      · show World.ownsRow _ 0 160 128 _ (List.replicate m (List.replicate 128 (0 : UInt8))).length (B8 (List.replicate m (List.replicate 128 0)).flatten)
        rw [hl]; exact own g2 h2
      · intro g hg hg'
        have e1 : g1 = g := by simpa [Value.ownBlock] using hg
        have e2 : g2 = g := by simpa [Value.ownBlock] using hg'
        exact hne (by rw [e1, e2])
    refine hgood m rfl hm _ _ (hx0.trans (hx.trans hxb)) ?_ ⟨Dk.new_ok hm, _, _, _, hraw⟩
    intro k hk
    rcases hraw.foot.1 hk with h | h | h | h
    · have := hx.size; omega
    · have : g1 = k := by simpa [Value.ownBlock] using h
      omega
    · have : g2 = k := by simpa [Value.ownBlock] using h
      omega
    · cases h
  refine ⟨Ext, Ext.frame, ?_, ?_⟩
  · refine X_make Tryz.underlying87 el_160 m m rfl rfl (Nat.le_refl _) (by omega) (by omega) ?_
    refine X_make Tryz.underlying87 el_160 m m rfl rfl (Nat.le_refl _) (by omega) (by omega) ?_
    rw [new_sectors]
    have hx1 := newB_ext (drewW w) (B8 (List.replicate m (List.replicate 128 0)).flatten).toArray 160
    have hg1 := newB_get (drewW w) (B8 (List.replicate m (List.replicate 128 0)).flatten).toArray 160
    have hs1 := newB_size (drewW w) (B8 (List.replicate m (List.replicate 128 0)).flatten).toArray 160
    generalize newB (drewW w) (B8 (List.replicate m (List.replicate 128 0)).flatten).toArray 160 = w1 at hx1 hg1 hs1 ⊢
    have hx2 := newB_ext w1 (B8 (List.replicate m (List.replicate 128 0)).flatten).toArray 160
    exact key _ _ _ (hx1.trans hx2) (by omega) (by omega) (by omega) (hx2.get hg1) (newB_get _ _ _)
  · refine X_make Tryz.underlying87 el_160 m m rfl rfl (Nat.le_refl _) (by omega) (by omega) ?_
    refine X_make Tryz.underlying87 el_160 m m rfl rfl (Nat.le_refl _) (by omega) (by omega) ?_
    rw [new_sectors]
    have hx1 := newB_ext (drewW w) (B8 (List.replicate m (List.replicate 128 0)).flatten).toArray 160
    have hg1 := newB_get (drewW w) (B8 (List.replicate m (List.replicate 128 0)).flatten).toArray 160
    have hs1 := newB_size (drewW w) (B8 (List.replicate m (List.replicate 128 0)).flatten).toArray 160
    generalize newB (drewW w) (B8 (List.replicate m (List.replicate 128 0)).flatten).toArray 160 = w1 at hx1 hg1 hs1 ⊢
    have hx2 := newB_ext w1 (B8 (List.replicate m (List.replicate 128 0)).flatten).toArray 160
    exact key _ _ _ (hx1.trans hx2) (by omega) (by omega) (by omega) (newB_get _ _ _) (hx2.get hg1)
end
end Go.Proofs.YtcigpjejbkngfaaGreatDoor
end
section
namespace Go.Proofs.YtcigpjejbkngfaaGreatDoor
open Go Go.Sh
attribute [local irreducible] X XU XP XR CALL loopS resC closS
def B_vault_New (x0 x1 x2 x3 : Value) (w : World) (K : Value → World → Prop) : Prop :=
  X Tryz.prog (binOpG .eql 54 (.tmp 10) (.const (.pointer none)) x0 (.pointer none)) w fun v1 w1 =>
  condS v1 (
  K (.tuple #[(.pointer none), (.int .i64 2)]) w1) (
  X Tryz.prog (binOp .lss 3 x1 (.int .i64 0)) w1 fun v2 w2 =>
  gstep v2 false (fun w3 K => K x2 w3) w2 fun v3 w4 =>
  gstep v2 false (fun w5 K => X Tryz.prog (binOp .lss 3 v3 (.int .i64 1)) w5 K) w4 fun v4 w6 =>
  X Tryz.prog (pickS v2 (.bool true) v4) w6 fun v5 w7 =>
  gstep v5 false (fun w8 K => K x2 w8) w7 fun v6 w9 =>
  gstep v5 false (fun w10 K => X Tryz.prog (binOp .gtr 3 v6 (.int .i64 16384)) w10 K) w9 fun v7 w11 =>
  X Tryz.prog (pickS v5 (.bool true) v7) w11 fun v8 w12 =>
  gstep v8 false (fun w13 K => K x3 w13) w12 fun v9 w14 =>
  gstep v8 false (fun w15 K => X Tryz.prog (binOp .lss 3 v9 (.int .i64 0)) w15 K) w14 fun v10 w16 =>
  X Tryz.prog (pickS v8 (.bool true) v10) w16 fun v11 w17 =>
  gstep v11 false (fun w18 K => K x1 w18) w17 fun v12 w19 =>
  gstep v11 false (fun w20 K => K x0 w20) w19 fun v13 w21 =>
  gstep v11 false (fun w22 K => CALL Tryz.prog 32 #[v13] w22 K) w21 fun v14 w23 =>
  gstep v11 false (fun w24 K => X Tryz.prog (binOp .gtr 3 v12 v14) w24 K) w23 fun v15 w25 =>
  X Tryz.prog (pickS v11 (.bool true) v15) w25 fun v16 w26 =>
  gstep v16 false (fun w27 K => K x3 w27) w26 fun v17 w28 =>
  gstep v16 false (fun w29 K => K x0 w29) w28 fun v18 w30 =>
  gstep v16 false (fun w31 K => CALL Tryz.prog 32 #[v18] w31 K) w30 fun v19 w32 =>
  gstep v16 false (fun w33 K => K x1 w33) w32 fun v20 w34 =>
  gstep v16 false (fun w35 K => X Tryz.prog (binOp .sub 3 v19 v20) w35 K) w34 fun v21 w36 =>
  gstep v16 false (fun w37 K => K x2 w37) w36 fun v22 w38 =>
  gstep v16 false (fun w39 K => X Tryz.prog (binOp .quo 3 v21 v22) w39 K) w38 fun v23 w40 =>
  gstep v16 false (fun w41 K => X Tryz.prog (binOp .gtr 3 v17 v23) w41 K) w40 fun v24 w42 =>
  X Tryz.prog (pickS v16 (.bool true) v24) w42 fun v25 w43 =>
  condS v25 (
  K (.tuple #[(.pointer none), (.int .i64 1)]) w43) (
  X Tryz.prog (Instr.build 92 #[(0, x0), (1, x1), (2, x2), (3, x3)]) w43 fun v26 w44 =>
  X Tryz.prog (Instr.box 92 v26) w44 fun v27 w45 =>
  K (.tuple #[v27, (.int .i64 0)]) w45))
theorem eq_vault_New (x0 x1 x2 x3 : Value) (w : World) (K : Value → World → Prop) :
    sh Tryz.prog (Tryz.f14.body.getD .skip) (retS Tryz.prog Tryz.f14.results K) (env0 #[x0, x1, x2, x3]) w = B_vault_New x0 x1 x2 x3 w K := by kernel_rfl
theorem call_vault_New (x0 x1 x2 x3 : Value) (w : World) (K : Value → World → Prop) (h : B_vault_New x0 x1 x2 x3 w K) : CALL Tryz.prog 14 #[x0, x1, x2, x3] w K :=
  call_of_eq (c := Tryz.f14.body.getD .skip) mixed Tryz.func14 (by kernel_rfl) (by kernel_rfl) (by kernel_rfl) (Nat.le_of_ble_eq_true (by kernel_rfl)) (eq_vault_New x0 x1 x2 x3 w K) h
def B_vault_Vault_Put (x0 x1 x2 : Value) (w : World) (K : Value → World → Prop) : Prop :=
  CALL Tryz.prog 49 #[x0, x1] w fun v1 w1 =>
  X Tryz.prog (Instr.extract v1 0) w1 fun v2 w2 =>
  X Tryz.prog (Instr.extract v1 1) w2 fun v3 w3 =>
  X Tryz.prog (binOpG .neq 34 (.tmp 18) (.const (.int .i64 0)) v3 (.int .i64 0)) w3 fun v4 w4 =>
  condS v4 (
  K v3 w4) (
  X Tryz.prog (Builtin.len_ #[28] 3 #[x2]) w4 fun v5 w5 =>
  CALL Tryz.prog 36 #[x0] w5 fun v6 w6 =>
  X Tryz.prog (binOp .gtr 3 v5 v6) w6 fun v7 w7 =>
  condS v7 (
  K (.int .i64 4) w7) (
  X Tryz.prog (Builtin.len_ #[28] 3 #[x2]) w7 fun v8 w8 =>
  X Tryz.prog (convert 3 37 v8) w8 fun v9 w9 =>
  CALL Tryz.prog 47 #[(.slice none 0 0), v9, (.int .i64 4)] w9 fun v10 w10 =>
  X Tryz.prog (Builtin.append_ #[28, 28] 28 #[v10, x2]) w10 fun v11 w11 =>
  loopS (fun Q1 ρ1 w12 =>
  X Tryz.prog (Builtin.len_ #[28] 3 #[(ρ1 9)]) w12 fun v12 w13 =>
  X Tryz.prog (binOp .gtr 3 v12 (.int .i64 0)) w13 fun v13 w14 =>
  condS v13 (
  X Tryz.prog (Builtin.len_ #[28] 3 #[(ρ1 9)]) w14 fun v14 w15 =>
  X Tryz.prog (Builtin.min_ #[3, 3] 3 #[v14, (.int .i64 128)]) w15 fun v15 w16 =>
  ∃ R, Frame? R ∧
  XP Tryz.prog (nilS (ρ1 0)) (drewW w16) fun v16 w17 =>
  XP Tryz.prog (Instr.fieldAt 92 v16 0) w17 fun v17 w18 =>
  XR Tryz.prog R (Instr.loadAt 54 v17) w18 fun v18 w19 =>
  XP Tryz.prog (Instr.sliceAt 28 (ρ1 9) none (some v15) none) w19 fun v19 w20 =>
  CALL Tryz.prog 50 #[v18, (ρ1 7), v19] w20 fun v20 w21 =>
  X Tryz.prog (binOpG .neq 34 (.tmp 49) (.const (.int .i64 0)) v20 (.int .i64 0)) w21 fun v21 w22 =>
  condS v21 (
  Q1 .ret (upds ρ1 [(6, v20), (51, v20), (50, v21), (49, v20), (11, v20), (48, v20), (47, v19), (46, v15), (45, (ρ1 9)), (44, (ρ1 7)), (43, v18), (42, v17), (41, v16), (40, (ρ1 0)), (10, v15), (39, v15), (38, v14), (37, (ρ1 9)), (34, v13), (33, v12), (32, (ρ1 9))]) w22) (
  X Tryz.prog (Instr.sliceAt 28 (ρ1 9) (some v15) none none) w22 fun v22 w23 =>
  X Tryz.prog (binOp .add 3 (ρ1 7) (.int .i64 1)) w23 fun v23 w24 =>
  Q1 .normal (upds ρ1 [(7, v23), (36, v23), (35, (ρ1 7)), (9, v22), (54, v22), (53, v15), (52, (ρ1 9)), (50, v21), (49, v20), (11, v20), (48, v20), (47, v19), (46, v15), (45, (ρ1 9)), (44, (ρ1 7)), (43, v18), (42, v17), (41, v16), (40, (ρ1 0)), (10, v15), (39, v15), (38, v14), (37, (ρ1 9)), (34, v13), (33, v12), (32, (ρ1 9))]) w24)) (
  Q1 (.exit 0) (upds ρ1 [(34, v13), (33, v12), (32, (ρ1 9))]) w14)) (inBlockS 0 (thenS (fun ρ2 w25 =>
  K (.int .i64 0) w25) (retS Tryz.prog (Tryz.f25).results K))) (upds (env0 #[x0, x1, x2]) [(9, v11), (31, v11), (30, x2), (29, v10), (28, v9), (27, v8), (26, x2), (25, v7), (24, v6), (23, x0), (22, v5), (21, x2), (19, v4), (18, v3), (8, v3), (7, v2), (17, v3), (16, v2), (12, v1), (15, v1), (14, x1), (13, x0), (6, (.int .i64 0))]) w11))
theorem eq_vault_Vault_Put (x0 x1 x2 : Value) (w : World) (K : Value → World → Prop) :
    sh Tryz.prog (Tryz.f25.body.getD .skip) (retS Tryz.prog Tryz.f25.results K) (env0 #[x0, x1, x2]) w = B_vault_Vault_Put x0 x1 x2 w K := by kernel_rfl
theorem call_vault_Vault_Put (x0 x1 x2 : Value) (w : World) (K : Value → World → Prop) (h : B_vault_Vault_Put x0 x1 x2 w K) : CALL Tryz.prog 25 #[x0, x1, x2] w K :=
  call_of_eq (c := Tryz.f25.body.getD .skip) mixed Tryz.func25 (by kernel_rfl) (by kernel_rfl) (by kernel_rfl) (Nat.le_of_ble_eq_true (by kernel_rfl)) (eq_vault_Vault_Put x0 x1 x2 w K) h
def B_vault_Vault_Len (x0 : Value) (w : World) (K : Value → World → Prop) : Prop :=
  X Tryz.prog (binOpG .eql 57 (.tmp 3) (.const (.pointer none)) x0 (.pointer none)) w fun v1 w1 =>
  condS v1 (
  K (.int .i64 0) w1) (
  X Tryz.prog (nilS x0) w1 fun v2 w2 =>
  X Tryz.prog (Instr.fieldAt 92 v2 3) w2 fun v3 w3 =>
  X Tryz.prog (Instr.loadAt 3 v3) w3 fun v4 w4 =>
  K v4 w4)
theorem eq_vault_Vault_Len (x0 : Value) (w : World) (K : Value → World → Prop) :
    sh Tryz.prog (Tryz.f35.body.getD .skip) (retS Tryz.prog Tryz.f35.results K) (env0 #[x0]) w = B_vault_Vault_Len x0 w K := by kernel_rfl
theorem call_vault_Vault_Len (x0 : Value) (w : World) (K : Value → World → Prop) (h : B_vault_Vault_Len x0 w K) : CALL Tryz.prog 35 #[x0] w K :=
  call_of_eq (c := Tryz.f35.body.getD .skip) mixed Tryz.func35 (by kernel_rfl) (by kernel_rfl) (by kernel_rfl) (Nat.le_of_ble_eq_true (by kernel_rfl)) (eq_vault_Vault_Len x0 w K) h
def B_vault_Vault_Room (x0 : Value) (w : World) (K : Value → World → Prop) : Prop :=
  X Tryz.prog (binOpG .eql 57 (.tmp 3) (.const (.pointer none)) x0 (.pointer none)) w fun v1 w1 =>
  condS v1 (
  K (.int .i64 0) w1) (
  X Tryz.prog (nilS x0) w1 fun v2 w2 =>
  X Tryz.prog (Instr.fieldAt 92 v2 2) w2 fun v3 w3 =>
  X Tryz.prog (Instr.loadAt 3 v3) w3 fun v4 w4 =>
  X Tryz.prog (binOp .mul 3 v4 (.int .i64 128)) w4 fun v5 w5 =>
  X Tryz.prog (binOp .sub 3 v5 (.int .i64 4)) w5 fun v6 w6 =>
  K v6 w6)
theorem eq_vault_Vault_Room (x0 : Value) (w : World) (K : Value → World → Prop) :
    sh Tryz.prog (Tryz.f36.body.getD .skip) (retS Tryz.prog Tryz.f36.results K) (env0 #[x0]) w = B_vault_Vault_Room x0 w K := by kernel_rfl
theorem call_vault_Vault_Room (x0 : Value) (w : World) (K : Value → World → Prop) (h : B_vault_Vault_Room x0 w K) : CALL Tryz.prog 36 #[x0] w K :=
  call_of_eq (c := Tryz.f36.body.getD .skip) mixed Tryz.func36 (by kernel_rfl) (by kernel_rfl) (by kernel_rfl) (Nat.le_of_ble_eq_true (by kernel_rfl)) (eq_vault_Vault_Room x0 w K) h
def B_vault_Vault_shelf (x0 x1 : Value) (w : World) (K : Value → World → Prop) : Prop :=
  X Tryz.prog (binOpG .eql 57 (.tmp 7) (.const (.pointer none)) x0 (.pointer none)) w fun v1 w1 =>
  condS v1 (
  K (.tuple #[(.int .i64 0), (.int .i64 2)]) w1) (
  X Tryz.prog (binOp .lss 3 x1 (.int .i64 0)) w1 fun v2 w2 =>
  gstep v2 false (fun w3 K => K x1 w3) w2 fun v3 w4 =>
  gstep v2 false (fun w5 K => K x0 w5) w4 fun v4 w6 =>
  gstep v2 false (fun w7 K => X Tryz.prog (nilS v4) w7 K) w6 fun v5 w8 =>
  gstep v2 false (fun w9 K => X Tryz.prog (Instr.fieldAt 92 v5 3) w9 K) w8 fun v6 w10 =>
  gstep v2 false (fun w11 K => X Tryz.prog (Instr.loadAt 3 v6) w11 K) w10 fun v7 w12 =>
  gstep v2 false (fun w13 K => X Tryz.prog (binOp .geq 3 v3 v7) w13 K) w12 fun v8 w14 =>
  X Tryz.prog (pickS v2 (.bool true) v8) w14 fun v9 w15 =>
  condS v9 (
  K (.tuple #[(.int .i64 0), (.int .i64 1)]) w15) (
  ∃ R, Frame? R ∧
  XP Tryz.prog (nilS x0) (drewW w15) fun v10 w16 =>
  XP Tryz.prog (Instr.fieldAt 92 v10 1) w16 fun v11 w17 =>
  XR Tryz.prog R (Instr.loadAt 3 v11) w17 fun v12 w18 =>
  XP Tryz.prog (nilS x0) w18 fun v13 w19 =>
  XP Tryz.prog (Instr.fieldAt 92 v13 2) w19 fun v14 w20 =>
  XR Tryz.prog R (Instr.loadAt 3 v14) w20 fun v15 w21 =>
  XP Tryz.prog (binOp .mul 3 x1 v15) w21 fun v16 w22 =>
  XP Tryz.prog (binOp .add 3 v12 v16) w22 fun v17 w23 =>
  K (.tuple #[v17, (.int .i64 0)]) w23))
theorem eq_vault_Vault_shelf (x0 x1 : Value) (w : World) (K : Value → World → Prop) :
    sh Tryz.prog (Tryz.f49.body.getD .skip) (retS Tryz.prog Tryz.f49.results K) (env0 #[x0, x1]) w = B_vault_Vault_shelf x0 x1 w K := by kernel_rfl
theorem call_vault_Vault_shelf (x0 x1 : Value) (w : World) (K : Value → World → Prop) (h : B_vault_Vault_shelf x0 x1 w K) : CALL Tryz.prog 49 #[x0, x1] w K :=
  call_of_eq (c := Tryz.f49.body.getD .skip) mixed Tryz.func49 (by kernel_rfl) (by kernel_rfl) (by kernel_rfl) (Nat.le_of_ble_eq_true (by kernel_rfl)) (eq_vault_Vault_shelf x0 x1 w K) h
def B_vault_Vault_Get (x0 x1 : Value) (w : World) (K : Value → World → Prop) : Prop :=
  CALL Tryz.prog 49 #[x0, x1] w fun v1 w1 =>
  X Tryz.prog (Instr.extract v1 0) w1 fun v2 w2 =>
  X Tryz.prog (Instr.extract v1 1) w2 fun v3 w3 =>
  X Tryz.prog (binOpG .neq 34 (.tmp 18) (.const (.int .i64 0)) v3 (.int .i64 0)) w3 fun v4 w4 =>
  condS v4 (
  K (.tuple #[(.slice none 0 0), v3]) w4) (
  X Tryz.prog (nilS x0) w4 fun v5 w5 =>
  X Tryz.prog (Instr.fieldAt 92 v5 0) w5 fun v6 w6 =>
  X Tryz.prog (Instr.loadAt 54 v6) w6 fun v7 w7 =>
  CALL Tryz.prog 91 #[v7, v2] w7 fun v8 w8 =>
  X Tryz.prog (Instr.extract v8 0) w8 fun v9 w9 =>
  X Tryz.prog (Instr.extract v8 1) w9 fun v10 w10 =>
  X Tryz.prog (binOpG .neq 34 (.tmp 30) (.const (.int .i64 0)) v10 (.int .i64 0)) w10 fun v11 w11 =>
  condS v11 (
  K (.tuple #[(.slice none 0 0), v10]) w11) (
  CALL Tryz.prog 92 #[v9] w11 fun v12 w12 =>
  CALL Tryz.prog 93 #[v12, (.int .i64 4)] w12 fun v13 w13 =>
  CALL Tryz.prog 36 #[x0] w13 fun v14 w14 =>
  X Tryz.prog (convert 3 37 v14) w14 fun v15 w15 =>
  X Tryz.prog (binOp .gtr 37 v13 v15) w15 fun v16 w16 =>
  condS v16 (
  K (.tuple #[(.slice none 0 0), (.int .i64 110)]) w16) (
  X Tryz.prog (binOp .add 3 v2 (.int .i64 1)) w16 fun v17 w17 =>
  loopS (fun Q1 ρ1 w18 =>
  X Tryz.prog (Builtin.len_ #[28] 3 #[(ρ1 8)]) w18 fun v18 w19 =>
  X Tryz.prog (convert 37 3 (ρ1 9)) w19 fun v19 w20 =>
  X Tryz.prog (binOp .add 3 (.int .i64 4) v19) w20 fun v20 w21 =>
  X Tryz.prog (binOp .lss 3 v18 v20) w21 fun v21 w22 =>
  condS v21 (
  X Tryz.prog (nilS (ρ1 0)) w22 fun v22 w23 =>
  X Tryz.prog (Instr.fieldAt 92 v22 0) w23 fun v23 w24 =>
  X Tryz.prog (Instr.loadAt 54 v23) w24 fun v24 w25 =>
  CALL Tryz.prog 91 #[v24, (ρ1 6)] w25 fun v25 w26 =>
  X Tryz.prog (Instr.extract v25 0) w26 fun v26 w27 =>
  X Tryz.prog (Instr.extract v25 1) w27 fun v27 w28 =>
  X Tryz.prog (binOpG .neq 34 (.tmp 60) (.const (.int .i64 0)) v27 (.int .i64 0)) w28 fun v28 w29 =>
  condS v28 (
  Q1 .ret (upds ρ1 [(5, v27), (4, (.slice none 0 0)), (62, v27), (61, v28), (60, v27), (11, v27), (10, v26), (59, v27), (58, v26), (51, v25), (57, v25), (56, (ρ1 6)), (55, v24), (54, v23), (53, v22), (52, (ρ1 0)), (48, v21), (47, v20), (46, v19), (45, (ρ1 9)), (44, v18), (43, (ρ1 8))]) w29) (
  X Tryz.prog (Builtin.append_ #[28, 28] 28 #[(ρ1 8), v26]) w29 fun v29 w30 =>
  X Tryz.prog (binOp .add 3 (ρ1 6) (.int .i64 1)) w30 fun v30 w31 =>
  Q1 .normal (upds ρ1 [(6, v30), (50, v30), (49, (ρ1 6)), (8, v29), (65, v29), (64, v26), (63, (ρ1 8)), (61, v28), (60, v27), (11, v27), (10, v26), (59, v27), (58, v26), (51, v25), (57, v25), (56, (ρ1 6)), (55, v24), (54, v23), (53, v22), (52, (ρ1 0)), (48, v21), (47, v20), (46, v19), (45, (ρ1 9)), (44, v18), (43, (ρ1 8))]) w31)) (
  Q1 (.exit 0) (upds ρ1 [(48, v21), (47, v20), (46, v19), (45, (ρ1 9)), (44, v18), (43, (ρ1 8))]) w22)) (inBlockS 0 (thenS (fun ρ2 w32 =>
  X Tryz.prog (convert 37 3 (ρ2 9)) w32 fun v31 w33 =>
  X Tryz.prog (binOp .add 3 (.int .i64 4) v31) w33 fun v32 w34 =>
  X Tryz.prog (convert 37 3 (ρ2 9)) w34 fun v33 w35 =>
  X Tryz.prog (binOp .add 3 (.int .i64 4) v33) w35 fun v34 w36 =>
  X Tryz.prog (Instr.sliceAt 28 (ρ2 8) (some (.int .i64 4)) (some v32) (some v34)) w36 fun v35 w37 =>
  K (.tuple #[v35, (.int .i64 0)]) w37) (retS Tryz.prog (Tryz.f68).results K))) (upds (env0 #[x0, x1]) [(6, v17), (42, v17), (41, v2), (40, v16), (39, v15), (38, v14), (37, x0), (36, v13), (9, v13), (35, v13), (34, v12), (33, v9), (31, v11), (30, v10), (7, v10), (8, v9), (29, v10), (28, v9), (21, v8), (27, v8), (26, v2), (25, v7), (24, v6), (23, v5), (22, x0), (19, v4), (18, v3), (7, v3), (6, v2), (17, v3), (16, v2), (12, v1), (15, v1), (14, x1), (13, x0), (5, (.int .i64 0)), (4, (.slice none 0 0))]) w17)))
theorem eq_vault_Vault_Get (x0 x1 : Value) (w : World) (K : Value → World → Prop) :
    sh Tryz.prog (Tryz.f68.body.getD .skip) (retS Tryz.prog Tryz.f68.results K) (env0 #[x0, x1]) w = B_vault_Vault_Get x0 x1 w K := by kernel_rfl
theorem call_vault_Vault_Get (x0 x1 : Value) (w : World) (K : Value → World → Prop) (h : B_vault_Vault_Get x0 x1 w K) : CALL Tryz.prog 68 #[x0, x1] w K :=
  call_of_eq (c := Tryz.f68.body.getD .skip) mixed Tryz.func68 (by kernel_rfl) (by kernel_rfl) (by kernel_rfl) (Nat.le_of_ble_eq_true (by kernel_rfl)) (eq_vault_Vault_Get x0 x1 w K) h
end Go.Proofs.YtcigpjejbkngfaaGreatDoor
end
section
namespace Go.Proofs.YtcigpjejbkngfaaGreatDoor
open Go Go.Sh Go.RowKit
attribute [local irreducible] X XU XP XR CALL loopS resC closS
theorem DiskAt.notin {w : World} {b : Nat} {d : Dk} (h : DiskAt w b d) {q : Nat} {cs : Array Value} {T : TypeId} {fr : Nat × Nat} (hq : w.heap[q]? = some (.cells cs T fr)) (h1 : T ≠ 90) (h2 : T ≠ 160) (h3 : T ≠ 162) : ¬ Go.Sh.foot w b q := fun hf => by
  obtain ⟨_, nv, sv, wv, h⟩ := h
  rcases h.foot.1 hf with h' | h' | h' | h'
  · subst h'
    rw [h.blk] at hq
    injection hq with hq
    injection hq with _ hq
    exact h1 hq.symm
  · exact own_neT h.now hq h2 h'
  · exact own_neT h.safe hq h2 h'
  · exact own_neT h.ws hq h3 h'
theorem own_blkT {w : World} {base e size n : Nat} {v : Value} {xs : List Value} (ho : w.ownsRow base e size v n xs) {k : Nat} (hk : v.ownBlock = some k) : ∃ cs, w.heap[k]? = some (.cells cs e (0, 0)) := by
  rcases ho.2 with ⟨rfl, _⟩ | ⟨g, cap, cur, rfl, _, hh, _⟩
  · cases hk
  · have : g = k := by injection hk
    subst this
    exact ⟨cur, hh⟩
theorem DiskAt.outs {w : World} {b base size n : Nat} {d : Dk} {v : Value} {xs : List Value} (h : DiskAt w b d) (ho : w.ownsRow base 5 size v n xs) : Outs w b v := fun k hk => by
  obtain ⟨cs, hc⟩ := own_blkT ho hk
  exact ⟨h.notin hc (by decide) (by decide) (by decide), lt_of_blk hc⟩
def VaultAt (w : World) (bv b : Nat) (v : Vt) : Prop := w.heap[bv]? = some (.cells #[ptr b, .int .i64 (v.fm : Int), .int .i64 (v.each : Int), .int .i64 (v.n : Int)] 92 (0, 0))
theorem run_build_92 (p : Option Addr) (x y z : Int) (w : World) : (Instr.build 92 #[(0, .pointer p), (1, .int .i64 x), (2, .int .i64 y), (3, .int .i64 z)]).run Tryz.prog w = .ok (.agg #[.pointer p, .int .i64 x, .int .i64 y, .int .i64 z]) w := by kernel_rfl
theorem tdiv_ediv {a b : Int} (ha : 0 ≤ a) : a.tdiv b = a / b := Int.tdiv_eq_ediv_of_nonneg ha
section
variable {w : World} {b bv : Nat} {d : Dk} {v : Vt} {K : Value → World → Prop}
theorem VNew_spec {fm each n : Int} (hd : DiskAt w b d) (hb1 : -9223372036854775808 ≤ fm ∧ fm ≤ 9223372036854775807)
    (h0 : vnew d.safe.length fm each n = none → K (.tuple #[.pointer none, i64v 1]) w)
    (h1 : ∀ v, vnew d.safe.length fm each n = some v → ∀ bv w1, Ext w w1 → w.heap.size ≤ bv → VaultAt w1 bv b v → K (.tuple #[ptr bv, i64v 0]) w1) : CALL Tryz.prog 14 #[ptr b, i64v fm, i64v each, i64v n] w K := by
  have hsz : d.safe.length ≤ 16384 := hd.1.2.2.1
  apply call_vault_New
  unfold B_vault_New
  simp only [X_eql_nil_54, Option.isNone_some, GS, X_lss]
  have bad : (fm < 0 ∨ each < 1 ∨ 16384 < each ∨ n < 0 ∨ (d.safe.length : Int) < fm ∨ ((d.safe.length : Int) - fm) / each < n) → K (.tuple #[.pointer none, i64v 1]) w := fun h => h0 (by unfold vnew; rw [if_pos h])
  by_cases c1 : fm < 0
  · have e1 : decide (fm < 0) = true := by simpa using c1
    simp only [e1, GS]
    exact bad (.inl c1)
  have e1 : decide (fm < 0) = false := by simpa using c1
  simp only [e1, GS, X_lss]
  by_cases c2 : each < 1
  · have e2 : decide (each < 1) = true := by simpa using c2
    simp only [e2, GS]
    exact bad (.inr (.inl c2))
  have e2 : decide (each < 1) = false := by simpa using c2
  simp only [e2, GS, X_gtr]
  by_cases c3 : 16384 < each
  · have e3 : decide (each > 16384) = true := by simpa using c3
    simp only [e3, GS]
    exact bad (.inr (.inr (.inl c3)))
  have e3 : decide (each > 16384) = false := by simpa using c3
  simp only [e3, GS, X_lss]
  by_cases c4 : n < 0
  · have e4 : decide (n < 0) = true := by simpa using c4
    simp only [e4, GS]
    exact bad (.inr (.inr (.inr (.inl c4))))
  have e4 : decide (n < 0) = false := by simpa using c4
  simp only [e4, GS]
  refine Size_spec hd ?_
  simp only [X_gtr]
  by_cases c5 : (d.safe.length : Int) < fm
  · have e5 : decide (fm > (d.safe.length : Int)) = true := by simpa using c5
    simp only [e5, GS]
    exact bad (.inr (.inr (.inr (.inr (.inl c5)))))
  have e5 : decide (fm > (d.safe.length : Int)) = false := by simpa using c5
  simp only [e5, GS]
  refine Size_spec hd ?_
  rw [X_sub, w64 (by omega) (by omega)]
  have hq0 : 0 ≤ ((d.safe.length : Int) - fm) / each := Int.ediv_nonneg (by omega) (by omega)
  have hq1 : ((d.safe.length : Int) - fm) / each ≤ (d.safe.length : Int) - fm := Int.ediv_le_self _ (by omega)
  refine X_of (run_quo 3 .i64 _ _ (by omega) _) ?_
  rw [tdiv_ediv (by omega), w64 (by omega) (by omega), X_gtr, condS_bool]
  by_cases c6 : ((d.safe.length : Int) - fm) / each < n
  · rw [if_pos (by simpa using c6)]
    exact bad (.inr (.inr (.inr (.inr (.inr c6)))))
  rw [if_neg (by simpa using c6)]
  refine X_of (run_build_92 _ _ _ _ _) ?_
  refine X_box ?_
  have hv : vnew d.safe.length fm each n = some ⟨fm.toNat, each.toNat, n.toNat⟩ := by unfold vnew; rw [if_neg (by omega)]
  refine h1 _ hv _ _ (newB_ext _ _ _) (Nat.le_refl _) ?_
  have hg := newB_get w (Value.agg #[ptr b, .int .i64 fm, .int .i64 each, .int .i64 n]).cells 92
  unfold VaultAt
  show (newB w (Value.agg #[ptr b, .int .i64 fm, .int .i64 each, .int .i64 n]).cells 92).heap[w.heap.size]? = some (.cells #[ptr b, .int .i64 ((fm.toNat : Nat) : Int), .int .i64 ((each.toNat : Nat) : Int), .int .i64 ((n.toNat : Nat) : Int)] 92 (0, 0))
  rw [Int.toNat_of_nonneg (by omega), Int.toNat_of_nonneg (by omega), Int.toNat_of_nonneg (by omega)]
  exact hg
theorem VRoom_spec {size : Nat} (hv : VaultAt w bv b v) (ok : v.ok size) (hK : K (i64v (v.room : Int)) w) : CALL Tryz.prog 36 #[ptr bv] w K := by
  obtain ⟨h1, h2, h3, h4⟩ := ok
  apply call_vault_Vault_Room
  unfold B_vault_Vault_Room
  simp only [X_eql_nil_57, Option.isNone_some, GS, X_nilS, X_field_92_2]
  refine X_loadL agg_3 hv (v := .int .i64 (v.each : Int)) rfl ?_
  rw [X_mul, w64 (by omega) (by omega), X_sub, w64 (by omega) (by omega)]
  have e : (v.each : Int) * 128 - 4 = (v.room : Int) := by unfold Vt.room; omega
  rw [e]; exact hK
theorem VLen_spec (hv : VaultAt w bv b v) (hK : K (i64v (v.n : Int)) w) : CALL Tryz.prog 35 #[ptr bv] w K := by
  apply call_vault_Vault_Len
  unfold B_vault_Vault_Len
  simp only [X_eql_nil_57, Option.isNone_some, GS, X_nilS, X_field_92_3]
  exact X_loadL agg_3 hv (v := .int .i64 (v.n : Int)) rfl hK
theorem shelf_spec {size : Nat} {at_ : Int} (hv : VaultAt w bv b v) (ok : v.ok size) (h0 : (at_ < 0 ∨ (v.n : Int) ≤ at_) → K (.tuple #[i64v 0, i64v 1]) w)
    (h1 : ∀ i : Nat, at_ = i → i < v.n → ∀ w1, Ext w w1 → K (.tuple #[i64v ((v.fm + i * v.each : Nat) : Int), i64v 0]) w1) : CALL Tryz.prog 49 #[ptr bv, i64v at_] w K := by
  apply call_vault_Vault_shelf
  unfold B_vault_Vault_shelf
  simp only [X_eql_nil_57, Option.isNone_some, GS, X_lss]
  by_cases c1 : at_ < 0
  · have e1 : decide (at_ < 0) = true := by simpa using c1
    simp only [e1, GS]
    exact h0 (.inl c1)
  have e1 : decide (at_ < 0) = false := by simpa using c1
  simp only [e1, GS, X_nilS, X_field_92_3]
  refine X_loadL agg_3 hv (v := .int .i64 (v.n : Int)) rfl ?_
  simp only [X_geq, GS]
  rw [condS_bool]
  by_cases c2 : (v.n : Int) ≤ at_
  · rw [if_pos (by simpa using c2)]
    exact h0 (.inr c2)
  rw [if_neg (by simpa using c2)]
  obtain ⟨i, rfl⟩ : ∃ i : Nat, at_ = (i : Int) := ⟨at_.toNat, by omega⟩
  have hi : i < v.n := by omega
  have hle := Vt.at_le ok hi
  have h4 := ok.2.2.2
  refine ⟨Ext, Ext.frame, ?_⟩
  have hvd : (drewW w).heap[bv]? = some (.cells #[ptr b, .int .i64 (v.fm : Int), .int .i64 (v.each : Int), .int .i64 (v.n : Int)] 92 (0, 0)) := hv
  try simp only [XP_nilS, XP_field_92_1, XP_field_92_2]
  refine XR_loadL agg_3 hvd (v := .int .i64 (v.fm : Int)) rfl ?_
  try simp only [XP_nilS, XP_field_92_2]
  refine XR_loadL agg_3 hvd (v := .int .i64 (v.each : Int)) rfl ?_
  have em : ((i : Nat) : Int) * (v.each : Int) = ((i * v.each : Nat) : Int) := (Int.natCast_mul _ _).symm
  rw [XP_mul, em, w64 (by omega) (by omega), XP_add, w64 (by omega) (by omega)]
  exact h1 i rfl hi _ (Keep.drew _ _)
theorem VPut_spec {at_ : Int} {x : Value} {bs : List UInt8} (hv : VaultAt w bv b v) (hd : DiskAt w b d) (ok : v.ok d.safe.length) (hws : d.ws.length + bs.length + 4 ≤ 900000) (hb : Bts w x bs)
    (hK : ∀ w1, DiskAt w1 b (vput v d at_ bs).1 → Step b w w1 → K (i64v (vput v d at_ bs).2) w1) : CALL Tryz.prog 25 #[ptr bv, i64v at_, x] w K := by
  have hb_lt := hd.lt b (foot_self _ _)
  obtain ⟨ax, cx, ex⟩ := Bts.slice hb
  have e0 : decide ((0 : Int) ≠ 0) = false := by decide
  have e1 : decide ((1 : Int) ≠ 0) = true := by decide
  apply call_vault_Vault_Put
  unfold B_vault_Vault_Put
  refine shelf_spec hv ok ?_ ?_
  · intro hbad
    simp only [X_extract0, X_extract1, X_neq, e1, GS]
    have e : vput v d at_ bs = (d, 1) := by unfold vput; rw [if_pos hbad]
    have := hK w (by rw [e]; exact hd) Step.refl
    rw [e] at this
    exact this
  rintro i rfl hi w1 hx1
  have hd1 := hd.ext hx1
  have hv1 : VaultAt w1 bv b v := hx1.get hv
  have s1 : Step b w w1 := Step.ext hx1 hb_lt
  have hgood : ¬ ((i : Int) < 0 ∨ (v.n : Int) ≤ (i : Int)) := by omega
  have hle := Vt.at_le ok hi
  have hsz := ok.2.2.2
  rw [ex]
  simp only [X_extract0, X_extract1, X_neq, e0, GS, X_len_28]
  refine VRoom_spec hv1 ok ?_
  rw [X_gtr, condS_bool]
  by_cases hroom : v.room < bs.length
  · rw [if_pos (by simp; omega)]
    have e : vput v d (i : Int) bs = (d, 4) := by unfold vput; rw [if_neg hgood, if_pos hroom]
    have := hK w1 (by rw [e]; exact hd1) s1
    rw [e] at this
    exact this
  rw [if_neg (by simp; omega)]
  have eput : vput v d (i : Int) bs = layAll d (v.fm + i * v.each) (be 4 bs.length ++ bs) := by unfold vput; rw [if_neg hgood, if_neg hroom]; rfl
  rw [eput] at hK
  rw [X_conv_3_37, wrap_u64, Int.emod_eq_of_lt (by omega) (by omega)]
  refine Put_spec (Bts.nil w1) (by simp) (by omega) ?_
  intro v2 w2 hx2 ho2
  have e4 : putB bs.length 4 = be 4 bs.length := rfl
  rw [List.nil_append, e4] at ho2
  rw [← ex]
  have hl4 : (be 4 bs.length).length = 4 := be_length _ _
  refine X_append_bts (base := w1.heap.size) Tryz.underlying28 el_5 ho2 ((hb.ext hx1).ext hx2) (by omega) hx2.size ?_
  intro v3 w3 ho3 hk3
  have hx3 : Ext w1 w3 := Ext.seq hx2 hk3 (fun j hj => (ho2.lt j hj.symm).1)
  have hd3 := hd1.ext hx3
  have hv3 : VaultAt w3 bv b v := hx3.get hv1
  have s3 := s1.trans (Step.ext hx3 (hd1.lt b (foot_self _ _)))
  have out3 : Outs w3 b v3 := hd3.outs ho3
  have hb3 := (own_bts ho3).1
  refine loopE (fun ρ wr => ∃ (d' : Dk) (to_ : Nat) (rest : List UInt8) (vr : Value), DiskAt wr b d' ∧ Step b w wr ∧ VaultAt wr bv b v ∧ Bts wr vr rest ∧ vr.ownBlock = v3.ownBlock ∧ Outs wr b v3 ∧ d'.ws.length + rest.length ≤ 900000 ∧ to_ + rest.length ≤ 20000000 ∧
      layAll d (v.fm + i * v.each) (be 4 bs.length ++ bs) = layAll d' to_ rest ∧ ρ 9 = vr ∧ ρ 7 = .int .i64 (to_ : Int) ∧ ρ 0 = ptr bv)
    (fun ρ wr => match ρ 9 with | .slice _ n _ => n | _ => 0)
    (fun ρ wr => ∃ d', DiskAt wr b d' ∧ Step b w wr ∧ layAll d (v.fm + i * v.each) (be 4 bs.length ++ bs) = (d', 0)) ?_ ?_ ?_
  · have hroom' : bs.length ≤ 16384 * 128 := by have := ok.2.1; unfold Vt.room at hroom; omega
    exact ⟨d, _, _, v3, hd3, s3, hv3, hb3, rfl, out3, by simp [hl4]; omega, by simp [hl4]; omega, rfl, rfl, rfl, rfl⟩
  · rintro J hJ ρ wr ⟨d', to_, rest, vr, hd', hs', hv', hbr, hvr, outr, hws', hto, heq, r9, r7, r0⟩
    obtain ⟨ar, cr, er⟩ := Bts.slice hbr
    rw [r9, er, X_len_28, X_gtr, condS_bool, ← er]
    by_cases hr0 : rest = []
    · rw [if_neg (by rw [hr0]; simp)]
      refine hJ _ _ ⟨d', hd', hs', ?_⟩
      rw [heq, hr0, layAll_nil]
    have hpos : 0 < rest.length := List.length_pos_iff.2 hr0
    rw [if_pos (by simp; omega), er, X_len_28, X_min, ← er]
    obtain ⟨n, hn⟩ : ∃ n : Nat, n = min rest.length 128 := ⟨_, rfl⟩
    have en : min (rest.length : Int) 128 = (n : Int) := by omega
    rw [en]
    have et : rest.take n = rest.take 128 := by
      rw [hn]
      rcases Nat.le_total rest.length 128 with h | h
      · rw [Nat.min_eq_left h, List.take_of_length_le (Nat.le_refl _), List.take_of_length_le h]
      · rw [Nat.min_eq_right h]
    have ed : rest.drop n = rest.drop 128 := by
      rw [hn]
      rcases Nat.le_total rest.length 128 with h | h
      · rw [Nat.min_eq_left h, List.drop_eq_nil_of_le (Nat.le_refl _), List.drop_eq_nil_of_le h]
      · rw [Nat.min_eq_right h]
    refine ⟨Ext, Ext.frame, ?_⟩
    have hvd : (drewW wr).heap[bv]? = some (.cells #[ptr b, .int .i64 (v.fm : Int), .int .i64 (v.each : Int), .int .i64 (v.n : Int)] 92 (0, 0)) := hv'
    rw [r0, r7]
    try simp only [XP_nilS, XP_field_92_0]
    refine XR_loadL agg_54 hvd (v := ptr b) rfl ?_
    have hbd := hbr.drew
    obtain ⟨u, hu, hub, hublk⟩ := cut_hi Tryz.underlying28 info_5 hbd (kh := .i64) n rfl (by omega)
    obtain ⟨u2, hu2, hub2, hublk2⟩ := cut_lo Tryz.underlying28 info_5 sz_5 hbd (kl := .i64) n rfl (by omega)
    refine XP_of hu ?_
    have hdd := hd'.ext (Keep.drew (fun _ => False) wr)
    have outd : Outs (drewW wr) b v3 := outr
    refine Write_spec hdd (by omega) hub (fun _ k hk hf => (outd k (by rw [← hvr, ← hublk]; exact hk)).1 hf) ?_
    intro w5 hd5 s5
    rw [et] at hd5 ⊢
    have s5' : Step b w w5 := hs'.trans ((Step.ext (Keep.drew _ _) (hd'.lt b (foot_self _ _))).trans s5)
    have hcons := layAll_cons d' to_ hr0
    rw [X_neq, condS_bool]
    by_cases he : (d'.write (to_ : Int) (rest.take 128)).2 = 0
    · rw [if_neg (by simpa using he)]
      rw [if_neg (by simpa using he)] at hcons
      refine X_of (hu2 _) ?_
      rw [X_add, w64 (by omega) (by omega)]
      have hv5 : VaultAt w5 bv b v := s5.keep.get (hdd.notin hvd (by decide) (by decide) (by decide)) hvd
      have hws5 := Dk.write_ws d' (to_ : Int) (rest.take 128)
      have out5 := outd.step s5
      have hb5 : Bts w5 u2 (rest.drop 128) := by
        rw [← ed]
        exact hub2.keep s5.keep (fun k hk => (outd k (by rw [← hvr, ← hublk2]; exact hk)).1)
      obtain ⟨a5, c5, e5⟩ := Bts.slice hb5
      show _ ∧ _
      refine ⟨⟨_, to_ + 1, rest.drop 128, u2, hd5, s5', hv5, hb5, hublk2.trans hvr, out5, by rw [List.length_drop]; omega, by rw [List.length_drop]; omega, heq.trans hcons, rfl, rfl, r0⟩, ?_⟩
      show (match u2 with | .slice _ n _ => n | _ => 0) < _
      rw [e5, er]
      show (rest.drop 128).length < rest.length
      rw [List.length_drop]
      omega
    · rw [if_pos (by simpa using he)]
      rw [if_pos (by simpa using he)] at hcons
      show K (i64v (d'.write (to_ : Int) (rest.take 128)).2) w5
      have := hK w5 (by rw [heq, hcons]; exact hd5) s5'
      rw [heq, hcons] at this
      exact this
  · rintro ρ wr ⟨d', hd', hs', heq⟩
    have := hK wr (by rw [heq]; exact hd') hs'
    rw [heq] at this
    exact this
end
end Go.Proofs.YtcigpjejbkngfaaGreatDoor
end
section
namespace Go.Proofs.YtcigpjejbkngfaaGreatDoor
open Go Go.Sh Go.RowKit
attribute [local irreducible] X XU XP XR CALL loopS resC closS
theorem run_slice3 {P : Program} {T e : TypeId} (hT : P.underlying T = some (.slice e)) (hi : infoB P e = true) (a : Option Addr) (n c : Nat) (kl kh km : IntKind) (lo hi' mx : Nat) (h1 : lo ≤ hi') (h2 : hi' ≤ mx) (h3 : mx ≤ c) (w : World) :
    (Instr.sliceAt T (.slice a n c) (some (.int kl lo)) (some (.int kh hi')) (some (.int km mx))).run P w = .ok (.slice (if mx = lo then a else a.map (·.add (lo * szT P e))) (hi' - lo) (mx - lo)) w := by
  simp [Instr.sliceAt, Instr.slice, run_underlying hT, Instr.sliceBounds, Instr.sliceBound, asIntOf, sizeOf_run hi, h1, h2, h3]
theorem cut_three {P : Program} {T e : TypeId} (hT : P.underlying T = some (.slice e)) (hi : infoB P e = true) (hs : szT P e = 1) {v : Value} {bs : List UInt8} {w0 : World} (hb : Bts w0 v bs) {kl kh km : IntKind} {li hj mj : Int} (lo h' : Nat) (e1 : li = lo) (e2 : hj = h') (e3 : mj = h') (h1 : lo ≤ h') (h2 : h' ≤ bs.length) :
    ∃ u, (∀ w, (Instr.sliceAt T v (some (.int kl li)) (some (.int kh hj)) (some (.int km mj))).run P w = .ok u w) ∧ Bts w0 u ((bs.take h').drop lo) ∧ u.ownBlock = v.ownBlock := by
  subst e1; subst e2; subst e3
  obtain ⟨a, c, rfl, h3, h4, h5⟩ := hb
  refine ⟨_, fun w => run_slice3 hT hi a bs.length c kl kh km lo h' h' h1 (Nat.le_refl _) (by omega) w, ?_, ?_⟩
  · rw [hs, Nat.mul_one]
    have hl : ((bs.take h').drop lo).length = h' - lo := by simp; omega
    refine ⟨_, _, by rw [hl], by omega, by omega, fun hn => ?_⟩
    rw [hl] at hn
    obtain ⟨ad, rfl, hc⟩ := h5 (by omega)
    refine ⟨ad.add lo, by rw [if_neg (by omega)]; rfl, fun j u hj => ?_⟩
    have hj' : bs[lo + j]? = some u := by
      rw [List.getElem?_drop, List.getElem?_take] at hj
      split at hj
      · exact hj
      · cases hj
    have := hc _ _ hj'
    have e : (ad.add lo).add j = ad.add (lo + j) := by
      unfold Addr.add
      by_cases h0 : lo = 0
      · subst h0; simp
      · by_cases hj0 : j = 0
        · subst hj0; simp
        · simp [h0, hj0, Nat.add_assoc]
    rw [e]
    exact this
  · rw [hs, Nat.mul_one]
    cases a with
    | none => split <;> rfl
    | some ad => split <;> simp [Value.ownBlock, add_block']
where add_block' (ad : Addr) (j : Nat) : (ad.add j).block = ad.block := by unfold Addr.add; split <;> rfl
theorem num4_lt (l : List UInt8) : num (l.take 4) < 4294967296 := by
  have h := num_lt (l.take 4)
  have h2 : (256 : Nat) ^ (l.take 4).length ≤ 256 ^ 4 := Nat.pow_le_pow_right (by decide) (by simp; omega)
  omega
theorem flat_take_drop (l : List (List UInt8)) (h : ∀ s ∈ l, s.length = 128) (b j : Nat) (hj : b + j ≤ l.length) : ((l.drop b).take j).flatten.length = j * 128 := by
  rw [flat_len (n := 128) (fun s hs => h s (List.mem_of_mem_drop (List.mem_of_mem_take hs)))]
  simp
  omega
theorem flat_succ (l : List (List UInt8)) (b j : Nat) (hj : b + j < l.length) : ((l.drop b).take (j + 1)).flatten = ((l.drop b).take j).flatten ++ l.getD (b + j) [] := by
  rw [List.take_succ_eq_append_getElem (by simp; omega), List.flatten_append]
  simp only [List.flatten_cons, List.flatten_nil, List.append_nil, List.getElem_drop]
  rw [List.getD_eq_getElem?_getD, List.getElem?_eq_getElem hj]
  rfl
theorem take_flat (l : List (List UInt8)) (h : ∀ s ∈ l, s.length = 128) (b j e k : Nat) (hje : j ≤ e) (he : b + e ≤ l.length) (hk : k ≤ j * 128) : (((l.drop b).take e).flatten).take k = (((l.drop b).take j).flatten).take k := by
  have e1 : ((l.drop b).take e).take j = (l.drop b).take j := by rw [List.take_take, Nat.min_eq_left hje]
  have hall : ∀ s ∈ (l.drop b).take e, s.length = 128 := fun s hs => h s (List.mem_of_mem_drop (List.mem_of_mem_take hs))
  have e2 := flat_take hall j
  rw [e1] at e2
  rw [← e2, List.take_take, Nat.min_eq_left hk]
section
variable {w : World} {b bv : Nat} {d : Dk} {v : Vt} {K : Value → World → Prop}
theorem read_at {d : Dk} {i : Nat} (hi : i < d.safe.length) : d.read (i : Int) = if d.dead = true then ([], 6) else (d.now.getD i [], 0) := by
  unfold Dk.read
  rw [if_neg (by omega)]
  rfl
theorem VGet_spec {at_ : Int} (hv : VaultAt w bv b v) (hd : DiskAt w b d) (ok : v.ok d.safe.length)
    (hK : ∀ u w1, Ext w w1 → Bts w1 u (vget v d at_).1 → K (.tuple #[u, i64v (vget v d at_).2]) w1) : CALL Tryz.prog 68 #[ptr bv, i64v at_] w K := by
  have e0 : decide ((0 : Int) ≠ 0) = false := by decide
  have e1 : decide ((1 : Int) ≠ 0) = true := by decide
  have e6 : decide ((6 : Int) ≠ 0) = true := by decide
  apply call_vault_Vault_Get
  unfold B_vault_Vault_Get
  refine shelf_spec hv ok ?_ ?_
  · intro hbad
    simp only [X_extract0, X_extract1, X_neq, e1, GS]
    have e : vget v d at_ = ([], 1) := by unfold vget; rw [if_pos hbad]
    have := hK (.slice none 0 0) w (Keep.refl _ _) (by rw [e]; exact Bts.nil w)
    rw [e] at this
    exact this
  rintro i rfl hi w1 hx1
  have hd1 := hd.ext hx1
  have hv1 : VaultAt w1 bv b v := hx1.get hv
  have hgood : ¬ ((i : Int) < 0 ∨ (v.n : Int) ≤ (i : Int)) := by omega
  have hle := Vt.at_le ok hi
  obtain ⟨ok1, ok2, ok3, ok4⟩ := id ok
  obtain ⟨B, hB⟩ : ∃ B, B = v.fm + i * v.each := ⟨_, rfl⟩
  rw [← hB] at hle ⊢
  simp only [X_extract0, X_extract1, X_neq, e0, GS, X_nilS, X_field_92_0]
  refine X_loadL agg_54 hv1 (v := ptr b) rfl ?_
  refine Read_spec hd1 ?_
  intro v2 w2 hx2 ho2
  rw [read_at (d := d) (i := B) (by omega)] at ho2 ⊢
  by_cases hdead : d.dead = true
  · rw [if_pos hdead] at ho2 ⊢
    simp only [X_extract0, X_extract1, X_neq, e6, GS]
    have e : vget v d (i : Int) = ([], 6) := by unfold vget; rw [if_neg hgood, if_pos hdead]
    have := hK (.slice none 0 0) w2 (hx1.trans hx2) (by rw [e]; exact Bts.nil _)
    rw [e] at this
    exact this
  rw [if_neg hdead] at ho2 ⊢
  have n128 := Dk.now_128 hd.1
  have nlen := Dk.now_length d
  have hnl : (d.now.getD B []).length = 128 := by
    rw [List.getD_eq_getElem?_getD, List.getElem?_eq_getElem (by omega)]
    exact n128 _ (List.getElem_mem _)
  have eone : ((d.now.drop B).take 1).flatten = d.now.getD B [] := by
    have := flat_succ d.now B 0 (by omega)
    rw [Nat.add_zero] at this
    simpa using this
  simp only [X_extract0, X_extract1, X_neq, e0, GS]
  have hb2 := (own_bts ho2).1
  refine New_spec hb2 (by show (d.now.getD B []).length ≤ _; omega) ?_
  intro rb w3 hx3 hrb hr3
  refine Get_spec hr3 ?_
  intro w4 hk4 hr4
  have hx4 : Ext w2 w4 := Ext.seq hx3 hk4 (fun j hj => by omega)
  have eg : getR (d.now.getD B []) 0 4 = (num ((d.now.getD B []).take 4), (d.now.getD B []).drop 4, 0) := by
    unfold getR
    rw [if_neg (by simp), if_neg (by omega), if_neg (by rw [hnl]; decide)]
    rfl
  rw [eg]
  have hv4 : VaultAt w4 bv b v := hx4.get (hx2.get hv1)
  have eall : (vall v d i).take 4 = (d.now.getD B []).take 4 := by
    unfold vall
    rw [← hB, take_flat d.now n128 B 1 v.each 4 ok1 (by omega) (by decide), eone]
  obtain ⟨n, hn⟩ : ∃ n, n = num ((d.now.getD B []).take 4) := ⟨_, rfl⟩
  have hn4 := num4_lt (d.now.getD B [])
  rw [← hn] at hn4 ⊢
  refine VRoom_spec hv4 ok ?_
  have hrle : v.room ≤ 16384 * 128 := by unfold Vt.room; omega
  rw [X_conv_3_37, wrap_u64, Int.emod_eq_of_lt (by omega) (by omega), X_gtr, condS_bool]
  have eget : vget v d (i : Int) = if v.room < n then ([], 110) else (((vall v d i).drop 4).take n, 0) := by
    unfold vget
    rw [if_neg hgood, if_neg hdead]
    show (if v.room < num ((vall v d i).take 4) then _ else _) = _
    rw [Int.toNat_natCast, eall, ← hn]
  by_cases hroom : v.room < n
  · rw [if_pos (by simp; omega)]
    rw [if_pos hroom] at eget
    have := hK (.slice none 0 0) w4 (hx1.trans (hx2.trans hx4)) (by rw [eget]; exact Bts.nil _)
    rw [eget] at this
    exact this
  rw [if_neg (by simp; omega)]
  rw [if_neg hroom] at eget
  have hroomv : 4 + n ≤ v.each * 128 := by unfold Vt.room at hroom; omega
  rw [X_add, w64 (by omega) (by omega)]
  have ho4 := own_extD ho2 hx4
  have hd4 := hd1.ext (hx2.trans hx4)
  refine loopE (fun ρ wr => ∃ (j : Nat) (va : Value), 1 ≤ j ∧ j ≤ v.each ∧ Ext w1 wr ∧ wr.ownsRow w1.heap.size 5 1 va (((d.now.drop B).take j).flatten).length (B8 ((d.now.drop B).take j).flatten) ∧ ρ 8 = va ∧ ρ 9 = .int .u64 (n : Int) ∧ ρ 6 = .int .i64 ((B + j : Nat) : Int) ∧ ρ 0 = ptr bv)
    (fun ρ wr => match ρ 6 with | .int _ s => (B + v.each + 1 - s).toNat | _ => 0)
    (fun ρ wr => ∃ (j : Nat) (va : Value), j ≤ v.each ∧ 4 + n ≤ j * 128 ∧ Ext w1 wr ∧ Bts wr va ((d.now.drop B).take j).flatten ∧ ρ 8 = va ∧ ρ 9 = .int .u64 (n : Int)) ?_ ?_ ?_
  · refine ⟨1, v2, Nat.le_refl _, ok1, hx2.trans hx4, ?_, rfl, rfl, ?_, rfl⟩
    · rw [eone]; exact ho4
    · show Value.int .i64 ((B : Int) + 1) = _
      congr 1
  · rintro J hJ ρ wr ⟨j, va, hj1, hj, hxr, hor, r8, r9, r6, r0⟩
    have hlj := flat_take_drop d.now n128 B j (by omega)
    obtain ⟨aa, ca, ea⟩ := own_sl hor
    rw [r8, r9, ea, X_len_28, X_conv_37_3, w64 (by omega) (by omega), X_add, w64 (by omega) (by omega), X_lss, condS_bool, ← ea, hlj]
    by_cases hlt : j * 128 < 4 + n
    case neg =>
      rw [if_neg (by simp; omega)]
      exact hJ _ _ ⟨j, va, hj, by omega, hxr, (own_bts hor).1, r8, r9⟩
    rw [if_pos (by simp; omega)]
    have hje : j < v.each := by omega
    have hvr : VaultAt wr bv b v := hxr.get hv1
    rw [r0, r6]
    simp only [X_nilS, X_field_92_0]
    refine X_loadL agg_54 hvr (v := ptr b) rfl ?_
    have hdr := hd1.ext hxr
    refine Read_spec hdr ?_
    intro v5 w5 hx5 ho5
    rw [read_at (d := d) (i := B + j) (by omega), if_neg hdead] at ho5 ⊢
    simp only [X_extract0, X_extract1, X_neq, e0, GS]
    have hor5 := own_extD hor hx5
    have hnl5 : (d.now.getD (B + j) []).length = 128 := by
      rw [List.getD_eq_getElem?_getD, List.getElem?_eq_getElem (by omega)]
      exact n128 _ (List.getElem_mem _)
    refine X_append_bts (base := w1.heap.size) Tryz.underlying28 el_5 hor5 (own_bts ho5).1 (by show _ + (d.now.getD (B + j) []).length ≤ _; omega) (by have := hxr.size; have := hx5.size; omega) ?_
    intro v6 w6 ho6 hk6
    rw [X_add, w64 (by omega) (by omega)]
    have es := flat_succ d.now B j (by omega)
    rw [← es] at ho6
    show _ ∧ _
    refine ⟨⟨j + 1, v6, by omega, hje, Ext.seq (hxr.trans hx5) hk6 (fun q hq => (hor.lt q hq.symm).1), ?_, rfl, r9, ?_, r0⟩, ?_⟩
    · have el : ((d.now.drop B).take (j + 1)).flatten.length = ((d.now.drop B).take j).flatten.length + (d.now.getD (B + j) []).length := by rw [es, List.length_append]
      rw [el]
      exact ho6
    · show Value.int .i64 (((B + j : Nat) : Int) + 1) = _
      congr 1
    · show ((B : Int) + (v.each : Int) + 1 - (((B + j : Nat) : Int) + 1)).toNat < _
      first | omega | (show _ < (_ : Int).toNat; omega)
  · rintro ρ wr ⟨j, va, hj, hjn, hxr, hbr, r8, r9⟩
    have hlj := flat_take_drop d.now n128 B j (by omega)
    rw [r8, r9]
    rw [X_conv_37_3, w64 (by omega) (by omega), X_add, w64 (by omega) (by omega)]
    rw [X_conv_37_3, w64 (by omega) (by omega), X_add, w64 (by omega) (by omega)]
    obtain ⟨u, hu, hub, _⟩ := cut_three Tryz.underlying28 info_5 sz_5 hbr (kl := .i64) (kh := .i64) (km := .i64) (li := 4) (hj := 4 + (n : Int)) (mj := 4 + (n : Int)) 4 (4 + n) rfl (by omega) (by omega) (by omega) (by omega)
    refine X_of (hu _) ?_
    have := hK u wr (hx1.trans hxr) (by
      rw [eget]
      have e2 : ((vall v d i).drop 4).take n = ((((d.now.drop B).take j).flatten).take (4 + n)).drop 4 := by
        have e3 : (vall v d i).take (4 + n) = (((d.now.drop B).take j).flatten).take (4 + n) := by
          unfold vall
          rw [← hB]
          exact take_flat d.now n128 B j v.each (4 + n) hj (by omega) hjn
        rw [← e3, List.drop_take, show 4 + n - 4 = n by omega]
      show Bts wr u (((vall v d i).drop 4).take n)
      rw [e2]
      exact hub)
    rw [eget] at this
    exact this
end
end Go.Proofs.YtcigpjejbkngfaaGreatDoor
end
