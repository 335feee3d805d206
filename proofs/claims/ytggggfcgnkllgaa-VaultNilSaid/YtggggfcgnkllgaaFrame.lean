/- From a call's contract to a law's row: the arguments read as they did, nothing that was there has turned. -/
import Derived.Test.YtggggfcgnkllgaaOps
import Derived.ProofKit
import Derived.SizedLaws
import Derived.OpenShut
set_option linter.unusedVariables false
namespace Go.Sh
open Go Go.RowKit Go.ChangeShapes Go.WideShapes

theorem ext_same {W W' : World} (h : Ext W W') {p : MemPlace} (hp : p.block < W.heap.size) : W.sameAt W' p := h.below.same hp

theorem trodAll_stays {H : Type} {enc : TypeId × Value → H} {P : Program} (hl : laidOutB P = true) {W W' : World} (he : Ext W W') {sp : Nat → Bool} :
    ∀ {ts : List TypeId} {vs : List Value} {ds : List (DataW H)} {ps : List MemPlace}, ts.all (fun t => P.readableRec t && decide (t < P.types.size)) = true →
      DataW.TrodAll enc P W 0 (fun _ => true) true ts vs ds ps → (∀ p ∈ ps, p.block < W.heap.size) → (∀ p ∈ ps, sp p.block = true) → DataW.TrodAll enc P W' 0 sp true ts vs ds ps
  | [], vs, ds, ps, _, h, _, _ => by
    obtain ⟨rfl, rfl, rfl⟩ := trodAll_nil h
    exact trodAll_mk0
  | t :: ts, vs, ds, ps, ht, h, hlt, hs => by
    obtain ⟨v, vs1, d, ds1, a, b, rfl, rfl, rfl, h1, h2⟩ := trodAll_cons h
    simp only [List.all_cons, Bool.and_eq_true, decide_eq_true_eq] at ht
    exact ⟨a, b, WideElems.Trod_stays hl ht.1.1 ht.1.2 h1 (fun x hx => ext_same he (hlt x (by simp [hx]))) (fun x hx => hs x (by simp [hx])),
      trodAll_stays hl he ht.2 h2 (fun x hx => hlt x (by simp [hx])) (fun x hx => hs x (by simp [hx])), rfl⟩

theorem ext_keptBut {W W' : World} (h : Ext W W') (may : MemPlace → Prop) : W.keptBut W' may := by
  refine ⟨h.os, h.output, fun i hi => ?_⟩
  rw [h.block i hi (fun h => h)]
  cases hb : W.heap[i]? with
  | none => simp
  | some o => cases o <;> simp

theorem law_post {H : Type} {enc : TypeId × Value → H} {P : Program} {f : Func} {s : ChangeSpec} {W W' : World} {args : Array Value} {ds : List (DataW H)} {before : List MemPlace} {tb : TypeId}
    (hl : laidOutB P = true) (hT : f.params.toList.all (fun t => P.readableRec t && decide (t < P.types.size)) = true) (hv : s.vars = [])
    (hfn : s.fn H (ds ++ []) = { results := [.lit (.bool true)], args := ds }) (hres : f.resultTypes = #[tb]) (htb : P.underlying tb = some .bool)
    (hW : DataW.Whole enc P f.params.toList s.vars false W args.toList ds [] before) (he : Ext W W') : s.post enc P f false true false false W args (.bool true) W' := by
  have hlt := hW.lt
  obtain ⟨p, q, hA, hV, hp, hz, hn⟩ := id hW
  rw [hv] at hV
  obtain ⟨_, rfl⟩ := trodVars_none hV
  rw [List.append_nil] at hp
  subst hp
  refine ⟨ds, [], before, [], before, [], hW, ?_, ?_, ?_, ext_keptBut he _, fun h => by cases h⟩
  · rw [hfn, hres]
    exact ⟨[], [], ⟨1, by simp [DataW.trod, Value.cells, htb]⟩, rfl, rfl⟩
  · rw [hfn]
    exact trodAll_stays hl he hT hA hlt (fun x hx => by simpa using hlt x hx)
  · rw [hfn, hv]
    rfl

/-! ### What an argument holds -/
section
variable {H : Type} {enc : TypeId × Value → H} {P : Program} {W : World}

/-- These cells read as data of that type. -/
def TrC (enc : TypeId × Value → H) (P : Program) (W : World) (t : TypeId) (cs : List Value) : Prop := ∃ fuel x, DataW.trod enc P W 0 (fun _ => true) true fuel t cs = some x

theorem TrC.of {t : TypeId} {v : Value} {d : DataW H} {p : List MemPlace} (h : DataW.Trod enc P W 0 (fun _ => true) true t v d p) : TrC enc P W t v.cells.toList := by
  obtain ⟨fuel, h⟩ := h; exact ⟨fuel, _, h⟩
theorem TrC.int {t : TypeId} {k : IntKind} {cs : List Value} (ht : P.underlying t = some (.int k)) (h : TrC enc P W t cs) : ∃ n, cs = [.int k n] ∧ (Lit.int k n).wf = true := by
  obtain ⟨fuel, x, h⟩ := h
  cases fuel with
  | zero => simp [DataW.trod] at h
  | succ fuel =>
    unfold DataW.trod at h
    rw [ht] at h
    split at h <;> first | (simp at *; done) | skip
    rename_i k1 k' n e1
    injection e1 with e1
    injection e1 with e1
    subst e1
    split at h
    · rename_i hh; obtain ⟨rfl, hw⟩ := hh; exact ⟨n, rfl, hw⟩
    · cases h
theorem TrC.bool {t : TypeId} {cs : List Value} (ht : P.underlying t = some .bool) (h : TrC enc P W t cs) : ∃ b, cs = [.bool b] := by
  obtain ⟨fuel, x, h⟩ := h
  cases fuel with
  | zero => simp [DataW.trod] at h
  | succ fuel =>
    unfold DataW.trod at h
    rw [ht] at h
    split at h <;> first | (simp at *; done) | exact ⟨_, rfl⟩
theorem TrC.string {t : TypeId} {cs : List Value} (ht : P.underlying t = some .string) (h : TrC enc P W t cs) : ∃ s, cs = [.string s] ∧ s.size ≤ 9223372036854775807 := by
  obtain ⟨fuel, x, h⟩ := h
  cases fuel with
  | zero => simp [DataW.trod] at h
  | succ fuel =>
    unfold DataW.trod at h
    rw [ht] at h
    split at h <;> first | (simp at *; done) | skip
    split at h
    · rename_i hh; exact ⟨_, rfl, by simpa [maxLen] using hh⟩
    · cases h
theorem mapM_some {α β : Type} {f : α → Option β} : ∀ {l : List α} {r : List β}, l.mapM f = some r → ∀ x ∈ l, ∃ y, f x = some y
  | [], _, _, x, hx => by cases hx
  | a :: l, r, h, x, hx => by
    rw [List.mapM_cons] at h
    cases ha : f a with
    | none => simp [ha] at h
    | some y =>
      rcases List.mem_cons.1 hx with rfl | hx
      · exact ⟨y, ha⟩
      · cases hl : l.mapM f with
        | none => simp [ha, hl] at h
        | some ys => exact mapM_some hl x hx
theorem TrC.slice {t e : TypeId} {cs : List Value} (ht : P.underlying t = some (.slice e)) (h : TrC enc P W t cs) : cs = [.slice none 0 0] ∨ ∃ a len cap, cs = [.slice (some a) len cap] ∧ len ≤ cap ∧ cap ≤ 9223372036854775807 ∧
    ∀ i, i < len → ∃ es, W.cells? 0 (a.add (i * P.cellsOf e)) (P.cellsOf e) = some es ∧ TrC enc P W e es := by
  obtain ⟨fuel, x, h⟩ := h
  cases fuel with
  | zero => simp [DataW.trod] at h
  | succ fuel =>
    unfold DataW.trod at h
    rw [ht] at h
    split at h <;> first | (simp at *; done) | skip
    · rename_i e1 a len cap e2
      injection e2 with e2
      injection e2 with e2
      subst e2
      right
      simp only at h
      split at h
      · rename_i hb
        refine ⟨a, len, cap, rfl, hb.2.1, by simpa [maxLen] using hb.2.2, fun i hi => ?_⟩
        cases hm : (List.range len).mapM (fun i => (W.cells? 0 (a.add (i * P.cellsOf e)) (P.cellsOf e)).bind (DataW.trod enc P W 0 (fun _ => true) true fuel e)) with
        | none => rw [hm] at h; simp at h
        | some elems =>
          obtain ⟨y, hy⟩ := mapM_some hm i (by simpa using hi)
          obtain ⟨es, h1, h2⟩ := Option.bind_eq_some_iff.1 hy
          exact ⟨es, h1, fuel, y, h2⟩
      · cases h
theorem TrC.struct {t : TypeId} {fs : Array Field} {cs : List Value} (ht : P.underlying t = some (.struct fs)) (h : TrC enc P W t cs) : cs.length = P.cellsOf t ∧ ∀ f ∈ fs.toList, TrC enc P W f.type ((cs.drop f.offset).take (P.cellsOf f.type)) := by
  obtain ⟨fuel, x, h⟩ := h
  cases fuel with
  | zero => simp [DataW.trod] at h
  | succ fuel =>
    unfold DataW.trod at h
    rw [ht] at h
    split at h <;> first | (simp at *; done) | skip
    rename_i fs1 e1
    injection e1 with e1
    injection e1 with e1
    subst e1
    split at h
    · rename_i hl
      refine ⟨hl, fun f hf => ?_⟩
      obtain ⟨xs, hm, _⟩ := Option.map_eq_some_iff.1 h
      obtain ⟨y, hy⟩ := mapM_some hm f hf
      exact ⟨fuel, y, hy⟩
    · cases h
theorem TrC.array {t e n : Nat} {cs : List Value} (ht : P.underlying t = some (.array n e)) (h : TrC enc P W t cs) : cs.length = P.cellsOf t ∧ ∀ i, i < n → TrC enc P W e ((cs.drop (i * P.cellsOf e)).take (P.cellsOf e)) := by
  obtain ⟨fuel, x, h⟩ := h
  cases fuel with
  | zero => simp [DataW.trod] at h
  | succ fuel =>
    unfold DataW.trod at h
    rw [ht] at h
    split at h <;> first | (simp at *; done) | skip
    rename_i n1 e1 e2
    injection e2 with e2
    injection e2 with e2 e3
    subst e2; subst e3
    split at h
    · rename_i hl
      refine ⟨hl, fun i hi => ?_⟩
      obtain ⟨xs, hm, _⟩ := Option.map_eq_some_iff.1 h
      obtain ⟨y, hy⟩ := mapM_some hm i (by simpa using hi)
      exact ⟨fuel, y, hy⟩
    · cases h
theorem cells_one {W : World} {a : Addr} {es : List Value} (h : W.cells? 0 a 1 = some es) : ∃ v, es = [v] ∧ W.cell? a = some v := by
  unfold World.cells? at h
  simp only [Nat.zero_le, if_true] at h
  have e1 : (List.range 1).mapM (fun i => W.cell? (a.add i)) = (W.cell? a).map (fun v => [v]) := by
    simp [List.range_succ, Addr.add]
    cases W.cell? a <;> rfl
  rw [e1] at h
  obtain ⟨v, hv, rfl⟩ := Option.map_eq_some_iff.1 h
  exact ⟨v, rfl, hv⟩
theorem u8_of_wf {n : Int} (h : (Lit.int .u8 n).wf = true) : ∃ u : UInt8, n = (u.toNat : Int) := by
  simp [Lit.wf, IntKind.min, IntKind.max, IntKind.signed, IntKind.bits] at h
  refine ⟨UInt8.ofNat n.toNat, ?_⟩
  simp
  omega
/-- A slice of bytes. -/
theorem TrC.bytes {t e : TypeId} {v : Value} (ht : P.underlying t = some (.slice e)) (he : P.underlying e = some (.int .u8)) (hc : P.cellsOf e = 1) (h : TrC enc P W t [v]) : ∃ bs, Bts W v bs := by
  rcases h.slice ht with hv | ⟨a, len, cap, hv, h1, h2, h3⟩
  · injection hv with hv
    subst hv
    exact ⟨[], Bts.nil W⟩
  · injection hv with hv
    subst hv
    have key : ∀ i, i < len → ∃ u : UInt8, W.cell? (a.add i) = some (.int .u8 (u.toNat : Int)) := by
      intro i hi
      obtain ⟨es, h4, h5⟩ := h3 i hi
      rw [hc, Nat.mul_one] at h4
      obtain ⟨c, rfl, hcell⟩ := cells_one h4
      obtain ⟨n, hn, hw⟩ := h5.int he
      injection hn with hn
      obtain ⟨u, rfl⟩ := u8_of_wf hw
      exact ⟨u, by rw [hcell, hn]⟩
    have all : ∀ n, n ≤ len → ∃ bs : List UInt8, bs.length = n ∧ ∀ j u, bs[j]? = some u → W.cell? (a.add j) = some (.int .u8 (u.toNat : Int)) := by
      intro n
      induction n with
      | zero => intro _; exact ⟨[], rfl, by simp⟩
      | succ n ih =>
        intro hn
        obtain ⟨bs, hl, hb⟩ := ih (by omega)
        obtain ⟨u, hu⟩ := key n (by omega)
        refine ⟨bs ++ [u], by simp [hl], fun j y hj => ?_⟩
        by_cases hjn : j < bs.length
        · exact hb j y (by rwa [List.getElem?_append_left hjn] at hj)
        · have hlt := (List.getElem?_eq_some_iff.1 hj).1
          simp at hlt
          have : j = bs.length := by omega
          subst this
          simp at hj
          subst hj
          rw [hl]; exact hu
    obtain ⟨bs, hl, hb⟩ := all len (Nat.le_refl _)
    exact ⟨bs, some a, cap, by rw [hl], by omega, h2, fun _ => ⟨a, rfl, hb⟩⟩
end
end Go.Sh
