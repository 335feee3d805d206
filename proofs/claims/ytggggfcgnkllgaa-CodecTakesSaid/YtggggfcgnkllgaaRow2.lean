/- A slice whose elements are two cells each, as a list. -/
import Derived.Test.YtggggfcgnkllgaaRow
set_option linter.unusedVariables false
set_option linter.unusedSimpArgs false
namespace Go.Sh
open Go Go.RowKit Go.ChangeShapes Go.WideShapes Go.ChangeAt
def Row2 {α : Type} (f g : α → Value) (w : World) (v : Value) (xs : List α) : Prop :=
  ∃ a c, v = .slice a xs.length c ∧ xs.length ≤ c ∧ c ≤ 9223372036854775807 ∧ (0 < xs.length → ∃ ad, a = some ad ∧ ∀ j x, xs[j]? = some x → w.cell? ((ad.add (j * 2)).add 0) = some (f x) ∧ w.cell? ((ad.add (j * 2)).add 1) = some (g x))
theorem Row2.slice {α : Type} {f g : α → Value} {w : World} {v : Value} {xs : List α} (h : Row2 f g w v xs) : ∃ a c, v = .slice a xs.length c := by
  obtain ⟨a, c, e, _⟩ := h
  exact ⟨a, c, e⟩
theorem cells_two {W : World} {a : Addr} {es : List Value} (h : W.cells? 0 a 2 = some es) : ∃ u v, es = [u, v] ∧ W.cell? (a.add 0) = some u ∧ W.cell? (a.add 1) = some v := by
  unfold World.cells? at h
  simp only [Nat.zero_le, if_true] at h
  simp [List.range_succ] at h
  cases h0 : W.cell? (a.add 0) with
  | none => rw [h0] at h; simp at h
  | some u =>
    cases h1 : W.cell? (a.add 1) with
    | none => rw [h0, h1] at h; simp at h
    | some v =>
      rw [h0, h1] at h
      simp at h
      exact ⟨u, v, h.symm, rfl, rfl⟩
section
variable {P : Program} {α : Type} {f g : α → Value}
theorem Row2.at {T e : TypeId} (hT : P.underlying T = some (.slice e)) (hi : infoB P e = true) (hs : szT P e = 2) {v : Value} {xs : List α} {w0 : World} (hb : Row2 f g w0 v xs) {k : IntKind} {ii : Int} (i : Nat) (e1 : ii = i) (h : i < xs.length) :
    ∃ a, (∀ w, (Instr.indexAt T v (.int k ii)).run P w = .ok (.pointer (some a)) w) ∧ w0.cell? (a.add 0) = some (f xs[i]) ∧ w0.cell? (a.add 1) = some (g xs[i]) := by
  obtain ⟨a, c, rfl, h3, h4, h5⟩ := hb
  obtain ⟨ad, rfl, hc⟩ := h5 (by omega)
  refine ⟨_, fun w => ix hT hi i e1 h w, ?_⟩
  rw [hs]
  exact hc i _ (List.getElem?_eq_getElem h)
theorem TrC.row2 {H : Type} {enc : TypeId × Value → H} {W : World} {t e : TypeId} {v : Value} {Good : α → Prop} (ht : P.underlying t = some (.slice e)) (hc : P.cellsOf e = 2)
    (he : ∀ es, TrC enc P W e es → ∃ x, es = [f x, g x] ∧ Good x) (h : TrC enc P W t [v]) : ∃ xs, Row2 f g W v xs ∧ ∀ x ∈ xs, Good x := by
  rcases h.slice ht with hv | ⟨a, len, cap, hv, h1, h2, h3⟩
  · injection hv with hv
    subst hv
    exact ⟨[], ⟨none, 0, rfl, Nat.le_refl _, by omega, fun h => absurd h (by simp)⟩, by simp⟩
  · injection hv with hv
    subst hv
    have key : ∀ i, i < len → ∃ x, (W.cell? ((a.add (i * 2)).add 0) = some (f x) ∧ W.cell? ((a.add (i * 2)).add 1) = some (g x)) ∧ Good x := by
      intro i hi
      obtain ⟨es, h4, h5⟩ := h3 i hi
      rw [hc] at h4
      obtain ⟨u, v, rfl, hu, hv⟩ := cells_two h4
      obtain ⟨x, hx, hg⟩ := he _ h5
      injection hx with hx hx'
      injection hx' with hx'
      exact ⟨x, ⟨by rw [hu, hx], by rw [hv, hx']⟩, hg⟩
    have all : ∀ n, n ≤ len → ∃ xs : List α, xs.length = n ∧ (∀ j x, xs[j]? = some x → W.cell? ((a.add (j * 2)).add 0) = some (f x) ∧ W.cell? ((a.add (j * 2)).add 1) = some (g x)) ∧ ∀ x ∈ xs, Good x := by
      intro n
      induction n with
      | zero => intro _; exact ⟨[], rfl, by simp, by simp⟩
      | succ n ih =>
        intro hn
        obtain ⟨xs, hl, hb, hg⟩ := ih (by omega)
        obtain ⟨x, hx, hgx⟩ := key n (by omega)
        refine ⟨xs ++ [x], by simp [hl], fun j y hj => ?_, ?_⟩
        · by_cases hjn : j < xs.length
          · exact hb j y (by rwa [List.getElem?_append_left hjn] at hj)
          · have hlt := (List.getElem?_eq_some_iff.1 hj).1
            simp at hlt
            have : j = xs.length := by omega
            subst this
            simp at hj
            subst hj
            rw [hl]; exact hx
        · intro y hy
          rcases List.mem_append.1 hy with hy | hy
          · exact hg y hy
          · simp at hy; subst hy; exact hgx
    obtain ⟨xs, hl, hb, hg⟩ := all len (Nat.le_refl _)
    exact ⟨xs, ⟨some a, cap, by rw [hl], by omega, h2, fun _ => ⟨a, rfl, hb⟩⟩, hg⟩
def fB (x : Bool × Int) : Value := .bool x.1
def fI (x : Bool × Int) : Value := .int .i64 x.2
theorem arg_takes {H : Type} {enc : TypeId × Value → H} {W : World} {base : Nat} {v : Value} {d : DataW H} {p : List MemPlace} {t e : TypeId} {f0 f1 : Field} (ht : P.underlying t = some (.slice e)) (he : P.underlying e = some (.struct #[f0, f1])) (hc : P.cellsOf e = 2)
    (o0 : f0.offset = 0) (o1 : f1.offset = 1) (t0 : P.underlying f0.type = some .bool) (t1 : P.underlying f1.type = some (.int .i64)) (c0 : P.cellsOf f0.type = 1) (c1 : P.cellsOf f1.type = 1)
    (ok : Value.okWide P W .any base t v) (h : DataW.Trod enc P W 0 (fun _ => true) true t v d p) : ∃ xs : List (Bool × Int), Row2 fB fI W v xs ∧ ∀ x ∈ xs, x.2 ≤ 9223372036854775807 := by
  obtain ⟨a, n, c, rfl⟩ := okWide_slice ht ok
  refine TrC.row2 ht hc (fun es hes => ?_) (TrC.of h)
  obtain ⟨hl, hf⟩ := hes.struct he
  rw [hc] at hl
  match es, hl with
  | [x0, x1], _ =>
    have g0 := hf f0 (by simp)
    have g1 := hf f1 (by simp)
    rw [o0, c0] at g0
    rw [o1, c1] at g1
    obtain ⟨b, e0⟩ := TrC.bool t0 g0
    obtain ⟨m, e1, w1⟩ := TrC.int t1 g1
    simp at e0 e1
    subst e0; subst e1
    simp [Lit.wf, IntKind.min, IntKind.max, IntKind.signed, IntKind.bits] at w1
    exact ⟨(b, m), rfl, by show m ≤ _; omega⟩
end
end Go.Sh
