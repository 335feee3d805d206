/- Arguments with their weights: no slice in them is longer than memory bears. -/
import Derived.Test.YtggggfcgnkllgaaRowK
set_option linter.unusedVariables false
set_option linter.unusedSimpArgs false
namespace Go.Sh
open Go Go.RowKit Go.ChangeShapes Go.WideShapes Go.ChangeAt
section
variable {H : Type} {enc : TypeId × Value → H} {P : Program} {W : World}
def TrW (enc : TypeId × Value → H) (P : Program) (W : World) (M : Nat) (t : TypeId) (cs : List Value) : Prop := ∃ fuel x, DataW.trod enc P W 0 (fun _ => true) true fuel t cs = some x ∧ ∀ m ∈ x.1.weights P t, m ≤ M
theorem TrW.c {M : Nat} {t : TypeId} {cs : List Value} (h : TrW enc P W M t cs) : TrC enc P W t cs := by
  obtain ⟨fuel, x, h, _⟩ := h
  exact ⟨fuel, x, h⟩
theorem TrW.of {t : TypeId} {v : Value} {d : DataW H} {p : List MemPlace} {ts : List TypeId} {ds : List (DataW H)} {j : Nat} (h : DataW.Trod enc P W 0 (fun _ => true) true t v d p)
    (hsz : (DataW.weightsEach P ts ds).all (· ≤ reachBytes) = true) (hj : ts[j]? = some t) (hd : ds[j]? = some d) : TrW enc P W reachBytes t v.cells.toList := by
  obtain ⟨fuel, h⟩ := h
  refine ⟨fuel, _, h, fun m hm => ?_⟩
  have := List.all_eq_true.1 hsz _ (DataW.weights_mem_each hj hd m hm)
  simpa using this
theorem mapM_idx {β γ : Type} (g : β → Option γ) : ∀ (l : List β) (es : List γ), l.mapM g = some es → ∀ (i : Nat) (x : β), l[i]? = some x → ∃ y, es[i]? = some y ∧ g x = some y
  | [], es, h, i, x, hx => by cases hx
  | z :: l, es, h, i, x, hx => by
    rw [List.mapM_cons] at h
    cases hz : g z with
    | none => rw [hz] at h; simp at h
    | some y =>
      cases hl : l.mapM g with
      | none => rw [hz, hl] at h; simp at h
      | some ys =>
        rw [hz, hl] at h
        simp at h
        subst h
        cases i with
        | zero =>
          have e : z = x := by simpa using hx
          subst e
          exact ⟨y, rfl, hz⟩
        | succ i => exact mapM_idx g l ys hl i x hx
theorem mapM_len {β γ : Type} (g : β → Option γ) : ∀ (l : List β) (es : List γ), l.mapM g = some es → es.length = l.length
  | [], es, h => by simp at h; subst h; rfl
  | z :: l, es, h => by
    rw [List.mapM_cons] at h
    cases hz : g z with
    | none => rw [hz] at h; simp at h
    | some y =>
      cases hl : l.mapM g with
      | none => rw [hz, hl] at h; simp at h
      | some ys =>
        rw [hz, hl] at h
        simp at h
        subst h
        rw [List.length_cons, List.length_cons, mapM_len g l ys hl]
theorem weights_all_mem {e : TypeId} : ∀ {l : List (DataW H)} {i : Nat} {d : DataW H}, l[i]? = some d → ∀ m ∈ d.weights P e, m ∈ DataW.weightsAll P e l
  | [], i, d, h, m, hm => by cases h
  | x :: l, i, d, h, m, hm => by
    unfold DataW.weightsAll
    cases i with
    | zero =>
      have e : x = d := by simpa using h
      subst e
      exact List.mem_append_left _ hm
    | succ i => exact List.mem_append_right _ (weights_all_mem (l := l) (i := i) (by simpa using h) m hm)
theorem TrW.struct {M : Nat} {t : TypeId} {fs : Array Field} {cs : List Value} (ht : P.underlying t = some (.struct fs)) (h : TrW enc P W M t cs) : cs.length = P.cellsOf t ∧ ∀ f ∈ fs.toList, TrW enc P W M f.type ((cs.drop f.offset).take (P.cellsOf f.type)) := by
  obtain ⟨fuel, x, h, hw⟩ := h
  cases fuel with
  | zero => simp [DataW.trod] at h
  | succ fuel =>
    unfold DataW.trod at h
    rw [ht] at h
    split at h <;> first | (simp at *; done) | skip
    rename_i fs1 e1
    injection e1 with e1
    injection e1 with e1
    subst e1
    split at h
    · rename_i hl
      refine ⟨hl, fun f hf => ?_⟩
      obtain ⟨xs, hm, he⟩ := Option.map_eq_some_iff.1 h
      obtain ⟨i, hi, hfi⟩ := List.mem_iff_getElem.1 hf
      obtain ⟨y, hy, hg⟩ := mapM_idx _ _ _ hm i f (by rw [List.getElem?_eq_getElem hi, hfi])
      refine ⟨fuel, y, hg, fun m hm' => hw m ?_⟩
      rw [← he]
      show m ∈ (DataW.agg (xs.map (·.1))).weights P t
      unfold DataW.weights
      rw [ht]
      exact DataW.weights_mem_each (j := i) (t := f.type) (d := y.1) (by rw [List.getElem?_map, List.getElem?_eq_getElem hi, hfi]; rfl) (by rw [List.getElem?_map, hy]; rfl) m hm'
    · cases h
theorem TrW.slice {M : Nat} {t e : TypeId} {cs : List Value} (ht : P.underlying t = some (.slice e)) (h : TrW enc P W M t cs) : cs = [.slice none 0 0] ∨ ∃ a len cap, cs = [.slice (some a) len cap] ∧ len * P.bytesOf e ≤ M ∧
    ∀ i, i < len → ∃ es, W.cells? 0 (a.add (i * P.cellsOf e)) (P.cellsOf e) = some es ∧ TrW enc P W M e es := by
  obtain ⟨fuel, x, h, hw⟩ := h
  cases fuel with
  | zero => simp [DataW.trod] at h
  | succ fuel =>
    unfold DataW.trod at h
    rw [ht] at h
    split at h <;> first | (simp at *; done) | skip
    · rename_i e1 a len cap e2
      injection e2 with e2
      injection e2 with e2
      subst e2
      right
      simp only at h
      split at h
      · rename_i hb
        cases hm : (List.range len).mapM (fun i => (W.cells? 0 (a.add (i * P.cellsOf e)) (P.cellsOf e)).bind (DataW.trod enc P W 0 (fun _ => true) true fuel e)) with
        | none => rw [hm] at h; simp at h
        | some elems =>
          rw [hm] at h
          simp only [Option.bind_some] at h
          obtain ⟨rest, _, he⟩ := Option.map_eq_some_iff.1 h
          have hlen := mapM_len _ _ _ hm
          rw [List.length_range] at hlen
          have hww : ∀ m ∈ (DataW.slice (elems.map (·.1)) (rest.map (·.1))).weights P t, m ≤ M := by
            intro m hm'
            refine hw m ?_
            rw [← he]
            exact hm'
          unfold DataW.weights at hww
          simp only [ht] at hww
          refine ⟨a, len, cap, rfl, ?_, fun i hi => ?_⟩
          · have := hww _ (List.mem_cons_self ..)
            simp only [List.length_map, hlen] at this
            exact Nat.le_trans (Nat.mul_le_mul_right _ (Nat.le_add_right _ _)) this
          · obtain ⟨y, hy, hg⟩ := mapM_idx _ _ _ hm i i (by rw [List.getElem?_range]; exact hi)
            obtain ⟨es, h1, h2⟩ := Option.bind_eq_some_iff.1 hg
            refine ⟨es, h1, fuel, y, h2, fun m hm' => hww m (List.mem_cons_of_mem _ (List.mem_append_left _ ?_))⟩
            exact weights_all_mem (i := i) (d := y.1) (by rw [List.getElem?_map, hy]; rfl) m hm'
      · cases h
/-- Bytes, and how many there may be. -/
theorem TrW.bytes {M : Nat} {t e : TypeId} {v : Value} {bs : List UInt8} (ht : P.underlying t = some (.slice e)) (hb : P.bytesOf e = 1) (h : TrW enc P W M t [v]) (hv : Bts W v bs) : bs.length ≤ M := by
  obtain ⟨a, c, rfl, _⟩ := hv
  rcases h.slice ht with h1 | ⟨a', len, cap, h1, h2, _⟩
  · injection h1 with h1
    injection h1 with _ h1 _
    omega
  · injection h1 with h1
    injection h1 with _ h1 _
    rw [hb, Nat.mul_one] at h2
    omega
end
end Go.Sh
