/- A slice whose elements are any number of cells, as a list. -/
import Derived.Test.YtggggfcgnkllgaaRow
set_option linter.unusedVariables false
set_option linter.unusedSimpArgs false
namespace Go.Sh
open Go Go.RowKit Go.ChangeShapes Go.WideShapes Go.ChangeAt
def RowK {α : Type} (k : Nat) (f : α → List Value) (w : World) (v : Value) (xs : List α) : Prop :=
  ∃ a c, v = .slice a xs.length c ∧ xs.length ≤ c ∧ c ≤ 9223372036854775807 ∧ (0 < xs.length → ∃ ad, a = some ad ∧ ∀ j x, xs[j]? = some x → ∀ i u, (f x)[i]? = some u → w.cell? ((ad.add (j * k)).add i) = some u)
theorem RowK.slice {α : Type} {k : Nat} {f : α → List Value} {w : World} {v : Value} {xs : List α} (h : RowK k f w v xs) : ∃ a c, v = .slice a xs.length c := by
  obtain ⟨a, c, e, _⟩ := h
  exact ⟨a, c, e⟩
theorem add_block (ad : Addr) (j : Nat) : (ad.add j).block = ad.block := by unfold Addr.add; split <;> rfl
theorem RowK.keep {α : Type} {n : Nat} {f : α → List Value} {w w' : World} {v : Value} {xs : List α} {D : Nat → Prop} (h : RowK n f w v xs) (k : Keep D w w') (hd : 0 < xs.length → ∀ b, v.ownBlock = some b → ¬ D b) : RowK n f w' v xs := by
  obtain ⟨a, c, rfl, h1, h2, h3⟩ := h
  refine ⟨a, c, rfl, h1, h2, fun hn => ?_⟩
  obtain ⟨ad, rfl, hc⟩ := h3 hn
  refine ⟨ad, rfl, fun j x hj i u hu => k.cell ?_ (hc j x hj i u hu)⟩
  rw [add_block, add_block]
  exact hd hn _ rfl
theorem RowK.ext {α : Type} {n : Nat} {f : α → List Value} {w w' : World} {v : Value} {xs : List α} (h : RowK n f w v xs) (k : Ext w w') : RowK n f w' v xs := h.keep k (fun _ _ _ h => h)
section
variable {P : Program} {α : Type} {k : Nat} {f : α → List Value}
theorem RowK.cut {T e : TypeId} (hT : P.underlying T = some (.slice e)) (hi : infoB P e = true) {v : Value} {xs : List α} {w0 : World} (hb : RowK k f w0 v xs) {kh : IntKind} {hj : Int} (h' : Nat) (e2 : hj = h') (h1 : h' ≤ xs.length) :
    ∃ u, (∀ w, (Instr.sliceAt T v none (some (.int kh hj)) none).run P w = .ok u w) ∧ RowK k f w0 u (xs.take h') := by
  obtain ⟨a, c, rfl, h2, h3, h4⟩ := hb
  refine ⟨_, fun w => sl_hi hT hi h' e2 (by omega) w, ?_⟩
  have hl : (xs.take h').length = h' := by simp; omega
  refine ⟨a, c, by rw [hl], by omega, h3, fun hn => ?_⟩
  obtain ⟨ad, rfl, hc⟩ := h4 (by omega)
  refine ⟨ad, rfl, fun j x hj => hc j x ?_⟩
  rw [List.getElem?_take] at hj
  split at hj
  · exact hj
  · cases hj
theorem RowK.at {T e : TypeId} (hT : P.underlying T = some (.slice e)) (hi : infoB P e = true) (hs : szT P e = k) {v : Value} {xs : List α} {w0 : World} (hb : RowK k f w0 v xs) {kd : IntKind} {ii : Int} (i : Nat) (e1 : ii = i) (h : i < xs.length) :
    ∃ a, (∀ w, (Instr.indexAt T v (.int kd ii)).run P w = .ok (.pointer (some a)) w) ∧ (∀ j u, (f xs[i])[j]? = some u → w0.cell? (a.add j) = some u) := by
  obtain ⟨a, c, rfl, h3, h4, h5⟩ := hb
  obtain ⟨ad, rfl, hc⟩ := h5 (by omega)
  refine ⟨_, fun w => ix hT hi i e1 h w, ?_⟩
  rw [hs]
  exact fun j u hu => hc i _ (List.getElem?_eq_getElem h) j u hu
/-- A struct is read, wherever it lies. -/
theorem load_cells {t : TypeId} {d : TypeDesc} (hu : P.underlying t = some d) (ha : aggB P t = true) (hi : infoB P t = true) {a : Addr} {l : List Value} {w : World} (hn : l.length = szT P t)
    (hc : ∀ j u, l[j]? = some u → w.cell? (a.add j) = some u) : (Instr.loadAt t (.pointer (some a))).run P w = .ok (.agg l.toArray) w := by
  have hload : (loadCells a l.length).run P w = .ok l.toArray w := run_loadCells_list w _ l hc
  rw [hn] at hload
  simp [Instr.loadAt, Instr.sureAddr, loadVar, isAgg_run' hu ha, sizeOf_run hi, hload]
theorem mapM_get {β γ : Type} (g : β → Option γ) : ∀ (l : List β) (es : List γ), l.mapM g = some es → ∀ (i : Nat) (u : γ), es[i]? = some u → ∃ x, l[i]? = some x ∧ g x = some u
  | [], es, h, i, u, hu => by
    simp at h
    subst h
    cases hu
  | x :: l, es, h, i, u, hu => by
    rw [List.mapM_cons] at h
    cases hx : g x with
    | none => rw [hx] at h; simp at h
    | some y =>
      cases hl : l.mapM g with
      | none => rw [hx, hl] at h; simp at h
      | some ys =>
        rw [hx, hl] at h
        simp at h
        subst h
        cases i with
        | zero => exact ⟨x, rfl, by simpa [hx] using hu⟩
        | succ i => exact mapM_get g l ys hl i u hu
theorem cells_all {W : World} {a : Addr} {n : Nat} {es : List Value} (h : W.cells? 0 a n = some es) : ∀ i u, es[i]? = some u → W.cell? (a.add i) = some u := by
  unfold World.cells? at h
  simp only [Nat.zero_le, if_true] at h
  intro i u hu
  obtain ⟨x, hx, hg⟩ := mapM_get _ _ _ h i u hu
  have hx' := List.getElem?_eq_some_iff.1 hx
  obtain ⟨hi, hx'⟩ := hx'
  rw [List.getElem_range] at hx'
  subst hx'
  exact hg
theorem TrC.rowK {H : Type} {enc : TypeId × Value → H} {W : World} {t e : TypeId} {v : Value} {Good : α → Prop} (ht : P.underlying t = some (.slice e)) (hc : P.cellsOf e = k)
    (he : ∀ es, TrC enc P W e es → ∃ x, es = f x ∧ Good x) (h : TrC enc P W t [v]) : ∃ xs, RowK k f W v xs ∧ ∀ x ∈ xs, Good x := by
  rcases h.slice ht with hv | ⟨a, len, cap, hv, h1, h2, h3⟩
  · injection hv with hv
    subst hv
    exact ⟨[], ⟨none, 0, rfl, Nat.le_refl _, by omega, fun h => absurd h (by simp)⟩, by simp⟩
  · injection hv with hv
    subst hv
    have key : ∀ i, i < len → ∃ x, (∀ j u, (f x)[j]? = some u → W.cell? ((a.add (i * k)).add j) = some u) ∧ Good x := by
      intro i hi
      obtain ⟨es, h4, h5⟩ := h3 i hi
      rw [hc] at h4
      obtain ⟨x, hx, hg⟩ := he _ h5
      subst hx
      exact ⟨x, cells_all h4, hg⟩
    have all : ∀ n, n ≤ len → ∃ xs : List α, xs.length = n ∧ (∀ j x, xs[j]? = some x → ∀ i u, (f x)[i]? = some u → W.cell? ((a.add (j * k)).add i) = some u) ∧ ∀ x ∈ xs, Good x := by
      intro n
      induction n with
      | zero => intro _; exact ⟨[], rfl, by simp, by simp⟩
      | succ n ih =>
        intro hn
        obtain ⟨xs, hl, hb, hg⟩ := ih (by omega)
        obtain ⟨x, hx, hgx⟩ := key n (by omega)
        refine ⟨xs ++ [x], by simp [hl], fun j y hj => ?_, ?_⟩
        · by_cases hjn : j < xs.length
          · exact hb j y (by rwa [List.getElem?_append_left hjn] at hj)
          · have hlt := (List.getElem?_eq_some_iff.1 hj).1
            simp at hlt
            have : j = xs.length := by omega
            subst this
            simp at hj
            subst hj
            rw [hl]; exact hx
        · intro y hy
          rcases List.mem_append.1 hy with hy | hy
          · exact hg y hy
          · simp at hy; subst hy; exact hgx
    obtain ⟨xs, hl, hb, hg⟩ := all len (Nat.le_refl _)
    exact ⟨xs, ⟨some a, cap, by rw [hl], by omega, h2, fun _ => ⟨a, rfl, hb⟩⟩, hg⟩
end
/-- Bytes, told as a row. -/
theorem bts_of_row {w : World} {v : Value} {bs : List UInt8} (h : Row (fun u : UInt8 => .int .u8 ((u.toNat : Nat) : Int)) w v bs) : Bts w v bs := h
theorem Bts.blk_lt {w : World} {v : Value} {bs : List UInt8} (h : Bts w v bs) (h0 : 0 < bs.length) : ∀ k, v.ownBlock = some k → k < w.heap.size := by
  obtain ⟨a, c, rfl, h1, h2, h3⟩ := h
  obtain ⟨ad, rfl, hc⟩ := h3 h0
  intro k hk
  have := World.block_lt_of_cell? w _ (hc 0 _ (List.getElem?_eq_getElem h0))
  rw [add_block] at this
  injection hk with hk
  omega
theorem Row.blk_lt {α : Type} {f : α → Value} {w : World} {v : Value} {xs : List α} (h : Row f w v xs) (h0 : 0 < xs.length) : ∀ k, v.ownBlock = some k → k < w.heap.size := by
  obtain ⟨a, c, rfl, h1, h2, h3⟩ := h
  obtain ⟨ad, rfl, hc⟩ := h3 h0
  intro k hk
  have := World.block_lt_of_cell? w _ (hc 0 _ (List.getElem?_eq_getElem h0))
  rw [add_block] at this
  injection hk with hk
  omega
theorem RowK.blk_lt {α : Type} {n : Nat} {f : α → List Value} {w : World} {v : Value} {xs : List α} (h : RowK n f w v xs) (h0 : 0 < xs.length) (hf : ∀ x ∈ xs, 0 < (f x).length) : ∀ k, v.ownBlock = some k → k < w.heap.size := by
  obtain ⟨a, c, rfl, h1, h2, h3⟩ := h
  obtain ⟨ad, rfl, hc⟩ := h3 h0
  intro k hk
  have := World.block_lt_of_cell? w _ (hc 0 _ (List.getElem?_eq_getElem h0) 0 _ (List.getElem?_eq_getElem (hf _ (List.getElem_mem h0))))
  rw [add_block, add_block] at this
  injection hk with hk
  omega
end Go.Sh
