/- A torn sector: plain Lean. And a row of two bytes as an argument. -/
import Derived.Test.YtggggfcgnkllgaaNewer2
set_option linter.unusedVariables false
set_option linter.unusedSimpArgs false
namespace Go.Proofs.Ytggggfcgnkllgaa
open Go Go.Sh Go.RowKit Go.ChangeShapes Go.WideShapes Go.ChangeAt

theorem lay_take8 (s : Sl) : (layB s).take 8 = be 8 s.gen := by
  unfold layB headB
  simp only [List.append_assoc]
  rw [List.take_append_of_le_length (by simp), List.take_of_length_le (by simp)]
theorem lay_drop120 (s : Sl) : (layB s).drop 120 = be 8 s.gen := by
  unfold layB
  have h : (headB s ++ List.replicate 103 0).length = 120 := by simp [headB_len]
  rw [List.drop_append_of_le_length (by omega), List.drop_eq_nil_of_le (by omega), List.nil_append]
/-- A mix of two sectors, whose ends agree each, and whose ends differ, is no sector unless it is one of the two. -/
theorem torn_is {a b : List UInt8} {k : Nat} (ha : a.length = 128) (hb : b.length = 128) (ea : a.take 8 = a.drop 120) (eb : b.take 8 = b.drop 120) (hne : a.take 8 ≠ b.take 8) {u : Sl} (h : takeB (a.take k ++ b.drop k) = some u) (hk : k ≤ 128) :
    a.take k ++ b.drop k = a ∨ a.take k ++ b.drop k = b := by
  obtain ⟨hl, hg, hlay, hok⟩ := take_some h
  obtain ⟨t, ht⟩ : ∃ t, t = a.take k ++ b.drop k := ⟨_, rfl⟩
  rw [← ht] at hlay ⊢
  have e8 : t.take 8 = t.drop 120 := by rw [← hlay, lay_take8, lay_drop120]
  rcases Nat.lt_or_ge k 121 with h1 | h1
  · have d : t.drop 120 = b.drop 120 := by
      rw [ht, List.drop_append, List.drop_eq_nil_of_le (by simp; omega), List.nil_append, List.drop_drop]
      congr 1
      simp
      omega
    rcases Nat.lt_or_ge k 9 with h2 | h2
    · right
      have hp : t.take k = b.take k := by
        have := congrArg (List.take k) (e8.trans (d.trans eb.symm))
        rw [List.take_take, List.take_take, Nat.min_eq_left (by omega)] at this
        exact this
      have ht2 : t.take k = a.take k := by
        rw [ht, List.take_append_of_le_length (by simp; omega), List.take_take, Nat.min_self]
      rw [ht, ← ht2, hp, List.take_append_drop]
    · exfalso
      have ht2 : t.take 8 = a.take 8 := by
        rw [ht, List.take_append_of_le_length (by simp; omega), List.take_take, Nat.min_eq_left (by omega)]
      exact hne (ht2.symm.trans (e8.trans (d.trans eb.symm)))
  · left
    have ht2 : t.take 8 = a.take 8 := by
      rw [ht, List.take_append_of_le_length (by simp; omega), List.take_take, Nat.min_eq_left (by omega)]
    have hd : t.drop 120 = a.drop 120 := by rw [← e8, ht2, ea]
    have hp : t.take 120 = a.take 120 := by
      rw [ht, List.take_append_of_le_length (by simp; omega), List.take_take, Nat.min_eq_left (by omega)]
    rw [← List.take_append_drop 120 t, hp, hd, List.take_append_drop]
theorem takeP_lay {s : Sl} (hs : s.ok) (hg : s.gen ≠ 0) : takeP (layB s) = (s, 0) := by
  unfold takeP; rw [take_lay hs, if_neg hg]
theorem lay_ne {s t : Sl} (hs : s.ok) (ht : t.ok) (h : s.gen ≠ t.gen) : (layB s).take 8 ≠ (layB t).take 8 := by
  rw [lay_take8, lay_take8]
  intro e
  exact h (be_inj (by have := hs.1; simpa using this) (by have := ht.1; simpa using this) e)

/-- Which slot two sectors leave, one of them torn: the whole new one, or the one that stood. -/
theorem commits {s t1 t2 : Sl} (hs : s.ok) (h1 : t1.ok) (h2 : t2.ok) (g1 : t1.gen ≠ 0) (g12 : t1.gen < t2.gen) (g2s : t2.gen < s.gen) {k : Nat} (hk : k ≤ 128) :
    ∃ (got : Sl) (i : Int), newerP ((layB s).take k ++ (layB t1).drop k) (layB t2) = (got, i, 0) ∧ newerP (layB t2) ((layB s).take k ++ (layB t1).drop k) = (got, 1 - i, 0) ∧ ((got = t2 ∧ i = 1 ∧ k < 128) ∨ (got = s ∧ i = 0)) := by
  have hP2 : takeP (layB t2) = (t2, 0) := takeP_lay h2 (by omega)
  have full : k = 128 → (layB s).take k ++ (layB t1).drop k = layB s := by
    rintro rfl
    rw [List.take_of_length_le (by rw [layB_len]; omega), List.drop_eq_nil_of_le (by rw [layB_len]; omega), List.append_nil]
  cases hT : takeB ((layB s).take k ++ (layB t1).drop k) with
  | none =>
    have hP : takeP ((layB s).take k ++ (layB t1).drop k) = (nilSl, 100) := by unfold takeP; rw [hT]
    refine ⟨t2, 1, newer_ns (by omega) hP hP2, newer_sn (by omega) hP2 hP, .inl ⟨rfl, rfl, ?_⟩⟩
    rcases Nat.lt_or_ge k 128 with h | h
    · exact h
    · exfalso
      have := full (by omega)
      rw [this, take_lay hs, if_neg (by omega)] at hT
      cases hT
  | some u =>
    rcases torn_is (layB_len s) (layB_len t1) (by rw [lay_take8, lay_drop120]) (by rw [lay_take8, lay_drop120]) (lay_ne hs h1 (by omega)) hT hk with e | e
    · have hP : takeP ((layB s).take k ++ (layB t1).drop k) = (s, 0) := by rw [e]; exact takeP_lay hs (by omega)
      refine ⟨s, 0, ?_, ?_, .inr ⟨rfl, rfl⟩⟩
      · rw [newer_ss (by omega) (by omega) hP hP2, if_neg (by omega)]
      · rw [newer_ss (by omega) (by omega) hP2 hP, if_pos (by omega)]
        rfl
    · have hP : takeP ((layB s).take k ++ (layB t1).drop k) = (t1, 0) := by rw [e]; exact takeP_lay h1 g1
      refine ⟨t2, 1, ?_, ?_, .inl ⟨rfl, rfl, ?_⟩⟩
      · rw [newer_ss g1 (by omega) hP hP2, if_pos g12]
      · rw [newer_ss (by omega) g1 hP2 hP, if_neg (by omega)]
        rfl
      · rcases Nat.lt_or_ge k 128 with h | h
        · exact h
        · exfalso
          rw [full (by omega)] at e
          have := congrArg (List.take 8) e
          exact lay_ne hs h1 (by omega) this
end Go.Proofs.Ytggggfcgnkllgaa
namespace Go.Sh
open Go Go.RowKit Go.ChangeShapes Go.WideShapes Go.ChangeAt
theorem arg_two {P : Program} {H : Type} {enc : TypeId × Value → H} {W : World} {base : Nat} {v : Value} {d : DataW H} {p : List MemPlace} {t e : TypeId} (ht : P.underlying t = some (.array 2 e)) (hc : P.cellsOf t = 2) (he : P.underlying e = some (.int .u8)) (hce : P.cellsOf e = 1)
    (ok : Value.okWide P W .any base t v) (h : DataW.Trod enc P W 0 (fun _ => true) true t v d p) : ∃ a b : Nat, v = .agg #[.int .u8 (a : Int), .int .u8 (b : Int)] ∧ a < 256 ∧ b < 256 := by
  have hs : ∃ cs, v = .agg cs ∧ cs.size = P.cellsOf t := by
    simp only [Value.okWide, ht] at ok
    obtain ⟨cs, h1, h2, _⟩ := ok
    exact ⟨cs, h1, h2⟩
  obtain ⟨cs, rfl, hcs⟩ := hs
  rw [hc] at hcs
  obtain ⟨hl, hf⟩ := (TrC.of h).array ht
  match cs, hcs with
  | ⟨[x0, x1]⟩, _ =>
    have g0 := hf 0 (by decide)
    have g1 := hf 1 (by decide)
    rw [hce] at g0 g1
    obtain ⟨n0, e0, w0⟩ := TrC.int he g0
    obtain ⟨n1, e1, w1⟩ := TrC.int he g1
    simp [Value.cells] at e0 e1
    subst e0; subst e1
    obtain ⟨a, rfl, ha⟩ := wf_nat rfl (m := 256) (by decide) w0
    obtain ⟨b, rfl, hb⟩ := wf_nat rfl (m := 256) (by decide) w1
    exact ⟨a, b, rfl, ha, hb⟩
end Go.Sh
