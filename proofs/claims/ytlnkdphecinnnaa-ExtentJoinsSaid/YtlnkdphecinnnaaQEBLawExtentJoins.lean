/- cellaragelaw16.ExtentJoins: extents, list behind list, are the document's. -/
import Derived.Test.YtlnkdphecinnnaaQEB6
set_option linter.unusedVariables false
set_option linter.unusedSimpArgs false
set_option linter.constructorNameAsVariable false
namespace Go.Proofs.Ytlnkdphecinnnaa
open Go Go.Sh Go.RowKit Go.ChangeShapes Go.WideShapes Go.ChangeAt
open Go.Proofs.Ytlnkdphecinnnaa
section
attribute [local irreducible] X XU XP XR CALL loopS resC closS Value.okWide
theorem cel59 : Try.prog.cellsOf 59 = 1 := by kernel_rfl
theorem arg_rows {H : Type} {enc : TypeId × Value → H} {W : World} {base : Nat} {v : Value} {d : DataW H} {p : List MemPlace}
    (ok : Value.okWide Try.prog W .any base 64 v) (h : DataW.Trod enc Try.prog W 0 (fun _ => true) true 64 v d p) : ∃ ls : List (List Ex), RowsE W v ls := by
  obtain ⟨a, n, c, rfl⟩ := okWide_slice Try.underlying64 ok
  obtain ⟨us, hus, hg⟩ := TrC.rowK (k := 1) (f := fun u : Value => [u]) (Good := fun u => ∃ l : List Ex, RowK 35 Ex.cs W u l) Try.underlying64 cel59 (fun es hes => by
    have hv : ∃ u, es = [u] := by
      rcases hes.slice Try.underlying59 with hv | ⟨a, len, cap, hv, _⟩
      · exact ⟨_, hv⟩
      · exact ⟨_, hv⟩
    obtain ⟨u, rfl⟩ := hv
    obtain ⟨l, hl, _⟩ := TrC.rowK (f := Ex.cs) (Good := fun _ => True) Try.underlying59 cel72 (fun es hes => by obtain ⟨e, he⟩ := trc_ext hes; exact ⟨e, he, trivial⟩) hes
    exact ⟨u, rfl, l, hl⟩) (TrC.of h)
  have all : ∀ us : List Value, (∀ u ∈ us, ∃ l : List Ex, RowK 35 Ex.cs W u l) → ∃ ls : List (List Ex), us.length = ls.length ∧ ∀ (i : Nat) (u : Value) (l : List Ex), us[i]? = some u → ls[i]? = some l → RowK 35 Ex.cs W u l := by
    intro us
    induction us with
    | nil => intro _; exact ⟨[], rfl, fun i u l hu => by simp at hu⟩
    | cons u us ih =>
      intro h
      obtain ⟨l, hl⟩ := h u (by simp)
      obtain ⟨ls, h1, h2⟩ := ih (fun u hu => h u (by simp [hu]))
      refine ⟨l :: ls, by simp [h1], fun i u' l' hu hl' => ?_⟩
      cases i with
      | zero => simp at hu hl'; subst hu; subst hl'; exact hl
      | succ i => simp at hu hl'; exact h2 i u' l' hu hl'
  obtain ⟨ls, h1, h2⟩ := all us hg
  exact ⟨ls, us, hus, h1, h2⟩
def tenE (ls : List (List Ex)) : List (List Ex) := (ls.take 10).map (·.take 500)
theorem ten_len (ls : List (List Ex)) : (tenE ls).flatten.length ≤ 5000 := by
  have : ∀ ms : List (List Ex), (∀ m ∈ ms, m.length ≤ 500) → ms.flatten.length ≤ 500 * ms.length := by
    intro ms
    induction ms with
    | nil => intro _; simp
    | cons m ms ih =>
      intro h
      have h1 := h m (by simp)
      have h2 := ih (fun x hx => h x (by simp [hx]))
      rw [List.flatten_cons, List.length_append, List.length_cons]
      omega
  have h := this (tenE ls) (by intro m hm; obtain ⟨l, _, rfl⟩ := List.mem_map.1 hm; exact few_len l)
  have h2 : (tenE ls).length ≤ 10 := by unfold tenE; rw [List.length_map, List.length_take]; omega
  omega
theorem FewW_spec {w0 w : World} {v : Value} {l : List Ex} {K : Value → World → Prop} (hl : RowK 35 Ex.cs w0 v l) (hx : Ext w0 w) (hK : ∀ u, RowK 35 Ex.cs w0 u (l.take 500) → K u w) : CALL Try.prog 31 #[v] w K := by
  apply call_law16_few
  unfold B_law16_few
  by_cases h : l.length ≤ 500
  · obtain ⟨a, c, rfl, hc, ht⟩ := rowK_take hl l.length (Nat.le_refl _)
    rw [X_len_59, X_min]
    have e : min (l.length : Int) 500 = ((l.length : Nat) : Int) := by omega
    rw [e]
    refine X_of (run_slice_hi Try.underlying59 info_72 a _ c .i64 l.length (by omega) w) ?_
    have e2 : l.take 500 = l.take l.length := by rw [List.take_of_length_le h, List.take_length]
    refine hK _ ?_
    rw [e2]
    exact ht
  · obtain ⟨a, c, rfl, hc, ht⟩ := rowK_take hl 500 (by omega)
    rw [X_len_59, X_min]
    have e : min (l.length : Int) 500 = ((500 : Nat) : Int) := by omega
    rw [e]
    refine X_of (run_slice_hi Try.underlying59 info_72 a _ c .i64 500 (by omega) w) ?_
    exact hK _ ht
abbrev one1 : Value → List Value := fun u => [u]
set_option maxHeartbeats 1000000 in
theorem extentJoins_run {v : Value} {ls : List (List Ex)} (W : World) (hv : RowsE W v ls) :
    CALL Try.prog 9 #[v] W (fun v w' => v = .bool true ∧ Ext W w') := by
  obtain ⟨a, c, ev⟩ := hv.slice
  have hlen : ls.length ≤ 9223372036854775807 := by
    obtain ⟨us, h1, h2, _⟩ := hv
    obtain ⟨_, c, _, g1, g2, _⟩ := h1
    omega
  apply call_law16_ExtentJoins
  unfold B_law16_ExtentJoins
  rw [ev, X_len_64, ← ev]
  refine loopE (fun ρ wr => ∃ (i : Nat) (us : List Value) (vo : Value), i ≤ ls.length ∧ Ext W wr ∧ OwnK 1 59 one1 wr W.heap.size vo us ∧ us.length = min i 10 ∧ (∀ (j : Nat) (u : Value) (l : List Ex), us[j]? = some u → ls[j]? = some l → RowK 35 Ex.cs W u (l.take 500)) ∧ ρ 7 = .int .i64 (i : Int) ∧ ρ 6 = .int .i64 (ls.length : Int) ∧ ρ 0 = v ∧ ρ 3 = vo)
    (fun ρ wr => match ρ 7 with | .int _ s => (ls.length - s).toNat | _ => 0)
    (fun ρ wr => ∃ (vo : Value), Ext W wr ∧ RowsE wr vo (tenE ls) ∧ ρ 3 = vo) ?_ ?_ ?_
  · exact ⟨0, [], _, by omega, Keep.refl _ _, ownK_nil _ _, by simp, fun j u l hu => by simp at hu, rfl, rfl, rfl, rfl⟩
  · rintro J hJ ρ wr ⟨i, us, vo, hi, hx, ho, hul, hrows, r7, r6, r0, r3⟩
    rw [r7, r6, r0, r3, X_lss, condS_bool]
    by_cases hie : i = ls.length
    · rw [if_neg (by simp; omega)]
      refine hJ _ _ ⟨vo, hx, ⟨us, OwnK.rowK (by decide) (fun _ => rfl) ho, ?_, ?_⟩, r3⟩
      · unfold tenE
        rw [List.length_map, List.length_take]
        omega
      · intro j u m hu hm
        unfold tenE at hm
        rw [List.getElem?_map, List.getElem?_take] at hm
        split at hm
        · obtain ⟨l, hl, rfl⟩ := Option.map_eq_some_iff.1 hm
          exact (hrows j u l hu hl).ext hx
        · cases hm
    rw [if_pos (by simp; omega)]
    have hlt : i < ls.length := by omega
    refine joinS_of (fun ρ2 w2 => ∃ (us : List Value) (vo : Value), Ext W w2 ∧ OwnK 1 59 one1 w2 W.heap.size vo us ∧ us.length = min (i + 1) 10 ∧ (∀ (j : Nat) (u : Value) (l : List Ex), us[j]? = some u → ls[j]? = some l → RowK 35 Ex.cs W u (l.take 500)) ∧ ρ2 7 = .int .i64 (i : Int) ∧ ρ2 6 = .int .i64 (ls.length : Int) ∧ ρ2 0 = v ∧ ρ2 3 = vo) ?_ ?_
    · rintro ρ2 w2 ⟨us, vo, g1, g2, g3, g4, p7, p6, p0, p3⟩
      rw [p7, X_add]
      show _ ∧ _
      refine ⟨⟨i + 1, us, vo, by omega, g1, g2, g3, g4, next64 (n := 9223372036854775806) (by decide) (by omega), p6, p0, p3⟩, ?_⟩
      show (_ - IntKind.i64.wrap _).toNat < _
      rw [w64 (by omega) (by omega)]
      first | omega | (show _ < (_ : Int).toNat; omega)
    · intro J2 hJ2
      rw [X_lss, condS_bool]
      by_cases h10 : i < 10
      case neg =>
        rw [if_neg (by simp; omega)]
        exact hJ2 _ _ ⟨us, vo, hx, ho, by omega, hrows, r7, r6, r0, r3⟩
      rw [if_pos (by simp; omega)]
      refine X_row hv hx hlt ?_
      intro p u hu _
      refine FewW_spec hu hx ?_
      intro u2 hu2
      obtain ⟨a2, c2, e2⟩ := hu2.slice
      refine X_buildSlice1 Try.underlying64 el_59 (by rw [e2]; rfl) ?_
      have hx3 := newB_ext wr #[u2] 59
      have hrow : RowK 1 one1 (newB wr #[u2] 59) (.slice (some ⟨wr.heap.size, 0, none⟩) 1 1) [u2] := row_of1 (newB_get _ _ _) 1 rfl (by decide)
      generalize newB wr #[u2] 59 = w3 at hx3 hrow ⊢
      refine X_appendK Try.underlying64 el_59 (by decide) (fun _ => rfl) (fun x hx => by rw [List.mem_singleton.1 hx, e2]; intro q hq; rw [List.mem_singleton.1 hq]; rfl) (ho.ext hx3) hrow (by simp; omega) (by decide) (hx.trans hx3).size ?_
      intro v' w4 ho4 hk4
      refine hJ2 _ _ ⟨us ++ [u2], v', Ext.seq (hx.trans hx3) hk4 (fun g hg => (ho.lt g hg.symm).1), ho4, by simp; omega, fun j q l hq hl => ?_, r7, r6, r0, rfl⟩
      by_cases hj : j < us.length
      · rw [List.getElem?_append_left hj] at hq
        exact hrows j q l hq hl
      · have hji : j = us.length := by
          have := (List.getElem?_eq_some_iff.1 hq).1
          simp at this
          omega
        subst hji
        rw [List.getElem?_append_right (Nat.le_refl _), Nat.sub_self] at hq
        have hq2 : u2 = q := by simpa using hq
        subst hq2
        have hui : us.length = i := by omega
        rw [hui, List.getElem?_eq_getElem hlt] at hl
        injection hl with hl
        subst hl
        exact hu2
  · rintro ρ wr ⟨vo, hx, hrows, r3⟩
    refine shown16 ?_
    intro w1 hx1
    have hfl := ten_len ls
    have htl : (tenE ls).length ≤ 10 := by unfold tenE; rw [List.length_map, List.length_take]; omega
    rw [r3]
    (repeat (first  | simp only [XP_extract0, XP_extract1, XP_extract2, XP_extract3, X_extract0, X_extract1, X_extract2, X_extract3, X_nilS, X_eql_nil_24, X_neq_nil_24, X_eql_nil_103, X_neq_nil_103, X_eql, X_neq, X_lss, X_leq, X_gtr, X_geq, X_not, X_min, X_max, X_len_79, X_len_35, XP_nilS, XP_eql, XP_neq, XP_lss, XP_leq, XP_gtr, XP_geq, XP_not, XP_min, XP_max, XP_len_79, XP_eql_nil_24, X_str_eql, X_str_neq, XP_str_eql, XP_str_neq, GS, gs_u, decide_true, decide_false, Option.isNone_some, Option.isSome_some, Option.isNone_none, Option.isSome_none, eq_self, Bool.not_true, Bool.not_false, Int.reduceEq, Int.reduceNe, Int.reduceLT, Int.reduceLE, Int.reduceGT, Int.reduceGE]))
    refine Join_spec (hrows.ext hx1) (by omega) (by omega) ?_
    intro u2 w2 hx2 ho2
    (repeat (first  | simp only [XP_extract0, XP_extract1, XP_extract2, XP_extract3, X_extract0, X_extract1, X_extract2, X_extract3, X_nilS, X_eql_nil_24, X_neq_nil_24, X_eql_nil_103, X_neq_nil_103, X_eql, X_neq, X_lss, X_leq, X_gtr, X_geq, X_not, X_min, X_max, X_len_79, X_len_35, XP_nilS, XP_eql, XP_neq, XP_lss, XP_leq, XP_gtr, XP_geq, XP_not, XP_min, XP_max, XP_len_79, XP_eql_nil_24, X_str_eql, X_str_neq, XP_str_eql, XP_str_neq, GS, gs_u, decide_true, decide_false, Option.isNone_some, Option.isSome_some, Option.isNone_none, Option.isSome_none, eq_self, Bool.not_true, Bool.not_false, Int.reduceEq, Int.reduceNe, Int.reduceLT, Int.reduceLE, Int.reduceGT, Int.reduceGE]))
    refine RJoin_spec ((hrows.ext hx1).ext hx2) (by omega) (by omega) ?_
    intro u3 w3 hx3 ho3
    have hjl := joinE_len (ls := tenE ls)
    (repeat (first  | simp only [XP_extract0, XP_extract1, XP_extract2, XP_extract3, X_extract0, X_extract1, X_extract2, X_extract3, X_nilS, X_eql_nil_24, X_neq_nil_24, X_eql_nil_103, X_neq_nil_103, X_eql, X_neq, X_lss, X_leq, X_gtr, X_geq, X_not, X_min, X_max, X_len_79, X_len_35, XP_nilS, XP_eql, XP_neq, XP_lss, XP_leq, XP_gtr, XP_geq, XP_not, XP_min, XP_max, XP_len_79, XP_eql_nil_24, X_str_eql, X_str_neq, XP_str_eql, XP_str_neq, GS, gs_u, decide_true, decide_false, Option.isNone_some, Option.isSome_some, Option.isNone_none, Option.isSome_none, eq_self, Bool.not_true, Bool.not_false, Int.reduceEq, Int.reduceNe, Int.reduceLT, Int.reduceLE, Int.reduceGT, Int.reduceGE]))
    refine SameE_spec ((OwnK.rowK (by decide) Ex.csLen ho2).ext hx3) (OwnK.rowK (by decide) Ex.csLen ho3) (by omega) ?_
    intro w4 hx4
    (repeat (first  | simp only [XP_extract0, XP_extract1, XP_extract2, XP_extract3, X_extract0, X_extract1, X_extract2, X_extract3, X_nilS, X_eql_nil_24, X_neq_nil_24, X_eql_nil_103, X_neq_nil_103, X_eql, X_neq, X_lss, X_leq, X_gtr, X_geq, X_not, X_min, X_max, X_len_79, X_len_35, XP_nilS, XP_eql, XP_neq, XP_lss, XP_leq, XP_gtr, XP_geq, XP_not, XP_min, XP_max, XP_len_79, XP_eql_nil_24, X_str_eql, X_str_neq, XP_str_eql, XP_str_neq, GS, gs_u, decide_true, decide_false, Option.isNone_some, Option.isSome_some, Option.isNone_none, Option.isSome_none, eq_self, Bool.not_true, Bool.not_false, Int.reduceEq, Int.reduceNe, Int.reduceLT, Int.reduceLE, Int.reduceGT, Int.reduceGE]))
    exact ⟨trivial, (((hx.trans hx1).trans hx2).trans hx3).trans hx4⟩
theorem extentJoins_walk {H : Type} (enc : TypeId × Value → H) (W : World) (v0 : Value) {base : Nat} (ok0 : Value.okWide Try.prog W .any base 64 v0) (d0 : DataW H) (p0 : List MemPlace) (h0 : DataW.Trod enc Try.prog W 0 (fun _ => true) true 64 v0 d0 p0) (hsz : (DataW.weightsEach Try.prog [64] [d0]).all (· ≤ reachBytes) = true) :
    CALL Try.prog 9 #[v0] W (fun v w' => v = .bool true ∧ Ext W w') := by
  obtain ⟨ls, hv⟩ := arg_rows ok0 h0
  exact extentJoins_run W hv
end
set_option maxRecDepth 100000 in
theorem extentJoins_lifted (os : Os) (started : os.Started) (H : Type) (enc : TypeId × Value → H) :
    ReturnsInHanded {} Try.checked os 9 .any (Rows.extentJoinsSpec.pre6 enc Try.prog Try.f9 Rows.extentJoinsRow.domain false) (Rows.extentJoinsSpec.post enc Try.prog Try.f9 false true false false) := by
  refine returnsInHanded_of_change_sized (C := Try.checked) (by kernel_rfl) started (by kernel_rfl) Try.func9
    (ChangeSpec.witness6 (enc := enc) (C := Try.checked) false ⟨#[], #[(.slice none 0 0)], []⟩ 8 (by kernel_rfl) (by kernel_rfl) (by kernel_rfl) (by kernel_rfl)) ?_
  intro W base args ds gs before hval0 hW hcnd hsz0 _
  have hval : ∀ (j : Nat) t v, Try.f9.params[j]? = some t → args[j]? = some v → Value.okWide Try.prog W .any base t v := hval0
  have hW' := hW
  obtain ⟨p, q, hA0, hV, rfl, hfz, hnd⟩ := hW
  have hA : DataW.TrodAll enc Try.prog W 0 (fun _ => true) true Try.f9.params.toList args.toList ds p := hA0
  rw [Try.params9] at hA hval
  obtain ⟨v0, vs0, d0, ds0, p0, q0, hargs, rfl, rfl, h0, r0⟩ := trodAll_cons hA
  obtain ⟨rfl, rfl, rfl⟩ := trodAll_nil r0
  obtain rfl : args = #[v0] := by cases args; simp_all
  obtain ⟨rfl, rfl⟩ := trodVars_none hV
  have hsz : (DataW.weightsEach Try.prog [64] [d0]).all (· ≤ reachBytes) = true := hsz0
  have hw := extentJoins_walk enc W v0 (hval 0 64 v0 rfl rfl) d0 p0 h0 hsz
  refine (CALL_calls hw).mono fun e W' he => ?_
  cases e with
  | returned v =>
    obtain ⟨rfl, hx⟩ := he
    exact ⟨_, rfl, law_post (P := Try.prog) laidOut (by kernel_rfl) rfl rfl rfl Try.underlying4 hW' hx⟩
  | panicked c => exact he.elim
  | outgrown => exact he.elim

theorem extentJoins_closed : joinedFacts Try.prog 9 Try.f9 Rows.extentJoinsSpec Rows.extentJoinsRow = true := by
  unfold joinedFacts
  rw [mayEnter_is, liftsFinal_is, make_is]
  kernel_rfl
/-- For every input that the row lets in, cellarage/cellaragelaw16.ExtentJoins returns true, and what was there stays as it was. -/
theorem extentJoins_holds : Rows.ExtentJoinsSaid :=
  OpenClaim.holds_of_wide 9 Try.f9 rfl rfl rfl rfl rfl rfl rfl ⟨rfl, rfl, rfl, rfl, rfl⟩ rfl rfl rfl rfl rfl (by kernel_rfl) Try.func9 extentJoins_closed
    (of_decide_eq_true (by kernel_rfl)) (by unfold Func.isWrapper; first | (rw [if_pos (by decide +kernel)]; kernel_rfl) | (rw [if_neg (by decide +kernel)]; exact ⟨rfl, rfl⟩))
    (fun os started H enc _ => extentJoins_lifted os started H enc)
#print axioms extentJoins_holds
end Go.Proofs.Ytlnkdphecinnnaa
