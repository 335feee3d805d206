/- cellaragelaw11.ContLays: what a container's bytes are. -/
import Derived.Test.YtggggfcgnkllgaaQCA8
set_option linter.unusedVariables false
set_option linter.unusedSimpArgs false
set_option linter.constructorNameAsVariable false
namespace Go.Proofs.Ytggggfcgnkllgaa
open Go Go.Sh Go.RowKit Go.ChangeShapes Go.WideShapes Go.ChangeAt
open Go.Proofs.Ytggggfcgnkllgaa
section
attribute [local irreducible] X XU XP XR CALL loopS resC closS Value.okWide
set_option maxRecDepth 4000 in
theorem contLays_run {id : Nat} {v : Value} {l : List Pc} (hid : id < 4294967296) (W : World) (hl : RowK 34 Pc.cs W v l) (hin : ∀ c ∈ l, c.In W) :
    CALL Try.prog 26 #[.int .u32 (id : Int), v] W (fun v w' => v = .bool true ∧ Ext W w') := by
  have hll : (pl l).length = l.length := by simp
  apply call_law11_ContLays
  unfold B_law11_ContLays B_law11_ContLays_c1
  refine shown11 ?_
  intro w1 hx1
  refine Light_spec (hl.ext hx1) (fun c hc => (hin c hc).ext hx1) ?_
  by_cases hlt : lightP (pl l)
  case neg =>
    have c : decide (lightP (pl l)) = false := decide_eq_false hlt
    (repeat (first  | simp only [XP_extract0, XP_extract1, XP_extract2, XP_extract3, X_extract0, X_extract1, X_extract2, X_extract3, X_nilS, X_eql_nil_74, X_neq_nil_74, X_eql_nil_124, X_neq_nil_124, X_eql, X_neq, X_lss, X_leq, X_gtr, X_geq, X_not, X_min, X_max, X_len_27, X_len_9, X_len_79, XP_nilS, XP_eql, XP_neq, XP_lss, XP_leq, XP_gtr, XP_geq, XP_not, XP_min, XP_max, XP_len_27, XP_len_9, XP_eql_nil_74, X_str_eql, X_str_neq, XP_str_eql, XP_str_neq, GS, gs_u, decide_true, decide_false, Option.isNone_some, Option.isSome_some, Option.isNone_none, Option.isSome_none, eq_self, Bool.not_true, Bool.not_false, Int.reduceEq, Int.reduceNe, Int.reduceLT, Int.reduceLE, Int.reduceGT, Int.reduceGE, c]))
    exact ⟨trivial, hx1⟩
  have c : decide (lightP (pl l)) = true := decide_eq_true hlt
  (repeat (first  | simp only [XP_extract0, XP_extract1, XP_extract2, XP_extract3, X_extract0, X_extract1, X_extract2, X_extract3, X_nilS, X_eql_nil_74, X_neq_nil_74, X_eql_nil_124, X_neq_nil_124, X_eql, X_neq, X_lss, X_leq, X_gtr, X_geq, X_not, X_min, X_max, X_len_27, X_len_9, X_len_79, XP_nilS, XP_eql, XP_neq, XP_lss, XP_leq, XP_gtr, XP_geq, XP_not, XP_min, XP_max, XP_len_27, XP_len_9, XP_eql_nil_74, X_str_eql, X_str_neq, XP_str_eql, XP_str_neq, GS, gs_u, decide_true, decide_false, Option.isNone_some, Option.isSome_some, Option.isNone_none, Option.isSome_none, eq_self, Bool.not_true, Bool.not_false, Int.reduceEq, Int.reduceNe, Int.reduceLT, Int.reduceLE, Int.reduceGT, Int.reduceGE, c]))
  have hT : 38 * l.length + totB (pl l) ≤ 1000000000000 := by
    have h1 := hlt.1
    have h2 := hlt.2
    omega
  have e00 : decide ((0 : Int) = 0) = true := by decide
  have hs : decide (((sizeP (pl l) : Nat) : Int) = ((sizeP (pl l) : Nat) : Int)) = true := by simp
  refine LayC_spec hid (hl.ext hx1) (fun c hc => (hin c hc).ext hx1) hT (fun hc w2 hx2 => ?_) (fun hc u w2 hx2 ho2 => ?_)
  · have hx02 := hx1.trans hx2
    have ce : decide (chk (pl l) = chk (pl l)) = true := by simp
    (repeat (first  | simp only [XP_extract0, XP_extract1, XP_extract2, XP_extract3, X_extract0, X_extract1, X_extract2, X_extract3, X_nilS, X_eql_nil_74, X_neq_nil_74, X_eql_nil_124, X_neq_nil_124, X_eql, X_neq, X_lss, X_leq, X_gtr, X_geq, X_not, X_min, X_max, X_len_27, X_len_9, X_len_79, XP_nilS, XP_eql, XP_neq, XP_lss, XP_leq, XP_gtr, XP_geq, XP_not, XP_min, XP_max, XP_len_27, XP_len_9, XP_eql_nil_74, X_str_eql, X_str_neq, XP_str_eql, XP_str_neq, GS, gs_u, decide_true, decide_false, Option.isNone_some, Option.isSome_some, Option.isNone_none, Option.isSome_none, eq_self, Bool.not_true, Bool.not_false, Int.reduceEq, Int.reduceNe, Int.reduceLT, Int.reduceLE, Int.reduceGT, Int.reduceGE]))
    refine RLay_spec hid (hl.ext hx02) (fun c hc => (hin c hc).ext hx02) hT (fun _ w3 hx3 => ?_) (fun h => absurd h hc)
    have hx03 := hx02.trans hx3
    (repeat (first  | simp only [XP_extract0, XP_extract1, XP_extract2, XP_extract3, X_extract0, X_extract1, X_extract2, X_extract3, X_nilS, X_eql_nil_74, X_neq_nil_74, X_eql_nil_124, X_neq_nil_124, X_eql, X_neq, X_lss, X_leq, X_gtr, X_geq, X_not, X_min, X_max, X_len_27, X_len_9, X_len_79, XP_nilS, XP_eql, XP_neq, XP_lss, XP_leq, XP_gtr, XP_geq, XP_not, XP_min, XP_max, XP_len_27, XP_len_9, XP_eql_nil_74, X_str_eql, X_str_neq, XP_str_eql, XP_str_neq, GS, gs_u, decide_true, decide_false, Option.isNone_some, Option.isSome_some, Option.isNone_none, Option.isSome_none, eq_self, Bool.not_true, Bool.not_false, Int.reduceEq, Int.reduceNe, Int.reduceLT, Int.reduceLE, Int.reduceGT, Int.reduceGE]))
    refine X_of (run_str (src := 27) (dst := 9) Try.underlying27 Try.underlying5 Try.underlying9 (Bts.nil w3)) ?_
    refine X_of (run_str (src := 27) (dst := 9) Try.underlying27 Try.underlying5 Try.underlying9 (Bts.nil w3)) ?_
    (repeat (first  | simp only [XP_extract0, XP_extract1, XP_extract2, XP_extract3, X_extract0, X_extract1, X_extract2, X_extract3, X_nilS, X_eql_nil_74, X_neq_nil_74, X_eql_nil_124, X_neq_nil_124, X_eql, X_neq, X_lss, X_leq, X_gtr, X_geq, X_not, X_min, X_max, X_len_27, X_len_9, X_len_79, XP_nilS, XP_eql, XP_neq, XP_lss, XP_leq, XP_gtr, XP_geq, XP_not, XP_min, XP_max, XP_len_27, XP_len_9, XP_eql_nil_74, X_str_eql, X_str_neq, XP_str_eql, XP_str_neq, GS, gs_u, decide_true, decide_false, Option.isNone_some, Option.isSome_some, Option.isNone_none, Option.isSome_none, eq_self, Bool.not_true, Bool.not_false, Int.reduceEq, Int.reduceNe, Int.reduceLT, Int.reduceLE, Int.reduceGT, Int.reduceGE, str_eqT, ce]))
    refine Size_pieces (hl.ext hx03) (fun c hc => (hin c hc).ext hx03) hT ?_
    intro w4 hx4
    have hx04 := hx03.trans hx4
    (repeat (first  | simp only [XP_extract0, XP_extract1, XP_extract2, XP_extract3, X_extract0, X_extract1, X_extract2, X_extract3, X_nilS, X_eql_nil_74, X_neq_nil_74, X_eql_nil_124, X_neq_nil_124, X_eql, X_neq, X_lss, X_leq, X_gtr, X_geq, X_not, X_min, X_max, X_len_27, X_len_9, X_len_79, XP_nilS, XP_eql, XP_neq, XP_lss, XP_leq, XP_gtr, XP_geq, XP_not, XP_min, XP_max, XP_len_27, XP_len_9, XP_eql_nil_74, X_str_eql, X_str_neq, XP_str_eql, XP_str_neq, GS, gs_u, decide_true, decide_false, Option.isNone_some, Option.isSome_some, Option.isNone_none, Option.isSome_none, eq_self, Bool.not_true, Bool.not_false, Int.reduceEq, Int.reduceNe, Int.reduceLT, Int.reduceLE, Int.reduceGT, Int.reduceGE]))
    refine RSize_spec (hl.ext hx04) (fun c hc => (hin c hc).ext hx04) hT ?_
    (repeat (first  | simp only [XP_extract0, XP_extract1, XP_extract2, XP_extract3, X_extract0, X_extract1, X_extract2, X_extract3, X_nilS, X_eql_nil_74, X_neq_nil_74, X_eql_nil_124, X_neq_nil_124, X_eql, X_neq, X_lss, X_leq, X_gtr, X_geq, X_not, X_min, X_max, X_len_27, X_len_9, X_len_79, XP_nilS, XP_eql, XP_neq, XP_lss, XP_leq, XP_gtr, XP_geq, XP_not, XP_min, XP_max, XP_len_27, XP_len_9, XP_eql_nil_74, X_str_eql, X_str_neq, XP_str_eql, XP_str_neq, GS, gs_u, decide_true, decide_false, Option.isNone_some, Option.isSome_some, Option.isNone_none, Option.isSome_none, eq_self, Bool.not_true, Bool.not_false, Int.reduceEq, Int.reduceNe, Int.reduceLT, Int.reduceLE, Int.reduceGT, Int.reduceGE, hs]))
    exact ⟨trivial, hx04⟩
  · have hx02 := hx1.trans hx2
    (repeat (first  | simp only [XP_extract0, XP_extract1, XP_extract2, XP_extract3, X_extract0, X_extract1, X_extract2, X_extract3, X_nilS, X_eql_nil_74, X_neq_nil_74, X_eql_nil_124, X_neq_nil_124, X_eql, X_neq, X_lss, X_leq, X_gtr, X_geq, X_not, X_min, X_max, X_len_27, X_len_9, X_len_79, XP_nilS, XP_eql, XP_neq, XP_lss, XP_leq, XP_gtr, XP_geq, XP_not, XP_min, XP_max, XP_len_27, XP_len_9, XP_eql_nil_74, X_str_eql, X_str_neq, XP_str_eql, XP_str_neq, GS, gs_u, decide_true, decide_false, Option.isNone_some, Option.isSome_some, Option.isNone_none, Option.isSome_none, eq_self, Bool.not_true, Bool.not_false, Int.reduceEq, Int.reduceNe, Int.reduceLT, Int.reduceLE, Int.reduceGT, Int.reduceGE]))
    refine RLay_spec hid (hl.ext hx02) (fun c hc => (hin c hc).ext hx02) hT (fun h => absurd hc h) (fun _ u2 w3 hx3 ho3 => ?_)
    have hx03 := hx02.trans hx3
    (repeat (first  | simp only [XP_extract0, XP_extract1, XP_extract2, XP_extract3, X_extract0, X_extract1, X_extract2, X_extract3, X_nilS, X_eql_nil_74, X_neq_nil_74, X_eql_nil_124, X_neq_nil_124, X_eql, X_neq, X_lss, X_leq, X_gtr, X_geq, X_not, X_min, X_max, X_len_27, X_len_9, X_len_79, XP_nilS, XP_eql, XP_neq, XP_lss, XP_leq, XP_gtr, XP_geq, XP_not, XP_min, XP_max, XP_len_27, XP_len_9, XP_eql_nil_74, X_str_eql, X_str_neq, XP_str_eql, XP_str_neq, GS, gs_u, decide_true, decide_false, Option.isNone_some, Option.isSome_some, Option.isNone_none, Option.isSome_none, eq_self, Bool.not_true, Bool.not_false, Int.reduceEq, Int.reduceNe, Int.reduceLT, Int.reduceLE, Int.reduceGT, Int.reduceGE]))
    refine X_of (run_str (src := 27) (dst := 9) Try.underlying27 Try.underlying5 Try.underlying9 ((own_bts ho2).1.ext hx3)) ?_
    refine X_of (run_str (src := 27) (dst := 9) Try.underlying27 Try.underlying5 Try.underlying9 (own_bts ho3).1) ?_
    (repeat (first  | simp only [XP_extract0, XP_extract1, XP_extract2, XP_extract3, X_extract0, X_extract1, X_extract2, X_extract3, X_nilS, X_eql_nil_74, X_neq_nil_74, X_eql_nil_124, X_neq_nil_124, X_eql, X_neq, X_lss, X_leq, X_gtr, X_geq, X_not, X_min, X_max, X_len_27, X_len_9, X_len_79, XP_nilS, XP_eql, XP_neq, XP_lss, XP_leq, XP_gtr, XP_geq, XP_not, XP_min, XP_max, XP_len_27, XP_len_9, XP_eql_nil_74, X_str_eql, X_str_neq, XP_str_eql, XP_str_neq, GS, gs_u, decide_true, decide_false, Option.isNone_some, Option.isSome_some, Option.isNone_none, Option.isSome_none, eq_self, Bool.not_true, Bool.not_false, Int.reduceEq, Int.reduceNe, Int.reduceLT, Int.reduceLE, Int.reduceGT, Int.reduceGE, str_eqT, e00]))
    refine Size_pieces (hl.ext hx03) (fun c hc => (hin c hc).ext hx03) hT ?_
    intro w4 hx4
    have hx04 := hx03.trans hx4
    (repeat (first  | simp only [XP_extract0, XP_extract1, XP_extract2, XP_extract3, X_extract0, X_extract1, X_extract2, X_extract3, X_nilS, X_eql_nil_74, X_neq_nil_74, X_eql_nil_124, X_neq_nil_124, X_eql, X_neq, X_lss, X_leq, X_gtr, X_geq, X_not, X_min, X_max, X_len_27, X_len_9, X_len_79, XP_nilS, XP_eql, XP_neq, XP_lss, XP_leq, XP_gtr, XP_geq, XP_not, XP_min, XP_max, XP_len_27, XP_len_9, XP_eql_nil_74, X_str_eql, X_str_neq, XP_str_eql, XP_str_neq, GS, gs_u, decide_true, decide_false, Option.isNone_some, Option.isSome_some, Option.isNone_none, Option.isSome_none, eq_self, Bool.not_true, Bool.not_false, Int.reduceEq, Int.reduceNe, Int.reduceLT, Int.reduceLE, Int.reduceGT, Int.reduceGE]))
    refine RSize_spec (hl.ext hx04) (fun c hc => (hin c hc).ext hx04) hT ?_
    (repeat (first  | simp only [XP_extract0, XP_extract1, XP_extract2, XP_extract3, X_extract0, X_extract1, X_extract2, X_extract3, X_nilS, X_eql_nil_74, X_neq_nil_74, X_eql_nil_124, X_neq_nil_124, X_eql, X_neq, X_lss, X_leq, X_gtr, X_geq, X_not, X_min, X_max, X_len_27, X_len_9, X_len_79, XP_nilS, XP_eql, XP_neq, XP_lss, XP_leq, XP_gtr, XP_geq, XP_not, XP_min, XP_max, XP_len_27, XP_len_9, XP_eql_nil_74, X_str_eql, X_str_neq, XP_str_eql, XP_str_neq, GS, gs_u, decide_true, decide_false, Option.isNone_some, Option.isSome_some, Option.isNone_none, Option.isSome_none, eq_self, Bool.not_true, Bool.not_false, Int.reduceEq, Int.reduceNe, Int.reduceLT, Int.reduceLE, Int.reduceGT, Int.reduceGE, hs]))
    exact ⟨trivial, hx04⟩
theorem contLays_walk {H : Type} (enc : TypeId × Value → H) (W : World) (v0 v1 : Value) {base : Nat} (ok0 : Value.okWide Try.prog W .any base 23 v0) (ok1 : Value.okWide Try.prog W .any base 100 v1) (d0 : DataW H) (p0 : List MemPlace) (d1 : DataW H) (p1 : List MemPlace) (h0 : DataW.Trod enc Try.prog W 0 (fun _ => true) true 23 v0 d0 p0) (h1 : DataW.Trod enc Try.prog W 0 (fun _ => true) true 100 v1 d1 p1) (hsz : (DataW.weightsEach Try.prog [23, 100] [d0, d1]).all (· ≤ reachBytes) = true) :
    CALL Try.prog 26 #[v0, v1] W (fun v w' => v = .bool true ∧ Ext W w') := by
  obtain ⟨c, rfl⟩ := arg_w32 Try.underlying23 ok0 h0
  obtain ⟨l, hl, hin⟩ := arg_pieces ok1 h1
  exact contLays_run c.isLt W hl hin
end
set_option maxRecDepth 100000 in
theorem contLays_lifted (os : Os) (started : os.Started) (H : Type) (enc : TypeId × Value → H) :
    ReturnsInHanded {} Try.checked os 26 .any (Rows.contLaysSpec.pre6 enc Try.prog Try.f26 Rows.contLaysRow.domain false) (Rows.contLaysSpec.post enc Try.prog Try.f26 false true false false) := by
  refine returnsInHanded_of_change_sized (C := Try.checked) (by kernel_rfl) started (by kernel_rfl) Try.func26
    (ChangeSpec.witness6 (enc := enc) (C := Try.checked) false ⟨#[], #[(.int .u32 0), (.slice none 0 0)], []⟩ 8 (by kernel_rfl) (by kernel_rfl) (by kernel_rfl) (by kernel_rfl)) ?_
  intro W base args ds gs before hval0 hW hcnd hsz0 _
  have hval : ∀ (j : Nat) t v, Try.f26.params[j]? = some t → args[j]? = some v → Value.okWide Try.prog W .any base t v := hval0
  have hW' := hW
  obtain ⟨p, q, hA0, hV, rfl, hfz, hnd⟩ := hW
  have hA : DataW.TrodAll enc Try.prog W 0 (fun _ => true) true Try.f26.params.toList args.toList ds p := hA0
  rw [Try.params26] at hA hval
  obtain ⟨v0, vs0, d0, ds0, p0, q0, hargs, rfl, rfl, h0, r0⟩ := trodAll_cons hA
  obtain ⟨v1, vs1, d1, ds1, p1, q1, rfl, rfl, rfl, h1, r1⟩ := trodAll_cons r0
  obtain ⟨rfl, rfl, rfl⟩ := trodAll_nil r1
  obtain rfl : args = #[v0, v1] := by cases args; simp_all
  obtain ⟨rfl, rfl⟩ := trodVars_none hV
  have hsz : (DataW.weightsEach Try.prog [23, 100] [d0, d1]).all (· ≤ reachBytes) = true := hsz0
  have hw := contLays_walk enc W v0 v1 (hval 0 23 v0 rfl rfl) (hval 1 100 v1 rfl rfl) d0 p0 d1 p1 h0 h1 hsz
  refine (CALL_calls hw).mono fun e W' he => ?_
  cases e with
  | returned v =>
    obtain ⟨rfl, hx⟩ := he
    exact ⟨_, rfl, law_post (P := Try.prog) laidOut (by kernel_rfl) rfl rfl rfl Try.underlying4 hW' hx⟩
  | panicked c => exact he.elim
  | outgrown => exact he.elim

theorem contLays_closed : joinedFacts Try.prog 26 Try.f26 Rows.contLaysSpec Rows.contLaysRow = true := by
  unfold joinedFacts
  rw [mayEnter_is, liftsFinal_is, make_is]
  kernel_rfl
/-- For every input that the row lets in, cellarage/cellaragelaw11.ContLays returns true, and what was there stays as it was. -/
theorem contLays_holds : Rows.ContLaysSaid :=
  OpenClaim.holds_of_wide 26 Try.f26 rfl rfl rfl rfl rfl rfl rfl ⟨rfl, rfl, rfl, rfl, rfl⟩ rfl rfl rfl rfl rfl (by kernel_rfl) Try.func26 contLays_closed
    (of_decide_eq_true (by kernel_rfl)) (by unfold Func.isWrapper; first | (rw [if_pos (by decide +kernel)]; kernel_rfl) | (rw [if_neg (by decide +kernel)]; exact ⟨rfl, rfl⟩))
    (fun os started H enc _ => contLays_lifted os started H enc)
#print axioms contLays_holds
end Go.Proofs.Ytggggfcgnkllgaa
