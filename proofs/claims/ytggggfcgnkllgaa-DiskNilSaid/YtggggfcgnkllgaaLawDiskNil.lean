/- cellaragelaw08.DiskNil: for every act, a nil disk has nothing. -/
import Derived.Test.YtggggfcgnkllgaaAlike
import Derived.Test.YtggggfcgnkllgaaT9
import Derived.Test.YtggggfcgnkllgaaArgW
import Derived.Test.YtggggfcgnkllgaaFacts
import Derived.Test.YtggggfcgnkllgaaArgs
set_option linter.unusedVariables false
set_option linter.unusedSimpArgs false
set_option linter.constructorNameAsVariable false
namespace Go.Proofs.Ytggggfcgnkllgaa
open Go Go.Sh Go.RowKit Go.ChangeShapes Go.WideShapes Go.ChangeAt
open Go.Proofs.Ytggggfcgnkllgaa
section
attribute [local irreducible] X XU XP XR CALL loopS resC closS Value.okWide
theorem diskNil_run {a : DAct} (W : World) (ha : a.In W) (hlen : a.bs.length ≤ 140737488351232) : CALL Try.prog 25 #[.agg a.cs.toArray] W (fun v w' => v = .bool true ∧ Ext W w') := by
  apply call_law08_DiskNil
  unfold B_law08_DiskNil
  refine X_box ?_
  have hc : (Value.agg a.cs.toArray).cells = a.cs.toArray := rfl
  rw [hc]
  have hq := newB_get W a.cs.toArray 86
  have hx := newB_ext W a.cs.toArray 86
  generalize newB W a.cs.toArray 86 = w1 at hq hx ⊢
  refine X_loadAgg Try.underlying86 agg_86 info_86 hq (by rw [sz_86]; rfl) ?_
  refine does_nil (ha.ext hx) hlen ?_
  intro w2 hx2
  have hq2 := hx2.get hq
  try simp only [X_field_86_1, X_field_86_2, X_field_86_4]
  refine X_loadL agg_3 hq2 (v := .int .i64 a.pos) rfl ?_
  refine Read_nil ?_
  try simp only [X_extract0, X_extract1, X_field_86_2]
  refine X_loadL agg_3 hq2 (v := .int .i64 a.num) rfl ?_
  refine Cut_nil ?_
  try simp only [X_field_86_4]
  refine X_loadL agg_79 hq2 (v := a.fv) rfl ?_
  refine Crash_nil ?_
  refine shown08 ?_
  intro w3 hx3
  have hq3 := hx3.get hq2
  try simp only [X_eql, X_field_86_0, decide_true, decide_false, GS]
  refine X_loadL agg_5 hq3 (v := .int .u8 (a.kind : Int)) rfl ?_
  refine X_of (kind5 5 a.kind _) ?_
  rw [X_lss]
  refine X_of (Go.Sh.run_eql_bool Try.underlying4 _ _ _ _ _) ?_
  have e0 : (decide ((if a.kind % 5 < 2 then (2 : Int) else 0) = 2) == decide (((a.kind % 5 : Nat) : Int) < 2)) = true := by
    by_cases h : a.kind % 5 < 2
    · rw [if_pos h]; simp; omega
    · rw [if_neg h]; simp; omega
  have e2 : decide ((2 : Int) = 2) = true := by decide
  have e00 : decide ((0 : Int) = 0) = true := by decide
  try simp only [e0, X_eql, e2, decide_true, decide_false, GS]
  refine Size_nil ?_
  try simp only [X_eql, e00, decide_true, decide_false, GS]
  refine Pending_nil ?_
  try simp only [X_eql, e00, decide_true, decide_false, GS]
  refine Dead_nil ?_
  try simp only [X_not, Bool.not_false, decide_true, decide_false, GS]
  refine Done_nil ?_
  try simp only [X_eql, e00, decide_true, decide_false, GS]
  refine Copy_nil ?_
  try simp only [X_eql_nil_74, Option.isNone_none, decide_true, decide_false, GS]
  exact ⟨trivial, hx.trans (hx2.trans hx3)⟩
theorem diskNil_walk {H : Type} (enc : TypeId × Value → H) (W : World) (v0 : Value) {base : Nat} (ok0 : Value.okWide Try.prog W .any base 86 v0) (d0 : DataW H) (p0 : List MemPlace) (h0 : DataW.Trod enc Try.prog W 0 (fun _ => true) true 86 v0 d0 p0) (hsz : (DataW.weightsEach Try.prog [86] [d0]).all (· ≤ reachBytes) = true) :
    CALL Try.prog 25 #[v0] W (fun v w' => v = .bool true ∧ Ext W w') := by
  obtain ⟨a, rfl, ha⟩ := arg_act ok0 h0
  refine diskNil_run W ha ?_
  have hw : TrW enc Try.prog W reachBytes 86 a.cs := TrW.of (j := 0) h0 hsz rfl rfl
  obtain ⟨_, hf⟩ := hw.struct Try.underlying86
  have g : TrW enc Try.prog W reachBytes 27 ((a.cs.drop 3).take (Try.prog.cellsOf 27)) := hf _ (List.mem_cons_of_mem _ (List.mem_cons_of_mem _ (List.mem_cons_of_mem _ (List.mem_cons_self ..))))
  have hc : Try.prog.cellsOf 27 = 1 := by kernel_rfl
  rw [hc] at g
  have := TrW.bytes (v := a.bv) Try.underlying27 (by kernel_rfl) g ha.bts
  simp only [reachBytes] at this
  omega
end
set_option maxRecDepth 100000 in
theorem diskNil_lifted (os : Os) (started : os.Started) (H : Type) (enc : TypeId × Value → H) :
    ReturnsInHanded {} Try.checked os 25 .any (Rows.diskNilSpec.pre6 enc Try.prog Try.f25 Rows.diskNilRow.domain false) (Rows.diskNilSpec.post enc Try.prog Try.f25 false true false false) := by
  refine returnsInHanded_of_change_sized (C := Try.checked) (by kernel_rfl) started (by kernel_rfl) Try.func25
    (ChangeSpec.witness6 (enc := enc) (C := Try.checked) false ⟨#[], #[(.agg #[(.int .u8 0), (.int .i64 0), (.int .i64 0), (.slice none 0 0), (.slice none 0 0)])], []⟩ 8 (by kernel_rfl) (by kernel_rfl) (by kernel_rfl) (by kernel_rfl)) ?_
  intro W base args ds gs before hval0 hW hcnd hsz0 _
  have hval : ∀ (j : Nat) t v, Try.f25.params[j]? = some t → args[j]? = some v → Value.okWide Try.prog W .any base t v := hval0
  have hW' := hW
  obtain ⟨p, q, hA0, hV, rfl, hfz, hnd⟩ := hW
  have hA : DataW.TrodAll enc Try.prog W 0 (fun _ => true) true Try.f25.params.toList args.toList ds p := hA0
  rw [Try.params25] at hA hval
  obtain ⟨v0, vs0, d0, ds0, p0, q0, hargs, rfl, rfl, h0, r0⟩ := trodAll_cons hA
  obtain ⟨rfl, rfl, rfl⟩ := trodAll_nil r0
  obtain rfl : args = #[v0] := by cases args; simp_all
  obtain ⟨rfl, rfl⟩ := trodVars_none hV
  have hsz : (DataW.weightsEach Try.prog [86] [d0]).all (· ≤ reachBytes) = true := hsz0
  have hw := diskNil_walk enc W v0 (hval 0 86 v0 rfl rfl) d0 p0 h0 hsz
  refine (CALL_calls hw).mono fun e W' he => ?_
  cases e with
  | returned v =>
    obtain ⟨rfl, hx⟩ := he
    exact ⟨_, rfl, law_post (P := Try.prog) laidOut (by kernel_rfl) rfl rfl rfl Try.underlying4 hW' hx⟩
  | panicked c => exact he.elim
  | outgrown => exact he.elim

theorem diskNil_closed : joinedFacts Try.prog 25 Try.f25 Rows.diskNilSpec Rows.diskNilRow = true := by
  unfold joinedFacts
  rw [mayEnter_is, liftsFinal_is, make_is]
  kernel_rfl
/-- For every input that the row lets in, cellarage/cellaragelaw08.DiskNil returns true, and what was there stays as it was. -/
theorem diskNil_holds : Rows.DiskNilSaid :=
  OpenClaim.holds_of_wide 25 Try.f25 rfl rfl rfl rfl rfl rfl rfl ⟨rfl, rfl, rfl, rfl, rfl⟩ rfl rfl rfl rfl rfl (by kernel_rfl) Try.func25 diskNil_closed
    (of_decide_eq_true (by kernel_rfl)) (by unfold Func.isWrapper; first | (rw [if_pos (by decide +kernel)]; kernel_rfl) | (rw [if_neg (by decide +kernel)]; exact ⟨rfl, rfl⟩))
    (fun os started H enc _ => diskNil_lifted os started H enc)
#print axioms diskNil_holds
end Go.Proofs.Ytggggfcgnkllgaa
