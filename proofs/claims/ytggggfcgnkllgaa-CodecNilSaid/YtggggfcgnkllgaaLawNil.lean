/- cellaragelaw01.CodecNil. -/
import Derived.Test.YtggggfcgnkllgaaShown01
import Derived.Test.YtggggfcgnkllgaaFacts
set_option linter.unusedVariables false
set_option linter.unusedSimpArgs false
set_option linter.constructorNameAsVariable false
namespace Go.Proofs.Ytggggfcgnkllgaa
open Go Go.Sh Go.RowKit Go.ChangeShapes Go.WideShapes Go.ChangeAt
open Go.Proofs.Ytggggfcgnkllgaa
section
attribute [local irreducible] X XU XP XR CALL loopS resC closS
theorem codecNil_walk {H : Type} (enc : TypeId × Value → H) (W : World) (v0 : Value) {base : Nat} (ok0 : Value.okWide Try.prog W .any base 3 v0) (d0 : DataW H) (p0 : List MemPlace)
    (h0 : DataW.Trod enc Try.prog W 0 (fun _ => true) true 3 v0 d0 p0) (hsz : (DataW.weightsEach Try.prog [3] [d0]).all (· ≤ reachBytes) = true) :
    CALL Try.prog 19 #[v0] W (fun v w' => v = .bool true ∧ Ext W w') := by
  apply call_law01_CodecNil
  unfold B_law01_CodecNil
  refine shown01 ?_
  intro w1 hx
  simp only [SS, ST, if_true]
  refine Get_nil ?_
  simp only [SS, ST, if_true, decide_true]
  refine Text_nil ?_
  simp only [str_lit, SS, ST, if_true, decide_true, str_toList, l8_beq]
  refine Left_nil ?_
  simp only [SS, ST, if_true, decide_true]
  refine Fault_nil ?_
  simp only [SS, ST, if_true, decide_true]
  refine End_nil ?_
  simp only [SS, ST, if_true, decide_true]
  exact ⟨trivial, hx⟩
end
set_option maxRecDepth 100000 in
theorem codecNil_lifted (os : Os) (started : os.Started) (H : Type) (enc : TypeId × Value → H) :
    ReturnsInHanded {} Try.checked os 19 .any (Rows.codecNilSpec.pre6 enc Try.prog Try.f19 Rows.codecNilRow.domain false) (Rows.codecNilSpec.post enc Try.prog Try.f19 false true false false) := by
  refine returnsInHanded_of_change_sized (C := Try.checked) (by kernel_rfl) started (by kernel_rfl) Try.func19
    (ChangeSpec.witness6 (enc := enc) (C := Try.checked) false ⟨#[], #[(.int .i64 0)], []⟩ 8 (by kernel_rfl) (by kernel_rfl) (by kernel_rfl) (by kernel_rfl)) ?_
  intro W base args ds gs before hval0 hW hcnd hsz0 _
  have hval : ∀ (j : Nat) t v, Try.f19.params[j]? = some t → args[j]? = some v → Value.okWide Try.prog W .any base t v := hval0
  have hW' := hW
  obtain ⟨p, q, hA0, hV, rfl, hfz, hnd⟩ := hW
  have hA : DataW.TrodAll enc Try.prog W 0 (fun _ => true) true Try.f19.params.toList args.toList ds p := hA0
  rw [Try.params19] at hA hval
  obtain ⟨v0, vs0, d0, ds0, p0, q0, hargs, rfl, rfl, h0, r0⟩ := trodAll_cons hA
  obtain ⟨rfl, rfl, rfl⟩ := trodAll_nil r0
  obtain rfl : args = #[v0] := by cases args; simp_all
  obtain ⟨rfl, rfl⟩ := trodVars_none hV
  have hsz : (DataW.weightsEach Try.prog [3] [d0]).all (· ≤ reachBytes) = true := hsz0
  have hw := codecNil_walk enc W v0 (hval 0 3 v0 rfl rfl) d0 p0 h0 hsz
  refine (CALL_calls hw).mono fun e W' he => ?_
  cases e with
  | returned v =>
    obtain ⟨rfl, hx⟩ := he
    exact ⟨_, rfl, law_post (P := Try.prog) laidOut (by kernel_rfl) rfl rfl rfl Try.underlying4 hW' hx⟩
  | panicked c => exact he.elim
  | outgrown => exact he.elim

theorem codecNil_closed : joinedFacts Try.prog 19 Try.f19 Rows.codecNilSpec Rows.codecNilRow = true := by
  unfold joinedFacts
  rw [mayEnter_is, liftsFinal_is, make_is]
  kernel_rfl
/-- For every input that the row lets in, cellarage/cellaragelaw01.CodecNil returns true, and what was there stays as it was. -/
theorem codecNil_holds : Rows.CodecNilSaid :=
  OpenClaim.holds_of_wide 19 Try.f19 rfl rfl rfl rfl rfl rfl rfl ⟨rfl, rfl, rfl, rfl, rfl⟩ rfl rfl rfl rfl rfl (by kernel_rfl) Try.func19 codecNil_closed
    (of_decide_eq_true (by kernel_rfl)) (by unfold Func.isWrapper; first | (rw [if_pos (by decide +kernel)]; kernel_rfl) | (rw [if_neg (by decide +kernel)]; exact ⟨rfl, rfl⟩))
    (fun os started H enc _ => codecNil_lifted os started H enc)
#print axioms codecNil_holds
end Go.Proofs.Ytggggfcgnkllgaa
