/- cellaragelaw12.VaultNil: for every place and every bytes, a nil vault has nothing and a nil disk no vault. -/
import Derived.Test.YtggggfcgnkllgaaShown12
import Derived.Test.YtggggfcgnkllgaaFacts
import Derived.Test.YtggggfcgnkllgaaArgs
set_option linter.unusedVariables false
set_option linter.unusedSimpArgs false
set_option linter.constructorNameAsVariable false
namespace Go.Proofs.Ytggggfcgnkllgaa
open Go Go.Sh Go.RowKit Go.ChangeShapes Go.WideShapes Go.ChangeAt
open Go.Proofs.Ytggggfcgnkllgaa
section
attribute [local irreducible] X XU XP XR CALL loopS resC closS Value.okWide
theorem vaultNil_run (x0 x1 : Value) (W : World) : CALL Try.prog 34 #[x0, x1] W (fun v w' => v = .bool true ∧ Ext W w') := by
  apply call_law12_VaultNil
  unfold B_law12_VaultNil
  refine VGet_nil ?_
  simp only [X_extract0, X_extract1]
  refine VNew_nil ?_
  simp only [X_extract0, X_extract1]
  refine shown12 ?_
  intro w1 hx1
  simp only [GS]
  refine VPut_nil ?_
  have e22 : decide ((2 : Int) = 2) = true := by decide
  have e00 : decide ((0 : Int) = 0) = true := by decide
  have e000 : decide (((0 : Nat) : Int) = 0) = true := by decide
  simp only [X_eql, e22, decide_true, GS, X_len_27, e000]
  refine VRoom_nil ?_
  simp only [X_eql, e00, decide_true, GS]
  refine VLen_nil ?_
  simp only [X_eql, e00, decide_true, GS, X_eql_nil_124, Option.isNone_none]
  exact ⟨trivial, hx1⟩
theorem vaultNil_walk {H : Type} (enc : TypeId × Value → H) (W : World) (v0 v1 : Value) {base : Nat} (ok0 : Value.okWide Try.prog W .any base 3 v0) (ok1 : Value.okWide Try.prog W .any base 27 v1) (d0 : DataW H) (p0 : List MemPlace) (d1 : DataW H) (p1 : List MemPlace) (h0 : DataW.Trod enc Try.prog W 0 (fun _ => true) true 3 v0 d0 p0) (h1 : DataW.Trod enc Try.prog W 0 (fun _ => true) true 27 v1 d1 p1) (hsz : (DataW.weightsEach Try.prog [3, 27] [d0, d1]).all (· ≤ reachBytes) = true) :
    CALL Try.prog 34 #[v0, v1] W (fun v w' => v = .bool true ∧ Ext W w') := by
  exact vaultNil_run v0 v1 W
end
set_option maxRecDepth 100000 in
theorem vaultNil_lifted (os : Os) (started : os.Started) (H : Type) (enc : TypeId × Value → H) :
    ReturnsInHanded {} Try.checked os 34 .any (Rows.vaultNilSpec.pre6 enc Try.prog Try.f34 Rows.vaultNilRow.domain false) (Rows.vaultNilSpec.post enc Try.prog Try.f34 false true false false) := by
  refine returnsInHanded_of_change_sized (C := Try.checked) (by kernel_rfl) started (by kernel_rfl) Try.func34
    (ChangeSpec.witness6 (enc := enc) (C := Try.checked) false ⟨#[], #[(.int .i64 0), (.slice none 0 0)], []⟩ 8 (by kernel_rfl) (by kernel_rfl) (by kernel_rfl) (by kernel_rfl)) ?_
  intro W base args ds gs before hval0 hW hcnd hsz0 _
  have hval : ∀ (j : Nat) t v, Try.f34.params[j]? = some t → args[j]? = some v → Value.okWide Try.prog W .any base t v := hval0
  have hW' := hW
  obtain ⟨p, q, hA0, hV, rfl, hfz, hnd⟩ := hW
  have hA : DataW.TrodAll enc Try.prog W 0 (fun _ => true) true Try.f34.params.toList args.toList ds p := hA0
  rw [Try.params34] at hA hval
  obtain ⟨v0, vs0, d0, ds0, p0, q0, hargs, rfl, rfl, h0, r0⟩ := trodAll_cons hA
  obtain ⟨v1, vs1, d1, ds1, p1, q1, rfl, rfl, rfl, h1, r1⟩ := trodAll_cons r0
  obtain ⟨rfl, rfl, rfl⟩ := trodAll_nil r1
  obtain rfl : args = #[v0, v1] := by cases args; simp_all
  obtain ⟨rfl, rfl⟩ := trodVars_none hV
  have hsz : (DataW.weightsEach Try.prog [3, 27] [d0, d1]).all (· ≤ reachBytes) = true := hsz0
  have hw := vaultNil_walk enc W v0 v1 (hval 0 3 v0 rfl rfl) (hval 1 27 v1 rfl rfl) d0 p0 d1 p1 h0 h1 hsz
  refine (CALL_calls hw).mono fun e W' he => ?_
  cases e with
  | returned v =>
    obtain ⟨rfl, hx⟩ := he
    exact ⟨_, rfl, law_post (P := Try.prog) laidOut (by kernel_rfl) rfl rfl rfl Try.underlying4 hW' hx⟩
  | panicked c => exact he.elim
  | outgrown => exact he.elim

theorem vaultNil_closed : joinedFacts Try.prog 34 Try.f34 Rows.vaultNilSpec Rows.vaultNilRow = true := by
  unfold joinedFacts
  rw [mayEnter_is, liftsFinal_is, make_is]
  kernel_rfl
/-- For every input that the row lets in, cellarage/cellaragelaw12.VaultNil returns true, and what was there stays as it was. -/
theorem vaultNil_holds : Rows.VaultNilSaid :=
  OpenClaim.holds_of_wide 34 Try.f34 rfl rfl rfl rfl rfl rfl rfl ⟨rfl, rfl, rfl, rfl, rfl⟩ rfl rfl rfl rfl rfl (by kernel_rfl) Try.func34 vaultNil_closed
    (of_decide_eq_true (by kernel_rfl)) (by unfold Func.isWrapper; first | (rw [if_pos (by decide +kernel)]; kernel_rfl) | (rw [if_neg (by decide +kernel)]; exact ⟨rfl, rfl⟩))
    (fun os started H enc _ => vaultNil_lifted os started H enc)
#print axioms vaultNil_holds
end Go.Proofs.Ytggggfcgnkllgaa
