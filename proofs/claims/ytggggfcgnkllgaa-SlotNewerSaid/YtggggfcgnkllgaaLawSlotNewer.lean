/- cellaragelaw10.SlotNewer: for every two rows of bytes, the newer slot is the reference's. -/
import Derived.Test.YtggggfcgnkllgaaNewer2
import Derived.Test.YtggggfcgnkllgaaFacts
import Derived.Test.YtggggfcgnkllgaaArgs
set_option linter.unusedVariables false
set_option linter.unusedSimpArgs false
set_option linter.constructorNameAsVariable false
namespace Go.Proofs.Ytggggfcgnkllgaa
open Go Go.Sh Go.RowKit Go.ChangeShapes Go.WideShapes Go.ChangeAt
open Go.Proofs.Ytggggfcgnkllgaa
section
attribute [local irreducible] X XU XP XR CALL loopS resC closS Value.okWide
theorem slotNewer_run {v0 v1 : Value} {xs ys : List UInt8} (W : World) (hb0 : Bts W v0 xs) (hb1 : Bts W v1 ys) : CALL Try.prog 8 #[v0, v1] W (fun v w' => v = .bool true ∧ Ext W w') := by
  apply call_law10_SlotNewer
  unfold B_law10_SlotNewer
  refine Newer_spec hb0 hb1 ?_
  intro w1 hx1
  simp only [SS, ST]
  refine X_slotVar ?_
  intro w2 hx2 hb2
  refine RNewer_spec (hb0.ext (hx1.trans hx2)) (hb1.ext (hx1.trans hx2)) ?_
  intro w3 hx3
  simp only [SS, ST]
  refine X_slotVar ?_
  intro w4 hx4 hb4
  refine shown10 ?_
  intro w5 hx5
  simp only [SS, ST, if_true]
  refine X_loadAgg Try.underlying25 agg_25 info_25 (Ext.get (hx3.trans (hx4.trans hx5)) hb2) (by rw [sz_25]; rfl) ?_
  refine X_loadAgg Try.underlying25 agg_25 info_25 (Ext.get hx5 hb4) (by rw [sz_25]; rfl) ?_
  simp only [X_slot_eql, SS, ST, decide_true, if_true]
  exact ⟨trivial, hx1.trans (hx2.trans (hx3.trans (hx4.trans hx5)))⟩
theorem slotNewer_walk {H : Type} (enc : TypeId × Value → H) (W : World) (v0 v1 : Value) {base : Nat} (ok0 : Value.okWide Try.prog W .any base 27 v0) (ok1 : Value.okWide Try.prog W .any base 27 v1) (d0 : DataW H) (p0 : List MemPlace) (d1 : DataW H) (p1 : List MemPlace) (h0 : DataW.Trod enc Try.prog W 0 (fun _ => true) true 27 v0 d0 p0) (h1 : DataW.Trod enc Try.prog W 0 (fun _ => true) true 27 v1 d1 p1) (hsz : (DataW.weightsEach Try.prog [27, 27] [d0, d1]).all (· ≤ reachBytes) = true) :
    CALL Try.prog 8 #[v0, v1] W (fun v w' => v = .bool true ∧ Ext W w') := by
  obtain ⟨xs, hb0⟩ := arg_bytes Try.underlying27 Try.underlying5 (by kernel_rfl) ok0 h0
  obtain ⟨ys, hb1⟩ := arg_bytes Try.underlying27 Try.underlying5 (by kernel_rfl) ok1 h1
  exact slotNewer_run W hb0 hb1
end
set_option maxRecDepth 100000 in
theorem slotNewer_lifted (os : Os) (started : os.Started) (H : Type) (enc : TypeId × Value → H) :
    ReturnsInHanded {} Try.checked os 8 .any (Rows.slotNewerSpec.pre6 enc Try.prog Try.f8 Rows.slotNewerRow.domain false) (Rows.slotNewerSpec.post enc Try.prog Try.f8 false true false false) := by
  refine returnsInHanded_of_change_sized (C := Try.checked) (by kernel_rfl) started (by kernel_rfl) Try.func8
    (ChangeSpec.witness6 (enc := enc) (C := Try.checked) false ⟨#[], #[(.slice none 0 0), (.slice none 0 0)], []⟩ 8 (by kernel_rfl) (by kernel_rfl) (by kernel_rfl) (by kernel_rfl)) ?_
  intro W base args ds gs before hval0 hW hcnd hsz0 _
  have hval : ∀ (j : Nat) t v, Try.f8.params[j]? = some t → args[j]? = some v → Value.okWide Try.prog W .any base t v := hval0
  have hW' := hW
  obtain ⟨p, q, hA0, hV, rfl, hfz, hnd⟩ := hW
  have hA : DataW.TrodAll enc Try.prog W 0 (fun _ => true) true Try.f8.params.toList args.toList ds p := hA0
  rw [Try.params8] at hA hval
  obtain ⟨v0, vs0, d0, ds0, p0, q0, hargs, rfl, rfl, h0, r0⟩ := trodAll_cons hA
  obtain ⟨v1, vs1, d1, ds1, p1, q1, rfl, rfl, rfl, h1, r1⟩ := trodAll_cons r0
  obtain ⟨rfl, rfl, rfl⟩ := trodAll_nil r1
  obtain rfl : args = #[v0, v1] := by cases args; simp_all
  obtain ⟨rfl, rfl⟩ := trodVars_none hV
  have hsz : (DataW.weightsEach Try.prog [27, 27] [d0, d1]).all (· ≤ reachBytes) = true := hsz0
  have hw := slotNewer_walk enc W v0 v1 (hval 0 27 v0 rfl rfl) (hval 1 27 v1 rfl rfl) d0 p0 d1 p1 h0 h1 hsz
  refine (CALL_calls hw).mono fun e W' he => ?_
  cases e with
  | returned v =>
    obtain ⟨rfl, hx⟩ := he
    exact ⟨_, rfl, law_post (P := Try.prog) laidOut (by kernel_rfl) rfl rfl rfl Try.underlying4 hW' hx⟩
  | panicked c => exact he.elim
  | outgrown => exact he.elim

theorem slotNewer_closed : joinedFacts Try.prog 8 Try.f8 Rows.slotNewerSpec Rows.slotNewerRow = true := by
  unfold joinedFacts
  rw [mayEnter_is, liftsFinal_is, make_is]
  kernel_rfl
/-- For every input that the row lets in, cellarage/cellaragelaw10.SlotNewer returns true, and what was there stays as it was. -/
theorem slotNewer_holds : Rows.SlotNewerSaid :=
  OpenClaim.holds_of_wide 8 Try.f8 rfl rfl rfl rfl rfl rfl rfl ⟨rfl, rfl, rfl, rfl, rfl⟩ rfl rfl rfl rfl rfl (by kernel_rfl) Try.func8 slotNewer_closed
    (of_decide_eq_true (by kernel_rfl)) (by unfold Func.isWrapper; first | (rw [if_pos (by decide +kernel)]; kernel_rfl) | (rw [if_neg (by decide +kernel)]; exact ⟨rfl, rfl⟩))
    (fun os started H enc _ => slotNewer_lifted os started H enc)
#print axioms slotNewer_holds
end Go.Proofs.Ytggggfcgnkllgaa
