/- cellaragelaw10.SlotLays: for every slot, its layout is the reference's. -/
import Derived.Test.YtggggfcgnkllgaaArgSlot
import Derived.Test.YtggggfcgnkllgaaFacts
import Derived.Test.YtggggfcgnkllgaaArgs
set_option linter.unusedVariables false
set_option linter.unusedSimpArgs false
set_option linter.constructorNameAsVariable false
namespace Go.Proofs.Ytggggfcgnkllgaa
open Go Go.Sh Go.RowKit Go.ChangeShapes Go.WideShapes Go.ChangeAt
open Go.Proofs.Ytggggfcgnkllgaa
section
attribute [local irreducible] X XU XP XR CALL loopS resC closS Value.okWide
theorem slotLays_run {s : Sl} (hs : s.ok) (W : World) : CALL Try.prog 3 #[s.v] W (fun v w' => v = .bool true ∧ Ext W w') := by
  apply call_law10_SlotLays
  unfold B_law10_SlotLays
  refine X_box ?_
  have hb1 : (newB W s.v.cells 25).heap[W.heap.size]? = some (.cells s.cs.toArray 25 (0, 0)) := newB_get _ _ _
  have hx1 := newB_ext W s.v.cells 25
  generalize newB W s.v.cells 25 = w1 at hb1 hx1 ⊢
  refine ⟨Ext, Ext.frame, ?_⟩
  refine shown10 ?_
  intro w2 hx2
  simp only [SS, ST, if_true]
  have hb2 : w2.heap[W.heap.size]? = some (.cells s.cs.toArray 25 (0, 0)) := Ext.get hx2 hb1
  refine XR_loadAgg Try.underlying25 agg_25 info_25 hb2 (by rw [sz_25]; rfl) ?_
  refine XR_loadAgg Try.underlying25 agg_25 info_25 hb2 (by rw [sz_25]; rfl) ?_
  refine Lay_spec hs ?_
  intro v3 w3 hx3 hv3
  refine ⟨hx3, ?_⟩
  refine XR_str Try.underlying27 Try.underlying5 Try.underlying9 hv3 ?_
  refine RLay_spec hs ?_
  intro v4 w4 hx4 hv4
  refine ⟨hx4, ?_⟩
  refine XR_str Try.underlying27 Try.underlying5 Try.underlying9 hv4 ?_
  simp only [SS, ST, str_toList, l8_beq, decide_true, if_true]
  exact ⟨trivial, hx1.trans ((Keep.drew _ w1).trans (hx2.trans (hx3.trans hx4)))⟩
theorem slotLays_walk {H : Type} (enc : TypeId × Value → H) (W : World) (v0 : Value) {base : Nat} (ok0 : Value.okWide Try.prog W .any base 25 v0) (d0 : DataW H) (p0 : List MemPlace) (h0 : DataW.Trod enc Try.prog W 0 (fun _ => true) true 25 v0 d0 p0) (hsz : (DataW.weightsEach Try.prog [25] [d0]).all (· ≤ reachBytes) = true) :
    CALL Try.prog 3 #[v0] W (fun v w' => v = .bool true ∧ Ext W w') := by
  obtain ⟨s, rfl, hs⟩ := arg_sl ok0 h0
  exact slotLays_run hs W
end
set_option maxRecDepth 100000 in
theorem slotLays_lifted (os : Os) (started : os.Started) (H : Type) (enc : TypeId × Value → H) :
    ReturnsInHanded {} Try.checked os 3 .any (Rows.slotLaysSpec.pre6 enc Try.prog Try.f3 Rows.slotLaysRow.domain false) (Rows.slotLaysSpec.post enc Try.prog Try.f3 false true false false) := by
  refine returnsInHanded_of_change_sized (C := Try.checked) (by kernel_rfl) started (by kernel_rfl) Try.func3
    (ChangeSpec.witness6 (enc := enc) (C := Try.checked) false ⟨#[], #[(.agg #[(.int .u64 0), (.int .u8 0), (.int .u32 0), (.int .u32 0)])], []⟩ 8 (by kernel_rfl) (by kernel_rfl) (by kernel_rfl) (by kernel_rfl)) ?_
  intro W base args ds gs before hval0 hW hcnd hsz0 _
  have hval : ∀ (j : Nat) t v, Try.f3.params[j]? = some t → args[j]? = some v → Value.okWide Try.prog W .any base t v := hval0
  have hW' := hW
  obtain ⟨p, q, hA0, hV, rfl, hfz, hnd⟩ := hW
  have hA : DataW.TrodAll enc Try.prog W 0 (fun _ => true) true Try.f3.params.toList args.toList ds p := hA0
  rw [Try.params3] at hA hval
  obtain ⟨v0, vs0, d0, ds0, p0, q0, hargs, rfl, rfl, h0, r0⟩ := trodAll_cons hA
  obtain ⟨rfl, rfl, rfl⟩ := trodAll_nil r0
  obtain rfl : args = #[v0] := by cases args; simp_all
  obtain ⟨rfl, rfl⟩ := trodVars_none hV
  have hsz : (DataW.weightsEach Try.prog [25] [d0]).all (· ≤ reachBytes) = true := hsz0
  have hw := slotLays_walk enc W v0 (hval 0 25 v0 rfl rfl) d0 p0 h0 hsz
  refine (CALL_calls hw).mono fun e W' he => ?_
  cases e with
  | returned v =>
    obtain ⟨rfl, hx⟩ := he
    exact ⟨_, rfl, law_post (P := Try.prog) laidOut (by kernel_rfl) rfl rfl rfl Try.underlying4 hW' hx⟩
  | panicked c => exact he.elim
  | outgrown => exact he.elim

theorem slotLays_closed : joinedFacts Try.prog 3 Try.f3 Rows.slotLaysSpec Rows.slotLaysRow = true := by
  unfold joinedFacts
  rw [mayEnter_is, liftsFinal_is, make_is]
  kernel_rfl
/-- For every input that the row lets in, cellarage/cellaragelaw10.SlotLays returns true, and what was there stays as it was. -/
theorem slotLays_holds : Rows.SlotLaysSaid :=
  OpenClaim.holds_of_wide 3 Try.f3 rfl rfl rfl rfl rfl rfl rfl ⟨rfl, rfl, rfl, rfl, rfl⟩ rfl rfl rfl rfl rfl (by kernel_rfl) Try.func3 slotLays_closed
    (of_decide_eq_true (by kernel_rfl)) (by unfold Func.isWrapper; first | (rw [if_pos (by decide +kernel)]; kernel_rfl) | (rw [if_neg (by decide +kernel)]; exact ⟨rfl, rfl⟩))
    (fun os started H enc _ => slotLays_lifted os started H enc)
#print axioms slotLays_holds
end Go.Proofs.Ytggggfcgnkllgaa
