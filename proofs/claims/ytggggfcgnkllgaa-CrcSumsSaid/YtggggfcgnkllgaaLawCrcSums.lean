/- cellaragelaw02.CrcSums: for every start and every bytes, the check sum is the reference's. -/
import Derived.Test.YtggggfcgnkllgaaShown02
import Derived.Test.YtggggfcgnkllgaaT5
import Derived.Test.YtggggfcgnkllgaaFacts
import Derived.Test.YtggggfcgnkllgaaArgs
set_option linter.unusedVariables false
set_option linter.unusedSimpArgs false
set_option linter.constructorNameAsVariable false
namespace Go.Proofs.Ytggggfcgnkllgaa
open Go Go.Sh Go.RowKit Go.ChangeShapes Go.WideShapes Go.ChangeAt
open Go.Proofs.Ytggggfcgnkllgaa
section
attribute [local irreducible] X XU XP XR CALL loopS resC closS Value.okWide
theorem crcSums_run {c : W32} {v : Value} {bs : List UInt8} (W : World) (hb : Bts W v bs) : CALL Try.prog 10 #[U32 c, v] W (fun v w' => v = .bool true ∧ Ext W w') := by
  obtain ⟨a, cp, e, _⟩ := id hb
  subst e
  apply call_law02_CrcSums
  unfold B_law02_CrcSums
  refine shown02 ?_
  intro w1 hx1
  simp only [SS, ST]
  by_cases hl : 100000 < bs.length
  · rw [if_pos (by simp; omega)]
    exact ⟨trivial, hx1⟩
  · rw [if_neg (by simp; omega)]
    simp only [if_true]
    refine Sum_spec (hb.ext hx1) ?_
    intro w2 hx2
    have hx12 := hx1.trans hx2
    refine RMore_spec (c := 0#32) (hb.ext hx12) ?_
    simp only [u32_eq, crc, decide_true, SS, ST, if_true]
    refine More_spec (hb.ext hx12) ?_
    intro w3 hx3
    refine RMore_spec (hb.ext (hx12.trans hx3)) ?_
    simp only [u32_eq, decide_true, SS, ST, if_true]
    exact ⟨trivial, hx12.trans hx3⟩
theorem crcSums_walk {H : Type} (enc : TypeId × Value → H) (W : World) (v0 v1 : Value) {base : Nat} (ok0 : Value.okWide Try.prog W .any base 23 v0) (ok1 : Value.okWide Try.prog W .any base 27 v1) (d0 : DataW H) (p0 : List MemPlace) (d1 : DataW H) (p1 : List MemPlace) (h0 : DataW.Trod enc Try.prog W 0 (fun _ => true) true 23 v0 d0 p0) (h1 : DataW.Trod enc Try.prog W 0 (fun _ => true) true 27 v1 d1 p1) (hsz : (DataW.weightsEach Try.prog [23, 27] [d0, d1]).all (· ≤ reachBytes) = true) :
    CALL Try.prog 10 #[v0, v1] W (fun v w' => v = .bool true ∧ Ext W w') := by
  obtain ⟨c, rfl⟩ := arg_w32 Try.underlying23 ok0 h0
  obtain ⟨bs, hb⟩ := arg_bytes Try.underlying27 Try.underlying5 (by kernel_rfl) ok1 h1
  exact crcSums_run W hb
end
set_option maxRecDepth 100000 in
theorem crcSums_lifted (os : Os) (started : os.Started) (H : Type) (enc : TypeId × Value → H) :
    ReturnsInHanded {} Try.checked os 10 .any (Rows.crcSumsSpec.pre6 enc Try.prog Try.f10 Rows.crcSumsRow.domain false) (Rows.crcSumsSpec.post enc Try.prog Try.f10 false true false false) := by
  refine returnsInHanded_of_change_sized (C := Try.checked) (by kernel_rfl) started (by kernel_rfl) Try.func10
    (ChangeSpec.witness6 (enc := enc) (C := Try.checked) false ⟨#[], #[(.int .u32 0), (.slice none 0 0)], []⟩ 8 (by kernel_rfl) (by kernel_rfl) (by kernel_rfl) (by kernel_rfl)) ?_
  intro W base args ds gs before hval0 hW hcnd hsz0 _
  have hval : ∀ (j : Nat) t v, Try.f10.params[j]? = some t → args[j]? = some v → Value.okWide Try.prog W .any base t v := hval0
  have hW' := hW
  obtain ⟨p, q, hA0, hV, rfl, hfz, hnd⟩ := hW
  have hA : DataW.TrodAll enc Try.prog W 0 (fun _ => true) true Try.f10.params.toList args.toList ds p := hA0
  rw [Try.params10] at hA hval
  obtain ⟨v0, vs0, d0, ds0, p0, q0, hargs, rfl, rfl, h0, r0⟩ := trodAll_cons hA
  obtain ⟨v1, vs1, d1, ds1, p1, q1, rfl, rfl, rfl, h1, r1⟩ := trodAll_cons r0
  obtain ⟨rfl, rfl, rfl⟩ := trodAll_nil r1
  obtain rfl : args = #[v0, v1] := by cases args; simp_all
  obtain ⟨rfl, rfl⟩ := trodVars_none hV
  have hsz : (DataW.weightsEach Try.prog [23, 27] [d0, d1]).all (· ≤ reachBytes) = true := hsz0
  have hw := crcSums_walk enc W v0 v1 (hval 0 23 v0 rfl rfl) (hval 1 27 v1 rfl rfl) d0 p0 d1 p1 h0 h1 hsz
  refine (CALL_calls hw).mono fun e W' he => ?_
  cases e with
  | returned v =>
    obtain ⟨rfl, hx⟩ := he
    exact ⟨_, rfl, law_post (P := Try.prog) laidOut (by kernel_rfl) rfl rfl rfl Try.underlying4 hW' hx⟩
  | panicked c => exact he.elim
  | outgrown => exact he.elim

theorem crcSums_closed : joinedFacts Try.prog 10 Try.f10 Rows.crcSumsSpec Rows.crcSumsRow = true := by
  unfold joinedFacts
  rw [mayEnter_is, liftsFinal_is, make_is]
  kernel_rfl
/-- For every input that the row lets in, cellarage/cellaragelaw02.CrcSums returns true, and what was there stays as it was. -/
theorem crcSums_holds : Rows.CrcSumsSaid :=
  OpenClaim.holds_of_wide 10 Try.f10 rfl rfl rfl rfl rfl rfl rfl ⟨rfl, rfl, rfl, rfl, rfl⟩ rfl rfl rfl rfl rfl (by kernel_rfl) Try.func10 crcSums_closed
    (of_decide_eq_true (by kernel_rfl)) (by unfold Func.isWrapper; first | (rw [if_pos (by decide +kernel)]; kernel_rfl) | (rw [if_neg (by decide +kernel)]; exact ⟨rfl, rfl⟩))
    (fun os started H enc _ => crcSums_lifted os started H enc)
#print axioms crcSums_holds
end Go.Proofs.Ytggggfcgnkllgaa
