/- cellaragelaw01.CodecOrder: for every two numbers, their eight bytes stand in the numbers' order. -/
import Derived.Test.YtggggfcgnkllgaaShown01
import Derived.Test.YtggggfcgnkllgaaFacts
import Derived.Test.YtggggfcgnkllgaaArgs
set_option linter.unusedVariables false
set_option linter.unusedSimpArgs false
set_option linter.constructorNameAsVariable false
namespace Go.Proofs.Ytggggfcgnkllgaa
open Go Go.Sh Go.RowKit Go.ChangeShapes Go.WideShapes Go.ChangeAt
open Go.Proofs.Ytggggfcgnkllgaa
section
attribute [local irreducible] X XU XP XR CALL loopS resC closS Value.okWide
theorem codecOrder_run {n m : Nat} (W : World) (hn : n < 18446744073709551616) (hm : m < 18446744073709551616) :
    CALL Try.prog 7 #[.int .u64 n, .int .u64 m] W (fun v w' => v = .bool true ∧ Ext W w') := by
  apply call_law01_CodecOrder
  unfold B_law01_CodecOrder
  refine ⟨Ext, Ext.frame, ?_⟩
  refine Put_spec (Bts.nil _) (by simp) hn ?_
  intro v1 w1 hx1 ho1
  refine XR_str Try.underlying27 Try.underlying5 Try.underlying9 (own_bts ho1).1 ?_
  refine Put_spec (Bts.nil _) (by simp) hm ?_
  intro v2 w2 hx2 ho2
  refine ⟨hx2, ?_⟩
  refine XR_str Try.underlying27 Try.underlying5 Try.underlying9 (own_bts ho2).1 ?_
  refine shown01 ?_
  intro w3 hx3
  have hl : ∀ k, (str (be 8 k)).size = 8 := fun k => by rw [str_size]; simp
  have e8 : decide (((8 : Nat) : Int) = 8) = true := by decide
  simp only [SS, ST, if_true, hl, e8, str_toList, List.nil_append, putB_8, less_be]
  have en : n % 256 ^ 8 = n := Nat.mod_eq_of_lt (by simpa using hn)
  have em : m % 256 ^ 8 = m := Nat.mod_eq_of_lt (by simpa using hm)
  have ed : decide ((n : Int) < (m : Int)) = decide (n < m) := by
    rw [Bool.eq_iff_iff]; simp
  rw [en, em, ed]
  refine ⟨?_, (Keep.drew _ W).trans (hx1.trans (hx2.trans hx3))⟩
  simp
theorem codecOrder_walk {H : Type} (enc : TypeId × Value → H) (W : World) (v0 v1 : Value) {base : Nat} (ok0 : Value.okWide Try.prog W .any base 22 v0) (ok1 : Value.okWide Try.prog W .any base 22 v1) (d0 : DataW H) (p0 : List MemPlace) (d1 : DataW H) (p1 : List MemPlace)
    (h0 : DataW.Trod enc Try.prog W 0 (fun _ => true) true 22 v0 d0 p0) (h1 : DataW.Trod enc Try.prog W 0 (fun _ => true) true 22 v1 d1 p1) (hsz : (DataW.weightsEach Try.prog [22, 22] [d0, d1]).all (· ≤ reachBytes) = true) :
    CALL Try.prog 7 #[v0, v1] W (fun v w' => v = .bool true ∧ Ext W w') := by
  obtain ⟨n, rfl, hn⟩ := arg_u64 (P := Try.prog) (t := 22) Try.underlying22 ok0 h0
  obtain ⟨m, rfl, hm⟩ := arg_u64 (P := Try.prog) (t := 22) Try.underlying22 ok1 h1
  exact codecOrder_run W hn hm
end
set_option maxRecDepth 100000 in
theorem codecOrder_lifted (os : Os) (started : os.Started) (H : Type) (enc : TypeId × Value → H) :
    ReturnsInHanded {} Try.checked os 7 .any (Rows.codecOrderSpec.pre6 enc Try.prog Try.f7 Rows.codecOrderRow.domain false) (Rows.codecOrderSpec.post enc Try.prog Try.f7 false true false false) := by
  refine returnsInHanded_of_change_sized (C := Try.checked) (by kernel_rfl) started (by kernel_rfl) Try.func7
    (ChangeSpec.witness6 (enc := enc) (C := Try.checked) false ⟨#[], #[(.int .u64 0), (.int .u64 0)], []⟩ 8 (by kernel_rfl) (by kernel_rfl) (by kernel_rfl) (by kernel_rfl)) ?_
  intro W base args ds gs before hval0 hW hcnd hsz0 _
  have hval : ∀ (j : Nat) t v, Try.f7.params[j]? = some t → args[j]? = some v → Value.okWide Try.prog W .any base t v := hval0
  have hW' := hW
  obtain ⟨p, q, hA0, hV, rfl, hfz, hnd⟩ := hW
  have hA : DataW.TrodAll enc Try.prog W 0 (fun _ => true) true Try.f7.params.toList args.toList ds p := hA0
  rw [Try.params7] at hA hval
  obtain ⟨v0, vs0, d0, ds0, p0, q0, hargs, rfl, rfl, h0, r0⟩ := trodAll_cons hA
  obtain ⟨v1, vs1, d1, ds1, p1, q1, rfl, rfl, rfl, h1, r1⟩ := trodAll_cons r0
  obtain ⟨rfl, rfl, rfl⟩ := trodAll_nil r1
  obtain rfl : args = #[v0, v1] := by cases args; simp_all
  obtain ⟨rfl, rfl⟩ := trodVars_none hV
  have hsz : (DataW.weightsEach Try.prog [22, 22] [d0, d1]).all (· ≤ reachBytes) = true := hsz0
  have hw := codecOrder_walk enc W v0 v1 (hval 0 22 v0 rfl rfl) (hval 1 22 v1 rfl rfl) d0 p0 d1 p1 h0 h1 hsz
  refine (CALL_calls hw).mono fun e W' he => ?_
  cases e with
  | returned v =>
    obtain ⟨rfl, hx⟩ := he
    exact ⟨_, rfl, law_post (P := Try.prog) laidOut (by kernel_rfl) rfl rfl rfl Try.underlying4 hW' hx⟩
  | panicked c => exact he.elim
  | outgrown => exact he.elim

theorem codecOrder_closed : joinedFacts Try.prog 7 Try.f7 Rows.codecOrderSpec Rows.codecOrderRow = true := by
  unfold joinedFacts
  rw [mayEnter_is, liftsFinal_is, make_is]
  kernel_rfl
/-- For every input that the row lets in, cellarage/cellaragelaw01.CodecOrder returns true, and what was there stays as it was. -/
theorem codecOrder_holds : Rows.CodecOrderSaid :=
  OpenClaim.holds_of_wide 7 Try.f7 rfl rfl rfl rfl rfl rfl rfl ⟨rfl, rfl, rfl, rfl, rfl⟩ rfl rfl rfl rfl rfl (by kernel_rfl) Try.func7 codecOrder_closed
    (of_decide_eq_true (by kernel_rfl)) (by unfold Func.isWrapper; first | (rw [if_pos (by decide +kernel)]; kernel_rfl) | (rw [if_neg (by decide +kernel)]; exact ⟨rfl, rfl⟩))
    (fun os started H enc _ => codecOrder_lifted os started H enc)
#print axioms codecOrder_holds
end Go.Proofs.Ytggggfcgnkllgaa
