/- cellaragelaw02.CrcSeals: for every bytes, sealing and opening are the reference's. -/
import Derived.Test.YtggggfcgnkllgaaShown02
import Derived.Test.YtggggfcgnkllgaaT5
import Derived.Test.YtggggfcgnkllgaaFacts
import Derived.Test.YtggggfcgnkllgaaArgs
set_option linter.unusedVariables false
set_option linter.unusedSimpArgs false
set_option linter.constructorNameAsVariable false
namespace Go.Proofs.Ytggggfcgnkllgaa
open Go Go.Sh Go.RowKit Go.ChangeShapes Go.WideShapes Go.ChangeAt
open Go.Proofs.Ytggggfcgnkllgaa
section
attribute [local irreducible] X XU XP XR CALL loopS resC closS Value.okWide
theorem crcSeals_run {v : Value} {bs : List UInt8} (W : World) (hb : Bts W v bs) : CALL Try.prog 11 #[v] W (fun v w' => v = .bool true ∧ Ext W w') := by
  obtain ⟨a, cp, e, _⟩ := id hb
  subst e
  apply call_law02_CrcSeals
  unfold B_law02_CrcSeals
  refine shown02 ?_
  intro w1 hx1
  simp only [SS, ST]
  by_cases hl : 100000 < bs.length
  · rw [if_pos (by simp; omega)]
    exact ⟨trivial, hx1⟩
  · rw [if_neg (by simp; omega)]
    have tail : ∀ (u u' : Value) (b : Bool) (cs : List UInt8) (w3 : World), Ext W w3 → Bts w3 u cs → Bts w3 u' cs →
        ∃ R, Frame? R ∧ CALL Try.prog 56 #[.slice a bs.length cp] (drewW w3) fun v12_26 w15 =>
          XR Try.prog R (convert 27 9 v12_26) w15 fun v13_27 w17 =>
          CALL Try.prog 57 #[.slice a bs.length cp] w17 fun v14_29 w19 =>
          R w17 w19 ∧
          XR Try.prog R (convert 27 9 v14_29) w19 fun v15_30 w21 =>
          XP Try.prog (binOpG .eql 9 (.tmp 27) (.tmp 30) v13_27 v15_30) w21 fun v16_31 w23 =>
          gstep v16_31 true (fun w25 K => K u w25) w23 fun v18_34 w26 =>
          gstep v16_31 true (fun w27 K => XR Try.prog R (convert 27 9 v18_34) w27 K) w26 fun v19_35 w28 =>
          gstep v16_31 true (fun w29 K => K u' w29) w28 fun v20_36 w30 =>
          gstep v16_31 true (fun w31 K => XR Try.prog R (convert 27 9 v20_36) w31 K) w30 fun v21_37 w32 =>
          gstep v16_31 true (fun w33 K => XP Try.prog (binOpG .eql 9 (.tmp 35) (.tmp 37) v19_35 v21_37) w33 K) w32 fun v22_38 w34 =>
          XP Try.prog (pickS v16_31 v22_38 (.bool false)) w34 fun v23_39 w35 =>
          gstep v23_39 true (fun w37 K => K (.bool b) w37) w35 fun v24_41 w37 =>
          gstep v23_39 true (fun w38 K => K (.bool b) w38) w37 fun v25_42 w39 =>
          gstep v23_39 true (fun w40 K => XP Try.prog (binOpG .eql 4 (.tmp 41) (.tmp 42) v24_41 v25_42) w40 K) w39 fun v26_43 w41 =>
          XP Try.prog (pickS v23_39 v26_43 (.bool false)) w41 fun v27_44 w42 => v27_44 = .bool true ∧ Ext W w42 := by
      intro u u' b cs w3 hx3 hu hu'
      refine ⟨Ext, Ext.frame, ?_⟩
      have hb3 := hb.ext (hx3.trans (Keep.drew _ w3))
      refine Seal_spec hb3 (by omega) ?_
      intro v4 w4 hx4 ho4
      refine XR_str Try.underlying27 Try.underlying5 Try.underlying9 (own_bts ho4).1 ?_
      refine RSeal_spec (hb3.ext hx4) (by omega) ?_
      intro v5 w5 hx5 ho5
      refine ⟨hx5, ?_⟩
      have hx35 : Ext w3 w5 := (Keep.drew _ w3).trans (hx4.trans hx5)
      refine XR_str Try.underlying27 Try.underlying5 Try.underlying9 (own_bts ho5).1 ?_
      simp only [SS, ST, str_toList, l8_beq, decide_true, if_true]
      refine XR_str Try.underlying27 Try.underlying5 Try.underlying9 (hu.ext hx35) ?_
      refine XR_str Try.underlying27 Try.underlying5 Try.underlying9 (hu'.ext hx35) ?_
      simp only [SS, ST, str_toList, l8_beq, decide_true, if_true, beq_self_eq_true]
      exact ⟨trivial, hx3.trans hx35⟩
    refine Open_spec (hb.ext hx1) (by omega) ?_ ?_
    · intro hn w2 hx2
      simp only [SS, ST]
      refine ROpen_spec (hb.ext (hx1.trans hx2)) (by omega) ?_ (fun cs v' w1 hc => absurd hc (by rw [hn]; simp))
      intro _ w3 hx3
      simp only [SS, ST, if_true]
      exact tail _ _ false [] w3 (hx1.trans (hx2.trans hx3)) (Bts.nil _) (Bts.nil _)
    · intro cs v' w2 hc hx2 ho2
      simp only [SS, ST]
      refine ROpen_spec (hb.ext (hx1.trans hx2)) (by omega) (fun hn => absurd hc (by rw [hn]; simp)) ?_
      intro cs' v3 w3 hc' hx3 hb3
      rw [hc] at hc'
      obtain rfl : cs = cs' := Option.some.inj hc'
      simp only [SS, ST, if_true]
      exact tail _ _ true cs w3 (hx1.trans (hx2.trans hx3)) ((own_bts ho2).1.ext hx3) hb3
theorem crcSeals_walk {H : Type} (enc : TypeId × Value → H) (W : World) (v0 : Value) {base : Nat} (ok0 : Value.okWide Try.prog W .any base 27 v0) (d0 : DataW H) (p0 : List MemPlace) (h0 : DataW.Trod enc Try.prog W 0 (fun _ => true) true 27 v0 d0 p0) (hsz : (DataW.weightsEach Try.prog [27] [d0]).all (· ≤ reachBytes) = true) :
    CALL Try.prog 11 #[v0] W (fun v w' => v = .bool true ∧ Ext W w') := by
  obtain ⟨bs, hb⟩ := arg_bytes Try.underlying27 Try.underlying5 (by kernel_rfl) ok0 h0
  exact crcSeals_run W hb
end
set_option maxRecDepth 100000 in
theorem crcSeals_lifted (os : Os) (started : os.Started) (H : Type) (enc : TypeId × Value → H) :
    ReturnsInHanded {} Try.checked os 11 .any (Rows.crcSealsSpec.pre6 enc Try.prog Try.f11 Rows.crcSealsRow.domain false) (Rows.crcSealsSpec.post enc Try.prog Try.f11 false true false false) := by
  refine returnsInHanded_of_change_sized (C := Try.checked) (by kernel_rfl) started (by kernel_rfl) Try.func11
    (ChangeSpec.witness6 (enc := enc) (C := Try.checked) false ⟨#[], #[(.slice none 0 0)], []⟩ 8 (by kernel_rfl) (by kernel_rfl) (by kernel_rfl) (by kernel_rfl)) ?_
  intro W base args ds gs before hval0 hW hcnd hsz0 _
  have hval : ∀ (j : Nat) t v, Try.f11.params[j]? = some t → args[j]? = some v → Value.okWide Try.prog W .any base t v := hval0
  have hW' := hW
  obtain ⟨p, q, hA0, hV, rfl, hfz, hnd⟩ := hW
  have hA : DataW.TrodAll enc Try.prog W 0 (fun _ => true) true Try.f11.params.toList args.toList ds p := hA0
  rw [Try.params11] at hA hval
  obtain ⟨v0, vs0, d0, ds0, p0, q0, hargs, rfl, rfl, h0, r0⟩ := trodAll_cons hA
  obtain ⟨rfl, rfl, rfl⟩ := trodAll_nil r0
  obtain rfl : args = #[v0] := by cases args; simp_all
  obtain ⟨rfl, rfl⟩ := trodVars_none hV
  have hsz : (DataW.weightsEach Try.prog [27] [d0]).all (· ≤ reachBytes) = true := hsz0
  have hw := crcSeals_walk enc W v0 (hval 0 27 v0 rfl rfl) d0 p0 h0 hsz
  refine (CALL_calls hw).mono fun e W' he => ?_
  cases e with
  | returned v =>
    obtain ⟨rfl, hx⟩ := he
    exact ⟨_, rfl, law_post (P := Try.prog) laidOut (by kernel_rfl) rfl rfl rfl Try.underlying4 hW' hx⟩
  | panicked c => exact he.elim
  | outgrown => exact he.elim

theorem crcSeals_closed : joinedFacts Try.prog 11 Try.f11 Rows.crcSealsSpec Rows.crcSealsRow = true := by
  unfold joinedFacts
  rw [mayEnter_is, liftsFinal_is, make_is]
  kernel_rfl
/-- For every input that the row lets in, cellarage/cellaragelaw02.CrcSeals returns true, and what was there stays as it was. -/
theorem crcSeals_holds : Rows.CrcSealsSaid :=
  OpenClaim.holds_of_wide 11 Try.f11 rfl rfl rfl rfl rfl rfl rfl ⟨rfl, rfl, rfl, rfl, rfl⟩ rfl rfl rfl rfl rfl (by kernel_rfl) Try.func11 crcSeals_closed
    (of_decide_eq_true (by kernel_rfl)) (by unfold Func.isWrapper; first | (rw [if_pos (by decide +kernel)]; kernel_rfl) | (rw [if_neg (by decide +kernel)]; exact ⟨rfl, rfl⟩))
    (fun os started H enc _ => crcSeals_lifted os started H enc)
#print axioms crcSeals_holds
end Go.Proofs.Ytggggfcgnkllgaa
