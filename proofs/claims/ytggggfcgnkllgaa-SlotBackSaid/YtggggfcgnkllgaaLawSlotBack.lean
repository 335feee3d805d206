/- cellaragelaw10.SlotBack: for every slot and every bytes, taking undoes laying, and what is taken was laid. -/
import Derived.Test.YtggggfcgnkllgaaNewer2
import Derived.Test.YtggggfcgnkllgaaFacts
import Derived.Test.YtggggfcgnkllgaaArgs
set_option linter.unusedVariables false
set_option linter.unusedSimpArgs false
set_option linter.constructorNameAsVariable false
namespace Go.Proofs.Ytggggfcgnkllgaa
open Go Go.Sh Go.RowKit Go.ChangeShapes Go.WideShapes Go.ChangeAt
open Go.Proofs.Ytggggfcgnkllgaa
section
attribute [local irreducible] X XU XP XR CALL loopS resC closS Value.okWide
theorem slotBack_run {s : Sl} (hs : s.ok) {v1 : Value} {xs : List UInt8} (W : World) (hb1 : Bts W v1 xs) : CALL Try.prog 5 #[s.v, v1] W (fun v w' => v = .bool true ∧ Ext W w') := by
  apply call_law10_SlotBack
  unfold B_law10_SlotBack
  refine X_box ?_
  have hbx : (newB W s.v.cells 25).heap[W.heap.size]? = some (.cells s.cs.toArray 25 (0, 0)) := newB_get _ _ _
  have hx1 := newB_ext W s.v.cells 25
  generalize newB W s.v.cells 25 = w1 at hbx hx1 ⊢
  refine shown10 ?_
  intro w2 hx2
  refine X_loadAgg Try.underlying25 agg_25 info_25 (Ext.get hx2 hbx) (by rw [sz_25]; rfl) ?_
  refine Lay_spec hs ?_
  intro v3 w3 hx3 hv3
  refine Take_all hv3 ?_
  intro w4 hx4
  simp only [SS, ST]
  refine X_slotVar ?_
  intro w5 hx5 hb5
  have hx15 : Ext w1 w5 := hx2.trans (hx3.trans (hx4.trans hx5))
  have hbx5 := Ext.get hx15 hbx
  refine X_loadL agg_22 hbx5 rfl ?_
  have htk := take_lay hs
  have d0 : decide ((0 : Int) ≠ 0) = false := by decide
  have d1 : decide ((100 : Int) ≠ 0) = true := by decide
  have d2 : decide ((100 : Int) = 0) = false := by decide
  have d3 : decide ((100 : Int) ≠ 100) = false := by decide
  have d4 : decide ((0 : Int) = 0) = true := by decide
  have d5 : decide ((0 : Int) = 100) = false := by decide
  have d6 : decide ((100 : Int) = 100) = true := by decide
  have tail : ∀ w6, Ext w1 w6 → CALL Try.prog 44 #[v1] w6 fun v28_40 w43 =>
      X Try.prog (Instr.extract v28_40 0) w43 fun v29_41 w44 =>
      X Try.prog (Instr.extract v28_40 1) w44 fun v30_42 w45 =>
      X Try.prog (Instr.alloc 25 true (.tuple #[])) w45 fun v31_8 w46 =>
      XU Try.prog (Instr.storeAt 25 v31_8 v29_41) w46 fun w47 =>
      ∃ R, Frame? R ∧
      XP Try.prog (binOpG .eql 30 (.tmp 45) (.const (.int .i64 0)) v30_42 (.int .i64 0)) (drewW w47) fun v33_46 w51 =>
      gstep v33_46 true (fun w54 K => XP Try.prog (Instr.fieldAt 25 v31_8 0) w54 K) w51 fun v35_48 w55 =>
      gstep v33_46 true (fun w56 K => XR Try.prog R (Instr.loadAt 22 v35_48) w56 K) w55 fun v36_49 w57 =>
      gstep v33_46 true (fun w58 K => XP Try.prog (binOpG .neq 22 (.tmp 49) (.const (.int .u64 0)) v36_49 (.int .u64 0)) w58 K) w57 fun v37_50 w59 =>
      XP Try.prog (pickS v33_46 v37_50 (.bool false)) w59 fun v38_51 w61 =>
      gstep v38_51 true (fun w64 K => XR Try.prog R (Instr.loadAt 25 v31_8) w64 K) w61 fun v40_53 w65 =>
      gstep v38_51 true (fun w66 K => K v1 w66) w65 fun v41_56 w67 =>
      gstep v38_51 true (fun w68 K => XR Try.prog R (convert 27 9 v41_56) w68 K) w67 fun v42_57 w69 =>
      gstep v38_51 true (fun w70 K => CALL Try.prog 42 #[v40_53] w70 K) w69 fun v43_54 w71 =>
      R w69 w71 ∧
      gstep v38_51 true (fun w72 K => XR Try.prog R (convert 27 9 v43_54) w72 K) w71 fun v44_55 w73 =>
      gstep v38_51 true (fun w74 K => XP Try.prog (binOpG .eql 9 (.tmp 55) (.tmp 57) v44_55 v42_57) w74 K) w73 fun v45_58 w75 =>
      XP Try.prog (pickS v38_51 v45_58 (.bool false)) w75 fun v46_59 w77 =>
      gstep v46_59 false (fun w80 K => K v30_42 w80) w77 fun v48_61 w81 =>
      gstep v46_59 false (fun w82 K => XP Try.prog (binOpG .eql 30 (.tmp 61) (.const (.int .i64 100)) v48_61 (.int .i64 100)) w82 K) w81 fun v49_62 w83 =>
      gstep v46_59 false (fun w84 K => K v49_62 w84) w83 fun v50_63 w85 =>
      gstep v50_63 true (fun w86 K => XR Try.prog R (Instr.loadAt 25 v31_8) w86 K) w85 fun v51_64 w87 =>
      gstep v50_63 true (fun w88 K => XP Try.prog (Instr.build 25 #[]) w88 K) w87 fun v52_65 w89 =>
      gstep v50_63 true (fun w90 K => XP Try.prog (binOpG .eql 25 (.tmp 64) (.tmp 65) v51_64 v52_65) w90 K) w89 fun v53_66 w91 =>
      gstep v46_59 false (fun w92 K => XP Try.prog (pickS v50_63 v53_66 (.bool false)) w92 K) w91 fun v54_67 w93 =>
      XP Try.prog (pickS v46_59 (.bool true) v54_67) w93 fun v55_68 w95 => v55_68 = .bool true ∧ Ext W w95 := by
    intro w6 hx6
    refine Take_all (hb1.ext (hx1.trans hx6)) ?_
    intro w7 hx7
    simp only [SS, ST]
    refine X_slotVar ?_
    intro w8 hx8 hb8
    have hx18 : Ext W (drewW w8) := hx1.trans (hx6.trans (hx7.trans (hx8.trans (Keep.drew _ w8))))
    refine ⟨Ext, Ext.frame, ?_⟩
    rcases takeP_cases xs with ⟨_, hA⟩ | ⟨t, ht, hg, hA⟩
    · rw [hA] at hb8
      simp only [hA, SS, ST, d0, d1, d2, d3, d4, d5, d6, if_true, Bool.false_eq_true, if_false]
      refine ⟨Ext.frame.refl _, ?_⟩
      refine XR_loadAgg Try.underlying25 agg_25 info_25 (w := drewW w8) hb8 (by rw [sz_25]; rfl) ?_
      refine XP_of (fun w => run_build_25z w) ?_
      have := XP_slot_eql (.tmp 64) (.tmp 65) nilSl nilSl
      simp only [Sl.v, XP_slot_eql, SS, ST, decide_true, if_true]
      exact ⟨trivial, hx18⟩
    · rw [hA] at hb8
      simp only [hA, SS, ST, d0, d1, d2, d3, d4, d5, d6, if_true, Bool.false_eq_true, if_false, Bool.true_eq_false]
      refine XR_loadL agg_22 (w := drewW w8) hb8 rfl ?_
      have eg : decide ((t.gen : Int) ≠ 0) = true := by simp; omega
      simp only [eg, SS, ST, if_true]
      refine XR_loadAgg Try.underlying25 agg_25 info_25 (w := drewW w8) hb8 (by rw [sz_25]; rfl) ?_
      refine XR_str Try.underlying27 Try.underlying5 Try.underlying9 (hb1.ext hx18) ?_
      obtain ⟨_, _, hlay, hok⟩ := take_some ht
      refine Lay_spec hok ?_
      intro v9 w9 hx9 hv9
      refine ⟨hx9, ?_⟩
      refine XR_str Try.underlying27 Try.underlying5 Try.underlying9 hv9 ?_
      rw [hlay]
      simp only [SS, ST, str_toList, l8_beq, decide_true, if_true, Bool.true_eq_false, if_false]
      exact ⟨trivial, hx18.trans hx9⟩
  by_cases hg : s.gen = 0
  · have hP : takeP (layB s) = (nilSl, 100) := by unfold takeP; rw [htk, if_pos hg]
    have eg : decide ((s.gen : Int) = 0) = true := by simp [hg]
    simp only [hP, eg, SS, ST, d0, d1, d2, d3, d4, d5, d6, if_true, Bool.false_eq_true, if_false]
    refine X_loadL agg_22 hbx5 rfl ?_
    have eg2 : decide ((s.gen : Int) ≠ 0) = false := by simp [hg]
    simp only [eg2, SS, ST, if_true, Bool.false_eq_true, if_false]
    exact tail w5 hx15
  · have hP : takeP (layB s) = (s, 0) := by unfold takeP; rw [htk, if_neg hg]
    have eg : decide ((s.gen : Int) = 0) = false := by simp [hg]
    have eg2 : decide ((s.gen : Int) ≠ 0) = true := by simp; omega
    rw [hP] at hb5
    simp only [hP, eg, SS, ST, d0, d1, d2, d3, d4, d5, d6, if_true, Bool.false_eq_true, if_false]
    refine X_loadL agg_22 hbx5 rfl ?_
    simp only [eg2, SS, ST, d0, if_true, Bool.false_eq_true, if_false]
    refine X_loadAgg Try.underlying25 agg_25 info_25 hb5 (by rw [sz_25]; rfl) ?_
    refine X_loadAgg Try.underlying25 agg_25 info_25 hbx5 (by rw [sz_25]; rfl) ?_
    simp only [X_slot_neq, SS, ST, decide_true, Bool.not_true, if_true, Bool.false_eq_true, if_false]
    exact tail w5 hx15
theorem slotBack_walk {H : Type} (enc : TypeId × Value → H) (W : World) (v0 v1 : Value) {base : Nat} (ok0 : Value.okWide Try.prog W .any base 25 v0) (ok1 : Value.okWide Try.prog W .any base 27 v1) (d0 : DataW H) (p0 : List MemPlace) (d1 : DataW H) (p1 : List MemPlace) (h0 : DataW.Trod enc Try.prog W 0 (fun _ => true) true 25 v0 d0 p0) (h1 : DataW.Trod enc Try.prog W 0 (fun _ => true) true 27 v1 d1 p1) (hsz : (DataW.weightsEach Try.prog [25, 27] [d0, d1]).all (· ≤ reachBytes) = true) :
    CALL Try.prog 5 #[v0, v1] W (fun v w' => v = .bool true ∧ Ext W w') := by
  obtain ⟨s, rfl, hs⟩ := arg_sl ok0 h0
  obtain ⟨xs, hb1⟩ := arg_bytes Try.underlying27 Try.underlying5 (by kernel_rfl) ok1 h1
  exact slotBack_run hs W hb1
end
set_option maxRecDepth 100000 in
theorem slotBack_lifted (os : Os) (started : os.Started) (H : Type) (enc : TypeId × Value → H) :
    ReturnsInHanded {} Try.checked os 5 .any (Rows.slotBackSpec.pre6 enc Try.prog Try.f5 Rows.slotBackRow.domain false) (Rows.slotBackSpec.post enc Try.prog Try.f5 false true false false) := by
  refine returnsInHanded_of_change_sized (C := Try.checked) (by kernel_rfl) started (by kernel_rfl) Try.func5
    (ChangeSpec.witness6 (enc := enc) (C := Try.checked) false ⟨#[], #[(.agg #[(.int .u64 0), (.int .u8 0), (.int .u32 0), (.int .u32 0)]), (.slice none 0 0)], []⟩ 8 (by kernel_rfl) (by kernel_rfl) (by kernel_rfl) (by kernel_rfl)) ?_
  intro W base args ds gs before hval0 hW hcnd hsz0 _
  have hval : ∀ (j : Nat) t v, Try.f5.params[j]? = some t → args[j]? = some v → Value.okWide Try.prog W .any base t v := hval0
  have hW' := hW
  obtain ⟨p, q, hA0, hV, rfl, hfz, hnd⟩ := hW
  have hA : DataW.TrodAll enc Try.prog W 0 (fun _ => true) true Try.f5.params.toList args.toList ds p := hA0
  rw [Try.params5] at hA hval
  obtain ⟨v0, vs0, d0, ds0, p0, q0, hargs, rfl, rfl, h0, r0⟩ := trodAll_cons hA
  obtain ⟨v1, vs1, d1, ds1, p1, q1, rfl, rfl, rfl, h1, r1⟩ := trodAll_cons r0
  obtain ⟨rfl, rfl, rfl⟩ := trodAll_nil r1
  obtain rfl : args = #[v0, v1] := by cases args; simp_all
  obtain ⟨rfl, rfl⟩ := trodVars_none hV
  have hsz : (DataW.weightsEach Try.prog [25, 27] [d0, d1]).all (· ≤ reachBytes) = true := hsz0
  have hw := slotBack_walk enc W v0 v1 (hval 0 25 v0 rfl rfl) (hval 1 27 v1 rfl rfl) d0 p0 d1 p1 h0 h1 hsz
  refine (CALL_calls hw).mono fun e W' he => ?_
  cases e with
  | returned v =>
    obtain ⟨rfl, hx⟩ := he
    exact ⟨_, rfl, law_post (P := Try.prog) laidOut (by kernel_rfl) rfl rfl rfl Try.underlying4 hW' hx⟩
  | panicked c => exact he.elim
  | outgrown => exact he.elim

theorem slotBack_closed : joinedFacts Try.prog 5 Try.f5 Rows.slotBackSpec Rows.slotBackRow = true := by
  unfold joinedFacts
  rw [mayEnter_is, liftsFinal_is, make_is]
  kernel_rfl
/-- For every input that the row lets in, cellarage/cellaragelaw10.SlotBack returns true, and what was there stays as it was. -/
theorem slotBack_holds : Rows.SlotBackSaid :=
  OpenClaim.holds_of_wide 5 Try.f5 rfl rfl rfl rfl rfl rfl rfl ⟨rfl, rfl, rfl, rfl, rfl⟩ rfl rfl rfl rfl rfl (by kernel_rfl) Try.func5 slotBack_closed
    (of_decide_eq_true (by kernel_rfl)) (by unfold Func.isWrapper; first | (rw [if_pos (by decide +kernel)]; kernel_rfl) | (rw [if_neg (by decide +kernel)]; exact ⟨rfl, rfl⟩))
    (fun os started H enc _ => slotBack_lifted os started H enc)
#print axioms slotBack_holds
end Go.Proofs.Ytggggfcgnkllgaa
