/- cellaragelaw02.CrcBack: for every bytes, opening undoes sealing, and what opens was sealed. -/
import Derived.Test.YtggggfcgnkllgaaShown02
import Derived.Test.YtggggfcgnkllgaaT5
import Derived.Test.YtggggfcgnkllgaaFacts
import Derived.Test.YtggggfcgnkllgaaArgs
set_option linter.unusedVariables false
set_option linter.unusedSimpArgs false
set_option linter.constructorNameAsVariable false
namespace Go.Proofs.Ytggggfcgnkllgaa
open Go Go.Sh Go.RowKit Go.ChangeShapes Go.WideShapes Go.ChangeAt
open Go.Proofs.Ytggggfcgnkllgaa
section
attribute [local irreducible] X XU XP XR CALL loopS resC closS Value.okWide
theorem open_seal (bs : List UInt8) : openB (sealB bs) = some bs := by
  have hl : (sealB bs).length - 4 = bs.length := by rw [sealB_len]; omega
  have ht : (sealB bs).take bs.length = bs := by
    unfold sealB
    rw [List.take_append_of_le_length (Nat.le_refl _), List.take_length]
  have hd : (sealB bs).drop bs.length = be 4 (crc bs).toNat := by
    unfold sealB
    rw [List.drop_append_of_le_length (Nat.le_refl _), List.drop_length, List.nil_append]
  have hlt : (crc bs).toNat < 256 ^ 4 := (crc bs).isLt
  unfold openB
  rw [hl, ht, hd, num_be, Nat.mod_eq_of_lt hlt, if_neg (by rw [sealB_len]; omega), if_pos rfl]
theorem seal_open {bs cs : List UInt8} (h : openB bs = some cs) : sealB cs = bs := by
  unfold openB at h
  split at h
  · cases h
  · rename_i h4
    split at h
    · rename_i he
      obtain rfl := Option.some.inj h
      unfold sealB
      rw [← he]
      have hb4 := be_num (bs.drop (bs.length - 4))
      have hl4 : (bs.drop (bs.length - 4)).length = 4 := by simp; omega
      rw [hl4] at hb4
      rw [hb4, List.take_append_drop]
    · cases h
theorem crcBack_run {v v1 : Value} {bs xs : List UInt8} (W : World) (hb : Bts W v bs) (hb1 : Bts W v1 xs) : CALL Try.prog 14 #[v, v1] W (fun v w' => v = .bool true ∧ Ext W w') := by
  obtain ⟨a, cp, e, _⟩ := id hb
  subst e
  obtain ⟨a1, cp1, e, _⟩ := id hb1
  subst e
  apply call_law02_CrcBack
  unfold B_law02_CrcBack
  refine shown02 ?_
  intro w1 hx1
  simp only [SS, ST]
  by_cases hl : 100000 < bs.length ∨ 100000 < xs.length
  · have e1 : (if decide ((bs.length : Int) > 100000) = true then Value.bool true else if decide ((bs.length : Int) > 100000) = false then Value.bool (decide ((xs.length : Int) > 100000)) else undef) = .bool true := by
      by_cases h1 : 100000 < bs.length
      · have : decide ((bs.length : Int) > 100000) = true := by simp; omega
        rw [this]; rfl
      · have h0 : decide ((bs.length : Int) > 100000) = false := by simp; omega
        have h2 : decide ((xs.length : Int) > 100000) = true := by simp; omega
        rw [h0, h2]; rfl
    by_cases h1 : 100000 < bs.length
    · have h0 : decide ((bs.length : Int) > 100000) = true := by simp; omega
      simp only [h0, SS, ST, Bool.true_eq_false, if_false, if_true]
      exact ⟨trivial, hx1⟩
    · have h0 : decide ((bs.length : Int) > 100000) = false := by simp; omega
      have h2 : decide ((xs.length : Int) > 100000) = true := by simp; omega
      simp only [h0, h2, SS, ST, Bool.false_eq_true, if_false, if_true]
      exact ⟨trivial, hx1⟩
  · have h0 : decide ((bs.length : Int) > 100000) = false := by simp; omega
    have h2 : decide ((xs.length : Int) > 100000) = false := by simp; omega
    simp only [h0, h2, SS, ST, Bool.false_eq_true, if_false, if_true]
    refine Seal_spec (hb.ext hx1) (by omega) ?_
    intro vs w2 hx2 ho2
    have hs2 := (own_bts ho2).1
    refine Open_spec hs2 (by rw [sealB_len]; omega) (fun hn => absurd hn (by rw [open_seal]; simp)) ?_
    intro cs vo w3 hc hx3 ho3
    rw [open_seal] at hc
    obtain rfl : bs = cs := Option.some.inj hc
    have hvo := (own_bts ho3).1
    simp only [SS, ST]
    have hx13 : Ext W w3 := hx1.trans (hx2.trans hx3)
    have fin : ∀ w5, Ext w3 w5 → X Try.prog (convert 27 9 vo) w5 fun v33_57 w52 => X Try.prog (convert 27 9 (.slice a bs.length cp)) w52 fun v35_59 w56 =>
        X Try.prog (binOpG .eql 9 (.tmp 57) (.tmp 59) v33_57 v35_59) w56 fun v36_60 w58 =>
        gstep v36_60 true (fun w60 K => K vs w60) w58 fun v38_63 w61 =>
        gstep v36_60 true (fun w62 K => CALL Try.prog 51 #[v38_63] w62 K) w61 fun v39_64 w63 =>
        gstep v36_60 true (fun w64 K => X Try.prog (binOpG .eql 23 (.tmp 64) (.const (.int .u32 955982468)) v39_64 (.int .u32 955982468)) w64 K) w63 fun v40_65 w65 =>
        X Try.prog (pickS v36_60 v40_65 (.bool false)) w65 fun v41_66 w66 => v41_66 = .bool true ∧ Ext W w66 := by
      intro w5 hx5
      refine X_str Try.underlying27 Try.underlying5 Try.underlying9 (hvo.ext hx5) ?_
      refine X_str Try.underlying27 Try.underlying5 Try.underlying9 (hb.ext (hx13.trans hx5)) ?_
      simp only [str_toList, l8_beq, SS, ST, decide_true, if_true]
      refine Sum_spec (hs2.ext (hx3.trans hx5)) ?_
      intro w6 hx6
      have e : U32 (crc (sealB bs)) = .int .u32 955982468 := by
        unfold sealB
        rw [crc_sealed]
        rfl
      simp only [e, SS, ST, decide_true, if_true]
      exact ⟨trivial, hx13.trans (hx5.trans hx6)⟩
    refine Open_spec (hb1.ext hx13) (by omega) ?_ ?_
    · intro hn w4 hx4
      simp only [SS, ST]
      refine ⟨Ext, Ext.frame, ?_⟩
      simp only [SS, ST, Bool.false_eq_true, if_false, Bool.not_false, if_true]
      refine ⟨Ext.frame.refl _, ?_⟩
      have e0 : decide (((0 : Nat) : Int) > 0) = false := by decide
      simp only [e0, SS, ST, Bool.false_eq_true, if_false, if_true]
      exact fin _ (hx4.trans (Keep.drew _ w4))
    · intro cs vy w4 hc hx4 ho4
      have hvy := (own_bts ho4).1
      simp only [SS, ST]
      refine ⟨Ext, Ext.frame, ?_⟩
      simp only [SS, ST, Bool.false_eq_true, if_false, Bool.not_true, if_true]
      have hx14 := hx13.trans hx4
      have hlc : cs.length ≤ 100000 := by
        have := congrArg List.length (seal_open hc)
        rw [sealB_len] at this
        omega
      refine XR_str Try.underlying27 Try.underlying5 Try.underlying9 (hb1.ext (hx14.trans (Keep.drew _ w4))) ?_
      refine Seal_spec (hvy.ext (Keep.drew _ w4)) (by omega) ?_
      intro v5 w5 hx5 ho5
      refine ⟨hx5, ?_⟩
      refine XR_str Try.underlying27 Try.underlying5 Try.underlying9 (own_bts ho5).1 ?_
      have e5 : decide (sealB cs ≠ xs) = false := by rw [seal_open hc]; simp
      simp only [str_toList, l8_bne, e5, SS, ST, Bool.false_eq_true, if_false, if_true, Bool.not_true]
      exact fin _ (hx4.trans ((Keep.drew _ w4).trans hx5))
theorem crcBack_walk {H : Type} (enc : TypeId × Value → H) (W : World) (v0 v1 : Value) {base : Nat} (ok0 : Value.okWide Try.prog W .any base 27 v0) (ok1 : Value.okWide Try.prog W .any base 27 v1) (d0 : DataW H) (p0 : List MemPlace) (d1 : DataW H) (p1 : List MemPlace) (h0 : DataW.Trod enc Try.prog W 0 (fun _ => true) true 27 v0 d0 p0) (h1 : DataW.Trod enc Try.prog W 0 (fun _ => true) true 27 v1 d1 p1) (hsz : (DataW.weightsEach Try.prog [27, 27] [d0, d1]).all (· ≤ reachBytes) = true) :
    CALL Try.prog 14 #[v0, v1] W (fun v w' => v = .bool true ∧ Ext W w') := by
  obtain ⟨bs, hb⟩ := arg_bytes Try.underlying27 Try.underlying5 (by kernel_rfl) ok0 h0
  obtain ⟨xs, hb1⟩ := arg_bytes Try.underlying27 Try.underlying5 (by kernel_rfl) ok1 h1
  exact crcBack_run W hb hb1
end
set_option maxRecDepth 100000 in
theorem crcBack_lifted (os : Os) (started : os.Started) (H : Type) (enc : TypeId × Value → H) :
    ReturnsInHanded {} Try.checked os 14 .any (Rows.crcBackSpec.pre6 enc Try.prog Try.f14 Rows.crcBackRow.domain false) (Rows.crcBackSpec.post enc Try.prog Try.f14 false true false false) := by
  refine returnsInHanded_of_change_sized (C := Try.checked) (by kernel_rfl) started (by kernel_rfl) Try.func14
    (ChangeSpec.witness6 (enc := enc) (C := Try.checked) false ⟨#[], #[(.slice none 0 0), (.slice none 0 0)], []⟩ 8 (by kernel_rfl) (by kernel_rfl) (by kernel_rfl) (by kernel_rfl)) ?_
  intro W base args ds gs before hval0 hW hcnd hsz0 _
  have hval : ∀ (j : Nat) t v, Try.f14.params[j]? = some t → args[j]? = some v → Value.okWide Try.prog W .any base t v := hval0
  have hW' := hW
  obtain ⟨p, q, hA0, hV, rfl, hfz, hnd⟩ := hW
  have hA : DataW.TrodAll enc Try.prog W 0 (fun _ => true) true Try.f14.params.toList args.toList ds p := hA0
  rw [Try.params14] at hA hval
  obtain ⟨v0, vs0, d0, ds0, p0, q0, hargs, rfl, rfl, h0, r0⟩ := trodAll_cons hA
  obtain ⟨v1, vs1, d1, ds1, p1, q1, rfl, rfl, rfl, h1, r1⟩ := trodAll_cons r0
  obtain ⟨rfl, rfl, rfl⟩ := trodAll_nil r1
  obtain rfl : args = #[v0, v1] := by cases args; simp_all
  obtain ⟨rfl, rfl⟩ := trodVars_none hV
  have hsz : (DataW.weightsEach Try.prog [27, 27] [d0, d1]).all (· ≤ reachBytes) = true := hsz0
  have hw := crcBack_walk enc W v0 v1 (hval 0 27 v0 rfl rfl) (hval 1 27 v1 rfl rfl) d0 p0 d1 p1 h0 h1 hsz
  refine (CALL_calls hw).mono fun e W' he => ?_
  cases e with
  | returned v =>
    obtain ⟨rfl, hx⟩ := he
    exact ⟨_, rfl, law_post (P := Try.prog) laidOut (by kernel_rfl) rfl rfl rfl Try.underlying4 hW' hx⟩
  | panicked c => exact he.elim
  | outgrown => exact he.elim

theorem crcBack_closed : joinedFacts Try.prog 14 Try.f14 Rows.crcBackSpec Rows.crcBackRow = true := by
  unfold joinedFacts
  rw [mayEnter_is, liftsFinal_is, make_is]
  kernel_rfl
/-- For every input that the row lets in, cellarage/cellaragelaw02.CrcBack returns true, and what was there stays as it was. -/
theorem crcBack_holds : Rows.CrcBackSaid :=
  OpenClaim.holds_of_wide 14 Try.f14 rfl rfl rfl rfl rfl rfl rfl ⟨rfl, rfl, rfl, rfl, rfl⟩ rfl rfl rfl rfl rfl (by kernel_rfl) Try.func14 crcBack_closed
    (of_decide_eq_true (by kernel_rfl)) (by unfold Func.isWrapper; first | (rw [if_pos (by decide +kernel)]; kernel_rfl) | (rw [if_neg (by decide +kernel)]; exact ⟨rfl, rfl⟩))
    (fun os started H enc _ => crcBack_lifted os started H enc)
#print axioms crcBack_holds
end Go.Proofs.Ytggggfcgnkllgaa
