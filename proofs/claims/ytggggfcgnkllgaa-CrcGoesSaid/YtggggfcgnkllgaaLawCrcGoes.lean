/- cellaragelaw02.CrcGoes: for every bytes and every place, summing goes on where it stopped. -/
import Derived.Test.YtggggfcgnkllgaaShown02
import Derived.Test.YtggggfcgnkllgaaT5
import Derived.Test.YtggggfcgnkllgaaFacts
import Derived.Test.YtggggfcgnkllgaaArgs
set_option linter.unusedVariables false
set_option linter.unusedSimpArgs false
set_option linter.constructorNameAsVariable false
namespace Go.Proofs.Ytggggfcgnkllgaa
open Go Go.Sh Go.RowKit Go.ChangeShapes Go.WideShapes Go.ChangeAt
open Go.Proofs.Ytggggfcgnkllgaa
section
attribute [local irreducible] X XU XP XR CALL loopS resC closS Value.okWide
theorem crcGoes_run {v : Value} {bs : List UInt8} {n : Nat} (hn : n < 18446744073709551616) (W : World) (hb : Bts W v bs) : CALL Try.prog 12 #[v, .int .u64 (n : Int)] W (fun v w' => v = .bool true ∧ Ext W w') := by
  obtain ⟨a, cp, e, _⟩ := id hb
  subst e
  apply call_law02_CrcGoes
  unfold B_law02_CrcGoes
  refine shown02 ?_
  intro w1 hx1
  simp only [SS, ST]
  by_cases hl : 100000 < bs.length
  · rw [if_pos (by simp; omega)]
    exact ⟨trivial, hx1⟩
  · rw [if_neg (by simp; omega)]
    have e1 : IntKind.u64.wrap (IntKind.i64.wrap ((bs.length : Int) + 1)) = ((bs.length + 1 : Nat) : Int) := by
      rw [w64 (by omega) (by omega), wrap_u64]; omega
    rw [e1]
    refine X_of (run_rem 49 .u64 _ _ (by omega) _) ?_
    have e2 : ((n : Nat) : Int).tmod ((bs.length + 1 : Nat) : Int) = ((n % (bs.length + 1) : Nat) : Int) := by
      rw [Int.tmod_eq_emod_of_nonneg (by omega)]; rfl
    have hk : n % (bs.length + 1) < bs.length + 1 := Nat.mod_lt _ (by omega)
    obtain ⟨k, hkk⟩ : ∃ k, k = n % (bs.length + 1) := ⟨_, rfl⟩
    rw [e2, ← hkk]
    rw [← hkk] at hk
    have e3 : IntKind.i64.wrap ((k : Nat) : Int) = (k : Int) := w64 (by omega) (by omega)
    simp only [SS, ST, e3]
    refine ⟨Ext, Ext.frame, ?_⟩
    have hbd := (hb.ext hx1).drew
    obtain ⟨u, hu, hub, huo⟩ := cut_hi Try.underlying27 info_5 hbd (kh := .i64) k rfl (by omega)
    obtain ⟨u2, hu2, hub2, huo2⟩ := cut_lo Try.underlying27 info_5 sz_5 hbd (kl := .i64) k rfl (by omega)
    simp only [if_true]
    refine XP_of hu ?_
    refine XP_of hu2 ?_
    refine Sum_spec hub ?_
    intro w2 hx2
    refine More_spec (hub2.ext hx2) ?_
    intro w3 hx3
    refine Sum_spec (hbd.ext (hx2.trans hx3)) ?_
    intro w4 hx4
    have key : more (crc (bs.take k)) (bs.drop k) = crc bs := by
      unfold crc
      rw [more_append, List.take_append_drop]
    simp only [xp_u32_eq, key, decide_true, SS, ST, if_true]
    exact ⟨trivial, hx1.trans ((Keep.drew _ w1).trans (hx2.trans (hx3.trans hx4)))⟩
theorem crcGoes_walk {H : Type} (enc : TypeId × Value → H) (W : World) (v0 v1 : Value) {base : Nat} (ok0 : Value.okWide Try.prog W .any base 27 v0) (ok1 : Value.okWide Try.prog W .any base 49 v1) (d0 : DataW H) (p0 : List MemPlace) (d1 : DataW H) (p1 : List MemPlace) (h0 : DataW.Trod enc Try.prog W 0 (fun _ => true) true 27 v0 d0 p0) (h1 : DataW.Trod enc Try.prog W 0 (fun _ => true) true 49 v1 d1 p1) (hsz : (DataW.weightsEach Try.prog [27, 49] [d0, d1]).all (· ≤ reachBytes) = true) :
    CALL Try.prog 12 #[v0, v1] W (fun v w' => v = .bool true ∧ Ext W w') := by
  obtain ⟨bs, hb⟩ := arg_bytes Try.underlying27 Try.underlying5 (by kernel_rfl) ok0 h0
  obtain ⟨n, rfl, hn⟩ := arg_u64 Try.underlying49 ok1 h1
  exact crcGoes_run hn W hb
end
set_option maxRecDepth 100000 in
theorem crcGoes_lifted (os : Os) (started : os.Started) (H : Type) (enc : TypeId × Value → H) :
    ReturnsInHanded {} Try.checked os 12 .any (Rows.crcGoesSpec.pre6 enc Try.prog Try.f12 Rows.crcGoesRow.domain false) (Rows.crcGoesSpec.post enc Try.prog Try.f12 false true false false) := by
  refine returnsInHanded_of_change_sized (C := Try.checked) (by kernel_rfl) started (by kernel_rfl) Try.func12
    (ChangeSpec.witness6 (enc := enc) (C := Try.checked) false ⟨#[], #[(.slice none 0 0), (.int .u64 0)], []⟩ 8 (by kernel_rfl) (by kernel_rfl) (by kernel_rfl) (by kernel_rfl)) ?_
  intro W base args ds gs before hval0 hW hcnd hsz0 _
  have hval : ∀ (j : Nat) t v, Try.f12.params[j]? = some t → args[j]? = some v → Value.okWide Try.prog W .any base t v := hval0
  have hW' := hW
  obtain ⟨p, q, hA0, hV, rfl, hfz, hnd⟩ := hW
  have hA : DataW.TrodAll enc Try.prog W 0 (fun _ => true) true Try.f12.params.toList args.toList ds p := hA0
  rw [Try.params12] at hA hval
  obtain ⟨v0, vs0, d0, ds0, p0, q0, hargs, rfl, rfl, h0, r0⟩ := trodAll_cons hA
  obtain ⟨v1, vs1, d1, ds1, p1, q1, rfl, rfl, rfl, h1, r1⟩ := trodAll_cons r0
  obtain ⟨rfl, rfl, rfl⟩ := trodAll_nil r1
  obtain rfl : args = #[v0, v1] := by cases args; simp_all
  obtain ⟨rfl, rfl⟩ := trodVars_none hV
  have hsz : (DataW.weightsEach Try.prog [27, 49] [d0, d1]).all (· ≤ reachBytes) = true := hsz0
  have hw := crcGoes_walk enc W v0 v1 (hval 0 27 v0 rfl rfl) (hval 1 49 v1 rfl rfl) d0 p0 d1 p1 h0 h1 hsz
  refine (CALL_calls hw).mono fun e W' he => ?_
  cases e with
  | returned v =>
    obtain ⟨rfl, hx⟩ := he
    exact ⟨_, rfl, law_post (P := Try.prog) laidOut (by kernel_rfl) rfl rfl rfl Try.underlying4 hW' hx⟩
  | panicked c => exact he.elim
  | outgrown => exact he.elim

theorem crcGoes_closed : joinedFacts Try.prog 12 Try.f12 Rows.crcGoesSpec Rows.crcGoesRow = true := by
  unfold joinedFacts
  rw [mayEnter_is, liftsFinal_is, make_is]
  kernel_rfl
/-- For every input that the row lets in, cellarage/cellaragelaw02.CrcGoes returns true, and what was there stays as it was. -/
theorem crcGoes_holds : Rows.CrcGoesSaid :=
  OpenClaim.holds_of_wide 12 Try.f12 rfl rfl rfl rfl rfl rfl rfl ⟨rfl, rfl, rfl, rfl, rfl⟩ rfl rfl rfl rfl rfl (by kernel_rfl) Try.func12 crcGoes_closed
    (of_decide_eq_true (by kernel_rfl)) (by unfold Func.isWrapper; first | (rw [if_pos (by decide +kernel)]; kernel_rfl) | (rw [if_neg (by decide +kernel)]; exact ⟨rfl, rfl⟩))
    (fun os started H enc _ => crcGoes_lifted os started H enc)
#print axioms crcGoes_holds
end Go.Proofs.Ytggggfcgnkllgaa
