/- cellaragelaw10.SlotCommits: for every slot, a torn write leaves the new one or the one that stood. -/
import Derived.Test.YtggggfcgnkllgaaTorn
import Derived.Test.YtggggfcgnkllgaaFacts
import Derived.Test.YtggggfcgnkllgaaArgs
set_option linter.unusedVariables false
set_option linter.unusedSimpArgs false
set_option linter.constructorNameAsVariable false
namespace Go.Proofs.Ytggggfcgnkllgaa
open Go Go.Sh Go.RowKit Go.ChangeShapes Go.WideShapes Go.ChangeAt
open Go.Proofs.Ytggggfcgnkllgaa
section
attribute [local irreducible] X XU XP XR CALL loopS resC closS Value.okWide
theorem run_empty27 (w : World) : (Instr.buildSlice 27 0 #[]).run Try.prog w = .ok (.slice (some ⟨w.heap.size, 0, none⟩) 0 0) (newB w #[] 5) := by kernel_rfl
theorem own_empty (w : World) : (newB w #[] 5).ownsRow w.heap.size 5 1 (.slice (some ⟨w.heap.size, 0, none⟩) 0 0) 0 (B8 []) :=
  ⟨rfl, .inr ⟨w.heap.size, 0, #[], rfl, Nat.le_refl _, newB_get _ _ _, Nat.le_refl _, by simp [maxLen], rfl, rfl⟩⟩
theorem run_build_25b (a b c : Int) (w : World) : (Instr.build 25 #[(0, .int .u64 a), (1, .int .u8 b), (2, .int .u32 c)]).run Try.prog w = .ok (.agg #[.int .u64 a, .int .u8 b, .int .u32 c, .int .u32 0]) w := by kernel_rfl
theorem run_build_25c (a b c : Int) (w : World) : (Instr.build 25 #[(0, .int .u64 a), (1, .int .u8 b), (3, .int .u32 c)]).run Try.prog w = .ok (.agg #[.int .u64 a, .int .u8 b, .int .u32 0, .int .u32 c]) w := by kernel_rfl
theorem slotCommits_run {s : Sl} (hs : s.ok) {a b n : Nat} (ha : a < 256) (hb : b < 256) (hn : n < 256) (W : World) :
    CALL Try.prog 9 #[s.v, .agg #[.int .u8 (a : Int), .int .u8 (b : Int)], .int .u8 (n : Int)] W (fun v w' => v = .bool true ∧ Ext W w') := by
  obtain ⟨hsg, hsa, hsz', hsm⟩ := id hs
  apply call_law10_SlotCommits
  unfold B_law10_SlotCommits
  refine X_box ?_
  have hbx : (newB W s.v.cells 25).heap[W.heap.size]? = some (.cells s.cs.toArray 25 (0, 0)) := newB_get _ _ _
  have hx1 := newB_ext W s.v.cells 25
  generalize newB W s.v.cells 25 = w1 at hbx hx1 ⊢
  refine X_box ?_
  have hby : (newB w1 #[.int .u8 (a : Int), .int .u8 (b : Int)] 41).heap[w1.heap.size]? = some (.cells [.int .u8 (a : Int), .int .u8 (b : Int)].toArray 41 (0, 0)) := newB_get _ _ _
  have hx2 := newB_ext w1 #[.int .u8 (a : Int), .int .u8 (b : Int)] 41
  show CALL _ _ _ (newB w1 #[.int .u8 (a : Int), .int .u8 (b : Int)] 41) _
  generalize newB w1 #[.int .u8 (a : Int), .int .u8 (b : Int)] 41 = w2 at hby hx2 ⊢
  refine shown10 ?_
  intro w3 hx3
  have hbx3 := Ext.get (hx2.trans hx3) hbx
  have hby3 := Ext.get hx3 hby
  have hx03 : Ext W w3 := hx1.trans (hx2.trans hx3)
  simp only [SS, ST]
  refine X_loadL agg_22 hbx3 rfl ?_
  simp only [SS, ST]
  by_cases hg : s.gen < 3
  · have e3 : decide ((s.gen : Int) < 3) = true := by simp; omega
    rw [if_pos e3]
    exact ⟨trivial, hx03⟩
  have e3 : decide ((s.gen : Int) < 3) = false := by simp; omega
  rw [if_neg (by rw [e3]; decide)]
  refine X_loadL agg_22 hbx3 rfl ?_
  simp only [SS, ST]
  have eg2 : IntKind.u64.wrap ((s.gen : Int) - 2) = ((s.gen - 2 : Nat) : Int) := by rw [wrap_u64]; omega
  have eg1 : IntKind.u64.wrap ((s.gen : Int) - 1) = ((s.gen - 1 : Nat) : Int) := by rw [wrap_u64]; omega
  refine X_of (ix_arr Try.underlying41 info_5 0 rfl (by decide) _) ?_
  have ea0 : (⟨w1.heap.size, 0, none⟩ : Addr).add (0 * szT Try.prog 5) = ⟨w1.heap.size, 0, none⟩ := by rw [sz_5, add_plain]
  have ea1 : (⟨w1.heap.size, 0, none⟩ : Addr).add (1 * szT Try.prog 5) = ⟨w1.heap.size, 1, none⟩ := by rw [sz_5, add_plain]
  rw [ea0]
  refine X_loadL agg_5 hby3 rfl ?_
  refine X_loadL agg_23 hbx3 rfl ?_
  rw [eg2]
  refine X_of (run_build_25b _ _ _ _) ?_
  obtain ⟨t1, ht1⟩ : ∃ t : Sl, t = ⟨s.gen - 2, a, s.sum, 0⟩ := ⟨_, rfl⟩
  have hok1 : t1.ok := by rw [ht1]; exact ⟨by show s.gen - 2 < _; omega, ha, hsm, by show (0 : Nat) < 4294967296; decide⟩
  have hcs1 : (Value.agg #[.int .u64 ((s.gen - 2 : Nat) : Int), .int .u8 (a : Int), .int .u32 (s.sum : Int), .int .u32 0]) = .agg t1.cs.toArray := by rw [ht1]; rfl
  rw [hcs1]
  refine X_slotVar ?_
  intro w4 hx4 hb4
  have hbx4 := Ext.get hx4 hbx3
  have hby4 := Ext.get hx4 hby3
  refine X_loadL agg_22 hbx4 rfl ?_
  simp only [SS, ST]
  refine X_of (ix_arr Try.underlying41 info_5 1 rfl (by decide) _) ?_
  rw [ea1]
  refine X_loadL agg_5 hby4 rfl ?_
  refine X_loadL agg_23 hbx4 rfl ?_
  rw [eg1]
  refine X_of (run_build_25c _ _ _ _) ?_
  obtain ⟨t2, ht2⟩ : ∃ t : Sl, t = ⟨s.gen - 1, b, 0, s.size⟩ := ⟨_, rfl⟩
  have hok2 : t2.ok := by rw [ht2]; exact ⟨by show s.gen - 1 < _; omega, hb, by show (0 : Nat) < 4294967296; decide, hsz'⟩
  have hcs2 : (Value.agg #[.int .u64 ((s.gen - 1 : Nat) : Int), .int .u8 (b : Int), .int .u32 0, .int .u32 (s.size : Int)]) = .agg t2.cs.toArray := by rw [ht2]; rfl
  rw [hcs2]
  refine X_slotVar ?_
  intro w5 hx5 hb5
  have hbx5 := Ext.get hx5 hbx4
  have hb45 := Ext.get hx5 hb4
  have hx05 : Ext W w5 := hx03.trans (hx4.trans hx5)
  have hg1 : t1.gen = s.gen - 2 := by rw [ht1]
  have hg2 : t2.gen = s.gen - 1 := by rw [ht2]
  refine ⟨Ext, Ext.frame, ?_⟩
  refine XR_loadAgg Try.underlying25 agg_25 info_25 (w := drewW w5) hbx5 (by rw [sz_25]; rfl) ?_
  refine XR_loadAgg Try.underlying25 agg_25 info_25 (w := drewW w5) hb45 (by rw [sz_25]; rfl) ?_
  refine Lay_spec hs ?_
  intro va w6 hx6 hva
  refine ⟨hx6, ?_⟩
  refine Lay_spec hok1 ?_
  intro vb w7 hx7 hvb
  refine ⟨hx7, ?_⟩
  have hx57 : Ext w5 w7 := (Keep.drew _ w5).trans (hx6.trans hx7)
  have hva7 := hva.ext hx7
  obtain ⟨aa, ac, ea⟩ := Bts.slice hva7
  obtain ⟨ba, bc, eb⟩ := Bts.slice hvb
  rw [layB_len] at ea eb
  subst ea; subst eb
  have e128 : decide (((128 : Nat) : Int) ≠ 128) = false := by decide
  simp only [SS, ST, e128, if_true, Bool.false_eq_true, if_false]
  obtain ⟨k, hk⟩ : ∃ k, k = n % 129 := ⟨_, rfl⟩
  have hk128 : k ≤ 128 := by omega
  have en : IntKind.i64.wrap ((n : Nat) : Int) = (n : Int) := w64 (by omega) (by omega)
  rw [en]
  refine X_of (run_rem 3 .i64 _ 129 (by decide) _) ?_
  have er : ((n : Nat) : Int).tmod 129 = ((k : Nat) : Int) := by
    rw [Int.tmod_eq_emod_of_nonneg (by omega)]
    omega
  rw [er]
  refine ⟨Ext, Ext.frame, ?_⟩
  obtain ⟨u1, hu1, hub1, _⟩ := cut_hi Try.underlying27 info_5 hva7.drew (kh := .i64) k rfl (by rw [layB_len]; exact hk128)
  obtain ⟨u2, hu2, hub2, _⟩ := cut_lo Try.underlying27 info_5 sz_5 hvb.drew (kl := .i64) k rfl (by rw [layB_len]; exact hk128)
  refine XP_of hu1 ?_
  refine XP_of hu2 ?_
  refine X_of (run_empty27 _) ?_
  have hx8 := newB_ext (drewW w7) #[] 5
  have ho8 := own_empty (drewW w7)
  have hs8 := newB_size (drewW w7) #[] 5
  generalize newB (drewW w7) #[] 5 = w8 at hx8 ho8 hs8 ⊢
  have hdw : (drewW w7).heap.size = w7.heap.size := rfl
  rw [hdw] at ho8 hs8 ⊢
  refine X_append_bts Try.underlying27 el_5 ho8 (hub1.ext hx8) (by simp [layB_len]; omega) (by omega) ?_
  intro v9 w9 ho9 hk9
  have hx9 : Ext (drewW w7) w9 := Ext.seq hx8 hk9 (fun i hi => (ho8.lt i hi.symm).1)
  refine X_append_bts Try.underlying27 el_5 ho9 (hub2.ext hx9) (by simp [layB_len]; omega) (by have := hx9.size; omega) ?_
  intro v10 w10 ho10 hk10
  have hx10 : Ext (drewW w7) w10 := Ext.seq hx9 hk10 (fun i hi => (ho9.lt i hi.symm).1)
  have hv10 := (own_bts ho10).1
  rw [List.nil_append] at hv10
  have hx510 : Ext w5 w10 := hx57.trans ((Keep.drew _ w7).trans hx10)
  have hb510 := Ext.get hx510 hb5
  refine X_loadAgg Try.underlying25 agg_25 info_25 hb510 (by rw [sz_25]; rfl) ?_
  refine Lay_spec hok2 ?_
  intro v11 w11 hx11 hv11
  obtain ⟨got, i, hn1, hn2, hout⟩ := commits hs hok1 hok2 (by omega) (by omega) (by omega) hk128
  refine Newer_spec (hv10.ext hx11) hv11 ?_
  intro w12 hx12
  rw [hn1]
  simp only [SS, ST]
  refine X_slotVar ?_
  intro w13 hx13 hb13
  have hx1013 : Ext w10 w13 := hx11.trans (hx12.trans hx13)
  refine X_loadAgg Try.underlying25 agg_25 info_25 (Ext.get hx1013 hb510) (by rw [sz_25]; rfl) ?_
  refine Lay_spec hok2 ?_
  intro v14 w14 hx14 hv14
  refine Newer_spec hv14 (hv10.ext (hx1013.trans hx14)) ?_
  intro w15 hx15
  rw [hn2]
  simp only [SS, ST]
  refine X_slotVar ?_
  intro w16 hx16 hb16
  have hx1316 : Ext w13 w16 := hx14.trans (hx15.trans hx16)
  have hx516 : Ext w5 w16 := hx510.trans (hx1013.trans hx1316)
  have hx016 : Ext W w16 := hx05.trans hx516
  have d0 : decide ((0 : Int) ≠ 0) = false := by decide
  have es : decide (IntKind.i64.wrap (i + (1 - i)) ≠ 1) = false := by
    have : i + (1 - i) = 1 := by omega
    rw [this]
    decide
  simp only [d0, SS, ST, if_true, Bool.false_eq_true, if_false]
  have hb1316 := Ext.get hx1316 hb13
  refine X_loadAgg Try.underlying25 agg_25 info_25 hb1316 (by rw [sz_25]; rfl) ?_
  refine X_loadAgg Try.underlying25 agg_25 info_25 hb16 (by rw [sz_25]; rfl) ?_
  simp only [X_slot_neq, SS, ST, decide_true, Bool.not_true, if_true, Bool.false_eq_true, if_false, es]
  refine X_loadAgg Try.underlying25 agg_25 info_25 hb1316 (by rw [sz_25]; rfl) ?_
  refine X_loadAgg Try.underlying25 agg_25 info_25 (Ext.get hx516 hb5) (by rw [sz_25]; rfl) ?_
  simp only [X_slot_eql, SS, ST]
  rcases hout with ⟨rfl, rfl, hk'⟩ | ⟨rfl, rfl⟩
  · have ek : decide (((k : Nat) : Int) < 128) = true := by simp; omega
    have e1 : decide ((1 : Int) = 1) = true := by decide
    simp only [ek, e1, decide_true, SS, ST, if_true, Bool.true_eq_false, if_false]
    exact ⟨trivial, hx016⟩
  · have ene : decide (got = t2) = false := by
      simp only [decide_eq_false_iff_not]
      intro e
      have : got.gen = t2.gen := by rw [e]
      omega
    simp only [ene, SS, ST, if_true, Bool.false_eq_true, if_false]
    refine X_loadAgg Try.underlying25 agg_25 info_25 hb1316 (by rw [sz_25]; rfl) ?_
    refine X_loadAgg Try.underlying25 agg_25 info_25 (Ext.get hx516 hbx5) (by rw [sz_25]; rfl) ?_
    have e1 : decide ((0 : Int) = 0) = true := by decide
    simp only [X_slot_eql, decide_true, e1, SS, ST, if_true, Bool.true_eq_false, if_false]
    exact ⟨trivial, hx016⟩
theorem slotCommits_walk {H : Type} (enc : TypeId × Value → H) (W : World) (v0 v1 v2 : Value) {base : Nat} (ok0 : Value.okWide Try.prog W .any base 25 v0) (ok1 : Value.okWide Try.prog W .any base 41 v1) (ok2 : Value.okWide Try.prog W .any base 5 v2) (d0 : DataW H) (p0 : List MemPlace) (d1 : DataW H) (p1 : List MemPlace) (d2 : DataW H) (p2 : List MemPlace) (h0 : DataW.Trod enc Try.prog W 0 (fun _ => true) true 25 v0 d0 p0) (h1 : DataW.Trod enc Try.prog W 0 (fun _ => true) true 41 v1 d1 p1) (h2 : DataW.Trod enc Try.prog W 0 (fun _ => true) true 5 v2 d2 p2) (hsz : (DataW.weightsEach Try.prog [25, 41, 5] [d0, d1, d2]).all (· ≤ reachBytes) = true) :
    CALL Try.prog 9 #[v0, v1, v2] W (fun v w' => v = .bool true ∧ Ext W w') := by
  obtain ⟨s, rfl, hs⟩ := arg_sl ok0 h0
  obtain ⟨a, b, rfl, ha, hb⟩ := arg_two Try.underlying41 (by kernel_rfl) Try.underlying5 (by kernel_rfl) ok1 h1
  obtain ⟨n, rfl, hn⟩ := arg_u8 Try.underlying5 ok2 h2
  exact slotCommits_run hs ha hb hn W
end
set_option maxRecDepth 100000 in
theorem slotCommits_lifted (os : Os) (started : os.Started) (H : Type) (enc : TypeId × Value → H) :
    ReturnsInHanded {} Try.checked os 9 .any (Rows.slotCommitsSpec.pre6 enc Try.prog Try.f9 Rows.slotCommitsRow.domain false) (Rows.slotCommitsSpec.post enc Try.prog Try.f9 false true false false) := by
  refine returnsInHanded_of_change_sized (C := Try.checked) (by kernel_rfl) started (by kernel_rfl) Try.func9
    (ChangeSpec.witness6 (enc := enc) (C := Try.checked) false ⟨#[], #[(.agg #[(.int .u64 0), (.int .u8 0), (.int .u32 0), (.int .u32 0)]), (.agg #[(.int .u8 0), (.int .u8 0)]), (.int .u8 0)], []⟩ 8 (by kernel_rfl) (by kernel_rfl) (by kernel_rfl) (by kernel_rfl)) ?_
  intro W base args ds gs before hval0 hW hcnd hsz0 _
  have hval : ∀ (j : Nat) t v, Try.f9.params[j]? = some t → args[j]? = some v → Value.okWide Try.prog W .any base t v := hval0
  have hW' := hW
  obtain ⟨p, q, hA0, hV, rfl, hfz, hnd⟩ := hW
  have hA : DataW.TrodAll enc Try.prog W 0 (fun _ => true) true Try.f9.params.toList args.toList ds p := hA0
  rw [Try.params9] at hA hval
  obtain ⟨v0, vs0, d0, ds0, p0, q0, hargs, rfl, rfl, h0, r0⟩ := trodAll_cons hA
  obtain ⟨v1, vs1, d1, ds1, p1, q1, rfl, rfl, rfl, h1, r1⟩ := trodAll_cons r0
  obtain ⟨v2, vs2, d2, ds2, p2, q2, rfl, rfl, rfl, h2, r2⟩ := trodAll_cons r1
  obtain ⟨rfl, rfl, rfl⟩ := trodAll_nil r2
  obtain rfl : args = #[v0, v1, v2] := by cases args; simp_all
  obtain ⟨rfl, rfl⟩ := trodVars_none hV
  have hsz : (DataW.weightsEach Try.prog [25, 41, 5] [d0, d1, d2]).all (· ≤ reachBytes) = true := hsz0
  have hw := slotCommits_walk enc W v0 v1 v2 (hval 0 25 v0 rfl rfl) (hval 1 41 v1 rfl rfl) (hval 2 5 v2 rfl rfl) d0 p0 d1 p1 d2 p2 h0 h1 h2 hsz
  refine (CALL_calls hw).mono fun e W' he => ?_
  cases e with
  | returned v =>
    obtain ⟨rfl, hx⟩ := he
    exact ⟨_, rfl, law_post (P := Try.prog) laidOut (by kernel_rfl) rfl rfl rfl Try.underlying4 hW' hx⟩
  | panicked c => exact he.elim
  | outgrown => exact he.elim

theorem slotCommits_closed : joinedFacts Try.prog 9 Try.f9 Rows.slotCommitsSpec Rows.slotCommitsRow = true := by
  unfold joinedFacts
  rw [mayEnter_is, liftsFinal_is, make_is]
  kernel_rfl
/-- For every input that the row lets in, cellarage/cellaragelaw10.SlotCommits returns true, and what was there stays as it was. -/
theorem slotCommits_holds : Rows.SlotCommitsSaid :=
  OpenClaim.holds_of_wide 9 Try.f9 rfl rfl rfl rfl rfl rfl rfl ⟨rfl, rfl, rfl, rfl, rfl⟩ rfl rfl rfl rfl rfl (by kernel_rfl) Try.func9 slotCommits_closed
    (of_decide_eq_true (by kernel_rfl)) (by unfold Func.isWrapper; first | (rw [if_pos (by decide +kernel)]; kernel_rfl) | (rw [if_neg (by decide +kernel)]; exact ⟨rfl, rfl⟩))
    (fun os started H enc _ => slotCommits_lifted os started H enc)
#print axioms slotCommits_holds
end Go.Proofs.Ytggggfcgnkllgaa
