/- cellaragelaw16.ExtentTwice: a slice of a slice is a slice. -/
import Derived.Test.YtlnkdphecinnnaaQEB6
set_option linter.unusedVariables false
set_option linter.unusedSimpArgs false
set_option linter.constructorNameAsVariable false
namespace Go.Proofs.Ytlnkdphecinnnaa
open Go Go.Sh Go.RowKit Go.ChangeShapes Go.WideShapes Go.ChangeAt
open Go.Proofs.Ytlnkdphecinnnaa
section
attribute [local irreducible] X XU XP XR CALL loopS resC closS Value.okWide
theorem arg_four {P : Program} {H : Type} {enc : TypeId × Value → H} {W : World} {base : Nat} {v : Value} {d : DataW H} {p : List MemPlace} {t e : TypeId} (ht : P.underlying t = some (.array 4 e)) (hc : P.cellsOf t = 4) (he : P.underlying e = some (.int .u16)) (hce : P.cellsOf e = 1)
    (ok : Value.okWide P W .any base t v) (h : DataW.Trod enc P W 0 (fun _ => true) true t v d p) : ∃ a b c d : Nat, v = .agg #[.int .u16 (a : Int), .int .u16 (b : Int), .int .u16 (c : Int), .int .u16 (d : Int)] ∧ a < 65536 ∧ b < 65536 ∧ c < 65536 ∧ d < 65536 := by
  have hs : ∃ cs, v = .agg cs ∧ cs.size = P.cellsOf t := by
    simp only [Value.okWide, ht] at ok
    obtain ⟨cs, h1, h2, _⟩ := ok
    exact ⟨cs, h1, h2⟩
  obtain ⟨cs, rfl, hcs⟩ := hs
  rw [hc] at hcs
  obtain ⟨hl, hf⟩ := (TrC.of h).array ht
  match cs, hcs with
  | ⟨[x0, x1, x2, x3]⟩, _ =>
    have g0 := hf 0 (by decide)
    have g1 := hf 1 (by decide)
    have g2 := hf 2 (by decide)
    have g3 := hf 3 (by decide)
    rw [hce] at g0 g1 g2 g3
    obtain ⟨n0, e0, w0⟩ := TrC.int he g0
    obtain ⟨n1, e1, w1⟩ := TrC.int he g1
    obtain ⟨n2, e2, w2⟩ := TrC.int he g2
    obtain ⟨n3, e3, w3⟩ := TrC.int he g3
    simp [Lit.wf, IntKind.min, IntKind.max, IntKind.signed, IntKind.bits] at w0 w1 w2 w3
    refine ⟨n0.toNat, n1.toNat, n2.toNat, n3.toNat, ?_, by omega, by omega, by omega, by omega⟩
    have q0 : x0 = .int .u16 n0 := by simpa [Value.cells] using e0
    have q1 : x1 = .int .u16 n1 := by simpa [Value.cells] using e1
    have q2 : x2 = .int .u16 n2 := by simpa [Value.cells] using e2
    have q3 : x3 = .int .u16 n3 := by simpa [Value.cells] using e3
    rw [q0, q1, q2, q3, Int.toNat_of_nonneg w0.1, Int.toNat_of_nonneg w1.1, Int.toNat_of_nonneg w2.1, Int.toNat_of_nonneg w3.1]
set_option maxHeartbeats 1000000 in
theorem extentTwice_run {v : Value} {l : List Ex} {a b c d : Nat} (ha : a < 65536) (hb : b < 65536) (hc : c < 65536) (hd : d < 65536) (W : World) (hl : RowK 35 Ex.cs W v l) :
    CALL Try.prog 11 #[v, .agg #[.int .u16 (a : Int), .int .u16 (b : Int), .int .u16 (c : Int), .int .u16 (d : Int)]] W (fun v w' => v = .bool true ∧ Ext W w') := by
  apply call_law16_ExtentTwice
  unfold B_law16_ExtentTwice
  refine X_box ?_
  have hx0 := newB_ext W #[.int .u16 (a : Int), .int .u16 (b : Int), .int .u16 (c : Int), .int .u16 (d : Int)] 74
  have hg0 := newB_get W #[.int .u16 (a : Int), .int .u16 (b : Int), .int .u16 (c : Int), .int .u16 (d : Int)] 74
  show CALL _ _ _ (newB W #[.int .u16 (a : Int), .int .u16 (b : Int), .int .u16 (c : Int), .int .u16 (d : Int)] 74) _
  generalize newB W #[.int .u16 (a : Int), .int .u16 (b : Int), .int .u16 (c : Int), .int .u16 (d : Int)] 74 = w0 at hx0 hg0 ⊢
  refine shown16 ?_
  intro w1 hx1
  refine Few_spec (hl.ext (hx0.trans hx1)) ?_
  intro u hu
  unfold B_law16_ExtentTwice_c1
  have kd := Keep.drew (fun _ => False) w1
  have hg1 : (drewW w1).heap[W.heap.size]? = some (.cells #[.int .u16 (a : Int), .int .u16 (b : Int), .int .u16 (c : Int), .int .u16 (d : Int)] 74 (0, 0)) := hx1.get hg0
  have hxd := (hx0.trans hx1).trans kd
  have hud := hu.ext kd
  refine ⟨Ext, Ext.frame, ?_⟩
  generalize drewW w1 = wd at kd hg1 hxd hud ⊢
  have hix : ∀ i : Nat, i < 4 → ∀ w', (Instr.indexAt 74 (.pointer (some ⟨W.heap.size, 0, none⟩)) (.int .i64 (i : Int))).run Try.prog w' = .ok (.pointer (some ⟨W.heap.size, i, none⟩)) w' := by
    intro i hi w'
    have := ix_arr Try.underlying74 info_68 (a := ⟨W.heap.size, 0, none⟩) (k := .i64) (ii := (i : Int)) i rfl hi w'
    rw [sz_68, add_plain, Nat.zero_add, Nat.mul_one] at this
    exact this
  refine XP_of (hix 0 (by decide)) ?_
  refine XR_ok Ext.frame (fun w' kk => run_loadAt (v := .int .u16 (a : Int)) agg_68 ((cell_blk (kk.get hg1)).trans rfl)) ?_
  rw [XR_conv_68_3]
  refine XP_of (hix 1 (by decide)) ?_
  refine XR_ok Ext.frame (fun w' kk => run_loadAt (v := .int .u16 (b : Int)) agg_68 ((cell_blk (kk.get hg1)).trans rfl)) ?_
  rw [XR_conv_68_3]
  refine XP_of (hix 2 (by decide)) ?_
  refine XR_ok Ext.frame (fun w' kk => run_loadAt (v := .int .u16 (c : Int)) agg_68 ((cell_blk (kk.get hg1)).trans rfl)) ?_
  rw [XR_conv_68_3]
  refine XP_of (hix 3 (by decide)) ?_
  refine XR_ok Ext.frame (fun w' kk => run_loadAt (v := .int .u16 (d : Int)) agg_68 ((cell_blk (kk.get hg1)).trans rfl)) ?_
  rw [XR_conv_68_3, w64 (x := (a : Int)) (by omega) (by omega), w64 (x := (b : Int)) (by omega) (by omega), w64 (x := (c : Int)) (by omega) (by omega), w64 (x := (d : Int)) (by omega) (by omega)]
  refine Slice_spec hud (by omega) (by omega) (by omega) (by omega) ?_
  intro u2 w2 hx2 ho2
  have hr2 := OwnK.rowK (by decide) Ex.csLen ho2
  refine Slice_spec hr2 (by omega) (by omega) (by omega) (by omega) ?_
  intro u3 w3 hx3 ho3
  have hr3 := OwnK.rowK (by decide) Ex.csLen ho3
  (repeat (first | with_reducible (first | refine Eq.mpr (B_law16_ExtentTwice_c1.eq_1 ..) ?_) | simp only [XP_extract0, XP_extract1, XP_extract2, XP_extract3, X_extract0, X_extract1, X_extract2, X_extract3, X_nilS, X_eql_nil_24, X_neq_nil_24, X_eql_nil_103, X_neq_nil_103, X_eql, X_neq, X_lss, X_leq, X_gtr, X_geq, X_not, X_min, X_max, X_len_79, X_len_35, XP_nilS, XP_eql, XP_neq, XP_lss, XP_leq, XP_gtr, XP_geq, XP_not, XP_min, XP_max, XP_len_79, XP_eql_nil_24, X_str_eql, X_str_neq, XP_str_eql, XP_str_neq, GS, gs_u, decide_true, decide_false, Option.isNone_some, Option.isSome_some, Option.isNone_none, Option.isSome_none, eq_self, Bool.not_true, Bool.not_false, Int.reduceEq, Int.reduceNe, Int.reduceLT, Int.reduceLE, Int.reduceGT, Int.reduceGE, X_add, X_sub]))
  rw [w64 (x := (a : Int) + (c : Int)) (by omega) (by omega), w64 (x := (b : Int) - (c : Int)) (by omega) (by omega)]
  refine Slice_spec ((hud.ext hx2).ext hx3) (by omega) (by omega) (by omega) (by omega) ?_
  intro u4 w4 hx4 ho4
  (repeat (first | with_reducible (first | refine Eq.mpr (B_law16_ExtentTwice_c1.eq_1 ..) ?_) | simp only [XP_extract0, XP_extract1, XP_extract2, XP_extract3, X_extract0, X_extract1, X_extract2, X_extract3, X_nilS, X_eql_nil_24, X_neq_nil_24, X_eql_nil_103, X_neq_nil_103, X_eql, X_neq, X_lss, X_leq, X_gtr, X_geq, X_not, X_min, X_max, X_len_79, X_len_35, XP_nilS, XP_eql, XP_neq, XP_lss, XP_leq, XP_gtr, XP_geq, XP_not, XP_min, XP_max, XP_len_79, XP_eql_nil_24, X_str_eql, X_str_neq, XP_str_eql, XP_str_neq, GS, gs_u, decide_true, decide_false, Option.isNone_some, Option.isSome_some, Option.isNone_none, Option.isSome_none, eq_self, Bool.not_true, Bool.not_false, Int.reduceEq, Int.reduceNe, Int.reduceLT, Int.reduceLE, Int.reduceGT, Int.reduceGE]))
  rw [← slice_slice (by omega) (by omega)] at ho4
  refine SameE_spec (hr3.ext hx4) (OwnK.rowK (by decide) Ex.csLen ho4) ?_ ?_
  · have h1 := sliceE_len (sliceE (l.take 500) (a : Int) (b : Int)) (c : Int) (d : Int)
    have h2 := slice_few l (a : Int) (b : Int)
    omega
  intro w5 hx5
  have hx25 := (hx3.trans hx4).trans hx5
  (repeat (first | with_reducible (first | refine Eq.mpr (B_law16_ExtentTwice_c1.eq_1 ..) ?_) | simp only [XP_extract0, XP_extract1, XP_extract2, XP_extract3, X_extract0, X_extract1, X_extract2, X_extract3, X_nilS, X_eql_nil_24, X_neq_nil_24, X_eql_nil_103, X_neq_nil_103, X_eql, X_neq, X_lss, X_leq, X_gtr, X_geq, X_not, X_min, X_max, X_len_79, X_len_35, XP_nilS, XP_eql, XP_neq, XP_lss, XP_leq, XP_gtr, XP_geq, XP_not, XP_min, XP_max, XP_len_79, XP_eql_nil_24, X_str_eql, X_str_neq, XP_str_eql, XP_str_neq, GS, gs_u, decide_true, decide_false, Option.isNone_some, Option.isSome_some, Option.isNone_none, Option.isSome_none, eq_self, Bool.not_true, Bool.not_false, Int.reduceEq, Int.reduceNe, Int.reduceLT, Int.reduceLE, Int.reduceGT, Int.reduceGE]))
  refine Total_spec (hr2.ext hx25) ?_
  intro w6 hx6
  (repeat (first | with_reducible (first | refine Eq.mpr (B_law16_ExtentTwice_c1.eq_1 ..) ?_) | simp only [XP_extract0, XP_extract1, XP_extract2, XP_extract3, X_extract0, X_extract1, X_extract2, X_extract3, X_nilS, X_eql_nil_24, X_neq_nil_24, X_eql_nil_103, X_neq_nil_103, X_eql, X_neq, X_lss, X_leq, X_gtr, X_geq, X_not, X_min, X_max, X_len_79, X_len_35, XP_nilS, XP_eql, XP_neq, XP_lss, XP_leq, XP_gtr, XP_geq, XP_not, XP_min, XP_max, XP_len_79, XP_eql_nil_24, X_str_eql, X_str_neq, XP_str_eql, XP_str_neq, GS, gs_u, decide_true, decide_false, Option.isNone_some, Option.isSome_some, Option.isNone_none, Option.isSome_none, eq_self, Bool.not_true, Bool.not_false, Int.reduceEq, Int.reduceNe, Int.reduceLT, Int.reduceLE, Int.reduceGT, Int.reduceGE]))
  refine Total_spec ((hud.ext (hx2.trans hx25)).ext hx6) ?_
  intro w7 hx7
  have htb : 0 ≤ totalE (l.take 500) ∧ totalE (l.take 500) ≤ 2048000 := by
    unfold totalE
    split
    · rename_i h
      have := totE_bound h.2 (l.take 500).length
      rw [List.take_length] at this
      have h5 := few_len l
      omega
    · omega
  (repeat (first | with_reducible (first | refine Eq.mpr (B_law16_ExtentTwice_c1.eq_1 ..) ?_) | simp only [XP_extract0, XP_extract1, XP_extract2, XP_extract3, X_extract0, X_extract1, X_extract2, X_extract3, X_nilS, X_eql_nil_24, X_neq_nil_24, X_eql_nil_103, X_neq_nil_103, X_eql, X_neq, X_lss, X_leq, X_gtr, X_geq, X_not, X_min, X_max, X_len_79, X_len_35, XP_nilS, XP_eql, XP_neq, XP_lss, XP_leq, XP_gtr, XP_geq, XP_not, XP_min, XP_max, XP_len_79, XP_eql_nil_24, X_str_eql, X_str_neq, XP_str_eql, XP_str_neq, GS, gs_u, decide_true, decide_false, Option.isNone_some, Option.isSome_some, Option.isNone_none, Option.isSome_none, eq_self, Bool.not_true, Bool.not_false, Int.reduceEq, Int.reduceNe, Int.reduceLT, Int.reduceLE, Int.reduceGT, Int.reduceGE, X_sub]))
  rw [w64 (x := totalE (l.take 500) - (a : Int)) (by omega) (by omega), slice_total (by omega) (by omega)]
  (repeat (first | with_reducible (first | refine Eq.mpr (B_law16_ExtentTwice_c1.eq_1 ..) ?_) | simp only [XP_extract0, XP_extract1, XP_extract2, XP_extract3, X_extract0, X_extract1, X_extract2, X_extract3, X_nilS, X_eql_nil_24, X_neq_nil_24, X_eql_nil_103, X_neq_nil_103, X_eql, X_neq, X_lss, X_leq, X_gtr, X_geq, X_not, X_min, X_max, X_len_79, X_len_35, XP_nilS, XP_eql, XP_neq, XP_lss, XP_leq, XP_gtr, XP_geq, XP_not, XP_min, XP_max, XP_len_79, XP_eql_nil_24, X_str_eql, X_str_neq, XP_str_eql, XP_str_neq, GS, gs_u, decide_true, decide_false, Option.isNone_some, Option.isSome_some, Option.isNone_none, Option.isSome_none, eq_self, Bool.not_true, Bool.not_false, Int.reduceEq, Int.reduceNe, Int.reduceLT, Int.reduceLE, Int.reduceGT, Int.reduceGE]))
  exact ⟨trivial, (((hxd.trans hx2).trans hx25).trans hx6).trans hx7⟩
theorem extentTwice_walk {H : Type} (enc : TypeId × Value → H) (W : World) (v0 v1 : Value) {base : Nat} (ok0 : Value.okWide Try.prog W .any base 59 v0) (ok1 : Value.okWide Try.prog W .any base 74 v1) (d0 : DataW H) (p0 : List MemPlace) (d1 : DataW H) (p1 : List MemPlace) (h0 : DataW.Trod enc Try.prog W 0 (fun _ => true) true 59 v0 d0 p0) (h1 : DataW.Trod enc Try.prog W 0 (fun _ => true) true 74 v1 d1 p1) (hsz : (DataW.weightsEach Try.prog [59, 74] [d0, d1]).all (· ≤ reachBytes) = true) :
    CALL Try.prog 11 #[v0, v1] W (fun v w' => v = .bool true ∧ Ext W w') := by
  obtain ⟨l, hl⟩ := arg_exts ok0 h0
  obtain ⟨a, b, c, d, rfl, ha, hb, hc, hd⟩ := arg_four Try.underlying74 (by kernel_rfl) Try.underlying68 (by kernel_rfl) ok1 h1
  exact extentTwice_run ha hb hc hd W hl
end
set_option maxRecDepth 100000 in
theorem extentTwice_lifted (os : Os) (started : os.Started) (H : Type) (enc : TypeId × Value → H) :
    ReturnsInHanded {} Try.checked os 11 .any (Rows.extentTwiceSpec.pre6 enc Try.prog Try.f11 Rows.extentTwiceRow.domain false) (Rows.extentTwiceSpec.post enc Try.prog Try.f11 false true false false) := by
  refine returnsInHanded_of_change_sized (C := Try.checked) (by kernel_rfl) started (by kernel_rfl) Try.func11
    (ChangeSpec.witness6 (enc := enc) (C := Try.checked) false ⟨#[], #[(.slice none 0 0), (.agg #[(.int .u16 0), (.int .u16 0), (.int .u16 0), (.int .u16 0)])], []⟩ 8 (by kernel_rfl) (by kernel_rfl) (by kernel_rfl) (by kernel_rfl)) ?_
  intro W base args ds gs before hval0 hW hcnd hsz0 _
  have hval : ∀ (j : Nat) t v, Try.f11.params[j]? = some t → args[j]? = some v → Value.okWide Try.prog W .any base t v := hval0
  have hW' := hW
  obtain ⟨p, q, hA0, hV, rfl, hfz, hnd⟩ := hW
  have hA : DataW.TrodAll enc Try.prog W 0 (fun _ => true) true Try.f11.params.toList args.toList ds p := hA0
  rw [Try.params11] at hA hval
  obtain ⟨v0, vs0, d0, ds0, p0, q0, hargs, rfl, rfl, h0, r0⟩ := trodAll_cons hA
  obtain ⟨v1, vs1, d1, ds1, p1, q1, rfl, rfl, rfl, h1, r1⟩ := trodAll_cons r0
  obtain ⟨rfl, rfl, rfl⟩ := trodAll_nil r1
  obtain rfl : args = #[v0, v1] := by cases args; simp_all
  obtain ⟨rfl, rfl⟩ := trodVars_none hV
  have hsz : (DataW.weightsEach Try.prog [59, 74] [d0, d1]).all (· ≤ reachBytes) = true := hsz0
  have hw := extentTwice_walk enc W v0 v1 (hval 0 59 v0 rfl rfl) (hval 1 74 v1 rfl rfl) d0 p0 d1 p1 h0 h1 hsz
  refine (CALL_calls hw).mono fun e W' he => ?_
  cases e with
  | returned v =>
    obtain ⟨rfl, hx⟩ := he
    exact ⟨_, rfl, law_post (P := Try.prog) laidOut (by kernel_rfl) rfl rfl rfl Try.underlying4 hW' hx⟩
  | panicked c => exact he.elim
  | outgrown => exact he.elim

theorem extentTwice_closed : joinedFacts Try.prog 11 Try.f11 Rows.extentTwiceSpec Rows.extentTwiceRow = true := by
  unfold joinedFacts
  rw [mayEnter_is, liftsFinal_is, make_is]
  kernel_rfl
/-- For every input that the row lets in, cellarage/cellaragelaw16.ExtentTwice returns true, and what was there stays as it was. -/
theorem extentTwice_holds : Rows.ExtentTwiceSaid :=
  OpenClaim.holds_of_wide 11 Try.f11 rfl rfl rfl rfl rfl rfl rfl ⟨rfl, rfl, rfl, rfl, rfl⟩ rfl rfl rfl rfl rfl (by kernel_rfl) Try.func11 extentTwice_closed
    (of_decide_eq_true (by kernel_rfl)) (by unfold Func.isWrapper; first | (rw [if_pos (by decide +kernel)]; kernel_rfl) | (rw [if_neg (by decide +kernel)]; exact ⟨rfl, rfl⟩))
    (fun os started H enc _ => extentTwice_lifted os started H enc)
#print axioms extentTwice_holds
end Go.Proofs.Ytlnkdphecinnnaa
