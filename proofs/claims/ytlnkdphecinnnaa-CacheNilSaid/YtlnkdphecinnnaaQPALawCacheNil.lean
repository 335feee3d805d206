/- cellaragelaw14.CacheNil: a nil cache has nothing. -/
import Derived.Test.YtlnkdphecinnnaaQPA7
set_option linter.unusedVariables false
set_option linter.unusedSimpArgs false
set_option linter.constructorNameAsVariable false
namespace Go.Proofs.Ytlnkdphecinnnaa
open Go Go.Sh Go.RowKit Go.ChangeShapes Go.WideShapes Go.ChangeAt
open Go.Proofs.Ytlnkdphecinnnaa
section
attribute [local irreducible] X XU XP XR CALL loopS resC closS Value.okWide
theorem run_build_48k (k : Ky) (w : World) : (Instr.build 48 #[(0, k.v)]).run Try.prog w = .ok (.agg (k.cs ++ [Value.int .i64 0, Value.int .i64 0]).toArray) w := by
  refine run_build2 (a := 33) (b := 2) (z := List.replicate 32 (Value.int .u8 0) ++ [Value.int .u32 0] ++ [Value.int .i64 0, Value.int .i64 0]) Try.underlying48 zero_48 rfl rfl sz_44 sz_46 info_44 info_46 ?_ w
  have := fill_left (a := 33) (b := 2) (v0 := k.v) (z := List.replicate 32 (Value.int .u8 0) ++ [Value.int .u32 0] ++ [Value.int .i64 0, Value.int .i64 0]) (by show k.cs.toArray.size = 33; simp [k.cs_len]) rfl
  rw [this]
  rfl
theorem arg_key {H : Type} {enc : TypeId × Value → H} {W : World} {base : Nat} {v : Value} {d : DataW H} {p : List MemPlace}
    (ok : Value.okWide Try.prog W .any base 44 v) (h : DataW.Trod enc Try.prog W 0 (fun _ => true) true 44 v d p) : ∃ k : Ky, v = k.v := by
  obtain ⟨cs, rfl, hcs⟩ := okWide_struct Try.underlying44 ok
  obtain ⟨k, hk⟩ := trc_key' (TrC.of h)
  exact ⟨k, by unfold Ky.v; rw [← hk]; rfl⟩
theorem cacheNil_run {k : Ky} {s : Int} (W : World) : CALL Try.prog 7 #[k.v, .int .i64 s] W (fun v w' => v = .bool true ∧ Ext W w') := by
  apply call_law14_CacheNil
  unfold B_law14_CacheNil B_law14_CacheNil_c1
  refine X_box ?_
  have hx1 := newB_ext W k.v.cells 44
  have hg1 : (newB W k.v.cells 44).heap[W.heap.size]? = some (.cells k.cs.toArray 44 (0, 0)) := newB_get W k.v.cells 44
  generalize newB W k.v.cells 44 = w1 at hx1 hg1 ⊢
  have lk : ∀ w', Ext w1 w' → (Instr.loadAt 44 (ptr W.heap.size)).run Try.prog w' = .ok k.v w' := fun w' kk => load_cells Try.underlying44 agg_44 info_44 (l := k.cs) (by rw [sz_44, Ky.cs_len]) (fun j u hj => by rw [add_plain, Nat.zero_add, cell_blk (Ext.get kk hg1)]; simpa using hj)
  refine X_of (lk w1 (Keep.refl _ _)) ?_
  refine X_of (run_build_48k k _) ?_
  refine X_buildSliceK Try.underlying29 el_48 (by decide) (by decide) (by simp [Ky.cs_len]) ?_
  have hx2 := newB_ext w1 (k.cs ++ [Value.int .i64 0, Value.int .i64 0]).toArray 48
  generalize newB w1 (k.cs ++ [Value.int .i64 0, Value.int .i64 0]).toArray 48 = w2 at hx2 ⊢
  refine Load_nil ?_
  refine X_of (lk w2 hx2) ?_
  refine CGet_nil ?_
  intro w3 hx3
  rw [X_extract0, X_extract1]
  refine X_alloc zero_46 ?_
  have hx4 := newB_ext w3 (Value.agg #[(.int .i64 0), (.int .i64 0)]).cells 46
  have hg4 : (newB w3 (Value.agg #[(.int .i64 0), (.int .i64 0)]).cells 46).heap[w3.heap.size]? = some (.cells [Value.int .i64 0, Value.int .i64 0].toArray 46 (0, 0)) := newB_get _ _ _
  generalize newB w3 (Value.agg #[(.int .i64 0), (.int .i64 0)]).cells 46 = w4 at hx4 hg4 ⊢
  refine XU_storeAgg (l := [.int .i64 0, .int .i64 0]) info_46 hg4 (by rw [sz_46]; rfl) (by rw [sz_46]; rfl) (by intro u hu; simp at hu; rw [hu]; rfl) ?_
  have hk5 := setAt_keep w4 w3.heap.size [Value.int .i64 0, Value.int .i64 0].toArray 46 (0, 0)
  generalize setAt w4 w3.heap.size [Value.int .i64 0, Value.int .i64 0].toArray 46 (0, 0) = w5 at hk5 ⊢
  have hx5 : Ext W w5 := Ext.seq (((hx1.trans hx2).trans hx3).trans hx4) hk5 (fun g hg => by have := ((hx1.trans hx2).trans hx3).size; omega)
  refine shown14 ?_
  intro w6 hx6
  (repeat (first | with_reducible (first | refine Eq.mpr (B_law14_CacheNil_c1.eq_1 ..) ?_) | simp only [XP_extract0, XP_extract1, XP_extract2, XP_extract3, X_extract0, X_extract1, X_extract2, X_extract3, X_nilS, X_eql_nil_24, X_neq_nil_24, X_eql_nil_103, X_neq_nil_103, X_eql, X_neq, X_lss, X_leq, X_gtr, X_geq, X_not, X_min, X_max, X_len_79, X_len_35, XP_nilS, XP_eql, XP_neq, XP_lss, XP_leq, XP_gtr, XP_geq, XP_not, XP_min, XP_max, XP_len_79, XP_eql_nil_24, X_str_eql, X_str_neq, XP_str_eql, XP_str_neq, GS, gs_u, decide_true, decide_false, Option.isNone_some, Option.isSome_some, Option.isNone_none, Option.isSome_none, eq_self, Bool.not_true, Bool.not_false, Int.reduceEq, Int.reduceNe, Int.reduceLT, Int.reduceLE, Int.reduceGT, Int.reduceGE]))
  refine Has_nil ?_
  (repeat (first | with_reducible (first | refine Eq.mpr (B_law14_CacheNil_c1.eq_1 ..) ?_) | simp only [XP_extract0, XP_extract1, XP_extract2, XP_extract3, X_extract0, X_extract1, X_extract2, X_extract3, X_nilS, X_eql_nil_24, X_neq_nil_24, X_eql_nil_103, X_neq_nil_103, X_eql, X_neq, X_lss, X_leq, X_gtr, X_geq, X_not, X_min, X_max, X_len_79, X_len_35, XP_nilS, XP_eql, XP_neq, XP_lss, XP_leq, XP_gtr, XP_geq, XP_not, XP_min, XP_max, XP_len_79, XP_eql_nil_24, X_str_eql, X_str_neq, XP_str_eql, XP_str_neq, GS, gs_u, decide_true, decide_false, Option.isNone_some, Option.isSome_some, Option.isNone_none, Option.isSome_none, eq_self, Bool.not_true, Bool.not_false, Int.reduceEq, Int.reduceNe, Int.reduceLT, Int.reduceLE, Int.reduceGT, Int.reduceGE]))
  refine Drop_nil ?_
  (repeat (first | with_reducible (first | refine Eq.mpr (B_law14_CacheNil_c1.eq_1 ..) ?_) | simp only [XP_extract0, XP_extract1, XP_extract2, XP_extract3, X_extract0, X_extract1, X_extract2, X_extract3, X_nilS, X_eql_nil_24, X_neq_nil_24, X_eql_nil_103, X_neq_nil_103, X_eql, X_neq, X_lss, X_leq, X_gtr, X_geq, X_not, X_min, X_max, X_len_79, X_len_35, XP_nilS, XP_eql, XP_neq, XP_lss, XP_leq, XP_gtr, XP_geq, XP_not, XP_min, XP_max, XP_len_79, XP_eql_nil_24, X_str_eql, X_str_neq, XP_str_eql, XP_str_neq, GS, gs_u, decide_true, decide_false, Option.isNone_some, Option.isSome_some, Option.isNone_none, Option.isSome_none, eq_self, Bool.not_true, Bool.not_false, Int.reduceEq, Int.reduceNe, Int.reduceLT, Int.reduceLE, Int.reduceGT, Int.reduceGE]))
  refine Shelves_nil ?_
  have e0 : decide (((0 : Nat) : Int) = 0) = true := rfl
  (repeat (first | with_reducible (first | refine Eq.mpr (B_law14_CacheNil_c1.eq_1 ..) ?_) | simp only [XP_extract0, XP_extract1, XP_extract2, XP_extract3, X_extract0, X_extract1, X_extract2, X_extract3, X_nilS, X_eql_nil_24, X_neq_nil_24, X_eql_nil_103, X_neq_nil_103, X_eql, X_neq, X_lss, X_leq, X_gtr, X_geq, X_not, X_min, X_max, X_len_79, X_len_35, XP_nilS, XP_eql, XP_neq, XP_lss, XP_leq, XP_gtr, XP_geq, XP_not, XP_min, XP_max, XP_len_79, XP_eql_nil_24, X_str_eql, X_str_neq, XP_str_eql, XP_str_neq, GS, gs_u, decide_true, decide_false, Option.isNone_some, Option.isSome_some, Option.isNone_none, Option.isSome_none, eq_self, Bool.not_true, Bool.not_false, Int.reduceEq, Int.reduceNe, Int.reduceLT, Int.reduceLE, Int.reduceGT, Int.reduceGE, e0]))
  exact ⟨trivial, hx5.trans hx6⟩
theorem cacheNil_walk {H : Type} (enc : TypeId × Value → H) (W : World) (v0 v1 : Value) {base : Nat} (ok0 : Value.okWide Try.prog W .any base 44 v0) (ok1 : Value.okWide Try.prog W .any base 3 v1) (d0 : DataW H) (p0 : List MemPlace) (d1 : DataW H) (p1 : List MemPlace) (h0 : DataW.Trod enc Try.prog W 0 (fun _ => true) true 44 v0 d0 p0) (h1 : DataW.Trod enc Try.prog W 0 (fun _ => true) true 3 v1 d1 p1) (hsz : (DataW.weightsEach Try.prog [44, 3] [d0, d1]).all (· ≤ reachBytes) = true) :
    CALL Try.prog 7 #[v0, v1] W (fun v w' => v = .bool true ∧ Ext W w') := by
  obtain ⟨k, rfl⟩ := arg_key ok0 h0
  obtain ⟨s, rfl, o1, o2⟩ := arg_i64 Try.underlying3 ok1 h1
  exact cacheNil_run W
end
set_option maxRecDepth 100000 in
theorem cacheNil_lifted (os : Os) (started : os.Started) (H : Type) (enc : TypeId × Value → H) :
    ReturnsInHanded {} Try.checked os 7 .any (Rows.cacheNilSpec.pre6 enc Try.prog Try.f7 Rows.cacheNilRow.domain false) (Rows.cacheNilSpec.post enc Try.prog Try.f7 false true false false) := by
  refine returnsInHanded_of_change_sized (C := Try.checked) (by kernel_rfl) started (by kernel_rfl) Try.func7
    (ChangeSpec.witness6 (enc := enc) (C := Try.checked) false ⟨#[], #[(.agg (List.replicate 32 (Value.int .u8 0) ++ [Value.int .u32 0]).toArray), (.int .i64 0)], []⟩ 8 (by kernel_rfl) (by kernel_rfl) (by kernel_rfl) (by kernel_rfl)) ?_
  intro W base args ds gs before hval0 hW hcnd hsz0 _
  have hval : ∀ (j : Nat) t v, Try.f7.params[j]? = some t → args[j]? = some v → Value.okWide Try.prog W .any base t v := hval0
  have hW' := hW
  obtain ⟨p, q, hA0, hV, rfl, hfz, hnd⟩ := hW
  have hA : DataW.TrodAll enc Try.prog W 0 (fun _ => true) true Try.f7.params.toList args.toList ds p := hA0
  rw [Try.params7] at hA hval
  obtain ⟨v0, vs0, d0, ds0, p0, q0, hargs, rfl, rfl, h0, r0⟩ := trodAll_cons hA
  obtain ⟨v1, vs1, d1, ds1, p1, q1, rfl, rfl, rfl, h1, r1⟩ := trodAll_cons r0
  obtain ⟨rfl, rfl, rfl⟩ := trodAll_nil r1
  obtain rfl : args = #[v0, v1] := by cases args; simp_all
  obtain ⟨rfl, rfl⟩ := trodVars_none hV
  have hsz : (DataW.weightsEach Try.prog [44, 3] [d0, d1]).all (· ≤ reachBytes) = true := hsz0
  have hw := cacheNil_walk enc W v0 v1 (hval 0 44 v0 rfl rfl) (hval 1 3 v1 rfl rfl) d0 p0 d1 p1 h0 h1 hsz
  refine (CALL_calls hw).mono fun e W' he => ?_
  cases e with
  | returned v =>
    obtain ⟨rfl, hx⟩ := he
    exact ⟨_, rfl, law_post (P := Try.prog) laidOut (by kernel_rfl) rfl rfl rfl Try.underlying4 hW' hx⟩
  | panicked c => exact he.elim
  | outgrown => exact he.elim

theorem cacheNil_closed : joinedFacts Try.prog 7 Try.f7 Rows.cacheNilSpec Rows.cacheNilRow = true := by
  unfold joinedFacts
  rw [mayEnter_is, liftsFinal_is, make_is]
  kernel_rfl
/-- For every input that the row lets in, cellarage/cellaragelaw14.CacheNil returns true, and what was there stays as it was. -/
theorem cacheNil_holds : Rows.CacheNilSaid :=
  OpenClaim.holds_of_wide 7 Try.f7 rfl rfl rfl rfl rfl rfl rfl ⟨rfl, rfl, rfl, rfl, rfl⟩ rfl rfl rfl rfl rfl (by kernel_rfl) Try.func7 cacheNil_closed
    (of_decide_eq_true (by kernel_rfl)) (by unfold Func.isWrapper; first | (rw [if_pos (by decide +kernel)]; kernel_rfl) | (rw [if_neg (by decide +kernel)]; exact ⟨rfl, rfl⟩))
    (fun os started H enc _ => cacheNil_lifted os started H enc)
#print axioms cacheNil_holds
end Go.Proofs.Ytlnkdphecinnnaa
