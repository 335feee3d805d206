/- cellaragelaw14.CachePlays: whatever is loaded and let go, all answers are the document's. -/
import Derived.Test.YtlnkdphecinnnaaQPC7
set_option linter.unusedVariables false
set_option linter.unusedSimpArgs false
set_option linter.constructorNameAsVariable false
namespace Go.Proofs.Ytlnkdphecinnnaa
open Go Go.Sh Go.RowKit Go.ChangeShapes Go.WideShapes Go.ChangeAt
open Go.Proofs.Ytlnkdphecinnnaa
section
attribute [local irreducible] X XU XP XR CALL loopS resC closS Value.okWide
abbrev Slot (i : Nat) : Prop := i = 5 ∨ i = 7 ∨ i = 8 ∨ i = 10 ∨ i = 53 ∨ i = 54 ∨ i = 55
set_option maxRecDepth 8000 in
set_option maxHeartbeats 4000000 in
theorem plays_c1 {ρ1 : Env} {cb rb xb n : Nat} {T : Tbl} {r : Ex} {D E : Nat → Prop} {w : World} {K : Value → World → Prop} {Q1 : Exit → Env → World → Prop} {J2 : Env → World → Prop} {v1 v2 v3 v4 v5 v6 v7 v8 v9 v10 v11 v12 v13 : Value} (hc : CacheAt w D cb n T) (hr : RefAt w E rb n T) (hxb : w.heap[xb]? = some (.cells r.cs.toArray 48 (0, 0)))
    (hTn : T.length ≤ 4096) (r5 : ρ1 5 = ptr xb) (r8 : ρ1 8 = ptr cb) (r10 : ρ1 10 = ptr rb)
    (hgo : ∀ ρ' w', Ext w w' → (∀ i, Slot i → ρ' i = ρ1 i) → J2 ρ' w') : B_law14_CachePlays_c1 ρ1 w K Q1 v1 v2 v3 v4 v5 v6 v7 v8 v9 v10 v11 v12 v13 J2 := by
  unfold B_law14_CachePlays_c1
  rw [r5]
  (repeat (first  | simp only [XP_extract0, XP_extract1, XP_extract2, XP_extract3, X_extract0, X_extract1, X_extract2, X_extract3, X_nilS, X_eql_nil_24, X_neq_nil_24, X_eql_nil_103, X_neq_nil_103, X_eql, X_neq, X_lss, X_leq, X_gtr, X_geq, X_not, X_min, X_max, X_len_79, X_len_35, XP_nilS, XP_eql, XP_neq, XP_lss, XP_leq, XP_gtr, XP_geq, XP_not, XP_min, XP_max, XP_len_79, XP_eql_nil_24, X_str_eql, X_str_neq, XP_str_eql, XP_str_neq, GS, gs_u, decide_true, decide_false, Option.isNone_some, Option.isSome_some, Option.isNone_none, Option.isSome_none, eq_self, Bool.not_true, Bool.not_false, Int.reduceEq, Int.reduceNe, Int.reduceLT, Int.reduceLE, Int.reduceGT, Int.reduceGE, X_field_48_0]))
  refine X_of (row_key hxb) ?_
  (repeat (first  | simp only [XP_extract0, XP_extract1, XP_extract2, XP_extract3, X_extract0, X_extract1, X_extract2, X_extract3, X_nilS, X_eql_nil_24, X_neq_nil_24, X_eql_nil_103, X_neq_nil_103, X_eql, X_neq, X_lss, X_leq, X_gtr, X_geq, X_not, X_min, X_max, X_len_79, X_len_35, XP_nilS, XP_eql, XP_neq, XP_lss, XP_leq, XP_gtr, XP_geq, XP_not, XP_min, XP_max, XP_len_79, XP_eql_nil_24, X_str_eql, X_str_neq, XP_str_eql, XP_str_neq, GS, gs_u, decide_true, decide_false, Option.isNone_some, Option.isSome_some, Option.isNone_none, Option.isSome_none, eq_self, Bool.not_true, Bool.not_false, Int.reduceEq, Int.reduceNe, Int.reduceLT, Int.reduceLE, Int.reduceGT, Int.reduceGE]))
  rw [r8]
  refine Get_specC hc ?_
  intro w2 hx2
  (repeat (first  | simp only [XP_extract0, XP_extract1, XP_extract2, XP_extract3, X_extract0, X_extract1, X_extract2, X_extract3, X_nilS, X_eql_nil_24, X_neq_nil_24, X_eql_nil_103, X_neq_nil_103, X_eql, X_neq, X_lss, X_leq, X_gtr, X_geq, X_not, X_min, X_max, X_len_79, X_len_35, XP_nilS, XP_eql, XP_neq, XP_lss, XP_leq, XP_gtr, XP_geq, XP_not, XP_min, XP_max, XP_len_79, XP_eql_nil_24, X_str_eql, X_str_neq, XP_str_eql, XP_str_neq, GS, gs_u, decide_true, decide_false, Option.isNone_some, Option.isSome_some, Option.isNone_none, Option.isSome_none, eq_self, Bool.not_true, Bool.not_false, Int.reduceEq, Int.reduceNe, Int.reduceLT, Int.reduceLE, Int.reduceGT, Int.reduceGE]))
  refine X_alloc zero_46 ?_
  have hx3 := newB_ext w2 (Value.agg #[(.int .i64 0), (.int .i64 0)]).cells 46
  have hg3 : (newB w2 (Value.agg #[(.int .i64 0), (.int .i64 0)]).cells 46).heap[w2.heap.size]? = some (.cells [Value.int .i64 0, Value.int .i64 0].toArray 46 (0, 0)) := newB_get _ _ _
  generalize newB w2 (Value.agg #[(.int .i64 0), (.int .i64 0)]).cells 46 = w3 at hx3 hg3 ⊢
  generalize hp : (findT T r.k).getD (0, 0) = p
  generalize his : (findT T r.k).isSome = is
  refine XU_storeAgg (l := [.int .i64 p.1, .int .i64 p.2]) info_46 hg3 (by rw [sz_46]; rfl) (by rw [sz_46]; rfl) (by intro u hu; simp only [List.mem_cons, List.not_mem_nil, or_false] at hu; rcases hu with rfl | rfl <;> rfl) ?_
  have hk4 := setAt_keep w3 w2.heap.size [Value.int .i64 p.1, Value.int .i64 p.2].toArray 46 (0, 0)
  have hg4 : (setAt w3 w2.heap.size [Value.int .i64 p.1, Value.int .i64 p.2].toArray 46 (0, 0)).heap[w2.heap.size]? = some (.cells [Value.int .i64 p.1, Value.int .i64 p.2].toArray 46 (0, 0)) := setAt_same (lt_of_blk hg3)
  generalize setAt w3 w2.heap.size [Value.int .i64 p.1, Value.int .i64 p.2].toArray 46 (0, 0) = w4 at hk4 hg4 ⊢
  have hx24 : Ext w2 w4 := Ext.seq hx3 hk4 (fun g hg => by omega)
  have hx4 := hx2.trans hx24
  generalize w2.heap.size = b1 at hg4 ⊢
  (repeat (first  | simp only [XP_extract0, XP_extract1, XP_extract2, XP_extract3, X_extract0, X_extract1, X_extract2, X_extract3, X_nilS, X_eql_nil_24, X_neq_nil_24, X_eql_nil_103, X_neq_nil_103, X_eql, X_neq, X_lss, X_leq, X_gtr, X_geq, X_not, X_min, X_max, X_len_79, X_len_35, XP_nilS, XP_eql, XP_neq, XP_lss, XP_leq, XP_gtr, XP_geq, XP_not, XP_min, XP_max, XP_len_79, XP_eql_nil_24, X_str_eql, X_str_neq, XP_str_eql, XP_str_neq, GS, gs_u, decide_true, decide_false, Option.isNone_some, Option.isSome_some, Option.isNone_none, Option.isSome_none, eq_self, Bool.not_true, Bool.not_false, Int.reduceEq, Int.reduceNe, Int.reduceLT, Int.reduceLE, Int.reduceGT, Int.reduceGE, X_field_48_0]))
  refine X_of (row_key (Ext.get hx4 hxb)) ?_
  (repeat (first  | simp only [XP_extract0, XP_extract1, XP_extract2, XP_extract3, X_extract0, X_extract1, X_extract2, X_extract3, X_nilS, X_eql_nil_24, X_neq_nil_24, X_eql_nil_103, X_neq_nil_103, X_eql, X_neq, X_lss, X_leq, X_gtr, X_geq, X_not, X_min, X_max, X_len_79, X_len_35, XP_nilS, XP_eql, XP_neq, XP_lss, XP_leq, XP_gtr, XP_geq, XP_not, XP_min, XP_max, XP_len_79, XP_eql_nil_24, X_str_eql, X_str_neq, XP_str_eql, XP_str_neq, GS, gs_u, decide_true, decide_false, Option.isNone_some, Option.isSome_some, Option.isNone_none, Option.isSome_none, eq_self, Bool.not_true, Bool.not_false, Int.reduceEq, Int.reduceNe, Int.reduceLT, Int.reduceLE, Int.reduceGT, Int.reduceGE]))
  rw [r10]
  refine RGetC_spec (hr.ext hx4) (by omega) ?_
  intro w5 hx5
  rw [hp, his]
  (repeat (first  | simp only [XP_extract0, XP_extract1, XP_extract2, XP_extract3, X_extract0, X_extract1, X_extract2, X_extract3, X_nilS, X_eql_nil_24, X_neq_nil_24, X_eql_nil_103, X_neq_nil_103, X_eql, X_neq, X_lss, X_leq, X_gtr, X_geq, X_not, X_min, X_max, X_len_79, X_len_35, XP_nilS, XP_eql, XP_neq, XP_lss, XP_leq, XP_gtr, XP_geq, XP_not, XP_min, XP_max, XP_len_79, XP_eql_nil_24, X_str_eql, X_str_neq, XP_str_eql, XP_str_neq, GS, gs_u, decide_true, decide_false, Option.isNone_some, Option.isSome_some, Option.isNone_none, Option.isSome_none, eq_self, Bool.not_true, Bool.not_false, Int.reduceEq, Int.reduceNe, Int.reduceLT, Int.reduceLE, Int.reduceGT, Int.reduceGE]))
  refine X_alloc zero_46 ?_
  have hx6 := newB_ext w5 (Value.agg #[(.int .i64 0), (.int .i64 0)]).cells 46
  have hg6 : (newB w5 (Value.agg #[(.int .i64 0), (.int .i64 0)]).cells 46).heap[w5.heap.size]? = some (.cells [Value.int .i64 0, Value.int .i64 0].toArray 46 (0, 0)) := newB_get _ _ _
  generalize newB w5 (Value.agg #[(.int .i64 0), (.int .i64 0)]).cells 46 = w6 at hx6 hg6 ⊢
  refine XU_storeAgg (l := [.int .i64 p.1, .int .i64 p.2]) info_46 hg6 (by rw [sz_46]; rfl) (by rw [sz_46]; rfl) (by intro u hu; simp only [List.mem_cons, List.not_mem_nil, or_false] at hu; rcases hu with rfl | rfl <;> rfl) ?_
  have hk7 := setAt_keep w6 w5.heap.size [Value.int .i64 p.1, Value.int .i64 p.2].toArray 46 (0, 0)
  have hg7 : (setAt w6 w5.heap.size [Value.int .i64 p.1, Value.int .i64 p.2].toArray 46 (0, 0)).heap[w5.heap.size]? = some (.cells [Value.int .i64 p.1, Value.int .i64 p.2].toArray 46 (0, 0)) := setAt_same (lt_of_blk hg6)
  generalize setAt w6 w5.heap.size [Value.int .i64 p.1, Value.int .i64 p.2].toArray 46 (0, 0) = w7 at hk7 hg7 ⊢
  have hx57 : Ext w5 w7 := Ext.seq hx6 hk7 (fun g hg => by omega)
  have hx47 := hx5.trans hx57
  have hx7 := hx4.trans hx47
  generalize w5.heap.size = b2 at hg7 ⊢
  refine X_of (load_cells Try.underlying46 agg_46 info_46 (l := [Value.int .i64 p.1, Value.int .i64 p.2]) (by rw [sz_46]; rfl) (fun j u hj => by rw [add_plain, Nat.zero_add, cell_blk (Ext.get hx47 hg4)]; simpa using hj)) ?_
  refine X_of (load_cells Try.underlying46 agg_46 info_46 (l := [Value.int .i64 p.1, Value.int .i64 p.2]) (by rw [sz_46]; rfl) (fun j u hj => by rw [add_plain, Nat.zero_add, cell_blk hg7]; simpa using hj)) ?_
  refine X_of (run_pl_neq p p _ _ _) ?_
  have c1 : decide (p ≠ p) = false := by simp
  have c2 : (is != is) = false := by simp
  (repeat (first  | simp only [XP_extract0, XP_extract1, XP_extract2, XP_extract3, X_extract0, X_extract1, X_extract2, X_extract3, X_nilS, X_eql_nil_24, X_neq_nil_24, X_eql_nil_103, X_neq_nil_103, X_eql, X_neq, X_lss, X_leq, X_gtr, X_geq, X_not, X_min, X_max, X_len_79, X_len_35, XP_nilS, XP_eql, XP_neq, XP_lss, XP_leq, XP_gtr, XP_geq, XP_not, XP_min, XP_max, XP_len_79, XP_eql_nil_24, X_str_eql, X_str_neq, XP_str_eql, XP_str_neq, GS, gs_u, decide_true, decide_false, Option.isNone_some, Option.isSome_some, Option.isNone_none, Option.isSome_none, eq_self, Bool.not_true, Bool.not_false, Int.reduceEq, Int.reduceNe, Int.reduceLT, Int.reduceLE, Int.reduceGT, Int.reduceGE, c1, X_neq_bool_4, c2]))
  refine Shelves_spec (hc.ext hx7) ?_
  intro u8 w8 hx8 ho8
  (repeat (first  | simp only [XP_extract0, XP_extract1, XP_extract2, XP_extract3, X_extract0, X_extract1, X_extract2, X_extract3, X_nilS, X_eql_nil_24, X_neq_nil_24, X_eql_nil_103, X_neq_nil_103, X_eql, X_neq, X_lss, X_leq, X_gtr, X_geq, X_not, X_min, X_max, X_len_79, X_len_35, XP_nilS, XP_eql, XP_neq, XP_lss, XP_leq, XP_gtr, XP_geq, XP_not, XP_min, XP_max, XP_len_79, XP_eql_nil_24, X_str_eql, X_str_neq, XP_str_eql, XP_str_neq, GS, gs_u, decide_true, decide_false, Option.isNone_some, Option.isSome_some, Option.isNone_none, Option.isSome_none, eq_self, Bool.not_true, Bool.not_false, Int.reduceEq, Int.reduceNe, Int.reduceLT, Int.reduceLE, Int.reduceGT, Int.reduceGE]))
  have hx08 := hx7.trans hx8
  refine RShelves_spec (hr.ext hx08) (by omega) ?_
  intro u9 w9 hx9 ho9
  (repeat (first  | simp only [XP_extract0, XP_extract1, XP_extract2, XP_extract3, X_extract0, X_extract1, X_extract2, X_extract3, X_nilS, X_eql_nil_24, X_neq_nil_24, X_eql_nil_103, X_neq_nil_103, X_eql, X_neq, X_lss, X_leq, X_gtr, X_geq, X_not, X_min, X_max, X_len_79, X_len_35, XP_nilS, XP_eql, XP_neq, XP_lss, XP_leq, XP_gtr, XP_geq, XP_not, XP_min, XP_max, XP_len_79, XP_eql_nil_24, X_str_eql, X_str_neq, XP_str_eql, XP_str_neq, GS, gs_u, decide_true, decide_false, Option.isNone_some, Option.isSome_some, Option.isNone_none, Option.isSome_none, eq_self, Bool.not_true, Bool.not_false, Int.reduceEq, Int.reduceNe, Int.reduceLT, Int.reduceLE, Int.reduceGT, Int.reduceGE]))
  refine SameI_spec ((OwnK.rowK (by decide) intC_len ho8).ext hx9) ho9 (by rw [List.length_map]; omega) ?_
  intro w10 hx10
  have c3 : decide (shs T = shs T) = true := by simp
  (repeat (first  | simp only [XP_extract0, XP_extract1, XP_extract2, XP_extract3, X_extract0, X_extract1, X_extract2, X_extract3, X_nilS, X_eql_nil_24, X_neq_nil_24, X_eql_nil_103, X_neq_nil_103, X_eql, X_neq, X_lss, X_leq, X_gtr, X_geq, X_not, X_min, X_max, X_len_79, X_len_35, XP_nilS, XP_eql, XP_neq, XP_lss, XP_leq, XP_gtr, XP_geq, XP_not, XP_min, XP_max, XP_len_79, XP_eql_nil_24, X_str_eql, X_str_neq, XP_str_eql, XP_str_neq, GS, gs_u, decide_true, decide_false, Option.isNone_some, Option.isSome_some, Option.isNone_none, Option.isSome_none, eq_self, Bool.not_true, Bool.not_false, Int.reduceEq, Int.reduceNe, Int.reduceLT, Int.reduceLE, Int.reduceGT, Int.reduceGE, c3]))
  refine hgo _ _ ((hx08.trans hx9).trans hx10) ?_
  intro j hj
  rcases hj with rfl | rfl | rfl | rfl | rfl | rfl | rfl <;> rfl
set_option maxRecDepth 8000 in
set_option maxHeartbeats 4000000 in
theorem plays_c2 {ρ1 : Env} {cb rb xb n : Nat} {T : Tbl} {r : Ex} {D E : Nat → Prop} {w : World} {K : Value → World → Prop} {Q1 : Exit → Env → World → Prop} {J2 : Env → World → Prop} (hc : CacheAt w D cb n T) (hr : RefAt w E rb n T) (hxb : w.heap[xb]? = some (.cells r.cs.toArray 48 (0, 0)))
    (hTn : T.length ≤ 4096) (r5 : ρ1 5 = ptr xb) (r8 : ρ1 8 = ptr cb) (r10 : ρ1 10 = ptr rb)
    (hgo : ∀ ρ' w', Ext w w' → (∀ i, Slot i → ρ' i = ρ1 i) → J2 ρ' w') : B_law14_CachePlays_c2 ρ1 w K Q1 J2 := by
  unfold B_law14_CachePlays_c2
  rw [r5]
  (repeat (first  | simp only [XP_extract0, XP_extract1, XP_extract2, XP_extract3, X_extract0, X_extract1, X_extract2, X_extract3, X_nilS, X_eql_nil_24, X_neq_nil_24, X_eql_nil_103, X_neq_nil_103, X_eql, X_neq, X_lss, X_leq, X_gtr, X_geq, X_not, X_min, X_max, X_len_79, X_len_35, XP_nilS, XP_eql, XP_neq, XP_lss, XP_leq, XP_gtr, XP_geq, XP_not, XP_min, XP_max, XP_len_79, XP_eql_nil_24, X_str_eql, X_str_neq, XP_str_eql, XP_str_neq, GS, gs_u, decide_true, decide_false, Option.isNone_some, Option.isSome_some, Option.isNone_none, Option.isSome_none, eq_self, Bool.not_true, Bool.not_false, Int.reduceEq, Int.reduceNe, Int.reduceLT, Int.reduceLE, Int.reduceGT, Int.reduceGE, X_field_48_0]))
  refine X_of (row_key hxb) ?_
  (repeat (first  | simp only [XP_extract0, XP_extract1, XP_extract2, XP_extract3, X_extract0, X_extract1, X_extract2, X_extract3, X_nilS, X_eql_nil_24, X_neq_nil_24, X_eql_nil_103, X_neq_nil_103, X_eql, X_neq, X_lss, X_leq, X_gtr, X_geq, X_not, X_min, X_max, X_len_79, X_len_35, XP_nilS, XP_eql, XP_neq, XP_lss, XP_leq, XP_gtr, XP_geq, XP_not, XP_min, XP_max, XP_len_79, XP_eql_nil_24, X_str_eql, X_str_neq, XP_str_eql, XP_str_neq, GS, gs_u, decide_true, decide_false, Option.isNone_some, Option.isSome_some, Option.isNone_none, Option.isSome_none, eq_self, Bool.not_true, Bool.not_false, Int.reduceEq, Int.reduceNe, Int.reduceLT, Int.reduceLE, Int.reduceGT, Int.reduceGE]))
  rw [r8]
  refine Get_specC hc ?_
  intro w2 hx2
  (repeat (first  | simp only [XP_extract0, XP_extract1, XP_extract2, XP_extract3, X_extract0, X_extract1, X_extract2, X_extract3, X_nilS, X_eql_nil_24, X_neq_nil_24, X_eql_nil_103, X_neq_nil_103, X_eql, X_neq, X_lss, X_leq, X_gtr, X_geq, X_not, X_min, X_max, X_len_79, X_len_35, XP_nilS, XP_eql, XP_neq, XP_lss, XP_leq, XP_gtr, XP_geq, XP_not, XP_min, XP_max, XP_len_79, XP_eql_nil_24, X_str_eql, X_str_neq, XP_str_eql, XP_str_neq, GS, gs_u, decide_true, decide_false, Option.isNone_some, Option.isSome_some, Option.isNone_none, Option.isSome_none, eq_self, Bool.not_true, Bool.not_false, Int.reduceEq, Int.reduceNe, Int.reduceLT, Int.reduceLE, Int.reduceGT, Int.reduceGE]))
  refine X_alloc zero_46 ?_
  have hx3 := newB_ext w2 (Value.agg #[(.int .i64 0), (.int .i64 0)]).cells 46
  have hg3 : (newB w2 (Value.agg #[(.int .i64 0), (.int .i64 0)]).cells 46).heap[w2.heap.size]? = some (.cells [Value.int .i64 0, Value.int .i64 0].toArray 46 (0, 0)) := newB_get _ _ _
  generalize newB w2 (Value.agg #[(.int .i64 0), (.int .i64 0)]).cells 46 = w3 at hx3 hg3 ⊢
  generalize hp : (findT T r.k).getD (0, 0) = p
  generalize his : (findT T r.k).isSome = is
  refine XU_storeAgg (l := [.int .i64 p.1, .int .i64 p.2]) info_46 hg3 (by rw [sz_46]; rfl) (by rw [sz_46]; rfl) (by intro u hu; simp only [List.mem_cons, List.not_mem_nil, or_false] at hu; rcases hu with rfl | rfl <;> rfl) ?_
  have hk4 := setAt_keep w3 w2.heap.size [Value.int .i64 p.1, Value.int .i64 p.2].toArray 46 (0, 0)
  have hg4 : (setAt w3 w2.heap.size [Value.int .i64 p.1, Value.int .i64 p.2].toArray 46 (0, 0)).heap[w2.heap.size]? = some (.cells [Value.int .i64 p.1, Value.int .i64 p.2].toArray 46 (0, 0)) := setAt_same (lt_of_blk hg3)
  generalize setAt w3 w2.heap.size [Value.int .i64 p.1, Value.int .i64 p.2].toArray 46 (0, 0) = w4 at hk4 hg4 ⊢
  have hx24 : Ext w2 w4 := Ext.seq hx3 hk4 (fun g hg => by omega)
  have hx4 := hx2.trans hx24
  generalize w2.heap.size = b1 at hg4 ⊢
  (repeat (first  | simp only [XP_extract0, XP_extract1, XP_extract2, XP_extract3, X_extract0, X_extract1, X_extract2, X_extract3, X_nilS, X_eql_nil_24, X_neq_nil_24, X_eql_nil_103, X_neq_nil_103, X_eql, X_neq, X_lss, X_leq, X_gtr, X_geq, X_not, X_min, X_max, X_len_79, X_len_35, XP_nilS, XP_eql, XP_neq, XP_lss, XP_leq, XP_gtr, XP_geq, XP_not, XP_min, XP_max, XP_len_79, XP_eql_nil_24, X_str_eql, X_str_neq, XP_str_eql, XP_str_neq, GS, gs_u, decide_true, decide_false, Option.isNone_some, Option.isSome_some, Option.isNone_none, Option.isSome_none, eq_self, Bool.not_true, Bool.not_false, Int.reduceEq, Int.reduceNe, Int.reduceLT, Int.reduceLE, Int.reduceGT, Int.reduceGE, X_field_48_0]))
  refine X_of (row_key (Ext.get hx4 hxb)) ?_
  (repeat (first  | simp only [XP_extract0, XP_extract1, XP_extract2, XP_extract3, X_extract0, X_extract1, X_extract2, X_extract3, X_nilS, X_eql_nil_24, X_neq_nil_24, X_eql_nil_103, X_neq_nil_103, X_eql, X_neq, X_lss, X_leq, X_gtr, X_geq, X_not, X_min, X_max, X_len_79, X_len_35, XP_nilS, XP_eql, XP_neq, XP_lss, XP_leq, XP_gtr, XP_geq, XP_not, XP_min, XP_max, XP_len_79, XP_eql_nil_24, X_str_eql, X_str_neq, XP_str_eql, XP_str_neq, GS, gs_u, decide_true, decide_false, Option.isNone_some, Option.isSome_some, Option.isNone_none, Option.isSome_none, eq_self, Bool.not_true, Bool.not_false, Int.reduceEq, Int.reduceNe, Int.reduceLT, Int.reduceLE, Int.reduceGT, Int.reduceGE]))
  rw [r10]
  refine RGetC_spec (hr.ext hx4) (by omega) ?_
  intro w5 hx5
  rw [hp, his]
  (repeat (first  | simp only [XP_extract0, XP_extract1, XP_extract2, XP_extract3, X_extract0, X_extract1, X_extract2, X_extract3, X_nilS, X_eql_nil_24, X_neq_nil_24, X_eql_nil_103, X_neq_nil_103, X_eql, X_neq, X_lss, X_leq, X_gtr, X_geq, X_not, X_min, X_max, X_len_79, X_len_35, XP_nilS, XP_eql, XP_neq, XP_lss, XP_leq, XP_gtr, XP_geq, XP_not, XP_min, XP_max, XP_len_79, XP_eql_nil_24, X_str_eql, X_str_neq, XP_str_eql, XP_str_neq, GS, gs_u, decide_true, decide_false, Option.isNone_some, Option.isSome_some, Option.isNone_none, Option.isSome_none, eq_self, Bool.not_true, Bool.not_false, Int.reduceEq, Int.reduceNe, Int.reduceLT, Int.reduceLE, Int.reduceGT, Int.reduceGE]))
  refine X_alloc zero_46 ?_
  have hx6 := newB_ext w5 (Value.agg #[(.int .i64 0), (.int .i64 0)]).cells 46
  have hg6 : (newB w5 (Value.agg #[(.int .i64 0), (.int .i64 0)]).cells 46).heap[w5.heap.size]? = some (.cells [Value.int .i64 0, Value.int .i64 0].toArray 46 (0, 0)) := newB_get _ _ _
  generalize newB w5 (Value.agg #[(.int .i64 0), (.int .i64 0)]).cells 46 = w6 at hx6 hg6 ⊢
  refine XU_storeAgg (l := [.int .i64 p.1, .int .i64 p.2]) info_46 hg6 (by rw [sz_46]; rfl) (by rw [sz_46]; rfl) (by intro u hu; simp only [List.mem_cons, List.not_mem_nil, or_false] at hu; rcases hu with rfl | rfl <;> rfl) ?_
  have hk7 := setAt_keep w6 w5.heap.size [Value.int .i64 p.1, Value.int .i64 p.2].toArray 46 (0, 0)
  have hg7 : (setAt w6 w5.heap.size [Value.int .i64 p.1, Value.int .i64 p.2].toArray 46 (0, 0)).heap[w5.heap.size]? = some (.cells [Value.int .i64 p.1, Value.int .i64 p.2].toArray 46 (0, 0)) := setAt_same (lt_of_blk hg6)
  generalize setAt w6 w5.heap.size [Value.int .i64 p.1, Value.int .i64 p.2].toArray 46 (0, 0) = w7 at hk7 hg7 ⊢
  have hx57 : Ext w5 w7 := Ext.seq hx6 hk7 (fun g hg => by omega)
  have hx47 := hx5.trans hx57
  have hx7 := hx4.trans hx47
  generalize w5.heap.size = b2 at hg7 ⊢
  refine X_of (load_cells Try.underlying46 agg_46 info_46 (l := [Value.int .i64 p.1, Value.int .i64 p.2]) (by rw [sz_46]; rfl) (fun j u hj => by rw [add_plain, Nat.zero_add, cell_blk (Ext.get hx47 hg4)]; simpa using hj)) ?_
  refine X_of (load_cells Try.underlying46 agg_46 info_46 (l := [Value.int .i64 p.1, Value.int .i64 p.2]) (by rw [sz_46]; rfl) (fun j u hj => by rw [add_plain, Nat.zero_add, cell_blk hg7]; simpa using hj)) ?_
  refine X_of (run_pl_neq p p _ _ _) ?_
  have c1 : decide (p ≠ p) = false := by simp
  have c2 : (is != is) = false := by simp
  (repeat (first  | simp only [XP_extract0, XP_extract1, XP_extract2, XP_extract3, X_extract0, X_extract1, X_extract2, X_extract3, X_nilS, X_eql_nil_24, X_neq_nil_24, X_eql_nil_103, X_neq_nil_103, X_eql, X_neq, X_lss, X_leq, X_gtr, X_geq, X_not, X_min, X_max, X_len_79, X_len_35, XP_nilS, XP_eql, XP_neq, XP_lss, XP_leq, XP_gtr, XP_geq, XP_not, XP_min, XP_max, XP_len_79, XP_eql_nil_24, X_str_eql, X_str_neq, XP_str_eql, XP_str_neq, GS, gs_u, decide_true, decide_false, Option.isNone_some, Option.isSome_some, Option.isNone_none, Option.isSome_none, eq_self, Bool.not_true, Bool.not_false, Int.reduceEq, Int.reduceNe, Int.reduceLT, Int.reduceLE, Int.reduceGT, Int.reduceGE, c1, X_neq_bool_4, c2]))
  refine Shelves_spec (hc.ext hx7) ?_
  intro u8 w8 hx8 ho8
  (repeat (first  | simp only [XP_extract0, XP_extract1, XP_extract2, XP_extract3, X_extract0, X_extract1, X_extract2, X_extract3, X_nilS, X_eql_nil_24, X_neq_nil_24, X_eql_nil_103, X_neq_nil_103, X_eql, X_neq, X_lss, X_leq, X_gtr, X_geq, X_not, X_min, X_max, X_len_79, X_len_35, XP_nilS, XP_eql, XP_neq, XP_lss, XP_leq, XP_gtr, XP_geq, XP_not, XP_min, XP_max, XP_len_79, XP_eql_nil_24, X_str_eql, X_str_neq, XP_str_eql, XP_str_neq, GS, gs_u, decide_true, decide_false, Option.isNone_some, Option.isSome_some, Option.isNone_none, Option.isSome_none, eq_self, Bool.not_true, Bool.not_false, Int.reduceEq, Int.reduceNe, Int.reduceLT, Int.reduceLE, Int.reduceGT, Int.reduceGE]))
  have hx08 := hx7.trans hx8
  refine RShelves_spec (hr.ext hx08) (by omega) ?_
  intro u9 w9 hx9 ho9
  (repeat (first  | simp only [XP_extract0, XP_extract1, XP_extract2, XP_extract3, X_extract0, X_extract1, X_extract2, X_extract3, X_nilS, X_eql_nil_24, X_neq_nil_24, X_eql_nil_103, X_neq_nil_103, X_eql, X_neq, X_lss, X_leq, X_gtr, X_geq, X_not, X_min, X_max, X_len_79, X_len_35, XP_nilS, XP_eql, XP_neq, XP_lss, XP_leq, XP_gtr, XP_geq, XP_not, XP_min, XP_max, XP_len_79, XP_eql_nil_24, X_str_eql, X_str_neq, XP_str_eql, XP_str_neq, GS, gs_u, decide_true, decide_false, Option.isNone_some, Option.isSome_some, Option.isNone_none, Option.isSome_none, eq_self, Bool.not_true, Bool.not_false, Int.reduceEq, Int.reduceNe, Int.reduceLT, Int.reduceLE, Int.reduceGT, Int.reduceGE]))
  refine SameI_spec ((OwnK.rowK (by decide) intC_len ho8).ext hx9) ho9 (by rw [List.length_map]; omega) ?_
  intro w10 hx10
  have c3 : decide (shs T = shs T) = true := by simp
  (repeat (first  | simp only [XP_extract0, XP_extract1, XP_extract2, XP_extract3, X_extract0, X_extract1, X_extract2, X_extract3, X_nilS, X_eql_nil_24, X_neq_nil_24, X_eql_nil_103, X_neq_nil_103, X_eql, X_neq, X_lss, X_leq, X_gtr, X_geq, X_not, X_min, X_max, X_len_79, X_len_35, XP_nilS, XP_eql, XP_neq, XP_lss, XP_leq, XP_gtr, XP_geq, XP_not, XP_min, XP_max, XP_len_79, XP_eql_nil_24, X_str_eql, X_str_neq, XP_str_eql, XP_str_neq, GS, gs_u, decide_true, decide_false, Option.isNone_some, Option.isSome_some, Option.isNone_none, Option.isSome_none, eq_self, Bool.not_true, Bool.not_false, Int.reduceEq, Int.reduceNe, Int.reduceLT, Int.reduceLE, Int.reduceGT, Int.reduceGE, c3]))
  refine hgo _ _ ((hx08.trans hx9).trans hx10) ?_
  intro j hj
  rcases hj with rfl | rfl | rfl | rfl | rfl | rfl | rfl <;> rfl
def PlayOk (W wr : World) (D E : Nat → Prop) (cb rb xb n : Nat) (r : Ex) (T : Tbl) : Prop :=
  Ext W wr ∧ CacheAt wr D cb n T ∧ RefAt wr E rb n T ∧ (∀ g, D g → W.heap.size ≤ g) ∧ (∀ g, E g → W.heap.size ≤ g) ∧ (∀ g, D g → ¬ E g) ∧ ¬ D xb ∧ ¬ E xb ∧ wr.heap[xb]? = some (.cells r.cs.toArray 48 (0, 0))
theorem run_build48 (w : World) : (Instr.build 48 #[]).run Try.prog w = .ok (.agg (List.replicate 32 (Value.int .u8 0) ++ [Value.int .u32 0] ++ [Value.int .i64 0, Value.int .i64 0]).toArray) w := by kernel_rfl
set_option maxRecDepth 8000 in
set_option maxHeartbeats 4000000 in
theorem plays_c3 {ρ1 : Env} {cb rb xb q n : Nat} {T : Tbl} {r : Ex} {a : Ac} {D E : Nat → Prop} {w : World} {K : Value → World → Prop} {Q1 : Exit → Env → World → Prop} {J2 : Env → World → Prop} {v1 v2 v3 : Value} (W : World) (hn : n ≤ 4096) (hok : PlayOk W w D E cb rb xb n r T)
    (hq : w.heap[q]? = some (.cells a.cs.toArray 32 (0, 0))) (hDq : ¬ D q) (hEq : ¬ E q) (hin : a.In W) (hsm : a.rows.length ≤ 50)
    (r5 : ρ1 5 = ptr xb) (r8 : ρ1 8 = ptr cb) (r10 : ρ1 10 = ptr rb)
    (hgo : ∀ ρ' w' T' D' E', PlayOk W w' D' E' cb rb xb n r T' → (∀ i, Slot i → ρ' i = ρ1 i) → J2 ρ' w') : B_law14_CachePlays_c3 (ptr q) w (ptr q) ρ1 Q1 v1 v2 v3 K J2 := by
  obtain ⟨hxW, hc, hr, hDW, hEW, hDE, hDx, hEx, hxb⟩ := hok
  unfold B_law14_CachePlays_c3
  have hTn : T.length ≤ 4096 := by have := hc.fits; omega
  have hDlt := hc.lt
  have hElt := hr.lt
  have hxlt := lt_of_blk hxb
  refine X_of (run_loadAt (v := .bool a.gone) agg_4 ((cell_blk hq).trans rfl)) ?_
  cases hgone : a.gone with
  | true =>
    have kd := Keep.drew (fun _ => False) w
    have hcd := hc.ext kd
    have hrd := hr.ext kd
    have hqd : (drewW w).heap[q]? = some (.cells a.cs.toArray 32 (0, 0)) := hq
    have hxd : (drewW w).heap[xb]? = some (.cells r.cs.toArray 48 (0, 0)) := hxb
    have hxWd := hxW.trans kd
    have sd : (drewW w).heap.size = w.heap.size := rfl
    rw [condS_bool, if_pos rfl]
    refine ⟨Keep (fun g => D g ∨ E g), Keep.frame _, ?_⟩
    generalize drewW w = wd at kd hcd hrd hqd hxd hxWd sd ⊢
    have hno : ¬ (D q ∨ E q) := by rintro (h | h); exact hDq h; exact hEq h
    rw [XP_field_32_1]
    refine XR_ok (Keep.frame _) (fun w' kk => run_loadAt (v := .int .i64 a.s) agg_3 ((cell_blk (kk.get hno hqd)).trans rfl)) ?_
    rw [XP_field_32_1]
    refine XR_ok (Keep.frame _) (fun w' kk => run_loadAt (v := .int .i64 a.s) agg_3 ((cell_blk (kk.get hno hqd)).trans rfl)) ?_
    rw [r8, r10]
    refine Drop_spec hcd hin.i64 ?_
    intro w1 hk1 hc1
    refine ⟨hk1.mono (fun g _ h => .inl h), ?_⟩
    have hr1 := hrd.keep hk1 (fun g hg hd => hDE g hd hg)
    refine RDrop_spec hr1 (by omega) hc.nodup ?_
    intro w2 hk2 hr2
    refine ⟨hk2.mono (fun g _ h => .inr h), ?_⟩
    have s1 := hk1.size
    have s2 := hk2.size
    have eb : (decide (a.s ∈ shs T) != decide (a.s ∈ shs T)) = false := by simp
    (repeat (first  | simp only [XP_extract0, XP_extract1, XP_extract2, XP_extract3, X_extract0, X_extract1, X_extract2, X_extract3, X_nilS, X_eql_nil_24, X_neq_nil_24, X_eql_nil_103, X_neq_nil_103, X_eql, X_neq, X_lss, X_leq, X_gtr, X_geq, X_not, X_min, X_max, X_len_79, X_len_35, XP_nilS, XP_eql, XP_neq, XP_lss, XP_leq, XP_gtr, XP_geq, XP_not, XP_min, XP_max, XP_len_79, XP_eql_nil_24, X_str_eql, X_str_neq, XP_str_eql, XP_str_neq, GS, gs_u, decide_true, decide_false, Option.isNone_some, Option.isSome_some, Option.isNone_none, Option.isSome_none, eq_self, Bool.not_true, Bool.not_false, Int.reduceEq, Int.reduceNe, Int.reduceLT, Int.reduceLE, Int.reduceGT, Int.reduceGE, XP_neq_bool_4, eb]))
    have hc2 := hc1.keep hk2 hDE
    have hxb2 := hk2.get hEx (hk1.get hDx hxd)
    have hTn2 : (dropT T a.s).length ≤ 4096 := Nat.le_trans (List.length_filter_le _ _) hTn
    refine plays_c1 hc2 hr2 hxb2 hTn2 r5 r8 r10 ?_
    intro ρ' w' hx' hs'
    refine hgo ρ' w' _ _ _ ⟨(Ext.seq (Ext.seq hxWd hk1 hDW) hk2 hEW).trans hx', hc2.ext hx', hr2.ext hx', hDW, ?_, ?_, hDx, ?_, Ext.get hx' hxb2⟩ hs'
    · rintro g (hg | hg)
      · exact hEW g hg
      · have := hxWd.size; omega
    · rintro g hg (he | he)
      · exact hDE g hg he
      · have := hDlt g hg; omega
    · rintro (he | he)
      · exact hEx he
      · omega
  | false =>
    rw [condS_bool, if_neg (by decide)]
    refine X_of (emp29 w) ?_
    have hx1 := newB_ext w #[] 48
    have ho1 : OwnK 35 48 Ex.cs (newB w #[] 48) w.heap.size (.slice (some ⟨w.heap.size, 0, none⟩) 0 0) [] := ownK_empty w
    generalize newB w #[] 48 = w1 at hx1 ho1 ⊢
    rw [X_field_32_2]
    refine X_of (run_loadAt (v := a.v) agg_29 ((cell_blk (Ext.get hx1 hq)).trans rfl)) ?_
    refine X_appendK Try.underlying29 el_48 (by decide) Ex.cs_len (fun x hx => Ex.one x) ho1 (hin.row.ext (hxW.trans hx1)) (by simp; omega) (by decide) hx1.size ?_
    intro vo w2 ho2 hk2
    have hx2 : Ext w w2 := Ext.seq hx1 hk2 (fun g hg => (ho1.lt g hg.symm).1)
    rw [List.nil_append] at ho2
    have hq2 := Ext.get hx2 hq
    have s2 := hx2.size
    rw [X_field_32_1]
    refine X_of (run_loadAt (v := .int .i64 a.s) agg_3 ((cell_blk hq2).trans rfl)) ?_
    rw [X_field_32_3]
    refine X_of (run_loadAt (v := .int .u64 (a.d : Int)) agg_30 ((cell_blk hq2).trans rfl)) ?_
    rw [r8, r10]
    refine Load_spec (hc.ext hx2) hin.i64 (OwnK.rowK (by decide) Ex.cs_len ho2) (by omega) hin.u64 (fun h0 g hg hgD => ?_) ?_
    · have := (ho2.lt g hg).1
      have := hDlt g hgD
      omega
    intro w3 hk3 hc3
    have hq3 := hk3.get hDq hq2
    have s3 := hk3.size
    rw [X_field_32_1]
    refine X_of (run_loadAt (v := .int .i64 a.s) agg_3 ((cell_blk hq3).trans rfl)) ?_
    rw [X_field_32_2]
    refine X_of (run_loadAt (v := a.v) agg_29 ((cell_blk hq3).trans rfl)) ?_
    rw [X_field_32_3]
    refine X_of (run_loadAt (v := .int .u64 (a.d : Int)) agg_30 ((cell_blk hq3).trans rfl)) ?_
    have hx03 : Ext W w3 := Ext.seq (hxW.trans hx2) hk3 hDW
    have hr3 := (hr.ext hx2).keep hk3 (fun g hg hd => hDE g hd hg)
    refine RLoad_spec hr3 (by omega) hc.nodup hc.fits (hin.row.ext hx03) (by omega) hin.u64 (fun h0 g hg hgE => ?_) ?_
    · have h1 := hin.row.blk_lt h0 (fun x _ => by rw [Ex.cs_len]; omega) g hg
      have := hEW g hgE
      omega
    intro w4 hk4 hr4
    have s4 := hk4.size
    have hc4 := hc3.keep hk4 (fun g hg he => by
      rcases hg with hg | hg
      · exact hDE g hg he
      · have := hElt g he; omega)
    have hx04 : Ext W w4 := Ext.seq hx03 hk4 hEW
    have hxb4 := hk4.get hEx (hk3.get hDx (Ext.get hx2 hxb))
    generalize hTT : loadT T n a.s a.rows a.d = T' at hc4 hr4
    have hownD : ∀ g, vo.ownBlock = some g → ¬ (D g ∨ (w2.heap.size ≤ g ∧ g < w3.heap.size)) := by
      rintro g hg (h | h)
      · have := (ho2.lt g hg).1
        have := hDlt g h
        omega
      · have := (ho2.lt g hg).2
        omega
    have hownE : ∀ g, vo.ownBlock = some g → ¬ (E g ∨ (w3.heap.size ≤ g ∧ g < w4.heap.size)) := by
      rintro g hg (h | h)
      · have := (ho2.lt g hg).1
        have := hElt g h
        omega
      · have := (ho2.lt g hg).2
        omega
    have ho4 := (ho2.keep hk3 (fun g hg h => hownD g hg (.inl h))).keep hk4 (fun g hg h => hownE g hg (.inl h))
    have hown0 : ∀ g, vo.ownBlock = some g → w.heap.size ≤ g := fun g hg => (ho2.lt g hg).1
    obtain ⟨av, cv, ev⟩ := (OwnK.rowK (by decide) Ex.cs_len ho4).slice
    rw [ev, X_len_29, ← ev]
    generalize hN : a.rows.length = N at ev hsm ⊢
    refine loopG 2 (fun ρ wr => ∃ j : Nat, j ≤ N ∧ Keep (fun g => vo.ownBlock = some g) w4 wr ∧ (0 < N → ∃ g cap cs, vo = .slice (some ⟨g, 0, none⟩) N cap ∧ wr.heap[g]? = some (.cells cs 48 (0, 0)) ∧ cs.size = cap * 35 ∧ N ≤ cap) ∧ ρ 91 = .int .i64 (j : Int) ∧ ρ 90 = .int .i64 (N : Int) ∧ ρ 13 = vo ∧ ∀ i, Slot i → ρ i = ρ1 i)
      (fun ρ wr => match ρ 91 with | .int _ s => (N - s).toNat | _ => 0)
      (fun ρ wr => Keep (fun g => vo.ownBlock = some g) w4 wr ∧ ∀ i, Slot i → ρ i = ρ1 i) ?_ ?_ ?_
    · refine ⟨0, by omega, Keep.refl _ _, fun h0 => ?_, rfl, rfl, rfl, ?_⟩
      · rcases ho4.2 with ⟨_, h⟩ | ⟨g, cap, cur, hv, hg, hh, hnc, hm, hs, ht⟩
        · omega
        · rw [hN] at hv hnc
          exact ⟨g, cap, cur, hv, hh, hs, hnc⟩
      · intro j hj
        rcases hj with rfl | rfl | rfl | rfl | rfl | rfl | rfl <;> rfl
    · rintro J hJ ρ wr ⟨j, hj, hk, hcell, q91, q90, q13, qs⟩
      rw [q91, q90, q13, X_lss, condS_bool]
      by_cases hje : j = N
      · rw [if_neg (by simp; omega)]
        refine hJ _ _ ⟨hk, fun i hi => ?_⟩
        have := qs i hi
        rcases hi with rfl | rfl | rfl | rfl | rfl | rfl | rfl <;> exact this
      rw [if_pos (by simp; omega)]
      obtain ⟨g, cap, cs, hv, hg, hcs, hcap⟩ := hcell (by omega)
      subst hv
      refine X_of (run_build48 _) ?_
      refine X_of (ix Try.underlying29 info_48 j rfl (by omega) _) ?_
      rw [add_plain, Nat.zero_add, sz_48]
      refine XU_storeAggAt info_48 hg (by rw [hcs]; have := Nat.mul_le_mul_right 35 (show j + 1 ≤ cap by omega); simp only [List.length_append, List.length_replicate, List.length_cons, List.length_nil]; omega) (by rw [sz_48]; rfl) (by
        intro u hu
        simp only [List.mem_append, List.mem_replicate, List.mem_cons, List.not_mem_nil, or_false] at hu
        rcases hu with (⟨_, rfl⟩ | rfl) | rfl | rfl <;> rfl) ?_
      rw [X_add]
      show _ ∧ _
      refine ⟨⟨j + 1, by omega, hk.trans ((setAt_keep _ _ _ _ _).mono (fun q _ hq => by rw [hq]; rfl)), fun _ => ⟨g, cap, _, rfl, setAt_same (lt_of_blk hg), ?_, hcap⟩, next64 (n := 1000) (by decide) (by omega), q90, q13, fun i hi => ?_⟩, ?_⟩
      · have := Nat.mul_le_mul_right 35 (show j + 1 ≤ cap by omega)
        simp only [List.size_toArray, List.length_append, List.length_take, List.length_drop, Array.length_toList, List.length_replicate, List.length_cons, List.length_nil]
        omega
      · have := qs i hi
        rcases hi with rfl | rfl | rfl | rfl | rfl | rfl | rfl <;> exact this
      · show (_ - IntKind.i64.wrap _).toNat < _
        rw [w64 (by omega) (by omega)]
        first | omega | (show _ < (_ : Int).toNat; omega)
    · rintro ρ wr ⟨hk, qs⟩
      have hcr := hc4.keep hk (fun g hg h => hownD g h hg)
      have hrr := hr4.keep hk (fun g hg h => hownE g h hg)
      have hxr := hk.get (fun h => by have := hown0 xb h; omega) hxb4
      have hTn2 : T'.length ≤ 4096 := by have := hcr.fits; omega
      show B_law14_CachePlays_c2 ρ wr K Q1 J2
      refine plays_c2 hcr hrr hxr hTn2 ((qs 5 (by decide)).trans r5) ((qs 8 (by decide)).trans r8) ((qs 10 (by decide)).trans r10) ?_
      intro ρ' w' hx' hs'
      refine hgo ρ' w' _ _ _ ⟨(Ext.seq hx04 hk (fun g hg => by have := hown0 g hg; have := hxW.size; omega)).trans hx', hcr.ext hx', hrr.ext hx', ?_, ?_, ?_, ?_, ?_, Ext.get hx' hxr⟩ (fun i hi => (hs' i hi).trans (qs i hi))
      · rintro g (hg | hg)
        · exact hDW g hg
        · have := hxW.size; omega
      · rintro g (hg | hg)
        · exact hEW g hg
        · have := hx03.size; omega
      · rintro g (hg | hg) (he | he)
        · exact hDE g hg he
        · have := hDlt g hg; omega
        · have := hElt g he; omega
        · omega
      · rintro (hg | hg)
        · exact hDx hg
        · omega
      · rintro (hg | hg)
        · exact hEx hg
        · omega
theorem run_build52 (n : Int) (w : World) : (Instr.build 52 #[(1, .int .i64 n)]).run Try.prog w = .ok (.agg #[.slice none 0 0, .int .i64 n]) w := by kernel_rfl
theorem run_nil24 (o1 o2 : Operand) (w : World) : (binOpG .eql 24 o1 o2 (.pointer none) (.pointer none)).run Try.prog w = .ok (.bool true) w := by kernel_rfl
set_option maxRecDepth 8000 in
set_option maxHeartbeats 4000000 in
theorem plays_c4 {x0 x1 x2 : Value} {cb rb xb n : Nat} {r : Ex} {D E : Nat → Prop} {acts : List Ac} {u : Value} {w : World} {v1 v2 v3 v4 v5 v6 v7 v8 v9 v10 v11 : Value} (W : World) (hn : n ≤ 4096) (hri : I64 r.off) (hok : PlayOk W w D E cb rb xb n r [])
    (hu : RowK 4 Ac.cs W u acts) (hin : ∀ a ∈ acts, a.In W) (hall : ∀ a ∈ acts, a.rows.length ≤ 50) :
    B_law14_CachePlays_c4 (fun v w' => v = .bool true ∧ Ext W w') x0 x1 x2 (.int .i64 (acts.length : Int)) u (ptr rb) v1 v2 v3 v4 v5 (ptr cb) v6 v7 v8 v9 v10 v11 (.bool true) (ptr xb) w := by
  unfold B_law14_CachePlays_c4
  have hal : acts.length ≤ 9223372036854775807 := by
    obtain ⟨_, c, _, g1, g2, _⟩ := hu
    omega
  refine loopG 0 (fun ρ wr => ∃ (i : Nat) (T : Tbl) (D E : Nat → Prop), i ≤ acts.length ∧ PlayOk W wr D E cb rb xb n r T ∧ ρ 55 = .int .i64 (i : Int) ∧ ρ 54 = .int .i64 (acts.length : Int) ∧ ρ 53 = u ∧ ρ 10 = ptr rb ∧ ρ 8 = ptr cb ∧ ρ 7 = .bool true ∧ ρ 5 = ptr xb)
    (fun ρ wr => match ρ 55 with | .int _ s => (acts.length - s).toNat | _ => 0)
    (fun ρ wr => ∃ (T : Tbl) (D E : Nat → Prop), PlayOk W wr D E cb rb xb n r T ∧ ρ 10 = ptr rb ∧ ρ 8 = ptr cb ∧ ρ 7 = .bool true ∧ ρ 5 = ptr xb) ?_ ?_ ?_
  · exact ⟨0, [], D, E, by omega, hok, rfl, rfl, rfl, rfl, rfl, rfl, rfl⟩
  · rintro J hJ ρ wr ⟨i, T, D, E, hi, hok, r55, r54, r53, r10, r8, r7, r5⟩
    rw [r55, r54, r53, X_lss, condS_bool]
    by_cases hie : i = acts.length
    · rw [if_neg (by simp; omega)]
      exact hJ _ _ ⟨T, D, E, hok, r10, r8, r7, r5⟩
    rw [if_pos (by simp; omega)]
    have hlt : i < acts.length := by omega
    have hinA := hin _ (List.getElem_mem hlt)
    have hsml := hall _ (List.getElem_mem hlt)
    refine joinS_of (fun ρ2 w2 => ∃ (T : Tbl) (D E : Nat → Prop), PlayOk W w2 D E cb rb xb n r T ∧ ∀ i, Slot i → ρ2 i = ρ i) ?_ ?_
    · rintro ρ2 w2 ⟨T2, D2, E2, hok2, hs2⟩
      rw [hs2 55 (by decide), r55, X_add]
      show _ ∧ _
      refine ⟨⟨i + 1, T2, D2, E2, by omega, hok2, next64 (n := 9223372036854775806) (by decide) (by omega), (hs2 54 (by decide)).trans r54, (hs2 53 (by decide)).trans r53, (hs2 10 (by decide)).trans r10, (hs2 8 (by decide)).trans r8, (hs2 7 (by decide)).trans r7, (hs2 5 (by decide)).trans r5⟩, ?_⟩
      show (_ - IntKind.i64.wrap _).toNat < _
      rw [w64 (by omega) (by omega)]
      first | omega | (show _ < (_ : Int).toNat; omega)
    intro J2 hJ2
    refine X_takeAct (hu.ext hok.1) hlt hinA ?_
    intro u1 u2 q w4 hx4 hq hqb
    generalize acts[i] = a at hinA hqb hsml
    obtain ⟨g1, g2, g3, g4, g5, g6, g7, g8, g9⟩ := hok
    have hok4 : PlayOk W w4 D E cb rb xb n r T := ⟨g1.trans hx4, g2.ext hx4, g3.ext hx4, g4, g5, g6, g7, g8, Ext.get hx4 g9⟩
    rw [X_field_32_0]
    refine plays_c3 W hn hok4 hqb (fun h => by have := g2.lt q h; omega) (fun h => by have := g3.lt q h; omega) hinA hsml r5 r8 r10 ?_
    intro ρ' w' T' D' E' hok' hs'
    exact hJ2 _ _ ⟨T', D', E', hok', hs'⟩
  · rintro ρ wr ⟨T, D, E, ⟨g1, g2, g3, g4, g5, g6, g7, g8, g9⟩, r10, r8, r7, r5⟩
    have hTn : T.length ≤ 4096 := by have := g2.fits; omega
    have hlT : (shs T).length = T.length := List.length_map ..
    show CALL _ 27 #[ρ 10] wr _
    rw [r10]
    refine RShelves_spec g3 (by omega) ?_
    intro u1 w1 hx1 hu1
    obtain ⟨a1, c1, e1⟩ := hu1.slice
    rw [e1, X_len_35, ← e1, hlT]
    refine loopG 4 (fun ρ6 w2 => ∃ j : Nat, j ≤ T.length ∧ Ext w1 w2 ∧ ρ6 133 = .int .i64 (j : Int) ∧ ρ6 132 = .int .i64 (T.length : Int) ∧ ρ6 131 = u1 ∧ ρ6 19 = .bool (decide (r.off ∈ (shs T).take j)) ∧ ρ6 8 = ptr cb ∧ ρ6 7 = .bool true ∧ ρ6 5 = ptr xb)
      (fun ρ wr => match ρ 133 with | .int _ s => (T.length - s).toNat | _ => 0)
      (fun ρ6 w2 => Ext w1 w2 ∧ ρ6 19 = .bool (decide (r.off ∈ shs T)) ∧ ρ6 8 = ptr cb ∧ ρ6 7 = .bool true ∧ ρ6 5 = ptr xb) ?_ ?_ ?_
    · exact ⟨0, by omega, Keep.refl _ _, rfl, rfl, rfl, rfl, r8, r7, r5⟩
    · rintro J hJ ρ6 w2 ⟨j, hj, hx2, q133, q132, q131, q19, q8, q7, q5⟩
      rw [q133, q132, q131, q19, X_lss, condS_bool]
      by_cases hje : j = T.length
      · rw [if_neg (by simp; omega)]
        rw [List.take_of_length_le (by omega)] at q19
        exact hJ _ _ ⟨hx2, q19, q8, q7, q5⟩
      rw [if_pos (by simp; omega)]
      have hlt : j < (shs T).length := by omega
      obtain ⟨g, hix, hc, _⟩ := int_at (hu1.ext hx2) hlt
      have hts := List.take_succ_eq_append_getElem hlt
      generalize (shs T)[j] = s at hc hts
      refine X_of (hix _) ?_
      refine X_of (run_loadAt agg_3 hc) ?_
      have step : ∀ (b : Bool) (ρ' : Env), b = decide (r.off ∈ (shs T).take (j + 1)) → ρ' 133 = .int .i64 (IntKind.i64.wrap ((j : Int) + 1)) → ρ' 132 = .int .i64 (T.length : Int) → ρ' 131 = u1 → ρ' 19 = .bool b → ρ' 8 = ptr cb → ρ' 7 = .bool true → ρ' 5 = ptr xb →
        (∃ j : Nat, j ≤ T.length ∧ Ext w1 w2 ∧ ρ' 133 = .int .i64 (j : Int) ∧ ρ' 132 = .int .i64 (T.length : Int) ∧ ρ' 131 = u1 ∧ ρ' 19 = .bool (decide (r.off ∈ (shs T).take j)) ∧ ρ' 8 = ptr cb ∧ ρ' 7 = .bool true ∧ ρ' 5 = ptr xb) ∧ (match ρ' 133 with | .int _ s => ((T.length : Int) - s).toNat | _ => 0) < ((T.length : Int) - (j : Int)).toNat := by
        intro b ρ' hb e133 e132 e131 e19 e8 e7 e5
        refine ⟨⟨j + 1, by omega, hx2, e133.trans (next64 (n := 1000000) (by decide) (by omega)), e132, e131, by rw [e19, hb], e8, e7, e5⟩, ?_⟩
        rw [e133]
        show (_ - IntKind.i64.wrap _).toNat < _
        rw [w64 (by omega) (by omega)]
        omega
      rw [hts] at step
      by_cases hm : r.off ∈ (shs T).take j
      · have cm : decide (r.off ∈ (shs T).take j) = true := decide_eq_true hm
        (repeat (first  | simp only [XP_extract0, XP_extract1, XP_extract2, XP_extract3, X_extract0, X_extract1, X_extract2, X_extract3, X_nilS, X_eql_nil_24, X_neq_nil_24, X_eql_nil_103, X_neq_nil_103, X_eql, X_neq, X_lss, X_leq, X_gtr, X_geq, X_not, X_min, X_max, X_len_79, X_len_35, XP_nilS, XP_eql, XP_neq, XP_lss, XP_leq, XP_gtr, XP_geq, XP_not, XP_min, XP_max, XP_len_79, XP_eql_nil_24, X_str_eql, X_str_neq, XP_str_eql, XP_str_neq, GS, gs_u, decide_true, decide_false, Option.isNone_some, Option.isSome_some, Option.isNone_none, Option.isSome_none, eq_self, Bool.not_true, Bool.not_false, Int.reduceEq, Int.reduceNe, Int.reduceLT, Int.reduceLE, Int.reduceGT, Int.reduceGE, cm]))
        rw [X_add]
        exact step true _ (by rw [decide_eq_true (List.mem_append.2 (.inl hm))]) rfl q132 q131 rfl q8 q7 q5
      · have cm : decide (r.off ∈ (shs T).take j) = false := decide_eq_false hm
        rw [q5]
        (repeat (first  | simp only [XP_extract0, XP_extract1, XP_extract2, XP_extract3, X_extract0, X_extract1, X_extract2, X_extract3, X_nilS, X_eql_nil_24, X_neq_nil_24, X_eql_nil_103, X_neq_nil_103, X_eql, X_neq, X_lss, X_leq, X_gtr, X_geq, X_not, X_min, X_max, X_len_79, X_len_35, XP_nilS, XP_eql, XP_neq, XP_lss, XP_leq, XP_gtr, XP_geq, XP_not, XP_min, XP_max, XP_len_79, XP_eql_nil_24, X_str_eql, X_str_neq, XP_str_eql, XP_str_neq, GS, gs_u, decide_true, decide_false, Option.isNone_some, Option.isSome_some, Option.isNone_none, Option.isSome_none, eq_self, Bool.not_true, Bool.not_false, Int.reduceEq, Int.reduceNe, Int.reduceLT, Int.reduceLE, Int.reduceGT, Int.reduceGE, cm, X_field_48_1, X_field_46_0]))
        refine X_of (run_loadAt (v := .int .i64 r.off) agg_3 ((cell_blk (Ext.get (hx1.trans hx2) g9)).trans ?_)) ?_
        · have := r.plAt (j := 0) rfl
          simpa using this
        (repeat (first  | simp only [XP_extract0, XP_extract1, XP_extract2, XP_extract3, X_extract0, X_extract1, X_extract2, X_extract3, X_nilS, X_eql_nil_24, X_neq_nil_24, X_eql_nil_103, X_neq_nil_103, X_eql, X_neq, X_lss, X_leq, X_gtr, X_geq, X_not, X_min, X_max, X_len_79, X_len_35, XP_nilS, XP_eql, XP_neq, XP_lss, XP_leq, XP_gtr, XP_geq, XP_not, XP_min, XP_max, XP_len_79, XP_eql_nil_24, X_str_eql, X_str_neq, XP_str_eql, XP_str_neq, GS, gs_u, decide_true, decide_false, Option.isNone_some, Option.isSome_some, Option.isNone_none, Option.isSome_none, eq_self, Bool.not_true, Bool.not_false, Int.reduceEq, Int.reduceNe, Int.reduceLT, Int.reduceLE, Int.reduceGT, Int.reduceGE, cm]))
        rw [X_add]
        refine step (decide (s = r.off)) _ ?_ rfl q132 q131 rfl q8 q7 (by first | exact q5 | rfl)
        apply Bool.eq_iff_iff.2
        simp only [decide_eq_true_eq, List.mem_append, List.mem_singleton]
        exact ⟨fun h => .inr h.symm, fun h => h.elim (fun h => absurd h hm) (fun h => h.symm)⟩
    · rintro ρ7 w3 ⟨hx3, q19, q8, q7, q5⟩
      rw [inBlockS_same, thenS_normal, q19, q8, q7, q5]
      (repeat (first  | simp only [XP_extract0, XP_extract1, XP_extract2, XP_extract3, X_extract0, X_extract1, X_extract2, X_extract3, X_nilS, X_eql_nil_24, X_neq_nil_24, X_eql_nil_103, X_neq_nil_103, X_eql, X_neq, X_lss, X_leq, X_gtr, X_geq, X_not, X_min, X_max, X_len_79, X_len_35, XP_nilS, XP_eql, XP_neq, XP_lss, XP_leq, XP_gtr, XP_geq, XP_not, XP_min, XP_max, XP_len_79, XP_eql_nil_24, X_str_eql, X_str_neq, XP_str_eql, XP_str_neq, GS, gs_u, decide_true, decide_false, Option.isNone_some, Option.isSome_some, Option.isNone_none, Option.isSome_none, eq_self, Bool.not_true, Bool.not_false, Int.reduceEq, Int.reduceNe, Int.reduceLT, Int.reduceLE, Int.reduceGT, Int.reduceGE, X_field_48_1, X_field_46_0]))
      refine X_of (run_loadAt (v := .int .i64 r.off) agg_3 ((cell_blk (Ext.get (hx1.trans hx3) g9)).trans ?_)) ?_
      · have := r.plAt (j := 0) rfl
        simpa using this
      (repeat (first  | simp only [XP_extract0, XP_extract1, XP_extract2, XP_extract3, X_extract0, X_extract1, X_extract2, X_extract3, X_nilS, X_eql_nil_24, X_neq_nil_24, X_eql_nil_103, X_neq_nil_103, X_eql, X_neq, X_lss, X_leq, X_gtr, X_geq, X_not, X_min, X_max, X_len_79, X_len_35, XP_nilS, XP_eql, XP_neq, XP_lss, XP_leq, XP_gtr, XP_geq, XP_not, XP_min, XP_max, XP_len_79, XP_eql_nil_24, X_str_eql, X_str_neq, XP_str_eql, XP_str_neq, GS, gs_u, decide_true, decide_false, Option.isNone_some, Option.isSome_some, Option.isNone_none, Option.isSome_none, eq_self, Bool.not_true, Bool.not_false, Int.reduceEq, Int.reduceNe, Int.reduceLT, Int.reduceLE, Int.reduceGT, Int.reduceGE]))
      refine Has_spec (g2.ext (hx1.trans hx3)) hri ?_
      (repeat (first  | simp only [XP_extract0, XP_extract1, XP_extract2, XP_extract3, X_extract0, X_extract1, X_extract2, X_extract3, X_nilS, X_eql_nil_24, X_neq_nil_24, X_eql_nil_103, X_neq_nil_103, X_eql, X_neq, X_lss, X_leq, X_gtr, X_geq, X_not, X_min, X_max, X_len_79, X_len_35, XP_nilS, XP_eql, XP_neq, XP_lss, XP_leq, XP_gtr, XP_geq, XP_not, XP_min, XP_max, XP_len_79, XP_eql_nil_24, X_str_eql, X_str_neq, XP_str_eql, XP_str_neq, GS, gs_u, decide_true, decide_false, Option.isNone_some, Option.isSome_some, Option.isNone_none, Option.isSome_none, eq_self, Bool.not_true, Bool.not_false, Int.reduceEq, Int.reduceNe, Int.reduceLT, Int.reduceLE, Int.reduceGT, Int.reduceGE]))
      rw [X_eql_bool_4]
      exact ⟨by simp, (g1.trans hx1).trans hx3⟩
set_option maxRecDepth 8000 in
set_option maxHeartbeats 4000000 in
theorem cachePlays_run {m : Int} {va : Value} {l : List Ac} {r : Ex} (hm : I64 m) (W : World) (hl : RowK 4 Ac.cs W va l) (hin : ∀ a ∈ l, a.In W) :
    CALL Try.prog 5 #[.int .i64 m, va, .agg r.cs.toArray] W (fun v w' => v = .bool true ∧ Ext W w') := by
  apply call_law14_CachePlays
  unfold B_law14_CachePlays
  refine X_box ?_
  have hx0 := newB_ext W (Value.agg r.cs.toArray).cells 48
  have hg0 : (newB W (Value.agg r.cs.toArray).cells 48).heap[W.heap.size]? = some (.cells r.cs.toArray 48 (0, 0)) := newB_get W _ 48
  generalize newB W (Value.agg r.cs.toArray).cells 48 = w0 at hx0 hg0 ⊢
  generalize hxbe : W.heap.size = xb at hg0
  refine shown14 ?_
  intro w1 hx1
  by_cases hbad : m < 0 ∨ 4096 < m
  · refine New_bad hbad ?_
    have e1 : decide ((1 : Int) = 1) = true := rfl
    rcases hbad with h | h
    · have c1 : decide (m < 0) = true := decide_eq_true h
      (repeat (first  | simp only [XP_extract0, XP_extract1, XP_extract2, XP_extract3, X_extract0, X_extract1, X_extract2, X_extract3, X_nilS, X_eql_nil_24, X_neq_nil_24, X_eql_nil_103, X_neq_nil_103, X_eql, X_neq, X_lss, X_leq, X_gtr, X_geq, X_not, X_min, X_max, X_len_79, X_len_35, XP_nilS, XP_eql, XP_neq, XP_lss, XP_leq, XP_gtr, XP_geq, XP_not, XP_min, XP_max, XP_len_79, XP_eql_nil_24, X_str_eql, X_str_neq, XP_str_eql, XP_str_neq, GS, gs_u, decide_true, decide_false, Option.isNone_some, Option.isSome_some, Option.isNone_none, Option.isSome_none, eq_self, Bool.not_true, Bool.not_false, Int.reduceEq, Int.reduceNe, Int.reduceLT, Int.reduceLE, Int.reduceGT, Int.reduceGE, c1, e1]))
      exact ⟨trivial, hx0.trans hx1⟩
    · have c1 : decide (m < 0) = false := decide_eq_false (by omega)
      have c2 : decide (m > 4096) = true := decide_eq_true (by omega)
      (repeat (first  | simp only [XP_extract0, XP_extract1, XP_extract2, XP_extract3, X_extract0, X_extract1, X_extract2, X_extract3, X_nilS, X_eql_nil_24, X_neq_nil_24, X_eql_nil_103, X_neq_nil_103, X_eql, X_neq, X_lss, X_leq, X_gtr, X_geq, X_not, X_min, X_max, X_len_79, X_len_35, XP_nilS, XP_eql, XP_neq, XP_lss, XP_leq, XP_gtr, XP_geq, XP_not, XP_min, XP_max, XP_len_79, XP_eql_nil_24, X_str_eql, X_str_neq, XP_str_eql, XP_str_neq, GS, gs_u, decide_true, decide_false, Option.isNone_some, Option.isSome_some, Option.isNone_none, Option.isSome_none, eq_self, Bool.not_true, Bool.not_false, Int.reduceEq, Int.reduceNe, Int.reduceLT, Int.reduceLE, Int.reduceGT, Int.reduceGE, c1, c2, e1]))
      exact ⟨trivial, hx0.trans hx1⟩
  obtain ⟨n, rfl⟩ : ∃ n : Nat, m = (n : Int) := ⟨m.toNat, by omega⟩
  have hn2 : n ≤ 4096 := by omega
  refine New_ok (room := n) (by omega) ?_
  intro cb w2 hx2 hc2
  have c1 : decide ((n : Int) < 0) = false := decide_eq_false (by omega)
  have c2 : decide ((n : Int) > 4096) = false := decide_eq_false (by omega)
  have e0 : decide ((0 : Int) ≠ 0) = false := rfl
  (repeat (first  | simp only [XP_extract0, XP_extract1, XP_extract2, XP_extract3, X_extract0, X_extract1, X_extract2, X_extract3, X_nilS, X_eql_nil_24, X_neq_nil_24, X_eql_nil_103, X_neq_nil_103, X_eql, X_neq, X_lss, X_leq, X_gtr, X_geq, X_not, X_min, X_max, X_len_79, X_len_35, XP_nilS, XP_eql, XP_neq, XP_lss, XP_leq, XP_gtr, XP_geq, XP_not, XP_min, XP_max, XP_len_79, XP_eql_nil_24, X_str_eql, X_str_neq, XP_str_eql, XP_str_neq, GS, gs_u, decide_true, decide_false, Option.isNone_some, Option.isSome_some, Option.isNone_none, Option.isSome_none, eq_self, Bool.not_true, Bool.not_false, Int.reduceEq, Int.reduceNe, Int.reduceLT, Int.reduceLE, Int.reduceGT, Int.reduceGE, c1, c2, e0]))
  refine X_of (run_build52 _ _) ?_
  refine X_box ?_
  have hx3 := newB_ext w2 (Value.agg #[.slice none 0 0, .int .i64 (n : Int)]).cells 52
  have hg3 : (newB w2 (Value.agg #[.slice none 0 0, .int .i64 (n : Int)]).cells 52).heap[w2.heap.size]? = some (.cells #[.slice none 0 0, .int .i64 (n : Int)] 52 (0, 0)) := newB_get w2 _ 52
  have hs3 : (newB w2 (Value.agg #[.slice none 0 0, .int .i64 (n : Int)]).cells 52).heap.size = w2.heap.size + 1 := newB_size _ _ _
  generalize newB w2 (Value.agg #[.slice none 0 0, .int .i64 (n : Int)]).cells 52 = w3 at hx3 hg3 hs3 ⊢
  have s0 := hx0.size
  have s1 := hx1.size
  have s2 := hx2.size
  have hl0 := lt_of_blk hg0
  have hx03 := ((hx0.trans hx1).trans hx2).trans hx3
  generalize hrbe : w2.heap.size = rb at hg3
  have hr3 : RefAt w3 (fun g => g = rb) rb n [] := ⟨⟨.slice none 0 0, [], hg3, ownK_nil _ _, rfl, by simp, rfl, by intro g hg; cases hg⟩, fun g hg => by rw [hg]; omega⟩
  refine FewA_spec hl hx03 hin ?_
  intro k u hm1 hm2 hall hu
  have hin' : ∀ a ∈ l.take k, a.In W := fun a ha => hin a (List.mem_of_mem_take ha)
  generalize l.take k = acts at hall hu hin'
  obtain ⟨au, cu, eu⟩ := hu.slice
  rw [eu, X_len_22, ← eu]
  refine plays_c4 (D := fun g => w1.heap.size ≤ g ∧ g < w2.heap.size) (E := fun g => g = rb) W hn2 ⟨r.o1, r.o2⟩ ⟨hx03, hc2.ext hx3, hr3, fun g hg => by omega, fun g hg => by omega, fun g hg he => by omega, fun h => by omega, fun h => by omega, Ext.get hx3 (Ext.get hx2 (Ext.get hx1 hg0))⟩ hu hin' hall
theorem cachePlays_walk {H : Type} (enc : TypeId × Value → H) (W : World) (v0 v1 v2 : Value) {base : Nat} (ok0 : Value.okWide Try.prog W .any base 3 v0) (ok1 : Value.okWide Try.prog W .any base 22 v1) (ok2 : Value.okWide Try.prog W .any base 48 v2) (d0 : DataW H) (p0 : List MemPlace) (d1 : DataW H) (p1 : List MemPlace) (d2 : DataW H) (p2 : List MemPlace) (h0 : DataW.Trod enc Try.prog W 0 (fun _ => true) true 3 v0 d0 p0) (h1 : DataW.Trod enc Try.prog W 0 (fun _ => true) true 22 v1 d1 p1) (h2 : DataW.Trod enc Try.prog W 0 (fun _ => true) true 48 v2 d2 p2) (hsz : (DataW.weightsEach Try.prog [3, 22, 48] [d0, d1, d2]).all (· ≤ reachBytes) = true) :
    CALL Try.prog 5 #[v0, v1, v2] W (fun v w' => v = .bool true ∧ Ext W w') := by
  obtain ⟨m, rfl, o1, o2⟩ := arg_i64 Try.underlying3 ok0 h0
  obtain ⟨l, hl, hin⟩ := arg_acts ok1 h1
  obtain ⟨r, rfl⟩ := arg_row ok2 h2
  exact cachePlays_run ⟨o1, o2⟩ W hl hin
end
set_option maxRecDepth 100000 in
theorem cachePlays_lifted (os : Os) (started : os.Started) (H : Type) (enc : TypeId × Value → H) :
    ReturnsInHanded {} Try.checked os 5 .any (Rows.cachePlaysSpec.pre6 enc Try.prog Try.f5 Rows.cachePlaysRow.domain false) (Rows.cachePlaysSpec.post enc Try.prog Try.f5 false true false false) := by
  refine returnsInHanded_of_change_sized (C := Try.checked) (by kernel_rfl) started (by kernel_rfl) Try.func5
    (ChangeSpec.witness6 (enc := enc) (C := Try.checked) false ⟨#[], #[(.int .i64 0), (.slice none 0 0), (.agg (List.replicate 32 (Value.int .u8 0) ++ [Value.int .u32 0] ++ [Value.int .i64 0, Value.int .i64 0]).toArray)], []⟩ 8 (by kernel_rfl) (by kernel_rfl) (by kernel_rfl) (by kernel_rfl)) ?_
  intro W base args ds gs before hval0 hW hcnd hsz0 _
  have hval : ∀ (j : Nat) t v, Try.f5.params[j]? = some t → args[j]? = some v → Value.okWide Try.prog W .any base t v := hval0
  have hW' := hW
  obtain ⟨p, q, hA0, hV, rfl, hfz, hnd⟩ := hW
  have hA : DataW.TrodAll enc Try.prog W 0 (fun _ => true) true Try.f5.params.toList args.toList ds p := hA0
  rw [Try.params5] at hA hval
  obtain ⟨v0, vs0, d0, ds0, p0, q0, hargs, rfl, rfl, h0, r0⟩ := trodAll_cons hA
  obtain ⟨v1, vs1, d1, ds1, p1, q1, rfl, rfl, rfl, h1, r1⟩ := trodAll_cons r0
  obtain ⟨v2, vs2, d2, ds2, p2, q2, rfl, rfl, rfl, h2, r2⟩ := trodAll_cons r1
  obtain ⟨rfl, rfl, rfl⟩ := trodAll_nil r2
  obtain rfl : args = #[v0, v1, v2] := by cases args; simp_all
  obtain ⟨rfl, rfl⟩ := trodVars_none hV
  have hsz : (DataW.weightsEach Try.prog [3, 22, 48] [d0, d1, d2]).all (· ≤ reachBytes) = true := hsz0
  have hw := cachePlays_walk enc W v0 v1 v2 (hval 0 3 v0 rfl rfl) (hval 1 22 v1 rfl rfl) (hval 2 48 v2 rfl rfl) d0 p0 d1 p1 d2 p2 h0 h1 h2 hsz
  refine (CALL_calls hw).mono fun e W' he => ?_
  cases e with
  | returned v =>
    obtain ⟨rfl, hx⟩ := he
    exact ⟨_, rfl, law_post (P := Try.prog) laidOut (by kernel_rfl) rfl rfl rfl Try.underlying4 hW' hx⟩
  | panicked c => exact he.elim
  | outgrown => exact he.elim

theorem cachePlays_closed : joinedFacts Try.prog 5 Try.f5 Rows.cachePlaysSpec Rows.cachePlaysRow = true := by
  unfold joinedFacts
  rw [mayEnter_is, liftsFinal_is, make_is]
  kernel_rfl
/-- For every input that the row lets in, cellarage/cellaragelaw14.CachePlays returns true, and what was there stays as it was. -/
theorem cachePlays_holds : Rows.CachePlaysSaid :=
  OpenClaim.holds_of_wide 5 Try.f5 rfl rfl rfl rfl rfl rfl rfl ⟨rfl, rfl, rfl, rfl, rfl⟩ rfl rfl rfl rfl rfl (by kernel_rfl) Try.func5 cachePlays_closed
    (of_decide_eq_true (by kernel_rfl)) (by unfold Func.isWrapper; first | (rw [if_pos (by decide +kernel)]; kernel_rfl) | (rw [if_neg (by decide +kernel)]; exact ⟨rfl, rfl⟩))
    (fun os started H enc _ => cachePlays_lifted os started H enc)
#print axioms cachePlays_holds
end Go.Proofs.Ytlnkdphecinnnaa
