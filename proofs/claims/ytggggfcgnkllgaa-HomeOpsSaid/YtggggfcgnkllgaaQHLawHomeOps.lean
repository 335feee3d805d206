/- cellaragelaw20.HomeOps: a save does no more than its bytes ask for; a load does nothing. -/
import Derived.Test.YtggggfcgnkllgaaQH10
set_option linter.unusedVariables false
set_option linter.unusedSimpArgs false
set_option linter.constructorNameAsVariable false
namespace Go.Proofs.Ytggggfcgnkllgaa
open Go Go.Sh Go.RowKit Go.ChangeShapes Go.WideShapes Go.ChangeAt
open Go.Proofs.Ytggggfcgnkllgaa
section
attribute [local irreducible] X XU XP XR CALL loopS resC closS Value.okWide
set_option maxHeartbeats 1000000 in
set_option maxRecDepth 8000 in
theorem homeOps_run {e : Nat} (he : e < 256) {l : List (Value × List UInt8)} {v1 : Value} (W : World) (hl : Row Prod.fst W v1 l) (hbl : ∀ x ∈ l, Bts W x.1 x.2) :
    CALL Try.prog 38 #[.int .u8 (e : Int), v1] W (fun v w' => v = .bool true ∧ Ext W w') := by
  obtain ⟨a1, c1', ev1⟩ := hl.slice
  have hn64 : l.length ≤ 9223372036854775807 := by
    obtain ⟨_, c, _, h1, h2, _⟩ := hl
    omega
  apply call_law20_HomeOps
  unfold B_law20_HomeOps
  refine shown20 ?_
  intro w1 hx1
  refine X_of (run_rem 5 .u8 _ 8 (by decide) _) ?_
  obtain ⟨n, hn⟩ : ∃ n, n = e % 8 + 1 := ⟨_, rfl⟩
  have er : ((e : Nat) : Int).tmod 8 = ((e % 8 : Nat) : Int) := rfl
  have en : ((e % 8 : Nat) : Int) + 1 = (n : Int) := by omega
  rw [er]
  (repeat (first | with_reducible (first | refine Eq.mpr (B_law20_HomeOps_c3.eq_1 ..) ?_ | refine Eq.mpr (B_law20_HomeOps_c2.eq_1 ..) ?_ | refine Eq.mpr (B_law20_HomeOps_c1.eq_1 ..) ?_) | simp only [XP_extract0, XP_extract1, XP_extract2, XP_extract3, X_extract0, X_extract1, X_extract2, X_extract3, X_nilS, X_eql_nil_74, X_neq_nil_74, X_eql_nil_124, X_neq_nil_124, X_eql, X_neq, X_lss, X_leq, X_gtr, X_geq, X_not, X_min, X_max, X_len_27, X_len_9, X_len_79, XP_nilS, XP_eql, XP_neq, XP_lss, XP_leq, XP_gtr, XP_geq, XP_not, XP_min, XP_max, XP_len_27, XP_len_9, XP_eql_nil_74, X_str_eql, X_str_neq, XP_str_eql, XP_str_neq, GS, gs_u, decide_true, decide_false, Option.isNone_some, Option.isSome_some, Option.isNone_none, Option.isSome_none, eq_self, Bool.not_true, Bool.not_false, Int.reduceEq, Int.reduceNe, Int.reduceLT, Int.reduceLE, Int.reduceGT, Int.reduceGE]))
  rw [X_conv_5_3, w64 (by omega) (by omega)]
  (repeat (first | with_reducible (first | refine Eq.mpr (B_law20_HomeOps_c3.eq_1 ..) ?_ | refine Eq.mpr (B_law20_HomeOps_c2.eq_1 ..) ?_ | refine Eq.mpr (B_law20_HomeOps_c1.eq_1 ..) ?_) | simp only [XP_extract0, XP_extract1, XP_extract2, XP_extract3, X_extract0, X_extract1, X_extract2, X_extract3, X_nilS, X_eql_nil_74, X_neq_nil_74, X_eql_nil_124, X_neq_nil_124, X_eql, X_neq, X_lss, X_leq, X_gtr, X_geq, X_not, X_min, X_max, X_len_27, X_len_9, X_len_79, XP_nilS, XP_eql, XP_neq, XP_lss, XP_leq, XP_gtr, XP_geq, XP_not, XP_min, XP_max, XP_len_27, XP_len_9, XP_eql_nil_74, X_str_eql, X_str_neq, XP_str_eql, XP_str_neq, GS, gs_u, decide_true, decide_false, Option.isNone_some, Option.isSome_some, Option.isNone_none, Option.isSome_none, eq_self, Bool.not_true, Bool.not_false, Int.reduceEq, Int.reduceNe, Int.reduceLT, Int.reduceLE, Int.reduceGT, Int.reduceGE]))
  rw [X_add, w64 (by omega) (by omega), en, X_mul, w64 (by omega) (by omega)]
  (repeat (first | with_reducible (first | refine Eq.mpr (B_law20_HomeOps_c3.eq_1 ..) ?_ | refine Eq.mpr (B_law20_HomeOps_c2.eq_1 ..) ?_ | refine Eq.mpr (B_law20_HomeOps_c1.eq_1 ..) ?_) | simp only [XP_extract0, XP_extract1, XP_extract2, XP_extract3, X_extract0, X_extract1, X_extract2, X_extract3, X_nilS, X_eql_nil_74, X_neq_nil_74, X_eql_nil_124, X_neq_nil_124, X_eql, X_neq, X_lss, X_leq, X_gtr, X_geq, X_not, X_min, X_max, X_len_27, X_len_9, X_len_79, XP_nilS, XP_eql, XP_neq, XP_lss, XP_leq, XP_gtr, XP_geq, XP_not, XP_min, XP_max, XP_len_27, XP_len_9, XP_eql_nil_74, X_str_eql, X_str_neq, XP_str_eql, XP_str_neq, GS, gs_u, decide_true, decide_false, Option.isNone_some, Option.isSome_some, Option.isNone_none, Option.isSome_none, eq_self, Bool.not_true, Bool.not_false, Int.reduceEq, Int.reduceNe, Int.reduceLT, Int.reduceLE, Int.reduceGT, Int.reduceGE]))
  rw [X_add, w64 (by omega) (by omega)]
  have eN : (2 : Int) + 2 * (n : Int) = ((2 + 2 * n : Nat) : Int) := by omega
  rw [eN]
  refine New_disk (fun h => absurd h (by omega)) ?_
  intro m hm _ b w2 hx2 hlow hd2
  obtain rfl : m = 2 + 2 * n := by omega
  have e0 : decide ((0 : Int) ≠ 0) = false := by decide
  (repeat (first | with_reducible (first | refine Eq.mpr (B_law20_HomeOps_c3.eq_1 ..) ?_ | refine Eq.mpr (B_law20_HomeOps_c2.eq_1 ..) ?_ | refine Eq.mpr (B_law20_HomeOps_c1.eq_1 ..) ?_) | simp only [XP_extract0, XP_extract1, XP_extract2, XP_extract3, X_extract0, X_extract1, X_extract2, X_extract3, X_nilS, X_eql_nil_74, X_neq_nil_74, X_eql_nil_124, X_neq_nil_124, X_eql, X_neq, X_lss, X_leq, X_gtr, X_geq, X_not, X_min, X_max, X_len_27, X_len_9, X_len_79, XP_nilS, XP_eql, XP_neq, XP_lss, XP_leq, XP_gtr, XP_geq, XP_not, XP_min, XP_max, XP_len_27, XP_len_9, XP_eql_nil_74, X_str_eql, X_str_neq, XP_str_eql, XP_str_neq, GS, gs_u, decide_true, decide_false, Option.isNone_some, Option.isSome_some, Option.isNone_none, Option.isSome_none, eq_self, Bool.not_true, Bool.not_false, Int.reduceEq, Int.reduceNe, Int.reduceLT, Int.reduceLE, Int.reduceGT, Int.reduceGE]))
  refine HNew_spec hd2 (fun h => absurd h (by rw [new_size]; omega)) ?_
  intro e' he' hok' bh w3 hx3 hbh hv3
  obtain rfl : e' = n := by omega
  rw [new_size] at hok'
  (repeat (first | with_reducible (first | refine Eq.mpr (B_law20_HomeOps_c3.eq_1 ..) ?_ | refine Eq.mpr (B_law20_HomeOps_c2.eq_1 ..) ?_ | refine Eq.mpr (B_law20_HomeOps_c1.eq_1 ..) ?_) | simp only [XP_extract0, XP_extract1, XP_extract2, XP_extract3, X_extract0, X_extract1, X_extract2, X_extract3, X_nilS, X_eql_nil_74, X_neq_nil_74, X_eql_nil_124, X_neq_nil_124, X_eql, X_neq, X_lss, X_leq, X_gtr, X_geq, X_not, X_min, X_max, X_len_27, X_len_9, X_len_79, XP_nilS, XP_eql, XP_neq, XP_lss, XP_leq, XP_gtr, XP_geq, XP_not, XP_min, XP_max, XP_len_27, XP_len_9, XP_eql_nil_74, X_str_eql, X_str_neq, XP_str_eql, XP_str_neq, GS, gs_u, decide_true, decide_false, Option.isNone_some, Option.isSome_some, Option.isNone_none, Option.isSome_none, eq_self, Bool.not_true, Bool.not_false, Int.reduceEq, Int.reduceNe, Int.reduceLT, Int.reduceLE, Int.reduceGT, Int.reduceGE, e0, X_eql_nil_150]))
  have hx03 : Ext W w3 := (hx1.trans hx2).trans hx3
  have hd3 := hd2.ext hx3
  have low3 : ∀ k, foot w3 b k → W.heap.size ≤ k := fun k hk => Nat.le_trans hx1.size (hlow k ((foot_x hx3 (hd2.lt b (foot_self _ _))).1 hk))
  have st0 := hst_new hok'
  rw [ev1]
  (repeat (first | with_reducible (first | refine Eq.mpr (B_law20_HomeOps_c3.eq_1 ..) ?_ | refine Eq.mpr (B_law20_HomeOps_c2.eq_1 ..) ?_ | refine Eq.mpr (B_law20_HomeOps_c1.eq_1 ..) ?_) | simp only [XP_extract0, XP_extract1, XP_extract2, XP_extract3, X_extract0, X_extract1, X_extract2, X_extract3, X_nilS, X_eql_nil_74, X_neq_nil_74, X_eql_nil_124, X_neq_nil_124, X_eql, X_neq, X_lss, X_leq, X_gtr, X_geq, X_not, X_min, X_max, X_len_27, X_len_9, X_len_79, XP_nilS, XP_eql, XP_neq, XP_lss, XP_leq, XP_gtr, XP_geq, XP_not, XP_min, XP_max, XP_len_27, XP_len_9, XP_eql_nil_74, X_str_eql, X_str_neq, XP_str_eql, XP_str_neq, GS, gs_u, decide_true, decide_false, Option.isNone_some, Option.isSome_some, Option.isNone_none, Option.isSome_none, eq_self, Bool.not_true, Bool.not_false, Int.reduceEq, Int.reduceNe, Int.reduceLT, Int.reduceLE, Int.reduceGT, Int.reduceGE]))
  rw [X_len_70, ← ev1]
  generalize Dk.new (2 + 2 * e') = d0 at hd3 st0
  refine loopG 0 (fun ρ wr => ∃ (i : Nat) (d : Dk) (last : List UInt8) (gen : Nat), i ≤ l.length ∧ i ≤ 20 ∧ DiskAt wr b d ∧ HomeAt wr bh b e' ∧ Hst e' (2 + 2 * e') d last gen i ∧ Ext W wr ∧ (∀ k, foot wr b k → W.heap.size ≤ k) ∧
      ρ 41 = .int .i64 (i : Int) ∧ ρ 40 = .int .i64 (l.length : Int) ∧ ρ 1 = v1 ∧ ρ 9 = ptr bh ∧ ρ 7 = ptr b ∧ ρ 5 = .bool true)
    (fun ρ wr => match ρ 41 with | .int _ s => (l.length - s).toNat | _ => 0)
    (fun ρ wr => Ext W wr ∧ ρ 5 = .bool true) ?_ ?_ ?_
  · exact ⟨0, _, _, _, by omega, by omega, hd3, hv3, st0, hx03, low3, rfl, rfl, rfl, rfl, rfl, rfl⟩
  · rintro J hJ ρ wr ⟨i, d, last, gen, hi, hi20, hd, hv, st, hx, low, r41, r40, r1, r9, r7, r5⟩
    (first | with_reducible (first | refine Eq.mpr (B_law20_HomeOps_c3.eq_1 ..) ?_ | refine Eq.mpr (B_law20_HomeOps_c2.eq_1 ..) ?_ | refine Eq.mpr (B_law20_HomeOps_c1.eq_1 ..) ?_))
    rw [r41, r40, r1]
    (repeat (first | with_reducible (first | refine Eq.mpr (B_law20_HomeOps_c3.eq_1 ..) ?_ | refine Eq.mpr (B_law20_HomeOps_c2.eq_1 ..) ?_ | refine Eq.mpr (B_law20_HomeOps_c1.eq_1 ..) ?_) | simp only [XP_extract0, XP_extract1, XP_extract2, XP_extract3, X_extract0, X_extract1, X_extract2, X_extract3, X_nilS, X_eql_nil_74, X_neq_nil_74, X_eql_nil_124, X_neq_nil_124, X_eql, X_neq, X_lss, X_leq, X_gtr, X_geq, X_not, X_min, X_max, X_len_27, X_len_9, X_len_79, XP_nilS, XP_eql, XP_neq, XP_lss, XP_leq, XP_gtr, XP_geq, XP_not, XP_min, XP_max, XP_len_27, XP_len_9, XP_eql_nil_74, X_str_eql, X_str_neq, XP_str_eql, XP_str_neq, GS, gs_u, decide_true, decide_false, Option.isNone_some, Option.isSome_some, Option.isNone_none, Option.isSome_none, eq_self, Bool.not_true, Bool.not_false, Int.reduceEq, Int.reduceNe, Int.reduceLT, Int.reduceLE, Int.reduceGT, Int.reduceGE]))
    by_cases hil : i = l.length
    · have c : decide ((i : Int) < (l.length : Int)) = false := by simp; omega
      (repeat (first | with_reducible (first | refine Eq.mpr (B_law20_HomeOps_c3.eq_1 ..) ?_ | refine Eq.mpr (B_law20_HomeOps_c2.eq_1 ..) ?_ | refine Eq.mpr (B_law20_HomeOps_c1.eq_1 ..) ?_) | simp only [XP_extract0, XP_extract1, XP_extract2, XP_extract3, X_extract0, X_extract1, X_extract2, X_extract3, X_nilS, X_eql_nil_74, X_neq_nil_74, X_eql_nil_124, X_neq_nil_124, X_eql, X_neq, X_lss, X_leq, X_gtr, X_geq, X_not, X_min, X_max, X_len_27, X_len_9, X_len_79, XP_nilS, XP_eql, XP_neq, XP_lss, XP_leq, XP_gtr, XP_geq, XP_not, XP_min, XP_max, XP_len_27, XP_len_9, XP_eql_nil_74, X_str_eql, X_str_neq, XP_str_eql, XP_str_neq, GS, gs_u, decide_true, decide_false, Option.isNone_some, Option.isSome_some, Option.isNone_none, Option.isSome_none, eq_self, Bool.not_true, Bool.not_false, Int.reduceEq, Int.reduceNe, Int.reduceLT, Int.reduceLE, Int.reduceGT, Int.reduceGE, c]))
      exact hJ _ _ ⟨hx, r5⟩
    have hlt : i < l.length := by omega
    have c : decide ((i : Int) < (l.length : Int)) = true := by simp; omega
    (repeat (first | with_reducible (first | refine Eq.mpr (B_law20_HomeOps_c3.eq_1 ..) ?_ | refine Eq.mpr (B_law20_HomeOps_c2.eq_1 ..) ?_ | refine Eq.mpr (B_law20_HomeOps_c1.eq_1 ..) ?_) | simp only [XP_extract0, XP_extract1, XP_extract2, XP_extract3, X_extract0, X_extract1, X_extract2, X_extract3, X_nilS, X_eql_nil_74, X_neq_nil_74, X_eql_nil_124, X_neq_nil_124, X_eql, X_neq, X_lss, X_leq, X_gtr, X_geq, X_not, X_min, X_max, X_len_27, X_len_9, X_len_79, XP_nilS, XP_eql, XP_neq, XP_lss, XP_leq, XP_gtr, XP_geq, XP_not, XP_min, XP_max, XP_len_27, XP_len_9, XP_eql_nil_74, X_str_eql, X_str_neq, XP_str_eql, XP_str_neq, GS, gs_u, decide_true, decide_false, Option.isNone_some, Option.isSome_some, Option.isNone_none, Option.isSome_none, eq_self, Bool.not_true, Bool.not_false, Int.reduceEq, Int.reduceNe, Int.reduceLT, Int.reduceLE, Int.reduceGT, Int.reduceGE, c]))
    by_cases h20 : i = 20
    · have c : decide ((i : Int) ≥ 20) = true := by simp; omega
      (repeat (first | with_reducible (first | refine Eq.mpr (B_law20_HomeOps_c3.eq_1 ..) ?_ | refine Eq.mpr (B_law20_HomeOps_c2.eq_1 ..) ?_ | refine Eq.mpr (B_law20_HomeOps_c1.eq_1 ..) ?_) | simp only [XP_extract0, XP_extract1, XP_extract2, XP_extract3, X_extract0, X_extract1, X_extract2, X_extract3, X_nilS, X_eql_nil_74, X_neq_nil_74, X_eql_nil_124, X_neq_nil_124, X_eql, X_neq, X_lss, X_leq, X_gtr, X_geq, X_not, X_min, X_max, X_len_27, X_len_9, X_len_79, XP_nilS, XP_eql, XP_neq, XP_lss, XP_leq, XP_gtr, XP_geq, XP_not, XP_min, XP_max, XP_len_27, XP_len_9, XP_eql_nil_74, X_str_eql, X_str_neq, XP_str_eql, XP_str_neq, GS, gs_u, decide_true, decide_false, Option.isNone_some, Option.isSome_some, Option.isNone_none, Option.isSome_none, eq_self, Bool.not_true, Bool.not_false, Int.reduceEq, Int.reduceNe, Int.reduceLT, Int.reduceLE, Int.reduceGT, Int.reduceGE, c]))
      exact hJ _ _ ⟨hx, r5⟩
    have c : decide ((i : Int) ≥ 20) = false := by simp; omega
    (repeat (first | with_reducible (first | refine Eq.mpr (B_law20_HomeOps_c3.eq_1 ..) ?_ | refine Eq.mpr (B_law20_HomeOps_c2.eq_1 ..) ?_ | refine Eq.mpr (B_law20_HomeOps_c1.eq_1 ..) ?_) | simp only [XP_extract0, XP_extract1, XP_extract2, XP_extract3, X_extract0, X_extract1, X_extract2, X_extract3, X_nilS, X_eql_nil_74, X_neq_nil_74, X_eql_nil_124, X_neq_nil_124, X_eql, X_neq, X_lss, X_leq, X_gtr, X_geq, X_not, X_min, X_max, X_len_27, X_len_9, X_len_79, XP_nilS, XP_eql, XP_neq, XP_lss, XP_leq, XP_gtr, XP_geq, XP_not, XP_min, XP_max, XP_len_27, XP_len_9, XP_eql_nil_74, X_str_eql, X_str_neq, XP_str_eql, XP_str_neq, GS, gs_u, decide_true, decide_false, Option.isNone_some, Option.isSome_some, Option.isNone_none, Option.isSome_none, eq_self, Bool.not_true, Bool.not_false, Int.reduceEq, Int.reduceNe, Int.reduceLT, Int.reduceLE, Int.reduceGT, Int.reduceGE, c]))
    obtain ⟨ad, hix, hcell⟩ := hl.at Try.underlying70 info_27 sz_27 (k := .i64) (ii := (i : Int)) i rfl hlt
    have hbi := hbl _ (List.getElem_mem hlt)
    generalize l[i] = p at hcell hbi
    obtain ⟨pv, bs⟩ := p
    have hcell : W.cell? ad = some pv := hcell
    have hbi : Bts W pv bs := hbi
    obtain ⟨ap, cp, ep⟩ := Bts.slice hbi
    refine X_of (hix _) ?_
    refine X_of (run_loadAt agg_27 (hx.cell (fun h => h) hcell)) ?_
    rw [ep]
    (repeat (first | with_reducible (first | refine Eq.mpr (B_law20_HomeOps_c3.eq_1 ..) ?_ | refine Eq.mpr (B_law20_HomeOps_c2.eq_1 ..) ?_ | refine Eq.mpr (B_law20_HomeOps_c1.eq_1 ..) ?_) | simp only [XP_extract0, XP_extract1, XP_extract2, XP_extract3, X_extract0, X_extract1, X_extract2, X_extract3, X_nilS, X_eql_nil_74, X_neq_nil_74, X_eql_nil_124, X_neq_nil_124, X_eql, X_neq, X_lss, X_leq, X_gtr, X_geq, X_not, X_min, X_max, X_len_27, X_len_9, X_len_79, XP_nilS, XP_eql, XP_neq, XP_lss, XP_leq, XP_gtr, XP_geq, XP_not, XP_min, XP_max, XP_len_27, XP_len_9, XP_eql_nil_74, X_str_eql, X_str_neq, XP_str_eql, XP_str_neq, GS, gs_u, decide_true, decide_false, Option.isNone_some, Option.isSome_some, Option.isNone_none, Option.isSome_none, eq_self, Bool.not_true, Bool.not_false, Int.reduceEq, Int.reduceNe, Int.reduceLT, Int.reduceLE, Int.reduceGT, Int.reduceGE]))
    by_cases h2000 : 2000 < bs.length
    · have c : decide ((bs.length : Int) > 2000) = true := by simp; omega
      (repeat (first | with_reducible (first | refine Eq.mpr (B_law20_HomeOps_c3.eq_1 ..) ?_ | refine Eq.mpr (B_law20_HomeOps_c2.eq_1 ..) ?_ | refine Eq.mpr (B_law20_HomeOps_c1.eq_1 ..) ?_) | simp only [XP_extract0, XP_extract1, XP_extract2, XP_extract3, X_extract0, X_extract1, X_extract2, X_extract3, X_nilS, X_eql_nil_74, X_neq_nil_74, X_eql_nil_124, X_neq_nil_124, X_eql, X_neq, X_lss, X_leq, X_gtr, X_geq, X_not, X_min, X_max, X_len_27, X_len_9, X_len_79, XP_nilS, XP_eql, XP_neq, XP_lss, XP_leq, XP_gtr, XP_geq, XP_not, XP_min, XP_max, XP_len_27, XP_len_9, XP_eql_nil_74, X_str_eql, X_str_neq, XP_str_eql, XP_str_neq, GS, gs_u, decide_true, decide_false, Option.isNone_some, Option.isSome_some, Option.isNone_none, Option.isSome_none, eq_self, Bool.not_true, Bool.not_false, Int.reduceEq, Int.reduceNe, Int.reduceLT, Int.reduceLE, Int.reduceGT, Int.reduceGE, c]))
      exact hJ _ _ ⟨hx, r5⟩
    have c : decide ((bs.length : Int) > 2000) = false := by simp; omega
    (repeat (first | with_reducible (first | refine Eq.mpr (B_law20_HomeOps_c3.eq_1 ..) ?_ | refine Eq.mpr (B_law20_HomeOps_c2.eq_1 ..) ?_ | refine Eq.mpr (B_law20_HomeOps_c1.eq_1 ..) ?_) | simp only [XP_extract0, XP_extract1, XP_extract2, XP_extract3, X_extract0, X_extract1, X_extract2, X_extract3, X_nilS, X_eql_nil_74, X_neq_nil_74, X_eql_nil_124, X_neq_nil_124, X_eql, X_neq, X_lss, X_leq, X_gtr, X_geq, X_not, X_min, X_max, X_len_27, X_len_9, X_len_79, XP_nilS, XP_eql, XP_neq, XP_lss, XP_leq, XP_gtr, XP_geq, XP_not, XP_min, XP_max, XP_len_27, XP_len_9, XP_eql_nil_74, X_str_eql, X_str_neq, XP_str_eql, XP_str_neq, GS, gs_u, decide_true, decide_false, Option.isNone_some, Option.isSome_some, Option.isNone_none, Option.isSome_none, eq_self, Bool.not_true, Bool.not_false, Int.reduceEq, Int.reduceNe, Int.reduceLT, Int.reduceLE, Int.reduceGT, Int.reduceGE, c]))
    rw [r7]
    refine Done_spec hd ?_
    refine X_of (hix _) ?_
    refine X_of (run_loadAt agg_27 (hx.cell (fun h => h) hcell)) ?_
    rw [r9]
    have hokd := st.hok'
    refine HSave_spec hv hd hokd (by rw [st.ws]; decide) (hbi.ext hx) (fun h0 k hk => ⟨fun hf => ?_, Nat.lt_of_lt_of_le (hbi.blk_lt h0 k hk) hx.size⟩) ?_
    · have := hbi.blk_lt h0 k hk
      have := low k hf
      omega
    intro w5 hd5 s5
    have hx5 := s5.out hx low
    have low5 := s5.low hx.size low
    have hv5 : HomeAt w5 bh b e' := s5.keep.get (hd.notin hv (by decide) (by decide) (by decide)) hv
    (repeat (first | with_reducible (first | refine Eq.mpr (B_law20_HomeOps_c3.eq_1 ..) ?_ | refine Eq.mpr (B_law20_HomeOps_c2.eq_1 ..) ?_ | refine Eq.mpr (B_law20_HomeOps_c1.eq_1 ..) ?_) | simp only [XP_extract0, XP_extract1, XP_extract2, XP_extract3, X_extract0, X_extract1, X_extract2, X_extract3, X_nilS, X_eql_nil_74, X_neq_nil_74, X_eql_nil_124, X_neq_nil_124, X_eql, X_neq, X_lss, X_leq, X_gtr, X_geq, X_not, X_min, X_max, X_len_27, X_len_9, X_len_79, XP_nilS, XP_eql, XP_neq, XP_lss, XP_leq, XP_gtr, XP_geq, XP_not, XP_min, XP_max, XP_len_27, XP_len_9, XP_eql_nil_74, X_str_eql, X_str_neq, XP_str_eql, XP_str_neq, GS, gs_u, decide_true, decide_false, Option.isNone_some, Option.isSome_some, Option.isNone_none, Option.isSome_none, eq_self, Bool.not_true, Bool.not_false, Int.reduceEq, Int.reduceNe, Int.reduceLT, Int.reduceLE, Int.reduceGT, Int.reduceGE]))
    refine joinS_of (fun ρ2 wr => ∃ (d2 : Dk) (last : List UInt8) (gen : Nat), DiskAt wr b d2 ∧ HomeAt wr bh b e' ∧ Hst e' (2 + 2 * e') d2 last gen (i + 1) ∧ Ext W wr ∧ (∀ k, foot wr b k → W.heap.size ≤ k) ∧ ρ2 14 = .int .i64 d2.done ∧
      ρ2 41 = .int .i64 (i : Int) ∧ ρ2 40 = .int .i64 (l.length : Int) ∧ ρ2 1 = v1 ∧ ρ2 9 = ptr bh ∧ ρ2 7 = ptr b ∧ ρ2 5 = .bool true) ?_ ?_
    · rintro ρ2 w6 ⟨d2, last2, gen2, hd2, hv2, st2, hx2, low2, g14, g41, g40, g1, g9, g7, g5⟩
      rw [g7, g14, g9]
      refine Done_spec hd2 ?_
      have cd : decide (d2.done ≠ d2.done) = false := by simp
      (repeat (first | with_reducible (first | refine Eq.mpr (B_law20_HomeOps_c3.eq_1 ..) ?_ | refine Eq.mpr (B_law20_HomeOps_c2.eq_1 ..) ?_ | refine Eq.mpr (B_law20_HomeOps_c1.eq_1 ..) ?_) | simp only [XP_extract0, XP_extract1, XP_extract2, XP_extract3, X_extract0, X_extract1, X_extract2, X_extract3, X_nilS, X_eql_nil_74, X_neq_nil_74, X_eql_nil_124, X_neq_nil_124, X_eql, X_neq, X_lss, X_leq, X_gtr, X_geq, X_not, X_min, X_max, X_len_27, X_len_9, X_len_79, XP_nilS, XP_eql, XP_neq, XP_lss, XP_leq, XP_gtr, XP_geq, XP_not, XP_min, XP_max, XP_len_27, XP_len_9, XP_eql_nil_74, X_str_eql, X_str_neq, XP_str_eql, XP_str_neq, GS, gs_u, decide_true, decide_false, Option.isNone_some, Option.isSome_some, Option.isNone_none, Option.isSome_none, eq_self, Bool.not_true, Bool.not_false, Int.reduceEq, Int.reduceNe, Int.reduceLT, Int.reduceLE, Int.reduceGT, Int.reduceGE, cd]))
      refine HLoad_spec hv2 hd2 st2.hok' ?_
      intro u w7 hx7 _
      refine Done_spec (hd2.ext hx7) ?_
      (repeat (first | with_reducible (first | refine Eq.mpr (B_law20_HomeOps_c3.eq_1 ..) ?_ | refine Eq.mpr (B_law20_HomeOps_c2.eq_1 ..) ?_ | refine Eq.mpr (B_law20_HomeOps_c1.eq_1 ..) ?_) | simp only [XP_extract0, XP_extract1, XP_extract2, XP_extract3, X_extract0, X_extract1, X_extract2, X_extract3, X_nilS, X_eql_nil_74, X_neq_nil_74, X_eql_nil_124, X_neq_nil_124, X_eql, X_neq, X_lss, X_leq, X_gtr, X_geq, X_not, X_min, X_max, X_len_27, X_len_9, X_len_79, XP_nilS, XP_eql, XP_neq, XP_lss, XP_leq, XP_gtr, XP_geq, XP_not, XP_min, XP_max, XP_len_27, XP_len_9, XP_eql_nil_74, X_str_eql, X_str_neq, XP_str_eql, XP_str_neq, GS, gs_u, decide_true, decide_false, Option.isNone_some, Option.isSome_some, Option.isNone_none, Option.isSome_none, eq_self, Bool.not_true, Bool.not_false, Int.reduceEq, Int.reduceNe, Int.reduceLT, Int.reduceLE, Int.reduceGT, Int.reduceGE, cd]))
      rw [g41, X_add]
      show _ ∧ _
      refine ⟨⟨i + 1, d2, last2, gen2, by omega, by omega, hd2.ext hx7, hx7.get hv2, st2, hx2.trans hx7, fun k hk => low2 k ((foot_x hx7 (hd2.lt b (foot_self _ _))).1 hk), next64 (n := 20) (by decide) (by omega), g40, g1, g9, g7, g5⟩, ?_⟩
      show (_ - IntKind.i64.wrap _).toNat < _
      rw [w64 (by omega) (by omega)]
      first | omega | (show _ < (_ : Int).toNat; omega)
    · intro J2 hJ2
      have hdn := st.done
      by_cases hroom : bs.length ≤ e' * 128
      · obtain ⟨t1, t2, t3, _⟩ := hst_save st (by omega) hroom
        rw [t1]
        have c : decide ((0 : Int) = 0) = true := by decide
        (repeat (first | with_reducible (first | refine Eq.mpr (B_law20_HomeOps_c3.eq_1 ..) ?_ | refine Eq.mpr (B_law20_HomeOps_c2.eq_1 ..) ?_ | refine Eq.mpr (B_law20_HomeOps_c1.eq_1 ..) ?_) | simp only [XP_extract0, XP_extract1, XP_extract2, XP_extract3, X_extract0, X_extract1, X_extract2, X_extract3, X_nilS, X_eql_nil_74, X_neq_nil_74, X_eql_nil_124, X_neq_nil_124, X_eql, X_neq, X_lss, X_leq, X_gtr, X_geq, X_not, X_min, X_max, X_len_27, X_len_9, X_len_79, XP_nilS, XP_eql, XP_neq, XP_lss, XP_leq, XP_gtr, XP_geq, XP_not, XP_min, XP_max, XP_len_27, XP_len_9, XP_eql_nil_74, X_str_eql, X_str_neq, XP_str_eql, XP_str_neq, GS, gs_u, decide_true, decide_false, Option.isNone_some, Option.isSome_some, Option.isNone_none, Option.isSome_none, eq_self, Bool.not_true, Bool.not_false, Int.reduceEq, Int.reduceNe, Int.reduceLT, Int.reduceLE, Int.reduceGT, Int.reduceGE, c]))
        rw [r1, r41]
        refine X_of (hix _) ?_
        refine X_of (run_loadAt agg_27 (hx5.cell (fun h => h) hcell)) ?_
        rw [ep]
        (repeat (first | with_reducible (first | refine Eq.mpr (B_law20_HomeOps_c3.eq_1 ..) ?_ | refine Eq.mpr (B_law20_HomeOps_c2.eq_1 ..) ?_ | refine Eq.mpr (B_law20_HomeOps_c1.eq_1 ..) ?_) | simp only [XP_extract0, XP_extract1, XP_extract2, XP_extract3, X_extract0, X_extract1, X_extract2, X_extract3, X_nilS, X_eql_nil_74, X_neq_nil_74, X_eql_nil_124, X_neq_nil_124, X_eql, X_neq, X_lss, X_leq, X_gtr, X_geq, X_not, X_min, X_max, X_len_27, X_len_9, X_len_79, XP_nilS, XP_eql, XP_neq, XP_lss, XP_leq, XP_gtr, XP_geq, XP_not, XP_min, XP_max, XP_len_27, XP_len_9, XP_eql_nil_74, X_str_eql, X_str_neq, XP_str_eql, XP_str_neq, GS, gs_u, decide_true, decide_false, Option.isNone_some, Option.isSome_some, Option.isNone_none, Option.isSome_none, eq_self, Bool.not_true, Bool.not_false, Int.reduceEq, Int.reduceNe, Int.reduceLT, Int.reduceLE, Int.reduceGT, Int.reduceGE]))
        rw [X_add, w64 (by omega) (by omega), X_sub, w64 (by omega) (by omega)]
        refine X_of (run_quo 3 .i64 _ 128 (by decide) _) ?_
        rw [tdiv_ediv (by omega), w64 (by omega) (by omega), X_add, w64 (by omega) (by omega), X_add, w64 (by omega) (by omega)]
        refine hJ2 _ _ ⟨_, bs, gen + 1, hd5, hv5, t2, hx5, low5, ?_, r41, r40, r1, r9, r7, r5⟩
        show Value.int .i64 _ = Value.int .i64 _
        congr 1
        rw [t3]
        omega
      · have hls := long_save (d := d) (each := e') (bs := bs) (by omega)
        rw [hls] at hd5 ⊢
        have c : decide ((4 : Int) = 0) = false := by decide
        (repeat (first | with_reducible (first | refine Eq.mpr (B_law20_HomeOps_c3.eq_1 ..) ?_ | refine Eq.mpr (B_law20_HomeOps_c2.eq_1 ..) ?_ | refine Eq.mpr (B_law20_HomeOps_c1.eq_1 ..) ?_) | simp only [XP_extract0, XP_extract1, XP_extract2, XP_extract3, X_extract0, X_extract1, X_extract2, X_extract3, X_nilS, X_eql_nil_74, X_neq_nil_74, X_eql_nil_124, X_neq_nil_124, X_eql, X_neq, X_lss, X_leq, X_gtr, X_geq, X_not, X_min, X_max, X_len_27, X_len_9, X_len_79, XP_nilS, XP_eql, XP_neq, XP_lss, XP_leq, XP_gtr, XP_geq, XP_not, XP_min, XP_max, XP_len_27, XP_len_9, XP_eql_nil_74, X_str_eql, X_str_neq, XP_str_eql, XP_str_neq, GS, gs_u, decide_true, decide_false, Option.isNone_some, Option.isSome_some, Option.isNone_none, Option.isSome_none, eq_self, Bool.not_true, Bool.not_false, Int.reduceEq, Int.reduceNe, Int.reduceLT, Int.reduceLE, Int.reduceGT, Int.reduceGE, c]))
        exact hJ2 _ _ ⟨d, last, gen, hd5, hv5, ⟨st.ok, st.size, st.hok, st.live, st.fuse, st.ws, st.kept, by have := st.le; omega, by omega⟩, hx5, low5, rfl, r41, r40, r1, r9, r7, r5⟩
  · rintro ρ7 wr ⟨hx7, t5⟩
    show (ρ7 5 = _ ∧ _)
    exact ⟨t5, hx7⟩
theorem homeOps_walk {H : Type} (enc : TypeId × Value → H) (W : World) (v0 v1 : Value) {base : Nat} (ok0 : Value.okWide Try.prog W .any base 5 v0) (ok1 : Value.okWide Try.prog W .any base 70 v1) (d0 : DataW H) (p0 : List MemPlace) (d1 : DataW H) (p1 : List MemPlace) (h0 : DataW.Trod enc Try.prog W 0 (fun _ => true) true 5 v0 d0 p0) (h1 : DataW.Trod enc Try.prog W 0 (fun _ => true) true 70 v1 d1 p1) (hsz : (DataW.weightsEach Try.prog [5, 70] [d0, d1]).all (· ≤ reachBytes) = true) :
    CALL Try.prog 38 #[v0, v1] W (fun v w' => v = .bool true ∧ Ext W w') := by
  obtain ⟨e, rfl, he⟩ := arg_u8 Try.underlying5 ok0 h0
  obtain ⟨l, hl, hbl⟩ := arg_bss ok1 h1
  exact homeOps_run he W hl hbl
end
set_option maxRecDepth 100000 in
theorem homeOps_lifted (os : Os) (started : os.Started) (H : Type) (enc : TypeId × Value → H) :
    ReturnsInHanded {} Try.checked os 38 .any (Rows.homeOpsSpec.pre6 enc Try.prog Try.f38 Rows.homeOpsRow.domain false) (Rows.homeOpsSpec.post enc Try.prog Try.f38 false true false false) := by
  refine returnsInHanded_of_change_sized (C := Try.checked) (by kernel_rfl) started (by kernel_rfl) Try.func38
    (ChangeSpec.witness6 (enc := enc) (C := Try.checked) false ⟨#[], #[(.int .u8 0), (.slice none 0 0)], []⟩ 8 (by kernel_rfl) (by kernel_rfl) (by kernel_rfl) (by kernel_rfl)) ?_
  intro W base args ds gs before hval0 hW hcnd hsz0 _
  have hval : ∀ (j : Nat) t v, Try.f38.params[j]? = some t → args[j]? = some v → Value.okWide Try.prog W .any base t v := hval0
  have hW' := hW
  obtain ⟨p, q, hA0, hV, rfl, hfz, hnd⟩ := hW
  have hA : DataW.TrodAll enc Try.prog W 0 (fun _ => true) true Try.f38.params.toList args.toList ds p := hA0
  rw [Try.params38] at hA hval
  obtain ⟨v0, vs0, d0, ds0, p0, q0, hargs, rfl, rfl, h0, r0⟩ := trodAll_cons hA
  obtain ⟨v1, vs1, d1, ds1, p1, q1, rfl, rfl, rfl, h1, r1⟩ := trodAll_cons r0
  obtain ⟨rfl, rfl, rfl⟩ := trodAll_nil r1
  obtain rfl : args = #[v0, v1] := by cases args; simp_all
  obtain ⟨rfl, rfl⟩ := trodVars_none hV
  have hsz : (DataW.weightsEach Try.prog [5, 70] [d0, d1]).all (· ≤ reachBytes) = true := hsz0
  have hw := homeOps_walk enc W v0 v1 (hval 0 5 v0 rfl rfl) (hval 1 70 v1 rfl rfl) d0 p0 d1 p1 h0 h1 hsz
  refine (CALL_calls hw).mono fun e W' he => ?_
  cases e with
  | returned v =>
    obtain ⟨rfl, hx⟩ := he
    exact ⟨_, rfl, law_post (P := Try.prog) laidOut (by kernel_rfl) rfl rfl rfl Try.underlying4 hW' hx⟩
  | panicked c => exact he.elim
  | outgrown => exact he.elim

theorem homeOps_closed : joinedFacts Try.prog 38 Try.f38 Rows.homeOpsSpec Rows.homeOpsRow = true := by
  unfold joinedFacts
  rw [mayEnter_is, liftsFinal_is, make_is]
  kernel_rfl
/-- For every input that the row lets in, cellarage/cellaragelaw20.HomeOps returns true, and what was there stays as it was. -/
theorem homeOps_holds : Rows.HomeOpsSaid :=
  OpenClaim.holds_of_wide 38 Try.f38 rfl rfl rfl rfl rfl rfl rfl ⟨rfl, rfl, rfl, rfl, rfl⟩ rfl rfl rfl rfl rfl (by kernel_rfl) Try.func38 homeOps_closed
    (of_decide_eq_true (by kernel_rfl)) (by unfold Func.isWrapper; first | (rw [if_pos (by decide +kernel)]; kernel_rfl) | (rw [if_neg (by decide +kernel)]; exact ⟨rfl, rfl⟩))
    (fun os started H enc _ => homeOps_lifted os started H enc)
#print axioms homeOps_holds
end Go.Proofs.Ytggggfcgnkllgaa
