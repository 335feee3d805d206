/- cellaragelaw20.HomeBack: what was saved is loaded, with each save the generation is one more, and no other sector is changed. -/
import Derived.Test.YtggggfcgnkllgaaQH10
set_option linter.unusedVariables false
set_option linter.unusedSimpArgs false
set_option linter.constructorNameAsVariable false
namespace Go.Proofs.Ytggggfcgnkllgaa
open Go Go.Sh Go.RowKit Go.ChangeShapes Go.WideShapes Go.ChangeAt
open Go.Proofs.Ytggggfcgnkllgaa
section
attribute [local irreducible] X XU XP XR CALL loopS resC closS Value.okWide
set_option maxHeartbeats 1000000 in
set_option maxRecDepth 8000 in
theorem homeBack_run {e : Nat} (he : e < 256) {l : List (Value × List UInt8)} {v1 : Value} (W : World) (hl : Row Prod.fst W v1 l) (hbl : ∀ x ∈ l, Bts W x.1 x.2) :
    CALL Try.prog 37 #[.int .u8 (e : Int), v1] W (fun v w' => v = .bool true ∧ Ext W w') := by
  obtain ⟨a1, c1', ev1⟩ := hl.slice
  have hn64 : l.length ≤ 9223372036854775807 := by
    obtain ⟨_, c, _, h1, h2, _⟩ := hl
    omega
  apply call_law20_HomeBack
  unfold B_law20_HomeBack
  refine shown20 ?_
  intro w1 hx1
  refine X_of (run_rem 5 .u8 _ 8 (by decide) _) ?_
  obtain ⟨n, hn⟩ : ∃ n, n = e % 8 + 1 := ⟨_, rfl⟩
  have er : ((e : Nat) : Int).tmod 8 = ((e % 8 : Nat) : Int) := rfl
  have en : ((e % 8 : Nat) : Int) + 1 = (n : Int) := by omega
  rw [er]
  (repeat (first | with_reducible (first | refine Eq.mpr (B_law20_HomeBack_c6.eq_1 ..) ?_ | refine Eq.mpr (B_law20_HomeBack_c5.eq_1 ..) ?_ | refine Eq.mpr (B_law20_HomeBack_c4.eq_1 ..) ?_ | refine Eq.mpr (B_law20_HomeBack_c3.eq_1 ..) ?_ | refine Eq.mpr (B_law20_HomeBack_c2.eq_1 ..) ?_ | refine Eq.mpr (B_law20_HomeBack_c1.eq_1 ..) ?_) | simp only [XP_extract0, XP_extract1, XP_extract2, XP_extract3, X_extract0, X_extract1, X_extract2, X_extract3, X_nilS, X_eql_nil_74, X_neq_nil_74, X_eql_nil_124, X_neq_nil_124, X_eql, X_neq, X_lss, X_leq, X_gtr, X_geq, X_not, X_min, X_max, X_len_27, X_len_9, X_len_79, XP_nilS, XP_eql, XP_neq, XP_lss, XP_leq, XP_gtr, XP_geq, XP_not, XP_min, XP_max, XP_len_27, XP_len_9, XP_eql_nil_74, X_str_eql, X_str_neq, XP_str_eql, XP_str_neq, GS, gs_u, decide_true, decide_false, Option.isNone_some, Option.isSome_some, Option.isNone_none, Option.isSome_none, eq_self, Bool.not_true, Bool.not_false, Int.reduceEq, Int.reduceNe, Int.reduceLT, Int.reduceLE, Int.reduceGT, Int.reduceGE]))
  rw [X_conv_5_3, w64 (by omega) (by omega)]
  (repeat (first | with_reducible (first | refine Eq.mpr (B_law20_HomeBack_c6.eq_1 ..) ?_ | refine Eq.mpr (B_law20_HomeBack_c5.eq_1 ..) ?_ | refine Eq.mpr (B_law20_HomeBack_c4.eq_1 ..) ?_ | refine Eq.mpr (B_law20_HomeBack_c3.eq_1 ..) ?_ | refine Eq.mpr (B_law20_HomeBack_c2.eq_1 ..) ?_ | refine Eq.mpr (B_law20_HomeBack_c1.eq_1 ..) ?_) | simp only [XP_extract0, XP_extract1, XP_extract2, XP_extract3, X_extract0, X_extract1, X_extract2, X_extract3, X_nilS, X_eql_nil_74, X_neq_nil_74, X_eql_nil_124, X_neq_nil_124, X_eql, X_neq, X_lss, X_leq, X_gtr, X_geq, X_not, X_min, X_max, X_len_27, X_len_9, X_len_79, XP_nilS, XP_eql, XP_neq, XP_lss, XP_leq, XP_gtr, XP_geq, XP_not, XP_min, XP_max, XP_len_27, XP_len_9, XP_eql_nil_74, X_str_eql, X_str_neq, XP_str_eql, XP_str_neq, GS, gs_u, decide_true, decide_false, Option.isNone_some, Option.isSome_some, Option.isNone_none, Option.isSome_none, eq_self, Bool.not_true, Bool.not_false, Int.reduceEq, Int.reduceNe, Int.reduceLT, Int.reduceLE, Int.reduceGT, Int.reduceGE]))
  rw [X_add, w64 (by omega) (by omega), en, X_mul, w64 (by omega) (by omega)]
  (repeat (first | with_reducible (first | refine Eq.mpr (B_law20_HomeBack_c6.eq_1 ..) ?_ | refine Eq.mpr (B_law20_HomeBack_c5.eq_1 ..) ?_ | refine Eq.mpr (B_law20_HomeBack_c4.eq_1 ..) ?_ | refine Eq.mpr (B_law20_HomeBack_c3.eq_1 ..) ?_ | refine Eq.mpr (B_law20_HomeBack_c2.eq_1 ..) ?_ | refine Eq.mpr (B_law20_HomeBack_c1.eq_1 ..) ?_) | simp only [XP_extract0, XP_extract1, XP_extract2, XP_extract3, X_extract0, X_extract1, X_extract2, X_extract3, X_nilS, X_eql_nil_74, X_neq_nil_74, X_eql_nil_124, X_neq_nil_124, X_eql, X_neq, X_lss, X_leq, X_gtr, X_geq, X_not, X_min, X_max, X_len_27, X_len_9, X_len_79, XP_nilS, XP_eql, XP_neq, XP_lss, XP_leq, XP_gtr, XP_geq, XP_not, XP_min, XP_max, XP_len_27, XP_len_9, XP_eql_nil_74, X_str_eql, X_str_neq, XP_str_eql, XP_str_neq, GS, gs_u, decide_true, decide_false, Option.isNone_some, Option.isSome_some, Option.isNone_none, Option.isSome_none, eq_self, Bool.not_true, Bool.not_false, Int.reduceEq, Int.reduceNe, Int.reduceLT, Int.reduceLE, Int.reduceGT, Int.reduceGE]))
  rw [X_add, w64 (by omega) (by omega), X_add, w64 (by omega) (by omega)]
  have eN : (2 : Int) + 2 * (n : Int) + 3 = ((2 + 2 * n + 3 : Nat) : Int) := by omega
  rw [eN]
  refine New_disk (fun h => absurd h (by omega)) ?_
  intro m hm _ b w2 hx2 hlow hd2
  obtain rfl : m = 2 + 2 * n + 3 := by omega
  have e0 : decide ((0 : Int) ≠ 0) = false := by decide
  (repeat (first | with_reducible (first | refine Eq.mpr (B_law20_HomeBack_c6.eq_1 ..) ?_ | refine Eq.mpr (B_law20_HomeBack_c5.eq_1 ..) ?_ | refine Eq.mpr (B_law20_HomeBack_c4.eq_1 ..) ?_ | refine Eq.mpr (B_law20_HomeBack_c3.eq_1 ..) ?_ | refine Eq.mpr (B_law20_HomeBack_c2.eq_1 ..) ?_ | refine Eq.mpr (B_law20_HomeBack_c1.eq_1 ..) ?_) | simp only [XP_extract0, XP_extract1, XP_extract2, XP_extract3, X_extract0, X_extract1, X_extract2, X_extract3, X_nilS, X_eql_nil_74, X_neq_nil_74, X_eql_nil_124, X_neq_nil_124, X_eql, X_neq, X_lss, X_leq, X_gtr, X_geq, X_not, X_min, X_max, X_len_27, X_len_9, X_len_79, XP_nilS, XP_eql, XP_neq, XP_lss, XP_leq, XP_gtr, XP_geq, XP_not, XP_min, XP_max, XP_len_27, XP_len_9, XP_eql_nil_74, X_str_eql, X_str_neq, XP_str_eql, XP_str_neq, GS, gs_u, decide_true, decide_false, Option.isNone_some, Option.isSome_some, Option.isNone_none, Option.isSome_none, eq_self, Bool.not_true, Bool.not_false, Int.reduceEq, Int.reduceNe, Int.reduceLT, Int.reduceLE, Int.reduceGT, Int.reduceGE]))
  refine HNew_spec hd2 (fun h => absurd h (by rw [new_size]; omega)) ?_
  intro e' he' hok' bh w3 hx3 hbh hv3
  obtain rfl : e' = n := by omega
  rw [new_size] at hok'
  (repeat (first | with_reducible (first | refine Eq.mpr (B_law20_HomeBack_c6.eq_1 ..) ?_ | refine Eq.mpr (B_law20_HomeBack_c5.eq_1 ..) ?_ | refine Eq.mpr (B_law20_HomeBack_c4.eq_1 ..) ?_ | refine Eq.mpr (B_law20_HomeBack_c3.eq_1 ..) ?_ | refine Eq.mpr (B_law20_HomeBack_c2.eq_1 ..) ?_ | refine Eq.mpr (B_law20_HomeBack_c1.eq_1 ..) ?_) | simp only [XP_extract0, XP_extract1, XP_extract2, XP_extract3, X_extract0, X_extract1, X_extract2, X_extract3, X_nilS, X_eql_nil_74, X_neq_nil_74, X_eql_nil_124, X_neq_nil_124, X_eql, X_neq, X_lss, X_leq, X_gtr, X_geq, X_not, X_min, X_max, X_len_27, X_len_9, X_len_79, XP_nilS, XP_eql, XP_neq, XP_lss, XP_leq, XP_gtr, XP_geq, XP_not, XP_min, XP_max, XP_len_27, XP_len_9, XP_eql_nil_74, X_str_eql, X_str_neq, XP_str_eql, XP_str_neq, GS, gs_u, decide_true, decide_false, Option.isNone_some, Option.isSome_some, Option.isNone_none, Option.isSome_none, eq_self, Bool.not_true, Bool.not_false, Int.reduceEq, Int.reduceNe, Int.reduceLT, Int.reduceLE, Int.reduceGT, Int.reduceGE, e0, X_eql_nil_150]))
  have hx03 : Ext W w3 := (hx1.trans hx2).trans hx3
  have hd3 := hd2.ext hx3
  have low3 : ∀ k, foot w3 b k → W.heap.size ≤ k := fun k hk => Nat.le_trans hx1.size (hlow k ((foot_x hx3 (hd2.lt b (foot_self _ _))).1 hk))
  have st0 := hst_new hok'
  have out0 : ∀ s, 2 + 2 * e' ≤ s → s < 2 + 2 * e' + 3 → (Dk.new (2 + 2 * e' + 3)).safe[s]? = some (List.replicate 128 0) := fun s _ h => by
    show (List.replicate (2 + 2 * e' + 3) (List.replicate 128 (0 : UInt8)))[s]? = _
    rw [List.getElem?_replicate, if_pos h]
  rw [ev1]
  (repeat (first | with_reducible (first | refine Eq.mpr (B_law20_HomeBack_c6.eq_1 ..) ?_ | refine Eq.mpr (B_law20_HomeBack_c5.eq_1 ..) ?_ | refine Eq.mpr (B_law20_HomeBack_c4.eq_1 ..) ?_ | refine Eq.mpr (B_law20_HomeBack_c3.eq_1 ..) ?_ | refine Eq.mpr (B_law20_HomeBack_c2.eq_1 ..) ?_ | refine Eq.mpr (B_law20_HomeBack_c1.eq_1 ..) ?_) | simp only [XP_extract0, XP_extract1, XP_extract2, XP_extract3, X_extract0, X_extract1, X_extract2, X_extract3, X_nilS, X_eql_nil_74, X_neq_nil_74, X_eql_nil_124, X_neq_nil_124, X_eql, X_neq, X_lss, X_leq, X_gtr, X_geq, X_not, X_min, X_max, X_len_27, X_len_9, X_len_79, XP_nilS, XP_eql, XP_neq, XP_lss, XP_leq, XP_gtr, XP_geq, XP_not, XP_min, XP_max, XP_len_27, XP_len_9, XP_eql_nil_74, X_str_eql, X_str_neq, XP_str_eql, XP_str_neq, GS, gs_u, decide_true, decide_false, Option.isNone_some, Option.isSome_some, Option.isNone_none, Option.isSome_none, eq_self, Bool.not_true, Bool.not_false, Int.reduceEq, Int.reduceNe, Int.reduceLT, Int.reduceLE, Int.reduceGT, Int.reduceGE]))
  rw [X_len_70, ← ev1]
  generalize Dk.new (2 + 2 * e' + 3) = d0 at hd3 st0 out0
  refine loopG 0 (fun ρ wr => ∃ (i : Nat) (d : Dk) (last : List UInt8) (gen : Nat), i ≤ l.length ∧ i ≤ 20 ∧ DiskAt wr b d ∧ HomeAt wr bh b e' ∧ Hst e' (2 + 2 * e' + 3) d last gen i ∧ (∀ s, 2 + 2 * e' ≤ s → s < 2 + 2 * e' + 3 → d.safe[s]? = some (List.replicate 128 0)) ∧ Ext W wr ∧ (∀ k, foot wr b k → W.heap.size ≤ k) ∧
      ρ 49 = .int .i64 (i : Int) ∧ ρ 48 = .int .i64 (l.length : Int) ∧ ρ 1 = v1 ∧ ρ 9 = ptr bh ∧ ρ 7 = ptr b ∧ ρ 5 = .bool true ∧ ρ 11 = .string (str last) ∧ ρ 12 = .int .u64 (gen : Int))
    (fun ρ wr => match ρ 49 with | .int _ s => (l.length - s).toNat | _ => 0)
    (fun ρ wr => ∃ (d : Dk) (last : List UInt8) (gen i : Nat), DiskAt wr b d ∧ HomeAt wr bh b e' ∧ Hst e' (2 + 2 * e' + 3) d last gen i ∧ (∀ s, 2 + 2 * e' ≤ s → s < 2 + 2 * e' + 3 → d.safe[s]? = some (List.replicate 128 0)) ∧ Ext W wr ∧ ρ 9 = ptr bh ∧ ρ 7 = ptr b ∧ ρ 5 = .bool true) ?_ ?_ ?_
  · exact ⟨0, _, _, _, by omega, by omega, hd3, hv3, st0, out0, hx03, low3, rfl, rfl, rfl, rfl, rfl, rfl, rfl, rfl⟩
  · rintro J hJ ρ wr ⟨i, d, last, gen, hi, hi20, hd, hv, st, out, hx, low, r49, r48, r1, r9, r7, r5, r11, r12⟩
    (first | with_reducible (first | refine Eq.mpr (B_law20_HomeBack_c6.eq_1 ..) ?_ | refine Eq.mpr (B_law20_HomeBack_c5.eq_1 ..) ?_ | refine Eq.mpr (B_law20_HomeBack_c4.eq_1 ..) ?_ | refine Eq.mpr (B_law20_HomeBack_c3.eq_1 ..) ?_ | refine Eq.mpr (B_law20_HomeBack_c2.eq_1 ..) ?_ | refine Eq.mpr (B_law20_HomeBack_c1.eq_1 ..) ?_))
    rw [r49, r48, r1]
    (repeat (first | with_reducible (first | refine Eq.mpr (B_law20_HomeBack_c6.eq_1 ..) ?_ | refine Eq.mpr (B_law20_HomeBack_c5.eq_1 ..) ?_ | refine Eq.mpr (B_law20_HomeBack_c4.eq_1 ..) ?_ | refine Eq.mpr (B_law20_HomeBack_c3.eq_1 ..) ?_ | refine Eq.mpr (B_law20_HomeBack_c2.eq_1 ..) ?_ | refine Eq.mpr (B_law20_HomeBack_c1.eq_1 ..) ?_) | simp only [XP_extract0, XP_extract1, XP_extract2, XP_extract3, X_extract0, X_extract1, X_extract2, X_extract3, X_nilS, X_eql_nil_74, X_neq_nil_74, X_eql_nil_124, X_neq_nil_124, X_eql, X_neq, X_lss, X_leq, X_gtr, X_geq, X_not, X_min, X_max, X_len_27, X_len_9, X_len_79, XP_nilS, XP_eql, XP_neq, XP_lss, XP_leq, XP_gtr, XP_geq, XP_not, XP_min, XP_max, XP_len_27, XP_len_9, XP_eql_nil_74, X_str_eql, X_str_neq, XP_str_eql, XP_str_neq, GS, gs_u, decide_true, decide_false, Option.isNone_some, Option.isSome_some, Option.isNone_none, Option.isSome_none, eq_self, Bool.not_true, Bool.not_false, Int.reduceEq, Int.reduceNe, Int.reduceLT, Int.reduceLE, Int.reduceGT, Int.reduceGE]))
    by_cases hil : i = l.length
    · have c : decide ((i : Int) < (l.length : Int)) = false := by simp; omega
      (repeat (first | with_reducible (first | refine Eq.mpr (B_law20_HomeBack_c6.eq_1 ..) ?_ | refine Eq.mpr (B_law20_HomeBack_c5.eq_1 ..) ?_ | refine Eq.mpr (B_law20_HomeBack_c4.eq_1 ..) ?_ | refine Eq.mpr (B_law20_HomeBack_c3.eq_1 ..) ?_ | refine Eq.mpr (B_law20_HomeBack_c2.eq_1 ..) ?_ | refine Eq.mpr (B_law20_HomeBack_c1.eq_1 ..) ?_) | simp only [XP_extract0, XP_extract1, XP_extract2, XP_extract3, X_extract0, X_extract1, X_extract2, X_extract3, X_nilS, X_eql_nil_74, X_neq_nil_74, X_eql_nil_124, X_neq_nil_124, X_eql, X_neq, X_lss, X_leq, X_gtr, X_geq, X_not, X_min, X_max, X_len_27, X_len_9, X_len_79, XP_nilS, XP_eql, XP_neq, XP_lss, XP_leq, XP_gtr, XP_geq, XP_not, XP_min, XP_max, XP_len_27, XP_len_9, XP_eql_nil_74, X_str_eql, X_str_neq, XP_str_eql, XP_str_neq, GS, gs_u, decide_true, decide_false, Option.isNone_some, Option.isSome_some, Option.isNone_none, Option.isSome_none, eq_self, Bool.not_true, Bool.not_false, Int.reduceEq, Int.reduceNe, Int.reduceLT, Int.reduceLE, Int.reduceGT, Int.reduceGE, c]))
      exact hJ _ _ ⟨d, last, gen, i, hd, hv, st, out, hx, r9, r7, r5⟩
    have hlt : i < l.length := by omega
    have c : decide ((i : Int) < (l.length : Int)) = true := by simp; omega
    (repeat (first | with_reducible (first | refine Eq.mpr (B_law20_HomeBack_c6.eq_1 ..) ?_ | refine Eq.mpr (B_law20_HomeBack_c5.eq_1 ..) ?_ | refine Eq.mpr (B_law20_HomeBack_c4.eq_1 ..) ?_ | refine Eq.mpr (B_law20_HomeBack_c3.eq_1 ..) ?_ | refine Eq.mpr (B_law20_HomeBack_c2.eq_1 ..) ?_ | refine Eq.mpr (B_law20_HomeBack_c1.eq_1 ..) ?_) | simp only [XP_extract0, XP_extract1, XP_extract2, XP_extract3, X_extract0, X_extract1, X_extract2, X_extract3, X_nilS, X_eql_nil_74, X_neq_nil_74, X_eql_nil_124, X_neq_nil_124, X_eql, X_neq, X_lss, X_leq, X_gtr, X_geq, X_not, X_min, X_max, X_len_27, X_len_9, X_len_79, XP_nilS, XP_eql, XP_neq, XP_lss, XP_leq, XP_gtr, XP_geq, XP_not, XP_min, XP_max, XP_len_27, XP_len_9, XP_eql_nil_74, X_str_eql, X_str_neq, XP_str_eql, XP_str_neq, GS, gs_u, decide_true, decide_false, Option.isNone_some, Option.isSome_some, Option.isNone_none, Option.isSome_none, eq_self, Bool.not_true, Bool.not_false, Int.reduceEq, Int.reduceNe, Int.reduceLT, Int.reduceLE, Int.reduceGT, Int.reduceGE, c]))
    by_cases h20 : i = 20
    · have c : decide ((i : Int) ≥ 20) = true := by simp; omega
      (repeat (first | with_reducible (first | refine Eq.mpr (B_law20_HomeBack_c6.eq_1 ..) ?_ | refine Eq.mpr (B_law20_HomeBack_c5.eq_1 ..) ?_ | refine Eq.mpr (B_law20_HomeBack_c4.eq_1 ..) ?_ | refine Eq.mpr (B_law20_HomeBack_c3.eq_1 ..) ?_ | refine Eq.mpr (B_law20_HomeBack_c2.eq_1 ..) ?_ | refine Eq.mpr (B_law20_HomeBack_c1.eq_1 ..) ?_) | simp only [XP_extract0, XP_extract1, XP_extract2, XP_extract3, X_extract0, X_extract1, X_extract2, X_extract3, X_nilS, X_eql_nil_74, X_neq_nil_74, X_eql_nil_124, X_neq_nil_124, X_eql, X_neq, X_lss, X_leq, X_gtr, X_geq, X_not, X_min, X_max, X_len_27, X_len_9, X_len_79, XP_nilS, XP_eql, XP_neq, XP_lss, XP_leq, XP_gtr, XP_geq, XP_not, XP_min, XP_max, XP_len_27, XP_len_9, XP_eql_nil_74, X_str_eql, X_str_neq, XP_str_eql, XP_str_neq, GS, gs_u, decide_true, decide_false, Option.isNone_some, Option.isSome_some, Option.isNone_none, Option.isSome_none, eq_self, Bool.not_true, Bool.not_false, Int.reduceEq, Int.reduceNe, Int.reduceLT, Int.reduceLE, Int.reduceGT, Int.reduceGE, c]))
      exact hJ _ _ ⟨d, last, gen, i, hd, hv, st, out, hx, r9, r7, r5⟩
    have c : decide ((i : Int) ≥ 20) = false := by simp; omega
    (repeat (first | with_reducible (first | refine Eq.mpr (B_law20_HomeBack_c6.eq_1 ..) ?_ | refine Eq.mpr (B_law20_HomeBack_c5.eq_1 ..) ?_ | refine Eq.mpr (B_law20_HomeBack_c4.eq_1 ..) ?_ | refine Eq.mpr (B_law20_HomeBack_c3.eq_1 ..) ?_ | refine Eq.mpr (B_law20_HomeBack_c2.eq_1 ..) ?_ | refine Eq.mpr (B_law20_HomeBack_c1.eq_1 ..) ?_) | simp only [XP_extract0, XP_extract1, XP_extract2, XP_extract3, X_extract0, X_extract1, X_extract2, X_extract3, X_nilS, X_eql_nil_74, X_neq_nil_74, X_eql_nil_124, X_neq_nil_124, X_eql, X_neq, X_lss, X_leq, X_gtr, X_geq, X_not, X_min, X_max, X_len_27, X_len_9, X_len_79, XP_nilS, XP_eql, XP_neq, XP_lss, XP_leq, XP_gtr, XP_geq, XP_not, XP_min, XP_max, XP_len_27, XP_len_9, XP_eql_nil_74, X_str_eql, X_str_neq, XP_str_eql, XP_str_neq, GS, gs_u, decide_true, decide_false, Option.isNone_some, Option.isSome_some, Option.isNone_none, Option.isSome_none, eq_self, Bool.not_true, Bool.not_false, Int.reduceEq, Int.reduceNe, Int.reduceLT, Int.reduceLE, Int.reduceGT, Int.reduceGE, c]))
    obtain ⟨ad, hix, hcell⟩ := hl.at Try.underlying70 info_27 sz_27 (k := .i64) (ii := (i : Int)) i rfl hlt
    have hbi := hbl _ (List.getElem_mem hlt)
    generalize l[i] = p at hcell hbi
    obtain ⟨pv, bs⟩ := p
    have hcell : W.cell? ad = some pv := hcell
    have hbi : Bts W pv bs := hbi
    obtain ⟨ap, cp, ep⟩ := Bts.slice hbi
    refine X_of (hix _) ?_
    refine X_of (run_loadAt agg_27 (hx.cell (fun h => h) hcell)) ?_
    rw [ep]
    (repeat (first | with_reducible (first | refine Eq.mpr (B_law20_HomeBack_c6.eq_1 ..) ?_ | refine Eq.mpr (B_law20_HomeBack_c5.eq_1 ..) ?_ | refine Eq.mpr (B_law20_HomeBack_c4.eq_1 ..) ?_ | refine Eq.mpr (B_law20_HomeBack_c3.eq_1 ..) ?_ | refine Eq.mpr (B_law20_HomeBack_c2.eq_1 ..) ?_ | refine Eq.mpr (B_law20_HomeBack_c1.eq_1 ..) ?_) | simp only [XP_extract0, XP_extract1, XP_extract2, XP_extract3, X_extract0, X_extract1, X_extract2, X_extract3, X_nilS, X_eql_nil_74, X_neq_nil_74, X_eql_nil_124, X_neq_nil_124, X_eql, X_neq, X_lss, X_leq, X_gtr, X_geq, X_not, X_min, X_max, X_len_27, X_len_9, X_len_79, XP_nilS, XP_eql, XP_neq, XP_lss, XP_leq, XP_gtr, XP_geq, XP_not, XP_min, XP_max, XP_len_27, XP_len_9, XP_eql_nil_74, X_str_eql, X_str_neq, XP_str_eql, XP_str_neq, GS, gs_u, decide_true, decide_false, Option.isNone_some, Option.isSome_some, Option.isNone_none, Option.isSome_none, eq_self, Bool.not_true, Bool.not_false, Int.reduceEq, Int.reduceNe, Int.reduceLT, Int.reduceLE, Int.reduceGT, Int.reduceGE]))
    by_cases h2000 : 2000 < bs.length
    · have c : decide ((bs.length : Int) > 2000) = true := by simp; omega
      (repeat (first | with_reducible (first | refine Eq.mpr (B_law20_HomeBack_c6.eq_1 ..) ?_ | refine Eq.mpr (B_law20_HomeBack_c5.eq_1 ..) ?_ | refine Eq.mpr (B_law20_HomeBack_c4.eq_1 ..) ?_ | refine Eq.mpr (B_law20_HomeBack_c3.eq_1 ..) ?_ | refine Eq.mpr (B_law20_HomeBack_c2.eq_1 ..) ?_ | refine Eq.mpr (B_law20_HomeBack_c1.eq_1 ..) ?_) | simp only [XP_extract0, XP_extract1, XP_extract2, XP_extract3, X_extract0, X_extract1, X_extract2, X_extract3, X_nilS, X_eql_nil_74, X_neq_nil_74, X_eql_nil_124, X_neq_nil_124, X_eql, X_neq, X_lss, X_leq, X_gtr, X_geq, X_not, X_min, X_max, X_len_27, X_len_9, X_len_79, XP_nilS, XP_eql, XP_neq, XP_lss, XP_leq, XP_gtr, XP_geq, XP_not, XP_min, XP_max, XP_len_27, XP_len_9, XP_eql_nil_74, X_str_eql, X_str_neq, XP_str_eql, XP_str_neq, GS, gs_u, decide_true, decide_false, Option.isNone_some, Option.isSome_some, Option.isNone_none, Option.isSome_none, eq_self, Bool.not_true, Bool.not_false, Int.reduceEq, Int.reduceNe, Int.reduceLT, Int.reduceLE, Int.reduceGT, Int.reduceGE, c]))
      exact hJ _ _ ⟨d, last, gen, i, hd, hv, st, out, hx, r9, r7, r5⟩
    have c : decide ((bs.length : Int) > 2000) = false := by simp; omega
    (repeat (first | with_reducible (first | refine Eq.mpr (B_law20_HomeBack_c6.eq_1 ..) ?_ | refine Eq.mpr (B_law20_HomeBack_c5.eq_1 ..) ?_ | refine Eq.mpr (B_law20_HomeBack_c4.eq_1 ..) ?_ | refine Eq.mpr (B_law20_HomeBack_c3.eq_1 ..) ?_ | refine Eq.mpr (B_law20_HomeBack_c2.eq_1 ..) ?_ | refine Eq.mpr (B_law20_HomeBack_c1.eq_1 ..) ?_) | simp only [XP_extract0, XP_extract1, XP_extract2, XP_extract3, X_extract0, X_extract1, X_extract2, X_extract3, X_nilS, X_eql_nil_74, X_neq_nil_74, X_eql_nil_124, X_neq_nil_124, X_eql, X_neq, X_lss, X_leq, X_gtr, X_geq, X_not, X_min, X_max, X_len_27, X_len_9, X_len_79, XP_nilS, XP_eql, XP_neq, XP_lss, XP_leq, XP_gtr, XP_geq, XP_not, XP_min, XP_max, XP_len_27, XP_len_9, XP_eql_nil_74, X_str_eql, X_str_neq, XP_str_eql, XP_str_neq, GS, gs_u, decide_true, decide_false, Option.isNone_some, Option.isSome_some, Option.isNone_none, Option.isSome_none, eq_self, Bool.not_true, Bool.not_false, Int.reduceEq, Int.reduceNe, Int.reduceLT, Int.reduceLE, Int.reduceGT, Int.reduceGE, c]))
    refine X_of (hix _) ?_
    refine X_of (run_loadAt agg_27 (hx.cell (fun h => h) hcell)) ?_
    rw [r9]
    have hokd := st.hok'
    refine HSave_spec hv hd hokd (by rw [st.ws]; decide) (hbi.ext hx) (fun h0 k hk => ⟨fun hf => ?_, Nat.lt_of_lt_of_le (hbi.blk_lt h0 k hk) hx.size⟩) ?_
    · have := hbi.blk_lt h0 k hk
      have := low k hf
      omega
    intro w5 hd5 s5
    have hx5 := s5.out hx low
    have low5 := s5.low hx.size low
    have hv5 : HomeAt w5 bh b e' := s5.keep.get (hd.notin hv (by decide) (by decide) (by decide)) hv
    (first | with_reducible (first | refine Eq.mpr (B_law20_HomeBack_c6.eq_1 ..) ?_ | refine Eq.mpr (B_law20_HomeBack_c5.eq_1 ..) ?_ | refine Eq.mpr (B_law20_HomeBack_c4.eq_1 ..) ?_ | refine Eq.mpr (B_law20_HomeBack_c3.eq_1 ..) ?_ | refine Eq.mpr (B_law20_HomeBack_c2.eq_1 ..) ?_ | refine Eq.mpr (B_law20_HomeBack_c1.eq_1 ..) ?_))
    refine ⟨Ext, Ext.frame, ?_⟩
    have hvd : HomeAt (drewW w5) bh b e' := hv5
    have hxd : Ext W (drewW w5) := hx5.trans (Keep.drew (fun _ => False) w5)
    have hdd := hd5.ext (Keep.drew (fun _ => False) w5)
    have lowd : ∀ k, foot (drewW w5) b k → W.heap.size ≤ k := low5
    generalize drewW w5 = w5 at hvd hxd hdd lowd ⊢
    (repeat (first | with_reducible (first | refine Eq.mpr (B_law20_HomeBack_c6.eq_1 ..) ?_ | refine Eq.mpr (B_law20_HomeBack_c5.eq_1 ..) ?_ | refine Eq.mpr (B_law20_HomeBack_c4.eq_1 ..) ?_ | refine Eq.mpr (B_law20_HomeBack_c3.eq_1 ..) ?_ | refine Eq.mpr (B_law20_HomeBack_c2.eq_1 ..) ?_ | refine Eq.mpr (B_law20_HomeBack_c1.eq_1 ..) ?_) | simp only [XP_extract0, XP_extract1, XP_extract2, XP_extract3, X_extract0, X_extract1, X_extract2, X_extract3, X_nilS, X_eql_nil_74, X_neq_nil_74, X_eql_nil_124, X_neq_nil_124, X_eql, X_neq, X_lss, X_leq, X_gtr, X_geq, X_not, X_min, X_max, X_len_27, X_len_9, X_len_79, XP_nilS, XP_eql, XP_neq, XP_lss, XP_leq, XP_gtr, XP_geq, XP_not, XP_min, XP_max, XP_len_27, XP_len_9, XP_eql_nil_74, X_str_eql, X_str_neq, XP_str_eql, XP_str_neq, GS, gs_u, decide_true, decide_false, Option.isNone_some, Option.isSome_some, Option.isNone_none, Option.isSome_none, eq_self, Bool.not_true, Bool.not_false, Int.reduceEq, Int.reduceNe, Int.reduceLT, Int.reduceLE, Int.reduceGT, Int.reduceGE]))
    rw [r1, r49]
    refine XP_of hix ?_
    refine XR_ok Ext.frame (fun w' k => run_loadAt agg_27 ((hxd.trans k).cell (fun h => h) hcell)) ?_
    rw [ep]
    (repeat (first | with_reducible (first | refine Eq.mpr (B_law20_HomeBack_c6.eq_1 ..) ?_ | refine Eq.mpr (B_law20_HomeBack_c5.eq_1 ..) ?_ | refine Eq.mpr (B_law20_HomeBack_c4.eq_1 ..) ?_ | refine Eq.mpr (B_law20_HomeBack_c3.eq_1 ..) ?_ | refine Eq.mpr (B_law20_HomeBack_c2.eq_1 ..) ?_ | refine Eq.mpr (B_law20_HomeBack_c1.eq_1 ..) ?_) | simp only [XP_extract0, XP_extract1, XP_extract2, XP_extract3, X_extract0, X_extract1, X_extract2, X_extract3, X_nilS, X_eql_nil_74, X_neq_nil_74, X_eql_nil_124, X_neq_nil_124, X_eql, X_neq, X_lss, X_leq, X_gtr, X_geq, X_not, X_min, X_max, X_len_27, X_len_9, X_len_79, XP_nilS, XP_eql, XP_neq, XP_lss, XP_leq, XP_gtr, XP_geq, XP_not, XP_min, XP_max, XP_len_27, XP_len_9, XP_eql_nil_74, X_str_eql, X_str_neq, XP_str_eql, XP_str_neq, GS, gs_u, decide_true, decide_false, Option.isNone_some, Option.isSome_some, Option.isNone_none, Option.isSome_none, eq_self, Bool.not_true, Bool.not_false, Int.reduceEq, Int.reduceNe, Int.reduceLT, Int.reduceLE, Int.reduceGT, Int.reduceGE]))
    rw [r9]
    refine HRoom_spec hvd hok'.2.1 ?_
    refine ⟨Keep.refl _ _, ?_⟩
    (repeat (first | with_reducible (first | refine Eq.mpr (B_law20_HomeBack_c6.eq_1 ..) ?_ | refine Eq.mpr (B_law20_HomeBack_c5.eq_1 ..) ?_ | refine Eq.mpr (B_law20_HomeBack_c4.eq_1 ..) ?_ | refine Eq.mpr (B_law20_HomeBack_c3.eq_1 ..) ?_ | refine Eq.mpr (B_law20_HomeBack_c2.eq_1 ..) ?_ | refine Eq.mpr (B_law20_HomeBack_c1.eq_1 ..) ?_) | simp only [XP_extract0, XP_extract1, XP_extract2, XP_extract3, X_extract0, X_extract1, X_extract2, X_extract3, X_nilS, X_eql_nil_74, X_neq_nil_74, X_eql_nil_124, X_neq_nil_124, X_eql, X_neq, X_lss, X_leq, X_gtr, X_geq, X_not, X_min, X_max, X_len_27, X_len_9, X_len_79, XP_nilS, XP_eql, XP_neq, XP_lss, XP_leq, XP_gtr, XP_geq, XP_not, XP_min, XP_max, XP_len_27, XP_len_9, XP_eql_nil_74, X_str_eql, X_str_neq, XP_str_eql, XP_str_neq, GS, gs_u, decide_true, decide_false, Option.isNone_some, Option.isSome_some, Option.isNone_none, Option.isSome_none, eq_self, Bool.not_true, Bool.not_false, Int.reduceEq, Int.reduceNe, Int.reduceLT, Int.reduceLE, Int.reduceGT, Int.reduceGE]))
    refine XP_of (fun w => Go.Sh.run_neq_bool Try.underlying4 _ _ _ _ w) ?_
    have hdn := st.done
    obtain ⟨rr, hrr⟩ : ∃ rr, rr = hsave e' d bs := ⟨_, rfl⟩
    have hall : (rr.2 = 0 ∨ rr.2 = 4) ∧ (decide (rr.2 = 0) != decide ((bs.length : Int) ≤ ((e' * 128 : Nat) : Int))) = false ∧ Hst e' (2 + 2 * e' + 3) rr.1 (if rr.2 = 0 then bs else last) (if rr.2 = 0 then gen + 1 else gen) (i + 1) ∧ (∀ s, 2 + 2 * e' ≤ s → s < 2 + 2 * e' + 3 → rr.1.safe[s]? = some (List.replicate 128 0)) := by
      by_cases hroom : bs.length ≤ e' * 128
      · obtain ⟨t1, t2, t3, t4⟩ := hst_save st (by omega) hroom
        rw [← hrr] at t1 t2 t4
        rw [t1, if_pos rfl, if_pos rfl]
        have c : decide ((bs.length : Int) ≤ ((e' * 128 : Nat) : Int)) = true := by simp; omega
        exact ⟨.inl rfl, by rw [c]; decide, t2, fun s h1 h2 => (t4 s h1).trans (out s h1 h2)⟩
      · have hls := long_save (d := d) (each := e') (bs := bs) (by omega)
        have h4 : ¬ ((d, (4 : Int)) : Dk × Int).2 = 0 := by show ¬ (4 : Int) = 0; decide
        rw [hrr, hls, if_neg h4, if_neg h4]
        have c : decide ((bs.length : Int) ≤ ((e' * 128 : Nat) : Int)) = false := by simp; omega
        exact ⟨.inr rfl, by rw [c]; show (decide ((4 : Int) = 0) != false) = false; decide, ⟨st.ok, st.size, st.hok, st.live, st.fuse, st.ws, st.kept, by have := st.le; omega, by show 0 ≤ d.done ∧ d.done ≤ _; omega⟩, out⟩
    rw [← hrr] at hdd ⊢
    obtain ⟨h04, hneq, st2, out2⟩ := hall
    rw [hneq]
    have e4 : decide ((4 : Int) ≠ 0) = true := by decide
    have e44 : decide ((4 : Int) ≠ 4) = false := by decide
    have e40 : decide ((4 : Int) = 0) = false := by decide
    have e00 : decide ((0 : Int) = 0) = true := by decide
    rcases h04 with h | h
    · rw [h] at st2 ⊢
      (repeat (first | with_reducible (first | refine Eq.mpr (B_law20_HomeBack_c6.eq_1 ..) ?_ | refine Eq.mpr (B_law20_HomeBack_c5.eq_1 ..) ?_ | refine Eq.mpr (B_law20_HomeBack_c4.eq_1 ..) ?_ | refine Eq.mpr (B_law20_HomeBack_c3.eq_1 ..) ?_ | refine Eq.mpr (B_law20_HomeBack_c2.eq_1 ..) ?_ | refine Eq.mpr (B_law20_HomeBack_c1.eq_1 ..) ?_) | simp only [XP_extract0, XP_extract1, XP_extract2, XP_extract3, X_extract0, X_extract1, X_extract2, X_extract3, X_nilS, X_eql_nil_74, X_neq_nil_74, X_eql_nil_124, X_neq_nil_124, X_eql, X_neq, X_lss, X_leq, X_gtr, X_geq, X_not, X_min, X_max, X_len_27, X_len_9, X_len_79, XP_nilS, XP_eql, XP_neq, XP_lss, XP_leq, XP_gtr, XP_geq, XP_not, XP_min, XP_max, XP_len_27, XP_len_9, XP_eql_nil_74, X_str_eql, X_str_neq, XP_str_eql, XP_str_neq, GS, gs_u, decide_true, decide_false, Option.isNone_some, Option.isSome_some, Option.isNone_none, Option.isSome_none, eq_self, Bool.not_true, Bool.not_false, Int.reduceEq, Int.reduceNe, Int.reduceLT, Int.reduceLE, Int.reduceGT, Int.reduceGE, e0]))
      refine joinS_of (fun ρ2 wr => ∃ (last : List UInt8) (gen : Nat), DiskAt wr b rr.1 ∧ HomeAt wr bh b e' ∧ Hst e' (2 + 2 * e' + 3) rr.1 last gen (i + 1) ∧ Ext W wr ∧ (∀ k, foot wr b k → W.heap.size ≤ k) ∧
        ρ2 49 = .int .i64 (i : Int) ∧ ρ2 48 = .int .i64 (l.length : Int) ∧ ρ2 1 = v1 ∧ ρ2 9 = ptr bh ∧ ρ2 7 = ptr b ∧ ρ2 5 = .bool true ∧ ρ2 11 = .string (str last) ∧ ρ2 12 = .int .u64 (gen : Int)) ?_ ?_
      · rintro ρ2 w6 ⟨last2, gen2, hd2, hv2, st3, hx2, low2, g49, g48, g1, g9, g7, g5, g11, g12⟩
        (first | with_reducible (first | refine Eq.mpr (B_law20_HomeBack_c6.eq_1 ..) ?_ | refine Eq.mpr (B_law20_HomeBack_c5.eq_1 ..) ?_ | refine Eq.mpr (B_law20_HomeBack_c4.eq_1 ..) ?_ | refine Eq.mpr (B_law20_HomeBack_c3.eq_1 ..) ?_ | refine Eq.mpr (B_law20_HomeBack_c2.eq_1 ..) ?_ | refine Eq.mpr (B_law20_HomeBack_c1.eq_1 ..) ?_))
        rw [g9, g11, g12, g7]
        refine HLoad_spec hv2 hd2 st3.hok' ?_
        intro u w7 hx7 ho7
        obtain ⟨l1, l2, l3⟩ := kept_load st3.live st3.ws st3.kept
        rw [l2] at ho7
        rw [l1, l3]
        (repeat (first | with_reducible (first | refine Eq.mpr (B_law20_HomeBack_c6.eq_1 ..) ?_ | refine Eq.mpr (B_law20_HomeBack_c5.eq_1 ..) ?_ | refine Eq.mpr (B_law20_HomeBack_c4.eq_1 ..) ?_ | refine Eq.mpr (B_law20_HomeBack_c3.eq_1 ..) ?_ | refine Eq.mpr (B_law20_HomeBack_c2.eq_1 ..) ?_ | refine Eq.mpr (B_law20_HomeBack_c1.eq_1 ..) ?_) | simp only [XP_extract0, XP_extract1, XP_extract2, XP_extract3, X_extract0, X_extract1, X_extract2, X_extract3, X_nilS, X_eql_nil_74, X_neq_nil_74, X_eql_nil_124, X_neq_nil_124, X_eql, X_neq, X_lss, X_leq, X_gtr, X_geq, X_not, X_min, X_max, X_len_27, X_len_9, X_len_79, XP_nilS, XP_eql, XP_neq, XP_lss, XP_leq, XP_gtr, XP_geq, XP_not, XP_min, XP_max, XP_len_27, XP_len_9, XP_eql_nil_74, X_str_eql, X_str_neq, XP_str_eql, XP_str_neq, GS, gs_u, decide_true, decide_false, Option.isNone_some, Option.isSome_some, Option.isNone_none, Option.isSome_none, eq_self, Bool.not_true, Bool.not_false, Int.reduceEq, Int.reduceNe, Int.reduceLT, Int.reduceLE, Int.reduceGT, Int.reduceGE]))
        refine X_str Try.underlying27 Try.underlying5 Try.underlying9 (own_bts ho7).1 ?_
        have cz : ((str last2).toList != (str last2).toList) = false := by simp
        have cg : decide ((gen2 : Int) ≠ (gen2 : Int)) = false := by simp
        (repeat (first | with_reducible (first | refine Eq.mpr (B_law20_HomeBack_c6.eq_1 ..) ?_ | refine Eq.mpr (B_law20_HomeBack_c5.eq_1 ..) ?_ | refine Eq.mpr (B_law20_HomeBack_c4.eq_1 ..) ?_ | refine Eq.mpr (B_law20_HomeBack_c3.eq_1 ..) ?_ | refine Eq.mpr (B_law20_HomeBack_c2.eq_1 ..) ?_ | refine Eq.mpr (B_law20_HomeBack_c1.eq_1 ..) ?_) | simp only [XP_extract0, XP_extract1, XP_extract2, XP_extract3, X_extract0, X_extract1, X_extract2, X_extract3, X_nilS, X_eql_nil_74, X_neq_nil_74, X_eql_nil_124, X_neq_nil_124, X_eql, X_neq, X_lss, X_leq, X_gtr, X_geq, X_not, X_min, X_max, X_len_27, X_len_9, X_len_79, XP_nilS, XP_eql, XP_neq, XP_lss, XP_leq, XP_gtr, XP_geq, XP_not, XP_min, XP_max, XP_len_27, XP_len_9, XP_eql_nil_74, X_str_eql, X_str_neq, XP_str_eql, XP_str_neq, GS, gs_u, decide_true, decide_false, Option.isNone_some, Option.isSome_some, Option.isNone_none, Option.isSome_none, eq_self, Bool.not_true, Bool.not_false, Int.reduceEq, Int.reduceNe, Int.reduceLT, Int.reduceLE, Int.reduceGT, Int.reduceGE, cz, cg, e0]))
        refine Pending_spec (hd2.ext hx7) ?_
        rw [st3.ws]
        have cw : decide (((([] : List (Nat × List UInt8)).length : Nat) : Int) ≠ 0) = false := by decide
        (repeat (first | with_reducible (first | refine Eq.mpr (B_law20_HomeBack_c6.eq_1 ..) ?_ | refine Eq.mpr (B_law20_HomeBack_c5.eq_1 ..) ?_ | refine Eq.mpr (B_law20_HomeBack_c4.eq_1 ..) ?_ | refine Eq.mpr (B_law20_HomeBack_c3.eq_1 ..) ?_ | refine Eq.mpr (B_law20_HomeBack_c2.eq_1 ..) ?_ | refine Eq.mpr (B_law20_HomeBack_c1.eq_1 ..) ?_) | simp only [XP_extract0, XP_extract1, XP_extract2, XP_extract3, X_extract0, X_extract1, X_extract2, X_extract3, X_nilS, X_eql_nil_74, X_neq_nil_74, X_eql_nil_124, X_neq_nil_124, X_eql, X_neq, X_lss, X_leq, X_gtr, X_geq, X_not, X_min, X_max, X_len_27, X_len_9, X_len_79, XP_nilS, XP_eql, XP_neq, XP_lss, XP_leq, XP_gtr, XP_geq, XP_not, XP_min, XP_max, XP_len_27, XP_len_9, XP_eql_nil_74, X_str_eql, X_str_neq, XP_str_eql, XP_str_neq, GS, gs_u, decide_true, decide_false, Option.isNone_some, Option.isSome_some, Option.isNone_none, Option.isSome_none, eq_self, Bool.not_true, Bool.not_false, Int.reduceEq, Int.reduceNe, Int.reduceLT, Int.reduceLE, Int.reduceGT, Int.reduceGE, cw]))
        obtain ⟨au, cu, eu⟩ := own_sl ho7
        rw [eu]
        (repeat (first | with_reducible (first | refine Eq.mpr (B_law20_HomeBack_c6.eq_1 ..) ?_ | refine Eq.mpr (B_law20_HomeBack_c5.eq_1 ..) ?_ | refine Eq.mpr (B_law20_HomeBack_c4.eq_1 ..) ?_ | refine Eq.mpr (B_law20_HomeBack_c3.eq_1 ..) ?_ | refine Eq.mpr (B_law20_HomeBack_c2.eq_1 ..) ?_ | refine Eq.mpr (B_law20_HomeBack_c1.eq_1 ..) ?_) | simp only [XP_extract0, XP_extract1, XP_extract2, XP_extract3, X_extract0, X_extract1, X_extract2, X_extract3, X_nilS, X_eql_nil_74, X_neq_nil_74, X_eql_nil_124, X_neq_nil_124, X_eql, X_neq, X_lss, X_leq, X_gtr, X_geq, X_not, X_min, X_max, X_len_27, X_len_9, X_len_79, XP_nilS, XP_eql, XP_neq, XP_lss, XP_leq, XP_gtr, XP_geq, XP_not, XP_min, XP_max, XP_len_27, XP_len_9, XP_eql_nil_74, X_str_eql, X_str_neq, XP_str_eql, XP_str_neq, GS, gs_u, decide_true, decide_false, Option.isNone_some, Option.isSome_some, Option.isNone_none, Option.isSome_none, eq_self, Bool.not_true, Bool.not_false, Int.reduceEq, Int.reduceNe, Int.reduceLT, Int.reduceLE, Int.reduceGT, Int.reduceGE]))
        rw [← eu]
        have hd7 := hd2.ext hx7
        have hv7 : HomeAt w7 bh b e' := hx7.get hv2
        have hx07 : Ext W w7 := hx2.trans hx7
        have low7 : ∀ k, foot w7 b k → W.heap.size ≤ k := fun k hk => low2 k ((foot_x hx7 (hd2.lt b (foot_self _ _))).1 hk)
        refine loopG 2 (fun ρ3 wr => ∃ (j : Nat) (xs : List UInt8), j ≤ last2.length ∧ xs.length = last2.length ∧ wr.ownsRow w6.heap.size 5 1 u last2.length (B8 xs) ∧ DiskAt wr b rr.1 ∧ HomeAt wr bh b e' ∧ Ext W wr ∧ (∀ k, foot wr b k → W.heap.size ≤ k) ∧
            ρ3 122 = .int .i64 (j : Int) ∧ ρ3 121 = .int .i64 (last2.length : Int) ∧ ρ3 15 = u ∧ ρ3 49 = .int .i64 (i : Int) ∧ ρ3 48 = .int .i64 (l.length : Int) ∧ ρ3 1 = v1 ∧ ρ3 9 = ptr bh ∧ ρ3 7 = ptr b ∧ ρ3 5 = .bool true ∧ ρ3 11 = .string (str last2) ∧ ρ3 12 = .int .u64 (gen2 : Int))
          (fun ρ3 wr => match ρ3 122 with | .int _ s => (last2.length - s).toNat | _ => 0)
          (fun ρ3 wr => DiskAt wr b rr.1 ∧ HomeAt wr bh b e' ∧ Ext W wr ∧ (∀ k, foot wr b k → W.heap.size ≤ k) ∧
            ρ3 49 = .int .i64 (i : Int) ∧ ρ3 48 = .int .i64 (l.length : Int) ∧ ρ3 1 = v1 ∧ ρ3 9 = ptr bh ∧ ρ3 7 = ptr b ∧ ρ3 5 = .bool true ∧ ρ3 11 = .string (str last2) ∧ ρ3 12 = .int .u64 (gen2 : Int)) ?_ ?_ ?_
        · exact ⟨0, last2, by omega, rfl, ho7, hd7, hv7, hx07, low7, rfl, rfl, rfl, g49, g48, g1, g9, g7, g5, g11, g12⟩
        · rintro J3 hJ3 ρ3 wr ⟨j, xs, hj, hxs, hor, hdr, hvr, hxr, lowr, t122, t121, t15, t49, t48, t1, t9, t7, t5, t11, t12⟩
          rw [t122, t121, t15, X_lss, condS_bool]
          by_cases hje : j = last2.length
          · rw [if_neg (by simp; omega)]
            exact hJ3 _ _ ⟨hdr, hvr, hxr, lowr, t49, t48, t1, t9, t7, t5, t11, t12⟩
          rw [if_pos (by simp; omega)]
          have hmx := kept_len st3.kept
          refine X_xorAt hor (j := j) (by omega) 255 ?_
          intro a1 a2 a3 a4 w8 ho8 hk8
          have hfo : ∀ k, foot wr b k → ¬ (u.ownBlock = some k) := fun k hf hk => by
            obtain ⟨cs, hcs⟩ := own_blkT hor hk
            exact hdr.notin hcs (by decide) (by decide) (by decide) hf
          have hbhn : ¬ (u.ownBlock = some bh) := own_neT hor hvr (by decide)
          rw [X_add]
          show _ ∧ _
          refine ⟨⟨j + 1, _, by omega, by rw [List.length_set]; exact hxs, ho8, hdr.keep hk8 hfo, hk8.get hbhn hvr, Ext.seq hxr hk8 (fun k hk => Nat.le_trans hx2.size (hor.lt k hk).1), fun k hk => lowr k ((foot_same (hk8.block b (hdr.lt b (foot_self _ _)) (fun h => hfo b (foot_self _ _) h))).1 hk), next64 (n := last2.length) (by omega) (by omega), t121, t15, t49, t48, t1, t9, t7, t5, t11, t12⟩, ?_⟩
          show (_ - IntKind.i64.wrap _).toNat < _
          rw [w64 (by omega) (by omega)]
          first | omega | (show _ < (_ : Int).toNat; omega)
        · rintro ρ4 wr ⟨hdr, hvr, hxr, lowr, t49, t48, t1, t9, t7, t5, t11, t12⟩
          show X _ _ _ _
          rw [t49, X_add]
          show _ ∧ _
          refine ⟨⟨i + 1, rr.1, last2, gen2, by omega, by omega, hdr, hvr, st3, out2, hxr, lowr, next64 (n := 20) (by decide) (by omega), t48, t1, t9, t7, t5, t11, t12⟩, ?_⟩
          show (_ - IntKind.i64.wrap _).toNat < _
          rw [w64 (by omega) (by omega)]
          first | omega | (show _ < (_ : Int).toNat; omega)
      · intro J2 hJ2
        (repeat (first | with_reducible (first | refine Eq.mpr (B_law20_HomeBack_c6.eq_1 ..) ?_ | refine Eq.mpr (B_law20_HomeBack_c5.eq_1 ..) ?_ | refine Eq.mpr (B_law20_HomeBack_c4.eq_1 ..) ?_ | refine Eq.mpr (B_law20_HomeBack_c3.eq_1 ..) ?_ | refine Eq.mpr (B_law20_HomeBack_c2.eq_1 ..) ?_ | refine Eq.mpr (B_law20_HomeBack_c1.eq_1 ..) ?_) | simp only [XP_extract0, XP_extract1, XP_extract2, XP_extract3, X_extract0, X_extract1, X_extract2, X_extract3, X_nilS, X_eql_nil_74, X_neq_nil_74, X_eql_nil_124, X_neq_nil_124, X_eql, X_neq, X_lss, X_leq, X_gtr, X_geq, X_not, X_min, X_max, X_len_27, X_len_9, X_len_79, XP_nilS, XP_eql, XP_neq, XP_lss, XP_leq, XP_gtr, XP_geq, XP_not, XP_min, XP_max, XP_len_27, XP_len_9, XP_eql_nil_74, X_str_eql, X_str_neq, XP_str_eql, XP_str_neq, GS, gs_u, decide_true, decide_false, Option.isNone_some, Option.isSome_some, Option.isNone_none, Option.isSome_none, eq_self, Bool.not_true, Bool.not_false, Int.reduceEq, Int.reduceNe, Int.reduceLT, Int.reduceLE, Int.reduceGT, Int.reduceGE, e00]))
        refine X_of (hix _) ?_
        refine X_of (run_loadAt agg_27 (hxd.cell (fun h => h) hcell)) ?_
        refine X_str Try.underlying27 Try.underlying5 Try.underlying9 (hbi.ext hxd) ?_
        have egw : IntKind.u64.wrap ((gen : Int) + 1) = ((gen + 1 : Nat) : Int) := by have := st.le; rw [wrap_u64]; omega
        rw [r12, X_add, egw]
        exact hJ2 _ _ ⟨bs, gen + 1, hdd, hvd, st2, hxd, lowd, r49, r48, r1, r9, r7, r5, rfl, rfl⟩
    · rw [h] at st2 ⊢
      (repeat (first | with_reducible (first | refine Eq.mpr (B_law20_HomeBack_c6.eq_1 ..) ?_ | refine Eq.mpr (B_law20_HomeBack_c5.eq_1 ..) ?_ | refine Eq.mpr (B_law20_HomeBack_c4.eq_1 ..) ?_ | refine Eq.mpr (B_law20_HomeBack_c3.eq_1 ..) ?_ | refine Eq.mpr (B_law20_HomeBack_c2.eq_1 ..) ?_ | refine Eq.mpr (B_law20_HomeBack_c1.eq_1 ..) ?_) | simp only [XP_extract0, XP_extract1, XP_extract2, XP_extract3, X_extract0, X_extract1, X_extract2, X_extract3, X_nilS, X_eql_nil_74, X_neq_nil_74, X_eql_nil_124, X_neq_nil_124, X_eql, X_neq, X_lss, X_leq, X_gtr, X_geq, X_not, X_min, X_max, X_len_27, X_len_9, X_len_79, XP_nilS, XP_eql, XP_neq, XP_lss, XP_leq, XP_gtr, XP_geq, XP_not, XP_min, XP_max, XP_len_27, XP_len_9, XP_eql_nil_74, X_str_eql, X_str_neq, XP_str_eql, XP_str_neq, GS, gs_u, decide_true, decide_false, Option.isNone_some, Option.isSome_some, Option.isNone_none, Option.isSome_none, eq_self, Bool.not_true, Bool.not_false, Int.reduceEq, Int.reduceNe, Int.reduceLT, Int.reduceLE, Int.reduceGT, Int.reduceGE, e4, e44]))
      refine joinS_of (fun ρ2 wr => ∃ (last : List UInt8) (gen : Nat), DiskAt wr b rr.1 ∧ HomeAt wr bh b e' ∧ Hst e' (2 + 2 * e' + 3) rr.1 last gen (i + 1) ∧ Ext W wr ∧ (∀ k, foot wr b k → W.heap.size ≤ k) ∧
        ρ2 49 = .int .i64 (i : Int) ∧ ρ2 48 = .int .i64 (l.length : Int) ∧ ρ2 1 = v1 ∧ ρ2 9 = ptr bh ∧ ρ2 7 = ptr b ∧ ρ2 5 = .bool true ∧ ρ2 11 = .string (str last) ∧ ρ2 12 = .int .u64 (gen : Int)) ?_ ?_
      · rintro ρ2 w6 ⟨last2, gen2, hd2, hv2, st3, hx2, low2, g49, g48, g1, g9, g7, g5, g11, g12⟩
        (first | with_reducible (first | refine Eq.mpr (B_law20_HomeBack_c6.eq_1 ..) ?_ | refine Eq.mpr (B_law20_HomeBack_c5.eq_1 ..) ?_ | refine Eq.mpr (B_law20_HomeBack_c4.eq_1 ..) ?_ | refine Eq.mpr (B_law20_HomeBack_c3.eq_1 ..) ?_ | refine Eq.mpr (B_law20_HomeBack_c2.eq_1 ..) ?_ | refine Eq.mpr (B_law20_HomeBack_c1.eq_1 ..) ?_))
        rw [g9, g11, g12, g7]
        refine HLoad_spec hv2 hd2 st3.hok' ?_
        intro u w7 hx7 ho7
        obtain ⟨l1, l2, l3⟩ := kept_load st3.live st3.ws st3.kept
        rw [l2] at ho7
        rw [l1, l3]
        (repeat (first | with_reducible (first | refine Eq.mpr (B_law20_HomeBack_c6.eq_1 ..) ?_ | refine Eq.mpr (B_law20_HomeBack_c5.eq_1 ..) ?_ | refine Eq.mpr (B_law20_HomeBack_c4.eq_1 ..) ?_ | refine Eq.mpr (B_law20_HomeBack_c3.eq_1 ..) ?_ | refine Eq.mpr (B_law20_HomeBack_c2.eq_1 ..) ?_ | refine Eq.mpr (B_law20_HomeBack_c1.eq_1 ..) ?_) | simp only [XP_extract0, XP_extract1, XP_extract2, XP_extract3, X_extract0, X_extract1, X_extract2, X_extract3, X_nilS, X_eql_nil_74, X_neq_nil_74, X_eql_nil_124, X_neq_nil_124, X_eql, X_neq, X_lss, X_leq, X_gtr, X_geq, X_not, X_min, X_max, X_len_27, X_len_9, X_len_79, XP_nilS, XP_eql, XP_neq, XP_lss, XP_leq, XP_gtr, XP_geq, XP_not, XP_min, XP_max, XP_len_27, XP_len_9, XP_eql_nil_74, X_str_eql, X_str_neq, XP_str_eql, XP_str_neq, GS, gs_u, decide_true, decide_false, Option.isNone_some, Option.isSome_some, Option.isNone_none, Option.isSome_none, eq_self, Bool.not_true, Bool.not_false, Int.reduceEq, Int.reduceNe, Int.reduceLT, Int.reduceLE, Int.reduceGT, Int.reduceGE]))
        refine X_str Try.underlying27 Try.underlying5 Try.underlying9 (own_bts ho7).1 ?_
        have cz : ((str last2).toList != (str last2).toList) = false := by simp
        have cg : decide ((gen2 : Int) ≠ (gen2 : Int)) = false := by simp
        (repeat (first | with_reducible (first | refine Eq.mpr (B_law20_HomeBack_c6.eq_1 ..) ?_ | refine Eq.mpr (B_law20_HomeBack_c5.eq_1 ..) ?_ | refine Eq.mpr (B_law20_HomeBack_c4.eq_1 ..) ?_ | refine Eq.mpr (B_law20_HomeBack_c3.eq_1 ..) ?_ | refine Eq.mpr (B_law20_HomeBack_c2.eq_1 ..) ?_ | refine Eq.mpr (B_law20_HomeBack_c1.eq_1 ..) ?_) | simp only [XP_extract0, XP_extract1, XP_extract2, XP_extract3, X_extract0, X_extract1, X_extract2, X_extract3, X_nilS, X_eql_nil_74, X_neq_nil_74, X_eql_nil_124, X_neq_nil_124, X_eql, X_neq, X_lss, X_leq, X_gtr, X_geq, X_not, X_min, X_max, X_len_27, X_len_9, X_len_79, XP_nilS, XP_eql, XP_neq, XP_lss, XP_leq, XP_gtr, XP_geq, XP_not, XP_min, XP_max, XP_len_27, XP_len_9, XP_eql_nil_74, X_str_eql, X_str_neq, XP_str_eql, XP_str_neq, GS, gs_u, decide_true, decide_false, Option.isNone_some, Option.isSome_some, Option.isNone_none, Option.isSome_none, eq_self, Bool.not_true, Bool.not_false, Int.reduceEq, Int.reduceNe, Int.reduceLT, Int.reduceLE, Int.reduceGT, Int.reduceGE, cz, cg, e0]))
        refine Pending_spec (hd2.ext hx7) ?_
        rw [st3.ws]
        have cw : decide (((([] : List (Nat × List UInt8)).length : Nat) : Int) ≠ 0) = false := by decide
        (repeat (first | with_reducible (first | refine Eq.mpr (B_law20_HomeBack_c6.eq_1 ..) ?_ | refine Eq.mpr (B_law20_HomeBack_c5.eq_1 ..) ?_ | refine Eq.mpr (B_law20_HomeBack_c4.eq_1 ..) ?_ | refine Eq.mpr (B_law20_HomeBack_c3.eq_1 ..) ?_ | refine Eq.mpr (B_law20_HomeBack_c2.eq_1 ..) ?_ | refine Eq.mpr (B_law20_HomeBack_c1.eq_1 ..) ?_) | simp only [XP_extract0, XP_extract1, XP_extract2, XP_extract3, X_extract0, X_extract1, X_extract2, X_extract3, X_nilS, X_eql_nil_74, X_neq_nil_74, X_eql_nil_124, X_neq_nil_124, X_eql, X_neq, X_lss, X_leq, X_gtr, X_geq, X_not, X_min, X_max, X_len_27, X_len_9, X_len_79, XP_nilS, XP_eql, XP_neq, XP_lss, XP_leq, XP_gtr, XP_geq, XP_not, XP_min, XP_max, XP_len_27, XP_len_9, XP_eql_nil_74, X_str_eql, X_str_neq, XP_str_eql, XP_str_neq, GS, gs_u, decide_true, decide_false, Option.isNone_some, Option.isSome_some, Option.isNone_none, Option.isSome_none, eq_self, Bool.not_true, Bool.not_false, Int.reduceEq, Int.reduceNe, Int.reduceLT, Int.reduceLE, Int.reduceGT, Int.reduceGE, cw]))
        obtain ⟨au, cu, eu⟩ := own_sl ho7
        rw [eu]
        (repeat (first | with_reducible (first | refine Eq.mpr (B_law20_HomeBack_c6.eq_1 ..) ?_ | refine Eq.mpr (B_law20_HomeBack_c5.eq_1 ..) ?_ | refine Eq.mpr (B_law20_HomeBack_c4.eq_1 ..) ?_ | refine Eq.mpr (B_law20_HomeBack_c3.eq_1 ..) ?_ | refine Eq.mpr (B_law20_HomeBack_c2.eq_1 ..) ?_ | refine Eq.mpr (B_law20_HomeBack_c1.eq_1 ..) ?_) | simp only [XP_extract0, XP_extract1, XP_extract2, XP_extract3, X_extract0, X_extract1, X_extract2, X_extract3, X_nilS, X_eql_nil_74, X_neq_nil_74, X_eql_nil_124, X_neq_nil_124, X_eql, X_neq, X_lss, X_leq, X_gtr, X_geq, X_not, X_min, X_max, X_len_27, X_len_9, X_len_79, XP_nilS, XP_eql, XP_neq, XP_lss, XP_leq, XP_gtr, XP_geq, XP_not, XP_min, XP_max, XP_len_27, XP_len_9, XP_eql_nil_74, X_str_eql, X_str_neq, XP_str_eql, XP_str_neq, GS, gs_u, decide_true, decide_false, Option.isNone_some, Option.isSome_some, Option.isNone_none, Option.isSome_none, eq_self, Bool.not_true, Bool.not_false, Int.reduceEq, Int.reduceNe, Int.reduceLT, Int.reduceLE, Int.reduceGT, Int.reduceGE]))
        rw [← eu]
        have hd7 := hd2.ext hx7
        have hv7 : HomeAt w7 bh b e' := hx7.get hv2
        have hx07 : Ext W w7 := hx2.trans hx7
        have low7 : ∀ k, foot w7 b k → W.heap.size ≤ k := fun k hk => low2 k ((foot_x hx7 (hd2.lt b (foot_self _ _))).1 hk)
        refine loopG 2 (fun ρ3 wr => ∃ (j : Nat) (xs : List UInt8), j ≤ last2.length ∧ xs.length = last2.length ∧ wr.ownsRow w6.heap.size 5 1 u last2.length (B8 xs) ∧ DiskAt wr b rr.1 ∧ HomeAt wr bh b e' ∧ Ext W wr ∧ (∀ k, foot wr b k → W.heap.size ≤ k) ∧
            ρ3 122 = .int .i64 (j : Int) ∧ ρ3 121 = .int .i64 (last2.length : Int) ∧ ρ3 15 = u ∧ ρ3 49 = .int .i64 (i : Int) ∧ ρ3 48 = .int .i64 (l.length : Int) ∧ ρ3 1 = v1 ∧ ρ3 9 = ptr bh ∧ ρ3 7 = ptr b ∧ ρ3 5 = .bool true ∧ ρ3 11 = .string (str last2) ∧ ρ3 12 = .int .u64 (gen2 : Int))
          (fun ρ3 wr => match ρ3 122 with | .int _ s => (last2.length - s).toNat | _ => 0)
          (fun ρ3 wr => DiskAt wr b rr.1 ∧ HomeAt wr bh b e' ∧ Ext W wr ∧ (∀ k, foot wr b k → W.heap.size ≤ k) ∧
            ρ3 49 = .int .i64 (i : Int) ∧ ρ3 48 = .int .i64 (l.length : Int) ∧ ρ3 1 = v1 ∧ ρ3 9 = ptr bh ∧ ρ3 7 = ptr b ∧ ρ3 5 = .bool true ∧ ρ3 11 = .string (str last2) ∧ ρ3 12 = .int .u64 (gen2 : Int)) ?_ ?_ ?_
        · exact ⟨0, last2, by omega, rfl, ho7, hd7, hv7, hx07, low7, rfl, rfl, rfl, g49, g48, g1, g9, g7, g5, g11, g12⟩
        · rintro J3 hJ3 ρ3 wr ⟨j, xs, hj, hxs, hor, hdr, hvr, hxr, lowr, t122, t121, t15, t49, t48, t1, t9, t7, t5, t11, t12⟩
          rw [t122, t121, t15, X_lss, condS_bool]
          by_cases hje : j = last2.length
          · rw [if_neg (by simp; omega)]
            exact hJ3 _ _ ⟨hdr, hvr, hxr, lowr, t49, t48, t1, t9, t7, t5, t11, t12⟩
          rw [if_pos (by simp; omega)]
          have hmx := kept_len st3.kept
          refine X_xorAt hor (j := j) (by omega) 255 ?_
          intro a1 a2 a3 a4 w8 ho8 hk8
          have hfo : ∀ k, foot wr b k → ¬ (u.ownBlock = some k) := fun k hf hk => by
            obtain ⟨cs, hcs⟩ := own_blkT hor hk
            exact hdr.notin hcs (by decide) (by decide) (by decide) hf
          have hbhn : ¬ (u.ownBlock = some bh) := own_neT hor hvr (by decide)
          rw [X_add]
          show _ ∧ _
          refine ⟨⟨j + 1, _, by omega, by rw [List.length_set]; exact hxs, ho8, hdr.keep hk8 hfo, hk8.get hbhn hvr, Ext.seq hxr hk8 (fun k hk => Nat.le_trans hx2.size (hor.lt k hk).1), fun k hk => lowr k ((foot_same (hk8.block b (hdr.lt b (foot_self _ _)) (fun h => hfo b (foot_self _ _) h))).1 hk), next64 (n := last2.length) (by omega) (by omega), t121, t15, t49, t48, t1, t9, t7, t5, t11, t12⟩, ?_⟩
          show (_ - IntKind.i64.wrap _).toNat < _
          rw [w64 (by omega) (by omega)]
          first | omega | (show _ < (_ : Int).toNat; omega)
        · rintro ρ4 wr ⟨hdr, hvr, hxr, lowr, t49, t48, t1, t9, t7, t5, t11, t12⟩
          show X _ _ _ _
          rw [t49, X_add]
          show _ ∧ _
          refine ⟨⟨i + 1, rr.1, last2, gen2, by omega, by omega, hdr, hvr, st3, out2, hxr, lowr, next64 (n := 20) (by decide) (by omega), t48, t1, t9, t7, t5, t11, t12⟩, ?_⟩
          show (_ - IntKind.i64.wrap _).toNat < _
          rw [w64 (by omega) (by omega)]
          first | omega | (show _ < (_ : Int).toNat; omega)
      · intro J2 hJ2
        (repeat (first | with_reducible (first | refine Eq.mpr (B_law20_HomeBack_c6.eq_1 ..) ?_ | refine Eq.mpr (B_law20_HomeBack_c5.eq_1 ..) ?_ | refine Eq.mpr (B_law20_HomeBack_c4.eq_1 ..) ?_ | refine Eq.mpr (B_law20_HomeBack_c3.eq_1 ..) ?_ | refine Eq.mpr (B_law20_HomeBack_c2.eq_1 ..) ?_ | refine Eq.mpr (B_law20_HomeBack_c1.eq_1 ..) ?_) | simp only [XP_extract0, XP_extract1, XP_extract2, XP_extract3, X_extract0, X_extract1, X_extract2, X_extract3, X_nilS, X_eql_nil_74, X_neq_nil_74, X_eql_nil_124, X_neq_nil_124, X_eql, X_neq, X_lss, X_leq, X_gtr, X_geq, X_not, X_min, X_max, X_len_27, X_len_9, X_len_79, XP_nilS, XP_eql, XP_neq, XP_lss, XP_leq, XP_gtr, XP_geq, XP_not, XP_min, XP_max, XP_len_27, XP_len_9, XP_eql_nil_74, X_str_eql, X_str_neq, XP_str_eql, XP_str_neq, GS, gs_u, decide_true, decide_false, Option.isNone_some, Option.isSome_some, Option.isNone_none, Option.isSome_none, eq_self, Bool.not_true, Bool.not_false, Int.reduceEq, Int.reduceNe, Int.reduceLT, Int.reduceLE, Int.reduceGT, Int.reduceGE, e40]))
        exact hJ2 _ _ ⟨last, gen, hdd, hvd, st2, hxd, lowd, r49, r48, r1, r9, r7, r5, r11, r12⟩
  · rintro ρ wr ⟨d, last, gen, i, hd, hv, st, out, hx, r9, r7, r5⟩
    show CALL _ _ _ _ _
    rw [r9]
    refine HRest_spec hv hok'.2.1 ?_
    refine loopG 4 (fun ρ6 w6 => ∃ j : Nat, 2 + 2 * e' ≤ j ∧ j ≤ 2 + 2 * e' + 3 ∧ Ext wr w6 ∧ ρ6 19 = .int .i64 (j : Int) ∧ ρ6 7 = ptr b ∧ ρ6 5 = .bool true)
      (fun ρ6 wr => match ρ6 19 with | .int _ s => (2 + 2 * e' + 3 - s).toNat | _ => 0)
      (fun ρ6 w6 => Ext wr w6 ∧ ρ6 5 = .bool true) ?_ ?_ ?_
    · exact ⟨_, Nat.le_refl _, by omega, Keep.refl _ _, rfl, r7, r5⟩
    · rintro J hJ ρ6 w6 ⟨j, hj1, hj, hx6, t19, t7, t5⟩
      rw [t7]
      refine Size_spec (hd.ext hx6) ?_
      rw [st.size]
      (first | with_reducible (first | refine Eq.mpr (B_law20_HomeBack_c6.eq_1 ..) ?_ | refine Eq.mpr (B_law20_HomeBack_c5.eq_1 ..) ?_ | refine Eq.mpr (B_law20_HomeBack_c4.eq_1 ..) ?_ | refine Eq.mpr (B_law20_HomeBack_c3.eq_1 ..) ?_ | refine Eq.mpr (B_law20_HomeBack_c2.eq_1 ..) ?_ | refine Eq.mpr (B_law20_HomeBack_c1.eq_1 ..) ?_))
      rw [t19, t7]
      (repeat (first | with_reducible (first | refine Eq.mpr (B_law20_HomeBack_c6.eq_1 ..) ?_ | refine Eq.mpr (B_law20_HomeBack_c5.eq_1 ..) ?_ | refine Eq.mpr (B_law20_HomeBack_c4.eq_1 ..) ?_ | refine Eq.mpr (B_law20_HomeBack_c3.eq_1 ..) ?_ | refine Eq.mpr (B_law20_HomeBack_c2.eq_1 ..) ?_ | refine Eq.mpr (B_law20_HomeBack_c1.eq_1 ..) ?_) | simp only [XP_extract0, XP_extract1, XP_extract2, XP_extract3, X_extract0, X_extract1, X_extract2, X_extract3, X_nilS, X_eql_nil_74, X_neq_nil_74, X_eql_nil_124, X_neq_nil_124, X_eql, X_neq, X_lss, X_leq, X_gtr, X_geq, X_not, X_min, X_max, X_len_27, X_len_9, X_len_79, XP_nilS, XP_eql, XP_neq, XP_lss, XP_leq, XP_gtr, XP_geq, XP_not, XP_min, XP_max, XP_len_27, XP_len_9, XP_eql_nil_74, X_str_eql, X_str_neq, XP_str_eql, XP_str_neq, GS, gs_u, decide_true, decide_false, Option.isNone_some, Option.isSome_some, Option.isNone_none, Option.isSome_none, eq_self, Bool.not_true, Bool.not_false, Int.reduceEq, Int.reduceNe, Int.reduceLT, Int.reduceLE, Int.reduceGT, Int.reduceGE]))
      by_cases hje : j = 2 + 2 * e' + 3
      · have c : decide ((j : Int) < ((2 + 2 * e' + 3 : Nat) : Int)) = false := by simp; omega
        (repeat (first | with_reducible (first | refine Eq.mpr (B_law20_HomeBack_c6.eq_1 ..) ?_ | refine Eq.mpr (B_law20_HomeBack_c5.eq_1 ..) ?_ | refine Eq.mpr (B_law20_HomeBack_c4.eq_1 ..) ?_ | refine Eq.mpr (B_law20_HomeBack_c3.eq_1 ..) ?_ | refine Eq.mpr (B_law20_HomeBack_c2.eq_1 ..) ?_ | refine Eq.mpr (B_law20_HomeBack_c1.eq_1 ..) ?_) | simp only [XP_extract0, XP_extract1, XP_extract2, XP_extract3, X_extract0, X_extract1, X_extract2, X_extract3, X_nilS, X_eql_nil_74, X_neq_nil_74, X_eql_nil_124, X_neq_nil_124, X_eql, X_neq, X_lss, X_leq, X_gtr, X_geq, X_not, X_min, X_max, X_len_27, X_len_9, X_len_79, XP_nilS, XP_eql, XP_neq, XP_lss, XP_leq, XP_gtr, XP_geq, XP_not, XP_min, XP_max, XP_len_27, XP_len_9, XP_eql_nil_74, X_str_eql, X_str_neq, XP_str_eql, XP_str_neq, GS, gs_u, decide_true, decide_false, Option.isNone_some, Option.isSome_some, Option.isNone_none, Option.isSome_none, eq_self, Bool.not_true, Bool.not_false, Int.reduceEq, Int.reduceNe, Int.reduceLT, Int.reduceLE, Int.reduceGT, Int.reduceGE, c]))
        exact hJ _ _ ⟨hx6, t5⟩
      have c : decide ((j : Int) < ((2 + 2 * e' + 3 : Nat) : Int)) = true := by simp; omega
      (repeat (first | with_reducible (first | refine Eq.mpr (B_law20_HomeBack_c6.eq_1 ..) ?_ | refine Eq.mpr (B_law20_HomeBack_c5.eq_1 ..) ?_ | refine Eq.mpr (B_law20_HomeBack_c4.eq_1 ..) ?_ | refine Eq.mpr (B_law20_HomeBack_c3.eq_1 ..) ?_ | refine Eq.mpr (B_law20_HomeBack_c2.eq_1 ..) ?_ | refine Eq.mpr (B_law20_HomeBack_c1.eq_1 ..) ?_) | simp only [XP_extract0, XP_extract1, XP_extract2, XP_extract3, X_extract0, X_extract1, X_extract2, X_extract3, X_nilS, X_eql_nil_74, X_neq_nil_74, X_eql_nil_124, X_neq_nil_124, X_eql, X_neq, X_lss, X_leq, X_gtr, X_geq, X_not, X_min, X_max, X_len_27, X_len_9, X_len_79, XP_nilS, XP_eql, XP_neq, XP_lss, XP_leq, XP_gtr, XP_geq, XP_not, XP_min, XP_max, XP_len_27, XP_len_9, XP_eql_nil_74, X_str_eql, X_str_neq, XP_str_eql, XP_str_neq, GS, gs_u, decide_true, decide_false, Option.isNone_some, Option.isSome_some, Option.isNone_none, Option.isSome_none, eq_self, Bool.not_true, Bool.not_false, Int.reduceEq, Int.reduceNe, Int.reduceLT, Int.reduceLE, Int.reduceGT, Int.reduceGE, c]))
      refine Read_spec (hd.ext hx6) ?_
      intro v8 w8 hx8 ho8
      have hnow : d.now = d.safe := by unfold Dk.now; rw [st.ws]; rfl
      have hrd : d.read (j : Int) = (List.replicate 128 0, 0) := by
        rw [read_at (d := d) (i := j) (by rw [st.size]; omega), if_neg (by rw [st.live]; decide), hnow, List.getD_eq_getElem?_getD, out j hj1 (by omega)]
        rfl
      rw [hrd] at ho8 ⊢
      (repeat (first | with_reducible (first | refine Eq.mpr (B_law20_HomeBack_c6.eq_1 ..) ?_ | refine Eq.mpr (B_law20_HomeBack_c5.eq_1 ..) ?_ | refine Eq.mpr (B_law20_HomeBack_c4.eq_1 ..) ?_ | refine Eq.mpr (B_law20_HomeBack_c3.eq_1 ..) ?_ | refine Eq.mpr (B_law20_HomeBack_c2.eq_1 ..) ?_ | refine Eq.mpr (B_law20_HomeBack_c1.eq_1 ..) ?_) | simp only [XP_extract0, XP_extract1, XP_extract2, XP_extract3, X_extract0, X_extract1, X_extract2, X_extract3, X_nilS, X_eql_nil_74, X_neq_nil_74, X_eql_nil_124, X_neq_nil_124, X_eql, X_neq, X_lss, X_leq, X_gtr, X_geq, X_not, X_min, X_max, X_len_27, X_len_9, X_len_79, XP_nilS, XP_eql, XP_neq, XP_lss, XP_leq, XP_gtr, XP_geq, XP_not, XP_min, XP_max, XP_len_27, XP_len_9, XP_eql_nil_74, X_str_eql, X_str_neq, XP_str_eql, XP_str_neq, GS, gs_u, decide_true, decide_false, Option.isNone_some, Option.isSome_some, Option.isNone_none, Option.isSome_none, eq_self, Bool.not_true, Bool.not_false, Int.reduceEq, Int.reduceNe, Int.reduceLT, Int.reduceLE, Int.reduceGT, Int.reduceGE]))
      refine ⟨Ext, Ext.frame, ?_⟩
      (repeat (first | with_reducible (first | refine Eq.mpr (B_law20_HomeBack_c6.eq_1 ..) ?_ | refine Eq.mpr (B_law20_HomeBack_c5.eq_1 ..) ?_ | refine Eq.mpr (B_law20_HomeBack_c4.eq_1 ..) ?_ | refine Eq.mpr (B_law20_HomeBack_c3.eq_1 ..) ?_ | refine Eq.mpr (B_law20_HomeBack_c2.eq_1 ..) ?_ | refine Eq.mpr (B_law20_HomeBack_c1.eq_1 ..) ?_) | simp only [XP_extract0, XP_extract1, XP_extract2, XP_extract3, X_extract0, X_extract1, X_extract2, X_extract3, X_nilS, X_eql_nil_74, X_neq_nil_74, X_eql_nil_124, X_neq_nil_124, X_eql, X_neq, X_lss, X_leq, X_gtr, X_geq, X_not, X_min, X_max, X_len_27, X_len_9, X_len_79, XP_nilS, XP_eql, XP_neq, XP_lss, XP_leq, XP_gtr, XP_geq, XP_not, XP_min, XP_max, XP_len_27, XP_len_9, XP_eql_nil_74, X_str_eql, X_str_neq, XP_str_eql, XP_str_neq, GS, gs_u, decide_true, decide_false, Option.isNone_some, Option.isSome_some, Option.isNone_none, Option.isSome_none, eq_self, Bool.not_true, Bool.not_false, Int.reduceEq, Int.reduceNe, Int.reduceLT, Int.reduceLE, Int.reduceGT, Int.reduceGE, e0]))
      refine XR_str Try.underlying27 Try.underlying5 Try.underlying9 ((own_bts ho8).1).drew ?_
      (repeat (first | with_reducible (first | refine Eq.mpr (B_law20_HomeBack_c6.eq_1 ..) ?_ | refine Eq.mpr (B_law20_HomeBack_c5.eq_1 ..) ?_ | refine Eq.mpr (B_law20_HomeBack_c4.eq_1 ..) ?_ | refine Eq.mpr (B_law20_HomeBack_c3.eq_1 ..) ?_ | refine Eq.mpr (B_law20_HomeBack_c2.eq_1 ..) ?_ | refine Eq.mpr (B_law20_HomeBack_c1.eq_1 ..) ?_) | simp only [XP_extract0, XP_extract1, XP_extract2, XP_extract3, X_extract0, X_extract1, X_extract2, X_extract3, X_nilS, X_eql_nil_74, X_neq_nil_74, X_eql_nil_124, X_neq_nil_124, X_eql, X_neq, X_lss, X_leq, X_gtr, X_geq, X_not, X_min, X_max, X_len_27, X_len_9, X_len_79, XP_nilS, XP_eql, XP_neq, XP_lss, XP_leq, XP_gtr, XP_geq, XP_not, XP_min, XP_max, XP_len_27, XP_len_9, XP_eql_nil_74, X_str_eql, X_str_neq, XP_str_eql, XP_str_neq, GS, gs_u, decide_true, decide_false, Option.isNone_some, Option.isSome_some, Option.isNone_none, Option.isSome_none, eq_self, Bool.not_true, Bool.not_false, Int.reduceEq, Int.reduceNe, Int.reduceLT, Int.reduceLE, Int.reduceGT, Int.reduceGE]))
      refine X_make Try.underlying27 el_5 128 128 rfl rfl (Nat.le_refl _) (by decide) (by decide) ?_
      rw [zeros128]
      have hx9 := newB_ext (drewW w8) (B8 (List.replicate 128 0)).toArray 5
      have hb9 := lit_bts (w := drewW w8) (List.replicate 128 0) (by simp) 5
      have hl128 : (List.replicate 128 (0 : UInt8)).length = 128 := List.length_replicate
      rw [hl128] at hb9
      refine ⟨hx9, ?_⟩
      (repeat (first | with_reducible (first | refine Eq.mpr (B_law20_HomeBack_c6.eq_1 ..) ?_ | refine Eq.mpr (B_law20_HomeBack_c5.eq_1 ..) ?_ | refine Eq.mpr (B_law20_HomeBack_c4.eq_1 ..) ?_ | refine Eq.mpr (B_law20_HomeBack_c3.eq_1 ..) ?_ | refine Eq.mpr (B_law20_HomeBack_c2.eq_1 ..) ?_ | refine Eq.mpr (B_law20_HomeBack_c1.eq_1 ..) ?_) | simp only [XP_extract0, XP_extract1, XP_extract2, XP_extract3, X_extract0, X_extract1, X_extract2, X_extract3, X_nilS, X_eql_nil_74, X_neq_nil_74, X_eql_nil_124, X_neq_nil_124, X_eql, X_neq, X_lss, X_leq, X_gtr, X_geq, X_not, X_min, X_max, X_len_27, X_len_9, X_len_79, XP_nilS, XP_eql, XP_neq, XP_lss, XP_leq, XP_gtr, XP_geq, XP_not, XP_min, XP_max, XP_len_27, XP_len_9, XP_eql_nil_74, X_str_eql, X_str_neq, XP_str_eql, XP_str_neq, GS, gs_u, decide_true, decide_false, Option.isNone_some, Option.isSome_some, Option.isNone_none, Option.isSome_none, eq_self, Bool.not_true, Bool.not_false, Int.reduceEq, Int.reduceNe, Int.reduceLT, Int.reduceLE, Int.reduceGT, Int.reduceGE]))
      refine XR_str Try.underlying27 Try.underlying5 Try.underlying9 hb9 ?_
      have cz : ((str (List.replicate 128 (0 : UInt8))).toList != (str (List.replicate 128 (0 : UInt8))).toList) = false := by simp
      (repeat (first | with_reducible (first | refine Eq.mpr (B_law20_HomeBack_c6.eq_1 ..) ?_ | refine Eq.mpr (B_law20_HomeBack_c5.eq_1 ..) ?_ | refine Eq.mpr (B_law20_HomeBack_c4.eq_1 ..) ?_ | refine Eq.mpr (B_law20_HomeBack_c3.eq_1 ..) ?_ | refine Eq.mpr (B_law20_HomeBack_c2.eq_1 ..) ?_ | refine Eq.mpr (B_law20_HomeBack_c1.eq_1 ..) ?_) | simp only [XP_extract0, XP_extract1, XP_extract2, XP_extract3, X_extract0, X_extract1, X_extract2, X_extract3, X_nilS, X_eql_nil_74, X_neq_nil_74, X_eql_nil_124, X_neq_nil_124, X_eql, X_neq, X_lss, X_leq, X_gtr, X_geq, X_not, X_min, X_max, X_len_27, X_len_9, X_len_79, XP_nilS, XP_eql, XP_neq, XP_lss, XP_leq, XP_gtr, XP_geq, XP_not, XP_min, XP_max, XP_len_27, XP_len_9, XP_eql_nil_74, X_str_eql, X_str_neq, XP_str_eql, XP_str_neq, GS, gs_u, decide_true, decide_false, Option.isNone_some, Option.isSome_some, Option.isNone_none, Option.isSome_none, eq_self, Bool.not_true, Bool.not_false, Int.reduceEq, Int.reduceNe, Int.reduceLT, Int.reduceLE, Int.reduceGT, Int.reduceGE, cz]))
      rw [X_add, w64 (by omega) (by omega)]
      show _ ∧ _
      refine ⟨⟨j + 1, by omega, by omega, (hx6.trans hx8).trans ((Keep.drew _ _).trans hx9), ?_, t7, t5⟩, ?_⟩
      · show Value.int .i64 ((j : Int) + 1) = _
        congr 1
      · show (_ - _ : Int).toNat < _
        first | omega | (show _ < (_ : Int).toNat; omega)
    · rintro ρ7 w7 ⟨hx7, t5⟩
      show (ρ7 5 = _ ∧ _)
      exact ⟨t5, hx.trans hx7⟩
theorem homeBack_walk {H : Type} (enc : TypeId × Value → H) (W : World) (v0 v1 : Value) {base : Nat} (ok0 : Value.okWide Try.prog W .any base 5 v0) (ok1 : Value.okWide Try.prog W .any base 70 v1) (d0 : DataW H) (p0 : List MemPlace) (d1 : DataW H) (p1 : List MemPlace) (h0 : DataW.Trod enc Try.prog W 0 (fun _ => true) true 5 v0 d0 p0) (h1 : DataW.Trod enc Try.prog W 0 (fun _ => true) true 70 v1 d1 p1) (hsz : (DataW.weightsEach Try.prog [5, 70] [d0, d1]).all (· ≤ reachBytes) = true) :
    CALL Try.prog 37 #[v0, v1] W (fun v w' => v = .bool true ∧ Ext W w') := by
  obtain ⟨e, rfl, he⟩ := arg_u8 Try.underlying5 ok0 h0
  obtain ⟨l, hl, hbl⟩ := arg_bss ok1 h1
  exact homeBack_run he W hl hbl
end
set_option maxRecDepth 100000 in
theorem homeBack_lifted (os : Os) (started : os.Started) (H : Type) (enc : TypeId × Value → H) :
    ReturnsInHanded {} Try.checked os 37 .any (Rows.homeBackSpec.pre6 enc Try.prog Try.f37 Rows.homeBackRow.domain false) (Rows.homeBackSpec.post enc Try.prog Try.f37 false true false false) := by
  refine returnsInHanded_of_change_sized (C := Try.checked) (by kernel_rfl) started (by kernel_rfl) Try.func37
    (ChangeSpec.witness6 (enc := enc) (C := Try.checked) false ⟨#[], #[(.int .u8 0), (.slice none 0 0)], []⟩ 8 (by kernel_rfl) (by kernel_rfl) (by kernel_rfl) (by kernel_rfl)) ?_
  intro W base args ds gs before hval0 hW hcnd hsz0 _
  have hval : ∀ (j : Nat) t v, Try.f37.params[j]? = some t → args[j]? = some v → Value.okWide Try.prog W .any base t v := hval0
  have hW' := hW
  obtain ⟨p, q, hA0, hV, rfl, hfz, hnd⟩ := hW
  have hA : DataW.TrodAll enc Try.prog W 0 (fun _ => true) true Try.f37.params.toList args.toList ds p := hA0
  rw [Try.params37] at hA hval
  obtain ⟨v0, vs0, d0, ds0, p0, q0, hargs, rfl, rfl, h0, r0⟩ := trodAll_cons hA
  obtain ⟨v1, vs1, d1, ds1, p1, q1, rfl, rfl, rfl, h1, r1⟩ := trodAll_cons r0
  obtain ⟨rfl, rfl, rfl⟩ := trodAll_nil r1
  obtain rfl : args = #[v0, v1] := by cases args; simp_all
  obtain ⟨rfl, rfl⟩ := trodVars_none hV
  have hsz : (DataW.weightsEach Try.prog [5, 70] [d0, d1]).all (· ≤ reachBytes) = true := hsz0
  have hw := homeBack_walk enc W v0 v1 (hval 0 5 v0 rfl rfl) (hval 1 70 v1 rfl rfl) d0 p0 d1 p1 h0 h1 hsz
  refine (CALL_calls hw).mono fun e W' he => ?_
  cases e with
  | returned v =>
    obtain ⟨rfl, hx⟩ := he
    exact ⟨_, rfl, law_post (P := Try.prog) laidOut (by kernel_rfl) rfl rfl rfl Try.underlying4 hW' hx⟩
  | panicked c => exact he.elim
  | outgrown => exact he.elim

theorem homeBack_closed : joinedFacts Try.prog 37 Try.f37 Rows.homeBackSpec Rows.homeBackRow = true := by
  unfold joinedFacts
  rw [mayEnter_is, liftsFinal_is, make_is]
  kernel_rfl
/-- For every input that the row lets in, cellarage/cellaragelaw20.HomeBack returns true, and what was there stays as it was. -/
theorem homeBack_holds : Rows.HomeBackSaid :=
  OpenClaim.holds_of_wide 37 Try.f37 rfl rfl rfl rfl rfl rfl rfl ⟨rfl, rfl, rfl, rfl, rfl⟩ rfl rfl rfl rfl rfl (by kernel_rfl) Try.func37 homeBack_closed
    (of_decide_eq_true (by kernel_rfl)) (by unfold Func.isWrapper; first | (rw [if_pos (by decide +kernel)]; kernel_rfl) | (rw [if_neg (by decide +kernel)]; exact ⟨rfl, rfl⟩))
    (fun os started H enc _ => homeBack_lifted os started H enc)
#print axioms homeBack_holds
end Go.Proofs.Ytggggfcgnkllgaa
