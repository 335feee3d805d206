/- cellaragelaw16.ExtentBack: what was laid is taken, and what is taken is laid so. -/
import Derived.Test.YtlnkdphecinnnaaQEC6
set_option linter.unusedVariables false
set_option linter.unusedSimpArgs false
set_option linter.constructorNameAsVariable false
namespace Go.Proofs.Ytlnkdphecinnnaa
open Go Go.Sh Go.RowKit Go.ChangeShapes Go.WideShapes Go.ChangeAt
open Go.Proofs.Ytlnkdphecinnnaa
section
attribute [local irreducible] X XU XP XR CALL loopS resC closS Value.okWide
theorem str_eqT {x y : List UInt8} (h : x = y) : ((str x).toList == (str y).toList) = true := by rw [h]; simp
theorem right_nil : RightP [] := ⟨by decide, by simp⟩
set_option maxHeartbeats 1000000 in
theorem extentBack_tail {u x a35 : Value} {b : List UInt8} {b27 : Bool} {w : World} (W : World) (hxw : Ext W w) (h : b27 = false ∨ (b27 = true ∧ a35 = .bool false)) (h5 : b.length ≤ 50000) (hb : Bts w x b) (ho : RowK 35 Ex.cs w u ((takeX b).getD [])) :
    B_law16_ExtentBack_c1 (.bool false) (fun v w' => v = .bool true ∧ Ext W w') (.bool b27) a35 w u (.bool true) (i64v (if (takeX b).isSome then 0 else 160)) x := by
  unfold B_law16_ExtentBack_c1
  have e0 : decide ((0 : Int) = 0) = true := rfl
  have e1 : decide ((160 : Int) = 0) = false := rfl
  have e2 : decide ((160 : Int) = 160) = true := rfl
  cases ht : takeX b with
  | none =>
    have eS : (if (none : Option (List Ex)).isSome = true then (0 : Int) else 160) = 160 := rfl
    rw [eS]
    rw [ht] at ho
    obtain ⟨a, c, eu⟩ := ho.slice
    have en : decide (((((none : Option (List Ex)).getD []).length : Nat) : Int) = 0) = true := rfl
    rcases h with rfl | ⟨rfl, rfl⟩
    all_goals
      (repeat (first | with_reducible (first | refine Eq.mpr (B_law16_ExtentBack_c2.eq_1 ..) ?_) | simp only [XP_extract0, XP_extract1, XP_extract2, XP_extract3, X_extract0, X_extract1, X_extract2, X_extract3, X_nilS, X_eql_nil_24, X_neq_nil_24, X_eql_nil_103, X_neq_nil_103, X_eql, X_neq, X_lss, X_leq, X_gtr, X_geq, X_not, X_min, X_max, X_len_79, X_len_35, XP_nilS, XP_eql, XP_neq, XP_lss, XP_leq, XP_gtr, XP_geq, XP_not, XP_min, XP_max, XP_len_79, XP_eql_nil_24, X_str_eql, X_str_neq, XP_str_eql, XP_str_neq, GS, gs_u, decide_true, decide_false, Option.isNone_some, Option.isSome_some, Option.isNone_none, Option.isSome_none, eq_self, Bool.not_true, Bool.not_false, Int.reduceEq, Int.reduceNe, Int.reduceLT, Int.reduceLE, Int.reduceGT, Int.reduceGE]))
      refine Lay_spec ho ?_
      intro u2 w2 hx2 ho2
      rw [eu]
      (repeat (first | with_reducible (first | refine Eq.mpr (B_law16_ExtentBack_c2.eq_1 ..) ?_) | simp only [XP_extract0, XP_extract1, XP_extract2, XP_extract3, X_extract0, X_extract1, X_extract2, X_extract3, X_nilS, X_eql_nil_24, X_neq_nil_24, X_eql_nil_103, X_neq_nil_103, X_eql, X_neq, X_lss, X_leq, X_gtr, X_geq, X_not, X_min, X_max, X_len_79, X_len_35, XP_nilS, XP_eql, XP_neq, XP_lss, XP_leq, XP_gtr, XP_geq, XP_not, XP_min, XP_max, XP_len_79, XP_eql_nil_24, X_str_eql, X_str_neq, XP_str_eql, XP_str_neq, GS, gs_u, decide_true, decide_false, Option.isNone_some, Option.isSome_some, Option.isNone_none, Option.isSome_none, eq_self, Bool.not_true, Bool.not_false, Int.reduceEq, Int.reduceNe, Int.reduceLT, Int.reduceLE, Int.reduceGT, Int.reduceGE, e1, e2, X_len_59, en]))
      exact ⟨trivial, hxw.trans hx2⟩
  | some l2 =>
    have eS : (if (some l2 : Option (List Ex)).isSome = true then (0 : Int) else 160) = 0 := rfl
    rw [eS]
    rw [ht] at ho
    obtain ⟨hr, hlay⟩ := lay_takeX ht
    have hR : layR l2 = b := (if_pos hr).trans hlay
    have eR : (if RightP ((some l2 : Option (List Ex)).getD []) then (0 : Int) else 1) = 0 := if_pos hr
    rcases h with rfl | ⟨rfl, rfl⟩
    all_goals
      (repeat (first | with_reducible (first | refine Eq.mpr (B_law16_ExtentBack_c2.eq_1 ..) ?_) | simp only [XP_extract0, XP_extract1, XP_extract2, XP_extract3, X_extract0, X_extract1, X_extract2, X_extract3, X_nilS, X_eql_nil_24, X_neq_nil_24, X_eql_nil_103, X_neq_nil_103, X_eql, X_neq, X_lss, X_leq, X_gtr, X_geq, X_not, X_min, X_max, X_len_79, X_len_35, XP_nilS, XP_eql, XP_neq, XP_lss, XP_leq, XP_gtr, XP_geq, XP_not, XP_min, XP_max, XP_len_79, XP_eql_nil_24, X_str_eql, X_str_neq, XP_str_eql, XP_str_neq, GS, gs_u, decide_true, decide_false, Option.isNone_some, Option.isSome_some, Option.isNone_none, Option.isSome_none, eq_self, Bool.not_true, Bool.not_false, Int.reduceEq, Int.reduceNe, Int.reduceLT, Int.reduceLE, Int.reduceGT, Int.reduceGE]))
      refine Lay_spec ho ?_
      intro u2 w2 hx2 ho2
      have ho2' : w2.ownsRow w.heap.size 5 1 u2 (layR l2).length (B8 (layR l2)) := ho2
      rw [hR] at ho2'
      rw [eR]
      (repeat (first | with_reducible (first | refine Eq.mpr (B_law16_ExtentBack_c2.eq_1 ..) ?_) | simp only [XP_extract0, XP_extract1, XP_extract2, XP_extract3, X_extract0, X_extract1, X_extract2, X_extract3, X_nilS, X_eql_nil_24, X_neq_nil_24, X_eql_nil_103, X_neq_nil_103, X_eql, X_neq, X_lss, X_leq, X_gtr, X_geq, X_not, X_min, X_max, X_len_79, X_len_35, XP_nilS, XP_eql, XP_neq, XP_lss, XP_leq, XP_gtr, XP_geq, XP_not, XP_min, XP_max, XP_len_79, XP_eql_nil_24, X_str_eql, X_str_neq, XP_str_eql, XP_str_neq, GS, gs_u, decide_true, decide_false, Option.isNone_some, Option.isSome_some, Option.isNone_none, Option.isSome_none, eq_self, Bool.not_true, Bool.not_false, Int.reduceEq, Int.reduceNe, Int.reduceLT, Int.reduceLE, Int.reduceGT, Int.reduceGE, e0]))
      refine X_of (run_str (src := 79) (dst := 9) Try.underlying79 Try.underlying5 Try.underlying9 (own_bts ho2').1) ?_
      (repeat (first | with_reducible (first | refine Eq.mpr (B_law16_ExtentBack_c2.eq_1 ..) ?_) | simp only [XP_extract0, XP_extract1, XP_extract2, XP_extract3, X_extract0, X_extract1, X_extract2, X_extract3, X_nilS, X_eql_nil_24, X_neq_nil_24, X_eql_nil_103, X_neq_nil_103, X_eql, X_neq, X_lss, X_leq, X_gtr, X_geq, X_not, X_min, X_max, X_len_79, X_len_35, XP_nilS, XP_eql, XP_neq, XP_lss, XP_leq, XP_gtr, XP_geq, XP_not, XP_min, XP_max, XP_len_79, XP_eql_nil_24, X_str_eql, X_str_neq, XP_str_eql, XP_str_neq, GS, gs_u, decide_true, decide_false, Option.isNone_some, Option.isSome_some, Option.isNone_none, Option.isSome_none, eq_self, Bool.not_true, Bool.not_false, Int.reduceEq, Int.reduceNe, Int.reduceLT, Int.reduceLE, Int.reduceGT, Int.reduceGE, e0]))
      refine X_of (run_str (src := 79) (dst := 9) Try.underlying79 Try.underlying5 Try.underlying9 (hb.ext hx2)) ?_
      (repeat (first | with_reducible (first | refine Eq.mpr (B_law16_ExtentBack_c2.eq_1 ..) ?_) | simp only [XP_extract0, XP_extract1, XP_extract2, XP_extract3, X_extract0, X_extract1, X_extract2, X_extract3, X_nilS, X_eql_nil_24, X_neq_nil_24, X_eql_nil_103, X_neq_nil_103, X_eql, X_neq, X_lss, X_leq, X_gtr, X_geq, X_not, X_min, X_max, X_len_79, X_len_35, XP_nilS, XP_eql, XP_neq, XP_lss, XP_leq, XP_gtr, XP_geq, XP_not, XP_min, XP_max, XP_len_79, XP_eql_nil_24, X_str_eql, X_str_neq, XP_str_eql, XP_str_neq, GS, gs_u, decide_true, decide_false, Option.isNone_some, Option.isSome_some, Option.isNone_none, Option.isSome_none, eq_self, Bool.not_true, Bool.not_false, Int.reduceEq, Int.reduceNe, Int.reduceLT, Int.reduceLE, Int.reduceGT, Int.reduceGE, str_eqT]))
      exact ⟨trivial, hxw.trans hx2⟩
set_option maxHeartbeats 1000000 in
theorem extentBack_run {v x : Value} {l : List Ex} {b : List UInt8} (W : World) (hl : RowK 35 Ex.cs W v l) (hb : Bts W x b) :
    CALL Try.prog 14 #[v, x] W (fun v w' => v = .bool true ∧ Ext W w') := by
  obtain ⟨a, c, ev⟩ := Bts.slice hb
  apply call_law16_ExtentBack
  unfold B_law16_ExtentBack
  refine shown16 ?_
  intro w1 hx1
  rw [ev, X_len_79, X_gtr, ← ev]
  by_cases h5 : b.length ≤ 50000
  case neg =>
    have c : decide ((b.length : Int) > 50000) = true := decide_eq_true (by omega)
    (repeat (first | with_reducible (first | refine Eq.mpr (B_law16_ExtentBack_c2.eq_1 ..) ?_) | simp only [XP_extract0, XP_extract1, XP_extract2, XP_extract3, X_extract0, X_extract1, X_extract2, X_extract3, X_nilS, X_eql_nil_24, X_neq_nil_24, X_eql_nil_103, X_neq_nil_103, X_eql, X_neq, X_lss, X_leq, X_gtr, X_geq, X_not, X_min, X_max, X_len_79, X_len_35, XP_nilS, XP_eql, XP_neq, XP_lss, XP_leq, XP_gtr, XP_geq, XP_not, XP_min, XP_max, XP_len_79, XP_eql_nil_24, X_str_eql, X_str_neq, XP_str_eql, XP_str_neq, GS, gs_u, decide_true, decide_false, Option.isNone_some, Option.isSome_some, Option.isNone_none, Option.isSome_none, eq_self, Bool.not_true, Bool.not_false, Int.reduceEq, Int.reduceNe, Int.reduceLT, Int.reduceLE, Int.reduceGT, Int.reduceGE, c]))
    exact ⟨trivial, hx1⟩
  have c : decide ((b.length : Int) > 50000) = false := decide_eq_false (by omega)
  (repeat (first | with_reducible (first | refine Eq.mpr (B_law16_ExtentBack_c2.eq_1 ..) ?_) | simp only [XP_extract0, XP_extract1, XP_extract2, XP_extract3, X_extract0, X_extract1, X_extract2, X_extract3, X_nilS, X_eql_nil_24, X_neq_nil_24, X_eql_nil_103, X_neq_nil_103, X_eql, X_neq, X_lss, X_leq, X_gtr, X_geq, X_not, X_min, X_max, X_len_79, X_len_35, XP_nilS, XP_eql, XP_neq, XP_lss, XP_leq, XP_gtr, XP_geq, XP_not, XP_min, XP_max, XP_len_79, XP_eql_nil_24, X_str_eql, X_str_neq, XP_str_eql, XP_str_neq, GS, gs_u, decide_true, decide_false, Option.isNone_some, Option.isSome_some, Option.isNone_none, Option.isSome_none, eq_self, Bool.not_true, Bool.not_false, Int.reduceEq, Int.reduceNe, Int.reduceLT, Int.reduceLE, Int.reduceGT, Int.reduceGE, c]))
  refine Few_spec (hl.ext hx1) ?_
  intro u hu
  refine Lay_spec hu ?_
  intro u2 w2 hx2 ho2
  have hx02 := hx1.trans hx2
  have hb2 := (own_bts ho2).1
  have hfl := few_len l
  obtain ⟨a2, c2, e2⟩ := Bts.slice hb2
  unfold B_law16_ExtentBack_c2
  (repeat (first | with_reducible (first | refine Eq.mpr (B_law16_ExtentBack_c2.eq_1 ..) ?_) | simp only [XP_extract0, XP_extract1, XP_extract2, XP_extract3, X_extract0, X_extract1, X_extract2, X_extract3, X_nilS, X_eql_nil_24, X_neq_nil_24, X_eql_nil_103, X_neq_nil_103, X_eql, X_neq, X_lss, X_leq, X_gtr, X_geq, X_not, X_min, X_max, X_len_79, X_len_35, XP_nilS, XP_eql, XP_neq, XP_lss, XP_leq, XP_gtr, XP_geq, XP_not, XP_min, XP_max, XP_len_79, XP_eql_nil_24, X_str_eql, X_str_neq, XP_str_eql, XP_str_neq, GS, gs_u, decide_true, decide_false, Option.isNone_some, Option.isSome_some, Option.isNone_none, Option.isSome_none, eq_self, Bool.not_true, Bool.not_false, Int.reduceEq, Int.reduceNe, Int.reduceLT, Int.reduceLE, Int.reduceGT, Int.reduceGE]))
  have hll : (layR (l.take 500)).length ≤ 1000000 := by
    unfold layR
    split
    · rw [layX_len]; omega
    · simp
  refine Take_spec hb2 hll ?_
  intro u3 w3 hx3 ho3
  have hx03 := hx02.trans hx3
  rw [X_extract0, X_extract1]
  refine Take_spec (hb.ext hx03) (by omega) ?_
  intro u4 w4 hx4 ho4
  have hx04 := hx03.trans hx4
  rw [X_extract0, X_extract1]
  have z0 : decide ((0 : Int) = 0) = true := rfl
  have z1 : decide ((0 : Int) ≠ 0) = false := rfl
  have z2 : decide ((1 : Int) = 0) = false := rfl
  have z3 : decide ((1 : Int) ≠ 0) = true := rfl
  have hr4 := OwnK.rowK (by decide) Ex.csLen ho4
  by_cases hr : RightP (l.take 500)
  case pos =>
    have eR : layR (l.take 500) = layX (l.take 500) := if_pos hr
    rw [eR, takeX_lay hr] at ho3
    have eS : (if (some (l.take 500)).isSome = true then (0 : Int) else 160) = 0 := rfl
    rw [if_pos hr, eR, takeX_lay hr, eS]
    (repeat (first | with_reducible (first | refine Eq.mpr (B_law16_ExtentBack_c2.eq_1 ..) ?_) | simp only [XP_extract0, XP_extract1, XP_extract2, XP_extract3, X_extract0, X_extract1, X_extract2, X_extract3, X_nilS, X_eql_nil_24, X_neq_nil_24, X_eql_nil_103, X_neq_nil_103, X_eql, X_neq, X_lss, X_leq, X_gtr, X_geq, X_not, X_min, X_max, X_len_79, X_len_35, XP_nilS, XP_eql, XP_neq, XP_lss, XP_leq, XP_gtr, XP_geq, XP_not, XP_min, XP_max, XP_len_79, XP_eql_nil_24, X_str_eql, X_str_neq, XP_str_eql, XP_str_neq, GS, gs_u, decide_true, decide_false, Option.isNone_some, Option.isSome_some, Option.isNone_none, Option.isSome_none, eq_self, Bool.not_true, Bool.not_false, Int.reduceEq, Int.reduceNe, Int.reduceLT, Int.reduceLE, Int.reduceGT, Int.reduceGE, z0, z1]))
    refine Few_spec (hl.ext hx04) ?_
    intro u5 hu5
    (repeat (first | with_reducible (first | refine Eq.mpr (B_law16_ExtentBack_c2.eq_1 ..) ?_) | simp only [XP_extract0, XP_extract1, XP_extract2, XP_extract3, X_extract0, X_extract1, X_extract2, X_extract3, X_nilS, X_eql_nil_24, X_neq_nil_24, X_eql_nil_103, X_neq_nil_103, X_eql, X_neq, X_lss, X_leq, X_gtr, X_geq, X_not, X_min, X_max, X_len_79, X_len_35, XP_nilS, XP_eql, XP_neq, XP_lss, XP_leq, XP_gtr, XP_geq, XP_not, XP_min, XP_max, XP_len_79, XP_eql_nil_24, X_str_eql, X_str_neq, XP_str_eql, XP_str_neq, GS, gs_u, decide_true, decide_false, Option.isNone_some, Option.isSome_some, Option.isNone_none, Option.isSome_none, eq_self, Bool.not_true, Bool.not_false, Int.reduceEq, Int.reduceNe, Int.reduceLT, Int.reduceLE, Int.reduceGT, Int.reduceGE, z1]))
    refine SameE_spec ((OwnK.rowK (by decide) Ex.csLen ho3).ext hx4) hu5 (by show (l.take 500).length ≤ _; omega) ?_
    intro w5 hx5
    (repeat (first | with_reducible (first | refine Eq.mpr (B_law16_ExtentBack_c2.eq_1 ..) ?_) | simp only [XP_extract0, XP_extract1, XP_extract2, XP_extract3, X_extract0, X_extract1, X_extract2, X_extract3, X_nilS, X_eql_nil_24, X_neq_nil_24, X_eql_nil_103, X_neq_nil_103, X_eql, X_neq, X_lss, X_leq, X_gtr, X_geq, X_not, X_min, X_max, X_len_79, X_len_35, XP_nilS, XP_eql, XP_neq, XP_lss, XP_leq, XP_gtr, XP_geq, XP_not, XP_min, XP_max, XP_len_79, XP_eql_nil_24, X_str_eql, X_str_neq, XP_str_eql, XP_str_neq, GS, gs_u, decide_true, decide_false, Option.isNone_some, Option.isSome_some, Option.isNone_none, Option.isSome_none, eq_self, Bool.not_true, Bool.not_false, Int.reduceEq, Int.reduceNe, Int.reduceLT, Int.reduceLE, Int.reduceGT, Int.reduceGE, z1]))
    exact extentBack_tail W (hx04.trans hx5) (.inl rfl) h5 (hb.ext (hx04.trans hx5)) (hr4.ext hx5)
  case neg =>
    have eR : layR (l.take 500) = [] := if_neg hr
    rw [if_neg hr, e2, eR]
    (repeat (first | with_reducible (first | refine Eq.mpr (B_law16_ExtentBack_c2.eq_1 ..) ?_) | simp only [XP_extract0, XP_extract1, XP_extract2, XP_extract3, X_extract0, X_extract1, X_extract2, X_extract3, X_nilS, X_eql_nil_24, X_neq_nil_24, X_eql_nil_103, X_neq_nil_103, X_eql, X_neq, X_lss, X_leq, X_gtr, X_geq, X_not, X_min, X_max, X_len_79, X_len_35, XP_nilS, XP_eql, XP_neq, XP_lss, XP_leq, XP_gtr, XP_geq, XP_not, XP_min, XP_max, XP_len_79, XP_eql_nil_24, X_str_eql, X_str_neq, XP_str_eql, XP_str_neq, GS, gs_u, decide_true, decide_false, Option.isNone_some, Option.isSome_some, Option.isNone_none, Option.isSome_none, eq_self, Bool.not_true, Bool.not_false, Int.reduceEq, Int.reduceNe, Int.reduceLT, Int.reduceLE, Int.reduceGT, Int.reduceGE, z2, z3]))
    have zl : decide (((([] : List UInt8).length : Nat) : Int) > 0) = false := rfl
    (repeat (first | with_reducible (first | refine Eq.mpr (B_law16_ExtentBack_c2.eq_1 ..) ?_) | simp only [XP_extract0, XP_extract1, XP_extract2, XP_extract3, X_extract0, X_extract1, X_extract2, X_extract3, X_nilS, X_eql_nil_24, X_neq_nil_24, X_eql_nil_103, X_neq_nil_103, X_eql, X_neq, X_lss, X_leq, X_gtr, X_geq, X_not, X_min, X_max, X_len_79, X_len_35, XP_nilS, XP_eql, XP_neq, XP_lss, XP_leq, XP_gtr, XP_geq, XP_not, XP_min, XP_max, XP_len_79, XP_eql_nil_24, X_str_eql, X_str_neq, XP_str_eql, XP_str_neq, GS, gs_u, decide_true, decide_false, Option.isNone_some, Option.isSome_some, Option.isNone_none, Option.isSome_none, eq_self, Bool.not_true, Bool.not_false, Int.reduceEq, Int.reduceNe, Int.reduceLT, Int.reduceLE, Int.reduceGT, Int.reduceGE, zl]))
    refine Few_spec (hl.ext hx04) ?_
    intro u5 hu5
    (repeat (first | with_reducible (first | refine Eq.mpr (B_law16_ExtentBack_c2.eq_1 ..) ?_) | simp only [XP_extract0, XP_extract1, XP_extract2, XP_extract3, X_extract0, X_extract1, X_extract2, X_extract3, X_nilS, X_eql_nil_24, X_neq_nil_24, X_eql_nil_103, X_neq_nil_103, X_eql, X_neq, X_lss, X_leq, X_gtr, X_geq, X_not, X_min, X_max, X_len_79, X_len_35, XP_nilS, XP_eql, XP_neq, XP_lss, XP_leq, XP_gtr, XP_geq, XP_not, XP_min, XP_max, XP_len_79, XP_eql_nil_24, X_str_eql, X_str_neq, XP_str_eql, XP_str_neq, GS, gs_u, decide_true, decide_false, Option.isNone_some, Option.isSome_some, Option.isNone_none, Option.isSome_none, eq_self, Bool.not_true, Bool.not_false, Int.reduceEq, Int.reduceNe, Int.reduceLT, Int.reduceLE, Int.reduceGT, Int.reduceGE, zl]))
    refine Right_spec hu5 ?_
    intro w5 hx5
    have cr : decide (RightP (l.take 500)) = false := decide_eq_false hr
    (repeat (first | with_reducible (first | refine Eq.mpr (B_law16_ExtentBack_c2.eq_1 ..) ?_) | simp only [XP_extract0, XP_extract1, XP_extract2, XP_extract3, X_extract0, X_extract1, X_extract2, X_extract3, X_nilS, X_eql_nil_24, X_neq_nil_24, X_eql_nil_103, X_neq_nil_103, X_eql, X_neq, X_lss, X_leq, X_gtr, X_geq, X_not, X_min, X_max, X_len_79, X_len_35, XP_nilS, XP_eql, XP_neq, XP_lss, XP_leq, XP_gtr, XP_geq, XP_not, XP_min, XP_max, XP_len_79, XP_eql_nil_24, X_str_eql, X_str_neq, XP_str_eql, XP_str_neq, GS, gs_u, decide_true, decide_false, Option.isNone_some, Option.isSome_some, Option.isNone_none, Option.isSome_none, eq_self, Bool.not_true, Bool.not_false, Int.reduceEq, Int.reduceNe, Int.reduceLT, Int.reduceLE, Int.reduceGT, Int.reduceGE, cr]))
    exact extentBack_tail W (hx04.trans hx5) (.inr ⟨rfl, rfl⟩) h5 (hb.ext (hx04.trans hx5)) (hr4.ext hx5)
theorem extentBack_walk {H : Type} (enc : TypeId × Value → H) (W : World) (v0 v1 : Value) {base : Nat} (ok0 : Value.okWide Try.prog W .any base 59 v0) (ok1 : Value.okWide Try.prog W .any base 79 v1) (d0 : DataW H) (p0 : List MemPlace) (d1 : DataW H) (p1 : List MemPlace) (h0 : DataW.Trod enc Try.prog W 0 (fun _ => true) true 59 v0 d0 p0) (h1 : DataW.Trod enc Try.prog W 0 (fun _ => true) true 79 v1 d1 p1) (hsz : (DataW.weightsEach Try.prog [59, 79] [d0, d1]).all (· ≤ reachBytes) = true) :
    CALL Try.prog 14 #[v0, v1] W (fun v w' => v = .bool true ∧ Ext W w') := by
  obtain ⟨l, hl⟩ := arg_exts ok0 h0
  obtain ⟨b, hb⟩ := arg_bytes Try.underlying79 Try.underlying5 (by kernel_rfl) ok1 h1
  exact extentBack_run W hl hb
end
set_option maxRecDepth 100000 in
theorem extentBack_lifted (os : Os) (started : os.Started) (H : Type) (enc : TypeId × Value → H) :
    ReturnsInHanded {} Try.checked os 14 .any (Rows.extentBackSpec.pre6 enc Try.prog Try.f14 Rows.extentBackRow.domain false) (Rows.extentBackSpec.post enc Try.prog Try.f14 false true false false) := by
  refine returnsInHanded_of_change_sized (C := Try.checked) (by kernel_rfl) started (by kernel_rfl) Try.func14
    (ChangeSpec.witness6 (enc := enc) (C := Try.checked) false ⟨#[], #[(.slice none 0 0), (.slice none 0 0)], []⟩ 8 (by kernel_rfl) (by kernel_rfl) (by kernel_rfl) (by kernel_rfl)) ?_
  intro W base args ds gs before hval0 hW hcnd hsz0 _
  have hval : ∀ (j : Nat) t v, Try.f14.params[j]? = some t → args[j]? = some v → Value.okWide Try.prog W .any base t v := hval0
  have hW' := hW
  obtain ⟨p, q, hA0, hV, rfl, hfz, hnd⟩ := hW
  have hA : DataW.TrodAll enc Try.prog W 0 (fun _ => true) true Try.f14.params.toList args.toList ds p := hA0
  rw [Try.params14] at hA hval
  obtain ⟨v0, vs0, d0, ds0, p0, q0, hargs, rfl, rfl, h0, r0⟩ := trodAll_cons hA
  obtain ⟨v1, vs1, d1, ds1, p1, q1, rfl, rfl, rfl, h1, r1⟩ := trodAll_cons r0
  obtain ⟨rfl, rfl, rfl⟩ := trodAll_nil r1
  obtain rfl : args = #[v0, v1] := by cases args; simp_all
  obtain ⟨rfl, rfl⟩ := trodVars_none hV
  have hsz : (DataW.weightsEach Try.prog [59, 79] [d0, d1]).all (· ≤ reachBytes) = true := hsz0
  have hw := extentBack_walk enc W v0 v1 (hval 0 59 v0 rfl rfl) (hval 1 79 v1 rfl rfl) d0 p0 d1 p1 h0 h1 hsz
  refine (CALL_calls hw).mono fun e W' he => ?_
  cases e with
  | returned v =>
    obtain ⟨rfl, hx⟩ := he
    exact ⟨_, rfl, law_post (P := Try.prog) laidOut (by kernel_rfl) rfl rfl rfl Try.underlying4 hW' hx⟩
  | panicked c => exact he.elim
  | outgrown => exact he.elim

theorem extentBack_closed : joinedFacts Try.prog 14 Try.f14 Rows.extentBackSpec Rows.extentBackRow = true := by
  unfold joinedFacts
  rw [mayEnter_is, liftsFinal_is, make_is]
  kernel_rfl
/-- For every input that the row lets in, cellarage/cellaragelaw16.ExtentBack returns true, and what was there stays as it was. -/
theorem extentBack_holds : Rows.ExtentBackSaid :=
  OpenClaim.holds_of_wide 14 Try.f14 rfl rfl rfl rfl rfl rfl rfl ⟨rfl, rfl, rfl, rfl, rfl⟩ rfl rfl rfl rfl rfl (by kernel_rfl) Try.func14 extentBack_closed
    (of_decide_eq_true (by kernel_rfl)) (by unfold Func.isWrapper; first | (rw [if_pos (by decide +kernel)]; kernel_rfl) | (rw [if_neg (by decide +kernel)]; exact ⟨rfl, rfl⟩))
    (fun os started H enc _ => extentBack_lifted os started H enc)
#print axioms extentBack_holds
end Go.Proofs.Ytlnkdphecinnnaa
