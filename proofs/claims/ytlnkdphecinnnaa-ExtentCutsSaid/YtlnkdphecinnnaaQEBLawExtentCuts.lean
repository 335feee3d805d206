/- cellaragelaw16.ExtentCuts: a list is its first bytes' extents, and the rest's, joined. -/
import Derived.Test.YtlnkdphecinnnaaQEB6
set_option linter.unusedVariables false
set_option linter.unusedSimpArgs false
set_option linter.constructorNameAsVariable false
namespace Go.Proofs.Ytlnkdphecinnnaa
open Go Go.Sh Go.RowKit Go.ChangeShapes Go.WideShapes Go.ChangeAt
open Go.Proofs.Ytlnkdphecinnnaa
section
attribute [local irreducible] X XU XP XR CALL loopS resC closS Value.okWide
set_option maxHeartbeats 1000000 in
theorem extentCuts_tail {x : List Ex} {u v x1' : Value} {cut : Nat} {a b c e : Value} (hcut : cut < 65536) {w : World} (W : World) (hxw : Ext W w) (hx5 : x.length ≤ 500) (hr : RowK 35 Ex.cs w u x) (hR : RightP x) :
    B_law16_ExtentCuts_c2 (fun v w' => v = .bool true ∧ Ext W w') v (.int .u16 (cut : Int)) (.bool false) (.bool true) u (.bool true) w := by
  unfold B_law16_ExtentCuts_c2
  obtain ⟨au, cu, eu⟩ := hr.slice
  refine loopGR 0 (fun ρ wr => ∃ i : Nat, 1 ≤ i ∧ i ≤ x.length + 1 ∧ Ext w wr ∧ (∀ j (h : j + 1 < x.length), j + 1 < i → ¬ Fits (x[j]'(by omega)) (x[j + 1]'h)) ∧ ρ 7 = .int .i64 (i : Int) ∧ ρ 6 = u ∧ ρ 5 = .bool true ∧ ρ 1 = .int .u16 (cut : Int))
    (fun ρ wr => match ρ 7 with | .int _ s => (x.length + 1 - s).toNat | _ => 0)
    (fun ρ wr => Ext w wr ∧ NoFit x ∧ ρ 6 = u ∧ ρ 5 = .bool true ∧ ρ 1 = .int .u16 (cut : Int))
    (fun ρ wr => Ext w wr ∧ ρ 4 = .bool true) ?_ ?_ ?_ ?_
  · exact ⟨1, by omega, by omega, Keep.refl _ _, fun j h h' => by omega, rfl, rfl, rfl, rfl⟩
  · rintro J hJ hJR ρ wr ⟨i, h1, hi, hx, hno, r7, r6, r5, r1⟩
    rw [r6, r7, eu, X_len_59, X_lss, condS_bool, ← eu]
    by_cases hlt : i < x.length
    case neg =>
      rw [if_neg (by simp; omega)]
      exact hJ _ _ ⟨hx, fun j h => hno j h (by omega), r6, r5, r1⟩
    rw [if_pos (by simp; omega)]
    unfold B_law16_ExtentCuts_c1
    rw [r7, r6]
    obtain ⟨n, hn⟩ : ∃ n, i = n + 1 := ⟨i - 1, by omega⟩
    subst hn
    have hxd := hx.trans (Keep.drew (fun _ => False) wr)
    obtain ⟨g, o, hix, hc⟩ := ext_at (hr.ext hxd) hlt
    obtain ⟨g2, o2, hix2, hc2⟩ := ext_at (hr.ext hxd) (show n < x.length by omega)
    refine ⟨Ext, Ext.frame, ?_⟩
    generalize drewW wr = wd at hxd hc hc2 ⊢
    have ew : IntKind.i64.wrap (((n + 1 : Nat) : Int) - 1) = (n : Int) := by rw [w64 (by omega) (by omega)]; omega
    have rA := hR.2 _ (List.getElem_mem hlt)
    have rB := hR.2 _ (List.getElem_mem (show n < x.length by omega))
    have hstep : ¬ Fits (x[n]'(by omega)) (x[n + 1]'hlt) → ∀ j (h : j + 1 < x.length), j + 1 < n + 1 + 1 → ¬ Fits (x[j]'(by omega)) (x[j + 1]'h) := by
      intro hnf j hj hj2
      by_cases hjn : j = n
      · subst hjn; exact hnf
      · exact hno j hj (by omega)
    generalize x[n + 1] = A at hc rA hstep
    generalize x[n] = B at hc2 rB hstep
    unfold right1 at rA rB
    refine XP_of hix ?_
    rw [XP_field_72_0]
    refine XR_ok Ext.frame (fun w' kk => load_cells Try.underlying44 agg_44 info_44 (l := A.k.cs) (by rw [sz_44, Ky.cs_len]) (fun j u hj => by rw [add_plain]; exact kk.cell (fun h => h) (hc j u (A.keyAt hj)))) ?_
    rw [XP_sub, ew]
    refine XP_of hix2 ?_
    rw [XP_field_72_0]
    refine XR_ok Ext.frame (fun w' kk => load_cells Try.underlying44 agg_44 info_44 (l := B.k.cs) (by rw [sz_44, Ky.cs_len]) (fun j u hj => by rw [add_plain]; exact kk.cell (fun h => h) (hc2 j u (B.keyAt hj)))) ?_
    refine XP_of (fun w' => run_key_eql _ _ _ _ w') ?_
    have go : ¬ Fits B A → ∀ ρ' : Env, ρ' 7 = .int .i64 (IntKind.i64.wrap (((n + 1 : Nat) : Int) + 1)) → ρ' 6 = u → ρ' 5 = .bool true → ρ' 1 = .int .u16 (cut : Int) →
        (∃ i : Nat, 1 ≤ i ∧ i ≤ x.length + 1 ∧ Ext w wd ∧ (∀ j (h : j + 1 < x.length), j + 1 < i → ¬ Fits (x[j]'(by omega)) (x[j + 1]'h)) ∧ ρ' 7 = .int .i64 (i : Int) ∧ ρ' 6 = u ∧ ρ' 5 = .bool true ∧ ρ' 1 = .int .u16 (cut : Int)) ∧ (match ρ' 7 with | .int _ s => ((x.length : Int) + 1 - s).toNat | _ => 0) < ((x.length : Int) + 1 - ((n + 1 : Nat) : Int)).toNat := by
      intro hnf ρ' e7 e6 e5 e1
      refine ⟨⟨n + 1 + 1, by omega, by omega, hxd, hstep hnf, e7.trans (next64 (n := 1000000) (by decide) (by omega)), e6, e5, e1⟩, ?_⟩
      rw [e7]
      show (_ - IntKind.i64.wrap _).toNat < _
      rw [w64 (by omega) (by omega)]
      omega
    by_cases hk : A.k = B.k
    case neg =>
      have c : decide (A.k = B.k) = false := decide_eq_false hk
      (repeat (first | with_reducible (first | refine Eq.mpr (B_law16_ExtentCuts_c1.eq_1 ..) ?_) | simp only [XP_extract0, XP_extract1, XP_extract2, XP_extract3, X_extract0, X_extract1, X_extract2, X_extract3, X_nilS, X_eql_nil_24, X_neq_nil_24, X_eql_nil_103, X_neq_nil_103, X_eql, X_neq, X_lss, X_leq, X_gtr, X_geq, X_not, X_min, X_max, X_len_79, X_len_35, XP_nilS, XP_eql, XP_neq, XP_lss, XP_leq, XP_gtr, XP_geq, XP_not, XP_min, XP_max, XP_len_79, XP_eql_nil_24, X_str_eql, X_str_neq, XP_str_eql, XP_str_neq, GS, gs_u, decide_true, decide_false, Option.isNone_some, Option.isSome_some, Option.isNone_none, Option.isSome_none, eq_self, Bool.not_true, Bool.not_false, Int.reduceEq, Int.reduceNe, Int.reduceLT, Int.reduceLE, Int.reduceGT, Int.reduceGE, c]))
      rw [X_add]
      exact go (fun h => hk h.1.symm) _ rfl r6 r5 r1
    have c : decide (A.k = B.k) = true := decide_eq_true hk
    (repeat (first | with_reducible (first | refine Eq.mpr (B_law16_ExtentCuts_c1.eq_1 ..) ?_) | simp only [XP_extract0, XP_extract1, XP_extract2, XP_extract3, X_extract0, X_extract1, X_extract2, X_extract3, X_nilS, X_eql_nil_24, X_neq_nil_24, X_eql_nil_103, X_neq_nil_103, X_eql, X_neq, X_lss, X_leq, X_gtr, X_geq, X_not, X_min, X_max, X_len_79, X_len_35, XP_nilS, XP_eql, XP_neq, XP_lss, XP_leq, XP_gtr, XP_geq, XP_not, XP_min, XP_max, XP_len_79, XP_eql_nil_24, X_str_eql, X_str_neq, XP_str_eql, XP_str_neq, GS, gs_u, decide_true, decide_false, Option.isNone_some, Option.isSome_some, Option.isNone_none, Option.isSome_none, eq_self, Bool.not_true, Bool.not_false, Int.reduceEq, Int.reduceNe, Int.reduceLT, Int.reduceLE, Int.reduceGT, Int.reduceGE, c]))
    refine XP_of hix ?_
    (repeat (first | with_reducible (first | refine Eq.mpr (B_law16_ExtentCuts_c1.eq_1 ..) ?_) | simp only [XP_extract0, XP_extract1, XP_extract2, XP_extract3, X_extract0, X_extract1, X_extract2, X_extract3, X_nilS, X_eql_nil_24, X_neq_nil_24, X_eql_nil_103, X_neq_nil_103, X_eql, X_neq, X_lss, X_leq, X_gtr, X_geq, X_not, X_min, X_max, X_len_79, X_len_35, XP_nilS, XP_eql, XP_neq, XP_lss, XP_leq, XP_gtr, XP_geq, XP_not, XP_min, XP_max, XP_len_79, XP_eql_nil_24, X_str_eql, X_str_neq, XP_str_eql, XP_str_neq, GS, gs_u, decide_true, decide_false, Option.isNone_some, Option.isSome_some, Option.isNone_none, Option.isSome_none, eq_self, Bool.not_true, Bool.not_false, Int.reduceEq, Int.reduceNe, Int.reduceLT, Int.reduceLE, Int.reduceGT, Int.reduceGE, XP_field_72_1]))
    refine XR_ok Ext.frame (fun w' kk => run_loadAt agg_3 (kk.cell (fun h => h) (hc 33 _ A.offAt))) ?_
    (repeat (first | with_reducible (first | refine Eq.mpr (B_law16_ExtentCuts_c1.eq_1 ..) ?_) | simp only [XP_extract0, XP_extract1, XP_extract2, XP_extract3, X_extract0, X_extract1, X_extract2, X_extract3, X_nilS, X_eql_nil_24, X_neq_nil_24, X_eql_nil_103, X_neq_nil_103, X_eql, X_neq, X_lss, X_leq, X_gtr, X_geq, X_not, X_min, X_max, X_len_79, X_len_35, XP_nilS, XP_eql, XP_neq, XP_lss, XP_leq, XP_gtr, XP_geq, XP_not, XP_min, XP_max, XP_len_79, XP_eql_nil_24, X_str_eql, X_str_neq, XP_str_eql, XP_str_neq, GS, gs_u, decide_true, decide_false, Option.isNone_some, Option.isSome_some, Option.isNone_none, Option.isSome_none, eq_self, Bool.not_true, Bool.not_false, Int.reduceEq, Int.reduceNe, Int.reduceLT, Int.reduceLE, Int.reduceGT, Int.reduceGE, XP_sub]))
    try rw [ew]
    refine XP_of hix2 ?_
    (repeat (first | with_reducible (first | refine Eq.mpr (B_law16_ExtentCuts_c1.eq_1 ..) ?_) | simp only [XP_extract0, XP_extract1, XP_extract2, XP_extract3, X_extract0, X_extract1, X_extract2, X_extract3, X_nilS, X_eql_nil_24, X_neq_nil_24, X_eql_nil_103, X_neq_nil_103, X_eql, X_neq, X_lss, X_leq, X_gtr, X_geq, X_not, X_min, X_max, X_len_79, X_len_35, XP_nilS, XP_eql, XP_neq, XP_lss, XP_leq, XP_gtr, XP_geq, XP_not, XP_min, XP_max, XP_len_79, XP_eql_nil_24, X_str_eql, X_str_neq, XP_str_eql, XP_str_neq, GS, gs_u, decide_true, decide_false, Option.isNone_some, Option.isSome_some, Option.isNone_none, Option.isSome_none, eq_self, Bool.not_true, Bool.not_false, Int.reduceEq, Int.reduceNe, Int.reduceLT, Int.reduceLE, Int.reduceGT, Int.reduceGE, XP_field_72_1]))
    refine XR_ok Ext.frame (fun w' kk => run_loadAt agg_3 (kk.cell (fun h => h) (hc2 33 _ B.offAt))) ?_
    (repeat (first | with_reducible (first | refine Eq.mpr (B_law16_ExtentCuts_c1.eq_1 ..) ?_) | simp only [XP_extract0, XP_extract1, XP_extract2, XP_extract3, X_extract0, X_extract1, X_extract2, X_extract3, X_nilS, X_eql_nil_24, X_neq_nil_24, X_eql_nil_103, X_neq_nil_103, X_eql, X_neq, X_lss, X_leq, X_gtr, X_geq, X_not, X_min, X_max, X_len_79, X_len_35, XP_nilS, XP_eql, XP_neq, XP_lss, XP_leq, XP_gtr, XP_geq, XP_not, XP_min, XP_max, XP_len_79, XP_eql_nil_24, X_str_eql, X_str_neq, XP_str_eql, XP_str_neq, GS, gs_u, decide_true, decide_false, Option.isNone_some, Option.isSome_some, Option.isNone_none, Option.isSome_none, eq_self, Bool.not_true, Bool.not_false, Int.reduceEq, Int.reduceNe, Int.reduceLT, Int.reduceLE, Int.reduceGT, Int.reduceGE, XP_sub]))
    try rw [ew]
    refine XP_of hix2 ?_
    (repeat (first | with_reducible (first | refine Eq.mpr (B_law16_ExtentCuts_c1.eq_1 ..) ?_) | simp only [XP_extract0, XP_extract1, XP_extract2, XP_extract3, X_extract0, X_extract1, X_extract2, X_extract3, X_nilS, X_eql_nil_24, X_neq_nil_24, X_eql_nil_103, X_neq_nil_103, X_eql, X_neq, X_lss, X_leq, X_gtr, X_geq, X_not, X_min, X_max, X_len_79, X_len_35, XP_nilS, XP_eql, XP_neq, XP_lss, XP_leq, XP_gtr, XP_geq, XP_not, XP_min, XP_max, XP_len_79, XP_eql_nil_24, X_str_eql, X_str_neq, XP_str_eql, XP_str_neq, GS, gs_u, decide_true, decide_false, Option.isNone_some, Option.isSome_some, Option.isNone_none, Option.isSome_none, eq_self, Bool.not_true, Bool.not_false, Int.reduceEq, Int.reduceNe, Int.reduceLT, Int.reduceLE, Int.reduceGT, Int.reduceGE, XP_field_72_2]))
    refine XR_ok Ext.frame (fun w' kk => run_loadAt agg_3 (kk.cell (fun h => h) (hc2 34 _ B.lenAt))) ?_
    (repeat (first | with_reducible (first | refine Eq.mpr (B_law16_ExtentCuts_c1.eq_1 ..) ?_) | simp only [XP_extract0, XP_extract1, XP_extract2, XP_extract3, X_extract0, X_extract1, X_extract2, X_extract3, X_nilS, X_eql_nil_24, X_neq_nil_24, X_eql_nil_103, X_neq_nil_103, X_eql, X_neq, X_lss, X_leq, X_gtr, X_geq, X_not, X_min, X_max, X_len_79, X_len_35, XP_nilS, XP_eql, XP_neq, XP_lss, XP_leq, XP_gtr, XP_geq, XP_not, XP_min, XP_max, XP_len_79, XP_eql_nil_24, X_str_eql, X_str_neq, XP_str_eql, XP_str_neq, GS, gs_u, decide_true, decide_false, Option.isNone_some, Option.isSome_some, Option.isNone_none, Option.isSome_none, eq_self, Bool.not_true, Bool.not_false, Int.reduceEq, Int.reduceNe, Int.reduceLT, Int.reduceLE, Int.reduceGT, Int.reduceGE, XP_add]))
    rw [w64 (x := B.off + B.len) (by omega) (by omega)]
    by_cases hf : A.off = B.off + B.len
    case neg =>
      have c2 : decide (A.off = B.off + B.len) = false := decide_eq_false hf
      (repeat (first | with_reducible (first | refine Eq.mpr (B_law16_ExtentCuts_c1.eq_1 ..) ?_) | simp only [XP_extract0, XP_extract1, XP_extract2, XP_extract3, X_extract0, X_extract1, X_extract2, X_extract3, X_nilS, X_eql_nil_24, X_neq_nil_24, X_eql_nil_103, X_neq_nil_103, X_eql, X_neq, X_lss, X_leq, X_gtr, X_geq, X_not, X_min, X_max, X_len_79, X_len_35, XP_nilS, XP_eql, XP_neq, XP_lss, XP_leq, XP_gtr, XP_geq, XP_not, XP_min, XP_max, XP_len_79, XP_eql_nil_24, X_str_eql, X_str_neq, XP_str_eql, XP_str_neq, GS, gs_u, decide_true, decide_false, Option.isNone_some, Option.isSome_some, Option.isNone_none, Option.isSome_none, eq_self, Bool.not_true, Bool.not_false, Int.reduceEq, Int.reduceNe, Int.reduceLT, Int.reduceLE, Int.reduceGT, Int.reduceGE, c2]))
      rw [X_add]
      exact go (fun h => hf h.2.symm) _ rfl r6 r5 r1
    have c2 : decide (A.off = B.off + B.len) = true := decide_eq_true hf
    (repeat (first | with_reducible (first | refine Eq.mpr (B_law16_ExtentCuts_c1.eq_1 ..) ?_) | simp only [XP_extract0, XP_extract1, XP_extract2, XP_extract3, X_extract0, X_extract1, X_extract2, X_extract3, X_nilS, X_eql_nil_24, X_neq_nil_24, X_eql_nil_103, X_neq_nil_103, X_eql, X_neq, X_lss, X_leq, X_gtr, X_geq, X_not, X_min, X_max, X_len_79, X_len_35, XP_nilS, XP_eql, XP_neq, XP_lss, XP_leq, XP_gtr, XP_geq, XP_not, XP_min, XP_max, XP_len_79, XP_eql_nil_24, X_str_eql, X_str_neq, XP_str_eql, XP_str_neq, GS, gs_u, decide_true, decide_false, Option.isNone_some, Option.isSome_some, Option.isNone_none, Option.isSome_none, eq_self, Bool.not_true, Bool.not_false, Int.reduceEq, Int.reduceNe, Int.reduceLT, Int.reduceLE, Int.reduceGT, Int.reduceGE, c2]))
    exact hJR _ _ ⟨hxd, r5⟩
  · rintro ρ wr ⟨hx, hnf, r6, r5, r1⟩
    show X _ (convert 68 3 (ρ 1)) _ _
    rw [r1, X_conv_68_3, w64 (x := (cut : Int)) (by omega) (by omega), r6, r5]
    have hrw := hr.ext hx
    have htt : totalE x = totE x := if_pos hR
    have htb := totE_bound hR.2 x.length
    rw [List.take_length] at htb
    refine Total_spec hrw ?_
    intro w1 hx1
    rw [X_add, htt, w64 (x := totE x + 1) (by omega) (by omega)]
    refine X_of (run_rem _ _ _ _ (by omega) _) ?_
    have hk0 : 0 ≤ (cut : Int).tmod (totE x + 1) := by rw [Int.tmod_eq_emod_of_nonneg (by omega)]; exact Int.emod_nonneg _ (by omega)
    have hk1 : (cut : Int).tmod (totE x + 1) ≤ totE x := by
      rw [Int.tmod_eq_emod_of_nonneg (by omega)]
      have := Int.emod_lt_of_pos (cut : Int) (show 0 < totE x + 1 by omega)
      omega
    generalize (cut : Int).tmod (totE x + 1) = k at hk0 hk1
    refine Slice_spec (hrw.ext hx1) (by omega) (by omega) (by omega) (by omega) ?_
    intro u2 w2 hx2 ho2
    have hr2 := OwnK.rowK (by decide) Ex.csLen ho2
    have hx02 := hx1.trans hx2
    refine Slice_spec (hrw.ext hx02) (by omega) (by omega) (by omega) (by omega) ?_
    intro u3 w3 hx3 ho3
    have hr3 := OwnK.rowK (by decide) Ex.csLen ho3
    have hx03 := hx02.trans hx3
    obtain ⟨t1, t2⟩ := cut_total hR hk0 hk1
    (repeat (first | with_reducible (first | refine Eq.mpr (B_law16_ExtentCuts_c1.eq_1 ..) ?_) | simp only [XP_extract0, XP_extract1, XP_extract2, XP_extract3, X_extract0, X_extract1, X_extract2, X_extract3, X_nilS, X_eql_nil_24, X_neq_nil_24, X_eql_nil_103, X_neq_nil_103, X_eql, X_neq, X_lss, X_leq, X_gtr, X_geq, X_not, X_min, X_max, X_len_79, X_len_35, XP_nilS, XP_eql, XP_neq, XP_lss, XP_leq, XP_gtr, XP_geq, XP_not, XP_min, XP_max, XP_len_79, XP_eql_nil_24, X_str_eql, X_str_neq, XP_str_eql, XP_str_neq, GS, gs_u, decide_true, decide_false, Option.isNone_some, Option.isSome_some, Option.isNone_none, Option.isSome_none, eq_self, Bool.not_true, Bool.not_false, Int.reduceEq, Int.reduceNe, Int.reduceLT, Int.reduceLE, Int.reduceGT, Int.reduceGE]))
    refine Total_spec (hr2.ext hx3) ?_
    intro w4 hx4
    have ck : decide (k = k) = true := decide_eq_true rfl
    rw [t1]
    (repeat (first | with_reducible (first | refine Eq.mpr (B_law16_ExtentCuts_c1.eq_1 ..) ?_) | simp only [XP_extract0, XP_extract1, XP_extract2, XP_extract3, X_extract0, X_extract1, X_extract2, X_extract3, X_nilS, X_eql_nil_24, X_neq_nil_24, X_eql_nil_103, X_neq_nil_103, X_eql, X_neq, X_lss, X_leq, X_gtr, X_geq, X_not, X_min, X_max, X_len_79, X_len_35, XP_nilS, XP_eql, XP_neq, XP_lss, XP_leq, XP_gtr, XP_geq, XP_not, XP_min, XP_max, XP_len_79, XP_eql_nil_24, X_str_eql, X_str_neq, XP_str_eql, XP_str_neq, GS, gs_u, decide_true, decide_false, Option.isNone_some, Option.isSome_some, Option.isNone_none, Option.isSome_none, eq_self, Bool.not_true, Bool.not_false, Int.reduceEq, Int.reduceNe, Int.reduceLT, Int.reduceLE, Int.reduceGT, Int.reduceGE, ck]))
    refine Total_spec (hr3.ext hx4) ?_
    intro w5 hx5
    have hx35 := hx4.trans hx5
    (repeat (first | with_reducible (first | refine Eq.mpr (B_law16_ExtentCuts_c1.eq_1 ..) ?_) | simp only [XP_extract0, XP_extract1, XP_extract2, XP_extract3, X_extract0, X_extract1, X_extract2, X_extract3, X_nilS, X_eql_nil_24, X_neq_nil_24, X_eql_nil_103, X_neq_nil_103, X_eql, X_neq, X_lss, X_leq, X_gtr, X_geq, X_not, X_min, X_max, X_len_79, X_len_35, XP_nilS, XP_eql, XP_neq, XP_lss, XP_leq, XP_gtr, XP_geq, XP_not, XP_min, XP_max, XP_len_79, XP_eql_nil_24, X_str_eql, X_str_neq, XP_str_eql, XP_str_neq, GS, gs_u, decide_true, decide_false, Option.isNone_some, Option.isSome_some, Option.isNone_none, Option.isSome_none, eq_self, Bool.not_true, Bool.not_false, Int.reduceEq, Int.reduceNe, Int.reduceLT, Int.reduceLE, Int.reduceGT, Int.reduceGE]))
    refine Total_spec (hrw.ext (hx03.trans hx35)) ?_
    intro w6 hx6
    have hx36 := hx35.trans hx6
    rw [t2, htt]
    (repeat (first | with_reducible (first | refine Eq.mpr (B_law16_ExtentCuts_c1.eq_1 ..) ?_) | simp only [XP_extract0, XP_extract1, XP_extract2, XP_extract3, X_extract0, X_extract1, X_extract2, X_extract3, X_nilS, X_eql_nil_24, X_neq_nil_24, X_eql_nil_103, X_neq_nil_103, X_eql, X_neq, X_lss, X_leq, X_gtr, X_geq, X_not, X_min, X_max, X_len_79, X_len_35, XP_nilS, XP_eql, XP_neq, XP_lss, XP_leq, XP_gtr, XP_geq, XP_not, XP_min, XP_max, XP_len_79, XP_eql_nil_24, X_str_eql, X_str_neq, XP_str_eql, XP_str_neq, GS, gs_u, decide_true, decide_false, Option.isNone_some, Option.isSome_some, Option.isNone_none, Option.isSome_none, eq_self, Bool.not_true, Bool.not_false, Int.reduceEq, Int.reduceNe, Int.reduceLT, Int.reduceLE, Int.reduceGT, Int.reduceGE, X_sub]))
    rw [w64 (x := totE x - k) (by omega) (by omega)]
    have ck2 : decide (totE x - k = totE x - k) = true := decide_eq_true rfl
    (repeat (first | with_reducible (first | refine Eq.mpr (B_law16_ExtentCuts_c1.eq_1 ..) ?_) | simp only [XP_extract0, XP_extract1, XP_extract2, XP_extract3, X_extract0, X_extract1, X_extract2, X_extract3, X_nilS, X_eql_nil_24, X_neq_nil_24, X_eql_nil_103, X_neq_nil_103, X_eql, X_neq, X_lss, X_leq, X_gtr, X_geq, X_not, X_min, X_max, X_len_79, X_len_35, XP_nilS, XP_eql, XP_neq, XP_lss, XP_leq, XP_gtr, XP_geq, XP_not, XP_min, XP_max, XP_len_79, XP_eql_nil_24, X_str_eql, X_str_neq, XP_str_eql, XP_str_neq, GS, gs_u, decide_true, decide_false, Option.isNone_some, Option.isSome_some, Option.isNone_none, Option.isSome_none, eq_self, Bool.not_true, Bool.not_false, Int.reduceEq, Int.reduceNe, Int.reduceLT, Int.reduceLE, Int.reduceGT, Int.reduceGE, ck2]))
    refine X_rows2 ((hr2.ext hx3).ext hx36) (hr3.ext hx36) ?_
    intro v7 w7 hx7 hrows
    have hfl : [sliceE x 0 k, sliceE x k 4611686018427387904].flatten.length ≤ 1000000 := by
      have h1 := sliceE_len x 0 k
      have h2 := sliceE_len x k 4611686018427387904
      simp
      omega
    (repeat (first | with_reducible (first | refine Eq.mpr (B_law16_ExtentCuts_c1.eq_1 ..) ?_) | simp only [XP_extract0, XP_extract1, XP_extract2, XP_extract3, X_extract0, X_extract1, X_extract2, X_extract3, X_nilS, X_eql_nil_24, X_neq_nil_24, X_eql_nil_103, X_neq_nil_103, X_eql, X_neq, X_lss, X_leq, X_gtr, X_geq, X_not, X_min, X_max, X_len_79, X_len_35, XP_nilS, XP_eql, XP_neq, XP_lss, XP_leq, XP_gtr, XP_geq, XP_not, XP_min, XP_max, XP_len_79, XP_eql_nil_24, X_str_eql, X_str_neq, XP_str_eql, XP_str_neq, GS, gs_u, decide_true, decide_false, Option.isNone_some, Option.isSome_some, Option.isNone_none, Option.isSome_none, eq_self, Bool.not_true, Bool.not_false, Int.reduceEq, Int.reduceNe, Int.reduceLT, Int.reduceLE, Int.reduceGT, Int.reduceGE]))
    refine Join_spec hrows hfl (by simp) ?_
    rw [join_cut hR hnf hk0 hk1]
    intro u8 w8 hx8 ho8
    have hxx := ((hx03.trans hx36).trans hx7).trans hx8
    (repeat (first | with_reducible (first | refine Eq.mpr (B_law16_ExtentCuts_c1.eq_1 ..) ?_) | simp only [XP_extract0, XP_extract1, XP_extract2, XP_extract3, X_extract0, X_extract1, X_extract2, X_extract3, X_nilS, X_eql_nil_24, X_neq_nil_24, X_eql_nil_103, X_neq_nil_103, X_eql, X_neq, X_lss, X_leq, X_gtr, X_geq, X_not, X_min, X_max, X_len_79, X_len_35, XP_nilS, XP_eql, XP_neq, XP_lss, XP_leq, XP_gtr, XP_geq, XP_not, XP_min, XP_max, XP_len_79, XP_eql_nil_24, X_str_eql, X_str_neq, XP_str_eql, XP_str_neq, GS, gs_u, decide_true, decide_false, Option.isNone_some, Option.isSome_some, Option.isNone_none, Option.isSome_none, eq_self, Bool.not_true, Bool.not_false, Int.reduceEq, Int.reduceNe, Int.reduceLT, Int.reduceLE, Int.reduceGT, Int.reduceGE]))
    refine SameE_spec (OwnK.rowK (by decide) Ex.csLen ho8) (hrw.ext hxx) (by omega) ?_
    intro w9 hx9
    (repeat (first | with_reducible (first | refine Eq.mpr (B_law16_ExtentCuts_c1.eq_1 ..) ?_) | simp only [XP_extract0, XP_extract1, XP_extract2, XP_extract3, X_extract0, X_extract1, X_extract2, X_extract3, X_nilS, X_eql_nil_24, X_neq_nil_24, X_eql_nil_103, X_neq_nil_103, X_eql, X_neq, X_lss, X_leq, X_gtr, X_geq, X_not, X_min, X_max, X_len_79, X_len_35, XP_nilS, XP_eql, XP_neq, XP_lss, XP_leq, XP_gtr, XP_geq, XP_not, XP_min, XP_max, XP_len_79, XP_eql_nil_24, X_str_eql, X_str_neq, XP_str_eql, XP_str_neq, GS, gs_u, decide_true, decide_false, Option.isNone_some, Option.isSome_some, Option.isNone_none, Option.isSome_none, eq_self, Bool.not_true, Bool.not_false, Int.reduceEq, Int.reduceNe, Int.reduceLT, Int.reduceLE, Int.reduceGT, Int.reduceGE]))
    exact ⟨trivial, ((hxw.trans hx).trans hxx).trans hx9⟩
  · rintro ρ wr ⟨hx, r4⟩
    show _ ∧ _
    exact ⟨r4, hxw.trans hx⟩
theorem extentCuts_run {v : Value} {l : List Ex} {cut : Nat} (hcut : cut < 65536) (W : World) (hl : RowK 35 Ex.cs W v l) :
    CALL Try.prog 10 #[v, .int .u16 (cut : Int)] W (fun v w' => v = .bool true ∧ Ext W w') := by
  apply call_law16_ExtentCuts
  unfold B_law16_ExtentCuts
  refine shown16 ?_
  intro w1 hx1
  refine Few_spec (hl.ext hx1) ?_
  intro u hu
  refine Right_spec hu ?_
  intro w2 hx2
  have hx02 := hx1.trans hx2
  by_cases hr : RightP (l.take 500)
  case pos =>
    have c : decide (RightP (l.take 500)) = true := decide_eq_true hr
    (repeat (first | with_reducible (first | refine Eq.mpr (B_law16_ExtentCuts_c1.eq_1 ..) ?_) | simp only [XP_extract0, XP_extract1, XP_extract2, XP_extract3, X_extract0, X_extract1, X_extract2, X_extract3, X_nilS, X_eql_nil_24, X_neq_nil_24, X_eql_nil_103, X_neq_nil_103, X_eql, X_neq, X_lss, X_leq, X_gtr, X_geq, X_not, X_min, X_max, X_len_79, X_len_35, XP_nilS, XP_eql, XP_neq, XP_lss, XP_leq, XP_gtr, XP_geq, XP_not, XP_min, XP_max, XP_len_79, XP_eql_nil_24, X_str_eql, X_str_neq, XP_str_eql, XP_str_neq, GS, gs_u, decide_true, decide_false, Option.isNone_some, Option.isSome_some, Option.isNone_none, Option.isSome_none, eq_self, Bool.not_true, Bool.not_false, Int.reduceEq, Int.reduceNe, Int.reduceLT, Int.reduceLE, Int.reduceGT, Int.reduceGE, c]))
    exact extentCuts_tail (a := .nilIface) (b := .nilIface) (c := .nilIface) (e := .nilIface) (x1' := .nilIface) hcut W hx02 (few_len l) (hu.ext hx2) hr
  have c : decide (RightP (l.take 500)) = false := decide_eq_false hr
  (repeat (first | with_reducible (first | refine Eq.mpr (B_law16_ExtentCuts_c1.eq_1 ..) ?_) | simp only [XP_extract0, XP_extract1, XP_extract2, XP_extract3, X_extract0, X_extract1, X_extract2, X_extract3, X_nilS, X_eql_nil_24, X_neq_nil_24, X_eql_nil_103, X_neq_nil_103, X_eql, X_neq, X_lss, X_leq, X_gtr, X_geq, X_not, X_min, X_max, X_len_79, X_len_35, XP_nilS, XP_eql, XP_neq, XP_lss, XP_leq, XP_gtr, XP_geq, XP_not, XP_min, XP_max, XP_len_79, XP_eql_nil_24, X_str_eql, X_str_neq, XP_str_eql, XP_str_neq, GS, gs_u, decide_true, decide_false, Option.isNone_some, Option.isSome_some, Option.isNone_none, Option.isSome_none, eq_self, Bool.not_true, Bool.not_false, Int.reduceEq, Int.reduceNe, Int.reduceLT, Int.reduceLE, Int.reduceGT, Int.reduceGE, c]))
  rw [X_conv_68_3, w64 (by omega) (by omega)]
  (repeat (first | with_reducible (first | refine Eq.mpr (B_law16_ExtentCuts_c1.eq_1 ..) ?_) | simp only [XP_extract0, XP_extract1, XP_extract2, XP_extract3, X_extract0, X_extract1, X_extract2, X_extract3, X_nilS, X_eql_nil_24, X_neq_nil_24, X_eql_nil_103, X_neq_nil_103, X_eql, X_neq, X_lss, X_leq, X_gtr, X_geq, X_not, X_min, X_max, X_len_79, X_len_35, XP_nilS, XP_eql, XP_neq, XP_lss, XP_leq, XP_gtr, XP_geq, XP_not, XP_min, XP_max, XP_len_79, XP_eql_nil_24, X_str_eql, X_str_neq, XP_str_eql, XP_str_neq, GS, gs_u, decide_true, decide_false, Option.isNone_some, Option.isSome_some, Option.isNone_none, Option.isSome_none, eq_self, Bool.not_true, Bool.not_false, Int.reduceEq, Int.reduceNe, Int.reduceLT, Int.reduceLE, Int.reduceGT, Int.reduceGE, c]))
  refine Slice_spec (hu.ext hx2) (by omega) (by omega) (by omega) (by omega) ?_
  have e0 : sliceE (l.take 500) 0 (cut : Int) = [] := by unfold sliceE; rw [if_pos (.inr hr)]
  rw [e0]
  intro u3 w3 hx3 ho3
  obtain ⟨a3, c3, e3⟩ := (OwnK.rowK (by decide) Ex.csLen ho3).slice
  (repeat (first | with_reducible (first | refine Eq.mpr (B_law16_ExtentCuts_c1.eq_1 ..) ?_) | simp only [XP_extract0, XP_extract1, XP_extract2, XP_extract3, X_extract0, X_extract1, X_extract2, X_extract3, X_nilS, X_eql_nil_24, X_neq_nil_24, X_eql_nil_103, X_neq_nil_103, X_eql, X_neq, X_lss, X_leq, X_gtr, X_geq, X_not, X_min, X_max, X_len_79, X_len_35, XP_nilS, XP_eql, XP_neq, XP_lss, XP_leq, XP_gtr, XP_geq, XP_not, XP_min, XP_max, XP_len_79, XP_eql_nil_24, X_str_eql, X_str_neq, XP_str_eql, XP_str_neq, GS, gs_u, decide_true, decide_false, Option.isNone_some, Option.isSome_some, Option.isNone_none, Option.isSome_none, eq_self, Bool.not_true, Bool.not_false, Int.reduceEq, Int.reduceNe, Int.reduceLT, Int.reduceLE, Int.reduceGT, Int.reduceGE]))
  rw [e3, X_len_59]
  have cz : decide (((([] : List Ex).length : Nat) : Int) = 0) = true := rfl
  (repeat (first | with_reducible (first | refine Eq.mpr (B_law16_ExtentCuts_c1.eq_1 ..) ?_) | simp only [XP_extract0, XP_extract1, XP_extract2, XP_extract3, X_extract0, X_extract1, X_extract2, X_extract3, X_nilS, X_eql_nil_24, X_neq_nil_24, X_eql_nil_103, X_neq_nil_103, X_eql, X_neq, X_lss, X_leq, X_gtr, X_geq, X_not, X_min, X_max, X_len_79, X_len_35, XP_nilS, XP_eql, XP_neq, XP_lss, XP_leq, XP_gtr, XP_geq, XP_not, XP_min, XP_max, XP_len_79, XP_eql_nil_24, X_str_eql, X_str_neq, XP_str_eql, XP_str_neq, GS, gs_u, decide_true, decide_false, Option.isNone_some, Option.isSome_some, Option.isNone_none, Option.isSome_none, eq_self, Bool.not_true, Bool.not_false, Int.reduceEq, Int.reduceNe, Int.reduceLT, Int.reduceLE, Int.reduceGT, Int.reduceGE, cz]))
  refine Total_spec ((hu.ext hx2).ext hx3) ?_
  have e1 : totalE (l.take 500) = 0 := if_neg hr
  rw [e1]
  intro w4 hx4
  have cz2 : decide ((0 : Int) = 0) = true := rfl
  (repeat (first | with_reducible (first | refine Eq.mpr (B_law16_ExtentCuts_c1.eq_1 ..) ?_) | simp only [XP_extract0, XP_extract1, XP_extract2, XP_extract3, X_extract0, X_extract1, X_extract2, X_extract3, X_nilS, X_eql_nil_24, X_neq_nil_24, X_eql_nil_103, X_neq_nil_103, X_eql, X_neq, X_lss, X_leq, X_gtr, X_geq, X_not, X_min, X_max, X_len_79, X_len_35, XP_nilS, XP_eql, XP_neq, XP_lss, XP_leq, XP_gtr, XP_geq, XP_not, XP_min, XP_max, XP_len_79, XP_eql_nil_24, X_str_eql, X_str_neq, XP_str_eql, XP_str_neq, GS, gs_u, decide_true, decide_false, Option.isNone_some, Option.isSome_some, Option.isNone_none, Option.isSome_none, eq_self, Bool.not_true, Bool.not_false, Int.reduceEq, Int.reduceNe, Int.reduceLT, Int.reduceLE, Int.reduceGT, Int.reduceGE, cz2]))
  exact ⟨trivial, (hx02.trans hx3).trans hx4⟩
theorem extentCuts_walk {H : Type} (enc : TypeId × Value → H) (W : World) (v0 v1 : Value) {base : Nat} (ok0 : Value.okWide Try.prog W .any base 59 v0) (ok1 : Value.okWide Try.prog W .any base 68 v1) (d0 : DataW H) (p0 : List MemPlace) (d1 : DataW H) (p1 : List MemPlace) (h0 : DataW.Trod enc Try.prog W 0 (fun _ => true) true 59 v0 d0 p0) (h1 : DataW.Trod enc Try.prog W 0 (fun _ => true) true 68 v1 d1 p1) (hsz : (DataW.weightsEach Try.prog [59, 68] [d0, d1]).all (· ≤ reachBytes) = true) :
    CALL Try.prog 10 #[v0, v1] W (fun v w' => v = .bool true ∧ Ext W w') := by
  obtain ⟨l, hl⟩ := arg_exts ok0 h0
  obtain ⟨n, rfl, hn⟩ := arg_u16 Try.underlying68 ok1 h1
  exact extentCuts_run hn W hl
end
set_option maxRecDepth 100000 in
theorem extentCuts_lifted (os : Os) (started : os.Started) (H : Type) (enc : TypeId × Value → H) :
    ReturnsInHanded {} Try.checked os 10 .any (Rows.extentCutsSpec.pre6 enc Try.prog Try.f10 Rows.extentCutsRow.domain false) (Rows.extentCutsSpec.post enc Try.prog Try.f10 false true false false) := by
  refine returnsInHanded_of_change_sized (C := Try.checked) (by kernel_rfl) started (by kernel_rfl) Try.func10
    (ChangeSpec.witness6 (enc := enc) (C := Try.checked) false ⟨#[], #[(.slice none 0 0), (.int .u16 0)], []⟩ 8 (by kernel_rfl) (by kernel_rfl) (by kernel_rfl) (by kernel_rfl)) ?_
  intro W base args ds gs before hval0 hW hcnd hsz0 _
  have hval : ∀ (j : Nat) t v, Try.f10.params[j]? = some t → args[j]? = some v → Value.okWide Try.prog W .any base t v := hval0
  have hW' := hW
  obtain ⟨p, q, hA0, hV, rfl, hfz, hnd⟩ := hW
  have hA : DataW.TrodAll enc Try.prog W 0 (fun _ => true) true Try.f10.params.toList args.toList ds p := hA0
  rw [Try.params10] at hA hval
  obtain ⟨v0, vs0, d0, ds0, p0, q0, hargs, rfl, rfl, h0, r0⟩ := trodAll_cons hA
  obtain ⟨v1, vs1, d1, ds1, p1, q1, rfl, rfl, rfl, h1, r1⟩ := trodAll_cons r0
  obtain ⟨rfl, rfl, rfl⟩ := trodAll_nil r1
  obtain rfl : args = #[v0, v1] := by cases args; simp_all
  obtain ⟨rfl, rfl⟩ := trodVars_none hV
  have hsz : (DataW.weightsEach Try.prog [59, 68] [d0, d1]).all (· ≤ reachBytes) = true := hsz0
  have hw := extentCuts_walk enc W v0 v1 (hval 0 59 v0 rfl rfl) (hval 1 68 v1 rfl rfl) d0 p0 d1 p1 h0 h1 hsz
  refine (CALL_calls hw).mono fun e W' he => ?_
  cases e with
  | returned v =>
    obtain ⟨rfl, hx⟩ := he
    exact ⟨_, rfl, law_post (P := Try.prog) laidOut (by kernel_rfl) rfl rfl rfl Try.underlying4 hW' hx⟩
  | panicked c => exact he.elim
  | outgrown => exact he.elim

theorem extentCuts_closed : joinedFacts Try.prog 10 Try.f10 Rows.extentCutsSpec Rows.extentCutsRow = true := by
  unfold joinedFacts
  rw [mayEnter_is, liftsFinal_is, make_is]
  kernel_rfl
/-- For every input that the row lets in, cellarage/cellaragelaw16.ExtentCuts returns true, and what was there stays as it was. -/
theorem extentCuts_holds : Rows.ExtentCutsSaid :=
  OpenClaim.holds_of_wide 10 Try.f10 rfl rfl rfl rfl rfl rfl rfl ⟨rfl, rfl, rfl, rfl, rfl⟩ rfl rfl rfl rfl rfl (by kernel_rfl) Try.func10 extentCuts_closed
    (of_decide_eq_true (by kernel_rfl)) (by unfold Func.isWrapper; first | (rw [if_pos (by decide +kernel)]; kernel_rfl) | (rw [if_neg (by decide +kernel)]; exact ⟨rfl, rfl⟩))
    (fun os started H enc _ => extentCuts_lifted os started H enc)
#print axioms extentCuts_holds
end Go.Proofs.Ytlnkdphecinnnaa
