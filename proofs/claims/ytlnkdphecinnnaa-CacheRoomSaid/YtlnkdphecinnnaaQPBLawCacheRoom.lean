/- cellaragelaw14.CacheRoom: no more shelves are loaded than there is room for, and the one that was loaded last is there. -/
import Derived.Test.YtlnkdphecinnnaaQPB7
set_option linter.unusedVariables false
set_option linter.unusedSimpArgs false
set_option linter.constructorNameAsVariable false
namespace Go.Proofs.Ytlnkdphecinnnaa
open Go Go.Sh Go.RowKit Go.ChangeShapes Go.WideShapes Go.ChangeAt
open Go.Proofs.Ytlnkdphecinnnaa
section
attribute [local irreducible] X XU XP XR CALL loopS resC closS Value.okWide
theorem loadT_in {T : Tbl} {n : Nat} {s : Int} {rows : List Ex} {d : Nat} (h : 0 < n) : s ∈ shs (loadT T n s rows d) := by
  unfold loadT
  split
  · rename_i h'
    rcases h' with h' | h'
    · omega
    · exact h'
  · simp
theorem loadT_last {T : Tbl} {n : Nat} {s : Int} {rows : List Ex} {d : Nat} (h : 0 < n) (hs : s ∉ shs T) : ∃ l, shs (loadT T n s rows d) = l ++ [s] := by
  unfold loadT
  rw [if_neg (by rintro (h' | h'); omega; exact hs h')]
  exact ⟨shs (if T.length = n then dropT T ((shs T).getD (d % T.length) 0) else T), by unfold shs; rw [List.map_append]; rfl⟩
set_option maxRecDepth 8000 in
set_option maxHeartbeats 4000000 in
theorem cacheRoom_one {ρ1 : Env} {cb n q : Nat} {T T' : Tbl} {D : Nat → Prop} {u : Value} {a : Ac} {w : World} {Q1 : Exit → Env → World → Prop} {k1 k2 k3 k4 k5 k6 k7 k8 k9 k10 k11 k12 k13 k14 : Value} (W : World) (hn : n ≤ 20)
    (hT' : T' = loadT T n a.s a.rows a.d) (hq : w.heap[q]? = some (.cells a.cs.toArray 32 (0, 0))) (hc : CacheAt w D cb n T') (hu : OwnK 1 3 intC w 0 u (shs T')) (hs : I64 a.s) (q6 : ρ1 6 = .int .i64 (n : Int)) (q7 : ρ1 7 = ptr cb)
    (hgo : ∀ ρ w', Ext w w' → (∀ i, i = 5 ∨ i = 6 ∨ i = 7 ∨ i = 31 ∨ i = 32 ∨ i = 33 → ρ i = ρ1 i) → X Try.prog (binOp .add 3 (ρ 33) (.int .i64 1)) w' fun v w'' => Q1 .normal (upds ρ [(33, v), (124, v)]) w'') {K : Value → World → Prop} :
    B_law14_CacheRoom_c1 u w ρ1 K (ptr q) (.bool (decide (a.s ∈ shs T))) Q1 k1 k2 k3 k4 k5 k6 k7 k8 k9 k10 k11 k12 k13 k14 := by
  unfold B_law14_CacheRoom_c1
  rw [q6, q7]
  have hlen : (shs T').length = T'.length := List.length_map ..
  have hfit := hc.fits
  have kd := Keep.drew (fun _ => False) w
  have hcd := hc.ext kd
  have hqd : (drewW w).heap[q]? = some (.cells a.cs.toArray 32 (0, 0)) := hq
  have hrd := OwnK.rowK (by decide) intC_len (hu.ext kd)
  obtain ⟨au, cu, eu⟩ := hrd.slice
  refine ⟨Ext, Ext.frame, ?_⟩
  generalize drewW w = wd at kd hcd hqd hrd ⊢
  have ls : ∀ w', Ext wd w' → (Instr.loadAt 3 (.pointer (some ⟨q, 0 + 1, none⟩))).run Try.prog w' = .ok (.int .i64 a.s) w' := fun w' kk => run_loadAt agg_3 ((cell_blk (kk.get hqd)).trans rfl)
  rw [eu, XP_len_35, ← eu, XP_gtr, hlen]
  have c0 : decide ((T'.length : Int) > (n : Int)) = false := decide_eq_false (by omega)
  have tail : ∀ v74 : Value, v74 = .bool false → ∀ ρ' : Env, ρ' 12 = u → (∀ i, i = 5 ∨ i = 6 ∨ i = 7 ∨ i = 31 ∨ i = 32 ∨ i = 33 → ρ' i = ρ1 i) → ρ' 106 = .int .i64 0 → ρ' 105 = .int .i64 (T'.length : Int) →
    loopS (fun Q2 ρ2 w115 => X Try.prog (binOp .lss 3 (ρ2 106) (ρ2 105)) w115 fun v76_107 w116 => condS v76_107 (
      loopS (fun Q3 ρ3 w117 => X Try.prog (binOp .lss 3 (ρ3 110) (ρ3 109)) w117 fun v77_111 w118 => condS v77_111 (
        ∃ R, Frame? R ∧ XP Try.prog (Instr.indexAt 35 (ρ3 12) (ρ3 13)) (drewW w118) fun v78_115 w119 => XR Try.prog R (Instr.loadAt 3 v78_115) w119 fun v79_116 w120 => XP Try.prog (Instr.indexAt 35 (ρ3 12) (ρ3 110)) w120 fun v80_119 w121 => XR Try.prog R (Instr.loadAt 3 v80_119) w121 fun v81_120 w122 => XP Try.prog (binOpG .eql 3 (.tmp 116) (.tmp 120) v79_116 v81_120) w122 fun v82_121 w123 => condS v82_121 (
          Q3 .ret (upds ρ3 [(4, (.bool false)), (121, v82_121), (120, v81_120), (119, v80_119), (118, (ρ3 110)), (117, (ρ3 12)), (116, v79_116), (115, v78_115), (114, (ρ3 13)), (113, (ρ3 12)), (14, (ρ3 110)), (112, (ρ3 110)), (111, v77_111)]) w123) (
          X Try.prog (binOp .add 3 (ρ3 110) (.int .i64 1)) w123 fun v83_122 w124 => Q3 .normal (upds ρ3 [(110, v83_122), (122, v83_122), (121, v82_121), (120, v81_120), (119, v80_119), (118, (ρ3 110)), (117, (ρ3 12)), (116, v79_116), (115, v78_115), (114, (ρ3 13)), (113, (ρ3 12)), (14, (ρ3 110)), (112, (ρ3 110)), (111, v77_111)]) w124)) (
        Q3 (.exit 4) (upds ρ3 [(111, v77_111)]) w118)) (inBlockS 4 (inBlockS 3 (thenS (fun ρ4 w125 => X Try.prog (binOp .add 3 (ρ4 106) (.int .i64 1)) w125 fun v84_123 w126 => Q2 .normal (upds ρ4 [(106, v84_123), (123, v84_123)]) w126) Q2))) (upds ρ2 [(110, (.int .i64 0)), (109, (ρ2 106)), (13, (ρ2 106)), (108, (ρ2 106)), (107, v76_107)]) w116) (
      Q2 (.exit 2) (upds ρ2 [(107, v76_107)]) w116)) (inBlockS 2 (inBlockS 1 (thenS (fun ρ5 w127 => X Try.prog (binOp .add 3 (ρ5 33) (.int .i64 1)) w127 fun v85_124 w128 => Q1 .normal (upds ρ5 [(33, v85_124), (124, v85_124)]) w128) Q1))) ρ' wd := by
    intro v74 _ ρ' p12 prest p106 p105
    have hnd := hc.nodup
    refine loopG 2 (fun ρ wr => ∃ i : Nat, i ≤ T'.length ∧ Ext wd wr ∧ ρ 106 = .int .i64 (i : Int) ∧ ρ 105 = .int .i64 (T'.length : Int) ∧ ρ 12 = u ∧ (∀ i, i = 5 ∨ i = 6 ∨ i = 7 ∨ i = 31 ∨ i = 32 ∨ i = 33 → ρ i = ρ1 i))
      (fun ρ wr => match ρ 106 with | .int _ s => (T'.length - s).toNat | _ => 0)
      (fun ρ wr => Ext wd wr ∧ (∀ i, i = 5 ∨ i = 6 ∨ i = 7 ∨ i = 31 ∨ i = 32 ∨ i = 33 → ρ i = ρ1 i)) ?_ ?_ ?_
    · exact ⟨0, by omega, Keep.refl _ _, p106, p105, p12, prest⟩
    · rintro J hJ ρ wr ⟨i, hi, hx, r106, r105, r12, rrest⟩
      rw [r106, r105, X_lss, condS_bool]
      by_cases hie : i = T'.length
      · rw [if_neg (by simp; omega)]
        refine hJ _ _ ⟨hx, fun j hj => ?_⟩
        have := rrest j hj
        rcases hj with rfl | rfl | rfl | rfl | rfl | rfl <;> exact this
      rw [if_pos (by simp; omega)]
      have hlt : i < (shs T').length := by omega
      refine loopG 4 (fun ρ3 w3 => ∃ k : Nat, k ≤ i ∧ Ext wd w3 ∧ ρ3 110 = .int .i64 (k : Int) ∧ ρ3 109 = .int .i64 (i : Int) ∧ ρ3 13 = .int .i64 (i : Int) ∧ ρ3 12 = u ∧ ρ3 106 = .int .i64 (i : Int) ∧ ρ3 105 = .int .i64 (T'.length : Int) ∧ (∀ i, i = 5 ∨ i = 6 ∨ i = 7 ∨ i = 31 ∨ i = 32 ∨ i = 33 → ρ3 i = ρ1 i))
        (fun ρ3 w3 => match ρ3 110 with | .int _ s => (i - s).toNat | _ => 0)
        (fun ρ3 w3 => Ext wd w3 ∧ ρ3 12 = u ∧ ρ3 106 = .int .i64 (i : Int) ∧ ρ3 105 = .int .i64 (T'.length : Int) ∧ (∀ i, i = 5 ∨ i = 6 ∨ i = 7 ∨ i = 31 ∨ i = 32 ∨ i = 33 → ρ3 i = ρ1 i)) ?_ ?_ ?_
      · refine ⟨0, by omega, hx, rfl, rfl, rfl, r12, r106, r105, fun j hj => ?_⟩
        have := rrest j hj
        rcases hj with rfl | rfl | rfl | rfl | rfl | rfl <;> exact this
      · rintro J3 hJ3 ρ3 w3 ⟨k, hk, hx3, s110, s109, s13, s12, s106, s105, srest⟩
        rw [s110, s109, X_lss, condS_bool]
        have keep : ∀ (l : List (Nat × Value)), (∀ j, j = 5 ∨ j = 6 ∨ j = 7 ∨ j = 31 ∨ j = 32 ∨ j = 33 → upds ρ3 l j = ρ3 j) → ∀ j, j = 5 ∨ j = 6 ∨ j = 7 ∨ j = 31 ∨ j = 32 ∨ j = 33 → upds ρ3 l j = ρ1 j := fun l h j hj => (h j hj).trans (srest j hj)
        by_cases hke : k = i
        · rw [if_neg (by simp; omega)]
          exact hJ3 _ _ ⟨hx3, s12, s106, s105, keep _ (by intro j hj; rcases hj with rfl | rfl | rfl | rfl | rfl | rfl <;> rfl)⟩
        rw [if_pos (by simp; omega)]
        have hklt : k < (shs T').length := by omega
        have hxd := hx3.trans (Keep.drew (fun _ => False) w3)
        refine ⟨Ext, Ext.frame, ?_⟩
        generalize drewW w3 = we at hxd ⊢
        obtain ⟨g, hix, hcg, _⟩ := int_at (hrd.ext hxd) hlt
        obtain ⟨g2, hix2, hcg2, _⟩ := int_at (hrd.ext hxd) hklt
        rw [s12, s13]
        refine XP_of hix ?_
        refine XR_ok Ext.frame (fun w' kk => run_loadAt agg_3 (kk.cell (fun h => h) hcg)) ?_
        refine XP_of hix2 ?_
        refine XR_ok Ext.frame (fun w' kk => run_loadAt agg_3 (kk.cell (fun h => h) hcg2)) ?_
        have hne : (shs T')[i] ≠ (shs T')[k] := fun he => by
          have := (List.getElem_inj hnd).1 he
          omega
        rw [XP_eql, condS_bool, if_neg (by simpa using hne), X_add]
        show _ ∧ _
        refine ⟨⟨k + 1, by omega, hxd, next64 (n := 1000) (by decide) (by omega), s109, s13, s12, s106, s105, keep _ (by intro j hj; rcases hj with rfl | rfl | rfl | rfl | rfl | rfl <;> rfl)⟩, ?_⟩
        show (_ - IntKind.i64.wrap _).toNat < _
        rw [w64 (by omega) (by omega)]
        first | omega | (show _ < (_ : Int).toNat; omega)
      · rintro ρ4 w4 ⟨hx4, s12, s106, s105, srest⟩
        show X _ (binOp .add 3 (ρ4 106) _) _ _
        rw [s106, X_add]
        show _ ∧ _
        refine ⟨⟨i + 1, by omega, hx4, next64 (n := 1000) (by decide) (by omega), s105, s12, fun j hj => ?_⟩, ?_⟩
        · have := srest j hj
          rcases hj with rfl | rfl | rfl | rfl | rfl | rfl <;> exact this
        · show (_ - IntKind.i64.wrap _).toNat < _
          rw [w64 (by omega) (by omega)]
          first | omega | (show _ < (_ : Int).toNat; omega)
    · rintro ρ wr ⟨hx, rrest⟩
      exact hgo ρ wr (kd.trans hx) rrest
  have fin : ∀ ρ' : Env, ρ' 12 = u → (∀ i, i = 5 ∨ i = 6 ∨ i = 7 ∨ i = 31 ∨ i = 32 ∨ i = 33 → ρ' i = ρ1 i) → True := fun _ _ _ => trivial
  by_cases hn0 : n = 0
  · have c1 : decide ((n : Int) > 0) = false := decide_eq_false (by omega)
    (repeat (first | with_reducible (first | refine Eq.mpr (B_law14_CacheRoom_c2.eq_1 ..) ?_) | simp only [XP_extract0, XP_extract1, XP_extract2, XP_extract3, X_extract0, X_extract1, X_extract2, X_extract3, X_nilS, X_eql_nil_24, X_neq_nil_24, X_eql_nil_103, X_neq_nil_103, X_eql, X_neq, X_lss, X_leq, X_gtr, X_geq, X_not, X_min, X_max, X_len_79, X_len_35, XP_nilS, XP_eql, XP_neq, XP_lss, XP_leq, XP_gtr, XP_geq, XP_not, XP_min, XP_max, XP_len_79, XP_eql_nil_24, X_str_eql, X_str_neq, XP_str_eql, XP_str_neq, GS, gs_u, decide_true, decide_false, Option.isNone_some, Option.isSome_some, Option.isNone_none, Option.isSome_none, eq_self, Bool.not_true, Bool.not_false, Int.reduceEq, Int.reduceNe, Int.reduceLT, Int.reduceLE, Int.reduceGT, Int.reduceGE, c0, c1]))
    rw [eu, X_len_35, ← eu, hlen]
    exact tail _ rfl _ rfl (by intro j hj; rcases hj with rfl | rfl | rfl | rfl | rfl | rfl <;> rfl) rfl rfl
  have c1 : decide ((n : Int) > 0) = true := decide_eq_true (by omega)
  have hin : a.s ∈ shs T' := by rw [hT']; exact loadT_in (by omega)
  (repeat (first | with_reducible (first | refine Eq.mpr (B_law14_CacheRoom_c2.eq_1 ..) ?_) | simp only [XP_extract0, XP_extract1, XP_extract2, XP_extract3, X_extract0, X_extract1, X_extract2, X_extract3, X_nilS, X_eql_nil_24, X_neq_nil_24, X_eql_nil_103, X_neq_nil_103, X_eql, X_neq, X_lss, X_leq, X_gtr, X_geq, X_not, X_min, X_max, X_len_79, X_len_35, XP_nilS, XP_eql, XP_neq, XP_lss, XP_leq, XP_gtr, XP_geq, XP_not, XP_min, XP_max, XP_len_79, XP_eql_nil_24, X_str_eql, X_str_neq, XP_str_eql, XP_str_neq, GS, gs_u, decide_true, decide_false, Option.isNone_some, Option.isSome_some, Option.isNone_none, Option.isSome_none, eq_self, Bool.not_true, Bool.not_false, Int.reduceEq, Int.reduceNe, Int.reduceLT, Int.reduceLE, Int.reduceGT, Int.reduceGE, c0, c1, XP_field_32_1]))
  refine XR_ok Ext.frame ls ?_
  (repeat (first | with_reducible (first | refine Eq.mpr (B_law14_CacheRoom_c2.eq_1 ..) ?_) | simp only [XP_extract0, XP_extract1, XP_extract2, XP_extract3, X_extract0, X_extract1, X_extract2, X_extract3, X_nilS, X_eql_nil_24, X_neq_nil_24, X_eql_nil_103, X_neq_nil_103, X_eql, X_neq, X_lss, X_leq, X_gtr, X_geq, X_not, X_min, X_max, X_len_79, X_len_35, XP_nilS, XP_eql, XP_neq, XP_lss, XP_leq, XP_gtr, XP_geq, XP_not, XP_min, XP_max, XP_len_79, XP_eql_nil_24, X_str_eql, X_str_neq, XP_str_eql, XP_str_neq, GS, gs_u, decide_true, decide_false, Option.isNone_some, Option.isSome_some, Option.isNone_none, Option.isSome_none, eq_self, Bool.not_true, Bool.not_false, Int.reduceEq, Int.reduceNe, Int.reduceLT, Int.reduceLE, Int.reduceGT, Int.reduceGE, c0, c1]))
  refine Has_spec hcd hs ?_
  have c2 : decide (a.s ∈ shs T') = true := decide_eq_true hin
  by_cases hhad : a.s ∈ shs T
  · have c3 : decide (a.s ∈ shs T) = true := decide_eq_true hhad
    (repeat (first | with_reducible (first | refine Eq.mpr (B_law14_CacheRoom_c2.eq_1 ..) ?_) | simp only [XP_extract0, XP_extract1, XP_extract2, XP_extract3, X_extract0, X_extract1, X_extract2, X_extract3, X_nilS, X_eql_nil_24, X_neq_nil_24, X_eql_nil_103, X_neq_nil_103, X_eql, X_neq, X_lss, X_leq, X_gtr, X_geq, X_not, X_min, X_max, X_len_79, X_len_35, XP_nilS, XP_eql, XP_neq, XP_lss, XP_leq, XP_gtr, XP_geq, XP_not, XP_min, XP_max, XP_len_79, XP_eql_nil_24, X_str_eql, X_str_neq, XP_str_eql, XP_str_neq, GS, gs_u, decide_true, decide_false, Option.isNone_some, Option.isSome_some, Option.isNone_none, Option.isSome_none, eq_self, Bool.not_true, Bool.not_false, Int.reduceEq, Int.reduceNe, Int.reduceLT, Int.reduceLE, Int.reduceGT, Int.reduceGE, c0, c1, c2, c3]))
    rw [eu, X_len_35, ← eu, hlen]
    exact tail _ rfl _ rfl (by intro j hj; rcases hj with rfl | rfl | rfl | rfl | rfl | rfl <;> rfl) rfl rfl
  have c3 : decide (a.s ∈ shs T) = false := decide_eq_false hhad
  obtain ⟨l, hl⟩ := loadT_last (T := T) (n := n) (s := a.s) (rows := a.rows) (d := a.d) (by omega) hhad
  rw [← hT'] at hl
  have hll : (shs T').length = l.length + 1 := by rw [hl]; simp
  have c4 : decide ((T'.length : Int) = 0) = false := decide_eq_false (by omega)
  (repeat (first | with_reducible (first | refine Eq.mpr (B_law14_CacheRoom_c2.eq_1 ..) ?_) | simp only [XP_extract0, XP_extract1, XP_extract2, XP_extract3, X_extract0, X_extract1, X_extract2, X_extract3, X_nilS, X_eql_nil_24, X_neq_nil_24, X_eql_nil_103, X_neq_nil_103, X_eql, X_neq, X_lss, X_leq, X_gtr, X_geq, X_not, X_min, X_max, X_len_79, X_len_35, XP_nilS, XP_eql, XP_neq, XP_lss, XP_leq, XP_gtr, XP_geq, XP_not, XP_min, XP_max, XP_len_79, XP_eql_nil_24, X_str_eql, X_str_neq, XP_str_eql, XP_str_neq, GS, gs_u, decide_true, decide_false, Option.isNone_some, Option.isSome_some, Option.isNone_none, Option.isSome_none, eq_self, Bool.not_true, Bool.not_false, Int.reduceEq, Int.reduceNe, Int.reduceLT, Int.reduceLE, Int.reduceGT, Int.reduceGE, c0, c1, c2, c3]))
  rw [eu, XP_len_35, ← eu, hlen]
  (repeat (first | with_reducible (first | refine Eq.mpr (B_law14_CacheRoom_c2.eq_1 ..) ?_) | simp only [XP_extract0, XP_extract1, XP_extract2, XP_extract3, X_extract0, X_extract1, X_extract2, X_extract3, X_nilS, X_eql_nil_24, X_neq_nil_24, X_eql_nil_103, X_neq_nil_103, X_eql, X_neq, X_lss, X_leq, X_gtr, X_geq, X_not, X_min, X_max, X_len_79, X_len_35, XP_nilS, XP_eql, XP_neq, XP_lss, XP_leq, XP_gtr, XP_geq, XP_not, XP_min, XP_max, XP_len_79, XP_eql_nil_24, X_str_eql, X_str_neq, XP_str_eql, XP_str_neq, GS, gs_u, decide_true, decide_false, Option.isNone_some, Option.isSome_some, Option.isNone_none, Option.isSome_none, eq_self, Bool.not_true, Bool.not_false, Int.reduceEq, Int.reduceNe, Int.reduceLT, Int.reduceLE, Int.reduceGT, Int.reduceGE, c4]))
  rw [eu, XP_len_35, ← eu, hlen]
  (repeat (first | with_reducible (first | refine Eq.mpr (B_law14_CacheRoom_c2.eq_1 ..) ?_) | simp only [XP_extract0, XP_extract1, XP_extract2, XP_extract3, X_extract0, X_extract1, X_extract2, X_extract3, X_nilS, X_eql_nil_24, X_neq_nil_24, X_eql_nil_103, X_neq_nil_103, X_eql, X_neq, X_lss, X_leq, X_gtr, X_geq, X_not, X_min, X_max, X_len_79, X_len_35, XP_nilS, XP_eql, XP_neq, XP_lss, XP_leq, XP_gtr, XP_geq, XP_not, XP_min, XP_max, XP_len_79, XP_eql_nil_24, X_str_eql, X_str_neq, XP_str_eql, XP_str_neq, GS, gs_u, decide_true, decide_false, Option.isNone_some, Option.isSome_some, Option.isNone_none, Option.isSome_none, eq_self, Bool.not_true, Bool.not_false, Int.reduceEq, Int.reduceNe, Int.reduceLT, Int.reduceLE, Int.reduceGT, Int.reduceGE, c4, XP_sub]))
  have ew : IntKind.i64.wrap ((T'.length : Int) - 1) = (l.length : Int) := by rw [w64 (by omega) (by omega)]; omega
  rw [ew]
  obtain ⟨g, hix, hcg, _⟩ := int_at (i := l.length) hrd (by omega)
  have hlast : (shs T')[l.length]'(by omega) = a.s := by
    have : (shs T')[l.length]? = some a.s := by rw [hl]; simp
    rw [List.getElem?_eq_getElem (by omega)] at this
    exact Option.some.inj this
  rw [hlast] at hcg
  refine XP_of hix ?_
  (repeat (first | with_reducible (first | refine Eq.mpr (B_law14_CacheRoom_c2.eq_1 ..) ?_) | simp only [XP_extract0, XP_extract1, XP_extract2, XP_extract3, X_extract0, X_extract1, X_extract2, X_extract3, X_nilS, X_eql_nil_24, X_neq_nil_24, X_eql_nil_103, X_neq_nil_103, X_eql, X_neq, X_lss, X_leq, X_gtr, X_geq, X_not, X_min, X_max, X_len_79, X_len_35, XP_nilS, XP_eql, XP_neq, XP_lss, XP_leq, XP_gtr, XP_geq, XP_not, XP_min, XP_max, XP_len_79, XP_eql_nil_24, X_str_eql, X_str_neq, XP_str_eql, XP_str_neq, GS, gs_u, decide_true, decide_false, Option.isNone_some, Option.isSome_some, Option.isNone_none, Option.isSome_none, eq_self, Bool.not_true, Bool.not_false, Int.reduceEq, Int.reduceNe, Int.reduceLT, Int.reduceLE, Int.reduceGT, Int.reduceGE, c4]))
  refine XR_ok Ext.frame (fun w' kk => run_loadAt agg_3 (kk.cell (fun h => h) hcg)) ?_
  (repeat (first | with_reducible (first | refine Eq.mpr (B_law14_CacheRoom_c2.eq_1 ..) ?_) | simp only [XP_extract0, XP_extract1, XP_extract2, XP_extract3, X_extract0, X_extract1, X_extract2, X_extract3, X_nilS, X_eql_nil_24, X_neq_nil_24, X_eql_nil_103, X_neq_nil_103, X_eql, X_neq, X_lss, X_leq, X_gtr, X_geq, X_not, X_min, X_max, X_len_79, X_len_35, XP_nilS, XP_eql, XP_neq, XP_lss, XP_leq, XP_gtr, XP_geq, XP_not, XP_min, XP_max, XP_len_79, XP_eql_nil_24, X_str_eql, X_str_neq, XP_str_eql, XP_str_neq, GS, gs_u, decide_true, decide_false, Option.isNone_some, Option.isSome_some, Option.isNone_none, Option.isSome_none, eq_self, Bool.not_true, Bool.not_false, Int.reduceEq, Int.reduceNe, Int.reduceLT, Int.reduceLE, Int.reduceGT, Int.reduceGE, XP_field_32_1]))
  refine XR_ok Ext.frame ls ?_
  have c5 : decide (a.s ≠ a.s) = false := by simp
  (repeat (first | with_reducible (first | refine Eq.mpr (B_law14_CacheRoom_c2.eq_1 ..) ?_) | simp only [XP_extract0, XP_extract1, XP_extract2, XP_extract3, X_extract0, X_extract1, X_extract2, X_extract3, X_nilS, X_eql_nil_24, X_neq_nil_24, X_eql_nil_103, X_neq_nil_103, X_eql, X_neq, X_lss, X_leq, X_gtr, X_geq, X_not, X_min, X_max, X_len_79, X_len_35, XP_nilS, XP_eql, XP_neq, XP_lss, XP_leq, XP_gtr, XP_geq, XP_not, XP_min, XP_max, XP_len_79, XP_eql_nil_24, X_str_eql, X_str_neq, XP_str_eql, XP_str_neq, GS, gs_u, decide_true, decide_false, Option.isNone_some, Option.isSome_some, Option.isNone_none, Option.isSome_none, eq_self, Bool.not_true, Bool.not_false, Int.reduceEq, Int.reduceNe, Int.reduceLT, Int.reduceLE, Int.reduceGT, Int.reduceGE, c5]))
  rw [eu, X_len_35, ← eu, hlen]
  exact tail _ rfl _ rfl (by intro j hj; rcases hj with rfl | rfl | rfl | rfl | rfl | rfl <;> rfl) rfl rfl
set_option maxRecDepth 8000 in
set_option maxHeartbeats 4000000 in
theorem cacheRoom_run {r : Nat} {va : Value} {l : List Ac} (hr : r < 256) (W : World) (hl : RowK 4 Ac.cs W va l) (hin : ∀ a ∈ l, a.In W) :
    CALL Try.prog 3 #[.int .u8 (r : Int), va] W (fun v w' => v = .bool true ∧ Ext W w') := by
  apply call_law14_CacheRoom
  unfold B_law14_CacheRoom
  refine shown14 ?_
  intro w1 hx1
  refine X_of (run_rem _ _ _ _ (by decide) _) ?_
  have er : (r : Int).tmod 21 = ((r % 21 : Nat) : Int) := by rw [Int.tmod_eq_emod_of_nonneg (by omega)]; rfl
  rw [er, X_conv_5_3, w64 (by omega) (by omega)]
  generalize hnn : r % 21 = n
  have hn2 : n ≤ 20 := by omega
  refine New_ok (room := n) (by omega) ?_
  intro cb w2 hx2 hc2
  have e0 : decide ((0 : Int) ≠ 0) = false := rfl
  have hx02 := hx1.trans hx2
  (repeat (first | with_reducible (first | refine Eq.mpr (B_law14_CacheRoom_c2.eq_1 ..) ?_) | simp only [XP_extract0, XP_extract1, XP_extract2, XP_extract3, X_extract0, X_extract1, X_extract2, X_extract3, X_nilS, X_eql_nil_24, X_neq_nil_24, X_eql_nil_103, X_neq_nil_103, X_eql, X_neq, X_lss, X_leq, X_gtr, X_geq, X_not, X_min, X_max, X_len_79, X_len_35, XP_nilS, XP_eql, XP_neq, XP_lss, XP_leq, XP_gtr, XP_geq, XP_not, XP_min, XP_max, XP_len_79, XP_eql_nil_24, X_str_eql, X_str_neq, XP_str_eql, XP_str_neq, GS, gs_u, decide_true, decide_false, Option.isNone_some, Option.isSome_some, Option.isNone_none, Option.isSome_none, eq_self, Bool.not_true, Bool.not_false, Int.reduceEq, Int.reduceNe, Int.reduceLT, Int.reduceLE, Int.reduceGT, Int.reduceGE, e0]))
  refine FewA_spec hl hx02 hin ?_
  intro m u hm1 hm2 hall hu
  have hin' : ∀ a ∈ l.take m, a.In W := fun a ha => hin a (List.mem_of_mem_take ha)
  generalize l.take m = acts at hall hu hin'
  obtain ⟨au, cu, eu⟩ := hu.slice
  have hal : acts.length ≤ 9223372036854775807 := by
    obtain ⟨_, c, _, g1, g2, _⟩ := hu
    omega
  rw [eu, X_len_22, ← eu]
  refine loopE (fun ρ wr => ∃ (i : Nat) (T : Tbl) (D : Nat → Prop), i ≤ acts.length ∧ Ext W wr ∧ CacheAt wr D cb n T ∧ (∀ g, D g → W.heap.size ≤ g) ∧ ρ 33 = .int .i64 (i : Int) ∧ ρ 32 = .int .i64 (acts.length : Int) ∧ ρ 31 = u ∧ ρ 7 = ptr cb ∧ ρ 6 = .int .i64 (n : Int) ∧ ρ 5 = .bool true)
    (fun ρ wr => match ρ 33 with | .int _ s => (acts.length - s).toNat | _ => 0)
    (fun ρ wr => Ext W wr ∧ ρ 5 = .bool true) ?_ ?_ ?_
  · exact ⟨0, [], _, by omega, hx02, hc2, fun g hg => by have := hx1.size; have := hg.1; omega, rfl, rfl, rfl, rfl, rfl, rfl⟩
  · rintro J hJ ρ wr ⟨i, T, D, hi, hx, hc, hD, r33, r32, r31, r7, r6, r5⟩
    rw [r33, r32, r31, X_lss, condS_bool]
    by_cases hie : i = acts.length
    · rw [if_neg (by simp; omega)]
      exact hJ _ _ ⟨hx, r5⟩
    rw [if_pos (by simp; omega)]
    have hlt : i < acts.length := by omega
    have hinA := hin' _ (List.getElem_mem hlt)
    have hsml := hall _ (List.getElem_mem hlt)
    unfold B_law14_CacheRoom_c2
    refine X_takeAct (hu.ext hx) hlt hinA ?_
    intro u1 u2 q w4 hx4 hq hqb
    generalize acts[i] = a at hinA hqb hsml
    have hx04 := hx.trans hx4
    have hc4 := hc.ext hx4
    have hqD : ¬ D q := fun h => by have := hc.lt q h; omega
    rw [r7]
    (repeat (first | with_reducible (first | refine Eq.mpr (B_law14_CacheRoom_c2.eq_1 ..) ?_) | simp only [XP_extract0, XP_extract1, XP_extract2, XP_extract3, X_extract0, X_extract1, X_extract2, X_extract3, X_nilS, X_eql_nil_24, X_neq_nil_24, X_eql_nil_103, X_neq_nil_103, X_eql, X_neq, X_lss, X_leq, X_gtr, X_geq, X_not, X_min, X_max, X_len_79, X_len_35, XP_nilS, XP_eql, XP_neq, XP_lss, XP_leq, XP_gtr, XP_geq, XP_not, XP_min, XP_max, XP_len_79, XP_eql_nil_24, X_str_eql, X_str_neq, XP_str_eql, XP_str_neq, GS, gs_u, decide_true, decide_false, Option.isNone_some, Option.isSome_some, Option.isNone_none, Option.isSome_none, eq_self, Bool.not_true, Bool.not_false, Int.reduceEq, Int.reduceNe, Int.reduceLT, Int.reduceLE, Int.reduceGT, Int.reduceGE, X_field_32_1]))
    refine X_of (run_loadAt (v := .int .i64 a.s) agg_3 ((cell_blk hqb).trans rfl)) ?_
    refine Has_spec hc4 hinA.i64 ?_
    (repeat (first | with_reducible (first | refine Eq.mpr (B_law14_CacheRoom_c2.eq_1 ..) ?_) | simp only [XP_extract0, XP_extract1, XP_extract2, XP_extract3, X_extract0, X_extract1, X_extract2, X_extract3, X_nilS, X_eql_nil_24, X_neq_nil_24, X_eql_nil_103, X_neq_nil_103, X_eql, X_neq, X_lss, X_leq, X_gtr, X_geq, X_not, X_min, X_max, X_len_79, X_len_35, XP_nilS, XP_eql, XP_neq, XP_lss, XP_leq, XP_gtr, XP_geq, XP_not, XP_min, XP_max, XP_len_79, XP_eql_nil_24, X_str_eql, X_str_neq, XP_str_eql, XP_str_neq, GS, gs_u, decide_true, decide_false, Option.isNone_some, Option.isSome_some, Option.isNone_none, Option.isSome_none, eq_self, Bool.not_true, Bool.not_false, Int.reduceEq, Int.reduceNe, Int.reduceLT, Int.reduceLE, Int.reduceGT, Int.reduceGE, X_field_32_0]))
    refine X_of (run_loadAt (v := .bool a.gone) agg_4 ((cell_blk hqb).trans rfl)) ?_
    cases hgone : a.gone with
    | true =>
      (repeat (first | with_reducible (first | refine Eq.mpr (B_law14_CacheRoom_c2.eq_1 ..) ?_) | simp only [XP_extract0, XP_extract1, XP_extract2, XP_extract3, X_extract0, X_extract1, X_extract2, X_extract3, X_nilS, X_eql_nil_24, X_neq_nil_24, X_eql_nil_103, X_neq_nil_103, X_eql, X_neq, X_lss, X_leq, X_gtr, X_geq, X_not, X_min, X_max, X_len_79, X_len_35, XP_nilS, XP_eql, XP_neq, XP_lss, XP_leq, XP_gtr, XP_geq, XP_not, XP_min, XP_max, XP_len_79, XP_eql_nil_24, X_str_eql, X_str_neq, XP_str_eql, XP_str_neq, GS, gs_u, decide_true, decide_false, Option.isNone_some, Option.isSome_some, Option.isNone_none, Option.isSome_none, eq_self, Bool.not_true, Bool.not_false, Int.reduceEq, Int.reduceNe, Int.reduceLT, Int.reduceLE, Int.reduceGT, Int.reduceGE, X_field_32_1]))
      refine X_of (run_loadAt (v := .int .i64 a.s) agg_3 ((cell_blk hqb).trans rfl)) ?_
      refine Drop_spec hc4 hinA.i64 ?_
      intro w5 hk5 hc5
      have hqb5 := hk5.get hqD hqb
      have eb : (decide (a.s ∈ shs T) != decide (a.s ∈ shs T)) = false := by simp
      have e2 : decide (a.s ∈ shs (dropT T a.s)) = false := decide_eq_false (fun h => (mem_drop.1 h).2 rfl)
      rw [X_neq_bool_4, eb]
      (repeat (first | with_reducible (first | refine Eq.mpr (B_law14_CacheRoom_c2.eq_1 ..) ?_) | simp only [XP_extract0, XP_extract1, XP_extract2, XP_extract3, X_extract0, X_extract1, X_extract2, X_extract3, X_nilS, X_eql_nil_24, X_neq_nil_24, X_eql_nil_103, X_neq_nil_103, X_eql, X_neq, X_lss, X_leq, X_gtr, X_geq, X_not, X_min, X_max, X_len_79, X_len_35, XP_nilS, XP_eql, XP_neq, XP_lss, XP_leq, XP_gtr, XP_geq, XP_not, XP_min, XP_max, XP_len_79, XP_eql_nil_24, X_str_eql, X_str_neq, XP_str_eql, XP_str_neq, GS, gs_u, decide_true, decide_false, Option.isNone_some, Option.isSome_some, Option.isNone_none, Option.isSome_none, eq_self, Bool.not_true, Bool.not_false, Int.reduceEq, Int.reduceNe, Int.reduceLT, Int.reduceLE, Int.reduceGT, Int.reduceGE, X_field_32_1]))
      refine X_of (run_loadAt (v := .int .i64 a.s) agg_3 ((cell_blk hqb5).trans rfl)) ?_
      (repeat (first | with_reducible (first | refine Eq.mpr (B_law14_CacheRoom_c2.eq_1 ..) ?_) | simp only [XP_extract0, XP_extract1, XP_extract2, XP_extract3, X_extract0, X_extract1, X_extract2, X_extract3, X_nilS, X_eql_nil_24, X_neq_nil_24, X_eql_nil_103, X_neq_nil_103, X_eql, X_neq, X_lss, X_leq, X_gtr, X_geq, X_not, X_min, X_max, X_len_79, X_len_35, XP_nilS, XP_eql, XP_neq, XP_lss, XP_leq, XP_gtr, XP_geq, XP_not, XP_min, XP_max, XP_len_79, XP_eql_nil_24, X_str_eql, X_str_neq, XP_str_eql, XP_str_neq, GS, gs_u, decide_true, decide_false, Option.isNone_some, Option.isSome_some, Option.isNone_none, Option.isSome_none, eq_self, Bool.not_true, Bool.not_false, Int.reduceEq, Int.reduceNe, Int.reduceLT, Int.reduceLE, Int.reduceGT, Int.reduceGE]))
      refine Has_spec hc5 hinA.i64 ?_
      (repeat (first | with_reducible (first | refine Eq.mpr (B_law14_CacheRoom_c2.eq_1 ..) ?_) | simp only [XP_extract0, XP_extract1, XP_extract2, XP_extract3, X_extract0, X_extract1, X_extract2, X_extract3, X_nilS, X_eql_nil_24, X_neq_nil_24, X_eql_nil_103, X_neq_nil_103, X_eql, X_neq, X_lss, X_leq, X_gtr, X_geq, X_not, X_min, X_max, X_len_79, X_len_35, XP_nilS, XP_eql, XP_neq, XP_lss, XP_leq, XP_gtr, XP_geq, XP_not, XP_min, XP_max, XP_len_79, XP_eql_nil_24, X_str_eql, X_str_neq, XP_str_eql, XP_str_neq, GS, gs_u, decide_true, decide_false, Option.isNone_some, Option.isSome_some, Option.isNone_none, Option.isSome_none, eq_self, Bool.not_true, Bool.not_false, Int.reduceEq, Int.reduceNe, Int.reduceLT, Int.reduceLE, Int.reduceGT, Int.reduceGE, e2]))
      rw [r33, X_add]
      show _ ∧ _
      refine ⟨⟨i + 1, _, D, by omega, Ext.seq hx04 hk5 hD, hc5, hD, ?_, r32, r31, r7, r6, r5⟩, ?_⟩
      · exact next64 (n := 9223372036854775806) (by decide) (by omega)
      · show (_ - IntKind.i64.wrap _).toNat < _
        rw [w64 (by omega) (by omega)]
        first | omega | (show _ < (_ : Int).toNat; omega)
    | false =>
      (repeat (first | with_reducible (first | refine Eq.mpr (B_law14_CacheRoom_c2.eq_1 ..) ?_) | simp only [XP_extract0, XP_extract1, XP_extract2, XP_extract3, X_extract0, X_extract1, X_extract2, X_extract3, X_nilS, X_eql_nil_24, X_neq_nil_24, X_eql_nil_103, X_neq_nil_103, X_eql, X_neq, X_lss, X_leq, X_gtr, X_geq, X_not, X_min, X_max, X_len_79, X_len_35, XP_nilS, XP_eql, XP_neq, XP_lss, XP_leq, XP_gtr, XP_geq, XP_not, XP_min, XP_max, XP_len_79, XP_eql_nil_24, X_str_eql, X_str_neq, XP_str_eql, XP_str_neq, GS, gs_u, decide_true, decide_false, Option.isNone_some, Option.isSome_some, Option.isNone_none, Option.isSome_none, eq_self, Bool.not_true, Bool.not_false, Int.reduceEq, Int.reduceNe, Int.reduceLT, Int.reduceLE, Int.reduceGT, Int.reduceGE, X_field_32_1]))
      refine X_of (run_loadAt (v := .int .i64 a.s) agg_3 ((cell_blk hqb).trans rfl)) ?_
      rw [X_field_32_2]
      refine X_of (run_loadAt (v := a.v) agg_29 ((cell_blk hqb).trans rfl)) ?_
      rw [X_field_32_3]
      refine X_of (run_loadAt (v := .int .u64 (a.d : Int)) agg_30 ((cell_blk hqb).trans rfl)) ?_
      refine Load_spec hc4 hinA.i64 (hinA.row.ext hx04) (by omega) hinA.u64 (fun h0 g hg hgD => ?_) ?_
      · have h1 := hinA.row.blk_lt h0 (fun x _ => by rw [Ex.cs_len]; omega) g hg
        have := hD g hgD
        omega
      intro w5 hk5 hc5
      have hqb5 := hk5.get hqD hqb
      have hx05 : Ext W w5 := Ext.seq hx04 hk5 hD
      have hD5 : ∀ g, (D g ∨ (w4.heap.size ≤ g ∧ g < w5.heap.size)) → W.heap.size ≤ g := by
        rintro g (hg | hg)
        · exact hD g hg
        · have := hx04.size
          omega
      refine Shelves_spec hc5 ?_
      intro u6 w6 hx6 ho6
      have hc6 := hc5.ext hx6
      refine cacheRoom_one W hn2 rfl (hx6.get hqb5) hc6 (own_mono ho6 (Nat.zero_le _)) hinA.i64 r6 r7 ?_
      intro ρ' w7 hx7 hsame
      rw [hsame 33 (by omega), r33, X_add]
      show _ ∧ _
      refine ⟨⟨i + 1, _, _, by omega, (hx05.trans hx6).trans hx7, hc6.ext hx7, hD5, ?_, (hsame 32 (by omega)).trans r32, (hsame 31 (by omega)).trans r31, (hsame 7 (by omega)).trans r7, (hsame 6 (by omega)).trans r6, (hsame 5 (by omega)).trans r5⟩, ?_⟩
      · exact next64 (n := 9223372036854775806) (by decide) (by omega)
      · show (_ - IntKind.i64.wrap _).toNat < _
        rw [w64 (by omega) (by omega)]
        first | omega | (show _ < (_ : Int).toNat; omega)
  · rintro ρ wr ⟨hx, r5⟩
    show ρ 5 = _ ∧ _
    exact ⟨r5, hx⟩
theorem cacheRoom_walk {H : Type} (enc : TypeId × Value → H) (W : World) (v0 v1 : Value) {base : Nat} (ok0 : Value.okWide Try.prog W .any base 5 v0) (ok1 : Value.okWide Try.prog W .any base 22 v1) (d0 : DataW H) (p0 : List MemPlace) (d1 : DataW H) (p1 : List MemPlace) (h0 : DataW.Trod enc Try.prog W 0 (fun _ => true) true 5 v0 d0 p0) (h1 : DataW.Trod enc Try.prog W 0 (fun _ => true) true 22 v1 d1 p1) (hsz : (DataW.weightsEach Try.prog [5, 22] [d0, d1]).all (· ≤ reachBytes) = true) :
    CALL Try.prog 3 #[v0, v1] W (fun v w' => v = .bool true ∧ Ext W w') := by
  obtain ⟨r, rfl, hr⟩ := arg_u8 Try.underlying5 ok0 h0
  obtain ⟨l, hl, hin⟩ := arg_acts ok1 h1
  exact cacheRoom_run hr W hl hin
end
set_option maxRecDepth 100000 in
theorem cacheRoom_lifted (os : Os) (started : os.Started) (H : Type) (enc : TypeId × Value → H) :
    ReturnsInHanded {} Try.checked os 3 .any (Rows.cacheRoomSpec.pre6 enc Try.prog Try.f3 Rows.cacheRoomRow.domain false) (Rows.cacheRoomSpec.post enc Try.prog Try.f3 false true false false) := by
  refine returnsInHanded_of_change_sized (C := Try.checked) (by kernel_rfl) started (by kernel_rfl) Try.func3
    (ChangeSpec.witness6 (enc := enc) (C := Try.checked) false ⟨#[], #[(.int .u8 0), (.slice none 0 0)], []⟩ 8 (by kernel_rfl) (by kernel_rfl) (by kernel_rfl) (by kernel_rfl)) ?_
  intro W base args ds gs before hval0 hW hcnd hsz0 _
  have hval : ∀ (j : Nat) t v, Try.f3.params[j]? = some t → args[j]? = some v → Value.okWide Try.prog W .any base t v := hval0
  have hW' := hW
  obtain ⟨p, q, hA0, hV, rfl, hfz, hnd⟩ := hW
  have hA : DataW.TrodAll enc Try.prog W 0 (fun _ => true) true Try.f3.params.toList args.toList ds p := hA0
  rw [Try.params3] at hA hval
  obtain ⟨v0, vs0, d0, ds0, p0, q0, hargs, rfl, rfl, h0, r0⟩ := trodAll_cons hA
  obtain ⟨v1, vs1, d1, ds1, p1, q1, rfl, rfl, rfl, h1, r1⟩ := trodAll_cons r0
  obtain ⟨rfl, rfl, rfl⟩ := trodAll_nil r1
  obtain rfl : args = #[v0, v1] := by cases args; simp_all
  obtain ⟨rfl, rfl⟩ := trodVars_none hV
  have hsz : (DataW.weightsEach Try.prog [5, 22] [d0, d1]).all (· ≤ reachBytes) = true := hsz0
  have hw := cacheRoom_walk enc W v0 v1 (hval 0 5 v0 rfl rfl) (hval 1 22 v1 rfl rfl) d0 p0 d1 p1 h0 h1 hsz
  refine (CALL_calls hw).mono fun e W' he => ?_
  cases e with
  | returned v =>
    obtain ⟨rfl, hx⟩ := he
    exact ⟨_, rfl, law_post (P := Try.prog) laidOut (by kernel_rfl) rfl rfl rfl Try.underlying4 hW' hx⟩
  | panicked c => exact he.elim
  | outgrown => exact he.elim

theorem cacheRoom_closed : joinedFacts Try.prog 3 Try.f3 Rows.cacheRoomSpec Rows.cacheRoomRow = true := by
  unfold joinedFacts
  rw [mayEnter_is, liftsFinal_is, make_is]
  kernel_rfl
/-- For every input that the row lets in, cellarage/cellaragelaw14.CacheRoom returns true, and what was there stays as it was. -/
theorem cacheRoom_holds : Rows.CacheRoomSaid :=
  OpenClaim.holds_of_wide 3 Try.f3 rfl rfl rfl rfl rfl rfl rfl ⟨rfl, rfl, rfl, rfl, rfl⟩ rfl rfl rfl rfl rfl (by kernel_rfl) Try.func3 cacheRoom_closed
    (of_decide_eq_true (by kernel_rfl)) (by unfold Func.isWrapper; first | (rw [if_pos (by decide +kernel)]; kernel_rfl) | (rw [if_neg (by decide +kernel)]; exact ⟨rfl, rfl⟩))
    (fun os started H enc _ => cacheRoom_lifted os started H enc)
#print axioms cacheRoom_holds
end Go.Proofs.Ytlnkdphecinnnaa
