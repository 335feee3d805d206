/- cellaragelaw14.CacheDrawn: where there is no room the shelf that is drawn goes, and no other one. -/
import Derived.Test.YtlnkdphecinnnaaQPA7
set_option linter.unusedVariables false
set_option linter.unusedSimpArgs false
set_option linter.constructorNameAsVariable false
namespace Go.Proofs.Ytlnkdphecinnnaa
open Go Go.Sh Go.RowKit Go.ChangeShapes Go.WideShapes Go.ChangeAt
open Go.Proofs.Ytlnkdphecinnnaa
section
attribute [local irreducible] X XU XP XR CALL loopS resC closS Value.okWide
set_option maxHeartbeats 2000000 in
theorem cacheDrawn_tail {ρ3 : Env} {cb n : Nat} {s : Int} {d : Nat} {u : Value} {v22 : Value} {w : World} {T : Tbl} {D : Nat → Prop} (W : World) (hn : n ≤ 20) (hn1 : 0 < n) (hs : I64 s) (hd : d < 18446744073709551616) (hxw : Ext W w) (hf : T.length ≤ n) (hnd : (shs T).Nodup) (hc : CacheAt w D cb n (loadT T n s [] d))
    (hwas : OwnK 1 3 intC w 0 u (shs T)) (hub : ∀ g, u.ownBlock = some g → W.heap.size ≤ g) (q9 : ρ3 9 = .bool true) (q11 : ρ3 11 = ptr cb) (q2 : ρ3 2 = .int .i64 s) (q3 : ρ3 3 = .int .u64 (d : Int)) (q10 : ρ3 10 = .int .i64 (n : Int)) :
    B_law14_CacheDrawn_c1 ρ3 w (.bool (decide (s ∈ shs T))) (fun v w' => v = .bool true ∧ Ext W w') u v22 := by
  have hlT : (shs T).length = T.length := List.length_map ..
  unfold B_law14_CacheDrawn_c1
  rw [q11, q9, q3, q10]
  refine Shelves_spec hc ?_
  intro u1 w1 hx1 ho1
  have hx01 := hxw.trans hx1
  have hr1 := OwnK.rowK (by decide) intC_len ho1
  have hw1 := hwas.ext hx1
  have hrw1 := OwnK.rowK (by decide) intC_len hw1
  by_cases hin : s ∈ shs T
  · have c : decide (s ∈ shs T) = true := decide_eq_true hin
    have e : loadT T n s [] d = T := if_pos (.inr hin)
    rw [e] at hr1
    (repeat (first | with_reducible (first | refine Eq.mpr (B_law14_CacheDrawn_c2.eq_1 ..) ?_) | simp only [XP_extract0, XP_extract1, XP_extract2, XP_extract3, X_extract0, X_extract1, X_extract2, X_extract3, X_nilS, X_eql_nil_24, X_neq_nil_24, X_eql_nil_103, X_neq_nil_103, X_eql, X_neq, X_lss, X_leq, X_gtr, X_geq, X_not, X_min, X_max, X_len_79, X_len_35, XP_nilS, XP_eql, XP_neq, XP_lss, XP_leq, XP_gtr, XP_geq, XP_not, XP_min, XP_max, XP_len_79, XP_eql_nil_24, X_str_eql, X_str_neq, XP_str_eql, XP_str_neq, GS, gs_u, decide_true, decide_false, Option.isNone_some, Option.isSome_some, Option.isNone_none, Option.isSome_none, eq_self, Bool.not_true, Bool.not_false, Int.reduceEq, Int.reduceNe, Int.reduceLT, Int.reduceLE, Int.reduceGT, Int.reduceGE, c]))
    refine SameI_spec hr1 hrw1 (by omega) ?_
    intro w2 hx2
    have e2 : decide (shs T = shs T) = true := decide_eq_true rfl
    (repeat (first | with_reducible (first | refine Eq.mpr (B_law14_CacheDrawn_c2.eq_1 ..) ?_) | simp only [XP_extract0, XP_extract1, XP_extract2, XP_extract3, X_extract0, X_extract1, X_extract2, X_extract3, X_nilS, X_eql_nil_24, X_neq_nil_24, X_eql_nil_103, X_neq_nil_103, X_eql, X_neq, X_lss, X_leq, X_gtr, X_geq, X_not, X_min, X_max, X_len_79, X_len_35, XP_nilS, XP_eql, XP_neq, XP_lss, XP_leq, XP_gtr, XP_geq, XP_not, XP_min, XP_max, XP_len_79, XP_eql_nil_24, X_str_eql, X_str_neq, XP_str_eql, XP_str_neq, GS, gs_u, decide_true, decide_false, Option.isNone_some, Option.isSome_some, Option.isNone_none, Option.isSome_none, eq_self, Bool.not_true, Bool.not_false, Int.reduceEq, Int.reduceNe, Int.reduceLT, Int.reduceLE, Int.reduceGT, Int.reduceGE, e2]))
    exact ⟨trivial, hx01.trans hx2⟩
  have c : decide (s ∈ shs T) = false := decide_eq_false hin
  have e : loadT T n s [] d = (if T.length = n then dropT T ((shs T).getD (d % T.length) 0) else T) ++ [(s, [])] := if_neg (by rintro (h | h); omega; exact hin h)
  rw [e] at hr1
  rw [c, cs_f]
  refine joinS_of (fun ρ4 w4 => ∃ (l : List Int) (vo : Value), shs ((if T.length = n then dropT T ((shs T).getD (d % T.length) 0) else T) ++ [(s, [])]) = l ++ [s] ∧ Ext W w4 ∧ Ext w1 w4 ∧ OwnK 1 3 intC w4 0 vo l ∧ (∀ g, vo.ownBlock = some g → W.heap.size ≤ g ∧ u1.ownBlock ≠ some g) ∧ l.length ≤ 1000 ∧ ρ4 9 = .bool true ∧ ρ4 16 = u1 ∧ ρ4 14 = vo ∧ ρ4 2 = .int .i64 s) ?_ ?_
  · rintro ρ4 w4 ⟨l, vo, hl, hx4, hx14, ho4, hob, hl1, p9, p16, p14, p2⟩
    rw [p9, p16, p14, p2]
    rw [hl] at hr1
    (repeat (first | with_reducible (first | refine Eq.mpr (B_law14_CacheDrawn_c2.eq_1 ..) ?_) | simp only [XP_extract0, XP_extract1, XP_extract2, XP_extract3, X_extract0, X_extract1, X_extract2, X_extract3, X_nilS, X_eql_nil_24, X_neq_nil_24, X_eql_nil_103, X_neq_nil_103, X_eql, X_neq, X_lss, X_leq, X_gtr, X_geq, X_not, X_min, X_max, X_len_79, X_len_35, XP_nilS, XP_eql, XP_neq, XP_lss, XP_leq, XP_gtr, XP_geq, XP_not, XP_min, XP_max, XP_len_79, XP_eql_nil_24, X_str_eql, X_str_neq, XP_str_eql, XP_str_neq, GS, gs_u, decide_true, decide_false, Option.isNone_some, Option.isSome_some, Option.isNone_none, Option.isSome_none, eq_self, Bool.not_true, Bool.not_false, Int.reduceEq, Int.reduceNe, Int.reduceLT, Int.reduceLE, Int.reduceGT, Int.reduceGE]))
    refine X_buildSlice1 Try.underlying35 el_3 rfl ?_
    have hx5 := newB_ext w4 #[Value.int .i64 s] 3
    have hrow5 : RowK 1 intC (newB w4 #[Value.int .i64 s] 3) (.slice (some ⟨w4.heap.size, 0, none⟩) 1 1) [s] := row_ints [s] 1 rfl (by decide)
    generalize newB w4 #[Value.int .i64 s] 3 = w5 at hx5 hrow5 ⊢
    (repeat (first | with_reducible (first | refine Eq.mpr (B_law14_CacheDrawn_c2.eq_1 ..) ?_) | simp only [XP_extract0, XP_extract1, XP_extract2, XP_extract3, X_extract0, X_extract1, X_extract2, X_extract3, X_nilS, X_eql_nil_24, X_neq_nil_24, X_eql_nil_103, X_neq_nil_103, X_eql, X_neq, X_lss, X_leq, X_gtr, X_geq, X_not, X_min, X_max, X_len_79, X_len_35, XP_nilS, XP_eql, XP_neq, XP_lss, XP_leq, XP_gtr, XP_geq, XP_not, XP_min, XP_max, XP_len_79, XP_eql_nil_24, X_str_eql, X_str_neq, XP_str_eql, XP_str_neq, GS, gs_u, decide_true, decide_false, Option.isNone_some, Option.isSome_some, Option.isNone_none, Option.isSome_none, eq_self, Bool.not_true, Bool.not_false, Int.reduceEq, Int.reduceNe, Int.reduceLT, Int.reduceLE, Int.reduceGT, Int.reduceGE]))
    refine X_appendK (base := 0) Try.underlying35 el_3 (by decide) intC_len (fun x hx u hu => by rw [List.mem_singleton.1 hu]; rfl) (ho4.ext hx5) hrow5 (by simp; omega) (by decide) (Nat.zero_le _) ?_
    intro v6 w6 ho6 hk6
    have hx6 : Ext W w6 := Ext.seq (hx4.trans hx5) hk6 (fun g hg => (hob g hg.symm).1)
    have hr6 := ((hr1.ext hx14).ext hx5).keep hk6 (fun _ g hg hgv => (hob g hgv.symm).2 hg)
    (repeat (first | with_reducible (first | refine Eq.mpr (B_law14_CacheDrawn_c2.eq_1 ..) ?_) | simp only [XP_extract0, XP_extract1, XP_extract2, XP_extract3, X_extract0, X_extract1, X_extract2, X_extract3, X_nilS, X_eql_nil_24, X_neq_nil_24, X_eql_nil_103, X_neq_nil_103, X_eql, X_neq, X_lss, X_leq, X_gtr, X_geq, X_not, X_min, X_max, X_len_79, X_len_35, XP_nilS, XP_eql, XP_neq, XP_lss, XP_leq, XP_gtr, XP_geq, XP_not, XP_min, XP_max, XP_len_79, XP_eql_nil_24, X_str_eql, X_str_neq, XP_str_eql, XP_str_neq, GS, gs_u, decide_true, decide_false, Option.isNone_some, Option.isSome_some, Option.isNone_none, Option.isSome_none, eq_self, Bool.not_true, Bool.not_false, Int.reduceEq, Int.reduceNe, Int.reduceLT, Int.reduceLE, Int.reduceGT, Int.reduceGE]))
    refine SameI_spec hr6 (OwnK.rowK (by decide) intC_len ho6) (by simp; omega) ?_
    intro w7 hx7
    have e2 : decide (l ++ [s] = l ++ [s]) = true := decide_eq_true rfl
    (repeat (first | with_reducible (first | refine Eq.mpr (B_law14_CacheDrawn_c2.eq_1 ..) ?_) | simp only [XP_extract0, XP_extract1, XP_extract2, XP_extract3, X_extract0, X_extract1, X_extract2, X_extract3, X_nilS, X_eql_nil_24, X_neq_nil_24, X_eql_nil_103, X_neq_nil_103, X_eql, X_neq, X_lss, X_leq, X_gtr, X_geq, X_not, X_min, X_max, X_len_79, X_len_35, XP_nilS, XP_eql, XP_neq, XP_lss, XP_leq, XP_gtr, XP_geq, XP_not, XP_min, XP_max, XP_len_79, XP_eql_nil_24, X_str_eql, X_str_neq, XP_str_eql, XP_str_neq, GS, gs_u, decide_true, decide_false, Option.isNone_some, Option.isSome_some, Option.isNone_none, Option.isSome_none, eq_self, Bool.not_true, Bool.not_false, Int.reduceEq, Int.reduceNe, Int.reduceLT, Int.reduceLE, Int.reduceGT, Int.reduceGE, e2]))
    exact ⟨trivial, hx6.trans hx7⟩
  · intro J hJ
    obtain ⟨au, cu, eu⟩ := hrw1.slice
    rw [eu, X_len_35, X_eql, ← eu, hlT]
    by_cases hfull : T.length = n
    case neg =>
      have c2 : decide ((T.length : Int) = (n : Int)) = false := decide_eq_false (by omega)
      (repeat (first | with_reducible (first | refine Eq.mpr (B_law14_CacheDrawn_c2.eq_1 ..) ?_) | simp only [XP_extract0, XP_extract1, XP_extract2, XP_extract3, X_extract0, X_extract1, X_extract2, X_extract3, X_nilS, X_eql_nil_24, X_neq_nil_24, X_eql_nil_103, X_neq_nil_103, X_eql, X_neq, X_lss, X_leq, X_gtr, X_geq, X_not, X_min, X_max, X_len_79, X_len_35, XP_nilS, XP_eql, XP_neq, XP_lss, XP_leq, XP_gtr, XP_geq, XP_not, XP_min, XP_max, XP_len_79, XP_eql_nil_24, X_str_eql, X_str_neq, XP_str_eql, XP_str_neq, GS, gs_u, decide_true, decide_false, Option.isNone_some, Option.isSome_some, Option.isNone_none, Option.isSome_none, eq_self, Bool.not_true, Bool.not_false, Int.reduceEq, Int.reduceNe, Int.reduceLT, Int.reduceLE, Int.reduceGT, Int.reduceGE, c2]))
      refine hJ _ _ ⟨shs T, u, ?_, hx01, Keep.refl _ _, hw1, fun g hg => ⟨hub g hg, fun he => ?_⟩, by omega, q9, rfl, rfl, q2⟩
      · rw [if_neg hfull]; simp
      · have h1 := (ho1.lt g he).1
        have h2 := (hwas.lt g hg).2
        omega
    have c2 : decide ((T.length : Int) = (n : Int)) = true := decide_eq_true (by omega)
    (repeat (first | with_reducible (first | refine Eq.mpr (B_law14_CacheDrawn_c2.eq_1 ..) ?_) | simp only [XP_extract0, XP_extract1, XP_extract2, XP_extract3, X_extract0, X_extract1, X_extract2, X_extract3, X_nilS, X_eql_nil_24, X_neq_nil_24, X_eql_nil_103, X_neq_nil_103, X_eql, X_neq, X_lss, X_leq, X_gtr, X_geq, X_not, X_min, X_max, X_len_79, X_len_35, XP_nilS, XP_eql, XP_neq, XP_lss, XP_leq, XP_gtr, XP_geq, XP_not, XP_min, XP_max, XP_len_79, XP_eql_nil_24, X_str_eql, X_str_neq, XP_str_eql, XP_str_neq, GS, gs_u, decide_true, decide_false, Option.isNone_some, Option.isSome_some, Option.isNone_none, Option.isSome_none, eq_self, Bool.not_true, Bool.not_false, Int.reduceEq, Int.reduceNe, Int.reduceLT, Int.reduceLE, Int.reduceGT, Int.reduceGE, c2]))
    have hpos : 0 < T.length := by omega
    have hmod : d % T.length < T.length := Nat.mod_lt _ hpos
    rw [X_conv_3_30, cwu (by omega)]
    refine X_of (run_rem _ _ _ _ (by omega) _) ?_
    have er : (d : Int).tmod (n : Int) = ((d % T.length : Nat) : Int) := by rw [Int.tmod_eq_emod_of_nonneg (by omega), hfull]; rfl
    rw [er, X_conv_30_3, w64 (x := ((d % T.length : Nat) : Int)) (by omega) (by omega)]
    have kd := Keep.drew (fun _ => False) w1
    have hrwd := hrw1.ext kd
    have hxd := hx01.trans kd
    have hsd : (drewW w1).heap.size = w1.heap.size := rfl
    refine ⟨Ext, Ext.frame, ?_⟩
    generalize drewW w1 = wd at kd hrwd hxd hsd ⊢
    obtain ⟨ua, hua, hra⟩ := ints_hi hrwd (d % T.length) (by omega)
    obtain ⟨ub, hub2, hrb⟩ := ints_lo hrwd (d % T.length + 1) (by omega)
    refine XP_of hua ?_
    rw [XP_add, w64 (x := ((d % T.length : Nat) : Int) + 1) (by omega) (by omega)]
    have e1 : (((d % T.length : Nat) : Int) + 1) = ((d % T.length + 1 : Nat) : Int) := by omega
    rw [e1]
    refine XP_of hub2 ?_
    refine X_of (emp35 wd) ?_
    have hx3 := newB_ext wd #[] 3
    have ho3 : OwnK 1 3 intC (newB wd #[] 3) wd.heap.size (.slice (some ⟨wd.heap.size, 0, none⟩) 0 0) [] := ownK_empty wd
    generalize newB wd #[] 3 = w3 at hx3 ho3 ⊢
    refine X_appendK Try.underlying35 el_3 (by decide) intC_len (fun x hx u hu => by rw [List.mem_singleton.1 hu]; rfl) ho3 (hra.ext hx3) (by simp; omega) (by decide) hx3.size ?_
    intro v4 w4 ho4 hk4
    rw [List.nil_append] at ho4
    have hx4 : Ext wd w4 := Ext.seq hx3 hk4 (fun g hg => (ho3.lt g hg.symm).1)
    refine X_appendK Try.underlying35 el_3 (by decide) intC_len (fun x hx u hu => by rw [List.mem_singleton.1 hu]; rfl) ho4 (hrb.ext hx4) (by simp; omega) (by decide) hx4.size ?_
    intro v5 w5 ho5 hk5
    have hx5 : Ext wd w5 := Ext.seq hx4 hk5 (fun g hg => (ho4.lt g hg.symm).1)
    have hlt : d % T.length < (shs T).length := by rw [hlT]; exact hmod
    have hgd : (shs T).getD (d % T.length) 0 = (shs T)[d % T.length] := by rw [List.getD_eq_getElem?_getD, List.getElem?_eq_getElem hlt]; rfl
    refine hJ _ _ ⟨_, v5, ?_, hxd.trans hx5, kd.trans hx5, own_mono ho5 (Nat.zero_le _), fun g hg => ⟨?_, fun he => ?_⟩, ?_, q9, rfl, rfl, q2⟩
    · rw [if_pos hfull]
      have e9 : shs (dropT T ((shs T).getD (d % T.length) 0) ++ [(s, [])]) = shs (dropT T ((shs T).getD (d % T.length) 0)) ++ [s] := by simp
      rw [e9, shs_drop, hgd]
      congr 1
      exact (drop_at id (shs T) (d % T.length) hlt (by simpa using hnd)).symm
    · have := (ho5.lt g hg).1
      have := hxd.size
      omega
    · have h1 := (ho5.lt g hg).1
      have h2 := (ho1.lt g he).2
      omega
    · simp
      omega
set_option maxRecDepth 8000 in
set_option maxHeartbeats 2000000 in
theorem cacheDrawn_run {r : Nat} {vf : Value} {fs : List Int} {s : Int} {d : Nat} (hr : r < 256) (hs : I64 s) (hd : d < 18446744073709551616) (W : World) (hf : RowK 1 intC W vf fs) (hfi : ∀ x ∈ fs, I64 x) :
    CALL Try.prog 4 #[.int .u8 (r : Int), vf, .int .i64 s, .int .u64 (d : Int)] W (fun v w' => v = .bool true ∧ Ext W w') := by
  apply call_law14_CacheDrawn
  unfold B_law14_CacheDrawn
  refine shown14 ?_
  intro w1 hx1
  refine X_of (run_rem _ _ _ _ (by decide) _) ?_
  have er : (r : Int).tmod 20 = ((r % 20 : Nat) : Int) := by rw [Int.tmod_eq_emod_of_nonneg (by omega)]; rfl
  rw [er]
  unfold B_law14_CacheDrawn_c2
  rw [X_conv_5_3, w64 (by omega) (by omega), X_add, w64 (by omega) (by omega)]
  have en : ((r % 20 : Nat) : Int) + 1 = ((r % 20 + 1 : Nat) : Int) := by omega
  rw [en]
  generalize hnn : r % 20 + 1 = n
  have hn1 : 0 < n := by omega
  have hn2 : n ≤ 20 := by omega
  refine New_ok (room := n) (by omega) ?_
  intro cb w2 hx2 hc2
  have e0 : decide ((0 : Int) ≠ 0) = false := rfl
  (repeat (first | with_reducible (first | refine Eq.mpr (B_law14_CacheDrawn_c2.eq_1 ..) ?_) | simp only [XP_extract0, XP_extract1, XP_extract2, XP_extract3, X_extract0, X_extract1, X_extract2, X_extract3, X_nilS, X_eql_nil_24, X_neq_nil_24, X_eql_nil_103, X_neq_nil_103, X_eql, X_neq, X_lss, X_leq, X_gtr, X_geq, X_not, X_min, X_max, X_len_79, X_len_35, XP_nilS, XP_eql, XP_neq, XP_lss, XP_leq, XP_gtr, XP_geq, XP_not, XP_min, XP_max, XP_len_79, XP_eql_nil_24, X_str_eql, X_str_neq, XP_str_eql, XP_str_neq, GS, gs_u, decide_true, decide_false, Option.isNone_some, Option.isSome_some, Option.isNone_none, Option.isSome_none, eq_self, Bool.not_true, Bool.not_false, Int.reduceEq, Int.reduceNe, Int.reduceLT, Int.reduceLE, Int.reduceGT, Int.reduceGE, e0]))
  obtain ⟨af, cf, ef⟩ := hf.slice
  have hx02 := hx1.trans hx2
  have hfl : fs.length ≤ 9223372036854775807 := by
    obtain ⟨_, c, _, g1, g2, _⟩ := hf
    omega
  rw [ef, X_len_35, ← ef]
  refine loopE (fun ρ wr => ∃ (i : Nat) (T : Tbl) (D : Nat → Prop), i ≤ fs.length ∧ Ext W wr ∧ CacheAt wr D cb n T ∧ (∀ g, D g → W.heap.size ≤ g) ∧ ρ 36 = .int .i64 (i : Int) ∧ ρ 35 = .int .i64 (fs.length : Int) ∧ ρ 1 = vf ∧ ρ 11 = ptr cb ∧ ρ 9 = .bool true ∧ ρ 2 = .int .i64 s ∧ ρ 3 = .int .u64 (d : Int) ∧ ρ 10 = .int .i64 (n : Int))
    (fun ρ wr => match ρ 36 with | .int _ s => (fs.length - s).toNat | _ => 0)
    (fun ρ wr => ∃ (T : Tbl) (D : Nat → Prop), Ext W wr ∧ CacheAt wr D cb n T ∧ (∀ g, D g → W.heap.size ≤ g) ∧ ρ 11 = ptr cb ∧ ρ 9 = .bool true ∧ ρ 2 = .int .i64 s ∧ ρ 3 = .int .u64 (d : Int) ∧ ρ 10 = .int .i64 (n : Int)) ?_ ?_ ?_
  · exact ⟨0, [], _, by omega, hx02, hc2, fun g hg => by have := hx1.size; have := hg.1; omega, rfl, rfl, rfl, rfl, rfl, rfl, rfl, rfl⟩
  · rintro J hJ ρ wr ⟨i, T, D, hi, hx, hc, hD, r36, r35, r1, r11, r9, r2, r3, r10⟩
    rw [r36, r35, X_lss, condS_bool]
    by_cases hie : i = fs.length
    · rw [if_neg (by simp; omega)]
      exact hJ _ _ ⟨T, D, hx, hc, hD, r11, r9, r2, r3, r10⟩
    rw [if_pos (by simp; omega)]
    have hlt : i < fs.length := by omega
    refine joinS_of (fun ρ2 w3 => ∃ (T : Tbl) (D : Nat → Prop), Ext W w3 ∧ CacheAt w3 D cb n T ∧ (∀ g, D g → W.heap.size ≤ g) ∧ ρ2 36 = .int .i64 (i : Int) ∧ ρ2 35 = .int .i64 (fs.length : Int) ∧ ρ2 1 = vf ∧ ρ2 11 = ptr cb ∧ ρ2 9 = .bool true ∧ ρ2 2 = .int .i64 s ∧ ρ2 3 = .int .u64 (d : Int) ∧ ρ2 10 = .int .i64 (n : Int)) ?_ ?_
    · rintro ρ2 w3 ⟨T, D, g1, g2, g3, p36, p35, p1, p11, p9, p2, p3, p10⟩
      rw [p36, X_add]
      show _ ∧ _
      refine ⟨⟨i + 1, T, D, by omega, g1, g2, g3, next64 (n := 9223372036854775806) (by decide) (by omega), p35, p1, p11, p9, p2, p3, p10⟩, ?_⟩
      show (_ - IntKind.i64.wrap _).toNat < _
      rw [w64 (by omega) (by omega)]
      first | omega | (show _ < (_ : Int).toNat; omega)
    · intro J2 hJ2
      rw [X_lss, condS_bool]
      rcases Nat.lt_or_ge i 200 with h200 | h200
      rotate_left
      · rw [if_neg (by rw [decide_eq_true_eq]; omega)]
        exact hJ2 _ _ ⟨T, D, hx, hc, hD, r36, r35, r1, r11, r9, r2, r3, r10⟩
      rw [if_pos (decide_eq_true (by omega)), r1, r11]
      obtain ⟨g, hix, hcell, _⟩ := int_at (hf.ext hx) hlt
      refine X_of (hix _) ?_
      refine X_of (run_loadAt agg_3 hcell) ?_
      rw [X_conv_3_30, cwu (by omega)]
      refine Load_spec hc (hfi _ (List.getElem_mem hlt)) (row_nilE wr) (by decide) (by omega) (fun h => absurd h (by decide)) ?_
      intro w3 hk3 hc3
      refine hJ2 _ _ ⟨_, _, Ext.seq hx hk3 hD, hc3, ?_, r36, r35, r1, r11, r9, r2, r3, r10⟩
      rintro g (hg | hg)
      · exact hD g hg
      · have := hx.size
        omega
  · rintro ρ wr ⟨T, D, hx, hc, hD, r11, r9, r2, r3, r10⟩
    show CALL _ 21 #[ρ 11] _ _
    rw [r11]
    refine Shelves_spec hc ?_
    intro u3 w3 hx3 ho3
    have hc3 := hc.ext hx3
    show CALL _ 18 #[ptr cb, ρ 2] _ _
    rw [r2]
    refine Has_spec hc3 hs ?_
    show CALL _ 20 #[ptr cb, .int .i64 s, .slice none 0 0, ρ 3] _ _
    rw [r3]
    refine Load_spec hc3 hs (row_nilE w3) (by decide) hd (fun h => absurd h (by decide)) ?_
    intro w4 hk4 hc4
    have hnD : ∀ g, u3.ownBlock = some g → ¬ D g := fun g hg hgD => by
      have h1 := (ho3.lt g hg).1
      have h2 := hc.lt g hgD
      omega
    refine cacheDrawn_tail W hn2 hn1 hs hd (Ext.seq (hx.trans hx3) hk4 hD) hc.fits hc.nodup hc4 (own_mono (ho3.keep hk4 hnD) (Nat.zero_le _)) (fun g hg => ?_) r9 r11 r2 r3 r10
    have := (ho3.lt g hg).1
    have := hx.size
    omega
theorem cacheDrawn_walk {H : Type} (enc : TypeId × Value → H) (W : World) (v0 v1 v2 v3 : Value) {base : Nat} (ok0 : Value.okWide Try.prog W .any base 5 v0) (ok1 : Value.okWide Try.prog W .any base 35 v1) (ok2 : Value.okWide Try.prog W .any base 3 v2) (ok3 : Value.okWide Try.prog W .any base 30 v3) (d0 : DataW H) (p0 : List MemPlace) (d1 : DataW H) (p1 : List MemPlace) (d2 : DataW H) (p2 : List MemPlace) (d3 : DataW H) (p3 : List MemPlace) (h0 : DataW.Trod enc Try.prog W 0 (fun _ => true) true 5 v0 d0 p0) (h1 : DataW.Trod enc Try.prog W 0 (fun _ => true) true 35 v1 d1 p1) (h2 : DataW.Trod enc Try.prog W 0 (fun _ => true) true 3 v2 d2 p2) (h3 : DataW.Trod enc Try.prog W 0 (fun _ => true) true 30 v3 d3 p3) (hsz : (DataW.weightsEach Try.prog [5, 35, 3, 30] [d0, d1, d2, d3]).all (· ≤ reachBytes) = true) :
    CALL Try.prog 4 #[v0, v1, v2, v3] W (fun v w' => v = .bool true ∧ Ext W w') := by
  obtain ⟨r, rfl, hr⟩ := arg_u8 Try.underlying5 ok0 h0
  obtain ⟨fs, hf, hfi⟩ := arg_ints ok1 h1
  obtain ⟨s, rfl, o1, o2⟩ := arg_i64 Try.underlying3 ok2 h2
  obtain ⟨d, rfl, hd⟩ := arg_u64 Try.underlying30 ok3 h3
  exact cacheDrawn_run hr ⟨o1, o2⟩ hd W hf hfi
end
set_option maxRecDepth 100000 in
theorem cacheDrawn_lifted (os : Os) (started : os.Started) (H : Type) (enc : TypeId × Value → H) :
    ReturnsInHanded {} Try.checked os 4 .any (Rows.cacheDrawnSpec.pre6 enc Try.prog Try.f4 Rows.cacheDrawnRow.domain false) (Rows.cacheDrawnSpec.post enc Try.prog Try.f4 false true false false) := by
  refine returnsInHanded_of_change_sized (C := Try.checked) (by kernel_rfl) started (by kernel_rfl) Try.func4
    (ChangeSpec.witness6 (enc := enc) (C := Try.checked) false ⟨#[], #[(.int .u8 0), (.slice none 0 0), (.int .i64 0), (.int .u64 0)], []⟩ 8 (by kernel_rfl) (by kernel_rfl) (by kernel_rfl) (by kernel_rfl)) ?_
  intro W base args ds gs before hval0 hW hcnd hsz0 _
  have hval : ∀ (j : Nat) t v, Try.f4.params[j]? = some t → args[j]? = some v → Value.okWide Try.prog W .any base t v := hval0
  have hW' := hW
  obtain ⟨p, q, hA0, hV, rfl, hfz, hnd⟩ := hW
  have hA : DataW.TrodAll enc Try.prog W 0 (fun _ => true) true Try.f4.params.toList args.toList ds p := hA0
  rw [Try.params4] at hA hval
  obtain ⟨v0, vs0, d0, ds0, p0, q0, hargs, rfl, rfl, h0, r0⟩ := trodAll_cons hA
  obtain ⟨v1, vs1, d1, ds1, p1, q1, rfl, rfl, rfl, h1, r1⟩ := trodAll_cons r0
  obtain ⟨v2, vs2, d2, ds2, p2, q2, rfl, rfl, rfl, h2, r2⟩ := trodAll_cons r1
  obtain ⟨v3, vs3, d3, ds3, p3, q3, rfl, rfl, rfl, h3, r3⟩ := trodAll_cons r2
  obtain ⟨rfl, rfl, rfl⟩ := trodAll_nil r3
  obtain rfl : args = #[v0, v1, v2, v3] := by cases args; simp_all
  obtain ⟨rfl, rfl⟩ := trodVars_none hV
  have hsz : (DataW.weightsEach Try.prog [5, 35, 3, 30] [d0, d1, d2, d3]).all (· ≤ reachBytes) = true := hsz0
  have hw := cacheDrawn_walk enc W v0 v1 v2 v3 (hval 0 5 v0 rfl rfl) (hval 1 35 v1 rfl rfl) (hval 2 3 v2 rfl rfl) (hval 3 30 v3 rfl rfl) d0 p0 d1 p1 d2 p2 d3 p3 h0 h1 h2 h3 hsz
  refine (CALL_calls hw).mono fun e W' he => ?_
  cases e with
  | returned v =>
    obtain ⟨rfl, hx⟩ := he
    exact ⟨_, rfl, law_post (P := Try.prog) laidOut (by kernel_rfl) rfl rfl rfl Try.underlying4 hW' hx⟩
  | panicked c => exact he.elim
  | outgrown => exact he.elim

theorem cacheDrawn_closed : joinedFacts Try.prog 4 Try.f4 Rows.cacheDrawnSpec Rows.cacheDrawnRow = true := by
  unfold joinedFacts
  rw [mayEnter_is, liftsFinal_is, make_is]
  kernel_rfl
/-- For every input that the row lets in, cellarage/cellaragelaw14.CacheDrawn returns true, and what was there stays as it was. -/
theorem cacheDrawn_holds : Rows.CacheDrawnSaid :=
  OpenClaim.holds_of_wide 4 Try.f4 rfl rfl rfl rfl rfl rfl rfl ⟨rfl, rfl, rfl, rfl, rfl⟩ rfl rfl rfl rfl rfl (by kernel_rfl) Try.func4 cacheDrawn_closed
    (of_decide_eq_true (by kernel_rfl)) (by unfold Func.isWrapper; first | (rw [if_pos (by decide +kernel)]; kernel_rfl) | (rw [if_neg (by decide +kernel)]; exact ⟨rfl, rfl⟩))
    (fun os started H enc _ => cacheDrawn_lifted os started H enc)
#print axioms cacheDrawn_holds
end Go.Proofs.Ytlnkdphecinnnaa
