/- cellaragelaw20.HomeCrashes: whenever the power fails, what is loaded then is what was saved last with OK, or what was about to be saved. -/
import Derived.Test.YtggggfcgnkllgaaQHC10
set_option linter.unusedVariables false
set_option linter.unusedSimpArgs false
set_option linter.constructorNameAsVariable false
namespace Go.Proofs.Ytggggfcgnkllgaa
open Go Go.Sh Go.RowKit Go.ChangeShapes Go.WideShapes Go.ChangeAt
open Go.Proofs.Ytggggfcgnkllgaa
section
attribute [local irreducible] X XU XP XR CALL loopS resC closS Value.okWide
def A4 : DAct := ⟨4, 0, 0, [], [], .slice none 0 0, .slice none 0 0⟩
def endB : List UInt8 := [101, 110, 100]
def Aend (v : Value) : DAct := ⟨0, 0, 0, endB, [], v, .slice none 0 0⟩
theorem a4_in (w : World) : A4.In w := ⟨by decide, by decide, Bts.nil w, row_none _ w⟩
theorem run_build_159a (w : World) : (Instr.build 159 #[(0, (.int .u8 4))]).run Try.prog w = .ok (.agg #[.int .u8 4, .int .i64 0, .int .i64 0, .slice none 0 0, .slice none 0 0]) w := by kernel_rfl
theorem run_build_159b (a : Option Addr) (n c : Nat) (w : World) : (Instr.build 159 #[(0, (.int .u8 0)), (3, .slice a n c)]).run Try.prog w = .ok (.agg #[.int .u8 0, .int .i64 0, .int .i64 0, .slice a n c, .slice none 0 0]) w := by kernel_rfl
theorem run_three (a : Option Addr) (n c : Nat) (w : World) : (Instr.buildSlice 157 3 #[(0, .agg #[.int .u8 4, .int .i64 0, .int .i64 0, .slice none 0 0, .slice none 0 0]), (1, .agg #[.int .u8 0, .int .i64 0, .int .i64 0, .slice a n c, .slice none 0 0]), (2, .agg #[.int .u8 4, .int .i64 0, .int .i64 0, .slice none 0 0, .slice none 0 0])]).run Try.prog w =
    .ok (.slice (some ⟨w.heap.size, 0, none⟩) 3 3) (newB w #[.int .u8 4, .int .i64 0, .int .i64 0, .slice none 0 0, .slice none 0 0, .int .u8 0, .int .i64 0, .int .i64 0, .slice a n c, .slice none 0 0, .int .u8 4, .int .i64 0, .int .i64 0, .slice none 0 0, .slice none 0 0] 159) := by kernel_rfl
theorem run_empty157 (w : World) : (Instr.buildSlice 157 0 #[]).run Try.prog w = .ok (.slice (some ⟨w.heap.size, 0, none⟩) 0 0) (newB w #[] 159) := by kernel_rfl
theorem lit_end (w : World) : (Instr.buildSlice 27 3 #[(0, (.int .u8 101)), (1, (.int .u8 110)), (2, (.int .u8 100))]).run Try.prog w = .ok (.slice (some ⟨w.heap.size, 0, none⟩) 3 3) (newB w (B8 [101, 110, 100]).toArray 5) := by kernel_rfl
theorem cs_len (a : DAct) : (DAct.cs a).length = 5 := rfl
theorem str_neT {x y : List UInt8} (h : x ≠ y) : ((str x).toList != (str y).toList) = true := by rw [str_toList, str_toList, l8_bne]; simpa using h
theorem str_neF {x y : List UInt8} (h : x = y) : ((str x).toList != (str y).toList) = false := by rw [h]; simp
set_option maxHeartbeats 2000000 in
set_option maxRecDepth 8000 in
theorem homeCrashes_loop {W w2 : World} {b bh0 n N m : Nat} {v26 : Value} {L : List DAct} {ve : Value} (hN : N = 2 + 2 * n) (hok' : hok n N) (hn8 : n ≤ 8) (hm : m ≤ 50) (hL : L.length = m + 3) (hLm : ∀ h : m < L.length, L[m] = A4) (hLe : ∀ h : m + 1 < L.length, L[m + 1] = Aend ve) (hL4 : ∀ h : m + 2 < L.length, L[m + 2] = A4)
    (hW2 : Ext W w2) (low2 : ∀ k, foot w2 b k → W.heap.size ≤ k) (hd2 : DiskAt w2 b (Dk.new N)) (hv2 : HomeAt w2 bh0 b n) (hrow : ∀ wr, Step b w2 wr → RowK 5 DAct.cs wr v26 L) (hin : ∀ wr, Ext W wr → Step b w2 wr → ∀ a ∈ L, a.In wr) (hoff : ∀ wr, Step b w2 wr → (∀ k, foot wr b k → W.heap.size ≤ k) → ∀ a ∈ L, Off wr b a ∧ a.bs.length ≤ 20000)
    (hblk : ∀ a ∈ L, 0 < a.bs.length → ∀ k, a.bv.ownBlock = some k → k < w2.heap.size)
    {x0 : Value} {x1 : Value} {v25_55 : Value} {v24_54 : Value} {v23_53 : Value} {v22_52 : Value} {v21_51 : Value} {v20_50 : Value} {v19_49 : Value} {v18_48 : Value} {v17_46 : Value} {v16_45 : Value} {v15_44 : Value} {v14_43 : Value} {v13_41 : Value} {v12_39 : Value} {v10_37 : Value} {v9_33 : Value} {v7_31 : Value} {v6_30 : Value} {v5_29 : Value} {v3_25 : Value} {v2_24 : Value} :
    (B_law20_HomeCrashes_c6 (fun v w' => v = .bool true ∧ Ext W w') x0 x1 (.int .i64 ((m + 3 : Nat) : Int)) (v26) v25_55 v24_54 v23_53 v22_52 v21_51 v20_50 v19_49 v18_48 v17_46 v16_45 v15_44 v14_43 v13_41 (ptr bh0) v12_39 v10_37 (.int .i64 (n : Int)) (ptr b) v9_33 v7_31 v6_30 v5_29 v3_25 v2_24 (.bool true) (w2)) := by
  have e0 : decide ((0 : Int) ≠ 0) = false := by decide
  have e00 : decide ((0 : Int) = 0) = true := by decide
  have e44 : decide ((4 : Int) ≠ 4) = false := by decide
  have e60 : decide ((6 : Int) = 0) = false := by decide
  have e66 : decide ((6 : Int) ≠ 6) = false := by decide
  have nsz : (Dk.new N).safe.length = N := new_size N
  unfold B_law20_HomeCrashes_c6
  refine loopG 0 (fun ρ wr => ∃ (i : Nat) (d : Dk) (last next : List UInt8) (gen bh : Nat), i ≤ m + 3 ∧ DiskAt wr b d ∧ HomeAt wr bh b n ∧ Cst n N d last next gen i ∧ ((i = m + 1 → d.dead = false ∧ d.fuse = -1) ∧ (i = m + 2 → d.dead = false ∧ last = endB) ∧ (i = m + 3 → last = endB)) ∧ gen ≤ i ∧ Step b w2 wr ∧
      ρ 58 = .int .i64 (i : Int) ∧ ρ 57 = .int .i64 ((m + 3 : Nat) : Int) ∧ ρ 56 = v26 ∧ ρ 9 = ptr bh ∧ ρ 7 = ptr b ∧ ρ 6 = .int .i64 (n : Int) ∧ ρ 5 = .bool true ∧ ρ 11 = .string (str last) ∧ ρ 12 = .string (str next) ∧ ρ 13 = .int .u64 (gen : Int))
    (fun ρ wr => match ρ 58 with | .int _ s => (m + 3 - s).toNat | _ => 0)
    (fun ρ wr => Ext W wr ∧ ρ 5 = .bool true ∧ ρ 11 = .string (str endB)) ?_ ?_ ?_
  · exact ⟨0, _, [], [], 0, bh0, by omega, hd2, hv2, cst_new hok' hn8, ⟨fun _ => ⟨rfl, rfl⟩, fun h => by omega, fun h => by omega⟩, by omega, Step.refl, rfl, rfl, rfl, rfl, rfl, rfl, rfl, rfl, rfl, rfl⟩
  · rintro J hJ ρ wr ⟨i, d, last, next, gen, bh, hi, hd, hv, st, ex, hgi, s2, r58, r57, r56, r9, r7, r6, r5, r11, r12, r13⟩
    have hx : Ext W wr := s2.out hW2 low2
    have low : ∀ k, foot wr b k → W.heap.size ≤ k := s2.low hW2.size low2
    rw [r58, r57, r56, X_lss, condS_bool]
    by_cases hie : i = m + 3
    · rw [if_neg (by simp; omega)]
      have := ex.2.2 hie
      rw [this] at r11
      exact hJ _ _ ⟨hx, r5, r11⟩
    rw [if_pos (by simp; omega)]
    have hlt : i < L.length := by omega
    refine joinS_of (fun ρ2 w' => ∃ (d : Dk) (last next : List UInt8) (gen bh : Nat), DiskAt w' b d ∧ HomeAt w' bh b n ∧ Cst n N d last next gen (i + 1) ∧ ((i + 1 = m + 1 → d.dead = false ∧ d.fuse = -1) ∧ (i + 1 = m + 2 → d.dead = false ∧ last = endB) ∧ (i + 1 = m + 3 → last = endB)) ∧ gen ≤ i + 1 ∧ Step b w2 w' ∧
      ρ2 58 = .int .i64 (i : Int) ∧ ρ2 57 = .int .i64 ((m + 3 : Nat) : Int) ∧ ρ2 56 = v26 ∧ ρ2 9 = ptr bh ∧ ρ2 7 = ptr b ∧ ρ2 6 = .int .i64 (n : Int) ∧ ρ2 5 = .bool true ∧ ρ2 11 = .string (str last) ∧ ρ2 12 = .string (str next) ∧ ρ2 13 = .int .u64 (gen : Int)) ?_ ?_
    · rintro ρ2 w' ⟨d2, last2, next2, gen2, bh2, hd', hv', st', ex', hg', s2', g58, g57, g56, g9, g7, g6, g5, g11, g12, g13⟩
      rw [g58, X_add]
      show _ ∧ _
      refine ⟨⟨i + 1, d2, last2, next2, gen2, bh2, by omega, hd', hv', st', ex', hg', s2', next64 (n := 53) (by decide) (by omega), g57, g56, g9, g7, g6, g5, g11, g12, g13⟩, ?_⟩
      show (_ - IntKind.i64.wrap _).toNat < _
      rw [w64 (by omega) (by omega)]
      first | omega | (show _ < (_ : Int).toNat; omega)
    intro J2 hJ2
    have hmem := List.getElem_mem hlt
    have haW := hin wr hx s2 _ hmem
    obtain ⟨hoffA, hlenA⟩ := hoff wr s2 low _ hmem
    have hblkA := hblk _ hmem
    refine X_takeAct20 (hrow wr s2) hlt haW ?_
    intro u1 u2 q w4 hx4 hq hqb
    have hAm : i = m → L[i] = A4 := fun h => by subst h; exact hLm hlt
    have hAe : i = m + 1 → L[i] = Aend ve := fun h => by subst h; exact hLe hlt
    have hA4 : i = m + 2 → L[i] = A4 := fun h => by subst h; exact hL4 hlt
    generalize L[i] = A at haW hoffA hlenA hqb hAm hAe hA4 hblkA
    have hA4' := haW.ext hx4
    have hb_lt := hd.lt b (foot_self _ _)
    have hd4 := hd.ext hx4
    have hv4 : HomeAt w4 bh b n := hx4.get hv
    have s4 : Step b w2 w4 := s2.trans (Step.ext hx4 hb_lt)
    have hnf4 : ∀ k, foot w4 b k ↔ foot wr b k := fun k => foot_x hx4 hb_lt
    have hok4 : hok n d.safe.length := st.hok'
    have hws := st.ws
    obtain ⟨aB, cB, eB⟩ := Bts.slice hA4'.bts
    rw [X_field_159_0]
    refine X_loadL agg_5 hqb (v := .int .u8 (A.kind : Int)) rfl ?_
    refine X_of (kind5 5 _ _) ?_
    obtain ⟨kd, hkd⟩ : ∃ kd, kd = A.kind % 5 := ⟨_, rfl⟩
    rw [← hkd]
    have hk5 : kd < 5 := by omega
    have kA4 : A = A4 → kd = 4 := fun h => by rw [hkd, h]; rfl
    have kAe : A = Aend ve → kd = 0 := fun h => by rw [hkd, h]; rfl
    (repeat (first | with_reducible (first | refine Eq.mpr (B_law20_HomeCrashes_c7.eq_1 ..) ?_ | refine Eq.mpr (B_law20_HomeCrashes_c5.eq_1 ..) ?_ | refine Eq.mpr (B_law20_HomeCrashes_c4.eq_1 ..) ?_ | refine Eq.mpr (B_law20_HomeCrashes_c3.eq_1 ..) ?_ | refine Eq.mpr (B_law20_HomeCrashes_c2.eq_1 ..) ?_ | refine Eq.mpr (B_law20_HomeCrashes_c1.eq_1 ..) ?_) | simp only [XP_extract0, XP_extract1, XP_extract2, XP_extract3, X_extract0, X_extract1, X_extract2, X_extract3, X_nilS, X_eql_nil_74, X_neq_nil_74, X_eql_nil_124, X_neq_nil_124, X_eql, X_neq, X_lss, X_leq, X_gtr, X_geq, X_not, X_min, X_max, X_len_27, X_len_9, X_len_79, XP_nilS, XP_eql, XP_neq, XP_lss, XP_leq, XP_gtr, XP_geq, XP_not, XP_min, XP_max, XP_len_27, XP_len_9, XP_eql_nil_74, X_str_eql, X_str_neq, XP_str_eql, XP_str_neq, GS, gs_u, decide_true, decide_false, Option.isNone_some, Option.isSome_some, Option.isNone_none, Option.isSome_none, eq_self, Bool.not_true, Bool.not_false, Int.reduceEq, Int.reduceNe, Int.reduceLT, Int.reduceLE, Int.reduceGT, Int.reduceGE]))
    by_cases k0 : kd = 0
    · have nm : i ≠ m := fun h => by have := kA4 (hAm h); omega
      have nm2 : i ≠ m + 2 := fun h => by have := kA4 (hA4 h); omega
      have c : decide ((kd : Int) = 0) = true := by simp; omega
      (repeat (first | with_reducible (first | refine Eq.mpr (B_law20_HomeCrashes_c7.eq_1 ..) ?_ | refine Eq.mpr (B_law20_HomeCrashes_c5.eq_1 ..) ?_ | refine Eq.mpr (B_law20_HomeCrashes_c4.eq_1 ..) ?_ | refine Eq.mpr (B_law20_HomeCrashes_c3.eq_1 ..) ?_ | refine Eq.mpr (B_law20_HomeCrashes_c2.eq_1 ..) ?_ | refine Eq.mpr (B_law20_HomeCrashes_c1.eq_1 ..) ?_) | simp only [XP_extract0, XP_extract1, XP_extract2, XP_extract3, X_extract0, X_extract1, X_extract2, X_extract3, X_nilS, X_eql_nil_74, X_neq_nil_74, X_eql_nil_124, X_neq_nil_124, X_eql, X_neq, X_lss, X_leq, X_gtr, X_geq, X_not, X_min, X_max, X_len_27, X_len_9, X_len_79, XP_nilS, XP_eql, XP_neq, XP_lss, XP_leq, XP_gtr, XP_geq, XP_not, XP_min, XP_max, XP_len_27, XP_len_9, XP_eql_nil_74, X_str_eql, X_str_neq, XP_str_eql, XP_str_neq, GS, gs_u, decide_true, decide_false, Option.isNone_some, Option.isSome_some, Option.isNone_none, Option.isSome_none, eq_self, Bool.not_true, Bool.not_false, Int.reduceEq, Int.reduceNe, Int.reduceLT, Int.reduceLE, Int.reduceGT, Int.reduceGE, c]))
      rw [X_field_159_3]
      refine X_loadL agg_27 hqb (v := A.bv) rfl ?_
      rw [r9]
      refine HSave_spec hv4 hd4 hok4 (by omega) hA4'.bts (fun h0 k hk => ⟨fun hf => hoffA.1 h0 k hk ((hnf4 k).1 hf), ?_⟩) ?_
      · have := hblkA h0 k hk
        have := s4.size
        omega
      intro w5 hd5 s5
      have s25 := s4.trans s5
      have hv5 : HomeAt w5 bh b n := s5.keep.get (hd4.notin hv4 (by decide) (by decide) (by decide)) hv4
      have hqb5 := s5.keep.get (hd4.notin hqb (by decide) (by decide) (by decide)) hqb
      have hx5 : Ext W w5 := s25.out hW2 low2
      have hb5 : Bts w5 A.bv A.bs := by
        refine hA4'.bts.keep' s5.keep (fun h0 k hk hf => hoffA.1 h0 k hk ((hnf4 k).1 hf))
      refine ⟨Ext, Ext.frame, ?_⟩
      have hq5d : (drewW w5).heap[q]? = some (.cells A.cs.toArray 159 (0, 0)) := hqb5
      have hv5d : HomeAt (drewW w5) bh b n := hv5
      have s25d : Step b w2 (drewW w5) := s25.trans (Step.ext (Keep.drew _ _) (hd5.lt b (foot_self _ _)))
      have hd5d := hd5.ext (Keep.drew (fun _ => False) w5)
      have hb5d := hb5.drew
      generalize drewW w5 = w6 at hq5d hv5d s25d hd5d hb5d ⊢
      rw [XP_field_159_3]
      refine XR_loadL agg_27 hq5d (v := A.bv) rfl ?_
      rw [eB]
      (repeat (first | with_reducible (first | refine Eq.mpr (B_law20_HomeCrashes_c7.eq_1 ..) ?_ | refine Eq.mpr (B_law20_HomeCrashes_c5.eq_1 ..) ?_ | refine Eq.mpr (B_law20_HomeCrashes_c4.eq_1 ..) ?_ | refine Eq.mpr (B_law20_HomeCrashes_c3.eq_1 ..) ?_ | refine Eq.mpr (B_law20_HomeCrashes_c2.eq_1 ..) ?_ | refine Eq.mpr (B_law20_HomeCrashes_c1.eq_1 ..) ?_) | simp only [XP_extract0, XP_extract1, XP_extract2, XP_extract3, X_extract0, X_extract1, X_extract2, X_extract3, X_nilS, X_eql_nil_74, X_neq_nil_74, X_eql_nil_124, X_neq_nil_124, X_eql, X_neq, X_lss, X_leq, X_gtr, X_geq, X_not, X_min, X_max, X_len_27, X_len_9, X_len_79, XP_nilS, XP_eql, XP_neq, XP_lss, XP_leq, XP_gtr, XP_geq, XP_not, XP_min, XP_max, XP_len_27, XP_len_9, XP_eql_nil_74, X_str_eql, X_str_neq, XP_str_eql, XP_str_neq, GS, gs_u, decide_true, decide_false, Option.isNone_some, Option.isSome_some, Option.isNone_none, Option.isSome_none, eq_self, Bool.not_true, Bool.not_false, Int.reduceEq, Int.reduceNe, Int.reduceLT, Int.reduceLE, Int.reduceGT, Int.reduceGE]))
      refine HRoom_spec hv5d hok'.2.1 ?_
      refine ⟨Keep.refl _ _, ?_⟩
      (repeat (first | with_reducible (first | refine Eq.mpr (B_law20_HomeCrashes_c7.eq_1 ..) ?_ | refine Eq.mpr (B_law20_HomeCrashes_c5.eq_1 ..) ?_ | refine Eq.mpr (B_law20_HomeCrashes_c4.eq_1 ..) ?_ | refine Eq.mpr (B_law20_HomeCrashes_c3.eq_1 ..) ?_ | refine Eq.mpr (B_law20_HomeCrashes_c2.eq_1 ..) ?_ | refine Eq.mpr (B_law20_HomeCrashes_c1.eq_1 ..) ?_) | simp only [XP_extract0, XP_extract1, XP_extract2, XP_extract3, X_extract0, X_extract1, X_extract2, X_extract3, X_nilS, X_eql_nil_74, X_neq_nil_74, X_eql_nil_124, X_neq_nil_124, X_eql, X_neq, X_lss, X_leq, X_gtr, X_geq, X_not, X_min, X_max, X_len_27, X_len_9, X_len_79, XP_nilS, XP_eql, XP_neq, XP_lss, XP_leq, XP_gtr, XP_geq, XP_not, XP_min, XP_max, XP_len_27, XP_len_9, XP_eql_nil_74, X_str_eql, X_str_neq, XP_str_eql, XP_str_neq, GS, gs_u, decide_true, decide_false, Option.isNone_some, Option.isSome_some, Option.isNone_none, Option.isSome_none, eq_self, Bool.not_true, Bool.not_false, Int.reduceEq, Int.reduceNe, Int.reduceLT, Int.reduceLE, Int.reduceGT, Int.reduceGE]))
      by_cases hroom : n * 128 < A.bs.length
      · have c : decide ((A.bs.length : Int) > ((n * 128 : Nat) : Int)) = true := by simp; omega
        have els := long_save (d := d) (each := n) (bs := A.bs) hroom
        rw [els] at hd5d ⊢
        (repeat (first | with_reducible (first | refine Eq.mpr (B_law20_HomeCrashes_c7.eq_1 ..) ?_ | refine Eq.mpr (B_law20_HomeCrashes_c5.eq_1 ..) ?_ | refine Eq.mpr (B_law20_HomeCrashes_c4.eq_1 ..) ?_ | refine Eq.mpr (B_law20_HomeCrashes_c3.eq_1 ..) ?_ | refine Eq.mpr (B_law20_HomeCrashes_c2.eq_1 ..) ?_ | refine Eq.mpr (B_law20_HomeCrashes_c1.eq_1 ..) ?_) | simp only [XP_extract0, XP_extract1, XP_extract2, XP_extract3, X_extract0, X_extract1, X_extract2, X_extract3, X_nilS, X_eql_nil_74, X_neq_nil_74, X_eql_nil_124, X_neq_nil_124, X_eql, X_neq, X_lss, X_leq, X_gtr, X_geq, X_not, X_min, X_max, X_len_27, X_len_9, X_len_79, XP_nilS, XP_eql, XP_neq, XP_lss, XP_leq, XP_gtr, XP_geq, XP_not, XP_min, XP_max, XP_len_27, XP_len_9, XP_eql_nil_74, X_str_eql, X_str_neq, XP_str_eql, XP_str_neq, GS, gs_u, decide_true, decide_false, Option.isNone_some, Option.isSome_some, Option.isNone_none, Option.isSome_none, eq_self, Bool.not_true, Bool.not_false, Int.reduceEq, Int.reduceNe, Int.reduceLT, Int.reduceLE, Int.reduceGT, Int.reduceGE, c, e44]))
        have nm1 : i ≠ m + 1 := fun h => by
          have h1 := hAe h
          rw [h1] at hroom
          have : n * 128 < 3 := hroom
          have := hok'.1
          omega
        exact hJ2 _ _ ⟨d, last, next, gen, bh, hd5d, hv5d, cst_same st, ⟨fun h => by omega, fun h => by omega, fun h => by omega⟩, by omega, s25d, r58, r57, r56, r9, r7, r6, r5, r11, r12, r13⟩
      have c : decide ((A.bs.length : Int) > ((n * 128 : Nat) : Int)) = false := by simp; omega
      (repeat (first | with_reducible (first | refine Eq.mpr (B_law20_HomeCrashes_c7.eq_1 ..) ?_ | refine Eq.mpr (B_law20_HomeCrashes_c5.eq_1 ..) ?_ | refine Eq.mpr (B_law20_HomeCrashes_c4.eq_1 ..) ?_ | refine Eq.mpr (B_law20_HomeCrashes_c3.eq_1 ..) ?_ | refine Eq.mpr (B_law20_HomeCrashes_c2.eq_1 ..) ?_ | refine Eq.mpr (B_law20_HomeCrashes_c1.eq_1 ..) ?_) | simp only [XP_extract0, XP_extract1, XP_extract2, XP_extract3, X_extract0, X_extract1, X_extract2, X_extract3, X_nilS, X_eql_nil_74, X_neq_nil_74, X_eql_nil_124, X_neq_nil_124, X_eql, X_neq, X_lss, X_leq, X_gtr, X_geq, X_not, X_min, X_max, X_len_27, X_len_9, X_len_79, XP_nilS, XP_eql, XP_neq, XP_lss, XP_leq, XP_gtr, XP_geq, XP_not, XP_min, XP_max, XP_len_27, XP_len_9, XP_eql_nil_74, X_str_eql, X_str_neq, XP_str_eql, XP_str_neq, GS, gs_u, decide_true, decide_false, Option.isNone_some, Option.isSome_some, Option.isNone_none, Option.isSome_none, eq_self, Bool.not_true, Bool.not_false, Int.reduceEq, Int.reduceNe, Int.reduceLT, Int.reduceLE, Int.reduceGT, Int.reduceGE, c]))
      try unfold B_law20_HomeCrashes_c1
      rcases cst_save st (B := A.bs) (by omega) (by omega) with ⟨t1, t2, t3⟩ | ⟨t1, t2, t3, t4⟩
      · rw [t1]
        (repeat (first | with_reducible (first | refine Eq.mpr (B_law20_HomeCrashes_c7.eq_1 ..) ?_ | refine Eq.mpr (B_law20_HomeCrashes_c5.eq_1 ..) ?_ | refine Eq.mpr (B_law20_HomeCrashes_c4.eq_1 ..) ?_ | refine Eq.mpr (B_law20_HomeCrashes_c3.eq_1 ..) ?_ | refine Eq.mpr (B_law20_HomeCrashes_c2.eq_1 ..) ?_ | refine Eq.mpr (B_law20_HomeCrashes_c1.eq_1 ..) ?_) | simp only [XP_extract0, XP_extract1, XP_extract2, XP_extract3, X_extract0, X_extract1, X_extract2, X_extract3, X_nilS, X_eql_nil_74, X_neq_nil_74, X_eql_nil_124, X_neq_nil_124, X_eql, X_neq, X_lss, X_leq, X_gtr, X_geq, X_not, X_min, X_max, X_len_27, X_len_9, X_len_79, XP_nilS, XP_eql, XP_neq, XP_lss, XP_leq, XP_gtr, XP_geq, XP_not, XP_min, XP_max, XP_len_27, XP_len_9, XP_eql_nil_74, X_str_eql, X_str_neq, XP_str_eql, XP_str_neq, GS, gs_u, decide_true, decide_false, Option.isNone_some, Option.isSome_some, Option.isNone_none, Option.isSome_none, eq_self, Bool.not_true, Bool.not_false, Int.reduceEq, Int.reduceNe, Int.reduceLT, Int.reduceLE, Int.reduceGT, Int.reduceGE, e00]))
        refine ⟨Ext, Ext.frame, ?_⟩
        have hq6d : (drewW w6).heap[q]? = some (.cells A.cs.toArray 159 (0, 0)) := hq5d
        have hb6d := hb5d.drew
        rw [XP_field_159_3]
        refine XR_loadL agg_27 hq6d (v := A.bv) rfl ?_
        refine XR_str Try.underlying27 Try.underlying5 Try.underlying9 hb6d ?_
        rw [XP_field_159_3]
        refine XR_loadL agg_27 hq6d (v := A.bv) rfl ?_
        refine XR_str Try.underlying27 Try.underlying5 Try.underlying9 hb6d ?_
        have egw : IntKind.u64.wrap ((gen : Int) + 1) = ((gen + 1 : Nat) : Int) := by rw [wrap_u64]; omega
        rw [r13, XP_add, egw]
        have hv6 : HomeAt (drewW w6) bh b n := hv5d
        refine hJ2 _ _ ⟨_, A.bs, A.bs, gen + 1, bh, hd5d.ext (Keep.drew _ _), hv6, t3, ⟨fun h => by omega, fun h => ⟨t2, ?_⟩, fun h => by omega⟩, by omega, s25d.trans (Step.ext (Keep.drew _ _) (hd5d.lt b (foot_self _ _))), r58, r57, r56, r9, r7, r6, r5, rfl, rfl, rfl⟩
        rw [hAe (by omega)]
        rfl
      · have nm1 : i ≠ m + 1 := fun h => t3 (ex.1 h)
        rw [t1]
        (repeat (first | with_reducible (first | refine Eq.mpr (B_law20_HomeCrashes_c7.eq_1 ..) ?_ | refine Eq.mpr (B_law20_HomeCrashes_c5.eq_1 ..) ?_ | refine Eq.mpr (B_law20_HomeCrashes_c4.eq_1 ..) ?_ | refine Eq.mpr (B_law20_HomeCrashes_c3.eq_1 ..) ?_ | refine Eq.mpr (B_law20_HomeCrashes_c2.eq_1 ..) ?_ | refine Eq.mpr (B_law20_HomeCrashes_c1.eq_1 ..) ?_) | simp only [XP_extract0, XP_extract1, XP_extract2, XP_extract3, X_extract0, X_extract1, X_extract2, X_extract3, X_nilS, X_eql_nil_74, X_neq_nil_74, X_eql_nil_124, X_neq_nil_124, X_eql, X_neq, X_lss, X_leq, X_gtr, X_geq, X_not, X_min, X_max, X_len_27, X_len_9, X_len_79, XP_nilS, XP_eql, XP_neq, XP_lss, XP_leq, XP_gtr, XP_geq, XP_not, XP_min, XP_max, XP_len_27, XP_len_9, XP_eql_nil_74, X_str_eql, X_str_neq, XP_str_eql, XP_str_neq, GS, gs_u, decide_true, decide_false, Option.isNone_some, Option.isSome_some, Option.isNone_none, Option.isSome_none, eq_self, Bool.not_true, Bool.not_false, Int.reduceEq, Int.reduceNe, Int.reduceLT, Int.reduceLE, Int.reduceGT, Int.reduceGE, e60, e66]))
        rw [r7]
        refine Dead_spec hd5d ?_
        rw [t2]
        (repeat (first | with_reducible (first | refine Eq.mpr (B_law20_HomeCrashes_c7.eq_1 ..) ?_ | refine Eq.mpr (B_law20_HomeCrashes_c5.eq_1 ..) ?_ | refine Eq.mpr (B_law20_HomeCrashes_c4.eq_1 ..) ?_ | refine Eq.mpr (B_law20_HomeCrashes_c3.eq_1 ..) ?_ | refine Eq.mpr (B_law20_HomeCrashes_c2.eq_1 ..) ?_ | refine Eq.mpr (B_law20_HomeCrashes_c1.eq_1 ..) ?_) | simp only [XP_extract0, XP_extract1, XP_extract2, XP_extract3, X_extract0, X_extract1, X_extract2, X_extract3, X_nilS, X_eql_nil_74, X_neq_nil_74, X_eql_nil_124, X_neq_nil_124, X_eql, X_neq, X_lss, X_leq, X_gtr, X_geq, X_not, X_min, X_max, X_len_27, X_len_9, X_len_79, XP_nilS, XP_eql, XP_neq, XP_lss, XP_leq, XP_gtr, XP_geq, XP_not, XP_min, XP_max, XP_len_27, XP_len_9, XP_eql_nil_74, X_str_eql, X_str_neq, XP_str_eql, XP_str_neq, GS, gs_u, decide_true, decide_false, Option.isNone_some, Option.isSome_some, Option.isNone_none, Option.isSome_none, eq_self, Bool.not_true, Bool.not_false, Int.reduceEq, Int.reduceNe, Int.reduceLT, Int.reduceLE, Int.reduceGT, Int.reduceGE]))
        rw [r12, r11, X_eq_str]
        by_cases hnl : next = last
        · rw [if_pos hnl] at t4
          have c : decide (next = last) = true := by simpa using hnl
          (repeat (first | with_reducible (first | refine Eq.mpr (B_law20_HomeCrashes_c7.eq_1 ..) ?_ | refine Eq.mpr (B_law20_HomeCrashes_c5.eq_1 ..) ?_ | refine Eq.mpr (B_law20_HomeCrashes_c4.eq_1 ..) ?_ | refine Eq.mpr (B_law20_HomeCrashes_c3.eq_1 ..) ?_ | refine Eq.mpr (B_law20_HomeCrashes_c2.eq_1 ..) ?_ | refine Eq.mpr (B_law20_HomeCrashes_c1.eq_1 ..) ?_) | simp only [XP_extract0, XP_extract1, XP_extract2, XP_extract3, X_extract0, X_extract1, X_extract2, X_extract3, X_nilS, X_eql_nil_74, X_neq_nil_74, X_eql_nil_124, X_neq_nil_124, X_eql, X_neq, X_lss, X_leq, X_gtr, X_geq, X_not, X_min, X_max, X_len_27, X_len_9, X_len_79, XP_nilS, XP_eql, XP_neq, XP_lss, XP_leq, XP_gtr, XP_geq, XP_not, XP_min, XP_max, XP_len_27, XP_len_9, XP_eql_nil_74, X_str_eql, X_str_neq, XP_str_eql, XP_str_neq, GS, gs_u, decide_true, decide_false, Option.isNone_some, Option.isSome_some, Option.isNone_none, Option.isSome_none, eq_self, Bool.not_true, Bool.not_false, Int.reduceEq, Int.reduceNe, Int.reduceLT, Int.reduceLE, Int.reduceGT, Int.reduceGE, c]))
          rw [X_field_159_3]
          refine X_loadL agg_27 hq5d (v := A.bv) rfl ?_
          refine X_str Try.underlying27 Try.underlying5 Try.underlying9 hb5d ?_
          exact hJ2 _ _ ⟨_, last, A.bs, gen, bh, hd5d, hv5d, t4, ⟨fun h => by omega, fun h => by omega, fun h => by omega⟩, by omega, s25d, r58, r57, r56, r9, r7, r6, r5, r11, rfl, r13⟩
        · rw [if_neg hnl] at t4
          have c : decide (next = last) = false := by simpa using hnl
          (repeat (first | with_reducible (first | refine Eq.mpr (B_law20_HomeCrashes_c7.eq_1 ..) ?_ | refine Eq.mpr (B_law20_HomeCrashes_c5.eq_1 ..) ?_ | refine Eq.mpr (B_law20_HomeCrashes_c4.eq_1 ..) ?_ | refine Eq.mpr (B_law20_HomeCrashes_c3.eq_1 ..) ?_ | refine Eq.mpr (B_law20_HomeCrashes_c2.eq_1 ..) ?_ | refine Eq.mpr (B_law20_HomeCrashes_c1.eq_1 ..) ?_) | simp only [XP_extract0, XP_extract1, XP_extract2, XP_extract3, X_extract0, X_extract1, X_extract2, X_extract3, X_nilS, X_eql_nil_74, X_neq_nil_74, X_eql_nil_124, X_neq_nil_124, X_eql, X_neq, X_lss, X_leq, X_gtr, X_geq, X_not, X_min, X_max, X_len_27, X_len_9, X_len_79, XP_nilS, XP_eql, XP_neq, XP_lss, XP_leq, XP_gtr, XP_geq, XP_not, XP_min, XP_max, XP_len_27, XP_len_9, XP_eql_nil_74, X_str_eql, X_str_neq, XP_str_eql, XP_str_neq, GS, gs_u, decide_true, decide_false, Option.isNone_some, Option.isSome_some, Option.isNone_none, Option.isSome_none, eq_self, Bool.not_true, Bool.not_false, Int.reduceEq, Int.reduceNe, Int.reduceLT, Int.reduceLE, Int.reduceGT, Int.reduceGE, c]))
          exact hJ2 _ _ ⟨_, last, next, gen, bh, hd5d, hv5d, t4, ⟨fun h => by omega, fun h => by omega, fun h => by omega⟩, by omega, s25d, r58, r57, r56, r9, r7, r6, r5, r11, r12, r13⟩
    have ne1 : i ≠ m + 1 := fun h => by have := kAe (hAe h); omega
    have c : decide ((kd : Int) = 0) = false := by simp; omega
    (repeat (first | with_reducible (first | refine Eq.mpr (B_law20_HomeCrashes_c7.eq_1 ..) ?_ | refine Eq.mpr (B_law20_HomeCrashes_c5.eq_1 ..) ?_ | refine Eq.mpr (B_law20_HomeCrashes_c4.eq_1 ..) ?_ | refine Eq.mpr (B_law20_HomeCrashes_c3.eq_1 ..) ?_ | refine Eq.mpr (B_law20_HomeCrashes_c2.eq_1 ..) ?_ | refine Eq.mpr (B_law20_HomeCrashes_c1.eq_1 ..) ?_) | simp only [XP_extract0, XP_extract1, XP_extract2, XP_extract3, X_extract0, X_extract1, X_extract2, X_extract3, X_nilS, X_eql_nil_74, X_neq_nil_74, X_eql_nil_124, X_neq_nil_124, X_eql, X_neq, X_lss, X_leq, X_gtr, X_geq, X_not, X_min, X_max, X_len_27, X_len_9, X_len_79, XP_nilS, XP_eql, XP_neq, XP_lss, XP_leq, XP_gtr, XP_geq, XP_not, XP_min, XP_max, XP_len_27, XP_len_9, XP_eql_nil_74, X_str_eql, X_str_neq, XP_str_eql, XP_str_neq, GS, gs_u, decide_true, decide_false, Option.isNone_some, Option.isSome_some, Option.isNone_none, Option.isSome_none, eq_self, Bool.not_true, Bool.not_false, Int.reduceEq, Int.reduceNe, Int.reduceLT, Int.reduceLE, Int.reduceGT, Int.reduceGE, c]))
    try unfold B_law20_HomeCrashes_c5
    by_cases k3 : kd = 3
    · have nm : i ≠ m := fun h => by have := kA4 (hAm h); omega
      have nm2 : i ≠ m + 2 := fun h => by have := kA4 (hA4 h); omega
      have c : decide ((kd : Int) = 3) = true := by simp; omega
      (repeat (first | with_reducible (first | refine Eq.mpr (B_law20_HomeCrashes_c7.eq_1 ..) ?_ | refine Eq.mpr (B_law20_HomeCrashes_c5.eq_1 ..) ?_ | refine Eq.mpr (B_law20_HomeCrashes_c4.eq_1 ..) ?_ | refine Eq.mpr (B_law20_HomeCrashes_c3.eq_1 ..) ?_ | refine Eq.mpr (B_law20_HomeCrashes_c2.eq_1 ..) ?_ | refine Eq.mpr (B_law20_HomeCrashes_c1.eq_1 ..) ?_) | simp only [XP_extract0, XP_extract1, XP_extract2, XP_extract3, X_extract0, X_extract1, X_extract2, X_extract3, X_nilS, X_eql_nil_74, X_neq_nil_74, X_eql_nil_124, X_neq_nil_124, X_eql, X_neq, X_lss, X_leq, X_gtr, X_geq, X_not, X_min, X_max, X_len_27, X_len_9, X_len_79, XP_nilS, XP_eql, XP_neq, XP_lss, XP_leq, XP_gtr, XP_geq, XP_not, XP_min, XP_max, XP_len_27, XP_len_9, XP_eql_nil_74, X_str_eql, X_str_neq, XP_str_eql, XP_str_neq, GS, gs_u, decide_true, decide_false, Option.isNone_some, Option.isSome_some, Option.isNone_none, Option.isSome_none, eq_self, Bool.not_true, Bool.not_false, Int.reduceEq, Int.reduceNe, Int.reduceLT, Int.reduceLE, Int.reduceGT, Int.reduceGE, c]))
      rw [X_field_159_2]
      refine X_loadL agg_3 hqb (v := .int .i64 A.num) rfl ?_
      rw [r7]
      refine Cut_spec haW.num hd4 ?_
      intro w5 hd5 s5
      have hv5 : HomeAt w5 bh b n := s5.keep.get (hd4.notin hv4 (by decide) (by decide) (by decide)) hv4
      exact hJ2 _ _ ⟨_, last, next, gen, bh, hd5, hv5, cst_cut st haW.num, ⟨fun h => by omega, fun h => by omega, fun h => by omega⟩, by omega, s4.trans s5, r58, r57, r56, r9, r7, r6, r5, r11, r12, r13⟩
    have c : decide ((kd : Int) = 3) = false := by simp; omega
    (repeat (first | with_reducible (first | refine Eq.mpr (B_law20_HomeCrashes_c7.eq_1 ..) ?_ | refine Eq.mpr (B_law20_HomeCrashes_c5.eq_1 ..) ?_ | refine Eq.mpr (B_law20_HomeCrashes_c4.eq_1 ..) ?_ | refine Eq.mpr (B_law20_HomeCrashes_c3.eq_1 ..) ?_ | refine Eq.mpr (B_law20_HomeCrashes_c2.eq_1 ..) ?_ | refine Eq.mpr (B_law20_HomeCrashes_c1.eq_1 ..) ?_) | simp only [XP_extract0, XP_extract1, XP_extract2, XP_extract3, X_extract0, X_extract1, X_extract2, X_extract3, X_nilS, X_eql_nil_74, X_neq_nil_74, X_eql_nil_124, X_neq_nil_124, X_eql, X_neq, X_lss, X_leq, X_gtr, X_geq, X_not, X_min, X_max, X_len_27, X_len_9, X_len_79, XP_nilS, XP_eql, XP_neq, XP_lss, XP_leq, XP_gtr, XP_geq, XP_not, XP_min, XP_max, XP_len_27, XP_len_9, XP_eql_nil_74, X_str_eql, X_str_neq, XP_str_eql, XP_str_neq, GS, gs_u, decide_true, decide_false, Option.isNone_some, Option.isSome_some, Option.isNone_none, Option.isSome_none, eq_self, Bool.not_true, Bool.not_false, Int.reduceEq, Int.reduceNe, Int.reduceLT, Int.reduceLE, Int.reduceGT, Int.reduceGE, c]))
    by_cases k4 : kd = 4
    case neg =>
      have nm : i ≠ m := fun h => by have := kA4 (hAm h); omega
      have nm2 : i ≠ m + 2 := fun h => by have := kA4 (hA4 h); omega
      have c : decide ((kd : Int) = 4) = false := by simp; omega
      (repeat (first | with_reducible (first | refine Eq.mpr (B_law20_HomeCrashes_c7.eq_1 ..) ?_ | refine Eq.mpr (B_law20_HomeCrashes_c5.eq_1 ..) ?_ | refine Eq.mpr (B_law20_HomeCrashes_c4.eq_1 ..) ?_ | refine Eq.mpr (B_law20_HomeCrashes_c3.eq_1 ..) ?_ | refine Eq.mpr (B_law20_HomeCrashes_c2.eq_1 ..) ?_ | refine Eq.mpr (B_law20_HomeCrashes_c1.eq_1 ..) ?_) | simp only [XP_extract0, XP_extract1, XP_extract2, XP_extract3, X_extract0, X_extract1, X_extract2, X_extract3, X_nilS, X_eql_nil_74, X_neq_nil_74, X_eql_nil_124, X_neq_nil_124, X_eql, X_neq, X_lss, X_leq, X_gtr, X_geq, X_not, X_min, X_max, X_len_27, X_len_9, X_len_79, XP_nilS, XP_eql, XP_neq, XP_lss, XP_leq, XP_gtr, XP_geq, XP_not, XP_min, XP_max, XP_len_27, XP_len_9, XP_eql_nil_74, X_str_eql, X_str_neq, XP_str_eql, XP_str_neq, GS, gs_u, decide_true, decide_false, Option.isNone_some, Option.isSome_some, Option.isNone_none, Option.isSome_none, eq_self, Bool.not_true, Bool.not_false, Int.reduceEq, Int.reduceNe, Int.reduceLT, Int.reduceLE, Int.reduceGT, Int.reduceGE, c]))
      exact hJ2 _ _ ⟨d, last, next, gen, bh, hd4, hv4, cst_same st, ⟨fun h => by omega, fun h => by omega, fun h => by omega⟩, by omega, s4, r58, r57, r56, r9, r7, r6, r5, r11, r12, r13⟩
    have c : decide ((kd : Int) = 4) = true := by simp; omega
    (repeat (first | with_reducible (first | refine Eq.mpr (B_law20_HomeCrashes_c7.eq_1 ..) ?_ | refine Eq.mpr (B_law20_HomeCrashes_c5.eq_1 ..) ?_ | refine Eq.mpr (B_law20_HomeCrashes_c4.eq_1 ..) ?_ | refine Eq.mpr (B_law20_HomeCrashes_c3.eq_1 ..) ?_ | refine Eq.mpr (B_law20_HomeCrashes_c2.eq_1 ..) ?_ | refine Eq.mpr (B_law20_HomeCrashes_c1.eq_1 ..) ?_) | simp only [XP_extract0, XP_extract1, XP_extract2, XP_extract3, X_extract0, X_extract1, X_extract2, X_extract3, X_nilS, X_eql_nil_74, X_neq_nil_74, X_eql_nil_124, X_neq_nil_124, X_eql, X_neq, X_lss, X_leq, X_gtr, X_geq, X_not, X_min, X_max, X_len_27, X_len_9, X_len_79, XP_nilS, XP_eql, XP_neq, XP_lss, XP_leq, XP_gtr, XP_geq, XP_not, XP_min, XP_max, XP_len_27, XP_len_9, XP_eql_nil_74, X_str_eql, X_str_neq, XP_str_eql, XP_str_neq, GS, gs_u, decide_true, decide_false, Option.isNone_some, Option.isSome_some, Option.isNone_none, Option.isSome_none, eq_self, Bool.not_true, Bool.not_false, Int.reduceEq, Int.reduceNe, Int.reduceLT, Int.reduceLE, Int.reduceGT, Int.reduceGE, c]))
    rw [X_field_159_4]
    refine X_loadL agg_79 hqb (v := A.fv) rfl ?_
    rw [r7]
    refine Crash_spec hd4 (hA4'.fate) (fun h0 k hk hf => hoffA.2 h0 k hk ((hnf4 k).1 hf)) ?_
    intro w5 hd5 s5
    have s25 := s4.trans s5
    obtain ⟨l', g', q1, q2, q3, q4, q5, q6⟩ := cst_crash st A.fates
    have hcd : (d.crash A.fates).dead = false := rfl
    have hcf : (d.crash A.fates).fuse = -1 := rfl
    have hcw : (d.crash A.fates).ws = [] := rfl
    have hcz : (d.crash A.fates).safe.length = N := q4.size
    generalize d.crash A.fates = dc at hd5 q4 q6 hcd hcf hcw hcz ⊢
    rw [r6]
    refine HNew_spec hd5 (fun h => absurd h (by rw [hcz, hN]; have := hok'.1; have := hok'.2.1; omega)) ?_
    intro e' he' _ bh5 w6 hx6 hbh6 hv6
    obtain rfl : e' = n := by omega
    have hd6 := hd5.ext hx6
    have s26 : Step b w2 w6 := s25.trans (Step.ext hx6 (hd5.lt b (foot_self _ _)))
    (repeat (first | with_reducible (first | refine Eq.mpr (B_law20_HomeCrashes_c7.eq_1 ..) ?_ | refine Eq.mpr (B_law20_HomeCrashes_c5.eq_1 ..) ?_ | refine Eq.mpr (B_law20_HomeCrashes_c4.eq_1 ..) ?_ | refine Eq.mpr (B_law20_HomeCrashes_c3.eq_1 ..) ?_ | refine Eq.mpr (B_law20_HomeCrashes_c2.eq_1 ..) ?_ | refine Eq.mpr (B_law20_HomeCrashes_c1.eq_1 ..) ?_) | simp only [XP_extract0, XP_extract1, XP_extract2, XP_extract3, X_extract0, X_extract1, X_extract2, X_extract3, X_nilS, X_eql_nil_74, X_neq_nil_74, X_eql_nil_124, X_neq_nil_124, X_eql, X_neq, X_lss, X_leq, X_gtr, X_geq, X_not, X_min, X_max, X_len_27, X_len_9, X_len_79, XP_nilS, XP_eql, XP_neq, XP_lss, XP_leq, XP_gtr, XP_geq, XP_not, XP_min, XP_max, XP_len_27, XP_len_9, XP_eql_nil_74, X_str_eql, X_str_neq, XP_str_eql, XP_str_neq, GS, gs_u, decide_true, decide_false, Option.isNone_some, Option.isSome_some, Option.isNone_none, Option.isSome_none, eq_self, Bool.not_true, Bool.not_false, Int.reduceEq, Int.reduceNe, Int.reduceLT, Int.reduceLE, Int.reduceGT, Int.reduceGE]))
    try unfold B_law20_HomeCrashes_c4
    (repeat (first | with_reducible (first | refine Eq.mpr (B_law20_HomeCrashes_c7.eq_1 ..) ?_ | refine Eq.mpr (B_law20_HomeCrashes_c5.eq_1 ..) ?_ | refine Eq.mpr (B_law20_HomeCrashes_c4.eq_1 ..) ?_ | refine Eq.mpr (B_law20_HomeCrashes_c3.eq_1 ..) ?_ | refine Eq.mpr (B_law20_HomeCrashes_c2.eq_1 ..) ?_ | refine Eq.mpr (B_law20_HomeCrashes_c1.eq_1 ..) ?_) | simp only [XP_extract0, XP_extract1, XP_extract2, XP_extract3, X_extract0, X_extract1, X_extract2, X_extract3, X_nilS, X_eql_nil_74, X_neq_nil_74, X_eql_nil_124, X_neq_nil_124, X_eql, X_neq, X_lss, X_leq, X_gtr, X_geq, X_not, X_min, X_max, X_len_27, X_len_9, X_len_79, XP_nilS, XP_eql, XP_neq, XP_lss, XP_leq, XP_gtr, XP_geq, XP_not, XP_min, XP_max, XP_len_27, XP_len_9, XP_eql_nil_74, X_str_eql, X_str_neq, XP_str_eql, XP_str_neq, GS, gs_u, decide_true, decide_false, Option.isNone_some, Option.isSome_some, Option.isNone_none, Option.isSome_none, eq_self, Bool.not_true, Bool.not_false, Int.reduceEq, Int.reduceNe, Int.reduceLT, Int.reduceLE, Int.reduceGT, Int.reduceGE, e0, X_eql_nil_150]))
    obtain ⟨l1, l2, l3⟩ := kept_load (each := e') hcd hcw q6
    refine HLoad_spec hv6 hd6 q4.hok' ?_
    intro u w7 hx7 ho7
    rw [l2] at ho7
    rw [l1, l3]
    have hb7 := (own_bts ho7).1
    have hd7 := hd6.ext hx7
    have hv7 : HomeAt w7 bh5 b e' := hx7.get hv6
    have s27 : Step b w2 w7 := s26.trans (Step.ext hx7 (hd6.lt b (foot_self _ _)))
    (repeat (first | with_reducible (first | refine Eq.mpr (B_law20_HomeCrashes_c7.eq_1 ..) ?_ | refine Eq.mpr (B_law20_HomeCrashes_c5.eq_1 ..) ?_ | refine Eq.mpr (B_law20_HomeCrashes_c4.eq_1 ..) ?_ | refine Eq.mpr (B_law20_HomeCrashes_c3.eq_1 ..) ?_ | refine Eq.mpr (B_law20_HomeCrashes_c2.eq_1 ..) ?_ | refine Eq.mpr (B_law20_HomeCrashes_c1.eq_1 ..) ?_) | simp only [XP_extract0, XP_extract1, XP_extract2, XP_extract3, X_extract0, X_extract1, X_extract2, X_extract3, X_nilS, X_eql_nil_74, X_neq_nil_74, X_eql_nil_124, X_neq_nil_124, X_eql, X_neq, X_lss, X_leq, X_gtr, X_geq, X_not, X_min, X_max, X_len_27, X_len_9, X_len_79, XP_nilS, XP_eql, XP_neq, XP_lss, XP_leq, XP_gtr, XP_geq, XP_not, XP_min, XP_max, XP_len_27, XP_len_9, XP_eql_nil_74, X_str_eql, X_str_neq, XP_str_eql, XP_str_neq, GS, gs_u, decide_true, decide_false, Option.isNone_some, Option.isSome_some, Option.isNone_none, Option.isSome_none, eq_self, Bool.not_true, Bool.not_false, Int.reduceEq, Int.reduceNe, Int.reduceLT, Int.reduceLE, Int.reduceGT, Int.reduceGE, e0]))
    refine X_str Try.underlying27 Try.underlying5 Try.underlying9 hb7 ?_
    have egw : IntKind.u64.wrap ((gen : Int) + 1) = ((gen + 1 : Nat) : Int) := by rw [wrap_u64]; omega
    have hb7d := hb7.drew
    have fin : ∀ (ρ' : Env), ρ' 58 = .int .i64 (i : Int) → ρ' 57 = .int .i64 ((m + 3 : Nat) : Int) → ρ' 56 = v26 → ρ' 9 = ptr bh5 → ρ' 7 = ptr b → ρ' 6 = .int .i64 (e' : Int) → ρ' 5 = .bool true → ρ' 11 = .string (str l') → ρ' 12 = .string (str l') → ρ' 13 = .int .u64 (g' : Int) → J2 ρ' (drewW w7) := by
      intro ρ' g58 g57 g56 g9 g7 g6 g5 g11 g12 g13
      have hv8 : HomeAt (drewW w7) bh5 b e' := hv7
      refine hJ2 _ _ ⟨dc, l', l', g', bh5, hd7.ext (Keep.drew _ _), hv8, q4, ⟨fun _ => ⟨hcd, hcf⟩, fun h => by omega, fun h => ?_⟩, by rcases q2 with h | h <;> omega, s27.trans (Step.ext (Keep.drew _ _) (hd7.lt b (foot_self _ _))), g58, g57, g56, g9, g7, g6, g5, g11, g12, g13⟩
      have hh := ex.2.1 (by omega)
      rw [q5 hh.1]
      exact hh.2
    by_cases hl : l' = last
    · have cL := str_neF hl
      by_cases hg : g' = gen
      · have cG : decide ((g' : Int) ≠ (gen : Int)) = false := by simp; omega
        have cE : decide ((g' : Int) = (gen : Int)) = true := by simp; omega
        (repeat (first | with_reducible (first | refine Eq.mpr (B_law20_HomeCrashes_c7.eq_1 ..) ?_ | refine Eq.mpr (B_law20_HomeCrashes_c5.eq_1 ..) ?_ | refine Eq.mpr (B_law20_HomeCrashes_c4.eq_1 ..) ?_ | refine Eq.mpr (B_law20_HomeCrashes_c3.eq_1 ..) ?_ | refine Eq.mpr (B_law20_HomeCrashes_c2.eq_1 ..) ?_ | refine Eq.mpr (B_law20_HomeCrashes_c1.eq_1 ..) ?_) | simp only [XP_extract0, XP_extract1, XP_extract2, XP_extract3, X_extract0, X_extract1, X_extract2, X_extract3, X_nilS, X_eql_nil_74, X_neq_nil_74, X_eql_nil_124, X_neq_nil_124, X_eql, X_neq, X_lss, X_leq, X_gtr, X_geq, X_not, X_min, X_max, X_len_27, X_len_9, X_len_79, XP_nilS, XP_eql, XP_neq, XP_lss, XP_leq, XP_gtr, XP_geq, XP_not, XP_min, XP_max, XP_len_27, XP_len_9, XP_eql_nil_74, X_str_eql, X_str_neq, XP_str_eql, XP_str_neq, GS, gs_u, decide_true, decide_false, Option.isNone_some, Option.isSome_some, Option.isNone_none, Option.isSome_none, eq_self, Bool.not_true, Bool.not_false, Int.reduceEq, Int.reduceNe, Int.reduceLT, Int.reduceLE, Int.reduceGT, Int.reduceGE, r11, r12, r13, cL, cG, cE]))
        refine X_str Try.underlying27 Try.underlying5 Try.underlying9 hb7 ?_
        (repeat (first | with_reducible (first | refine Eq.mpr (B_law20_HomeCrashes_c7.eq_1 ..) ?_ | refine Eq.mpr (B_law20_HomeCrashes_c5.eq_1 ..) ?_ | refine Eq.mpr (B_law20_HomeCrashes_c4.eq_1 ..) ?_ | refine Eq.mpr (B_law20_HomeCrashes_c3.eq_1 ..) ?_ | refine Eq.mpr (B_law20_HomeCrashes_c2.eq_1 ..) ?_ | refine Eq.mpr (B_law20_HomeCrashes_c1.eq_1 ..) ?_) | simp only [XP_extract0, XP_extract1, XP_extract2, XP_extract3, X_extract0, X_extract1, X_extract2, X_extract3, X_nilS, X_eql_nil_74, X_neq_nil_74, X_eql_nil_124, X_neq_nil_124, X_eql, X_neq, X_lss, X_leq, X_gtr, X_geq, X_not, X_min, X_max, X_len_27, X_len_9, X_len_79, XP_nilS, XP_eql, XP_neq, XP_lss, XP_leq, XP_gtr, XP_geq, XP_not, XP_min, XP_max, XP_len_27, XP_len_9, XP_eql_nil_74, X_str_eql, X_str_neq, XP_str_eql, XP_str_neq, GS, gs_u, decide_true, decide_false, Option.isNone_some, Option.isSome_some, Option.isNone_none, Option.isSome_none, eq_self, Bool.not_true, Bool.not_false, Int.reduceEq, Int.reduceNe, Int.reduceLT, Int.reduceLE, Int.reduceGT, Int.reduceGE, r11, r12, r13, cL, cG, cE]))
        refine ⟨Ext, Ext.frame, ?_⟩
        refine XR_str Try.underlying27 Try.underlying5 Try.underlying9 hb7d ?_
        refine XR_str Try.underlying27 Try.underlying5 Try.underlying9 hb7d ?_
        exact fin _ r58 r57 r56 rfl r7 r6 r5 rfl rfl rfl
      · have hg1 : g' = gen + 1 := q2.resolve_left hg
        have cG : decide ((g' : Int) ≠ (gen : Int)) = true := by simp; omega
        have cE : decide ((g' : Int) = (gen : Int)) = false := by simp; omega
        have cH : decide ((g' : Int) ≠ ((gen + 1 : Nat) : Int)) = false := by simp; omega
        (repeat (first | with_reducible (first | refine Eq.mpr (B_law20_HomeCrashes_c7.eq_1 ..) ?_ | refine Eq.mpr (B_law20_HomeCrashes_c5.eq_1 ..) ?_ | refine Eq.mpr (B_law20_HomeCrashes_c4.eq_1 ..) ?_ | refine Eq.mpr (B_law20_HomeCrashes_c3.eq_1 ..) ?_ | refine Eq.mpr (B_law20_HomeCrashes_c2.eq_1 ..) ?_ | refine Eq.mpr (B_law20_HomeCrashes_c1.eq_1 ..) ?_) | simp only [XP_extract0, XP_extract1, XP_extract2, XP_extract3, X_extract0, X_extract1, X_extract2, X_extract3, X_nilS, X_eql_nil_74, X_neq_nil_74, X_eql_nil_124, X_neq_nil_124, X_eql, X_neq, X_lss, X_leq, X_gtr, X_geq, X_not, X_min, X_max, X_len_27, X_len_9, X_len_79, XP_nilS, XP_eql, XP_neq, XP_lss, XP_leq, XP_gtr, XP_geq, XP_not, XP_min, XP_max, XP_len_27, XP_len_9, XP_eql_nil_74, X_str_eql, X_str_neq, XP_str_eql, XP_str_neq, GS, gs_u, decide_true, decide_false, Option.isNone_some, Option.isSome_some, Option.isNone_none, Option.isSome_none, eq_self, Bool.not_true, Bool.not_false, Int.reduceEq, Int.reduceNe, Int.reduceLT, Int.reduceLE, Int.reduceGT, Int.reduceGE, r11, r12, r13, cL, cG, cE, X_add, egw, cH]))
        refine ⟨Ext, Ext.frame, ?_⟩
        refine XR_str Try.underlying27 Try.underlying5 Try.underlying9 hb7d ?_
        refine XR_str Try.underlying27 Try.underlying5 Try.underlying9 hb7d ?_
        exact fin _ r58 r57 r56 rfl r7 r6 r5 rfl rfl rfl
    · have hl2 : l' = next := q1.resolve_left hl
      have hg : g' ≠ gen := fun h => hl (q3 h)
      have hg1 : g' = gen + 1 := q2.resolve_left hg
      have cL := str_neT hl
      have cN := str_neF hl2
      have cG : decide ((g' : Int) ≠ (gen : Int)) = true := by simp; omega
      have cE : decide ((g' : Int) = (gen : Int)) = false := by simp; omega
      have cH : decide ((g' : Int) ≠ ((gen + 1 : Nat) : Int)) = false := by simp; omega
      (repeat (first | with_reducible (first | refine Eq.mpr (B_law20_HomeCrashes_c7.eq_1 ..) ?_ | refine Eq.mpr (B_law20_HomeCrashes_c5.eq_1 ..) ?_ | refine Eq.mpr (B_law20_HomeCrashes_c4.eq_1 ..) ?_ | refine Eq.mpr (B_law20_HomeCrashes_c3.eq_1 ..) ?_ | refine Eq.mpr (B_law20_HomeCrashes_c2.eq_1 ..) ?_ | refine Eq.mpr (B_law20_HomeCrashes_c1.eq_1 ..) ?_) | simp only [XP_extract0, XP_extract1, XP_extract2, XP_extract3, X_extract0, X_extract1, X_extract2, X_extract3, X_nilS, X_eql_nil_74, X_neq_nil_74, X_eql_nil_124, X_neq_nil_124, X_eql, X_neq, X_lss, X_leq, X_gtr, X_geq, X_not, X_min, X_max, X_len_27, X_len_9, X_len_79, XP_nilS, XP_eql, XP_neq, XP_lss, XP_leq, XP_gtr, XP_geq, XP_not, XP_min, XP_max, XP_len_27, XP_len_9, XP_eql_nil_74, X_str_eql, X_str_neq, XP_str_eql, XP_str_neq, GS, gs_u, decide_true, decide_false, Option.isNone_some, Option.isSome_some, Option.isNone_none, Option.isSome_none, eq_self, Bool.not_true, Bool.not_false, Int.reduceEq, Int.reduceNe, Int.reduceLT, Int.reduceLE, Int.reduceGT, Int.reduceGE, r11, r12, r13, cL]))
      refine X_str Try.underlying27 Try.underlying5 Try.underlying9 hb7 ?_
      (repeat (first | with_reducible (first | refine Eq.mpr (B_law20_HomeCrashes_c7.eq_1 ..) ?_ | refine Eq.mpr (B_law20_HomeCrashes_c5.eq_1 ..) ?_ | refine Eq.mpr (B_law20_HomeCrashes_c4.eq_1 ..) ?_ | refine Eq.mpr (B_law20_HomeCrashes_c3.eq_1 ..) ?_ | refine Eq.mpr (B_law20_HomeCrashes_c2.eq_1 ..) ?_ | refine Eq.mpr (B_law20_HomeCrashes_c1.eq_1 ..) ?_) | simp only [XP_extract0, XP_extract1, XP_extract2, XP_extract3, X_extract0, X_extract1, X_extract2, X_extract3, X_nilS, X_eql_nil_74, X_neq_nil_74, X_eql_nil_124, X_neq_nil_124, X_eql, X_neq, X_lss, X_leq, X_gtr, X_geq, X_not, X_min, X_max, X_len_27, X_len_9, X_len_79, XP_nilS, XP_eql, XP_neq, XP_lss, XP_leq, XP_gtr, XP_geq, XP_not, XP_min, XP_max, XP_len_27, XP_len_9, XP_eql_nil_74, X_str_eql, X_str_neq, XP_str_eql, XP_str_neq, GS, gs_u, decide_true, decide_false, Option.isNone_some, Option.isSome_some, Option.isNone_none, Option.isSome_none, eq_self, Bool.not_true, Bool.not_false, Int.reduceEq, Int.reduceNe, Int.reduceLT, Int.reduceLE, Int.reduceGT, Int.reduceGE, r11, r12, r13, cL, cN, cG, cE, X_add, egw, cH]))
      refine ⟨Ext, Ext.frame, ?_⟩
      refine XR_str Try.underlying27 Try.underlying5 Try.underlying9 hb7d ?_
      refine XR_str Try.underlying27 Try.underlying5 Try.underlying9 hb7d ?_
      exact fin _ r58 r57 r56 rfl r7 r6 r5 rfl rfl rfl
  · rintro ρ3 wr ⟨hx, r5, r11⟩
    rw [inBlockS_same, thenS_normal, r5, r11]
    have cz : decide ((endB : List UInt8) = [101, 110, 100]) = true := by decide
    (repeat (first | with_reducible (first | refine Eq.mpr (B_law20_HomeCrashes_c7.eq_1 ..) ?_ | refine Eq.mpr (B_law20_HomeCrashes_c5.eq_1 ..) ?_ | refine Eq.mpr (B_law20_HomeCrashes_c4.eq_1 ..) ?_ | refine Eq.mpr (B_law20_HomeCrashes_c3.eq_1 ..) ?_ | refine Eq.mpr (B_law20_HomeCrashes_c2.eq_1 ..) ?_ | refine Eq.mpr (B_law20_HomeCrashes_c1.eq_1 ..) ?_) | simp only [XP_extract0, XP_extract1, XP_extract2, XP_extract3, X_extract0, X_extract1, X_extract2, X_extract3, X_nilS, X_eql_nil_74, X_neq_nil_74, X_eql_nil_124, X_neq_nil_124, X_eql, X_neq, X_lss, X_leq, X_gtr, X_geq, X_not, X_min, X_max, X_len_27, X_len_9, X_len_79, XP_nilS, XP_eql, XP_neq, XP_lss, XP_leq, XP_gtr, XP_geq, XP_not, XP_min, XP_max, XP_len_27, XP_len_9, XP_eql_nil_74, X_str_eql, X_str_neq, XP_str_eql, XP_str_neq, GS, gs_u, decide_true, decide_false, Option.isNone_some, Option.isSome_some, Option.isNone_none, Option.isSome_none, eq_self, Bool.not_true, Bool.not_false, Int.reduceEq, Int.reduceNe, Int.reduceLT, Int.reduceLE, Int.reduceGT, Int.reduceGE, str_lit2, str_toList, l8_beq, cz]))
    exact ⟨trivial, hx⟩
set_option maxHeartbeats 1000000 in
set_option maxRecDepth 8000 in
theorem homeCrashes_run {e : Nat} (he : e < 256) {v1 : Value} {l : List DAct} (W : World) (h1 : RowK 5 DAct.cs W v1 l) (hin : ∀ a ∈ l, a.In W) :
    CALL Try.prog 39 #[.int .u8 (e : Int), v1] W (fun v w' => v = .bool true ∧ Ext W w') := by
  apply call_law20_HomeCrashes
  unfold B_law20_HomeCrashes
  refine shown20 ?_
  intro w1 hx1
  refine X_of (run_rem 5 .u8 _ 8 (by decide) _) ?_
  obtain ⟨n, hn⟩ : ∃ n, n = e % 8 + 1 := ⟨_, rfl⟩
  have er : ((e : Nat) : Int).tmod 8 = ((e % 8 : Nat) : Int) := rfl
  have en : ((e % 8 : Nat) : Int) + 1 = (n : Int) := by omega
  rw [er]
  (repeat (first | with_reducible (first | refine Eq.mpr (B_law20_HomeCrashes_c7.eq_1 ..) ?_ | refine Eq.mpr (B_law20_HomeCrashes_c5.eq_1 ..) ?_ | refine Eq.mpr (B_law20_HomeCrashes_c4.eq_1 ..) ?_ | refine Eq.mpr (B_law20_HomeCrashes_c3.eq_1 ..) ?_ | refine Eq.mpr (B_law20_HomeCrashes_c2.eq_1 ..) ?_ | refine Eq.mpr (B_law20_HomeCrashes_c1.eq_1 ..) ?_) | simp only [XP_extract0, XP_extract1, XP_extract2, XP_extract3, X_extract0, X_extract1, X_extract2, X_extract3, X_nilS, X_eql_nil_74, X_neq_nil_74, X_eql_nil_124, X_neq_nil_124, X_eql, X_neq, X_lss, X_leq, X_gtr, X_geq, X_not, X_min, X_max, X_len_27, X_len_9, X_len_79, XP_nilS, XP_eql, XP_neq, XP_lss, XP_leq, XP_gtr, XP_geq, XP_not, XP_min, XP_max, XP_len_27, XP_len_9, XP_eql_nil_74, X_str_eql, X_str_neq, XP_str_eql, XP_str_neq, GS, gs_u, decide_true, decide_false, Option.isNone_some, Option.isSome_some, Option.isNone_none, Option.isSome_none, eq_self, Bool.not_true, Bool.not_false, Int.reduceEq, Int.reduceNe, Int.reduceLT, Int.reduceLE, Int.reduceGT, Int.reduceGE]))
  rw [X_conv_5_3, w64 (by omega) (by omega)]
  (repeat (first | with_reducible (first | refine Eq.mpr (B_law20_HomeCrashes_c7.eq_1 ..) ?_ | refine Eq.mpr (B_law20_HomeCrashes_c5.eq_1 ..) ?_ | refine Eq.mpr (B_law20_HomeCrashes_c4.eq_1 ..) ?_ | refine Eq.mpr (B_law20_HomeCrashes_c3.eq_1 ..) ?_ | refine Eq.mpr (B_law20_HomeCrashes_c2.eq_1 ..) ?_ | refine Eq.mpr (B_law20_HomeCrashes_c1.eq_1 ..) ?_) | simp only [XP_extract0, XP_extract1, XP_extract2, XP_extract3, X_extract0, X_extract1, X_extract2, X_extract3, X_nilS, X_eql_nil_74, X_neq_nil_74, X_eql_nil_124, X_neq_nil_124, X_eql, X_neq, X_lss, X_leq, X_gtr, X_geq, X_not, X_min, X_max, X_len_27, X_len_9, X_len_79, XP_nilS, XP_eql, XP_neq, XP_lss, XP_leq, XP_gtr, XP_geq, XP_not, XP_min, XP_max, XP_len_27, XP_len_9, XP_eql_nil_74, X_str_eql, X_str_neq, XP_str_eql, XP_str_neq, GS, gs_u, decide_true, decide_false, Option.isNone_some, Option.isSome_some, Option.isNone_none, Option.isSome_none, eq_self, Bool.not_true, Bool.not_false, Int.reduceEq, Int.reduceNe, Int.reduceLT, Int.reduceLE, Int.reduceGT, Int.reduceGE]))
  rw [X_add, w64 (by omega) (by omega), en, X_mul, w64 (by omega) (by omega)]
  (repeat (first | with_reducible (first | refine Eq.mpr (B_law20_HomeCrashes_c7.eq_1 ..) ?_ | refine Eq.mpr (B_law20_HomeCrashes_c5.eq_1 ..) ?_ | refine Eq.mpr (B_law20_HomeCrashes_c4.eq_1 ..) ?_ | refine Eq.mpr (B_law20_HomeCrashes_c3.eq_1 ..) ?_ | refine Eq.mpr (B_law20_HomeCrashes_c2.eq_1 ..) ?_ | refine Eq.mpr (B_law20_HomeCrashes_c1.eq_1 ..) ?_) | simp only [XP_extract0, XP_extract1, XP_extract2, XP_extract3, X_extract0, X_extract1, X_extract2, X_extract3, X_nilS, X_eql_nil_74, X_neq_nil_74, X_eql_nil_124, X_neq_nil_124, X_eql, X_neq, X_lss, X_leq, X_gtr, X_geq, X_not, X_min, X_max, X_len_27, X_len_9, X_len_79, XP_nilS, XP_eql, XP_neq, XP_lss, XP_leq, XP_gtr, XP_geq, XP_not, XP_min, XP_max, XP_len_27, XP_len_9, XP_eql_nil_74, X_str_eql, X_str_neq, XP_str_eql, XP_str_neq, GS, gs_u, decide_true, decide_false, Option.isNone_some, Option.isSome_some, Option.isNone_none, Option.isSome_none, eq_self, Bool.not_true, Bool.not_false, Int.reduceEq, Int.reduceNe, Int.reduceLT, Int.reduceLE, Int.reduceGT, Int.reduceGE]))
  rw [X_add, w64 (by omega) (by omega)]
  have eN : (2 : Int) + 2 * (n : Int) = ((2 + 2 * n : Nat) : Int) := by omega
  rw [eN]
  refine New_disk (fun h => absurd h (by omega)) ?_
  intro m hm _ b w2 hx2 hlow hd2
  obtain rfl : m = 2 + 2 * n := by omega
  have e0 : decide ((0 : Int) ≠ 0) = false := by decide
  (repeat (first | with_reducible (first | refine Eq.mpr (B_law20_HomeCrashes_c7.eq_1 ..) ?_ | refine Eq.mpr (B_law20_HomeCrashes_c5.eq_1 ..) ?_ | refine Eq.mpr (B_law20_HomeCrashes_c4.eq_1 ..) ?_ | refine Eq.mpr (B_law20_HomeCrashes_c3.eq_1 ..) ?_ | refine Eq.mpr (B_law20_HomeCrashes_c2.eq_1 ..) ?_ | refine Eq.mpr (B_law20_HomeCrashes_c1.eq_1 ..) ?_) | simp only [XP_extract0, XP_extract1, XP_extract2, XP_extract3, X_extract0, X_extract1, X_extract2, X_extract3, X_nilS, X_eql_nil_74, X_neq_nil_74, X_eql_nil_124, X_neq_nil_124, X_eql, X_neq, X_lss, X_leq, X_gtr, X_geq, X_not, X_min, X_max, X_len_27, X_len_9, X_len_79, XP_nilS, XP_eql, XP_neq, XP_lss, XP_leq, XP_gtr, XP_geq, XP_not, XP_min, XP_max, XP_len_27, XP_len_9, XP_eql_nil_74, X_str_eql, X_str_neq, XP_str_eql, XP_str_neq, GS, gs_u, decide_true, decide_false, Option.isNone_some, Option.isSome_some, Option.isNone_none, Option.isSome_none, eq_self, Bool.not_true, Bool.not_false, Int.reduceEq, Int.reduceNe, Int.reduceLT, Int.reduceLE, Int.reduceGT, Int.reduceGE]))
  refine HNew_spec hd2 (fun h => absurd h (by rw [new_size]; omega)) ?_
  intro e' he' hok' bh w3 hx3 hbh hv3
  obtain rfl : e' = n := by omega
  rw [new_size] at hok'
  have hx03 : Ext W w3 := (hx1.trans hx2).trans hx3
  have hb2_lt := hd2.lt b (foot_self _ _)
  have low3 : ∀ k, foot w3 b k → W.heap.size ≤ k := fun k hk => Nat.le_trans hx1.size (hlow k ((foot_x hx3 hb2_lt).1 hk))
  have lt3 : ∀ k, foot w3 b k → k < w3.heap.size := (hd2.ext hx3).lt
  (repeat (first | with_reducible (first | refine Eq.mpr (B_law20_HomeCrashes_c7.eq_1 ..) ?_ | refine Eq.mpr (B_law20_HomeCrashes_c5.eq_1 ..) ?_ | refine Eq.mpr (B_law20_HomeCrashes_c4.eq_1 ..) ?_ | refine Eq.mpr (B_law20_HomeCrashes_c3.eq_1 ..) ?_ | refine Eq.mpr (B_law20_HomeCrashes_c2.eq_1 ..) ?_ | refine Eq.mpr (B_law20_HomeCrashes_c1.eq_1 ..) ?_) | simp only [XP_extract0, XP_extract1, XP_extract2, XP_extract3, X_extract0, X_extract1, X_extract2, X_extract3, X_nilS, X_eql_nil_74, X_neq_nil_74, X_eql_nil_124, X_neq_nil_124, X_eql, X_neq, X_lss, X_leq, X_gtr, X_geq, X_not, X_min, X_max, X_len_27, X_len_9, X_len_79, XP_nilS, XP_eql, XP_neq, XP_lss, XP_leq, XP_gtr, XP_geq, XP_not, XP_min, XP_max, XP_len_27, XP_len_9, XP_eql_nil_74, X_str_eql, X_str_neq, XP_str_eql, XP_str_neq, GS, gs_u, decide_true, decide_false, Option.isNone_some, Option.isSome_some, Option.isNone_none, Option.isSome_none, eq_self, Bool.not_true, Bool.not_false, Int.reduceEq, Int.reduceNe, Int.reduceLT, Int.reduceLE, Int.reduceGT, Int.reduceGE, X_eql_nil_150]))
  try unfold B_law20_HomeCrashes_c7
  (repeat (first | with_reducible (first | refine Eq.mpr (B_law20_HomeCrashes_c7.eq_1 ..) ?_ | refine Eq.mpr (B_law20_HomeCrashes_c5.eq_1 ..) ?_ | refine Eq.mpr (B_law20_HomeCrashes_c4.eq_1 ..) ?_ | refine Eq.mpr (B_law20_HomeCrashes_c3.eq_1 ..) ?_ | refine Eq.mpr (B_law20_HomeCrashes_c2.eq_1 ..) ?_ | refine Eq.mpr (B_law20_HomeCrashes_c1.eq_1 ..) ?_) | simp only [XP_extract0, XP_extract1, XP_extract2, XP_extract3, X_extract0, X_extract1, X_extract2, X_extract3, X_nilS, X_eql_nil_74, X_neq_nil_74, X_eql_nil_124, X_neq_nil_124, X_eql, X_neq, X_lss, X_leq, X_gtr, X_geq, X_not, X_min, X_max, X_len_27, X_len_9, X_len_79, XP_nilS, XP_eql, XP_neq, XP_lss, XP_leq, XP_gtr, XP_geq, XP_not, XP_min, XP_max, XP_len_27, XP_len_9, XP_eql_nil_74, X_str_eql, X_str_neq, XP_str_eql, XP_str_neq, GS, gs_u, decide_true, decide_false, Option.isNone_some, Option.isSome_some, Option.isNone_none, Option.isSome_none, eq_self, Bool.not_true, Bool.not_false, Int.reduceEq, Int.reduceNe, Int.reduceLT, Int.reduceLE, Int.reduceGT, Int.reduceGE, e0]))
  refine X_of (run_empty157 _) ?_
  have hx4 := newB_ext w3 #[] 159
  have ho4 := ownK_empty (k := 5) (e := 159) (f := DAct.cs) w3
  have hx04 : Ext W (newB w3 #[] 159) := hx03.trans hx4
  generalize newB w3 #[] 159 = w4 at hx4 ho4 hx04 ⊢
  refine few20_spec (h1.ext hx04) (fun a ha => (hin a ha).ext hx04) ?_
  intro m v3 hm50 hml hr3 hbs
  have hrow3 := hr3 W h1
  have hin3 : ∀ a ∈ l.take m, a.In W := fun a ha => hin a (List.mem_of_mem_take ha)
  have hlen3 : (l.take m).length = m := by simp; omega
  generalize l.take m = l3 at hrow3 hin3 hlen3 hbs
  refine X_appendK (bytes := 72) Try.underlying157 el_159 (by decide) cs_len (fun x hx u hu => DAct.one (hin3 x hx) u hu) ho4 (hrow3.ext hx04) (by show (0 + l3.length) * 72 ≤ _; omega) (by decide) hx4.size ?_
  intro v5 w5 ho5 hk5
  rw [List.nil_append] at ho5
  have hx35 : Ext w3 w5 := Ext.seq hx4 hk5 (fun k hk => (ho4.lt k hk.symm).1)
  refine X_of (run_build_159a _) ?_
  refine X_of (lit_end _) ?_
  refine bts_conv [101, 110, 100] 3 rfl (by decide) ?_
  intro ve w6 hx6 hbe hke
  obtain ⟨ae, ce, ee⟩ := Bts.slice hbe
  have hx36 : Ext w3 w6 := hx35.trans hx6
  rw [ee]
  refine X_of (run_build_159b _ _ _ _) ?_
  refine X_of (run_build_159a _) ?_
  refine X_of (run_three _ _ _ _) ?_
  have e3 : [A4, Aend ve, A4].length = 3 := rfl
  have hx7 := newB_ext w6 (cellsK DAct.cs [A4, Aend ve, A4]).toArray 159
  have hr7 := RowK.ofK (k := 5) (by decide) cs_len (newB_get w6 (cellsK DAct.cs [A4, Aend ve, A4]).toArray 159) e3 (by decide)
  have ecs : (cellsK DAct.cs [A4, Aend ve, A4]).toArray = #[.int .u8 4, .int .i64 0, .int .i64 0, .slice none 0 0, .slice none 0 0, .int .u8 0, .int .i64 0, .int .i64 0, .slice ae 3 ce, .slice none 0 0, .int .u8 4, .int .i64 0, .int .i64 0, .slice none 0 0, .slice none 0 0] := by
    rw [ee]; rfl
  show X _ _ (newB w6 #[.int .u8 4, .int .i64 0, .int .i64 0, .slice none 0 0, .slice none 0 0, .int .u8 0, .int .i64 0, .int .i64 0, .slice ae 3 ce, .slice none 0 0, .int .u8 4, .int .i64 0, .int .i64 0, .slice none 0 0, .slice none 0 0] 159) _
  rw [← ecs]
  generalize newB w6 (cellsK DAct.cs [A4, Aend ve, A4]).toArray 159 = w7 at hx7 hr7 ⊢
  have hx57 : Ext w5 w7 := hx6.trans hx7
  have ho7 := ho5.ext hx57
  have hin7 : ∀ x ∈ [A4, Aend ve, A4], ∀ u ∈ DAct.cs x, u.oneCell' = true := by
    intro x hx u hu
    have : x.In w6 := by
      simp only [List.mem_cons, List.not_mem_nil, or_false] at hx
      rcases hx with rfl | rfl | rfl
      · exact a4_in _
      · exact ⟨by show 0 < 256; decide, by show (0 : Int) ≤ _; decide, hbe, row_none _ _⟩
      · exact a4_in _
    exact DAct.one this u hu
  refine X_appendK (bytes := 72) Try.underlying157 el_159 (by decide) cs_len hin7 ho7 hr7 (by rw [hlen3, e3]; omega) (by decide) (Nat.le_trans hx35.size hx57.size) ?_
  intro v8 w8 ho8 hk8
  have hx78 : Ext w3 w8 := Ext.seq (hx35.trans hx57) hk8 (fun k hk => (ho7.lt k hk.symm).1)
  obtain ⟨a8, c8, e8⟩ := own_sl ho8
  have hL : (l3 ++ [A4, Aend ve, A4]).length = m + 3 := by rw [List.length_append, hlen3, e3]
  rw [hL] at e8
  rw [e8]
  (repeat (first | with_reducible (first | refine Eq.mpr (B_law20_HomeCrashes_c7.eq_1 ..) ?_ | refine Eq.mpr (B_law20_HomeCrashes_c5.eq_1 ..) ?_ | refine Eq.mpr (B_law20_HomeCrashes_c4.eq_1 ..) ?_ | refine Eq.mpr (B_law20_HomeCrashes_c3.eq_1 ..) ?_ | refine Eq.mpr (B_law20_HomeCrashes_c2.eq_1 ..) ?_ | refine Eq.mpr (B_law20_HomeCrashes_c1.eq_1 ..) ?_) | simp only [XP_extract0, XP_extract1, XP_extract2, XP_extract3, X_extract0, X_extract1, X_extract2, X_extract3, X_nilS, X_eql_nil_74, X_neq_nil_74, X_eql_nil_124, X_neq_nil_124, X_eql, X_neq, X_lss, X_leq, X_gtr, X_geq, X_not, X_min, X_max, X_len_27, X_len_9, X_len_79, XP_nilS, XP_eql, XP_neq, XP_lss, XP_leq, XP_gtr, XP_geq, XP_not, XP_min, XP_max, XP_len_27, XP_len_9, XP_eql_nil_74, X_str_eql, X_str_neq, XP_str_eql, XP_str_neq, GS, gs_u, decide_true, decide_false, Option.isNone_some, Option.isSome_some, Option.isNone_none, Option.isSome_none, eq_self, Bool.not_true, Bool.not_false, Int.reduceEq, Int.reduceNe, Int.reduceLT, Int.reduceLE, Int.reduceGT, Int.reduceGE, X_len_157]))
  rw [← e8]
  have hd8 := hd2.ext (hx3.trans hx78)
  have hv8 : HomeAt w8 bh b e' := hx78.get hv3
  have hx08 : Ext W w8 := hx03.trans hx78
  have hb3_lt := (hd2.ext hx3).lt b (foot_self _ _)
  have foot8 : ∀ k, foot w8 b k ↔ foot w3 b k := fun k => foot_x hx78 hb3_lt
  have low8 : ∀ k, foot w8 b k → W.heap.size ≤ k := fun k hk => low3 k ((foot8 k).1 hk)
  have hbe8 : Bts w8 ve endB := (hbe.ext hx7).keep hk8 (fun k hk hk' => by
    have h1 := (ho5.lt k hk'.symm).2
    have h2 := (hke k hk).1
    omega)
  have hke8 : ∀ k, ve.ownBlock = some k → ¬ foot w8 b k ∧ k < w8.heap.size := fun k hk => by
    obtain ⟨k1, k2⟩ := hke k hk
    refine ⟨fun hf => ?_, ?_⟩
    · have := lt3 k ((foot8 k).1 hf)
      have := hx35.size
      omega
    · have := hx7.size
      have := hk8.size
      omega
  with_reducible refine homeCrashes_loop (L := l3 ++ [A4, Aend ve, A4]) (ve := ve) rfl hok' (by omega) hm50 hL ?_ ?_ ?_ hx08 low8 hd8 hv8 ?_ ?_ ?_ ?_
  · intro h
    rw [List.getElem_append_right (by omega)]
    simp [hlen3]
  · intro h
    rw [List.getElem_append_right (by omega)]
    simp [hlen3]
  · intro h
    rw [List.getElem_append_right (by omega)]
    simp [hlen3]
  · intro wr s
    refine (ho8.keep s.keep (fun g hg hf => ?_)).rowK (by decide) cs_len
    obtain ⟨cs, hcs⟩ := own_blkT ho8 hg
    exact hd8.notin hcs (by decide) (by decide) (by decide) hf
  · intro wr hxw s a ha
    rcases List.mem_append.1 ha with ha | ha
    · exact (hin3 a ha).ext hxw
    · simp only [List.mem_cons, List.not_mem_nil, or_false] at ha
      rcases ha with rfl | rfl | rfl
      · exact a4_in _
      · exact ⟨by show 0 < 256; decide, by show (0 : Int) ≤ _; decide, hbe8.keep s.keep (fun k hk => (hke8 k hk).1), row_none _ _⟩
      · exact a4_in _
  · intro wr s lowr a ha
    rcases List.mem_append.1 ha with ha | ha
    · exact ⟨off_of (hin3 a ha) lowr, hbs a ha⟩
    · simp only [List.mem_cons, List.not_mem_nil, or_false] at ha
      rcases ha with rfl | rfl | rfl
      · exact ⟨⟨fun h => absurd h (by decide), fun h => absurd h (by decide)⟩, by decide⟩
      · refine ⟨⟨fun _ k hk hf => ?_, fun h => absurd h (by show ¬ 0 < 0; decide)⟩, by show 3 ≤ 20000; decide⟩
        obtain ⟨n1, n2⟩ := hke8 k hk
        rcases s.grow k hf with h | h
        · exact n1 h
        · omega
      · exact ⟨⟨fun h => absurd h (by decide), fun h => absurd h (by decide)⟩, by decide⟩
  · intro a ha h0 k hk
    rcases List.mem_append.1 ha with ha | ha
    · exact Nat.lt_of_lt_of_le ((hin3 a ha).bts.blk_lt h0 k hk) hx08.size
    · simp only [List.mem_cons, List.not_mem_nil, or_false] at ha
      rcases ha with rfl | rfl | rfl
      · exact absurd h0 (by decide)
      · exact (hke8 k hk).2
      · exact absurd h0 (by decide)
theorem homeCrashes_walk {H : Type} (enc : TypeId × Value → H) (W : World) (v0 v1 : Value) {base : Nat} (ok0 : Value.okWide Try.prog W .any base 5 v0) (ok1 : Value.okWide Try.prog W .any base 157 v1) (d0 : DataW H) (p0 : List MemPlace) (d1 : DataW H) (p1 : List MemPlace) (h0 : DataW.Trod enc Try.prog W 0 (fun _ => true) true 5 v0 d0 p0) (h1 : DataW.Trod enc Try.prog W 0 (fun _ => true) true 157 v1 d1 p1) (hsz : (DataW.weightsEach Try.prog [5, 157] [d0, d1]).all (· ≤ reachBytes) = true) :
    CALL Try.prog 39 #[v0, v1] W (fun v w' => v = .bool true ∧ Ext W w') := by
  obtain ⟨e, rfl, he⟩ := arg_u8 Try.underlying5 ok0 h0
  obtain ⟨l, hl, hin⟩ := arg_acts20 ok1 h1
  exact homeCrashes_run he W hl hin
end
set_option maxRecDepth 100000 in
theorem homeCrashes_lifted (os : Os) (started : os.Started) (H : Type) (enc : TypeId × Value → H) :
    ReturnsInHanded {} Try.checked os 39 .any (Rows.homeCrashesSpec.pre6 enc Try.prog Try.f39 Rows.homeCrashesRow.domain false) (Rows.homeCrashesSpec.post enc Try.prog Try.f39 false true false false) := by
  refine returnsInHanded_of_change_sized (C := Try.checked) (by kernel_rfl) started (by kernel_rfl) Try.func39
    (ChangeSpec.witness6 (enc := enc) (C := Try.checked) false ⟨#[], #[(.int .u8 0), (.slice none 0 0)], []⟩ 8 (by kernel_rfl) (by kernel_rfl) (by kernel_rfl) (by kernel_rfl)) ?_
  intro W base args ds gs before hval0 hW hcnd hsz0 _
  have hval : ∀ (j : Nat) t v, Try.f39.params[j]? = some t → args[j]? = some v → Value.okWide Try.prog W .any base t v := hval0
  have hW' := hW
  obtain ⟨p, q, hA0, hV, rfl, hfz, hnd⟩ := hW
  have hA : DataW.TrodAll enc Try.prog W 0 (fun _ => true) true Try.f39.params.toList args.toList ds p := hA0
  rw [Try.params39] at hA hval
  obtain ⟨v0, vs0, d0, ds0, p0, q0, hargs, rfl, rfl, h0, r0⟩ := trodAll_cons hA
  obtain ⟨v1, vs1, d1, ds1, p1, q1, rfl, rfl, rfl, h1, r1⟩ := trodAll_cons r0
  obtain ⟨rfl, rfl, rfl⟩ := trodAll_nil r1
  obtain rfl : args = #[v0, v1] := by cases args; simp_all
  obtain ⟨rfl, rfl⟩ := trodVars_none hV
  have hsz : (DataW.weightsEach Try.prog [5, 157] [d0, d1]).all (· ≤ reachBytes) = true := hsz0
  have hw := homeCrashes_walk enc W v0 v1 (hval 0 5 v0 rfl rfl) (hval 1 157 v1 rfl rfl) d0 p0 d1 p1 h0 h1 hsz
  refine (CALL_calls hw).mono fun e W' he => ?_
  cases e with
  | returned v =>
    obtain ⟨rfl, hx⟩ := he
    exact ⟨_, rfl, law_post (P := Try.prog) laidOut (by kernel_rfl) rfl rfl rfl Try.underlying4 hW' hx⟩
  | panicked c => exact he.elim
  | outgrown => exact he.elim

theorem homeCrashes_closed : joinedFacts Try.prog 39 Try.f39 Rows.homeCrashesSpec Rows.homeCrashesRow = true := by
  unfold joinedFacts
  rw [mayEnter_is, liftsFinal_is, make_is]
  kernel_rfl
/-- For every input that the row lets in, cellarage/cellaragelaw20.HomeCrashes returns true, and what was there stays as it was. -/
theorem homeCrashes_holds : Rows.HomeCrashesSaid :=
  OpenClaim.holds_of_wide 39 Try.f39 rfl rfl rfl rfl rfl rfl rfl ⟨rfl, rfl, rfl, rfl, rfl⟩ rfl rfl rfl rfl rfl (by kernel_rfl) Try.func39 homeCrashes_closed
    (of_decide_eq_true (by kernel_rfl)) (by unfold Func.isWrapper; first | (rw [if_pos (by decide +kernel)]; kernel_rfl) | (rw [if_neg (by decide +kernel)]; exact ⟨rfl, rfl⟩))
    (fun os started H enc _ => homeCrashes_lifted os started H enc)
#print axioms homeCrashes_holds
end Go.Proofs.Ytggggfcgnkllgaa
