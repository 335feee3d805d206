/- Part 14 of what the law is proved with. -/
import Derived.Test.YtcigpjejbkngfaaGreatDoorQTR13
set_option linter.unusedVariables false
set_option linter.unusedSimpArgs false
section
set_option maxRecDepth 8000
namespace Go.Proofs.YtcigpjejbkngfaaGreatDoor
open Go Go.Sh Go.RowKit
attribute [local irreducible] X XU XP XR CALL loopS resC closS
structure TabAt (w : World) : Prop where
  ex : ∀ i, i < 64 → ∃ z : Int, w.cell? ⟨0, i, none⟩ = some (.int .u8 z)
theorem TabAt.keep {w w1 : World} {E : Nat → Prop} (h : TabAt w) (k : Keep E w w1) (h0 : ¬ E 0) : TabAt w1 := by
  refine ⟨fun i hi => ?_⟩
  obtain ⟨z, hz⟩ := h.ex i hi
  exact ⟨z, k.cell h0 hz⟩
theorem TabAt.ext {w w1 : World} (h : TabAt w) (k : Ext w w1) : TabAt w1 := h.keep k (fun h => h)
theorem u64_neg (x : Nat) (h0 : 0 < x) (hx : x < 18446744073709551616) (w : World) : (Op.unary .neg (.int .u64 (x : Int))).run Tryz.prog w = .ok (.int .u64 ((18446744073709551616 - x : Nat) : Int)) w := by
  have e : IntKind.u64.wrap (0 - (x : Int)) = ((18446744073709551616 - x : Nat) : Int) := by rw [wrap_u64]; omega
  rw [← e]
  simp [Op.unary, Op.intArith]
theorem ix137 (b o i : Nat) (k : IntKind) (h : i < 64) (w : World) : (Instr.indexAt 137 (.pointer (some ⟨b, o, none⟩)) (.int k (i : Int))).run Tryz.prog w = .ok (.pointer (some ⟨b, o + i, none⟩)) w := by
  rw [ix_arr Tryz.underlying137 info_5 i rfl h w, sz_5, Nat.mul_one, add_plain]
theorem wd_drop {c j : Nat} (hc : c ≤ 64) (hj : j < c) : (2 ^ c - 2 ^ j) &&& (2 ^ c - 2 ^ j - 1) = 2 ^ c - 2 ^ (j + 1) := bits_drop c (by omega) j hj
theorem pow_le64 {c : Nat} (hc : c ≤ 64) : 2 ^ c ≤ 18446744073709551616 := by
  have : 2 ^ c ≤ 2 ^ 64 := Nat.pow_le_pow_right (by decide) hc
  exact this
section
variable {w : World} {K : Value → World → Prop}
theorem Hold_spec {sb wb n m : Nat} (h : SpAt w sb wb n m) (hm : m < n) (hK : ∀ w1, Keep (fun g => g = sb ∨ g = wb) w w1 → SpAt w1 sb wb n (m + 1) → K (.int .i64 0) w1) : CALL Tryz.prog 72 #[ptr sb, .int .i64 (m : Int)] w K := by
  have hne : sb ≠ wb := fun he => by
    have h1 := h.h
    have h2 := h.ws
    rw [he, h2] at h1
    injection h1 with h1
    injection h1 with _ h1 _
    exact absurd h1 (by decide)
  have hs := h.small
  apply call_space_Space_Hold
  unfold B_space_Space_Hold
  (repeat (simp only [SLB, Int.reduceEq, Int.reduceNe, Int.reduceLT, Int.reduceLE, Int.reduceGT, Int.reduceGE]))
  refine there_spec h ?_
  rw [decide_eq_true hm]
  (repeat (simp only [SLB, Int.reduceEq, Int.reduceNe, Int.reduceLT, Int.reduceLE, Int.reduceGT, Int.reduceGE]))
  refine Has_spec' h (by omega) ?_
  rw [decide_eq_false (Nat.lt_irrefl m)]
  (repeat (simp only [SLB, Int.reduceEq, Int.reduceNe, Int.reduceLT, Int.reduceLE, Int.reduceGT, Int.reduceGE]))
  apply call_space_Space_turn
  unfold B_space_Space_turn
  have kd := Keep.drew (fun _ => False) w
  have hd := h.ext kd
  have hi : m / 64 < (n + 63) / 64 := by omega
  refine ⟨Ext, Ext.frame, ?_⟩
  generalize drewW w = wd' at kd hd ⊢
  (repeat (simp only [SLB, Int.reduceEq, Int.reduceNe, Int.reduceLT, Int.reduceLE, Int.reduceGT, Int.reduceGE, XP_field_117_0]))
  refine XR_ok Ext.frame (fun w' kk => run_loadAt (v := .slice (some ⟨wb, 0, none⟩) ((n + 63) / 64) ((n + 63) / 64)) agg_115 ((cell_blk (Ext.get kk hd.h)).trans rfl)) ?_
  refine XP_of (fun w' => i64_shr6 m w') ?_
  refine XP_of (fun w' => sp_idx hi w') ?_
  refine XR_ok Ext.frame (fun w' kk => run_loadAt (v := wdV m (m / 64)) agg_37 ((cell_blk (Ext.get kk hd.ws)).trans (sp_at hi))) ?_
  refine XP_of (fun w' => i64_and63 m (by omega) w') ?_
  refine XP_of (fun w' => u64_shl1 (m % 64) (by omega) w') ?_
  have hp : 2 ^ (m % 64) < 18446744073709551616 := by
    have : 2 ^ (m % 64) < 2 ^ 64 := Nat.pow_lt_pow_right (by decide) (by omega)
    exact this
  refine XP_of (fun w' => run_xor (k := .u64) rfl 37 (wd m (m / 64)) (2 ^ (m % 64)) (wd_lt _ _) hp w') ?_
  rw [wd_set]
  refine XP_of (fun w' => sp_idx hi w') ?_
  refine XU_store info_37 sz_37 rfl hd.ws (by simp [sp_len]; omega) (by show ¬ (0 ≤ m / 64 ∧ m / 64 < 0); omega) ?_
  have es : (spW n m).toArray.setIfInBounds (m / 64) (wdV (m + 1) (m / 64)) = (spW n (m + 1)).toArray := by
    apply Array.ext'
    rw [Array.toList_setIfInBounds]
    exact spW_set
  show X _ _ (setAt wd' wb ((spW n m).toArray.setIfInBounds (m / 64) (wdV (m + 1) (m / 64))) 37 (0, 0)) _
  rw [es]
  have k1 := setAt_keep wd' wb (spW n (m + 1)).toArray 37 (0, 0)
  have g1 := setAt_same (cs := (spW n (m + 1)).toArray) (T := 37) (fr := (0, 0)) (lt_of_blk hd.ws)
  generalize setAt wd' wb (spW n (m + 1)).toArray 37 (0, 0) = w1 at k1 g1 ⊢
  have h1 := k1.get hne hd.h
  (repeat (simp only [SLB, Int.reduceEq, Int.reduceNe, Int.reduceLT, Int.reduceLE, Int.reduceGT, Int.reduceGE, X_field_117_2]))
  refine X_of (run_loadAt (v := .int .i64 (m : Int)) agg_3 ((cell_blk h1).trans rfl)) ?_
  rw [X_add, next64 (n := 16384) (by decide) (by omega)]
  (repeat (simp only [SLB, Int.reduceEq, Int.reduceNe, Int.reduceLT, Int.reduceLE, Int.reduceGT, Int.reduceGE, X_field_117_2]))
  refine XU_store info_3 sz_3 rfl h1 (by show 0 + 2 < 3; decide) (by show ¬ (0 ≤ 0 + 2 ∧ 0 + 2 < 0); omega) ?_
  have k2 := setAt_keep w1 sb (#[Value.slice (some ⟨wb, 0, none⟩) ((n + 63) / 64) ((n + 63) / 64), .int .i64 (n : Int), .int .i64 (m : Int)].setIfInBounds (0 + 2) (.int .i64 ((m + 1 : Nat) : Int))) 117 (0, 0)
  have g2 : (setAt w1 sb (#[Value.slice (some ⟨wb, 0, none⟩) ((n + 63) / 64) ((n + 63) / 64), .int .i64 (n : Int), .int .i64 (m : Int)].setIfInBounds (0 + 2) (.int .i64 ((m + 1 : Nat) : Int))) 117 (0, 0)).heap[sb]? = some (.cells #[Value.slice (some ⟨wb, 0, none⟩) ((n + 63) / 64) ((n + 63) / 64), .int .i64 (n : Int), .int .i64 ((m + 1 : Nat) : Int)] 117 (0, 0)) := setAt_same (lt_of_blk h1)
  generalize setAt w1 sb (#[Value.slice (some ⟨wb, 0, none⟩) ((n + 63) / 64) ((n + 63) / 64), .int .i64 (n : Int), .int .i64 (m : Int)].setIfInBounds (0 + 2) (.int .i64 ((m + 1 : Nat) : Int))) 117 (0, 0) = w2 at k2 g2 ⊢
  exact hK w2 (((Keep.ext kd).trans (k1.mono (fun g _ hg => .inr hg))).trans (k2.mono (fun g _ hg => .inl hg))) ⟨g2, k2.get (fun he => hne he.symm) g1, hm, h.pos, hs⟩
theorem TZ_spec {x : Nat} (ht : TabAt w) (hx : x < 18446744073709551616) (hK : ∀ z : Int, K (.int .i64 z) w) : CALL Tryz.prog 52 #[.int .u64 (x : Int)] w K := by
  apply call_math_bits_TrailingZeros64
  unfold B_math_bits_TrailingZeros64
  by_cases h0 : x = 0
  · subst h0
    have e1 : decide (((0 : Nat) : Int) = 0) = true := rfl
    rw [X_eql, e1]
    (repeat (simp only [SLB, Int.reduceEq, Int.reduceNe, Int.reduceLT, Int.reduceLE, Int.reduceGT, Int.reduceGE]))
    exact hK 64
  have e1 : decide ((x : Int) = 0) = false := decide_eq_false (by omega)
  rw [X_eql, e1]
  (repeat (simp only [SLB, Int.reduceEq, Int.reduceNe, Int.reduceLT, Int.reduceLE, Int.reduceGT, Int.reduceGE]))
  refine X_of (u64_neg x (by omega) hx _) ?_
  have hy : x &&& (18446744073709551616 - x) < 18446744073709551616 := Nat.lt_of_le_of_lt Nat.and_le_left hx
  refine X_of (run_and (k := .u64) 37 x (18446744073709551616 - x) hx (by show _ < 18446744073709551616; omega) (by rw [wrap_u64]; omega) _) ?_
  generalize x &&& (18446744073709551616 - x) = y at hy ⊢
  rw [X_mul]
  have em : IntKind.u64.wrap ((y : Int) * 285870213051353865) = ((y * 285870213051353865 % 18446744073709551616 : Nat) : Int) := by rw [wrap_u64]; omega
  rw [em]
  refine X_of (u64_shr _ 58 (by decide) .u64 _) ?_
  have hz : y * 285870213051353865 % 18446744073709551616 / 2 ^ 58 < 64 := by
    have := Nat.mod_lt (y * 285870213051353865) (show 0 < 18446744073709551616 by decide)
    rw [Nat.div_lt_iff_lt_mul (Nat.two_pow_pos _)]
    exact this
  generalize y * 285870213051353865 % 18446744073709551616 / 2 ^ 58 = z at hz ⊢
  refine X_of (ix137 _ _ z .u64 hz _) ?_
  obtain ⟨u, hu⟩ := ht.ex z hz
  rw [Nat.zero_add]
  refine X_of (run_loadAt agg_5 hu) ?_
  rw [X_conv_5_3]
  exact hK _
set_option maxHeartbeats 1000000 in
theorem All_spec {sb wb n m : Nat} (h : SpAt w sb wb n m) (ht : TabAt w) (hK : ∀ v L w1, Ext w w1 → L.length = m → RowK 1 intC w1 v L → K v w1) : CALL Tryz.prog 27 #[ptr sb] w K := by
  have hs := h.small
  have hle := h.le
  apply call_space_Space_All
  unfold B_space_Space_All
  (repeat (simp only [SLB, Int.reduceEq, Int.reduceNe, Int.reduceLT, Int.reduceLE, Int.reduceGT, Int.reduceGE, X_field_117_0]))
  refine X_of (run_loadAt (v := .slice (some ⟨wb, 0, none⟩) ((n + 63) / 64) ((n + 63) / 64)) agg_115 ((cell_blk h.h).trans rfl)) ?_
  (repeat (simp only [SLB, Int.reduceEq, Int.reduceNe, Int.reduceLT, Int.reduceLE, Int.reduceGT, Int.reduceGE]))
  refine loopG 0 (fun ρ wr => ∃ (i : Nat) (L : List Int), i ≤ (n + 63) / 64 ∧ Ext w wr ∧ OwnK 1 3 intC wr w.heap.size (ρ 3) L ∧ L.length = min m (64 * i) ∧ ρ 13 = .int .i64 (i : Int) ∧ ρ 12 = .int .i64 (((n + 63) / 64 : Nat) : Int) ∧ ρ 11 = .slice (some ⟨wb, 0, none⟩) ((n + 63) / 64) ((n + 63) / 64))
    (fun ρ wr => match ρ 13 with | .int _ s => ((((n + 63) / 64 : Nat) : Int) - s).toNat | _ => 0)
    (fun ρ wr => ∃ L : List Int, Ext w wr ∧ OwnK 1 3 intC wr w.heap.size (ρ 3) L ∧ L.length = m) ?_ ?_ ?_
  · exact ⟨0, [], by omega, Keep.refl _ _, ownK_nil _ _, by simp, rfl, rfl, rfl⟩
  · rintro J hJ ρ wr ⟨i, L, hi, hx, ho, hL, r13, r12, r11⟩
    rw [r13, r12, r11, X_lss, condS_bool]
    by_cases hie : i = (n + 63) / 64
    · rw [if_neg (by simp; omega)]
      exact hJ _ _ ⟨L, hx, ho, by omega⟩
    rw [if_pos (by simp; omega)]
    have hlt : i < (n + 63) / 64 := by omega
    refine X_of (sp_idx hlt _) ?_
    refine X_of (run_loadAt (v := wdV m i) agg_37 ((cell_blk (Ext.get hx h.ws)).trans (sp_at hlt))) ?_
    have hc64 : min 64 (m - 64 * i) ≤ 64 := Nat.min_le_left _ _
    have hcd : min m (64 * i) + min 64 (m - 64 * i) = min m (64 * (i + 1)) := by omega
    have hwd : wd m i = 2 ^ min 64 (m - 64 * i) - 2 ^ 0 := rfl
    unfold wdV
    rw [hwd]
    generalize hcc : min 64 (m - 64 * i) = c at hc64 hcd ⊢
    refine loopG 2 (fun ρ' wr' => ∃ (j : Nat) (L' : List Int), j ≤ c ∧ Ext w wr' ∧ OwnK 1 3 intC wr' w.heap.size (ρ' 3) L' ∧ L'.length = min m (64 * i) + j ∧ ρ' 5 = .int .u64 ((2 ^ c - 2 ^ j : Nat) : Int) ∧ ρ' 4 = .int .i64 (i : Int) ∧ ρ' 13 = .int .i64 (i : Int) ∧ ρ' 12 = .int .i64 (((n + 63) / 64 : Nat) : Int) ∧ ρ' 11 = .slice (some ⟨wb, 0, none⟩) ((n + 63) / 64) ((n + 63) / 64))
      (fun ρ' wr' => match ρ' 5 with | .int _ s => s.toNat | _ => 0)
      (fun ρ' wr' => ∃ (L' : List Int), Ext w wr' ∧ OwnK 1 3 intC wr' w.heap.size (ρ' 3) L' ∧ L'.length = min m (64 * (i + 1)) ∧ ρ' 13 = .int .i64 (i : Int) ∧ ρ' 12 = .int .i64 (((n + 63) / 64 : Nat) : Int) ∧ ρ' 11 = .slice (some ⟨wb, 0, none⟩) ((n + 63) / 64) ((n + 63) / 64)) ?_ ?_ ?_
    · exact ⟨0, L, by omega, hx, ho, by omega, rfl, rfl, r13, r12, r11⟩
    · rintro J2 hJ2 ρ2 w2 ⟨j, L2, hj, hx2, ho2, hL2, s5, s4, s13, s12, s11⟩
      have hpc := pow_le64 hc64
      have hpj := Nat.two_pow_pos j
      rw [s5, s4, X_neq]
      by_cases hjc : j = c
      · subst hjc
        have e : decide (((2 ^ j - 2 ^ j : Nat) : Int) ≠ 0) = false := by simp
        rw [e]
        (repeat (simp only [SLB, Int.reduceEq, Int.reduceNe, Int.reduceLT, Int.reduceLE, Int.reduceGT, Int.reduceGE]))
        exact hJ2 _ _ ⟨L2, hx2, ho2, by omega, s13, s12, s11⟩
      have hjlt : 2 ^ (j + 1) ≤ 2 ^ c := Nat.pow_le_pow_right (by decide) (by omega)
      have hj2 : 2 ^ (j + 1) = 2 * 2 ^ j := by rw [Nat.pow_succ, Nat.mul_comm]
      have e : decide (((2 ^ c - 2 ^ j : Nat) : Int) ≠ 0) = true := decide_eq_true (by omega)
      rw [e]
      (repeat (simp only [SLB, Int.reduceEq, Int.reduceNe, Int.reduceLT, Int.reduceLE, Int.reduceGT, Int.reduceGE]))
      refine X_of (run_shl _ _ (by decide) _) ?_
      refine TZ_spec (ht.ext hx2) (by omega) ?_
      intro z
      rw [X_add]
      generalize IntKind.i64.wrap _ = u
      refine X_buildSlice1 Tryz.underlying43 el_3 rfl ?_
      have hx4 := newB_ext w2 #[Value.int .i64 u] 3
      have hrow4 : RowK 1 intC (newB w2 #[Value.int .i64 u] 3) (.slice (some ⟨w2.heap.size, 0, none⟩) 1 1) [u] := RowK.ofK (f := intC) (by decide) intC_len (by rw [newB_get]; rfl) rfl (by decide)
      generalize newB w2 #[Value.int .i64 u] 3 = w4 at hx4 hrow4 ⊢
      have hx04 := hx2.trans hx4
      have hone : ∀ x ∈ [u], ∀ v ∈ intC x, v.oneCell' = true := by
        intro x hx v hv
        rw [List.mem_singleton.1 hv]
        rfl
      refine X_appendK Tryz.underlying43 el_3 (by decide) intC_len hone (ho2.ext hx4) hrow4 (by simp; omega) (by decide) hx04.size ?_
      intro v5 w5 ho5 hk5
      rw [X_sub]
      have es : IntKind.u64.wrap (((2 ^ c - 2 ^ j : Nat) : Int) - 1) = ((2 ^ c - 2 ^ j - 1 : Nat) : Int) := by rw [wrap_u64]; omega
      rw [es]
      refine X_of (run_and (k := .u64) 37 (2 ^ c - 2 ^ j) (2 ^ c - 2 ^ j - 1) (by show _ < 18446744073709551616; omega) (by show _ < 18446744073709551616; omega) (by rw [wd_drop hc64 (by omega), wrap_u64]; omega) _) ?_
      rw [wd_drop hc64 (by omega)]
      show _ ∧ _
      refine ⟨⟨j + 1, L2 ++ [u], by omega, Ext.seq hx04 hk5 (fun g hg => (ho2.lt g hg.symm).1), ho5, by simp; omega, rfl, s4, s13, s12, s11⟩, ?_⟩
      show ((2 ^ c - 2 ^ (j + 1) : Nat) : Int).toNat < ((2 ^ c - 2 ^ j : Nat) : Int).toNat
      omega
    · rintro ρ3 w3 ⟨L3, hx3, ho3, hL3, t13, t12, t11⟩
      show X _ _ _ _
      rw [t13, X_add]
      show _ ∧ _
      refine ⟨⟨i + 1, L3, by omega, hx3, ho3, hL3, next64 (n := 16384) (by decide) (by omega), t12, t11⟩, ?_⟩
      show (_ - IntKind.i64.wrap _).toNat < _
      rw [w64 (by omega) (by omega)]
      first | omega | (show _ < (_ : Int).toNat; omega)
  · rintro ρ wr ⟨L, hx, ho, hL⟩
    exact hK _ L _ hx hL (OwnK.rowK (by decide) intC_len ho)
end
end Go.Proofs.YtcigpjejbkngfaaGreatDoor
end
section
namespace Go.Proofs.YtcigpjejbkngfaaGreatDoor
open Go Go.Sh
attribute [local irreducible] X XU XP XR CALL loopS resC closS
def B_store_New (x0 x1 : Value) (w : World) (K : Value → World → Prop) : Prop :=
  X Tryz.prog (Instr.box 63 x1) w fun v1 w1 =>
  X Tryz.prog (binOpG .eql 57 (.tmp 10) (.const (.pointer none)) x0 (.pointer none)) w1 fun v2 w2 =>
  condS v2 (
  K (.tuple #[(.pointer none), (.int .i64 2)]) w2) (
  X Tryz.prog (Instr.fieldAt 63 v1 0) w2 fun v3 w3 =>
  X Tryz.prog (Instr.loadAt 3 v3) w3 fun v4 w4 =>
  X Tryz.prog (Instr.fieldAt 63 v1 1) w4 fun v5 w5 =>
  X Tryz.prog (Instr.loadAt 3 v5) w5 fun v6 w6 =>
  X Tryz.prog (Instr.fieldAt 63 v1 2) w6 fun v7 w7 =>
  X Tryz.prog (Instr.loadAt 3 v7) w7 fun v8 w8 =>
  CALL Tryz.prog 33 #[v4, v6, v8] w8 fun v9 w9 =>
  X Tryz.prog (Instr.extract v9 0) w9 fun v10 w10 =>
  X Tryz.prog (Instr.extract v9 1) w10 fun v11 w11 =>
  X Tryz.prog (binOpG .neq 34 (.tmp 22) (.const (.int .i64 0)) v11 (.int .i64 0)) w11 fun v12 w12 =>
  condS v12 (
  K (.tuple #[(.pointer none), v11]) w12) (
  CALL Tryz.prog 35 #[x0] w12 fun v13 w13 =>
  CALL Tryz.prog 34 #[v13] w13 fun v14 w14 =>
  X Tryz.prog (Instr.extract v14 0) w14 fun v15 w15 =>
  X Tryz.prog (Instr.extract v14 1) w15 fun v16 w16 =>
  X Tryz.prog (binOpG .neq 34 (.tmp 31) (.const (.int .i64 0)) v16 (.int .i64 0)) w16 fun v17 w17 =>
  condS v17 (
  K (.tuple #[(.pointer none), v16]) w17) (
  CALL Tryz.prog 35 #[x0] w17 fun v18 w18 =>
  CALL Tryz.prog 34 #[v18] w18 fun v19 w19 =>
  X Tryz.prog (Instr.extract v19 0) w19 fun v20 w20 =>
  X Tryz.prog (Instr.extract v19 1) w20 fun v21 w21 =>
  X Tryz.prog (binOpG .neq 34 (.tmp 40) (.const (.int .i64 0)) v21 (.int .i64 0)) w21 fun v22 w22 =>
  condS v22 (
  K (.tuple #[(.pointer none), v21]) w22) (
  X Tryz.prog (Instr.build 71 #[(0, x0), (1, v10), (2, v15), (3, v20)]) w22 fun v23 w23 =>
  X Tryz.prog (Instr.box 71 v23) w23 fun v24 w24 =>
  K (.tuple #[v24, (.int .i64 0)]) w24))))
theorem eq_store_New (x0 x1 : Value) (w : World) (K : Value → World → Prop) :
    sh Tryz.prog (Tryz.f15.body.getD .skip) (retS Tryz.prog Tryz.f15.results K) (env0 #[x0, x1]) w = B_store_New x0 x1 w K := by kernel_rfl
theorem call_store_New (x0 x1 : Value) (w : World) (K : Value → World → Prop) (h : B_store_New x0 x1 w K) : CALL Tryz.prog 15 #[x0, x1] w K :=
  call_of_eq (c := Tryz.f15.body.getD .skip) mixed Tryz.func15 (by kernel_rfl) (by kernel_rfl) (by kernel_rfl) (Nat.le_of_ble_eq_true (by kernel_rfl)) (eq_store_New x0 x1 w K) h
def B_store_Store_limit (x0 : Value) (w : World) (K : Value → World → Prop) : Prop :=
  X Tryz.prog (nilS x0) w fun v1 w1 =>
  X Tryz.prog (Instr.fieldAt 71 v1 0) w1 fun v2 w2 =>
  X Tryz.prog (Instr.loadAt 57 v2) w2 fun v3 w3 =>
  CALL Tryz.prog 36 #[v3] w3 fun v4 w4 =>
  X Tryz.prog (Builtin.min_ #[3, 3] 3 #[v4, (.int .i64 65536)]) w4 fun v5 w5 =>
  K v5 w5
theorem eq_store_Store_limit (x0 : Value) (w : World) (K : Value → World → Prop) :
    sh Tryz.prog (Tryz.f17.body.getD .skip) (retS Tryz.prog Tryz.f17.results K) (env0 #[x0]) w = B_store_Store_limit x0 w K := by kernel_rfl
theorem call_store_Store_limit (x0 : Value) (w : World) (K : Value → World → Prop) (h : B_store_Store_limit x0 w K) : CALL Tryz.prog 17 #[x0] w K :=
  call_of_eq (c := Tryz.f17.body.getD .skip) mixed Tryz.func17 (by kernel_rfl) (by kernel_rfl) (by kernel_rfl) (Nat.le_of_ble_eq_true (by kernel_rfl)) (eq_store_Store_limit x0 w K) h
def B_store_Store_holds (x0 x1 : Value) (w : World) (K : Value → World → Prop) : Prop :=
  X Tryz.prog (nilS x0) w fun v1 w1 =>
  X Tryz.prog (Instr.fieldAt 71 v1 4) w1 fun v2 w2 =>
  X Tryz.prog (Instr.loadAt 41 v2) w2 fun v3 w3 =>
  X Tryz.prog (Builtin.len_ #[41] 3 #[v3]) w3 fun v4 w4 =>
  X Tryz.prog (binOp .gtr 3 v4 (.int .i64 0)) w4 fun v5 w5 =>
  gstep v5 true (fun w6 K => K x0 w6) w5 fun v6 w7 =>
  gstep v5 true (fun w8 K => X Tryz.prog (nilS v6) w8 K) w7 fun v7 w9 =>
  gstep v5 true (fun w10 K => X Tryz.prog (Instr.fieldAt 71 v7 6) w10 K) w9 fun v8 w11 =>
  gstep v5 true (fun w12 K => X Tryz.prog (Instr.loadAt 3 v8) w12 K) w11 fun v9 w13 =>
  gstep v5 true (fun w14 K => K x1 w14) w13 fun v10 w15 =>
  gstep v5 true (fun w16 K => X Tryz.prog (binOpG .eql 3 (.tmp 15) (.tmp 16) v9 v10) w16 K) w15 fun v11 w17 =>
  X Tryz.prog (pickS v5 v11 (.bool false)) w17 fun v12 w18 =>
  K v12 w18
theorem eq_store_Store_holds (x0 x1 : Value) (w : World) (K : Value → World → Prop) :
    sh Tryz.prog (Tryz.f28.body.getD .skip) (retS Tryz.prog Tryz.f28.results K) (env0 #[x0, x1]) w = B_store_Store_holds x0 x1 w K := by kernel_rfl
theorem call_store_Store_holds (x0 x1 : Value) (w : World) (K : Value → World → Prop) (h : B_store_Store_holds x0 x1 w K) : CALL Tryz.prog 28 #[x0, x1] w K :=
  call_of_eq (c := Tryz.f28.body.getD .skip) mixed Tryz.func28 (by kernel_rfl) (by kernel_rfl) (by kernel_rfl) (Nat.le_of_ble_eq_true (by kernel_rfl)) (eq_store_Store_holds x0 x1 w K) h
def B_store_Store_fetch (x0 x1 : Value) (w : World) (K : Value → World → Prop) : Prop :=
  X Tryz.prog (nilS x0) w fun v1 w1 =>
  X Tryz.prog (Instr.fieldAt 71 v1 0) w1 fun v2 w2 =>
  X Tryz.prog (Instr.loadAt 57 v2) w2 fun v3 w3 =>
  CALL Tryz.prog 68 #[v3, x1] w3 fun v4 w4 =>
  X Tryz.prog (Instr.extract v4 0) w4 fun v5 w5 =>
  X Tryz.prog (Instr.extract v4 1) w5 fun v6 w6 =>
  X Tryz.prog (binOpG .eql 34 (.tmp 20) (.const (.int .i64 6)) v6 (.int .i64 6)) w6 fun v7 w7 =>
  condS v7 (
  K (.tuple #[(.int .u32 0), (.slice none 0 0), v6]) w7) (
  X Tryz.prog (binOpG .neq 34 (.tmp 23) (.const (.int .i64 0)) v6 (.int .i64 0)) w7 fun v8 w8 =>
  condS v8 (
  K (.tuple #[(.int .u32 0), (.slice none 0 0), (.int .i64 210)]) w8) (
  CALL Tryz.prog 69 #[v5] w8 fun v9 w9 =>
  X Tryz.prog (Instr.extract v9 0) w9 fun v10 w10 =>
  X Tryz.prog (Instr.extract v9 1) w10 fun v11 w11 =>
  X Tryz.prog (Instr.extract v9 2) w11 fun v12 w12 =>
  X Tryz.prog (binOpG .neq 34 (.tmp 31) (.const (.int .i64 0)) v12 (.int .i64 0)) w12 fun v13 w13 =>
  gstep v13 false (fun w14 K => K v11 w14) w13 fun v14 w15 =>
  gstep v13 false (fun w16 K => X Tryz.prog (Builtin.len_ #[41] 3 #[v14]) w16 K) w15 fun v15 w17 =>
  gstep v13 false (fun w18 K => X Tryz.prog (binOpG .eql 3 (.tmp 35) (.const (.int .i64 0)) v15 (.int .i64 0)) w18 K) w17 fun v16 w19 =>
  X Tryz.prog (pickS v13 (.bool true) v16) w19 fun v17 w20 =>
  condS v17 (
  K (.tuple #[(.int .u32 0), (.slice none 0 0), (.int .i64 210)]) w20) (
  K (.tuple #[v10, v11, (.int .i64 0)]) w20)))
theorem eq_store_Store_fetch (x0 x1 : Value) (w : World) (K : Value → World → Prop) :
    sh Tryz.prog (Tryz.f43.body.getD .skip) (retS Tryz.prog Tryz.f43.results K) (env0 #[x0, x1]) w = B_store_Store_fetch x0 x1 w K := by kernel_rfl
theorem call_store_Store_fetch (x0 x1 : Value) (w : World) (K : Value → World → Prop) (h : B_store_Store_fetch x0 x1 w K) : CALL Tryz.prog 43 #[x0, x1] w K :=
  call_of_eq (c := Tryz.f43.body.getD .skip) mixed Tryz.func43 (by kernel_rfl) (by kernel_rfl) (by kernel_rfl) (Nat.le_of_ble_eq_true (by kernel_rfl)) (eq_store_Store_fetch x0 x1 w K) h
def B_store_Store_read (x0 x1 x2 : Value) (w : World) (K : Value → World → Prop) : Prop :=
  X Tryz.prog (Instr.box 33 x1) w fun v1 w1 =>
  joinS (fun ρ1 w2 =>
  X Tryz.prog (Op.unary .not (ρ1 9)) w2 fun v2 w3 =>
  condS v2 (
  K (.tuple #[(.slice none 0 0), (.int .i64 2)]) w3) (
  X Tryz.prog (Instr.fieldAt 104 (ρ1 8) 0) w3 fun v3 w4 =>
  X Tryz.prog (Instr.loadAt 3 v3) w4 fun v4 w5 =>
  CALL Tryz.prog 28 #[(ρ1 0), v4] w5 fun v5 w6 =>
  condS v5 (
  ∃ R, Frame? R ∧
  XP Tryz.prog (nilS (ρ1 0)) (drewW w6) fun v6 w7 =>
  XP Tryz.prog (Instr.fieldAt 71 v6 4) w7 fun v7 w8 =>
  XR Tryz.prog R (Instr.loadAt 41 v7) w8 fun v8 w9 =>
  XP Tryz.prog (Instr.fieldAt 104 (ρ1 8) 1) w9 fun v9 w10 =>
  XR Tryz.prog R (Instr.loadAt 3 v9) w10 fun v10 w11 =>
  XP Tryz.prog (Instr.indexAt 41 v8 v10) w11 fun v11 w12 =>
  XP Tryz.prog (Instr.fieldAt 40 v11 1) w12 fun v12 w13 =>
  XR Tryz.prog R (Instr.loadAt 28 v12) w13 fun v13 w14 =>
  K (.tuple #[v13, (.int .i64 0)]) w14) (
  X Tryz.prog (Instr.fieldAt 104 (ρ1 8) 0) w6 fun v14 w15 =>
  X Tryz.prog (Instr.loadAt 3 v14) w15 fun v15 w16 =>
  CALL Tryz.prog 43 #[(ρ1 0), v15] w16 fun v16 w17 =>
  X Tryz.prog (Instr.extract v16 0) w17 fun v17 w18 =>
  X Tryz.prog (Instr.extract v16 1) w18 fun v18 w19 =>
  X Tryz.prog (Instr.extract v16 2) w19 fun v19 w20 =>
  X Tryz.prog (binOpG .neq 34 (.tmp 47) (.const (.int .i64 0)) v19 (.int .i64 0)) w20 fun v20 w21 =>
  condS v20 (
  K (.tuple #[(.slice none 0 0), v19]) w21) (
  ∃ R, Frame? R ∧
  XP Tryz.prog (Instr.fieldAt 104 (ρ1 8) 1) (drewW w21) fun v21 w22 =>
  XR Tryz.prog R (Instr.loadAt 3 v21) w22 fun v22 w23 =>
  XP Tryz.prog (Builtin.len_ #[41] 3 #[v18]) w23 fun v23 w24 =>
  XP Tryz.prog (binOp .geq 3 v22 v23) w24 fun v24 w25 =>
  gstep v24 false (fun w26 K => K v18 w26) w25 fun v25 w27 =>
  gstep v24 false (fun w28 K => XP Tryz.prog (Instr.fieldAt 104 (ρ1 8) 1) w28 K) w27 fun v26 w29 =>
  gstep v24 false (fun w30 K => XR Tryz.prog R (Instr.loadAt 3 v26) w30 K) w29 fun v27 w31 =>
  gstep v24 false (fun w32 K => XP Tryz.prog (Instr.indexAt 41 v25 v27) w32 K) w31 fun v28 w33 =>
  gstep v24 false (fun w34 K => XP Tryz.prog (Instr.fieldAt 40 v28 0) w34 K) w33 fun v29 w35 =>
  gstep v24 false (fun w36 K => XR Tryz.prog R (Instr.loadAt 33 v29) w36 K) w35 fun v30 w37 =>
  gstep v24 false (fun w38 K => XR Tryz.prog R (Instr.loadAt 33 (ρ1 4)) w38 K) w37 fun v31 w39 =>
  gstep v24 false (fun w40 K => XP Tryz.prog (binOpG .neq 33 (.tmp 62) (.tmp 63) v30 v31) w40 K) w39 fun v32 w41 =>
  XP Tryz.prog (pickS v24 (.bool true) v32) w41 fun v33 w42 =>
  condS v33 (
  K (.tuple #[(.slice none 0 0), (.int .i64 210)]) w42) (
  X Tryz.prog (Instr.fieldAt 104 (ρ1 8) 1) w42 fun v34 w43 =>
  X Tryz.prog (Instr.loadAt 3 v34) w43 fun v35 w44 =>
  X Tryz.prog (Instr.indexAt 41 v18 v35) w44 fun v36 w45 =>
  X Tryz.prog (Instr.fieldAt 40 v36 1) w45 fun v37 w46 =>
  X Tryz.prog (Instr.loadAt 28 v37) w46 fun v38 w47 =>
  K (.tuple #[v38, (.int .i64 0)]) w47))))) fun J1 =>
  ∃ R, Frame? R ∧
  XP Tryz.prog (nilS x0) (drewW w1) fun v39 w48 =>
  XP Tryz.prog (Instr.fieldAt 71 v39 1) w48 fun v40 w49 =>
  XR Tryz.prog R (Instr.loadAt 68 v40) w49 fun v41 w50 =>
  XR Tryz.prog R (Instr.loadAt 33 v1) w50 fun v42 w51 =>
  (CALL Tryz.prog 42 #[v41, v42, x2] w51 fun v43 w52 =>
  XP Tryz.prog (Instr.extract v43 0) w52 fun v44 w53 =>
  XP Tryz.prog (Instr.extract v43 1) w53 fun v45 w54 =>
  X Tryz.prog (Instr.alloc 104 true (.tuple #[])) w54 fun v46 w55 =>
  R w54 w55 ∧
  XU Tryz.prog (Instr.storeAt 104 v46 v44) w55 fun w56 =>
  J1 (upds (env0 #[x0, x1, x2]) [(9, v45), (8, v46), (22, v45), (21, v44), (13, v43), (20, v43), (19, x2), (18, v42), (17, v41), (16, v40), (15, v39), (14, x0), (7, (.int .i64 0)), (6, (.slice none 0 0)), (4, v1)]) w56) ∧
  (X Tryz.prog (Instr.alloc 104 true (.tuple #[])) w51 fun v47 w57 =>
  R w51 w57 ∧
  CALL Tryz.prog 42 #[v41, v42, x2] w57 fun v48 w58 =>
  XP Tryz.prog (Instr.extract v48 0) w58 fun v49 w59 =>
  XP Tryz.prog (Instr.extract v48 1) w59 fun v50 w60 =>
  XU Tryz.prog (Instr.storeAt 104 v47 v49) w60 fun w61 =>
  J1 (upds (env0 #[x0, x1, x2]) [(9, v50), (22, v50), (21, v49), (13, v48), (20, v48), (8, v47), (19, x2), (18, v42), (17, v41), (16, v40), (15, v39), (14, x0), (7, (.int .i64 0)), (6, (.slice none 0 0)), (4, v1)]) w61)
theorem eq_store_Store_read (x0 x1 x2 : Value) (w : World) (K : Value → World → Prop) :
    sh Tryz.prog (Tryz.f20.body.getD .skip) (retS Tryz.prog Tryz.f20.results K) (env0 #[x0, x1, x2]) w = B_store_Store_read x0 x1 x2 w K := by kernel_rfl
theorem call_store_Store_read (x0 x1 x2 : Value) (w : World) (K : Value → World → Prop) (h : B_store_Store_read x0 x1 x2 w K) : CALL Tryz.prog 20 #[x0, x1, x2] w K :=
  call_of_eq (c := Tryz.f20.body.getD .skip) mixed Tryz.func20 (by kernel_rfl) (by kernel_rfl) (by kernel_rfl) (Nat.le_of_ble_eq_true (by kernel_rfl)) (eq_store_Store_read x0 x1 x2 w K) h
def B_store_Store_Get (x0 x1 : Value) (w : World) (K : Value → World → Prop) : Prop :=
  X Tryz.prog (Instr.box 33 x1) w fun v1 w1 =>
  X Tryz.prog (binOpG .eql 24 (.tmp 8) (.const (.pointer none)) x0 (.pointer none)) w1 fun v2 w2 =>
  condS v2 (
  K (.tuple #[(.slice none 0 0), (.int .i64 2)]) w2) (
  X Tryz.prog (Instr.loadAt 33 v1) w2 fun v3 w3 =>
  X Tryz.prog (Instr.fieldAt 33 v1 1) w3 fun v4 w4 =>
  X Tryz.prog (Instr.loadAt 31 v4) w4 fun v5 w5 =>
  X Tryz.prog (convert 31 37 v5) w5 fun v6 w6 =>
  CALL Tryz.prog 20 #[x0, v3, v6] w6 fun v7 w7 =>
  X Tryz.prog (Instr.extract v7 0) w7 fun v8 w8 =>
  X Tryz.prog (Instr.extract v7 1) w8 fun v9 w9 =>
  CALL Tryz.prog 23 #[v8] w9 fun v10 w10 =>
  K (.tuple #[v10, v9]) w10)
theorem eq_store_Store_Get (x0 x1 : Value) (w : World) (K : Value → World → Prop) :
    sh Tryz.prog (Tryz.f31.body.getD .skip) (retS Tryz.prog Tryz.f31.results K) (env0 #[x0, x1]) w = B_store_Store_Get x0 x1 w K := by kernel_rfl
theorem call_store_Store_Get (x0 x1 : Value) (w : World) (K : Value → World → Prop) (h : B_store_Store_Get x0 x1 w K) : CALL Tryz.prog 31 #[x0, x1] w K :=
  call_of_eq (c := Tryz.f31.body.getD .skip) mixed Tryz.func31 (by kernel_rfl) (by kernel_rfl) (by kernel_rfl) (Nat.le_of_ble_eq_true (by kernel_rfl)) (eq_store_Store_Get x0 x1 w K) h
def B_store_Store_Seal (x0 : Value) (w : World) (K : Value → World → Prop) : Prop :=
  X Tryz.prog (binOpG .eql 24 (.tmp 6) (.const (.pointer none)) x0 (.pointer none)) w fun v1 w1 =>
  condS v1 (
  K (.int .i64 2) w1) (
  X Tryz.prog (nilS x0) w1 fun v2 w2 =>
  X Tryz.prog (Instr.fieldAt 71 v2 4) w2 fun v3 w3 =>
  X Tryz.prog (Instr.loadAt 41 v3) w3 fun v4 w4 =>
  X Tryz.prog (Builtin.len_ #[41] 3 #[v4]) w4 fun v5 w5 =>
  X Tryz.prog (binOpG .eql 3 (.tmp 12) (.const (.int .i64 0)) v5 (.int .i64 0)) w5 fun v6 w6 =>
  condS v6 (
  K (.int .i64 0) w6) (
  ∃ R, Frame? R ∧
  XP Tryz.prog (nilS x0) (drewW w6) fun v7 w7 =>
  XP Tryz.prog (Instr.fieldAt 71 v7 7) w7 fun v8 w8 =>
  XR Tryz.prog R (Instr.loadAt 31 v8) w8 fun v9 w9 =>
  XP Tryz.prog (binOp .add 31 v9 (.int .u32 1)) w9 fun v10 w10 =>
  XP Tryz.prog (nilS x0) w10 fun v11 w11 =>
  XP Tryz.prog (Instr.fieldAt 71 v11 4) w11 fun v12 w12 =>
  XR Tryz.prog R (Instr.loadAt 41 v12) w12 fun v13 w13 =>
  CALL Tryz.prog 24 #[v10, v13] w13 fun v14 w14 =>
  R w13 w14 ∧
  XP Tryz.prog (Instr.extract v14 0) w14 fun v15 w15 =>
  XP Tryz.prog (Instr.extract v14 1) w15 fun v16 w16 =>
  X Tryz.prog (binOpG .neq 34 (.tmp 27) (.const (.int .i64 0)) v16 (.int .i64 0)) w16 fun v17 w17 =>
  condS v17 (
  K v16 w17) (
  ∃ R, Frame? R ∧
  XP Tryz.prog (nilS x0) (drewW w17) fun v18 w18 =>
  XP Tryz.prog (Instr.fieldAt 71 v18 0) w18 fun v19 w19 =>
  XR Tryz.prog R (Instr.loadAt 57 v19) w19 fun v20 w20 =>
  XP Tryz.prog (nilS x0) w20 fun v21 w21 =>
  XP Tryz.prog (Instr.fieldAt 71 v21 6) w21 fun v22 w22 =>
  XR Tryz.prog R (Instr.loadAt 3 v22) w22 fun v23 w23 =>
  CALL Tryz.prog 25 #[v20, v23, v15] w23 fun v24 w24 =>
  X Tryz.prog (binOpG .neq 34 (.tmp 40) (.const (.int .i64 0)) v24 (.int .i64 0)) w24 fun v25 w25 =>
  condS v25 (
  K v24 w25) (
  X Tryz.prog (nilS x0) w25 fun v26 w26 =>
  X Tryz.prog (Instr.fieldAt 71 v26 7) w26 fun v27 w27 =>
  X Tryz.prog (Instr.loadAt 31 v27) w27 fun v28 w28 =>
  X Tryz.prog (binOp .add 31 v28 (.int .u32 1)) w28 fun v29 w29 =>
  X Tryz.prog (nilS x0) w29 fun v30 w30 =>
  X Tryz.prog (Instr.fieldAt 71 v30 7) w30 fun v31 w31 =>
  XU Tryz.prog (Instr.storeAt 31 v31 v29) w31 fun w32 =>
  X Tryz.prog (nilS x0) w32 fun v32 w33 =>
  X Tryz.prog (Instr.fieldAt 71 v32 4) w33 fun v33 w34 =>
  XU Tryz.prog (Instr.storeAt 41 v33 (.slice none 0 0)) w34 fun w35 =>
  X Tryz.prog (nilS x0) w35 fun v34 w36 =>
  X Tryz.prog (Instr.fieldAt 71 v34 5) w36 fun v35 w37 =>
  XU Tryz.prog (Instr.storeAt 3 v35 (.int .i64 0)) w37 fun w38 =>
  K (.int .i64 0) w38))))
theorem eq_store_Store_Seal (x0 : Value) (w : World) (K : Value → World → Prop) :
    sh Tryz.prog (Tryz.f8.body.getD .skip) (retS Tryz.prog Tryz.f8.results K) (env0 #[x0]) w = B_store_Store_Seal x0 w K := by kernel_rfl
theorem call_store_Store_Seal (x0 : Value) (w : World) (K : Value → World → Prop) (h : B_store_Store_Seal x0 w K) : CALL Tryz.prog 8 #[x0] w K :=
  call_of_eq (c := Tryz.f8.body.getD .skip) mixed Tryz.func8 (by kernel_rfl) (by kernel_rfl) (by kernel_rfl) (Nat.le_of_ble_eq_true (by kernel_rfl)) (eq_store_Store_Seal x0 w K) h
def B_store_Store_take (x0 : Value) (w : World) (K : Value → World → Prop) : Prop :=
  X Tryz.prog (nilS x0) w fun v1 w1 =>
  X Tryz.prog (Instr.fieldAt 71 v1 2) w1 fun v2 w2 =>
  X Tryz.prog (Instr.loadAt 69 v2) w2 fun v3 w3 =>
  CALL Tryz.prog 70 #[v3] w3 fun v4 w4 =>
  loopS (fun Q1 ρ1 w5 =>
  X Tryz.prog (binOp .lss 3 (ρ1 9) (ρ1 8)) w5 fun v5 w6 =>
  condS v5 (
  X Tryz.prog (nilS (ρ1 0)) w6 fun v6 w7 =>
  X Tryz.prog (Instr.fieldAt 71 v6 2) w7 fun v7 w8 =>
  X Tryz.prog (Instr.loadAt 69 v7) w8 fun v8 w9 =>
  CALL Tryz.prog 71 #[v8, (ρ1 9)] w9 fun v9 w10 =>
  X Tryz.prog (Op.unary .not v9) w10 fun v10 w11 =>
  gstep v10 true (fun w12 K => K (ρ1 0) w12) w11 fun v11 w13 =>
  gstep v10 true (fun w14 K => X Tryz.prog (nilS v11) w14 K) w13 fun v12 w15 =>
  gstep v10 true (fun w16 K => X Tryz.prog (Instr.fieldAt 71 v12 3) w16 K) w15 fun v13 w17 =>
  gstep v10 true (fun w18 K => X Tryz.prog (Instr.loadAt 69 v13) w18 K) w17 fun v14 w19 =>
  gstep v10 true (fun w20 K => K (ρ1 9) w20) w19 fun v15 w21 =>
  gstep v10 true (fun w22 K => CALL Tryz.prog 71 #[v14, v15] w22 K) w21 fun v16 w23 =>
  gstep v10 true (fun w24 K => X Tryz.prog (Op.unary .not v16) w24 K) w23 fun v17 w25 =>
  X Tryz.prog (pickS v10 v17 (.bool false)) w25 fun v18 w26 =>
  condS v18 (
  X Tryz.prog (nilS (ρ1 0)) w26 fun v19 w27 =>
  X Tryz.prog (Instr.fieldAt 71 v19 6) w27 fun v20 w28 =>
  XU Tryz.prog (Instr.storeAt 3 v20 (ρ1 9)) w28 fun w29 =>
  X Tryz.prog (nilS (ρ1 0)) w29 fun v21 w30 =>
  X Tryz.prog (Instr.fieldAt 71 v21 2) w30 fun v22 w31 =>
  X Tryz.prog (Instr.loadAt 69 v22) w31 fun v23 w32 =>
  CALL Tryz.prog 72 #[v23, (ρ1 9)] w32 fun v24 w33 =>
  Q1 .ret (upds ρ1 [(2, v24), (37, v24), (36, (ρ1 9)), (35, v23), (34, v22), (33, v21), (32, (ρ1 0)), (31, v20), (30, v19), (29, (ρ1 9)), (28, (ρ1 0)), (27, v18), (26, v17), (25, v16), (24, v15), (23, v14), (22, v13), (21, v12), (20, v11), (19, v10), (18, v10), (17, v9), (16, (ρ1 9)), (15, v8), (14, v7), (13, v6), (12, (ρ1 0)), (3, (ρ1 9)), (11, (ρ1 9)), (10, v5)]) w33) (
  X Tryz.prog (binOp .add 3 (ρ1 9) (.int .i64 1)) w26 fun v25 w34 =>
  Q1 .normal (upds ρ1 [(9, v25), (38, v25), (27, v18), (26, v17), (25, v16), (24, v15), (23, v14), (22, v13), (21, v12), (20, v11), (19, v10), (18, v10), (17, v9), (16, (ρ1 9)), (15, v8), (14, v7), (13, v6), (12, (ρ1 0)), (3, (ρ1 9)), (11, (ρ1 9)), (10, v5)]) w34)) (
  Q1 (.exit 0) (upds ρ1 [(10, v5)]) w6)) (inBlockS 0 (thenS (fun ρ2 w35 =>
  K (.int .i64 5) w35) (retS Tryz.prog (Tryz.f44).results K))) (upds (env0 #[x0]) [(9, (.int .i64 0)), (8, v4), (7, v3), (6, v2), (5, v1), (4, x0), (2, (.int .i64 0))]) w4
theorem eq_store_Store_take (x0 : Value) (w : World) (K : Value → World → Prop) :
    sh Tryz.prog (Tryz.f44.body.getD .skip) (retS Tryz.prog Tryz.f44.results K) (env0 #[x0]) w = B_store_Store_take x0 w K := by kernel_rfl
theorem call_store_Store_take (x0 : Value) (w : World) (K : Value → World → Prop) (h : B_store_Store_take x0 w K) : CALL Tryz.prog 44 #[x0] w K :=
  call_of_eq (c := Tryz.f44.body.getD .skip) mixed Tryz.func44 (by kernel_rfl) (by kernel_rfl) (by kernel_rfl) (Nat.le_of_ble_eq_true (by kernel_rfl)) (eq_store_Store_take x0 w K) h
def B_store_Store_hold (x0 x1 : Value) (w : World) (K : Value → World → Prop) : Prop :=
  X Tryz.prog (Instr.box 40 x1) w fun v1 w1 =>
  X Tryz.prog (Instr.loadAt 40 v1) w1 fun v2 w2 =>
  X Tryz.prog (Instr.buildSlice 41 1 #[(0, v2)]) w2 fun v3 w3 =>
  CALL Tryz.prog 7 #[v3] w3 fun v4 w4 =>
  joinS (fun ρ1 w5 =>
  joinS (fun ρ2 w6 =>
  ∃ R, Frame? R ∧
  XP Tryz.prog (nilS (ρ2 0)) (drewW w6) fun v5 w7 =>
  XP Tryz.prog (Instr.fieldAt 71 v5 1) w7 fun v6 w8 =>
  XR Tryz.prog R (Instr.loadAt 68 v6) w8 fun v7 w9 =>
  XP Tryz.prog (Instr.fieldAt 40 (ρ2 3) 0) w9 fun v8 w10 =>
  XR Tryz.prog R (Instr.loadAt 33 v8) w10 fun v9 w11 =>
  XP Tryz.prog (nilS (ρ2 0)) w11 fun v10 w12 =>
  XP Tryz.prog (Instr.fieldAt 71 v10 6) w12 fun v11 w13 =>
  XR Tryz.prog R (Instr.loadAt 3 v11) w13 fun v12 w14 =>
  XP Tryz.prog (nilS (ρ2 0)) w14 fun v13 w15 =>
  XP Tryz.prog (Instr.fieldAt 71 v13 4) w15 fun v14 w16 =>
  XR Tryz.prog R (Instr.loadAt 41 v14) w16 fun v15 w17 =>
  XP Tryz.prog (Builtin.len_ #[41] 3 #[v15]) w17 fun v16 w18 =>
  XP Tryz.prog (Instr.build 104 #[(0, v12), (1, v16)]) w18 fun v17 w19 =>
  CALL Tryz.prog 45 #[v7, v9, v17] w19 fun v18 w20 =>
  R w19 w20 ∧
  ∃ R, Frame? R ∧
  XP Tryz.prog (nilS (ρ2 0)) (drewW w20) fun v19 w21 =>
  XP Tryz.prog (Instr.fieldAt 71 v19 4) w21 fun v20 w22 =>
  XR Tryz.prog R (Instr.loadAt 41 v20) w22 fun v21 w23 =>
  XR Tryz.prog R (Instr.loadAt 40 (ρ2 3)) w23 fun v22 w24 =>
  X Tryz.prog (Instr.buildSlice 41 1 #[(0, v22)]) w24 fun v23 w25 =>
  R w24 w25 ∧
  X Tryz.prog (Builtin.append_ #[41, 41] 41 #[v21, v23]) w25 fun v24 w26 =>
  R w25 w26 ∧
  XP Tryz.prog (nilS (ρ2 0)) w26 fun v25 w27 =>
  XP Tryz.prog (Instr.fieldAt 71 v25 4) w27 fun v26 w28 =>
  XU Tryz.prog (Instr.storeAt 41 v26 v24) w28 fun w29 =>
  X Tryz.prog (nilS (ρ2 0)) w29 fun v27 w30 =>
  X Tryz.prog (Instr.fieldAt 71 v27 5) w30 fun v28 w31 =>
  XU Tryz.prog (Instr.storeAt 3 v28 (ρ2 6)) w31 fun w32 =>
  K (.int .i64 0) w32) fun J2 =>
  X Tryz.prog (nilS (ρ1 0)) w5 fun v29 w33 =>
  X Tryz.prog (Instr.fieldAt 71 v29 4) w33 fun v30 w34 =>
  X Tryz.prog (Instr.loadAt 41 v30) w34 fun v31 w35 =>
  X Tryz.prog (Builtin.len_ #[41] 3 #[v31]) w35 fun v32 w36 =>
  X Tryz.prog (binOpG .eql 3 (.tmp 49) (.const (.int .i64 0)) v32 (.int .i64 0)) w36 fun v33 w37 =>
  condS v33 (
  CALL Tryz.prog 44 #[(ρ1 0)] w37 fun v34 w38 =>
  X Tryz.prog (binOpG .neq 34 (.tmp 53) (.const (.int .i64 0)) v34 (.int .i64 0)) w38 fun v35 w39 =>
  condS v35 (
  K v34 w39) (
  J2 (upds ρ1 [(54, v35), (53, v34), (8, v34), (52, v34), (51, (ρ1 0)), (50, v33), (49, v32), (48, v31), (47, v30), (46, v29), (45, (ρ1 0))]) w39)) (
  J2 (upds ρ1 [(50, v33), (49, v32), (48, v31), (47, v30), (46, v29), (45, (ρ1 0))]) w37)) fun J1 =>
  X Tryz.prog (nilS x0) w4 fun v36 w40 =>
  X Tryz.prog (Instr.fieldAt 71 v36 4) w40 fun v37 w41 =>
  X Tryz.prog (Instr.loadAt 41 v37) w41 fun v38 w42 =>
  X Tryz.prog (Builtin.len_ #[41] 3 #[v38]) w42 fun v39 w43 =>
  X Tryz.prog (binOp .gtr 3 v39 (.int .i64 0)) w43 fun v40 w44 =>
  condS v40 (
  ∃ R, Frame? R ∧
  XP Tryz.prog (nilS x0) (drewW w44) fun v41 w45 =>
  XP Tryz.prog (Instr.fieldAt 71 v41 5) w45 fun v42 w46 =>
  XR Tryz.prog R (Instr.loadAt 3 v42) w46 fun v43 w47 =>
  XP Tryz.prog (binOp .add 3 v43 v4) w47 fun v44 w48 =>
  CALL Tryz.prog 7 #[(.slice none 0 0)] w48 fun v45 w49 =>
  R w48 w49 ∧
  XP Tryz.prog (binOp .sub 3 v44 v45) w49 fun v46 w50 =>
  X Tryz.prog (nilS x0) w50 fun v47 w51 =>
  X Tryz.prog (Instr.fieldAt 71 v47 4) w51 fun v48 w52 =>
  X Tryz.prog (Instr.loadAt 41 v48) w52 fun v49 w53 =>
  X Tryz.prog (Builtin.len_ #[41] 3 #[v49]) w53 fun v50 w54 =>
  X Tryz.prog (binOp .geq 3 v50 (.int .i64 1000)) w54 fun v51 w55 =>
  gstep v51 false (fun w56 K => K v46 w56) w55 fun v52 w57 =>
  gstep v51 false (fun w58 K => K x0 w58) w57 fun v53 w59 =>
  gstep v51 false (fun w60 K => CALL Tryz.prog 17 #[v53] w60 K) w59 fun v54 w61 =>
  gstep v51 false (fun w62 K => X Tryz.prog (binOp .gtr 3 v52 v54) w62 K) w61 fun v55 w63 =>
  X Tryz.prog (pickS v51 (.bool true) v55) w63 fun v56 w64 =>
  condS v56 (
  CALL Tryz.prog 8 #[x0] w64 fun v57 w65 =>
  X Tryz.prog (binOpG .neq 34 (.tmp 41) (.const (.int .i64 0)) v57 (.int .i64 0)) w65 fun v58 w66 =>
  condS v58 (
  K v57 w66) (
  J1 (upds (env0 #[x0, x1]) [(6, v4), (44, v4), (42, v58), (41, v57), (7, v57), (40, v57), (39, x0), (38, v56), (37, v55), (36, v54), (35, v53), (34, v52), (33, v51), (32, v51), (31, v50), (30, v49), (29, v48), (28, v47), (27, x0), (6, v46), (26, v46), (25, v45), (24, v44), (23, v4), (22, v43), (21, v42), (20, v41), (19, x0), (18, v40), (17, v39), (16, v38), (15, v37), (14, v36), (13, x0), (6, v4), (12, v4), (5, v4), (11, v4), (10, v3), (9, v2), (4, (.int .i64 0)), (3, v1)]) w66)) (
  J1 (upds (env0 #[x0, x1]) [(38, v56), (37, v55), (36, v54), (35, v53), (34, v52), (33, v51), (32, v51), (31, v50), (30, v49), (29, v48), (28, v47), (27, x0), (6, v46), (26, v46), (25, v45), (24, v44), (23, v4), (22, v43), (21, v42), (20, v41), (19, x0), (18, v40), (17, v39), (16, v38), (15, v37), (14, v36), (13, x0), (6, v4), (12, v4), (5, v4), (11, v4), (10, v3), (9, v2), (4, (.int .i64 0)), (3, v1)]) w64)) (
  J1 (upds (env0 #[x0, x1]) [(18, v40), (17, v39), (16, v38), (15, v37), (14, v36), (13, x0), (6, v4), (12, v4), (5, v4), (11, v4), (10, v3), (9, v2), (4, (.int .i64 0)), (3, v1)]) w44)
theorem eq_store_Store_hold (x0 x1 : Value) (w : World) (K : Value → World → Prop) :
    sh Tryz.prog (Tryz.f22.body.getD .skip) (retS Tryz.prog Tryz.f22.results K) (env0 #[x0, x1]) w = B_store_Store_hold x0 x1 w K := by kernel_rfl
theorem call_store_Store_hold (x0 x1 : Value) (w : World) (K : Value → World → Prop) (h : B_store_Store_hold x0 x1 w K) : CALL Tryz.prog 22 #[x0, x1] w K :=
  call_of_eq (c := Tryz.f22.body.getD .skip) mixed Tryz.func22 (by kernel_rfl) (by kernel_rfl) (by kernel_rfl) (Nat.le_of_ble_eq_true (by kernel_rfl)) (eq_store_Store_hold x0 x1 w K) h
def B_store_Store_Put (x0 x1 x2 : Value) (w : World) (K : Value → World → Prop) : Prop :=
  X Tryz.prog (Instr.alloc 33 true (.tuple #[])) w fun v1 w1 =>
  X Tryz.prog (binOpG .eql 24 (.tmp 16) (.const (.pointer none)) x0 (.pointer none)) w1 fun v2 w2 =>
  condS v2 (
  X Tryz.prog (Instr.build 33 #[]) w2 fun v3 w3 =>
  XU Tryz.prog (Instr.storeAt 33 v1 v3) w3 fun w4 =>
  resC Tryz.prog 33 v1 w4 fun r0 =>
  K (.tuple #[r0, (.bool false), (.int .i64 2)]) w4) (
  X Tryz.prog (Builtin.len_ #[28] 3 #[x1]) w2 fun v4 w5 =>
  X Tryz.prog (binOpG .eql 3 (.tmp 21) (.const (.int .i64 0)) v4 (.int .i64 0)) w5 fun v5 w6 =>
  condS v5 (
  X Tryz.prog (Instr.build 33 #[]) w6 fun v6 w7 =>
  XU Tryz.prog (Instr.storeAt 33 v1 v6) w7 fun w8 =>
  resC Tryz.prog 33 v1 w8 fun r0 =>
  K (.tuple #[r0, (.bool false), (.int .i64 1)]) w8) (
  X Tryz.prog (Builtin.len_ #[28] 3 #[x1]) w6 fun v7 w9 =>
  X Tryz.prog (binOp .gtr 3 v7 (.int .i64 4096)) w9 fun v8 w10 =>
  gstep v8 false (fun w11 K => K x1 w11) w10 fun v9 w12 =>
  gstep v8 false (fun w13 K => X Tryz.prog (Instr.build 40 #[(1, v9)]) w13 K) w12 fun v10 w14 =>
  gstep v8 false (fun w15 K => X Tryz.prog (Instr.buildSlice 41 1 #[(0, v10)]) w15 K) w14 fun v11 w16 =>
  gstep v8 false (fun w17 K => CALL Tryz.prog 7 #[v11] w17 K) w16 fun v12 w18 =>
  gstep v8 false (fun w19 K => K x0 w19) w18 fun v13 w20 =>
  gstep v8 false (fun w21 K => CALL Tryz.prog 17 #[v13] w21 K) w20 fun v14 w22 =>
  gstep v8 false (fun w23 K => X Tryz.prog (binOp .gtr 3 v12 v14) w23 K) w22 fun v15 w24 =>
  X Tryz.prog (pickS v8 (.bool true) v15) w24 fun v16 w25 =>
  condS v16 (
  X Tryz.prog (Instr.build 33 #[]) w25 fun v17 w26 =>
  XU Tryz.prog (Instr.storeAt 33 v1 v17) w26 fun w27 =>
  resC Tryz.prog 33 v1 w27 fun r0 =>
  K (.tuple #[r0, (.bool false), (.int .i64 4)]) w27) (
  X Tryz.prog (Instr.buildSlice 22 1 #[(0, x1)]) w25 fun v18 w28 =>
  CALL Tryz.prog 18 #[v18] w28 fun v19 w29 =>
  X Tryz.prog (Instr.build 33 #[(0, v19)]) w29 fun v20 w30 =>
  X Tryz.prog (Instr.alloc 33 true (.tuple #[])) w30 fun v21 w31 =>
  XU Tryz.prog (Instr.storeAt 33 v21 v20) w31 fun w32 =>
  ∃ R, Frame? R ∧
  XP Tryz.prog (nilS x0) (drewW w32) fun v22 w33 =>
  XP Tryz.prog (Instr.fieldAt 71 v22 1) w33 fun v23 w34 =>
  XR Tryz.prog R (Instr.loadAt 68 v23) w34 fun v24 w35 =>
  XP Tryz.prog (Instr.fieldAt 33 v21 0) w35 fun v25 w36 =>
  XR Tryz.prog R (Instr.loadAt 30 v25) w36 fun v26 w37 =>
  CALL Tryz.prog 19 #[v24, v26] w37 fun v27 w38 =>
  XP Tryz.prog (Builtin.len_ #[67] 3 #[v27]) w38 fun v28 w39 =>
  loopS (fun Q1 ρ1 w40 =>
  X Tryz.prog (binOp .lss 3 (ρ1 50) (ρ1 49)) w40 fun v29 w41 =>
  condS v29 (
  joinS (fun ρ2 w42 =>
  X Tryz.prog (binOp .add 3 (ρ2 50) (.int .i64 1)) w42 fun v30 w43 =>
  Q1 .normal (upds ρ2 [(50, v30), (78, v30)]) w43) fun J2 =>
  X Tryz.prog (Instr.indexAt 67 (ρ1 48) (ρ1 50)) w41 fun v31 w44 =>
  X Tryz.prog (Instr.loadAt 33 v31) w44 fun v32 w45 =>
  X Tryz.prog (Instr.alloc 33 true (.tuple #[])) w45 fun v33 w46 =>
  XU Tryz.prog (Instr.storeAt 33 v33 v32) w46 fun w47 =>
  X Tryz.prog (Instr.loadAt 33 v33) w47 fun v34 w48 =>
  CALL Tryz.prog 20 #[(ρ1 0), v34, (ρ1 2)] w48 fun v35 w49 =>
  X Tryz.prog (Instr.extract v35 0) w49 fun v36 w50 =>
  X Tryz.prog (Instr.extract v35 1) w50 fun v37 w51 =>
  X Tryz.prog (binOpG .neq 34 (.tmp 61) (.const (.int .i64 0)) v37 (.int .i64 0)) w51 fun v38 w52 =>
  condS v38 (
  X Tryz.prog (Instr.build 33 #[]) w52 fun v39 w53 =>
  XU Tryz.prog (Instr.storeAt 33 (ρ1 6) v39) w53 fun w54 =>
  Q1 .ret (upds ρ1 [(8, v37), (7, (.bool false)), (64, v37), (63, v39), (62, v38), (61, v37), (13, v37), (12, v36), (60, v37), (59, v36), (54, v35), (58, v35), (57, (ρ1 2)), (56, v34), (55, (ρ1 0)), (11, v33), (53, v32), (52, v31), (51, v29)]) w54) (
  CALL Tryz.prog 21 #[v36, (ρ1 1)] w52 fun v40 w55 =>
  condS v40 (
  X Tryz.prog (Instr.loadAt 33 v33) w55 fun v41 w56 =>
  XU Tryz.prog (Instr.storeAt 33 (ρ1 6) v41) w56 fun w57 =>
  Q1 .ret (upds ρ1 [(8, (.int .i64 0)), (7, (.bool false)), (68, v41), (67, v40), (66, (ρ1 1)), (65, v36), (62, v38), (61, v37), (13, v37), (12, v36), (60, v37), (59, v36), (54, v35), (58, v35), (57, (ρ1 2)), (56, v34), (55, (ρ1 0)), (11, v33), (53, v32), (52, v31), (51, v29)]) w57) (
  X Tryz.prog (Instr.fieldAt 33 v33 1) w55 fun v42 w58 =>
  X Tryz.prog (Instr.loadAt 31 v42) w58 fun v43 w59 =>
  X Tryz.prog (Instr.fieldAt 33 (ρ1 9) 1) w59 fun v44 w60 =>
  X Tryz.prog (Instr.loadAt 31 v44) w60 fun v45 w61 =>
  X Tryz.prog (binOpG .eql 31 (.tmp 70) (.tmp 72) v43 v45) w61 fun v46 w62 =>
  condS v46 (
  X Tryz.prog (Instr.fieldAt 33 (ρ1 9) 1) w62 fun v47 w63 =>
  X Tryz.prog (Instr.loadAt 31 v47) w63 fun v48 w64 =>
  X Tryz.prog (binOp .add 31 v48 (.int .u32 1)) w64 fun v49 w65 =>
  X Tryz.prog (Instr.fieldAt 33 (ρ1 9) 1) w65 fun v50 w66 =>
  XU Tryz.prog (Instr.storeAt 31 v50 v49) w66 fun w67 =>
  J2 (upds ρ1 [(77, v50), (76, v49), (75, v48), (74, v47), (73, v46), (72, v45), (71, v44), (70, v43), (69, v42), (67, v40), (66, (ρ1 1)), (65, v36), (62, v38), (61, v37), (13, v37), (12, v36), (60, v37), (59, v36), (54, v35), (58, v35), (57, (ρ1 2)), (56, v34), (55, (ρ1 0)), (11, v33), (53, v32), (52, v31), (51, v29)]) w67) (
  J2 (upds ρ1 [(73, v46), (72, v45), (71, v44), (70, v43), (69, v42), (67, v40), (66, (ρ1 1)), (65, v36), (62, v38), (61, v37), (13, v37), (12, v36), (60, v37), (59, v36), (54, v35), (58, v35), (57, (ρ1 2)), (56, v34), (55, (ρ1 0)), (11, v33), (53, v32), (52, v31), (51, v29)]) w62)))) (
  Q1 (.exit 1) (upds ρ1 [(51, v29)]) w41)) (inBlockS 1 (thenS (fun ρ3 w68 =>
  ∃ R, Frame? R ∧
  XR Tryz.prog R (Instr.loadAt 33 (ρ3 9)) (drewW w68) fun v51 w69 =>
  CALL Tryz.prog 23 #[(ρ3 1)] w69 fun v52 w70 =>
  R w69 w70 ∧
  XP Tryz.prog (Instr.build 40 #[(0, v51), (1, v52)]) w70 fun v53 w71 =>
  CALL Tryz.prog 22 #[(ρ3 0), v53] w71 fun v54 w72 =>
  R w71 w72 ∧
  X Tryz.prog (binOpG .neq 34 (.tmp 85) (.const (.int .i64 0)) v54 (.int .i64 0)) w72 fun v55 w73 =>
  condS v55 (
  X Tryz.prog (Instr.build 33 #[]) w73 fun v56 w74 =>
  XU Tryz.prog (Instr.storeAt 33 (ρ3 6) v56) w74 fun w75 =>
  resC Tryz.prog 33 (ρ3 6) w75 fun r0 =>
  K (.tuple #[r0, (.bool false), v54]) w75) (
  X Tryz.prog (Instr.loadAt 33 (ρ3 9)) w73 fun v57 w76 =>
  XU Tryz.prog (Instr.storeAt 33 (ρ3 6) v57) w76 fun w77 =>
  resC Tryz.prog 33 (ρ3 6) w77 fun r0 =>
  K (.tuple #[r0, (.bool true), (.int .i64 0)]) w77)) (retS Tryz.prog (Tryz.f6).results K))) (upds (env0 #[x0, x1, x2]) [(49, v28), (48, v27), (50, (.int .i64 0)), (47, v26), (46, v25), (45, v24), (44, v23), (43, v22), (42, x0), (9, v21), (41, v20), (40, v19), (39, v18), (38, x1), (24, v16), (36, v16), (35, v15), (34, v14), (33, v13), (32, v12), (31, v11), (30, v10), (29, v9), (28, v8), (27, v8), (26, v7), (25, x1), (19, v5), (22, v5), (21, v4), (20, x1), (15, v2), (17, v2), (16, x0), (8, (.int .i64 0)), (7, (.bool false)), (6, v1)]) w39)))
theorem eq_store_Store_Put (x0 x1 x2 : Value) (w : World) (K : Value → World → Prop) :
    sh Tryz.prog (Tryz.f6.body.getD .skip) (retS Tryz.prog Tryz.f6.results K) (env0 #[x0, x1, x2]) w = B_store_Store_Put x0 x1 x2 w K := by kernel_rfl
theorem call_store_Store_Put (x0 x1 x2 : Value) (w : World) (K : Value → World → Prop) (h : B_store_Store_Put x0 x1 x2 w K) : CALL Tryz.prog 6 #[x0, x1, x2] w K :=
  call_of_eq (c := Tryz.f6.body.getD .skip) mixed Tryz.func6 (by kernel_rfl) (by kernel_rfl) (by kernel_rfl) (Nat.le_of_ble_eq_true (by kernel_rfl)) (eq_store_Store_Put x0 x1 x2 w K) h
def B_store_Store_Shelves (x0 : Value) (w : World) (K : Value → World → Prop) : Prop :=
  X Tryz.prog (binOpG .eql 24 (.tmp 3) (.const (.pointer none)) x0 (.pointer none)) w fun v1 w1 =>
  condS v1 (
  K (.slice none 0 0) w1) (
  X Tryz.prog (nilS x0) w1 fun v2 w2 =>
  X Tryz.prog (Instr.fieldAt 71 v2 2) w2 fun v3 w3 =>
  X Tryz.prog (Instr.loadAt 69 v3) w3 fun v4 w4 =>
  CALL Tryz.prog 27 #[v4] w4 fun v5 w5 =>
  X Tryz.prog (Instr.makeFunc (.func 28) #[x0] #[]) w5 fun v6 w6 =>
  CALL Tryz.prog 26 #[v5, v6] w6 fun v7 w7 =>
  K v7 w7)
theorem eq_store_Store_Shelves (x0 : Value) (w : World) (K : Value → World → Prop) :
    sh Tryz.prog (Tryz.f9.body.getD .skip) (retS Tryz.prog Tryz.f9.results K) (env0 #[x0]) w = B_store_Store_Shelves x0 w K := by kernel_rfl
theorem call_store_Store_Shelves (x0 : Value) (w : World) (K : Value → World → Prop) (h : B_store_Store_Shelves x0 w K) : CALL Tryz.prog 9 #[x0] w K :=
  call_of_eq (c := Tryz.f9.body.getD .skip) mixed Tryz.func9 (by kernel_rfl) (by kernel_rfl) (by kernel_rfl) (Nat.le_of_ble_eq_true (by kernel_rfl)) (eq_store_Store_Shelves x0 w K) h
def B_slices_DeleteFunc_int (x0 x1 : Value) (w : World) (K : Value → World → Prop) : Prop :=
  CALL Tryz.prog 51 #[x0, x1] w fun v1 w1 =>
  X Tryz.prog (binOpG .eql 3 (.tmp 11) (.const (.int .i64 (-1))) v1 (.int .i64 (-1))) w1 fun v2 w2 =>
  condS v2 (
  K x0 w2) (
  X Tryz.prog (binOp .add 3 v1 (.int .i64 1)) w2 fun v3 w3 =>
  loopS (fun Q1 ρ1 w4 =>
  X Tryz.prog (Builtin.len_ #[43] 3 #[(ρ1 0)]) w4 fun v4 w5 =>
  X Tryz.prog (binOp .lss 3 (ρ1 6) v4) w5 fun v5 w6 =>
  condS v5 (
  joinS (fun ρ2 w7 =>
  X Tryz.prog (binOp .add 3 (ρ2 6) (.int .i64 1)) w7 fun v6 w8 =>
  Q1 .normal (upds ρ2 [(6, v6), (21, v6), (20, (ρ2 6))]) w8) fun J2 =>
  X Tryz.prog (Instr.indexAt 43 (ρ1 0) (ρ1 6)) w6 fun v7 w9 =>
  X Tryz.prog (Instr.loadAt 3 v7) w9 fun v8 w10 =>
  closS Tryz.prog (ρ1 1) #[v8] w10 fun v9 w11 =>
  X Tryz.prog (Op.unary .not v9) w11 fun v10 w12 =>
  condS v10 (
  X Tryz.prog (Instr.indexAt 43 (ρ1 0) (ρ1 5)) w12 fun v11 w13 =>
  XU Tryz.prog (Instr.storeAt 3 v11 v8) w13 fun w14 =>
  X Tryz.prog (binOp .add 3 (ρ1 5) (.int .i64 1)) w14 fun v12 w15 =>
  J2 (upds ρ1 [(5, v12), (35, v12), (34, (ρ1 5)), (33, v11), (32, v8), (31, (ρ1 5)), (30, (ρ1 0)), (29, v10), (28, v9), (27, v8), (26, (ρ1 1)), (7, v8), (25, v8), (24, v7), (23, (ρ1 6)), (22, (ρ1 0)), (19, v5), (18, v4), (17, (ρ1 0)), (16, (ρ1 6))]) w15) (
  J2 (upds ρ1 [(29, v10), (28, v9), (27, v8), (26, (ρ1 1)), (7, v8), (25, v8), (24, v7), (23, (ρ1 6)), (22, (ρ1 0)), (19, v5), (18, v4), (17, (ρ1 0)), (16, (ρ1 6))]) w12)) (
  Q1 (.exit 0) (upds ρ1 [(19, v5), (18, v4), (17, (ρ1 0)), (16, (ρ1 6))]) w6)) (inBlockS 0 (thenS (fun ρ3 w16 =>
  X Tryz.prog (Instr.sliceAt 43 (ρ3 0) (some (ρ3 5)) none none) w16 fun v13 w17 =>
  X Tryz.prog (Builtin.clear_ #[43] 0 #[v13]) w17 fun _ w18 =>
  X Tryz.prog (Instr.sliceAt 43 (ρ3 0) none (some (ρ3 5)) none) w18 fun v14 w19 =>
  K v14 w19) (retS Tryz.prog (Tryz.f26).results K))) (upds (env0 #[x0, x1]) [(6, v3), (15, v3), (14, v1), (12, v2), (11, v1), (5, v1), (10, v1), (9, x1), (8, x0), (4, (.slice none 0 0))]) w3)
theorem eq_slices_DeleteFunc_int (x0 x1 : Value) (w : World) (K : Value → World → Prop) :
    sh Tryz.prog (Tryz.f26.body.getD .skip) (retS Tryz.prog Tryz.f26.results K) (env0 #[x0, x1]) w = B_slices_DeleteFunc_int x0 x1 w K := by kernel_rfl
theorem call_slices_DeleteFunc_int (x0 x1 : Value) (w : World) (K : Value → World → Prop) (h : B_slices_DeleteFunc_int x0 x1 w K) : CALL Tryz.prog 26 #[x0, x1] w K :=
  call_of_eq (c := Tryz.f26.body.getD .skip) mixed Tryz.func26 (by kernel_rfl) (by kernel_rfl) (by kernel_rfl) (Nat.le_of_ble_eq_true (by kernel_rfl)) (eq_slices_DeleteFunc_int x0 x1 w K) h
def B_slices_IndexFunc_int (x0 x1 : Value) (w : World) (K : Value → World → Prop) : Prop :=
  X Tryz.prog (Builtin.len_ #[43] 3 #[x0]) w fun v1 w1 =>
  loopS (fun Q1 ρ1 w2 =>
  X Tryz.prog (binOp .lss 3 (ρ1 8) (ρ1 7)) w2 fun v2 w3 =>
  condS v2 (
  X Tryz.prog (Instr.indexAt 43 (ρ1 0) (ρ1 8)) w3 fun v3 w4 =>
  X Tryz.prog (Instr.loadAt 3 v3) w4 fun v4 w5 =>
  closS Tryz.prog (ρ1 1) #[v4] w5 fun v5 w6 =>
  condS v5 (
  Q1 .ret (upds ρ1 [(4, (ρ1 8)), (17, (ρ1 8)), (16, v5), (15, v4), (14, v3), (13, (ρ1 8)), (12, (ρ1 0)), (11, (ρ1 1)), (5, (ρ1 8)), (10, (ρ1 8)), (9, v2)]) w6) (
  X Tryz.prog (binOp .add 3 (ρ1 8) (.int .i64 1)) w6 fun v6 w7 =>
  Q1 .normal (upds ρ1 [(8, v6), (18, v6), (16, v5), (15, v4), (14, v3), (13, (ρ1 8)), (12, (ρ1 0)), (11, (ρ1 1)), (5, (ρ1 8)), (10, (ρ1 8)), (9, v2)]) w7)) (
  Q1 (.exit 0) (upds ρ1 [(9, v2)]) w3)) (inBlockS 0 (thenS (fun ρ2 w8 =>
  K (.int .i64 (-1)) w8) (retS Tryz.prog (Tryz.f51).results K))) (upds (env0 #[x0, x1]) [(8, (.int .i64 0)), (7, v1), (6, x0), (4, (.int .i64 0))]) w1
theorem eq_slices_IndexFunc_int (x0 x1 : Value) (w : World) (K : Value → World → Prop) :
    sh Tryz.prog (Tryz.f51.body.getD .skip) (retS Tryz.prog Tryz.f51.results K) (env0 #[x0, x1]) w = B_slices_IndexFunc_int x0 x1 w K := by kernel_rfl
theorem call_slices_IndexFunc_int (x0 x1 : Value) (w : World) (K : Value → World → Prop) (h : B_slices_IndexFunc_int x0 x1 w K) : CALL Tryz.prog 51 #[x0, x1] w K :=
  call_of_eq (c := Tryz.f51.body.getD .skip) mixed Tryz.func51 (by kernel_rfl) (by kernel_rfl) (by kernel_rfl) (Nat.le_of_ble_eq_true (by kernel_rfl)) (eq_slices_IndexFunc_int x0 x1 w K) h
end Go.Proofs.YtcigpjejbkngfaaGreatDoor
end
section
set_option maxRecDepth 8000
namespace Go.Proofs.YtcigpjejbkngfaaGreatDoor
open Go Go.Sh Go.RowKit
attribute [local irreducible] X XU XP XR CALL loopS resC closS
theorem VauAt.grow {w : World} {D E : Nat → Prop} {vb n k : Nat} {c : Nat → List UInt8} (h : VauAt w D vb n k c) (hd : ∀ g, D g → E g) (hl : ∀ g, E g → g < w.heap.size) : VauAt w E vb n k c := by
  obtain ⟨⟨b, d, h1, h2, h3, h4, h5, h6, h7, h8, h9, h10⟩, hv, hlt⟩ := h
  exact ⟨⟨b, d, h1, h2, h3, h4, h5, h6, h7, h8, fun g hg => hd _ (h9 g hg), h10⟩, hd _ hv, hl⟩
def heldSize (H : List Pp) : Int := if H = [] then 0 else ((sizeP H : Nat) : Int)
def tag (τ : Nat → Nat) (w w1 : World) (i : Nat) (g : Nat) : Nat := if w.heap.size ≤ g ∧ g < w1.heap.size then i else τ g
theorem tag_old {τ : Nat → Nat} {w w1 : World} {i g : Nat} (h : g < w.heap.size) : tag τ w w1 i g = τ g := if_neg (fun hc => by omega)
theorem tag_new {τ : Nat → Nat} {w w1 : World} {i g : Nat} (h : w.heap.size ≤ g ∧ g < w1.heap.size) : tag τ w w1 i g = i := if_pos h
structure Stp (w : World) (τ : Nat → Nat) (w1 : World) (τ1 : Nat → Nat) : Prop where
  keep : Keep (fun g => τ g ≠ 0 ∧ τ g ≠ 6) w w1
  old : ∀ g, g < w.heap.size → τ1 g = τ g
theorem Stp.size {w w1 : World} {τ τ1 : Nat → Nat} (h : Stp w τ w1 τ1) : w.heap.size ≤ w1.heap.size := h.keep.size
theorem Stp.trans {w w1 w2 : World} {τ τ1 τ2 : Nat → Nat} (h : Stp w τ w1 τ1) (h' : Stp w1 τ1 w2 τ2) : Stp w τ w2 τ2 :=
  ⟨Keep.seq h.keep h'.keep (fun g hg hne => by rw [h.old g hg] at hne; exact hne), fun g hg => by rw [h'.old g (by have := h.size; omega), h.old g hg]⟩
theorem Stp.ext {w w1 : World} {τ : Nat → Nat} (h : Ext w w1) : Stp w τ w1 τ := ⟨Keep.ext h, fun _ _ => rfl⟩
theorem Stp.refl (w : World) (τ : Nat → Nat) : Stp w τ w τ := ⟨Keep.refl _ _, fun _ _ => rfl⟩
structure StIn (w : World) (τ : Nat → Nat) (sb n : Nat) (S : List (List Pp)) (H : List Pp) (R : List Ex) (tk id : Nat) (sz at_ : Int) (vb fb s1 w1 s2 w2 : Nat) (hv : Value) (hc : List Pc) (c : Nat → List UInt8) : Prop where
  cell : w.heap[sb]? = some (.cells #[ptr vb, ptr fb, ptr s1, ptr s2, hv, .int .i64 sz, .int .i64 at_, .int .u32 (id : Int)] 71 (0, 0))
  vau : VauAt w (τ · = 2) vb n S.length c
  con : ∀ i (h : i < S.length), c i = layP (i + 1) S[i]
  fnd : FindAt w (τ · = 1) fb R
  now : SpAt w s1 w1 n tk
  kept : SpAt w s2 w2 n 0
  g1 : τ s1 = 3
  g2 : τ w1 = 3
  g3 : τ s2 = 4
  g4 : τ w2 = 4
  held : OwnK 34 40 Pc.cs w 0 hv hc
  pls : pl hc = H
  hb : ∀ g, hv.ownBlock = some g → τ g = 5
  data : ∀ x ∈ hc, x.In w
  db : ∀ x ∈ hc, ∀ g, x.dv.ownBlock = some g → τ g = 6
  sb : τ sb = 7
  lt : ∀ g, τ g ≠ 0 → g < w.heap.size
section
variable {w W : World} {τ : Nat → Nat} {sb n tk id vb fb s1 w1 s2 w2 : Nat} {S : List (List Pp)} {H : List Pp} {R : List Ex} {sz at_ : Int} {hv : Value} {hc : List Pc} {c : Nat → List UInt8}
theorem In_keep {x : Pc} {E : Nat → Prop} (h : x.In w) (k : Keep E w W) (hd : ∀ g, x.dv.ownBlock = some g → ¬ E g) : x.In W := Bts.keep h k hd
theorem StIn.keep {E : Nat → Prop} (h : StIn w τ sb n S H R tk id sz at_ vb fb s1 w1 s2 w2 hv hc c) (k : Keep E w W) (hd : ∀ g, τ g ≠ 0 → ¬ E g) : StIn W τ sb n S H R tk id sz at_ vb fb s1 w1 s2 w2 hv hc c where
  cell := k.get (hd _ (by rw [h.sb]; decide)) h.cell
  vau := h.vau.keep k (fun g hg => hd _ (by rw [hg]; decide))
  con := h.con
  fnd := h.fnd.keep k (fun g hg => hd _ (by rw [hg]; decide))
  now := h.now.keep k (hd _ (by rw [h.g1]; decide)) (hd _ (by rw [h.g2]; decide))
  kept := h.kept.keep k (hd _ (by rw [h.g3]; decide)) (hd _ (by rw [h.g4]; decide))
  g1 := h.g1
  g2 := h.g2
  g3 := h.g3
  g4 := h.g4
  held := h.held.keep k (fun g hg => hd _ (by rw [h.hb g hg]; decide))
  pls := h.pls
  hb := h.hb
  data := fun x hx => In_keep (h.data x hx) k (fun g hg => hd _ (by rw [h.db x hx g hg]; decide))
  db := h.db
  sb := h.sb
  lt := fun g hg => by have := h.lt g hg; have := k.size; omega
theorem StIn.ext (h : StIn w τ sb n S H R tk id sz at_ vb fb s1 w1 s2 w2 hv hc c) (k : Ext w W) : StIn W τ sb n S H R tk id sz at_ vb fb s1 w1 s2 w2 hv hc c := h.keep k (fun _ _ h => h)
theorem StIn.find {R' : List Ex} (h : StIn w τ sb n S H R tk id sz at_ vb fb s1 w1 s2 w2 hv hc c) (k : Keep (τ · = 1) w W) (hf : FindAt W (Grown w W (τ · = 1)) fb R') : StIn W (tag τ w W 1) sb n S H R' tk id sz at_ vb fb s1 w1 s2 w2 hv hc c where
  cell := k.get (by rw [h.sb]; decide) h.cell
  vau := (h.vau.keep k (fun g hg => by rw [hg]; decide)).grow (fun g hg => by rw [tag_old (h.lt g (by rw [hg]; decide))]; exact hg) (fun g hg => by
    by_cases hn : w.heap.size ≤ g ∧ g < W.heap.size
    · exact hn.2
    · rw [tag, if_neg hn] at hg
      have := h.lt g (by rw [hg]; decide)
      have := k.size
      omega)
  con := h.con
  fnd := hf.grow (fun g hg => by
    rcases hg with hg | hg
    · rw [tag_old (h.lt g (by rw [hg]; decide))]; exact hg
    · exact tag_new hg) (fun g hg => by
    by_cases hn : w.heap.size ≤ g ∧ g < W.heap.size
    · exact hn.2
    · rw [tag, if_neg hn] at hg
      have := h.lt g (by rw [hg]; decide)
      have := k.size
      omega)
  now := h.now.keep k (by rw [h.g1]; decide) (by rw [h.g2]; decide)
  kept := h.kept.keep k (by rw [h.g3]; decide) (by rw [h.g4]; decide)
  g1 := by rw [tag_old (h.lt _ (by rw [h.g1]; decide))]; exact h.g1
  g2 := by rw [tag_old (h.lt _ (by rw [h.g2]; decide))]; exact h.g2
  g3 := by rw [tag_old (h.lt _ (by rw [h.g3]; decide))]; exact h.g3
  g4 := by rw [tag_old (h.lt _ (by rw [h.g4]; decide))]; exact h.g4
  held := h.held.keep k (fun g hg => by rw [h.hb g hg]; decide)
  pls := h.pls
  hb := fun g hg => by rw [tag_old (h.lt g (by rw [h.hb g hg]; decide))]; exact h.hb g hg
  data := fun x hx => In_keep (h.data x hx) k (fun g hg => by rw [h.db x hx g hg]; decide)
  db := fun x hx g hg => by rw [tag_old (h.lt g (by rw [h.db x hx g hg]; decide))]; exact h.db x hx g hg
  sb := by rw [tag_old (h.lt _ (by rw [h.sb]; decide))]; exact h.sb
  lt := fun g hg => by
    by_cases hn : w.heap.size ≤ g ∧ g < W.heap.size
    · exact hn.2
    · rw [tag, if_neg hn] at hg
      have := h.lt g hg
      have := k.size
      omega
theorem stp_tag {i : Nat} (hi : i ≠ 0 ∧ i ≠ 6) (k : Keep (τ · = i) w W) : Stp w τ W (tag τ w W i) := ⟨k.mono (fun g _ hg => by rw [hg]; exact hi), fun g hg => tag_old hg⟩
end
section
variable {w : World} {K : Value → World → Prop} {τ : Nat → Nat} {sb n tk id vb fb s1 w1 s2 w2 : Nat} {S : List (List Pp)} {H : List Pp} {R : List Ex} {sz at_ : Int} {hv : Value} {hc : List Pc} {c : Nat → List UInt8}
theorem limit_spec (h : StIn w τ sb n S H R tk id sz at_ vb fb s1 w1 s2 w2 hv hc c) (hK : K (i64v 508) w) : CALL Tryz.prog 17 #[ptr sb] w K := by
  apply call_store_Store_limit
  unfold B_store_Store_limit
  (repeat (simp only [SLB, Int.reduceEq, Int.reduceNe, Int.reduceLT, Int.reduceLE, Int.reduceGT, Int.reduceGE, X_field_71_0]))
  refine X_of (run_loadAt (v := ptr vb) agg_57 ((cell_blk h.cell).trans rfl)) ?_
  refine VauRoom_spec h.vau ?_
  (repeat (simp only [SLB, Int.reduceEq, Int.reduceNe, Int.reduceLT, Int.reduceLE, Int.reduceGT, Int.reduceGE]))
  exact hK
theorem held_sl (h : StIn w τ sb n S H R tk id sz at_ vb fb s1 w1 s2 w2 hv hc c) : ∃ a cc, hv = .slice a H.length cc := by
  obtain ⟨a, cc, e⟩ := (OwnK.rowK (by decide) Pc.len h.held).slice
  refine ⟨a, cc, ?_⟩
  rw [e, ← h.pls, List.length_map]
theorem holds_spec {a : Int} (h : StIn w τ sb n S H R tk id sz at_ vb fb s1 w1 s2 w2 hv hc c) (hK : K (.bool (decide (H ≠ [] ∧ at_ = a))) w) : CALL Tryz.prog 28 #[ptr sb, .int .i64 a] w K := by
  obtain ⟨ha, hcc, e⟩ := held_sl h
  apply call_store_Store_holds
  unfold B_store_Store_holds
  (repeat (simp only [SLB, Int.reduceEq, Int.reduceNe, Int.reduceLT, Int.reduceLE, Int.reduceGT, Int.reduceGE, X_field_71_4]))
  refine X_of (run_loadAt (v := hv) agg_41 ((cell_blk h.cell).trans rfl)) ?_
  rw [e, X_len_41, X_gtr]
  by_cases hH : H = []
  · have e1 : decide ((H.length : Int) > 0) = false := by rw [hH]; rfl
    have e2 : decide (H ≠ [] ∧ at_ = a) = false := decide_eq_false (fun hx => hx.1 hH)
    rw [e2] at hK
    rw [e1]
    (repeat (simp only [SLB, Int.reduceEq, Int.reduceNe, Int.reduceLT, Int.reduceLE, Int.reduceGT, Int.reduceGE]))
    exact hK
  · have hp : 0 < H.length := List.length_pos_iff.2 hH
    have e1 : decide ((H.length : Int) > 0) = true := decide_eq_true (by omega)
    have e2 : decide (H ≠ [] ∧ at_ = a) = decide (at_ = a) := by
      by_cases ha : at_ = a
      · rw [decide_eq_true (show H ≠ [] ∧ at_ = a from ⟨hH, ha⟩), decide_eq_true ha]
      · rw [decide_eq_false (show ¬ (H ≠ [] ∧ at_ = a) from fun hx => ha hx.2), decide_eq_false ha]
    rw [e2] at hK
    rw [e1]
    (repeat (simp only [SLB, Int.reduceEq, Int.reduceNe, Int.reduceLT, Int.reduceLE, Int.reduceGT, Int.reduceGE, X_field_71_6]))
    refine X_of (run_loadAt (v := .int .i64 at_) agg_3 ((cell_blk h.cell).trans rfl)) ?_
    (repeat (simp only [SLB, Int.reduceEq, Int.reduceNe, Int.reduceLT, Int.reduceLE, Int.reduceGT, Int.reduceGE]))
    exact hK
theorem fetch_spec {i : Nat} (h : StIn w τ sb n S H R tk id sz at_ vb fb s1 w1 s2 w2 hv hc c) (hi : i < S.length) (hn : S.length ≤ n) (hchk : chk S[i] = 0) (hne : S[i] ≠ []) (hfit : sizeP S[i] ≤ 508) (hS : S.length ≤ 100000)
    (hK : ∀ u vl cs w3 base, Ext w w3 → pl cs = S[i] → OwnK 34 40 Pc.cs w3 base vl cs → (∀ x ∈ cs, x.In w3) → K (.tuple #[u, vl, i64v 0]) w3) : CALL Tryz.prog 43 #[ptr sb, .int .i64 (i : Int)] w K := by
  have e0 : decide ((0 : Int) ≠ 0) = false := rfl
  have e6 : decide ((0 : Int) = 6) = false := rfl
  apply call_store_Store_fetch
  unfold B_store_Store_fetch
  (repeat (simp only [SLB, Int.reduceEq, Int.reduceNe, Int.reduceLT, Int.reduceLE, Int.reduceGT, Int.reduceGE, X_field_71_0]))
  refine X_of (run_loadAt (v := ptr vb) agg_57 ((cell_blk h.cell).trans rfl)) ?_
  refine VauGet_spec h.vau (by omega) ?_
  intro u w3 hx3 hb3
  rw [h.con i hi] at hb3
  (repeat (simp only [SLB, Int.reduceEq, Int.reduceNe, Int.reduceLT, Int.reduceLE, Int.reduceGT, Int.reduceGE, e0, e6]))
  refine Take_spec hb3 (by rw [layP_len]; omega) ?_ ?_
  · intro hno
    exact absurd rfl (hno (i + 1) S[i] (by omega) hchk)
  · intro id' l' hid' hchk' hlay q vl cs w4 hpl hx4 ht
    have hl := (lay_eq (by omega) hid' (fit_chk hchk) (fit_chk hchk') hlay).2
    have hrow := OwnK.rowK (by decide) Pc.len ht.row
    obtain ⟨a, cc, e⟩ := hrow.slice
    have hlen : 0 < cs.length := by
      have : (pl cs).length = S[i].length := by rw [hpl, hl]
      have h2 := List.length_pos_iff.2 hne
      rw [List.length_map] at this
      omega
    have ec : decide ((cs.length : Int) = 0) = false := decide_eq_false (by omega)
    rw [e]
    (repeat (simp only [SLB, Int.reduceEq, Int.reduceNe, Int.reduceLT, Int.reduceLE, Int.reduceGT, Int.reduceGE, e0, ec]))
    rw [← e]
    exact hK _ _ cs w4 _ (hx3.trans hx4) (hpl.trans hl.symm) ht.row ht.inn
end
end Go.Proofs.YtcigpjejbkngfaaGreatDoor
end
section
set_option maxRecDepth 8000
namespace Go.Proofs.YtcigpjejbkngfaaGreatDoor
open Go Go.Sh Go.RowKit
attribute [local irreducible] X XU XP XR CALL loopS resC closS
theorem own_piece {w : World} {base : Nat} {v : Value} {cs : List Pc} {i : Nat} (ho : OwnK 34 40 Pc.cs w base v cs) (hi : i < cs.length) : ∃ g, (∀ w', (Instr.indexAt 41 v (.int .i64 (i : Int))).run Tryz.prog w' = .ok (.pointer (some ⟨g, i * 34, none⟩)) w') ∧
    ∀ j u, cs[i].cs[j]? = some u → w.cell? ⟨g, i * 34 + j, none⟩ = some u := by
  obtain ⟨ad, hix, hcs⟩ := (OwnK.rowK (by decide) Pc.len ho).at Tryz.underlying41 info_40 sz_40 (kd := .i64) i rfl hi
  rcases ho.2 with ⟨_, h0⟩ | ⟨g, cap, cur, hv, hg, hh, hnc, hm, hs, ht⟩
  · omega
  have hix2 : ∀ w', (Instr.indexAt 41 v (.int .i64 (i : Int))).run Tryz.prog w' = .ok (.pointer (some ⟨g, i * 34, none⟩)) w' := fun w' => by
    rw [hv, ix Tryz.underlying41 info_40 i rfl hi w', sz_40, add_plain, Nat.zero_add]
  refine ⟨g, hix2, fun j u hu => ?_⟩
  have e := (hix w).symm.trans (hix2 w)
  injection e with e _
  injection e with e
  injection e with e
  have := hcs j u hu
  rw [e, add_plain] at this
  exact this
theorem piece_load {w : World} {g o : Nat} {x : Pc} (h : ∀ j u, x.cs[j]? = some u → w.cell? ⟨g, o + j, none⟩ = some u) : (Instr.loadAt 33 (.pointer (some ⟨g, o, none⟩))).run Tryz.prog w = .ok x.p.k.v w :=
  load_cells Tryz.underlying33 agg_33 info_33 (l := x.p.k.cs) (by rw [sz_33, Ky.cs_len]) (fun j u hj => by rw [add_plain]; exact h j u (x.keyAt hj))
theorem pl_at {hc : List Pc} {H : List Pp} {t : Nat} {p : Pp} (h : pl hc = H) (ht : H[t]? = some p) : ∃ hl : t < hc.length, hc[t].p = p := by
  rw [← h, List.getElem?_map] at ht
  obtain ⟨x, hx, rfl⟩ := Option.map_eq_some_iff.1 ht
  obtain ⟨hl, rfl⟩ := List.getElem?_eq_some_iff.1 hx
  exact ⟨hl, rfl⟩
section
variable {w : World} {K : Value → World → Prop} {τ : Nat → Nat} {sb n tk id vb fb s1 w1 s2 w2 : Nat} {S : List (List Pp)} {H : List Pp} {R : List Ex} {sz at_ : Int} {hv : Value} {hc : List Pc} {c : Nat → List UInt8}
theorem two_find {k : Ky} {p : Pl} {d : Nat} {R0 : World → World → Prop} (h : StIn w τ sb n S H R tk id sz at_ vb fb s1 w1 s2 w2 hv hc c) (hk : findR R k = some p) (hd : d < 18446744073709551616) (hI : I64 p.1) (hlen : (onShelf R p.1).length ≤ 12)
    (hR0 : ∀ a b, Ext a b → R0 a b) {K1 : Value → Value → Value → Value → World → Prop} {K2 : Value → Value → Value → Value → World → Prop}
    (hK1 : ∀ t q W τ', Stp w τ W τ' → StIn W τ' sb n S H R tk id sz at_ vb fb s1 w1 s2 w2 hv hc c → w.heap.size ≤ q → W.heap[q]? = some (.cells #[.int .i64 p.1, .int .i64 p.2] 104 (0, 0)) → K1 t (plV p) (.bool true) (ptr q) W)
    (hK2 : ∀ t q W τ', Stp w τ W τ' → StIn W τ' sb n S H R tk id sz at_ vb fb s1 w1 s2 w2 hv hc c → w.heap.size ≤ q → W.heap[q]? = some (.cells #[.int .i64 p.1, .int .i64 p.2] 104 (0, 0)) → K2 (ptr q) t (plV p) (.bool true) W) :
    (CALL Tryz.prog 42 #[ptr fb, k.v, .int .u64 (d : Int)] w fun t w13 => XP Tryz.prog (Instr.extract t 0) w13 fun a w14 => XP Tryz.prog (Instr.extract t 1) w14 fun b w15 => X Tryz.prog (Instr.alloc 104 true (.tuple #[])) w15 fun q w16 => R0 w15 w16 ∧ XU Tryz.prog (Instr.storeAt 104 q a) w16 fun w17 => K1 t a b q w17) ∧
    (X Tryz.prog (Instr.alloc 104 true (.tuple #[])) w fun q w18 => R0 w w18 ∧ CALL Tryz.prog 42 #[ptr fb, k.v, .int .u64 (d : Int)] w18 fun t w19 => XP Tryz.prog (Instr.extract t 0) w19 fun a w20 => XP Tryz.prog (Instr.extract t 1) w20 fun b w21 => XU Tryz.prog (Instr.storeAt 104 q a) w21 fun w22 => K2 q t a b w22) := by
  have hone : ∀ u ∈ [Value.int .i64 p.1, Value.int .i64 p.2], u.oneCell' = true := by intro u hu; simp only [List.mem_cons, List.not_mem_nil, or_false] at hu; rcases hu with rfl | rfl <;> rfl
  constructor
  · refine FFind_spec h.fnd hk hd hI hlen ?_
    intro w3 k3 hf3
    have h3 := h.find k3 hf3
    have st3 := stp_tag (i := 1) (by decide) k3
    (repeat (simp only [SLB, Int.reduceEq, Int.reduceNe, Int.reduceLT, Int.reduceLE, Int.reduceGT, Int.reduceGE]))
    refine X_alloc zero_104 ?_
    have hx4 := newB_ext w3 (Value.agg #[(.int .i64 0), (.int .i64 0)]).cells 104
    have hg4 : (newB w3 (Value.agg #[(.int .i64 0), (.int .i64 0)]).cells 104).heap[w3.heap.size]? = some (.cells [Value.int .i64 0, Value.int .i64 0].toArray 104 (0, 0)) := newB_get _ _ _
    generalize newB w3 (Value.agg #[(.int .i64 0), (.int .i64 0)]).cells 104 = w4 at hx4 hg4 ⊢
    refine ⟨hR0 _ _ hx4, ?_⟩
    refine XU_storeAgg (l := [.int .i64 p.1, .int .i64 p.2]) info_104 hg4 (by rw [sz_104]; rfl) (by rw [sz_104]; rfl) hone ?_
    have hs3 := k3.size
    have hx5 : Ext w3 (setAt w4 w3.heap.size [Value.int .i64 p.1, Value.int .i64 p.2].toArray 104 (0, 0)) := Ext.seq hx4 (setAt_keep _ _ _ _ _) (fun g hg => by omega)
    exact hK1 _ _ _ _ (st3.trans (Stp.ext hx5)) (h3.ext hx5) hs3 (setAt_same (lt_of_blk hg4))
  · refine X_alloc zero_104 ?_
    have hx4 := newB_ext w (Value.agg #[(.int .i64 0), (.int .i64 0)]).cells 104
    have hg4 : (newB w (Value.agg #[(.int .i64 0), (.int .i64 0)]).cells 104).heap[w.heap.size]? = some (.cells [Value.int .i64 0, Value.int .i64 0].toArray 104 (0, 0)) := newB_get _ _ _
    generalize newB w (Value.agg #[(.int .i64 0), (.int .i64 0)]).cells 104 = w4 at hx4 hg4 ⊢
    refine ⟨hR0 _ _ hx4, ?_⟩
    have h4 := h.ext hx4
    refine FFind_spec h4.fnd hk hd hI hlen ?_
    intro w3 k3 hf3
    have h3 := h4.find k3 hf3
    have st3 := stp_tag (i := 1) (by decide) k3
    (repeat (simp only [SLB, Int.reduceEq, Int.reduceNe, Int.reduceLT, Int.reduceLE, Int.reduceGT, Int.reduceGE]))
    have hq0 : τ w.heap.size = 0 := by
      by_cases h0 : τ w.heap.size = 0
      · exact h0
      · have := h.lt _ h0; omega
    have hg3 := k3.get (by rw [hq0]; decide) hg4
    refine XU_storeAgg (l := [.int .i64 p.1, .int .i64 p.2]) info_104 hg3 (by rw [sz_104]; rfl) (by rw [sz_104]; rfl) hone ?_
    have hq4 := lt_of_blk hg4
    have k5 := setAt_keep w3 w.heap.size [Value.int .i64 p.1, Value.int .i64 p.2].toArray 104 (0, 0)
    have h5 := h3.keep k5 (fun g hg hg' => hg (by rw [hg', tag_old hq4]; exact hq0))
    have st5 : Stp w τ (setAt w3 w.heap.size [Value.int .i64 p.1, Value.int .i64 p.2].toArray 104 (0, 0)) (tag τ w4 w3 1) := by
      have st := (Stp.ext hx4).trans st3
      exact ⟨Keep.seq st.keep k5 (fun g hg hg' => by omega), st.old⟩
    exact hK2 _ _ _ _ st5 h5 (Nat.le_refl _) (setAt_same (lt_of_blk hg3))
set_option maxHeartbeats 1000000 in
theorem read_spec {m : Sm} {p : Pp} {d : Nat} (h : StIn w τ sb n m.S m.H m.R tk id sz at_ vb fb s1 w1 s2 w2 hv hc c) (ok : m.Ok) (hp : p ∈ m.ps) (hd : d < 18446744073709551616) (hn : m.S.length ≤ n) (hS : m.S.length ≤ 100000) (hat : m.H ≠ [] → at_ = (m.S.length : Int))
    (hK : ∀ u W τ', Stp w τ W τ' → StIn W τ' sb n m.S m.H m.R tk id sz at_ vb fb s1 w1 s2 w2 hv hc c → Bts W u p.bs → K (.tuple #[u, i64v 0]) W) : CALL Tryz.prog 20 #[ptr sb, p.k.v, .int .u64 (d : Int)] w K := by
  have e0 : decide ((0 : Int) ≠ 0) = false := rfl
  have hnd : (m.ps.map Pp.k).Nodup := by rw [← m.keys]; exact h.fnd.nodup
  have hin : p.k ∈ m.R.map Ex.k := by rw [m.keys]; exact List.mem_map.2 ⟨p, hp, rfl⟩
  obtain ⟨r, hr, hrk⟩ := List.mem_map.1 hin
  have hfr : findR m.R p.k = some (r.off, r.len) := by rw [← hrk]; exact findR_mem h.fnd.nodup hr
  have hlen := ok.len
  have hwhere := Sm.at_ hr (by omega) hlen hnd hp hrk
  have hsh : (onShelf m.R r.off).length ≤ 12 := shelf_le hlen 0 (by simp; omega) _
  apply call_store_Store_read
  unfold B_store_Store_read
  refine X_box ?_
  have hx1 := newB_ext w p.k.v.cells 33
  have hg1 : (newB w p.k.v.cells 33).heap[w.heap.size]? = some (.cells p.k.cs.toArray 33 (0, 0)) := newB_get w p.k.v.cells 33
  generalize newB w p.k.v.cells 33 = wa at hx1 hg1 ⊢
  generalize hkb : w.heap.size = kb at hg1
  refine joinS_of (fun ρ W => ∃ q τ', Stp w τ W τ' ∧ StIn W τ' sb n m.S m.H m.R tk id sz at_ vb fb s1 w1 s2 w2 hv hc c ∧ W.heap[kb]? = some (.cells p.k.cs.toArray 33 (0, 0)) ∧ W.heap[q]? = some (.cells #[.int .i64 r.off, .int .i64 r.len] 104 (0, 0)) ∧ ρ 0 = ptr sb ∧ ρ 4 = ptr kb ∧ ρ 8 = ptr q ∧ ρ 9 = .bool true) ?_ ?_
  case refine_2 =>
    intro J hJ
    have kd := Keep.drew (fun _ => False) wa
    have hxd := hx1.trans kd
    have hgd := Ext.get kd hg1
    have hd' := h.ext hxd
    refine ⟨Ext, Ext.frame, ?_⟩
    generalize drewW wa = wd at hxd hgd hd' ⊢
    (repeat (simp only [SLB, Int.reduceEq, Int.reduceNe, Int.reduceLT, Int.reduceLE, Int.reduceGT, Int.reduceGE, XP_field_71_1]))
    refine XR_ok Ext.frame (fun w' kk => run_loadAt (v := ptr fb) agg_68 ((cell_blk (Ext.get kk hd'.cell)).trans rfl)) ?_
    refine XR_ok Ext.frame (fun w' kk => key_load (Ext.get kk hgd)) ?_
    have hkbn : ∀ {W : World} {τ' : Nat → Nat}, Stp wd τ W τ' → W.heap[kb]? = some (.cells p.k.cs.toArray 33 (0, 0)) := fun st => st.keep.get (fun h0 => by
      have := h.lt _ h0.1
      omega) hgd
    refine two_find hd' hfr hd ⟨r.o1, r.o2⟩ hsh (fun _ _ h => h) ?_ ?_
    · intro t q W τ' st hW hq hgq
      exact hJ _ _ ⟨q, τ', (Stp.ext hxd).trans st, hW, hkbn st, hgq, rfl, rfl, rfl, rfl⟩
    · intro t q W τ' st hW hq hgq
      exact hJ _ _ ⟨q, τ', (Stp.ext hxd).trans st, hW, hkbn st, hgq, rfl, rfl, rfl, rfl⟩
  rintro ρ W ⟨q, τ', st, hW, hgk, hgq, r0, r4, r8, r9⟩
  rw [r0, r4, r8, r9]
  (repeat (simp only [SLB, Int.reduceEq, Int.reduceNe, Int.reduceLT, Int.reduceLE, Int.reduceGT, Int.reduceGE, X_field_104_0]))
  refine X_of (run_loadAt (v := .int .i64 r.off) agg_3 ((cell_blk hgq).trans rfl)) ?_
  refine holds_spec hW ?_
  rcases hwhere with ⟨i, t, hi, ho, hl, hit⟩ | ⟨t, hH, ho, hl, hit⟩
  · have eh : decide (m.H ≠ [] ∧ at_ = r.off) = false := decide_eq_false (fun hx => by
      have := hat hx.1
      omega)
    rw [eh]
    (repeat (simp only [SLB, Int.reduceEq, Int.reduceNe, Int.reduceLT, Int.reduceLE, Int.reduceGT, Int.reduceGE, X_field_104_0]))
    refine X_of (run_loadAt (v := .int .i64 r.off) agg_3 ((cell_blk hgq).trans rfl)) ?_
    rw [ho]
    have hmem : m.S[i] ∈ m.S ++ [m.H] := List.mem_append_left _ (List.getElem_mem hi)
    refine fetch_spec hW hi hn (ok.chk hnd _ hmem) (ok.ne _ (List.getElem_mem hi)) (ok.fit _ hmem) hS ?_
    intro u vl cs w3 base hx3 hpl hrow hcin
    obtain ⟨htl, htp⟩ := pl_at hpl hit
    (repeat (simp only [SLB, Int.reduceEq, Int.reduceNe, Int.reduceLT, Int.reduceLE, Int.reduceGT, Int.reduceGE, e0]))
    have kd := Keep.drew (fun _ => False) w3
    refine ⟨Ext, Ext.frame, ?_⟩
    have hx3d := hx3.trans kd
    have hrowd := hrow.ext kd
    have hgkd := Ext.get hx3d hgk
    have hgqd := Ext.get hx3d hgq
    have hcind : ∀ x ∈ cs, x.In (drewW w3) := fun x hx => (hcin x hx).ext kd
    generalize drewW w3 = wd at hx3d hrowd hgkd hgqd hcind ⊢
    obtain ⟨g, hix, hcs⟩ := own_piece hrowd htl
    obtain ⟨av, cv, ev⟩ := (OwnK.rowK (by decide) Pc.len hrowd).slice
    (repeat (simp only [SLB, Int.reduceEq, Int.reduceNe, Int.reduceLT, Int.reduceLE, Int.reduceGT, Int.reduceGE, XP_field_104_1]))
    refine XR_ok Ext.frame (fun w' kk => run_loadAt (v := .int .i64 r.len) agg_3 ((cell_blk (Ext.get kk hgqd)).trans rfl)) ?_
    have eg : decide (r.len ≥ (cs.length : Int)) = false := decide_eq_false (by omega)
    rw [ev, XP_len_41, ← ev]
    (repeat (simp only [SLB, Int.reduceEq, Int.reduceNe, Int.reduceLT, Int.reduceLE, Int.reduceGT, Int.reduceGE, eg, XP_field_104_1]))
    refine XR_ok Ext.frame (fun w' kk => run_loadAt (v := .int .i64 r.len) agg_3 ((cell_blk (Ext.get kk hgqd)).trans rfl)) ?_
    rw [hl]
    refine XP_of (fun w' => hix w') ?_
    (repeat (simp only [SLB, Int.reduceEq, Int.reduceNe, Int.reduceLT, Int.reduceLE, Int.reduceGT, Int.reduceGE, XP_field_40_0]))
    refine XR_ok Ext.frame (fun w' kk => piece_load (fun j u hu => Keep.cell kk (fun h => h) (hcs j u hu))) ?_
    refine XR_ok Ext.frame (fun w' kk => key_load (Ext.get kk hgkd)) ?_
    refine XP_of (fun w' => run_key_neq _ _ _ _ w') ?_
    rw [htp]
    have en : decide (p.k ≠ p.k) = false := decide_eq_false (fun h => h rfl)
    (repeat (simp only [SLB, Int.reduceEq, Int.reduceNe, Int.reduceLT, Int.reduceLE, Int.reduceGT, Int.reduceGE, en, X_field_104_1]))
    refine X_of (run_loadAt (v := .int .i64 r.len) agg_3 ((cell_blk hgqd).trans rfl)) ?_
    rw [hl]
    refine X_of (hix _) ?_
    (repeat (simp only [SLB, Int.reduceEq, Int.reduceNe, Int.reduceLT, Int.reduceLE, Int.reduceGT, Int.reduceGE, X_field_40_1]))
    refine X_of (run_loadAt agg_28 (hcs 33 _ (cs[t].dvAt))) ?_
    have := hcind _ (List.getElem_mem htl)
    unfold Pc.In at this
    rw [htp] at this
    exact hK _ wd τ' (st.trans (Stp.ext hx3d)) (hW.ext hx3d) this
  · have eh : decide (m.H ≠ [] ∧ at_ = r.off) = true := decide_eq_true ⟨hH, by rw [hat hH, ho]⟩
    rw [eh]
    (repeat (simp only [SLB, Int.reduceEq, Int.reduceNe, Int.reduceLT, Int.reduceLE, Int.reduceGT, Int.reduceGE]))
    have kd := Keep.drew (fun _ => False) W
    refine ⟨Ext, Ext.frame, ?_⟩
    have hWd := hW.ext kd
    have hgqd := Ext.get kd hgq
    generalize drewW W = wd at kd hWd hgqd ⊢
    obtain ⟨htl, htp⟩ := pl_at hWd.pls hit
    obtain ⟨g, hix, hcs⟩ := own_piece hWd.held htl
    (repeat (simp only [SLB, Int.reduceEq, Int.reduceNe, Int.reduceLT, Int.reduceLE, Int.reduceGT, Int.reduceGE, XP_field_71_4]))
    refine XR_ok Ext.frame (fun w' kk => run_loadAt (v := hv) agg_41 ((cell_blk (Ext.get kk hWd.cell)).trans rfl)) ?_
    (repeat (simp only [SLB, Int.reduceEq, Int.reduceNe, Int.reduceLT, Int.reduceLE, Int.reduceGT, Int.reduceGE, XP_field_104_1]))
    refine XR_ok Ext.frame (fun w' kk => run_loadAt (v := .int .i64 r.len) agg_3 ((cell_blk (Ext.get kk hgqd)).trans rfl)) ?_
    rw [hl]
    refine XP_of (fun w' => hix w') ?_
    (repeat (simp only [SLB, Int.reduceEq, Int.reduceNe, Int.reduceLT, Int.reduceLE, Int.reduceGT, Int.reduceGE, XP_field_40_1]))
    refine XR_ok Ext.frame (fun w' kk => run_loadAt agg_28 (Keep.cell kk (fun h => h) (hcs 33 _ (hc[t].dvAt)))) ?_
    have := hWd.data _ (List.getElem_mem htl)
    unfold Pc.In at this
    rw [htp] at this
    exact hK _ wd τ' (st.trans (Stp.ext kd)) hWd this
end
end Go.Proofs.YtcigpjejbkngfaaGreatDoor
end
section
set_option maxRecDepth 8000
namespace Go.Proofs.YtcigpjejbkngfaaGreatDoor
open Go Go.Sh Go.RowKit
attribute [local irreducible] X XU XP XR CALL loopS resC closS
section
variable {w W : World} {τ : Nat → Nat} {sb n tk id vb fb s1 w1 s2 w2 : Nat} {S : List (List Pp)} {H : List Pp} {R : List Ex} {sz at_ : Int} {hv : Value} {hc : List Pc} {c : Nat → List UInt8}
theorem StIn.remake {E : Nat → Prop} {τ' : Nat → Nat} {H' : List Pp} {id' : Nat} {sz' at' : Int} {hv' : Value} {hc' : List Pc} (h : StIn w τ sb n S H R tk id sz at_ vb fb s1 w1 s2 w2 hv hc c) (k : Keep E w W) (hE : ∀ g, τ g ≠ 0 → E g → τ g = 7 ∨ τ g = 5)
    (hτ : ∀ g, g < w.heap.size → τ' g = τ g) (hlt : ∀ g, τ' g ≠ 0 → g < W.heap.size) (cell : W.heap[sb]? = some (.cells #[ptr vb, ptr fb, ptr s1, ptr s2, hv', .int .i64 sz', .int .i64 at', .int .u32 (id' : Int)] 71 (0, 0)))
    (held' : OwnK 34 40 Pc.cs W 0 hv' hc') (pls' : pl hc' = H') (hb' : ∀ g, hv'.ownBlock = some g → τ' g = 5) (data' : ∀ x ∈ hc', x.In W) (db' : ∀ x ∈ hc', ∀ g, x.dv.ownBlock = some g → τ' g = 6) :
    StIn W τ' sb n S H' R tk id' sz' at' vb fb s1 w1 s2 w2 hv' hc' c where
  cell := cell
  vau := (h.vau.keep k (fun g hg hx => by have := hE g (by rw [hg]; decide) hx; omega)).grow (fun g hg => by rw [hτ g (h.lt g (by rw [hg]; decide))]; exact hg) (fun g hg => hlt g (by rw [hg]; decide))
  con := h.con
  fnd := (h.fnd.keep k (fun g hg hx => by have := hE g (by rw [hg]; decide) hx; omega)).grow (fun g hg => by rw [hτ g (h.lt g (by rw [hg]; decide))]; exact hg) (fun g hg => hlt g (by rw [hg]; decide))
  now := h.now.keep k (fun hx => by have := hE _ (by rw [h.g1]; decide) hx; rw [h.g1] at this; omega) (fun hx => by have := hE _ (by rw [h.g2]; decide) hx; rw [h.g2] at this; omega)
  kept := h.kept.keep k (fun hx => by have := hE _ (by rw [h.g3]; decide) hx; rw [h.g3] at this; omega) (fun hx => by have := hE _ (by rw [h.g4]; decide) hx; rw [h.g4] at this; omega)
  g1 := by rw [hτ _ (h.lt _ (by rw [h.g1]; decide))]; exact h.g1
  g2 := by rw [hτ _ (h.lt _ (by rw [h.g2]; decide))]; exact h.g2
  g3 := by rw [hτ _ (h.lt _ (by rw [h.g3]; decide))]; exact h.g3
  g4 := by rw [hτ _ (h.lt _ (by rw [h.g4]; decide))]; exact h.g4
  held := held'
  pls := pls'
  hb := hb'
  data := data'
  db := db'
  sb := by rw [hτ _ (h.lt _ (by rw [h.sb]; decide))]; exact h.sb
  lt := hlt
theorem StIn.own {id' : Nat} {sz' at' : Int} (h : StIn w τ sb n S H R tk id sz at_ vb fb s1 w1 s2 w2 hv hc c) (k : Keep (· = sb) w W) (cell : W.heap[sb]? = some (.cells #[ptr vb, ptr fb, ptr s1, ptr s2, hv, .int .i64 sz', .int .i64 at', .int .u32 (id' : Int)] 71 (0, 0))) :
    StIn W τ sb n S H R tk id' sz' at' vb fb s1 w1 s2 w2 hv hc c :=
  h.remake k (fun g _ hg => by rw [hg]; exact .inl h.sb) (fun _ _ => rfl) (fun g hg => by have := h.lt g hg; have := k.size; omega) cell
    (h.held.keep k (fun g hg hx => by have := h.hb g hg; rw [hx, h.sb] at this; omega)) h.pls h.hb (fun x hx => In_keep (h.data x hx) k (fun g hg hx' => by have := h.db x hx g hg; rw [hx', h.sb] at this; omega)) h.db
theorem StIn.none {id' : Nat} {sz' at' : Int} (h : StIn w τ sb n S H R tk id sz at_ vb fb s1 w1 s2 w2 hv hc c) (k : Keep (· = sb) w W) (cell : W.heap[sb]? = some (.cells #[ptr vb, ptr fb, ptr s1, ptr s2, .slice none 0 0, .int .i64 sz', .int .i64 at', .int .u32 (id' : Int)] 71 (0, 0))) :
    StIn W τ sb n S [] R tk id' sz' at' vb fb s1 w1 s2 w2 (.slice none 0 0) [] c :=
  h.remake k (fun g _ hg => by rw [hg]; exact .inl h.sb) (fun _ _ => rfl) (fun g hg => by have := h.lt g hg; have := k.size; omega) cell
    (ownK_nil _ _) rfl (fun g hg => by cases hg) (fun x hx => by cases hx) (fun x hx => by cases hx)
theorem stp_own (h : StIn w τ sb n S H R tk id sz at_ vb fb s1 w1 s2 w2 hv hc c) (k : Keep (· = sb) w W) : Stp w τ W τ := ⟨k.mono (fun g _ hg => by rw [hg, h.sb]; decide), fun _ _ => rfl⟩
theorem StIn.vput {S' : List (List Pp)} {c' : Nat → List UInt8} (h : StIn w τ sb n S H R tk id sz at_ vb fb s1 w1 s2 w2 hv hc c) (k : Keep (τ · = 2) w W) (hvt : VauAt W (Grown w W (τ · = 2)) vb n S'.length c') (hcon : ∀ i (h : i < S'.length), c' i = layP (i + 1) S'[i]) :
    StIn W (tag τ w W 2) sb n S' H R tk id sz at_ vb fb s1 w1 s2 w2 hv hc c' := by
  have hl : ∀ g, tag τ w W 2 g ≠ 0 → g < W.heap.size := fun g hg => by
    by_cases hn : w.heap.size ≤ g ∧ g < W.heap.size
    · exact hn.2
    · rw [tag, if_neg hn] at hg
      have := h.lt g hg
      have := k.size
      omega
  have ho : ∀ g i, i ≠ 0 → τ g = i → tag τ w W 2 g = i := fun g i hi hg => by rw [tag_old (h.lt g (by rw [hg]; exact hi))]; exact hg
  exact {
    cell := k.get (by rw [h.sb]; decide) h.cell
    vau := hvt.grow (fun g hg => by
      rcases hg with hg | hg
      · exact ho g 2 (by decide) hg
      · exact tag_new hg) (fun g hg => hl g (by rw [hg]; decide))
    con := hcon
    fnd := (h.fnd.keep k (fun g hg => by rw [hg]; decide)).grow (fun g hg => ho g 1 (by decide) hg) (fun g hg => hl g (by rw [hg]; decide))
    now := h.now.keep k (by rw [h.g1]; decide) (by rw [h.g2]; decide)
    kept := h.kept.keep k (by rw [h.g3]; decide) (by rw [h.g4]; decide)
    g1 := ho _ _ (by decide) h.g1
    g2 := ho _ _ (by decide) h.g2
    g3 := ho _ _ (by decide) h.g3
    g4 := ho _ _ (by decide) h.g4
    held := h.held.keep k (fun g hg => by rw [h.hb g hg]; decide)
    pls := h.pls
    hb := fun g hg => ho _ _ (by decide) (h.hb g hg)
    data := fun x hx => In_keep (h.data x hx) k (fun g hg => by rw [h.db x hx g hg]; decide)
    db := fun x hx g hg => ho _ _ (by decide) (h.db x hx g hg)
    sb := ho _ _ (by decide) h.sb
    lt := hl }
theorem StIn.took {tk' : Nat} (h : StIn w τ sb n S H R tk id sz at_ vb fb s1 w1 s2 w2 hv hc c) (k : Keep (fun g => g = s1 ∨ g = w1) w W) (hs : SpAt W s1 w1 n tk') :
    StIn W τ sb n S H R tk' id sz at_ vb fb s1 w1 s2 w2 hv hc c := by
  have hd : ∀ g i, i ≠ 3 → τ g = i → ¬ (g = s1 ∨ g = w1) := fun g i hi hg hx => by
    rcases hx with hx | hx
    · rw [hx, h.g1] at hg; exact hi hg.symm
    · rw [hx, h.g2] at hg; exact hi hg.symm
  exact {
    cell := k.get (hd _ 7 (by decide) h.sb) h.cell
    vau := h.vau.keep k (fun g hg => hd _ 2 (by decide) hg)
    con := h.con
    fnd := h.fnd.keep k (fun g hg => hd _ 1 (by decide) hg)
    now := hs
    kept := h.kept.keep k (hd _ 4 (by decide) h.g3) (hd _ 4 (by decide) h.g4)
    g1 := h.g1
    g2 := h.g2
    g3 := h.g3
    g4 := h.g4
    held := h.held.keep k (fun g hg => hd _ 5 (by decide) (h.hb g hg))
    pls := h.pls
    hb := h.hb
    data := fun x hx => In_keep (h.data x hx) k (fun g hg => hd _ 6 (by decide) (h.db x hx g hg))
    db := h.db
    sb := h.sb
    lt := fun g hg => by have := h.lt g hg; have := k.size; omega }
theorem stp_took (h : StIn w τ sb n S H R tk id sz at_ vb fb s1 w1 s2 w2 hv hc c) (k : Keep (fun g => g = s1 ∨ g = w1) w W) : Stp w τ W τ := ⟨k.mono (fun g _ hg => by
    rcases hg with hg | hg
    · rw [hg, h.g1]; decide
    · rw [hg, h.g2]; decide), fun _ _ => rfl⟩
end
section
variable {w : World} {K : Value → World → Prop} {τ : Nat → Nat} {sb n tk id vb fb s1 w1 s2 w2 : Nat} {S : List (List Pp)} {H : List Pp} {R : List Ex} {sz at_ : Int} {hv : Value} {hc : List Pc} {c : Nat → List UInt8}
theorem StGet_spec {m : Sm} {p : Pp} (h : StIn w τ sb n m.S m.H m.R tk id sz at_ vb fb s1 w1 s2 w2 hv hc c) (ok : m.Ok) (hp : p ∈ m.ps) (hn : m.S.length ≤ n) (hS : m.S.length ≤ 100000) (hat : m.H ≠ [] → at_ = (m.S.length : Int)) (hbl : p.bs.length ≤ 100000)
    (hK : ∀ u W τ', Stp w τ W τ' → StIn W τ' sb n m.S m.H m.R tk id sz at_ vb fb s1 w1 s2 w2 hv hc c → Bts W u p.bs → K (.tuple #[u, i64v 0]) W) : CALL Tryz.prog 31 #[ptr sb, p.k.v] w K := by
  apply call_store_Store_Get
  unfold B_store_Store_Get
  refine X_box ?_
  have hx1 := newB_ext w p.k.v.cells 33
  have hg1 : (newB w p.k.v.cells 33).heap[w.heap.size]? = some (.cells p.k.cs.toArray 33 (0, 0)) := newB_get w p.k.v.cells 33
  generalize newB w p.k.v.cells 33 = wa at hx1 hg1 ⊢
  (repeat (simp only [SLB, Int.reduceEq, Int.reduceNe, Int.reduceLT, Int.reduceLE, Int.reduceGT, Int.reduceGE]))
  refine X_of (key_load hg1) ?_
  have hnum : p.k.cs.toArray[32]? = some (.int .u32 (p.k.num : Int)) := by
    rw [List.getElem?_toArray]
    have := p.k.cs_num
    simpa using this
  (repeat (simp only [SLB, Int.reduceEq, Int.reduceNe, Int.reduceLT, Int.reduceLE, Int.reduceGT, Int.reduceGE, X_field_33_1]))
  refine X_of (run_loadAt (v := .int .u32 (p.k.num : Int)) agg_31 ((cell_blk hg1).trans hnum)) ?_
  have hlt := p.k.lt
  rw [X_conv_31_37, wrap_u64, Int.emod_eq_of_lt (by omega) (by omega)]
  refine read_spec (h.ext hx1) ok hp (by omega) hn hS hat ?_
  intro u W τ' st hW hu
  (repeat (simp only [SLB, Int.reduceEq, Int.reduceNe, Int.reduceLT, Int.reduceLE, Int.reduceGT, Int.reduceGE]))
  refine Clone_spec hu (by omega) ?_
  intro v' W2 hx2 ho2
  exact hK v' W2 τ' ((Stp.ext hx1).trans (st.trans (Stp.ext hx2))) (hW.ext hx2) (own_bts ho2).1
set_option maxHeartbeats 1000000 in
theorem StSeal_spec (h : StIn w τ sb n S H R tk S.length sz (S.length : Int) vb fb s1 w1 s2 w2 hv hc c) (hH : H ≠ []) (hchk : chk H = 0) (hfit : sizeP H ≤ 508) (hn : S.length < n) (hS : S.length ≤ 1000)
    (hK : ∀ W τ' c', Stp w τ W τ' → StIn W τ' sb n (S ++ [H]) [] R tk (S.length + 1) 0 (S.length : Int) vb fb s1 w1 s2 w2 (.slice none 0 0) [] c' → K (i64v 0) W) : CALL Tryz.prog 8 #[ptr sb] w K := by
  have e0 : decide ((0 : Int) ≠ 0) = false := rfl
  obtain ⟨ha, hcc, e⟩ := held_sl h
  have hHl := List.length_pos_iff.2 hH
  have eH : decide ((H.length : Int) = 0) = false := decide_eq_false (by omega)
  apply call_store_Store_Seal
  unfold B_store_Store_Seal
  (repeat (simp only [SLB, Int.reduceEq, Int.reduceNe, Int.reduceLT, Int.reduceLE, Int.reduceGT, Int.reduceGE, X_field_71_4]))
  refine X_of (run_loadAt (v := hv) agg_41 ((cell_blk h.cell).trans rfl)) ?_
  rw [e, X_len_41]
  (repeat (simp only [SLB, Int.reduceEq, Int.reduceNe, Int.reduceLT, Int.reduceLE, Int.reduceGT, Int.reduceGE, eH]))
  have kd := Keep.drew (fun _ => False) w
  have hd := h.ext kd
  refine ⟨Ext, Ext.frame, ?_⟩
  generalize drewW w = wd at kd hd ⊢
  (repeat (simp only [SLB, Int.reduceEq, Int.reduceNe, Int.reduceLT, Int.reduceLE, Int.reduceGT, Int.reduceGE, XP_field_71_7]))
  refine XR_ok Ext.frame (fun w' kk => run_loadAt (v := .int .u32 ((S.length : Nat) : Int)) agg_31 ((cell_blk (Ext.get kk hd.cell)).trans rfl)) ?_
  rw [XP_add, wrap_u32, Int.emod_eq_of_lt (by omega) (by omega)]
  (repeat (simp only [SLB, Int.reduceEq, Int.reduceNe, Int.reduceLT, Int.reduceLE, Int.reduceGT, Int.reduceGE, XP_field_71_4]))
  refine XR_ok Ext.frame (fun w' kk => run_loadAt (v := hv) agg_41 ((cell_blk (Ext.get kk hd.cell)).trans rfl)) ?_
  have hrow := OwnK.rowK (by decide) Pc.len hd.held
  have hlen : hc.length = H.length := by rw [← h.pls, List.length_map]
  have hsz : sizeP H = 10 + 38 * H.length + totB H := rfl
  refine LayC_spec (id := S.length + 1) (by omega) hrow hd.data (by rw [hd.pls, hlen]; omega) (fun hne => absurd (by rw [hd.pls]; exact hchk) hne) ?_
  intro _ u W hxW hou
  rw [hd.pls] at hou
  refine ⟨hxW, ?_⟩
  (repeat (simp only [SLB, Int.reduceEq, Int.reduceNe, Int.reduceLT, Int.reduceLE, Int.reduceGT, Int.reduceGE, e0]))
  have hW := hd.ext hxW
  have hub := (own_bts hou).1
  have kd2 := Keep.drew (fun _ => False) W
  have hW2 := hW.ext kd2
  have hub2 := hub.ext kd2
  refine ⟨Ext, Ext.frame, ?_⟩
  have hx0 := (kd.trans hxW).trans kd2
  generalize drewW W = wd2 at hW2 hub2 hx0 ⊢
  (repeat (simp only [SLB, Int.reduceEq, Int.reduceNe, Int.reduceLT, Int.reduceLE, Int.reduceGT, Int.reduceGE, XP_field_71_0]))
  refine XR_ok Ext.frame (fun w' kk => run_loadAt (v := ptr vb) agg_57 ((cell_blk (Ext.get kk hW2.cell)).trans rfl)) ?_
  (repeat (simp only [SLB, Int.reduceEq, Int.reduceNe, Int.reduceLT, Int.reduceLE, Int.reduceGT, Int.reduceGE, XP_field_71_6]))
  refine XR_ok Ext.frame (fun w' kk => run_loadAt (v := .int .i64 ((S.length : Nat) : Int)) agg_3 ((cell_blk (Ext.get kk hW2.cell)).trans rfl)) ?_
  refine VauPut_spec hW2.vau hn hS hub2 (by rw [layP_len]; exact hfit) ?_
  intro W3 k3 hv3
  have h3 := hW2.vput (S' := S ++ [H]) (c' := fun j => if j = S.length then layP (S.length + 1) H else c j) k3 (by rw [List.length_append]; exact hv3) (fun i hi => by
    rw [List.length_append, List.length_singleton] at hi
    by_cases hie : i = S.length
    · subst hie
      rw [if_pos rfl]
      simp
    · rw [if_neg hie, h.con i (by omega)]
      rw [List.getElem_append_left (by omega)])
  have st3 := (Stp.ext (τ := τ) hx0).trans (stp_tag (i := 2) (by decide) k3)
  generalize tag τ wd2 W3 2 = τ3 at h3 st3
  (repeat (simp only [SLB, Int.reduceEq, Int.reduceNe, Int.reduceLT, Int.reduceLE, Int.reduceGT, Int.reduceGE, e0, X_field_71_7]))
  refine X_of (run_loadAt (v := .int .u32 ((S.length : Nat) : Int)) agg_31 ((cell_blk h3.cell).trans rfl)) ?_
  rw [X_add, wrap_u32, Int.emod_eq_of_lt (by omega) (by omega)]
  (repeat (simp only [SLB, Int.reduceEq, Int.reduceNe, Int.reduceLT, Int.reduceLE, Int.reduceGT, Int.reduceGE, X_field_71_7]))
  refine XU_store info_31 sz_31 rfl h3.cell (by show 0 + 7 < 8; decide) (by show ¬ (0 ≤ 0 + 7 ∧ 0 + 7 < 0); omega) ?_
  have k4 := setAt_keep W3 sb (#[ptr vb, ptr fb, ptr s1, ptr s2, hv, .int .i64 sz, .int .i64 (S.length : Int), .int .u32 ((S.length : Nat) : Int)].setIfInBounds (0 + 7) (.int .u32 (((S.length : Nat) : Int) + 1))) 71 (0, 0)
  have c4 : (setAt W3 sb (#[ptr vb, ptr fb, ptr s1, ptr s2, hv, .int .i64 sz, .int .i64 (S.length : Int), .int .u32 ((S.length : Nat) : Int)].setIfInBounds (0 + 7) (.int .u32 (((S.length : Nat) : Int) + 1))) 71 (0, 0)).heap[sb]? = some (.cells #[ptr vb, ptr fb, ptr s1, ptr s2, hv, .int .i64 sz, .int .i64 (S.length : Int), .int .u32 (((S.length : Nat) : Int) + 1)] 71 (0, 0)) := setAt_same (lt_of_blk h3.cell)
  generalize setAt W3 sb (#[ptr vb, ptr fb, ptr s1, ptr s2, hv, .int .i64 sz, .int .i64 (S.length : Int), .int .u32 ((S.length : Nat) : Int)].setIfInBounds (0 + 7) (.int .u32 (((S.length : Nat) : Int) + 1))) 71 (0, 0) = W4 at k4 c4 ⊢
  (repeat (simp only [SLB, Int.reduceEq, Int.reduceNe, Int.reduceLT, Int.reduceLE, Int.reduceGT, Int.reduceGE, X_field_71_4]))
  refine XU_store info_41 sz_41 rfl c4 (by show 0 + 4 < 8; decide) (by show ¬ (0 ≤ 0 + 4 ∧ 0 + 4 < 0); omega) ?_
  have k5 := setAt_keep W4 sb (#[ptr vb, ptr fb, ptr s1, ptr s2, hv, .int .i64 sz, .int .i64 (S.length : Int), .int .u32 (((S.length : Nat) : Int) + 1)].setIfInBounds (0 + 4) (.slice none 0 0)) 71 (0, 0)
  have c5 : (setAt W4 sb (#[ptr vb, ptr fb, ptr s1, ptr s2, hv, .int .i64 sz, .int .i64 (S.length : Int), .int .u32 (((S.length : Nat) : Int) + 1)].setIfInBounds (0 + 4) (.slice none 0 0)) 71 (0, 0)).heap[sb]? = some (.cells #[ptr vb, ptr fb, ptr s1, ptr s2, .slice none 0 0, .int .i64 sz, .int .i64 (S.length : Int), .int .u32 (((S.length : Nat) : Int) + 1)] 71 (0, 0)) := setAt_same (lt_of_blk c4)
  generalize setAt W4 sb (#[ptr vb, ptr fb, ptr s1, ptr s2, hv, .int .i64 sz, .int .i64 (S.length : Int), .int .u32 (((S.length : Nat) : Int) + 1)].setIfInBounds (0 + 4) (.slice none 0 0)) 71 (0, 0) = W5 at k5 c5 ⊢
  (repeat (simp only [SLB, Int.reduceEq, Int.reduceNe, Int.reduceLT, Int.reduceLE, Int.reduceGT, Int.reduceGE, X_field_71_5]))
  refine XU_store info_3 sz_3 rfl c5 (by show 0 + 5 < 8; decide) (by show ¬ (0 ≤ 0 + 5 ∧ 0 + 5 < 0); omega) ?_
  have k6 := setAt_keep W5 sb (#[ptr vb, ptr fb, ptr s1, ptr s2, .slice none 0 0, .int .i64 sz, .int .i64 (S.length : Int), .int .u32 (((S.length : Nat) : Int) + 1)].setIfInBounds (0 + 5) (.int .i64 0)) 71 (0, 0)
  have c6 : (setAt W5 sb (#[ptr vb, ptr fb, ptr s1, ptr s2, .slice none 0 0, .int .i64 sz, .int .i64 (S.length : Int), .int .u32 (((S.length : Nat) : Int) + 1)].setIfInBounds (0 + 5) (.int .i64 0)) 71 (0, 0)).heap[sb]? = some (.cells #[ptr vb, ptr fb, ptr s1, ptr s2, .slice none 0 0, .int .i64 0, .int .i64 (S.length : Int), .int .u32 ((S.length + 1 : Nat) : Int)] 71 (0, 0)) := setAt_same (lt_of_blk c5)
  generalize setAt W5 sb (#[ptr vb, ptr fb, ptr s1, ptr s2, .slice none 0 0, .int .i64 sz, .int .i64 (S.length : Int), .int .u32 (((S.length : Nat) : Int) + 1)].setIfInBounds (0 + 5) (.int .i64 0)) 71 (0, 0) = W6 at k6 c6 ⊢
  have k36 := (k4.trans k5).trans k6
  exact hK W6 τ3 _ (st3.trans (stp_own h3 k36)) (h3.none k36 c6)
set_option maxHeartbeats 1000000 in
theorem StTake_spec (h : StIn w τ sb n S H R tk id sz at_ vb fb s1 w1 s2 w2 hv hc c) (hn : tk < n)
    (hK : ∀ W, Stp w τ W τ → StIn W τ sb n S H R (tk + 1) id sz (tk : Int) vb fb s1 w1 s2 w2 hv hc c → K (i64v 0) W) : CALL Tryz.prog 44 #[ptr sb] w K := by
  have hsm := h.now.small
  apply call_store_Store_take
  unfold B_store_Store_take
  (repeat (simp only [SLB, Int.reduceEq, Int.reduceNe, Int.reduceLT, Int.reduceLE, Int.reduceGT, Int.reduceGE, X_field_71_2]))
  refine X_of (run_loadAt (v := ptr s1) agg_69 ((cell_blk h.cell).trans rfl)) ?_
  refine SpLen_spec h.now ?_
  refine loopGR 0 (fun ρ W => ∃ i : Nat, i ≤ tk ∧ W = w ∧ ρ 9 = .int .i64 (i : Int) ∧ ρ 8 = .int .i64 (n : Int) ∧ ρ 0 = ptr sb)
    (fun ρ W => match ρ 9 with | .int _ s => (tk - s).toNat | _ => 0)
    (fun ρ W => False) (fun ρ W => ρ 2 = i64v 0 ∧ Stp w τ W τ ∧ StIn W τ sb n S H R (tk + 1) id sz (tk : Int) vb fb s1 w1 s2 w2 hv hc c) ?_ ?_ ?_ ?_
  · exact ⟨0, by omega, rfl, rfl, rfl, rfl⟩
  · rintro J hJ hJR ρ W ⟨i, hi, rfl, r9, r8, r0⟩
    rw [r9, r8, r0, X_lss, condS_bool, if_pos (by simp; omega)]
    (repeat (simp only [SLB, Int.reduceEq, Int.reduceNe, Int.reduceLT, Int.reduceLE, Int.reduceGT, Int.reduceGE, X_field_71_2]))
    refine X_of (run_loadAt (v := ptr s1) agg_69 ((cell_blk h.cell).trans rfl)) ?_
    refine Has_spec' h.now (by omega) ?_
    by_cases hit : i < tk
    · rw [decide_eq_true hit]
      (repeat (simp only [SLB, Int.reduceEq, Int.reduceNe, Int.reduceLT, Int.reduceLE, Int.reduceGT, Int.reduceGE]))
      rw [X_add]
      show _ ∧ _
      refine ⟨⟨i + 1, by omega, rfl, next64 (n := 16384) (by decide) (by omega), r8, r0⟩, ?_⟩
      show (_ - IntKind.i64.wrap _).toNat < _
      rw [w64 (by omega) (by omega)]
      first | omega | (show _ < (_ : Int).toNat; omega)
    · have hie : i = tk := by omega
      subst hie
      rw [decide_eq_false hit]
      (repeat (simp only [SLB, Int.reduceEq, Int.reduceNe, Int.reduceLT, Int.reduceLE, Int.reduceGT, Int.reduceGE, X_field_71_3]))
      refine X_of (run_loadAt (v := ptr s2) agg_69 ((cell_blk h.cell).trans rfl)) ?_
      refine Has_spec' h.kept (by omega) ?_
      rw [decide_eq_false (Nat.not_lt_zero i)]
      (repeat (simp only [SLB, Int.reduceEq, Int.reduceNe, Int.reduceLT, Int.reduceLE, Int.reduceGT, Int.reduceGE, X_field_71_6]))
      refine XU_store info_3 sz_3 rfl h.cell (by show 0 + 6 < 8; decide) (by show ¬ (0 ≤ 0 + 6 ∧ 0 + 6 < 0); omega) ?_
      have k4 := setAt_keep W sb (#[ptr vb, ptr fb, ptr s1, ptr s2, hv, .int .i64 sz, .int .i64 at_, .int .u32 (id : Int)].setIfInBounds (0 + 6) (.int .i64 (i : Int))) 71 (0, 0)
      have c4 : (setAt W sb (#[ptr vb, ptr fb, ptr s1, ptr s2, hv, .int .i64 sz, .int .i64 at_, .int .u32 (id : Int)].setIfInBounds (0 + 6) (.int .i64 (i : Int))) 71 (0, 0)).heap[sb]? = some (.cells #[ptr vb, ptr fb, ptr s1, ptr s2, hv, .int .i64 sz, .int .i64 (i : Int), .int .u32 (id : Int)] 71 (0, 0)) := setAt_same (lt_of_blk h.cell)
      generalize setAt W sb (#[ptr vb, ptr fb, ptr s1, ptr s2, hv, .int .i64 sz, .int .i64 at_, .int .u32 (id : Int)].setIfInBounds (0 + 6) (.int .i64 (i : Int))) 71 (0, 0) = W4 at k4 c4 ⊢
      have h4 := h.own k4 c4
      (repeat (simp only [SLB, Int.reduceEq, Int.reduceNe, Int.reduceLT, Int.reduceLE, Int.reduceGT, Int.reduceGE, X_field_71_2]))
      refine X_of (run_loadAt (v := ptr s1) agg_69 ((cell_blk h4.cell).trans rfl)) ?_
      refine Hold_spec h4.now hn ?_
      intro W5 k5 hs5
      exact hJR _ _ ⟨rfl, (stp_own h k4).trans (stp_took h4 k5), h4.took k5 hs5⟩
  · rintro ρ W hF
    exact hF.elim
  · rintro ρ W ⟨r2, st, hW⟩
    show K (ρ 2) _
    rw [r2]
    exact hK _ st hW
end
end Go.Proofs.YtcigpjejbkngfaaGreatDoor
end
