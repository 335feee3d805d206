/- Part 10 of what the law is proved with. -/
import Derived.Laws.Externs
import Derived.Lib.BytesEntry
import Derived.Test.YtcigpjejbkngfaaGreatDoorQTR9
set_option linter.unusedVariables false
set_option linter.unusedSimpArgs false
section
set_option maxRecDepth 8000
namespace Go.Proofs.YtcigpjejbkngfaaGreatDoor
open Go Go.Sh Go.RowKit
attribute [local irreducible] X XU XP XR CALL loopS resC closS
theorem run_idx_str {s : ByteArray} {i : Nat} {k : IntKind} (h : i < s.size) (w : World) : ∃ u : UInt8, (Instr.index 9 (.string s) (.int k (i : Int))).run Tryz.prog w = .ok (.int .u8 ((u.toNat : Nat) : Int)) w := by
  have hg : s[i]? = some s[i] := by simp [h]
  refine ⟨s[i], ?_⟩
  simp [Instr.index, asIntOf, run_underlying Tryz.underlying9, h]
theorem CALL_ext {P : Program} {f : FuncId} {args : Array Value} {w w' : World} {v : Value} {K : Value → World → Prop} (h : (callFunc f args).run P w = .ok (.value v) w') (hK : K v w') : CALL P f args w K := by
  unfold CALL
  exact .inr ⟨v, w', h, hK⟩
theorem run_bytesOf {w : World} {v : Value} {l : List UInt8} (hb : Bts w v l) : ∃ x, (Extern.Bytes.bytesOf v).run Tryz.prog w = .ok x w := by
  obtain ⟨a, c, rfl, h1, h2, h3⟩ := hb
  cases a with
  | none => exact ⟨_, rfl⟩
  | some ad =>
    by_cases h0 : 0 < l.length
    · obtain ⟨ad', e, hc⟩ := h3 h0
      injection e with e
      subst e
      have := Go.Lib.run_loadBytesX (P := Tryz.prog) w (l.map fun u => ((u.toNat : Nat) : Int)) ad .empty (fun j x hj => by
        rw [List.getElem?_map] at hj
        obtain ⟨u, hu, rfl⟩ := Option.map_eq_some_iff.1 hj
        exact hc j u hu)
      rw [List.length_map] at this
      exact ⟨_, this⟩
    · have : l.length = 0 := by omega
      rw [this]
      exact ⟨_, rfl⟩
section
variable {w : World} {K : Value → World → Prop}
theorem NaN3_spec {n : Int} (hK : K (.bool false) w) : CALL Tryz.prog 129 #[.int .i64 n] w K := by
  apply call_cmp_isNaN_int_
  unfold B_cmp_isNaN_int_
  refine X_of (run_neq 3 .i64 _ _ _ _ w) ?_
  have c : decide (n ≠ n) = false := by simp
  rw [c]
  exact hK
theorem NaN31_spec {n : Int} (hK : K (.bool false) w) : CALL Tryz.prog 132 #[.int .u32 n] w K := by
  apply call_cmp_isNaN_uint32_
  unfold B_cmp_isNaN_uint32_
  refine X_of (run_neq 31 .u32 _ _ _ _ w) ?_
  have c : decide (n ≠ n) = false := by simp
  rw [c]
  exact hK
theorem Cmp3_spec {a b : Int} (hK : ∀ c, K (.int .i64 c) w) : CALL Tryz.prog 113 #[.int .i64 a, .int .i64 b] w K := by
  apply call_cmp_Compare_int_
  unfold B_cmp_Compare_int_
  refine NaN3_spec (NaN3_spec ?_)
  by_cases h1 : a < b
  · have c1 : decide (a < b) = true := decide_eq_true h1
    (repeat (simp only [SLB, Int.reduceEq, Int.reduceNe, Int.reduceLT, Int.reduceLE, Int.reduceGT, Int.reduceGE, c1]))
    exact hK _
  · have c1 : decide (a < b) = false := decide_eq_false h1
    by_cases h2 : a > b
    · have c2 : decide (a > b) = true := decide_eq_true h2
      (repeat (simp only [SLB, Int.reduceEq, Int.reduceNe, Int.reduceLT, Int.reduceLE, Int.reduceGT, Int.reduceGE, c1, c2]))
      exact hK _
    · have c2 : decide (a > b) = false := decide_eq_false h2
      (repeat (simp only [SLB, Int.reduceEq, Int.reduceNe, Int.reduceLT, Int.reduceLE, Int.reduceGT, Int.reduceGE, c1, c2]))
      exact hK _
theorem Cmp31_spec {a b : Int} (hK : ∀ c, K (.int .i64 c) w) : CALL Tryz.prog 131 #[.int .u32 a, .int .u32 b] w K := by
  apply call_cmp_Compare_uint32_
  unfold B_cmp_Compare_uint32_
  refine NaN31_spec (NaN31_spec ?_)
  by_cases h1 : a < b
  · have c1 : decide (a < b) = true := decide_eq_true h1
    (repeat (simp only [SLB, Int.reduceEq, Int.reduceNe, Int.reduceLT, Int.reduceLE, Int.reduceGT, Int.reduceGE, c1]))
    exact hK _
  · have c1 : decide (a < b) = false := decide_eq_false h1
    by_cases h2 : a > b
    · have c2 : decide (a > b) = true := decide_eq_true h2
      (repeat (simp only [SLB, Int.reduceEq, Int.reduceNe, Int.reduceLT, Int.reduceLE, Int.reduceGT, Int.reduceGE, c1, c2]))
      exact hK _
    · have c2 : decide (a > b) = false := decide_eq_false h2
      (repeat (simp only [SLB, Int.reduceEq, Int.reduceNe, Int.reduceLT, Int.reduceLE, Int.reduceGT, Int.reduceGE, c1, c2]))
      exact hK _
theorem Less_spec {a b : Int} (hK : K (.bool (decide (a < b))) w) : CALL Tryz.prog 119 #[.int .u32 a, .int .u32 b] w K := by
  apply call_cmp_Less_uint32_
  unfold B_cmp_Less_uint32_
  refine NaN31_spec ?_
  (repeat (simp only [SLB, Int.reduceEq, Int.reduceNe, Int.reduceLT, Int.reduceLE, Int.reduceGT, Int.reduceGE]))
  exact hK
theorem Bcmp_spec {va vb : Value} {a b : List UInt8} (ha : Bts w va a) (hb : Bts w vb b) (hK : ∀ c, K (.int .i64 c) w) : CALL Tryz.prog 130 #[va, vb] w K := by
  apply call_bytes_Compare
  unfold B_bytes_Compare
  obtain ⟨xa, hxa⟩ := run_bytesOf ha
  obtain ⟨xb, hxb⟩ := run_bytesOf hb
  refine CALL_ext (v := .int .i64 (Extern.BytealgCompare.cmp xa xb)) (w' := w) ?_ (hK _)
  rw [run_callFunc_extern Tryz.func144 (by kernel_rfl) (by kernel_rfl) (by kernel_rfl) (e := Extern.BytealgCompare.compare) (by kernel_rfl)]
  have : (Extern.BytealgCompare.compare #[va, vb]).run Tryz.prog w = .ok (.int .i64 (Extern.BytealgCompare.cmp xa xb)) w := by
    show Sem.run _ (do pure (goInt (Extern.BytealgCompare.cmp (← Extern.Bytes.bytesOf va) (← Extern.Bytes.bytesOf vb)))) w = _
    simp only [Sem.run_bind, hxa, hxb, Sem.run_pure, Result.andThen]
    rfl
  rw [this]
  rfl
theorem Len_spec {n : Nat} (hn : n < 256) (hK : ∀ c, K (.int .i64 c) w) : CALL Tryz.prog 128 #[.int .u64 (n : Int)] w K := by
  apply call_math_bits_Len
  unfold B_math_bits_Len
  rw [condS_bool, if_neg (by decide)]
  apply call_math_bits_Len64
  unfold B_math_bits_Len64
  have c1 : decide ((n : Int) ≥ 4294967296) = false := decide_eq_false (by omega)
  have c2 : decide ((n : Int) ≥ 65536) = false := decide_eq_false (by omega)
  have c3 : decide ((n : Int) ≥ 256) = false := decide_eq_false (by omega)
  refine joinS_of (fun ρ1 w1 => w1 = w ∧ ρ1 0 = .int .u64 (n : Int) ∧ ∃ m, ρ1 2 = .int .i64 m) ?_ ?_
  case refine_2 =>
    intro J1 hJ1
    (repeat (simp only [SLB, Int.reduceEq, Int.reduceNe, Int.reduceLT, Int.reduceLE, Int.reduceGT, Int.reduceGE, c1]))
    exact hJ1 _ _ ⟨rfl, rfl, _, rfl⟩
  rintro ρ1 w1 ⟨rfl, r0, m, r2⟩
  refine joinS_of (fun ρ1 w2 => w2 = w1 ∧ ρ1 0 = .int .u64 (n : Int) ∧ ∃ m, ρ1 2 = .int .i64 m) ?_ ?_
  case refine_2 =>
    intro J1 hJ1
    rw [r0]
    (repeat (simp only [SLB, Int.reduceEq, Int.reduceNe, Int.reduceLT, Int.reduceLE, Int.reduceGT, Int.reduceGE, c2]))
    exact hJ1 _ _ ⟨rfl, r0, _, r2⟩
  rintro ρ1 w2 ⟨rfl, r0, m, r2⟩
  refine joinS_of (fun ρ1 w3 => w3 = w2 ∧ ρ1 0 = .int .u64 (n : Int) ∧ ∃ m, ρ1 2 = .int .i64 m) ?_ ?_
  case refine_2 =>
    intro J1 hJ1
    rw [r0]
    (repeat (simp only [SLB, Int.reduceEq, Int.reduceNe, Int.reduceLT, Int.reduceLE, Int.reduceGT, Int.reduceGE, c3]))
    exact hJ1 _ _ ⟨rfl, r0, _, r2⟩
  rintro ρ1 w3 ⟨rfl, r0, m, r2⟩
  rw [r0, r2, X_conv_37_5, wrap_u8, Int.emod_eq_of_lt (by omega) (by omega)]
  obtain ⟨u, hu⟩ := run_idx_str (s := { data := #[0, 1, 2, 2, 3, 3, 3, 3, 4, 4, 4, 4, 4, 4, 4, 4, 5, 5, 5, 5, 5, 5, 5, 5, 5, 5, 5, 5, 5, 5, 5, 5, 6, 6, 6, 6, 6, 6, 6, 6, 6, 6, 6, 6, 6, 6, 6, 6, 6, 6, 6, 6, 6, 6, 6, 6, 6, 6, 6, 6, 6, 6, 6, 6, 7, 7, 7, 7, 7, 7, 7, 7, 7, 7, 7, 7, 7, 7, 7, 7, 7, 7, 7, 7, 7, 7, 7, 7, 7, 7, 7, 7, 7, 7, 7, 7, 7, 7, 7, 7, 7, 7, 7, 7, 7, 7, 7, 7, 7, 7, 7, 7, 7, 7, 7, 7, 7, 7, 7, 7, 7, 7, 7, 7, 7, 7, 7, 7, 8, 8, 8, 8, 8, 8, 8, 8, 8, 8, 8, 8, 8, 8, 8, 8, 8, 8, 8, 8, 8, 8, 8, 8, 8, 8, 8, 8, 8, 8, 8, 8, 8, 8, 8, 8, 8, 8, 8, 8, 8, 8, 8, 8, 8, 8, 8, 8, 8, 8, 8, 8, 8, 8, 8, 8, 8, 8, 8, 8, 8, 8, 8, 8, 8, 8, 8, 8, 8, 8, 8, 8, 8, 8, 8, 8, 8, 8, 8, 8, 8, 8, 8, 8, 8, 8, 8, 8, 8, 8, 8, 8, 8, 8, 8, 8, 8, 8, 8, 8, 8, 8, 8, 8, 8, 8, 8, 8, 8, 8, 8, 8, 8, 8, 8, 8, 8, 8, 8, 8, 8, 8, 8, 8, 8, 8, 8, 8] }) (i := n) (k := .u8) hn w3
  refine X_of hu ?_
  rw [X_conv_5_3, X_add]
  exact hK _
end
end Go.Proofs.YtcigpjejbkngfaaGreatDoor
end
section
namespace Go.Proofs.YtcigpjejbkngfaaGreatDoor
open Go Go.Sh
attribute [local irreducible] X XU XP XR CALL loopS resC closS
def B_slices_SortFunc_api_Row (x0 x1 : Value) (w : World) (K : Value → World → Prop) : Prop :=
  X Tryz.prog (Builtin.len_ #[150] 3 #[x0]) w fun v1 w1 =>
  X Tryz.prog (convert 3 118 v1) w1 fun v2 w2 =>
  CALL Tryz.prog 128 #[v2] w2 fun v3 w3 =>
  CALL Tryz.prog 127 #[x0, (.int .i64 0), v1, v3, x1] w3 fun v4 w4 =>
  K (.tuple #[]) w4
theorem eq_slices_SortFunc_api_Row (x0 x1 : Value) (w : World) (K : Value → World → Prop) :
    sh Tryz.prog (Tryz.f110.body.getD .skip) (retS Tryz.prog Tryz.f110.results K) (env0 #[x0, x1]) w = B_slices_SortFunc_api_Row x0 x1 w K := by kernel_rfl
theorem call_slices_SortFunc_api_Row (x0 x1 : Value) (w : World) (K : Value → World → Prop) (h : B_slices_SortFunc_api_Row x0 x1 w K) : CALL Tryz.prog 110 #[x0, x1] w K :=
  call_of_eq (c := Tryz.f110.body.getD .skip) mixed Tryz.func110 (by kernel_rfl) (by kernel_rfl) (by kernel_rfl) (Nat.le_of_ble_eq_true (by kernel_rfl)) (eq_slices_SortFunc_api_Row x0 x1 w K) h
def B_slices_insertionSortCmpFunc_api_Row_ (x0 x1 x2 x3 : Value) (w : World) (K : Value → World → Prop) : Prop :=
  X Tryz.prog (binOp .add 3 x1 (.int .i64 1)) w fun v1 w1 =>
  loopS (fun Q1 ρ1 w2 =>
  X Tryz.prog (binOp .lss 3 (ρ1 8) (ρ1 2)) w2 fun v2 w3 =>
  condS v2 (
  loopS (fun Q2 ρ2 w4 =>
  ∃ R, Frame? R ∧
  XP Tryz.prog (binOp .gtr 3 (ρ2 9) (ρ2 1)) (drewW w4) fun v3 w5 =>
  gstep v3 true (fun w6 K => K (ρ2 3) w6) w5 fun v4 w7 =>
  gstep v3 true (fun w8 K => K (ρ2 0) w8) w7 fun v5 w9 =>
  gstep v3 true (fun w10 K => K (ρ2 9) w10) w9 fun v6 w11 =>
  gstep v3 true (fun w12 K => XP Tryz.prog (Instr.indexAt 150 v5 v6) w12 K) w11 fun v7 w13 =>
  gstep v3 true (fun w14 K => XR Tryz.prog R (Instr.loadAt 184 v7) w14 K) w13 fun v8 w15 =>
  gstep v3 true (fun w16 K => K (ρ2 0) w16) w15 fun v9 w17 =>
  gstep v3 true (fun w18 K => K (ρ2 9) w18) w17 fun v10 w19 =>
  gstep v3 true (fun w20 K => XP Tryz.prog (binOp .sub 3 v10 (.int .i64 1)) w20 K) w19 fun v11 w21 =>
  gstep v3 true (fun w22 K => XP Tryz.prog (Instr.indexAt 150 v9 v11) w22 K) w21 fun v12 w23 =>
  gstep v3 true (fun w24 K => XR Tryz.prog R (Instr.loadAt 184 v12) w24 K) w23 fun v13 w25 =>
  gstep v3 true (fun w26 K => closS Tryz.prog v4 #[v8, v13] w26 K) w25 fun v14 w27 =>
  gstep v3 true (fun w28 K => XP Tryz.prog (binOp .lss 3 v14 (.int .i64 0)) w28 K) w27 fun v15 w29 =>
  XP Tryz.prog (pickS v3 v15 (.bool false)) w29 fun v16 w30 =>
  condS v16 (
  ∃ R, Frame? R ∧
  XP Tryz.prog (binOp .sub 3 (ρ2 9) (.int .i64 1)) (drewW w30) fun v17 w31 =>
  XP Tryz.prog (binOp .sub 3 (ρ2 9) (.int .i64 1)) w31 fun v18 w32 =>
  XP Tryz.prog (Instr.indexAt 150 (ρ2 0) v18) w32 fun v19 w33 =>
  XR Tryz.prog R (Instr.loadAt 184 v19) w33 fun v20 w34 =>
  XP Tryz.prog (Instr.indexAt 150 (ρ2 0) (ρ2 9)) w34 fun v21 w35 =>
  XR Tryz.prog R (Instr.loadAt 184 v21) w35 fun v22 w36 =>
  XP Tryz.prog (Instr.indexAt 150 (ρ2 0) (ρ2 9)) w36 fun v23 w37 =>
  XU Tryz.prog (Instr.storeAt 184 v23 v20) w37 fun w38 =>
  XP Tryz.prog (Instr.indexAt 150 (ρ2 0) v17) w38 fun v24 w39 =>
  XU Tryz.prog (Instr.storeAt 184 v24 v22) w39 fun w40 =>
  X Tryz.prog (binOp .sub 3 (ρ2 9) (.int .i64 1)) w40 fun v25 w41 =>
  Q2 .normal (upds ρ2 [(9, v25), (36, v25), (35, (ρ2 9)), (52, v24), (51, v23), (50, v22), (49, v21), (48, (ρ2 9)), (47, (ρ2 0)), (46, v20), (45, v19), (44, v18), (43, (ρ2 9)), (42, (ρ2 0)), (41, v17), (40, (ρ2 9)), (39, (ρ2 0)), (38, (ρ2 9)), (37, (ρ2 0)), (34, v16), (33, v15), (32, v14), (31, v13), (30, v12), (29, v11), (28, v10), (27, v9), (26, v8), (25, v7), (24, v6), (23, v5), (22, v4), (21, v3), (20, v3), (19, (ρ2 1)), (18, (ρ2 9))]) w41) (
  Q2 (.exit 2) (upds ρ2 [(34, v16), (33, v15), (32, v14), (31, v13), (30, v12), (29, v11), (28, v10), (27, v9), (26, v8), (25, v7), (24, v6), (23, v5), (22, v4), (21, v3), (20, v3), (19, (ρ2 1)), (18, (ρ2 9))]) w30)) (inBlockS 2 (inBlockS 1 (thenS (fun ρ3 w42 =>
  X Tryz.prog (binOp .add 3 (ρ3 8) (.int .i64 1)) w42 fun v26 w43 =>
  Q1 .normal (upds ρ3 [(8, v26), (16, v26), (15, (ρ3 8))]) w43) Q1))) (upds ρ1 [(9, (ρ1 8)), (17, (ρ1 8)), (14, v2), (13, (ρ1 2)), (12, (ρ1 8))]) w3) (
  Q1 (.exit 0) (upds ρ1 [(14, v2), (13, (ρ1 2)), (12, (ρ1 8))]) w3)) (inBlockS 0 (retS Tryz.prog (Tryz.f134).results K)) (upds (env0 #[x0, x1, x2, x3]) [(8, v1), (11, v1), (10, x1)]) w1
theorem eq_slices_insertionSortCmpFunc_api_Row_ (x0 x1 x2 x3 : Value) (w : World) (K : Value → World → Prop) :
    sh Tryz.prog (Tryz.f134.body.getD .skip) (retS Tryz.prog Tryz.f134.results K) (env0 #[x0, x1, x2, x3]) w = B_slices_insertionSortCmpFunc_api_Row_ x0 x1 x2 x3 w K := by kernel_rfl
theorem call_slices_insertionSortCmpFunc_api_Row_ (x0 x1 x2 x3 : Value) (w : World) (K : Value → World → Prop) (h : B_slices_insertionSortCmpFunc_api_Row_ x0 x1 x2 x3 w K) : CALL Tryz.prog 134 #[x0, x1, x2, x3] w K :=
  call_of_eq (c := Tryz.f134.body.getD .skip) mixed Tryz.func134 (by kernel_rfl) (by kernel_rfl) (by kernel_rfl) (Nat.le_of_ble_eq_true (by kernel_rfl)) (eq_slices_insertionSortCmpFunc_api_Row_ x0 x1 x2 x3 w K) h
def B_index_Index_Shelf_1 (x0 x1 : Value) (w : World) (K : Value → World → Prop) : Prop :=
  X Tryz.prog (Instr.box 184 x0) w fun v1 w1 =>
  X Tryz.prog (Instr.box 184 x1) w1 fun v2 w2 =>
  ∃ R, Frame? R ∧
  XP Tryz.prog (Instr.fieldAt 184 v1 1) (drewW w2) fun v3 w3 =>
  XP Tryz.prog (Instr.fieldAt 104 v3 1) w3 fun v4 w4 =>
  XR Tryz.prog R (Instr.loadAt 3 v4) w4 fun v5 w5 =>
  XP Tryz.prog (Instr.fieldAt 184 v2 1) w5 fun v6 w6 =>
  XP Tryz.prog (Instr.fieldAt 104 v6 1) w6 fun v7 w7 =>
  XR Tryz.prog R (Instr.loadAt 3 v7) w7 fun v8 w8 =>
  XP Tryz.prog (Instr.fieldAt 184 v1 0) w8 fun v9 w9 =>
  XR Tryz.prog R (Instr.loadAt 33 v9) w9 fun v10 w10 =>
  XP Tryz.prog (Instr.fieldAt 184 v2 0) w10 fun v11 w11 =>
  XR Tryz.prog R (Instr.loadAt 33 v11) w11 fun v12 w12 =>
  CALL Tryz.prog 113 #[v5, v8] w12 fun v13 w13 =>
  R w12 w13 ∧
  CALL Tryz.prog 114 #[v10, v12] w13 fun v14 w14 =>
  R w13 w14 ∧
  X Tryz.prog (Instr.buildSlice 43 2 #[(0, v13), (1, v14)]) w14 fun v15 w15 =>
  R w14 w15 ∧
  CALL Tryz.prog 112 #[v15] w15 fun v16 w16 =>
  R w15 w16 ∧
  K v16 w16
theorem eq_index_Index_Shelf_1 (x0 x1 : Value) (w : World) (K : Value → World → Prop) :
    sh Tryz.prog (Tryz.f111.body.getD .skip) (retS Tryz.prog Tryz.f111.results K) (env0 #[x0, x1]) w = B_index_Index_Shelf_1 x0 x1 w K := by kernel_rfl
theorem call_index_Index_Shelf_1 (x0 x1 : Value) (w : World) (K : Value → World → Prop) (h : B_index_Index_Shelf_1 x0 x1 w K) : CALL Tryz.prog 111 #[x0, x1] w K :=
  call_of_eq (c := Tryz.f111.body.getD .skip) mixed Tryz.func111 (by kernel_rfl) (by kernel_rfl) (by kernel_rfl) (Nat.le_of_ble_eq_true (by kernel_rfl)) (eq_index_Index_Shelf_1 x0 x1 w K) h
def B_index_order (x0 x1 : Value) (w : World) (K : Value → World → Prop) : Prop :=
  X Tryz.prog (Instr.box 33 x0) w fun v1 w1 =>
  X Tryz.prog (Instr.box 33 x1) w1 fun v2 w2 =>
  ∃ R, Frame? R ∧
  XP Tryz.prog (Instr.fieldAt 33 v1 0) (drewW w2) fun v3 w3 =>
  XP Tryz.prog (Instr.sliceAt 30 v3 none none none) w3 fun v4 w4 =>
  XP Tryz.prog (Instr.fieldAt 33 v2 0) w4 fun v5 w5 =>
  XP Tryz.prog (Instr.sliceAt 30 v5 none none none) w5 fun v6 w6 =>
  XP Tryz.prog (Instr.fieldAt 33 v1 1) w6 fun v7 w7 =>
  XR Tryz.prog R (Instr.loadAt 31 v7) w7 fun v8 w8 =>
  XP Tryz.prog (Instr.fieldAt 33 v2 1) w8 fun v9 w9 =>
  XR Tryz.prog R (Instr.loadAt 31 v9) w9 fun v10 w10 =>
  CALL Tryz.prog 130 #[v4, v6] w10 fun v11 w11 =>
  R w10 w11 ∧
  CALL Tryz.prog 131 #[v8, v10] w11 fun v12 w12 =>
  X Tryz.prog (Instr.buildSlice 43 2 #[(0, v11), (1, v12)]) w12 fun v13 w13 =>
  R w12 w13 ∧
  CALL Tryz.prog 112 #[v13] w13 fun v14 w14 =>
  R w13 w14 ∧
  K v14 w14
theorem eq_index_order (x0 x1 : Value) (w : World) (K : Value → World → Prop) :
    sh Tryz.prog (Tryz.f114.body.getD .skip) (retS Tryz.prog Tryz.f114.results K) (env0 #[x0, x1]) w = B_index_order x0 x1 w K := by kernel_rfl
theorem call_index_order (x0 x1 : Value) (w : World) (K : Value → World → Prop) (h : B_index_order x0 x1 w K) : CALL Tryz.prog 114 #[x0, x1] w K :=
  call_of_eq (c := Tryz.f114.body.getD .skip) mixed Tryz.func114 (by kernel_rfl) (by kernel_rfl) (by kernel_rfl) (Nat.le_of_ble_eq_true (by kernel_rfl)) (eq_index_order x0 x1 w K) h
end Go.Proofs.YtcigpjejbkngfaaGreatDoor
end
section
namespace Go.Proofs.YtcigpjejbkngfaaGreatDoor
open Go Go.Sh
attribute [local irreducible] X XU XP XR CALL loopS resC closS
def tail127 : Code → Code
  | .seq _ (.seq _ (.block _ (.loop (.block _ (.seq _ (.seq _ t)))))) => t
  | c => c
def B_pdq (x0 x1 x2 x3 x4 : Value) (w : World) (K : Value → World → Prop) : Prop :=
  loopS (fun Q1 ρ1 w1 =>
  X Tryz.prog (binOp .sub 3 (ρ1 2) (ρ1 1)) w1 fun v1 w2 =>
  X Tryz.prog (binOp .leq 3 v1 (.int .i64 12)) w2 fun v2 w3 =>
  condS v2 (
  CALL Tryz.prog 134 #[(ρ1 0), (ρ1 1), (ρ1 2), (ρ1 4)] w3 fun v3 w4 =>
  Q1 .ret (upds ρ1 [(30, v3), (29, (ρ1 4)), (28, (ρ1 2)), (27, (ρ1 1)), (26, (ρ1 0)), (25, v2), (24, v1), (12, v1), (23, v1), (22, (ρ1 1)), (21, (ρ1 2))]) w4) (
  sh Tryz.prog (tail127 (Tryz.f127.body.getD .skip)) (inBlockS 1 Q1) (upds ρ1 [(25, v2), (24, v1), (12, v1), (23, v1), (22, (ρ1 1)), (21, (ρ1 2))]) w3)) (inBlockS 0 (retS Tryz.prog (Tryz.f127).results K)) (upds (env0 #[x0, x1, x2, x3, x4]) [(11, (.bool true)), (10, (.bool true))]) w
theorem eq_pdq (x0 x1 x2 x3 x4 : Value) (w : World) (K : Value → World → Prop) :
    sh Tryz.prog (Tryz.f127.body.getD .skip) (retS Tryz.prog Tryz.f127.results K) (env0 #[x0, x1, x2, x3, x4]) w = B_pdq x0 x1 x2 x3 x4 w K := by kernel_rfl
theorem call_pdq (x0 x1 x2 x3 x4 : Value) (w : World) (K : Value → World → Prop) (h : B_pdq x0 x1 x2 x3 x4 w K) : CALL Tryz.prog 127 #[x0, x1, x2, x3, x4] w K :=
  call_of_eq (c := Tryz.f127.body.getD .skip) mixed Tryz.func127 (by kernel_rfl) (by kernel_rfl) (by kernel_rfl) (Nat.le_of_ble_eq_true (by kernel_rfl)) (eq_pdq x0 x1 x2 x3 x4 w K) h
end Go.Proofs.YtcigpjejbkngfaaGreatDoor
end
section
namespace Go.Proofs.YtcigpjejbkngfaaGreatDoor
open Go Go.Sh Go.RowKit
attribute [local irreducible] X XU XP XR CALL loopS resC closS
abbrev Pl := Int × Int
abbrev plV (p : Pl) : Value := .agg #[.int .i64 p.1, .int .i64 p.2]
def addR (es : List (Ky × Pl)) (r : Ex) : List (Ky × Pl) := if r.k ∈ es.map Prod.fst then es else es ++ [(r.k, (r.off, r.len))]
def tabR (rows : List Ex) : List (Ky × Pl) := rows.foldl addR []
theorem tabR_succ (rows : List Ex) (i : Nat) (h : i < rows.length) : tabR (rows.take (i + 1)) = addR (tabR (rows.take i)) rows[i] := by
  rw [List.take_succ_eq_append_getElem h]
  unfold tabR
  rw [List.foldl_append]
  rfl
abbrev entV (e : Ky × Pl) : Value × Value := (e.1.v, plV e.2)
abbrev Tbl := List (Int × List Ex)
abbrev shs (T : Tbl) : List Int := T.map Prod.fst
abbrev tbV (p : Int × Nat) : Value × Value := (.int .i64 p.1, .map (some p.2))
theorem own_neM' {w : World} {base e size n mb : Nat} {v : Value} {xs : List Value} {ms : List (Value × Value)} (ho : w.ownsRow base e size v n xs) (hm : MapAt w mb ms) : v.ownBlock ≠ some mb := by
  intro h
  rcases ho.2 with ⟨rfl, _⟩ | ⟨g, cap, cur, rfl, _, hg, _⟩
  · cases h
  · have : g = mb := by simpa [Value.ownBlock] using h
    subst this
    obtain ⟨es, c, h1, _⟩ := hm
    rw [hg] at h1
    cases h1
structure CacheAt (w : World) (D : Nat → Prop) (cb : Nat) (room : Nat) (T : Tbl) : Prop where
  ex : ∃ (vo : Value) (mb : Nat) (tb : List (Int × Nat)), w.heap[cb]? = some (.cells #[.int .i64 (room : Int), vo, .map (some mb)] 175 (0, 0)) ∧ OwnK 1 3 intC w 0 vo (shs T) ∧ MapAt w mb (tb.map tbV) ∧ (tb.map Prod.fst).Nodup ∧ (∀ s, s ∈ tb.map Prod.fst ↔ s ∈ shs T) ∧
    (∀ p ∈ tb, ∀ rows, (p.1, rows) ∈ T → MapAt w p.2 ((tabR rows).map entV)) ∧ (∀ p ∈ tb, p.2 ≠ mb ∧ D p.2) ∧ D cb ∧ D mb ∧ (∀ g, vo.ownBlock = some g → D g)
  lt : ∀ g, D g → g < w.heap.size
  nodup : (shs T).Nodup
  i64 : ∀ s ∈ shs T, I64 s
  small : room ≤ 4096
  fits : T.length ≤ room
theorem CacheAt.keep {w w1 : World} {D E : Nat → Prop} {cb room : Nat} {T : Tbl} (h : CacheAt w D cb room T) (k : Keep E w w1) (hd : ∀ g, D g → ¬ E g) : CacheAt w1 D cb room T := by
  obtain ⟨⟨vo, mb, tb, h1, h2, h3, h4, h5, h6, h7, h8, h9, h10⟩, hlt, hnd, hi, hs, hf⟩ := h
  exact ⟨⟨vo, mb, tb, k.get (hd _ h8) h1, h2.keep k (fun g hg => hd g (h10 g hg)), h3.keep k (hd _ h9), h4, h5, fun p hp rows hr => (h6 p hp rows hr).keep k (hd _ (h7 p hp).2), h7, h8, h9, h10⟩, fun g hg => Nat.lt_of_lt_of_le (hlt g hg) k.size, hnd, hi, hs, hf⟩
theorem CacheAt.ext {w w1 : World} {D : Nat → Prop} {cb room : Nat} {T : Tbl} (h : CacheAt w D cb room T) (k : Ext w w1) : CacheAt w1 D cb room T := h.keep k (fun _ _ h => h)
theorem run_build_175 (n : Int) (m : Nat) (w : World) : (Instr.build 175 #[(0, .int .i64 n), (2, .map (some m))]).run Tryz.prog w = .ok (.agg #[.int .i64 n, .slice none 0 0, .map (some m)]) w := by kernel_rfl
theorem tb_keys (tb : List (Int × Nat)) (h : ∀ s ∈ tb.map Prod.fst, I64 s) : ∀ p ∈ tb.map tbV, ∃ x, keyOf Tryz.prog 3 p.1 = some x := by
  intro p hp
  obtain ⟨q, hq, rfl⟩ := List.mem_map.1 hp
  exact ⟨_, keyOf_i64 (h q.1 (List.mem_map.2 ⟨q, hq, rfl⟩))⟩
theorem nodup_of_map {α β : Type} {f : α → β} : ∀ {l : List α}, (l.map f).Nodup → l.Nodup := by
  intro l
  induction l with
  | nil => intro _; exact List.nodup_nil
  | cons a l ih =>
    intro h
    rw [List.map_cons, List.nodup_cons] at h
    rw [List.nodup_cons]
    exact ⟨fun ha => h.1 (List.mem_map.2 ⟨a, ha, rfl⟩), ih h.2⟩
theorem fst_inj {α β : Type} {f : α → β} : ∀ {l : List α}, (l.map f).Nodup → ∀ {a b : α}, a ∈ l → b ∈ l → f a = f b → a = b := by
  intro l
  induction l with
  | nil => intro _ a b ha; cases ha
  | cons c l ih =>
    intro h a b ha hb hab
    rw [List.map_cons, List.nodup_cons] at h
    rcases List.mem_cons.1 ha with ha' | ha' <;> rcases List.mem_cons.1 hb with hb' | hb'
    · rw [ha', hb']
    · exact (h.1 (List.mem_map.2 ⟨b, hb', by rw [← hab, ha']⟩)).elim
    · exact (h.1 (List.mem_map.2 ⟨a, ha', by rw [hab, hb']⟩)).elim
    · exact ih h.2 ha' hb' hab
def dropT (T : Tbl) (s : Int) : Tbl := T.filter fun p => decide (p.1 ≠ s)
theorem drop_at {α : Type} (f : α → Int) : ∀ (l : List α) (i : Nat) (h : i < l.length), (l.map f).Nodup → l.take i ++ l.drop (i + 1) = l.filter fun p => decide (f p ≠ f l[i]) := by
  intro l
  induction l with
  | nil => intro i h; simp at h
  | cons a l ih =>
    intro i h hn
    rw [List.map_cons, List.nodup_cons] at hn
    cases i with
    | zero =>
      simp only [List.take_zero, List.nil_append, Nat.zero_add, List.drop_succ_cons, List.drop_zero, List.getElem_cons_zero]
      rw [List.filter_cons, if_neg (by simp)]
      refine (List.filter_eq_self.2 ?_).symm
      intro p hp
      simp only [decide_not, Bool.not_eq_true', decide_eq_false_iff_not]
      intro he
      exact hn.1 (by rw [← he]; exact List.mem_map.2 ⟨p, hp, rfl⟩)
    | succ i =>
      simp only [List.take_succ_cons, List.cons_append, List.drop_succ_cons, List.getElem_cons_succ]
      have hi : i < l.length := by simpa using h
      have hne : f a ≠ f l[i] := fun he => hn.1 (by rw [he]; exact List.mem_map.2 ⟨_, List.getElem_mem hi, rfl⟩)
      rw [List.filter_cons, if_pos (decide_eq_true hne), ih i hi hn.2]
theorem mem_erase {α : Type} {l : List α} (hn : l.Nodup) {j : Nat} (hj : j < l.length) (x : α) : x ∈ l.eraseIdx j ↔ x ∈ l ∧ x ≠ l[j] := by
  rw [List.eraseIdx_eq_take_drop_succ]
  have hs : l = l.take j ++ l[j] :: l.drop (j + 1) := by rw [← List.drop_eq_getElem_cons hj, List.take_append_drop]
  have hn' := hn
  rw [hs] at hn'
  rw [List.nodup_append] at hn'
  obtain ⟨n1, n2, n3⟩ := hn'
  rw [List.nodup_cons] at n2
  constructor
  · intro h
    rcases List.mem_append.1 h with h | h
    · exact ⟨List.mem_of_mem_take h, fun he => n3 x h l[j] List.mem_cons_self he⟩
    · exact ⟨List.mem_of_mem_drop h, fun he => n2.1 (by rw [← he]; exact h)⟩
  · rintro ⟨h, hne⟩
    rw [hs] at h
    rcases List.mem_append.1 h with h | h
    · exact List.mem_append.2 (.inl h)
    · rcases List.mem_cons.1 h with h | h
      · exact absurd h hne
      · exact List.mem_append.2 (.inr h)
theorem shs_drop (T : Tbl) (s : Int) : shs (dropT T s) = (shs T).filter fun x => decide (x ≠ s) := by
  unfold shs dropT
  rw [List.filter_map]
  rfl
theorem nodup_drop {T : Tbl} (h : (shs T).Nodup) (s : Int) : (shs (dropT T s)).Nodup := by rw [shs_drop]; exact h.filter _
theorem mem_drop {T : Tbl} {s x : Int} : x ∈ shs (dropT T s) ↔ x ∈ shs T ∧ x ≠ s := by rw [shs_drop, List.mem_filter]; simp
theorem drop_none {T : Tbl} {s : Int} (h : s ∉ shs T) : dropT T s = T := by
  unfold dropT
  refine List.filter_eq_self.2 (fun p hp => decide_eq_true (fun he => h ?_))
  rw [← he]
  exact List.mem_map.2 ⟨p, hp, rfl⟩
section
variable {w : World} {K : Value → World → Prop}
theorem New_ok {room : Nat} (hr : room ≤ 4096) (hK : ∀ cb w1, Ext w w1 → CacheAt w1 (fun g => w.heap.size ≤ g ∧ g < w1.heap.size) cb room [] → K (.tuple #[ptr cb, .int .i64 0]) w1) : CALL Tryz.prog 58 #[.int .i64 (room : Int)] w K := by
  apply call_cache_New
  unfold B_cache_New
  have c1 : decide ((room : Int) < 0) = false := decide_eq_false (by omega)
  have c2 : decide ((room : Int) > 4096) = false := decide_eq_false (by omega)
  (repeat (simp only [SLB, Int.reduceEq, Int.reduceNe, Int.reduceLT, Int.reduceLE, Int.reduceGT, Int.reduceGE, c1, c2]))
  refine X_makeMap0 ?_
  have hx0 := newM_ext w
  have hm0 := newM_at w
  have hs0 : (newM w).heap.size = w.heap.size + 1 := by show (w.heap.push _).size = _; exact Array.size_push _
  generalize newM w = w0 at hx0 hm0 hs0 ⊢
  refine X_of (run_build_175 _ _ _) ?_
  refine X_box ?_
  have hx1 := newB_ext w0 #[.int .i64 (room : Int), .slice none 0 0, .map (some w.heap.size)] 175
  have hg1 := newB_get w0 #[.int .i64 (room : Int), .slice none 0 0, .map (some w.heap.size)] 175
  have hs1 := newB_size w0 #[.int .i64 (room : Int), .slice none 0 0, .map (some w.heap.size)] 175
  show K _ (newB w0 #[.int .i64 (room : Int), .slice none 0 0, .map (some w.heap.size)] 175)
  generalize newB w0 #[.int .i64 (room : Int), .slice none 0 0, .map (some w.heap.size)] 175 = w1 at hx1 hg1 hs1 ⊢
  refine hK _ _ (hx0.trans hx1) ⟨⟨_, w.heap.size, [], hg1, ownK_nil _ _, hm0.ext hx1, by simp, by simp, by simp, by simp, ⟨by omega, by omega⟩, ⟨by omega, by omega⟩, fun g hg => by cases hg⟩, fun g hg => hg.2, by simp, by simp, hr, by simp⟩
theorem Has_spec {D : Nat → Prop} {cb room : Nat} {T : Tbl} {s : Int} (h : CacheAt w D cb room T) (hs : I64 s) (hK : K (.bool (decide (s ∈ shs T))) w) : CALL Tryz.prog 89 #[ptr cb, .int .i64 s] w K := by
  obtain ⟨⟨vo, mb, tb, h1, h2, h3, h4, h5, h6, h7, h8, h9, h10⟩, hlt, hnd, hi, hsm, hf⟩ := h
  apply call_cache_Cache_Has
  unfold B_cache_Cache_Has
  (repeat (simp only [SLB, Int.reduceEq, Int.reduceNe, Int.reduceLT, Int.reduceLE, Int.reduceGT, Int.reduceGE, X_field_175_2]))
  refine X_of (run_loadAt (v := .map (some mb)) agg_173 ((cell_blk h1).trans rfl)) ?_
  have hk := tb_keys tb (fun x hx => hi x ((h5 x).1 hx))
  rcases run_lookupM (P := Tryz.prog) keyed3 Tryz.underlying173 zero_142 h3 hk (keyOf_i64 hs) true with ⟨hno, hrun⟩ | ⟨p, hp, hpk, hrun⟩
  · refine X_of hrun ?_
    have hns : s ∉ shs T := by
      intro hs'
      obtain ⟨q, hq, hqs⟩ := List.mem_map.1 ((h5 s).2 hs')
      exact hno (tbV q) (List.mem_map.2 ⟨q, hq, rfl⟩) (by show Value.int .i64 q.1 = _; rw [hqs])
    rw [decide_eq_false hns] at hK
    (repeat (simp only [SLB, Int.reduceEq, Int.reduceNe, Int.reduceLT, Int.reduceLE, Int.reduceGT, Int.reduceGE, if_true]))
    exact hK
  · refine X_of hrun ?_
    have hys : s ∈ shs T := by
      obtain ⟨q, hq, rfl⟩ := List.mem_map.1 hp
      rw [← h5]
      injection hpk with _ hpk
      exact List.mem_map.2 ⟨q, hq, hpk⟩
    rw [decide_eq_true hys] at hK
    (repeat (simp only [SLB, Int.reduceEq, Int.reduceNe, Int.reduceLT, Int.reduceLE, Int.reduceGT, Int.reduceGE, if_true]))
    exact hK
set_option maxHeartbeats 1000000 in
theorem Drop_spec {D : Nat → Prop} {cb room : Nat} {T : Tbl} {s : Int} (h : CacheAt w D cb room T) (hs : I64 s) (hK : ∀ w1, Keep D w w1 → CacheAt w1 D cb room (dropT T s) → K (.bool (decide (s ∈ shs T))) w1) : CALL Tryz.prog 74 #[ptr cb, .int .i64 s] w K := by
  apply call_cache_Cache_Drop
  unfold B_cache_Cache_Drop
  refine Has_spec h hs ?_
  by_cases hin : s ∈ shs T
  case neg =>
    have := hK w (Keep.refl _ _) (by rw [drop_none hin]; exact h)
    rw [decide_eq_false hin] at this
    have c : decide (s ∈ shs T) = false := decide_eq_false hin
    (repeat (simp only [SLB, Int.reduceEq, Int.reduceNe, Int.reduceLT, Int.reduceLE, Int.reduceGT, Int.reduceGE, c]))
    exact this
  have c : decide (s ∈ shs T) = true := decide_eq_true hin
  rw [c] at hK
  obtain ⟨⟨vo, mb, tb, h1, h2, h3, h4, h5, h6, h7, h8, h9, h10⟩, hlt, hnd, hi, hsm, hf⟩ := h
  (repeat (simp only [SLB, Int.reduceEq, Int.reduceNe, Int.reduceLT, Int.reduceLE, Int.reduceGT, Int.reduceGE, c, X_field_175_2]))
  refine X_of (run_loadAt (v := .map (some mb)) agg_173 ((cell_blk h1).trans rfl)) ?_
  have hk := tb_keys tb (fun x hx => hi x ((h5 x).1 hx))
  obtain ⟨q0, hq0, hq0s⟩ := List.mem_map.1 ((h5 s).2 hin)
  refine X_delete keyed3 Tryz.underlying173 h3 hk (keyOf_i64 hs) ⟨tbV q0, List.mem_map.2 ⟨q0, hq0, rfl⟩, by show Value.int .i64 q0.1 = _; rw [hq0s]⟩ ?_
  intro w1 j p hj hpk hm1 hk1
  obtain ⟨q, hq, rfl⟩ : ∃ q, tb[j]? = some q ∧ tbV q = p := by
    rw [List.getElem?_map] at hj
    obtain ⟨q, hq, e⟩ := Option.map_eq_some_iff.1 hj
    exact ⟨q, hq, e⟩
  have hqs : q.1 = s := by injection hpk
  have hmE : MapAt w1 mb ((tb.eraseIdx j).map tbV) := by
    have e : (tb.eraseIdx j).map tbV = (tb.map tbV).eraseIdx j := by rw [List.eraseIdx_eq_take_drop_succ, List.eraseIdx_eq_take_drop_succ, List.map_append, List.map_take, List.map_drop]
    rw [e]
    exact hm1
  have hcm : cb ≠ mb := fun he => by
    obtain ⟨es, cl, hm, _⟩ := h3
    rw [he, hm] at h1
    cases h1
  have hvm : ∀ g, vo.ownBlock = some g → g ≠ mb := fun g hg he => own_neM' h2 h3 (by rw [hg, he])
  have h11 := hk1.get hcm h1
  have h21 := h2.keep hk1 (fun g hg hgm => hvm g hg hgm)
  (repeat (simp only [SLB, Int.reduceEq, Int.reduceNe, Int.reduceLT, Int.reduceLE, Int.reduceGT, Int.reduceGE, X_field_175_1]))
  refine X_of (run_loadAt (v := vo) agg_43 ((cell_blk h11).trans rfl)) ?_
  have hlenT : (shs T).length ≤ 4096 := by rw [List.length_map]; omega
  refine Index_spec (OwnK.rowK (by decide) intC_len h21) (by omega) hin ?_
  intro i hi' his
  (repeat (simp only [SLB, Int.reduceEq, Int.reduceNe, Int.reduceLT, Int.reduceLE, Int.reduceGT, Int.reduceGE, X_field_175_1]))
  refine X_of (run_loadAt (v := vo) agg_43 ((cell_blk h11).trans rfl)) ?_
  rw [X_add, w64 (by omega) (by omega)]
  have e1 : ((i : Int) + 1) = ((i + 1 : Nat) : Int) := by omega
  rw [e1]
  refine Delete_spec h21 hi' (by omega) ?_
  intro v2 w2 ho2 hob hk2
  have hcv : ¬ vo.ownBlock = some cb := fun he => own_neT h2 h1 (by decide) he
  have h12 := hk2.get hcv h11
  obtain ⟨a2, c2, e2⟩ := (OwnK.rowK (by decide) intC_len ho2).slice
  (repeat (simp only [SLB, Int.reduceEq, Int.reduceNe, Int.reduceLT, Int.reduceLE, Int.reduceGT, Int.reduceGE, X_field_175_1]))
  refine XU_store info_43 sz_43 (by rw [e2]; rfl) h12 (by show (0 + 1) < 3; decide) (by show ¬ (0 ≤ _ ∧ _ < 0); omega) ?_
  have hk3 := setAt_keep w2 cb (#[.int .i64 (room : Int), vo, .map (some mb)].setIfInBounds (0 + 1) v2) 175 (0, 0)
  have hg3 : (setAt w2 cb (#[.int .i64 (room : Int), vo, .map (some mb)].setIfInBounds (0 + 1) v2) 175 (0, 0)).heap[cb]? = some (.cells #[.int .i64 (room : Int), v2, .map (some mb)] 175 (0, 0)) := setAt_same (lt_of_blk h12)
  generalize setAt w2 cb (#[.int .i64 (room : Int), vo, .map (some mb)].setIfInBounds (0 + 1) v2) 175 (0, 0) = w3 at hk3 hg3 ⊢
  have hfil : (shs T).take i ++ (shs T).drop (i + 1) = shs (dropT T s) := by
    rw [shs_drop, ← his]
    exact drop_at id (shs T) i hi' (by simpa using hnd)
  rw [hfil] at ho2
  have hjl : j < tb.length := (List.getElem?_eq_some_iff.1 hq).1
  have hqj : tb[j] = q := (List.getElem?_eq_some_iff.1 hq).2
  have hntb : tb.Nodup := nodup_of_map h4
  have hEq : ∀ q', q' ∈ tb.eraseIdx j ↔ q' ∈ tb ∧ q' ≠ q := fun q' => by rw [mem_erase hntb hjl, hqj]
  have hnE : ((tb.eraseIdx j).map Prod.fst).Nodup := h4.sublist ((List.eraseIdx_sublist tb j).map Prod.fst)
  have hEm : ∀ x, x ∈ (tb.eraseIdx j).map Prod.fst ↔ x ∈ tb.map Prod.fst ∧ x ≠ s := by
    intro x
    constructor
    · intro h
      obtain ⟨q', hq', rfl⟩ := List.mem_map.1 h
      obtain ⟨g1, g2⟩ := (hEq q').1 hq'
      refine ⟨List.mem_map.2 ⟨q', g1, rfl⟩, fun he => g2 ?_⟩
      exact fst_inj h4 g1 (hqj ▸ List.getElem_mem hjl) (he.trans hqs.symm)
    · rintro ⟨h, hne⟩
      obtain ⟨q', hq', rfl⟩ := List.mem_map.1 h
      exact List.mem_map.2 ⟨q', (hEq q').2 ⟨hq', fun he => hne (by rw [he]; exact hqs)⟩, rfl⟩
  have kD : Keep D w w3 := Keep.trans (Keep.trans (hk1.mono (fun _ _ h => by rw [h]; exact h9)) (hk2.mono (fun g _ h => h10 g h))) (hk3.mono (fun _ _ h => by rw [h]; exact h8))
  refine hK w3 kD ⟨⟨v2, mb, tb.eraseIdx j, hg3, ho2.keep hk3 (fun g hg hgc => hcv (by rw [← hob, hg, hgc])), (hmE.keep hk2 (fun he => hvm mb he rfl)).keep hk3 (fun he => hcm he.symm), ?_, ?_, ?_, ?_, h8, h9, fun g hg => h10 g (by rw [← hob]; exact hg)⟩, fun g hg => Nat.lt_of_lt_of_le (hlt g hg) kD.size, nodup_drop hnd s, fun x hx => hi x (mem_drop.1 hx).1, hsm, ?_⟩
  · exact hnE
  · intro x
    rw [mem_drop, ← h5]
    rw [hEm x]
  · intro q' hq' rows hrows
    have hq2 := (hEq q').1 hq'
    have hr2 : (q'.1, rows) ∈ T := (List.mem_filter.1 hrows).1
    have hm0 := h6 q' hq2.1 rows hr2
    exact (((hm0.keep hk1 (h7 q' hq2.1).1).keep hk2 (fun he => own_neM' h2 hm0 he)).keep hk3 (fun he => by
      obtain ⟨es, cl, hmm, _⟩ := hm0
      rw [he, h1] at hmm
      cases hmm))
  · intro q' hq'
    exact h7 q' ((hEq q').1 hq').1
  · have : (dropT T s).length ≤ T.length := List.length_filter_le _ _
    omega
end
end Go.Proofs.YtcigpjejbkngfaaGreatDoor
end
section
namespace Go.Sh
open Go
def reachB (ops : Array Oper) : Nat → Oper → Nat → Bool
  | 0, _, _ => false
  | f + 1, o, i => o.after.any fun e => Region.binds .any e && (e.on == i || match ops[e.on]? with
    | some o' => reachB ops f o' i
    | none => false)
def chkT (ops : Array Oper) (listed : Array Bool) (j : Nat) : Bool :=
  match ops[j]? with
  | some oj => (List.range ops.size).any fun i => listed.getD i false && readsB ops i && !reachB ops ops.size oj i
  | none => false
def anyT (P : Program) (R : World → World → Prop) (ops : Array Oper) (K : Env → World → Prop) : Nat → Array Bool → Env → World → Prop
  | 0, _, ρ, w => K ρ w
  | fuel + 1, listed, ρ, w =>
    match Region.ready .any ops listed with
    | [] => K ρ w
    | i :: l =>
      match (i :: l).find? (canTake ops listed) with
      | some i => takeG P R ops ρ (ops.getD i default) w (fun v w' => anyT P R ops K fuel (listed.setIfInBounds i true) (updO ρ (ops.getD i default).dst v) w')
      | none => allL (fun i => stepG P ops ρ (ops.getD i default) w (fun v w' => andIf (chkT ops listed i) (R w w')
          (anyT P R ops K fuel (listed.setIfInBounds i true) (updO ρ (ops.getD i default).dst v) w'))) (i :: l)
def drawT (P : Program) (ops : Array Oper) (K : Env → World → Prop) (ρ : Env) (w : World) : Prop :=
  ∃ R : World → World → Prop, Frame? R ∧ anyT P R ops K ops.size (Array.replicate ops.size false) ρ (drewW w)
def shT (P : Program) : Code → (Exit → Env → World → Prop) → Env → World → Prop
  | .skip, Q, ρ, w => Q .normal ρ w
  | .region _ ops true, Q, ρ, w => drawT P ops (Q .normal) ρ w
  | .region _ ops false, Q, ρ, w => opsS P ops (Q .normal) ops.toList ρ w
  | .seq a b, Q, ρ, w => shT P a (thenS (shT P b Q) Q) ρ w
  | .cond c a b, Q, ρ, w => condS (ev ρ c) (shT P a Q ρ w) (shT P b Q ρ w)
  | .block id a, Q, ρ, w => shT P a (inBlockS id Q) ρ w
  | .loop a, Q, ρ, w => loopS (shT P a) Q ρ w
  | .exit id, Q, ρ, w => Q (.exit id) ρ w
  | .ret, Q, ρ, w => Q .ret ρ w
  | _, _, _, _ => False
def wpAnyT (P : Program) (ops : Array Oper) (Q : Exit → Act → World → Prop) (R : World → World → Prop) : Nat → Array Bool → Act → World → Prop
  | 0, listed, a, w => Region.ready .any ops listed = [] ∧ Q .normal a w
  | fuel + 1, listed, a, w =>
    (Region.ready .any ops listed = [] → Q .normal a w) ∧
    ∀ i ∈ Region.ready .any ops listed, wpOp P ops Q i (fun a' w' => (chkT ops listed i = true → R w w') ∧ wpAnyT P ops Q R fuel (listed.setIfInBounds i true) a' w') a w
section
variable {P : Program} {ops : Array Oper} {Q : Exit → Act → World → Prop} {R : World → World → Prop}
theorem wpAny_of_T : ∀ (fuel : Nat) (listed : Array Bool) (a : Act) (w : World), wpAnyT P ops Q R fuel listed a w → wpAny P .any ops Q fuel listed a w
  | 0, _, _, _, h => h
  | fuel + 1, _, _, _, h => ⟨h.1, fun i hi => wpOp_mono (fun a' w' h' => wpAny_of_T fuel _ a' w' h'.2) (h.2 i hi)⟩
theorem chkT_mono {listed : Array Bool} {i j : Nat} (h : chkT ops listed j = true) : chkT ops (listed.setIfInBounds i true) j = true := by
  unfold chkT at *
  cases hj : ops[j]? with
  | none => simp [hj] at h
  | some oj =>
    simp only [hj, List.any_eq_true, List.mem_range, Bool.and_eq_true] at h ⊢
    obtain ⟨k, hk, ⟨h1, h2⟩, h3⟩ := h
    exact ⟨k, hk, ⟨getD_set_true h1, h2⟩, h3⟩
theorem chkT_reader {listed : Array Bool} {i j : Nat} {oj : Oper} (hj : ops[j]? = some oj) (hi : readsB ops i = true) (hlt : i < listed.size) (hno : reachB ops ops.size oj i = false) :
    chkT ops (listed.setIfInBounds i true) j = true := by
  unfold chkT
  simp only [hj, List.any_eq_true, List.mem_range, Bool.and_eq_true]
  have hio : i < ops.size := by
    unfold readsB at hi
    cases h : ops[i]? with
    | none => simp [h] at hi
    | some o => exact (Array.getElem?_eq_some_iff.1 h).1
  exact ⟨i, hio, ⟨by simp [hlt], hi⟩, by rw [hno]; rfl⟩
theorem gd_tf {l : Array Bool} {x : Nat} (h : l.getD x false = true) : l.getD x true = true := by
  rw [Array.getD_eq_getD_getElem?] at h ⊢
  cases hx : l[x]? with
  | none => rw [hx] at h; cases h
  | some b => rw [hx] at h; exact h
def ClosedL (ops : Array Oper) (listed : Array Bool) : Prop := ∀ k ok, ops[k]? = some ok → listed.getD k true = true → ∀ e ∈ ok.after, Region.binds .any e = true → listed.getD e.on true = true
theorem reach_listed {listed : Array Bool} (hc : ClosedL ops listed) {i : Nat} : ∀ (f : Nat) (o : Oper), (∀ e ∈ o.after, Region.binds .any e = true → listed.getD e.on true = true) → reachB ops f o i = true → listed.getD i true = true := by
  intro f
  induction f with
  | zero => intro o _ h; cases h
  | succ f ih =>
    intro o ho h
    unfold reachB at h
    rw [Array.any_eq_true'] at h
    obtain ⟨e, he, h⟩ := h
    simp only [Bool.and_eq_true, Bool.or_eq_true, beq_iff_eq] at h
    obtain ⟨hb, h⟩ := h
    have hl := ho e he hb
    rcases h with h | h
    · rw [← h]; exact hl
    · cases hop : ops[e.on]? with
      | none => rw [hop] at h; cases h
      | some o' =>
        rw [hop] at h
        exact ih o' (hc e.on o' hop hl) h
theorem closed_set {listed : Array Bool} (hc : ClosedL ops listed) {j : Nat} {oj : Oper} (hoj : ops[j]? = some oj) (hall : ∀ e ∈ oj.after, Region.binds .any e = true → listed.getD e.on true = true) : ClosedL ops (listed.setIfInBounds j true) := by
  have mono : ∀ k, listed.getD k true = true → (listed.setIfInBounds j true).getD k true = true := by
    intro k hk
    by_cases hjk : j = k
    · subst hjk
      by_cases hlt : j < listed.size
      · simp [Array.getD_eq_getD_getElem?, hlt]
      · simp [Array.getD_eq_getD_getElem?, hlt]
    · rw [getD_set_ne true hjk]; exact hk
  intro k ok hk hl e he hb
  by_cases hjk : j = k
  · subst hjk
    rw [hoj] at hk
    injection hk with hk
    subst hk
    exact mono _ (hall e he hb)
  · rw [getD_set_ne true hjk] at hl
    exact mono _ (hc k ok hk hl e he hb)
theorem closed_start (ops : Array Oper) : ClosedL ops (Array.replicate ops.size false) := by
  intro k ok hk hl
  have := (Array.getElem?_eq_some_iff.1 hk).1
  simp [Array.getD_eq_getD_getElem?, this] at hl
theorem takeRT {i : Nat} {oi : Oper} {v : Value} (fr : Frame? R) (hi : ops[i]? = some oi) (hsel : ∀ (j : Nat) (o : Oper) cs b, ops[j]? = some o → o.op ≠ .select cs b)
    (hQ : ∀ c a w, Q (.panic c) (a.put oi.dst v) w → Q (.panic c) a w) (hrd : readsB ops i = true) :
    ∀ (fuel : Nat) (listed : Array Bool) (a : Act) (w : World), ClosedL ops listed →
      (∀ j oj, ops[j]? = some oj → j ≠ i → listed.getD j true = false → (∀ e ∈ oj.after, Region.binds .any e = true → e.on ≠ i) → oi.apart ops oj = true) →
      i ∈ Region.ready .any ops listed → YieldsIf P ops (R w) oi v a →
      wpAnyT P ops Q R fuel (listed.setIfInBounds i true) (a.put oi.dst v) w → wpAnyT P ops Q R (fuel + 1) listed a w := by
  intro fuel
  induction fuel with
  | zero =>
    intro listed a w hcl _ hr hy H
    refine ⟨fun h => (by rw [h] at hr; cases hr), fun j hj => ?_⟩
    by_cases hji : j = i
    · subst hji; exact hy.wpOp hi (fr.refl w) ⟨fun _ => fr.refl w, H⟩
    · have := ready_mono hj hji
      rw [H.1] at this
      cases this
  | succ fuel ih =>
    intro listed a w hcl hfree hr hy H
    refine ⟨fun h => (by rw [h] at hr; cases hr), fun j hj => ?_⟩
    by_cases hji : j = i
    · subst hji; exact hy.wpOp hi (fr.refl w) ⟨fun _ => fr.refl w, H⟩
    · have h1 := H.2 j (ready_mono hj hji)
      obtain ⟨hjun, oj, hoj, hall⟩ := mem_ready.1 hj
      have hnot : ∀ e ∈ oj.after, Region.binds .any e = true → e.on ≠ i := fun e he hb heq => by
        have h1 := hall e he hb
        have h0 := (mem_ready.1 hr).1
        rw [heq] at h1
        rcases Nat.lt_or_ge i listed.size with h' | h'
        · simp [h'] at h0 h1; rw [h0] at h1; cases h1
        · simp [Array.getElem?_eq_none h'] at h1
      have h2 := wpOp_putIf hoj (hfree j oj hoj hji hjun hnot) (fun cs b => hsel i oi cs b hi) (fun cs b => hsel j oj cs b hoj) hQ hy h1
      have hfree' : ∀ k ok, ops[k]? = some ok → k ≠ i → (listed.setIfInBounds j true).getD k true = false →
          (∀ e ∈ ok.after, Region.binds .any e = true → e.on ≠ i) → oi.apart ops ok = true := fun k ok hk hki hun hno => by
        refine hfree k ok hk hki ?_ hno
        by_cases hjk : j = k
        · subst hjk; exact hjun
        · rw [getD_set_ne true hjk] at hun; exact hun
      have hnr : reachB ops ops.size oj i = false := by
        cases hre : reachB ops ops.size oj i with
        | false => rfl
        | true =>
          have h5 := reach_listed hcl ops.size oj (fun e he hb => gd_tf (hall e he hb)) hre
          have h0 := (mem_ready.1 hr).1
          rw [h5] at h0
          cases h0
      have hchk := chkT_reader (listed := listed) hoj hrd (lt_of_ready hr) hnr
      refine wpOp_mono (fun a' w' h3 => ⟨fun _ => h3.2.1 hchk, ih (listed.setIfInBounds j true) a' w' (closed_set hcl hoj (fun e he hb => gd_tf (hall e he hb))) hfree' (ready_mono hr (Ne.symm hji))
        (yieldsIf_weaken (fun w2 hw2 => fr.trans _ _ _ (h3.2.1 hchk) hw2) h3.1) ?_⟩) h2
      rw [Array.setIfInBounds_comm _ _ hji]
      exact h3.2.2
theorem takePT {i : Nat} {oi : Oper} {v : Value} (fr : Frame? R) (hi : ops[i]? = some oi) (hsel : ∀ (j : Nat) (o : Oper) cs b, ops[j]? = some o → o.op ≠ .select cs b)
    (hQ : ∀ c a w, Q (.panic c) (a.put oi.dst v) w → Q (.panic c) a w) :
    ∀ (fuel : Nat) (listed : Array Bool) (a : Act) (w : World), ClosedL ops listed →
      (∀ j oj, ops[j]? = some oj → j ≠ i → listed.getD j true = false → (∀ e ∈ oj.after, Region.binds .any e = true → e.on ≠ i) → oi.apart ops oj = true) →
      i ∈ Region.ready .any ops listed → Yields P ops oi v a →
      wpAnyT P ops Q R fuel (listed.setIfInBounds i true) (a.put oi.dst v) w → wpAnyT P ops Q R (fuel + 1) listed a w := by
  intro fuel
  induction fuel with
  | zero =>
    intro listed a w hcl _ hr hy H
    refine ⟨fun h => (by rw [h] at hr; cases hr), fun j hj => ?_⟩
    by_cases hji : j = i
    · subst hji; exact hy.wpOp hi ⟨fun _ => fr.refl w, H⟩
    · have := ready_mono hj hji
      rw [H.1] at this
      cases this
  | succ fuel ih =>
    intro listed a w hcl hfree hr hy H
    refine ⟨fun h => (by rw [h] at hr; cases hr), fun j hj => ?_⟩
    by_cases hji : j = i
    · subst hji; exact hy.wpOp hi ⟨fun _ => fr.refl w, H⟩
    · have h1 := H.2 j (ready_mono hj hji)
      obtain ⟨hjun, oj, hoj, hall⟩ := mem_ready.1 hj
      have hnot : ∀ e ∈ oj.after, Region.binds .any e = true → e.on ≠ i := fun e he hb heq => by
        have h1 := hall e he hb
        have h0 := (mem_ready.1 hr).1
        rw [heq] at h1
        rcases Nat.lt_or_ge i listed.size with h' | h'
        · simp [h'] at h0 h1; rw [h0] at h1; cases h1
        · simp [Array.getElem?_eq_none h'] at h1
      have h2 := wpOp_put hoj (hfree j oj hoj hji hjun hnot) (fun cs b => hsel i oi cs b hi) (fun cs b => hsel j oj cs b hoj) hQ hy h1
      have hfree' : ∀ k ok, ops[k]? = some ok → k ≠ i → (listed.setIfInBounds j true).getD k true = false →
          (∀ e ∈ ok.after, Region.binds .any e = true → e.on ≠ i) → oi.apart ops ok = true := fun k ok hk hki hun hno => by
        refine hfree k ok hk hki ?_ hno
        by_cases hjk : j = k
        · subst hjk; exact hjun
        · rw [getD_set_ne true hjk] at hun; exact hun
      refine wpOp_mono (fun a' w' h3 => ⟨fun hc => h3.2.1 (chkT_mono hc), ih (listed.setIfInBounds j true) a' w' (closed_set hcl hoj (fun e he hb => gd_tf (hall e he hb))) hfree' (ready_mono hr (Ne.symm hji)) h3.1 ?_⟩) h2
      rw [Array.setIfInBounds_comm _ _ hji]
      exact h3.2.2
end
theorem anyT_sound {P : Program} {R : World → World → Prop} (fr : Frame? R) {n : Nat} {ops : Array Oper} {Q : Exit → Env → World → Prop} (hops : ops.all (dstOk n) = true) (hsel : noSel ops = true) :
    ∀ (fuel : Nat) (listed : Array Bool) (a : Act) (w : World), ClosedL ops listed → a.tmps.size = n → a.defers = [] → (fuel = 0 → Region.ready .any ops listed = []) → listed.size = ops.size →
      leftOf listed ≤ fuel →
      anyT P R ops (Q .normal) fuel listed (envOf a) w → wpAnyT P ops (liftQ n Q) R fuel listed a w := by
  intro fuel
  induction fuel with
  | zero =>
    intro listed a w hcl hn hd h0 _ _ h
    exact ⟨h0 rfl, hn, hd, h⟩
  | succ fuel ih =>
    intro listed a w hcl hn hd _ hls hcount h
    have hQ : ∀ (o : Oper) (v : Value) (c : List PanicEntry) (a : Act) (w : World), liftQ n Q (.panic c) (a.put o.dst v) w → liftQ n Q (.panic c) a w := fun _ _ _ _ _ h => h.elim
    -- one more is laid: fewer are left
    have hless : ∀ i, i ∈ Region.ready .any ops listed → leftOf (listed.setIfInBounds i true) ≤ fuel := by
      intro i hi
      have := leftOf_set (lt_of_ready hi) (mem_ready.1 hi).1
      omega
    have hend : ∀ i, i ∈ Region.ready .any ops listed → (fuel = 0 → Region.ready .any ops (listed.setIfInBounds i true) = []) := by
      intro i hi h0
      have hc := hless i hi
      cases hr : Region.ready .any ops (listed.setIfInBounds i true) with
      | nil => rfl
      | cons j l =>
        have hj : j ∈ Region.ready .any ops (listed.setIfInBounds i true) := by rw [hr]; simp
        have h1 := (mem_ready.1 hj).1
        rw [leftOf_zero (by omega)] at h1
        cases h1
    have hdst : ∀ (i : Nat) (o : Oper), ops[i]? = some o → ∀ t, o.dst = some t → t < a.tmps.size := by
      intro i o ho t ht
      have := Array.all_eq_true_iff_forall_mem.1 hops o (Array.mem_of_getElem? ho)
      simp only [dstOk, ht, decide_eq_true_eq] at this
      exact hn ▸ this
    have next : ∀ (i : Nat) (o : Oper) (v : Value) (w' : World), i ∈ Region.ready .any ops listed → ops[i]? = some o →
        anyT P R ops (Q .normal) fuel (listed.setIfInBounds i true) (updO (envOf a) (ops.getD i default).dst v) w' → wpAnyT P ops (liftQ n Q) R fuel (listed.setIfInBounds i true) (a.put o.dst v) w' := by
      intro i o v w' hi ho hh
      have e : ops.getD i default = o := by simp [Array.getD_eq_getD_getElem?, ho]
      rw [e, ← envOf_put a o.dst v (hdst i o ho)] at hh
      exact ih _ _ _ (closed_set hcl ho (by obtain ⟨_, o', ho', hall⟩ := mem_ready.1 hi; rw [ho] at ho'; injection ho' with ho'; subst ho'; exact fun e he hb => gd_tf (hall e he hb))) (by rw [put_size]; exact hn) (by rw [put_defers]; exact hd) (hend i hi) (by simpa using hls) (hless i hi) hh
    unfold anyT at h
    cases hrd : Region.ready .any ops listed with
    | nil =>
      simp only [hrd] at h
      refine ⟨fun _ => ⟨hn, hd, h⟩, fun i hi => ?_⟩
      rw [hrd] at hi
      cases hi
    | cons i0 l =>
      simp only [hrd] at h
      cases hf : (i0 :: l).find? (canTake ops listed) with
      | some i =>
        simp only [hf] at h
        have hi : i ∈ Region.ready .any ops listed := by rw [hrd]; exact List.mem_of_find?_eq_some hf
        have hcan : canTake ops listed i = true := List.find?_some hf
        obtain ⟨_, o, ho, _⟩ := mem_ready.1 hi
        simp only [canTake, ho, Bool.and_eq_true, bne_iff_ne, ne_eq] at hcan
        obtain ⟨hk, hfree⟩ := hcan
        have e : ops.getD i default = o := by simp [Array.getD_eq_getD_getElem?, ho]
        -- the value that it yields
        have hy : ∃ v : Value, anyT P R ops (Q .normal) fuel (listed.setIfInBounds i true) (updO (envOf a) (ops.getD i default).dst v) w ∧ (Yields P ops o v a ∨ (kindOf o = 1 ∧ YieldsIf P ops (R w) o v a)) := by
          have fromS : ∀ {K : Value → World → Prop}, takeS P R (envOf a) o w K → Region.wanted o (yielded ops a.tmps) = true → ∃ v, K v w ∧ (Yields P ops o v a ∨ (kindOf o = 1 ∧ YieldsIf P ops (R w) o v a)) := by
            intro K hs hw
            obtain ⟨v, hK, hv⟩ := takeS_yields hk hs
            rcases hv with hv | ⟨h1, hv⟩
            · exact ⟨v, hK, .inl (.inl ⟨hw, hv⟩)⟩
            · exact ⟨v, hK, .inr ⟨h1, .inl ⟨hw, hv⟩⟩⟩
          unfold takeG at h
          rw [e] at h ⊢
          cases hg : o.guard with
          | none =>
            simp only [hg] at h
            exact fromS h (wanted_none hg)
          | some jw =>
            obtain ⟨j, want⟩ := jw
            simp only [hg] at h
            rcases gstep_cases hg h with ⟨hw, hs⟩ | ⟨hw, hs⟩
            · exact fromS hs hw
            · exact ⟨undef, hs, .inl (.inr ⟨hw, rfl⟩)⟩
        obtain ⟨v, hK, hy⟩ := hy
        have hn2 := next i o v w hi ho hK
        rcases hy with hy | ⟨h1, hy⟩
        · exact takePT fr ho (Region.noSelect_spec hsel) (hQ o v) fuel listed a w hcl (Region.free_spec ho hfree) hi hy hn2
        · exact takeRT fr ho (Region.noSelect_spec hsel) (hQ o v) (by simp [readsB, ho, h1]) fuel listed a w hcl (Region.free_spec ho hfree) hi hy hn2
      | none =>
        simp only [hf] at h
        refine ⟨fun h0 => (by rw [hrd] at h0; cases h0), fun i hi => ?_⟩
        have hall : ∀ (l : List Nat) (f : Nat → Prop), allL f l → ∀ i ∈ l, f i := by
          intro l
          induction l with
          | nil => intro f _ i hi; cases hi
          | cons x l ihl =>
            intro f hl i hi
            cases l with
            | nil => rcases List.mem_cons.1 hi with rfl | hi <;> first | exact hl | cases hi
            | cons y l =>
              rcases List.mem_cons.1 hi with rfl | hi
              · exact hl.1
              · exact ihl f hl.2 i hi
        have hs := hall _ _ h i (by rw [← hrd]; exact hi)
        obtain ⟨_, o, ho, _⟩ := mem_ready.1 hi
        have e : ops.getD i default = o := by simp [Array.getD_eq_getD_getElem?, ho]
        have split : ∀ v w', andIf (chkT ops listed i) (R w w') (anyT P R ops (Q .normal) fuel (listed.setIfInBounds i true) (updO (envOf a) (ops.getD i default).dst v) w') →
            (chkT ops listed i = true → R w w') ∧ wpAnyT P ops (liftQ n Q) R fuel (listed.setIfInBounds i true) (a.put o.dst v) w' := by
          intro v w' hh
          unfold andIf at hh
          split at hh
          · exact ⟨fun _ => hh.1, next i o v w' hi ho hh.2⟩
          · rename_i hc
            exact ⟨fun h' => (by rw [hc] at h'; cases h'), next i o v w' hi ho hh⟩
        unfold wpOp
        simp only [ho]
        unfold stepG at hs
        simp only [e] at hs split
        cases hg : o.guard with
        | none =>
          simp only [hg] at hs
          rw [if_pos (wanted_none hg)]
          exact .inl (stepS_sound hs split)
        | some jw =>
          obtain ⟨j, want⟩ := jw
          simp only [hg] at hs
          rcases gstep_cases hg hs with ⟨hw, hs⟩ | ⟨hw, hs⟩
          · rw [if_pos hw]; exact .inl (stepS_sound hs split)
          · rw [if_neg (by simp [hw])]; exact split _ _ hs
theorem drawT_sound {P : Program} (hm : P.follows .mixedOrders = true) {n id : Nat} {ops : Array Oper} {Q : Exit → Env → World → Prop} (hops : ops.all (dstOk n) = true) (hsel : noSel ops = true) {a : Act} {w : World}
    (hn : a.tmps.size = n) (hd : a.defers = []) (h : drawT P ops (Q .normal) (envOf a) w) : (Code.region id ops true).wp P (liftQ n Q) a w := by
  obtain ⟨R, fr, h⟩ := h
  refine wp_region_any hm (wpAny_of_T (R := R) _ _ _ _ (anyT_sound fr hops hsel _ _ _ _ (closed_start ops) hn hd ?_ (by simp) ?_ h))
  · intro h0
    have : ops = #[] := Array.eq_empty_of_size_eq_zero h0
    subst this
    rfl
  · simp [leftOf, List.countP_replicate]
theorem shT_sound {P : Program} (hm : P.follows .mixedOrders = true) {n : Nat} : ∀ (c : Code) (Q : Exit → Env → World → Prop) (a : Act) (w : World), codeOk n c = true → a.tmps.size = n → a.defers = [] →
    shT P c Q (envOf a) w → c.wp P (liftQ n Q) a w := by
  intro c
  induction c with
  | skip => intro Q a w _ hn hd h; exact wp_skip ⟨hn, hd, h⟩
  | region id ops draw =>
    intro Q a w hok hn hd h
    simp only [codeOk, Bool.and_eq_true, Bool.or_eq_true, Bool.not_eq_true'] at hok
    cases draw with
    | false =>
      refine wp_region_list (opsS_sound ops.toList a w (fun o ho => ?_) hn hd h)
      exact Array.all_eq_true_iff_forall_mem.1 hok.1 o (by simpa using ho)
    | true => exact drawT_sound hm hok.1 (hok.2.resolve_left (by simp)) hn hd h
  | seq x y ihx ihy =>
    intro Q a w hok hn hd h
    simp only [codeOk, Bool.and_eq_true] at hok
    refine wp_seq (Code.wp_mono (fun e a w hq => ?_) (ihx _ a w hok.1 hn hd h))
    have := lift_then hq
    cases e with
    | normal => exact ihy _ _ _ hok.2 this.1 this.2.1 this.2.2
    | _ => exact this
  | cond c x y ihx ihy =>
    intro Q a w hok hn hd h
    simp only [codeOk, Bool.and_eq_true] at hok
    simp only [shT, condS, ev_envOf] at h
    split at h
    · rename_i hc; exact wp_cond_true hc (ihx _ _ _ hok.1 hn hd h)
    · rename_i hc; exact wp_cond_false hc (ihy _ _ _ hok.2 hn hd h)
    · exact h.elim
  | block id x ih =>
    intro Q a w hok hn hd h
    exact wp_block (Code.wp_mono (fun e a w hq => lift_block hq) (ih _ a w hok hn hd h))
  | loop x ih =>
    intro Q a w hok hn hd h
    obtain ⟨I, μ, h0, hround⟩ := h
    refine wp_loop (fun a w => a.tmps.size = n ∧ a.defers = [] ∧ I (envOf a) w) (fun a w => μ (envOf a) w) ⟨hn, hd, h0⟩ ?_
    intro a w ⟨hn, hd, hI⟩
    refine Code.wp_mono (fun e a w hq => ?_) (ih _ a w hok hn hd (hround _ _ hI))
    have := lift_then hq
    cases e with
    | normal => exact ⟨⟨this.1, this.2.1, this.2.2.1⟩, this.2.2.2⟩
    | _ => exact this
  | exit id => intro Q a w _ hn hd h; exact wp_exit ⟨hn, hd, h⟩
  | ret => intro Q a w _ hn hd h; exact wp_ret ⟨hn, hd, h⟩
  | _ => intro Q a w _ _ _ h; exact h.elim
theorem callT_of_sh {P : Program} (hm : P.follows .mixedOrders = true) {f : FuncId} {fn : Func} {c : Code} {args : Array Value} {K : Value → World → Prop} {w : World}
    (hf : P.funcs[f]? = some fn) (hb : fn.body = some c) (hnm : (fn.name == "runtime.NumGoroutine") = false) (hok : codeOk fn.ntmps c = true) (hargs : args.size ≤ fn.ntmps)
    (h : shT P c (retS P fn.results K) (env0 args) w) : CALL P f args w K := by
  refine .inl ⟨by simp [callOk, hf, hnm, hb], calls_of_wp hf hb ?_⟩
  refine Code.wp_mono (fun e a w hq => retS_post hq) (shT_sound hm (n := fn.ntmps) c _ _ w hok (by simp; omega) rfl ?_)
  have e : envOf { tmps := args ++ Array.replicate (fn.ntmps - args.size) undef, defers := [] } = env0 args := by
    funext t
    unfold envOf env0
    simp only [Array.getD_eq_getD_getElem?]
    by_cases ht : t < args.size
    · simp [Array.getElem?_append_left ht]
    · rw [Array.getElem?_append_right (by omega), Array.getElem?_eq_none (xs := args) (by omega)]
      by_cases h2 : t - args.size < fn.ntmps - args.size
      · simp [h2]
      · rw [Array.getElem?_eq_none (by simp; omega)]
  rw [e]
  exact h
theorem callT_of_eq {P : Program} (hm : P.follows .mixedOrders = true) {f : FuncId} {fn : Func} {c : Code} {args : Array Value} {K : Value → World → Prop} {w : World} {B : Prop}
    (hf : P.funcs[f]? = some fn) (hb : fn.body = some c) (hnm : (fn.name == "runtime.NumGoroutine") = false) (hok : codeOk fn.ntmps c = true) (hargs : args.size ≤ fn.ntmps)
    (e : shT P c (retS P fn.results K) (env0 args) w = B) (h : B) : CALL P f args w K := callT_of_sh hm hf hb hnm hok hargs (by rw [e]; exact h)
end Go.Sh
end
section
namespace Go.Proofs.YtcigpjejbkngfaaGreatDoor
open Go Go.Sh
attribute [local irreducible] X XU XP XR CALL loopS resC closS
def B_cache_Cache_LoadT (x0 x1 x2 x3 : Value) (w : World) (K : Value → World → Prop) : Prop :=
  X Tryz.prog (binOpG .eql 130 (.tmp 13) (.const (.pointer none)) x0 (.pointer none)) w fun v1 w1 =>
  gstep v1 false (fun w2 K => K x0 w2) w1 fun v2 w3 =>
  gstep v1 false (fun w4 K => X Tryz.prog (nilS v2) w4 K) w3 fun v3 w5 =>
  gstep v1 false (fun w6 K => X Tryz.prog (Instr.fieldAt 175 v3 0) w6 K) w5 fun v4 w7 =>
  gstep v1 false (fun w8 K => X Tryz.prog (Instr.loadAt 3 v4) w8 K) w7 fun v5 w9 =>
  gstep v1 false (fun w10 K => X Tryz.prog (binOpG .eql 3 (.tmp 19) (.const (.int .i64 0)) v5 (.int .i64 0)) w10 K) w9 fun v6 w11 =>
  X Tryz.prog (pickS v1 (.bool true) v6) w11 fun v7 w12 =>
  gstep v7 false (fun w13 K => K x0 w13) w12 fun v8 w14 =>
  gstep v7 false (fun w15 K => K x1 w15) w14 fun v9 w16 =>
  gstep v7 false (fun w17 K => CALL Tryz.prog 89 #[v8, v9] w17 K) w16 fun v10 w18 =>
  X Tryz.prog (pickS v7 (.bool true) v10) w18 fun v11 w19 =>
  condS v11 (
  K (.tuple #[]) w19) (
  joinS (fun ρ1 w20 =>
  X Tryz.prog (Builtin.len_ #[150] 3 #[(ρ1 2)]) w20 fun v12 w21 =>
  X Tryz.prog (Instr.makeMap 142 (some v12)) w21 fun v13 w22 =>
  X Tryz.prog (Builtin.len_ #[150] 3 #[(ρ1 2)]) w22 fun v14 w23 =>
  loopS (fun Q2 ρ2 w24 =>
  X Tryz.prog (binOp .lss 3 (ρ2 58) (ρ2 57)) w24 fun v15 w25 =>
  condS v15 (
  joinS (fun ρ3 w26 =>
  X Tryz.prog (binOp .add 3 (ρ3 58) (.int .i64 1)) w26 fun v16 w27 =>
  Q2 .normal (upds ρ3 [(58, v16), (76, v16)]) w27) fun J3 =>
  X Tryz.prog (Instr.indexAt 150 (ρ2 56) (ρ2 58)) w25 fun v17 w28 =>
  X Tryz.prog (Instr.loadAt 184 v17) w28 fun v18 w29 =>
  X Tryz.prog (Instr.alloc 184 true (.tuple #[])) w29 fun v19 w30 =>
  XU Tryz.prog (Instr.storeAt 184 v19 v18) w30 fun w31 =>
  X Tryz.prog (Instr.fieldAt 184 v19 0) w31 fun v20 w32 =>
  X Tryz.prog (Instr.loadAt 33 v20) w32 fun v21 w33 =>
  X Tryz.prog (Instr.lookup 142 (ρ2 8) v21 true) w33 fun v22 w34 =>
  X Tryz.prog (Instr.extract v22 0) w34 fun v23 w35 =>
  X Tryz.prog (Instr.extract v22 1) w35 fun v24 w36 =>
  X Tryz.prog (Instr.alloc 104 true (.tuple #[])) w36 fun v25 w37 =>
  XU Tryz.prog (Instr.storeAt 104 v25 v23) w37 fun w38 =>
  X Tryz.prog (Op.unary .not v24) w38 fun v26 w39 =>
  condS v26 (
  X Tryz.prog (Instr.fieldAt 184 v19 0) w39 fun v27 w40 =>
  X Tryz.prog (Instr.loadAt 33 v27) w40 fun v28 w41 =>
  X Tryz.prog (Instr.fieldAt 184 v19 1) w41 fun v29 w42 =>
  X Tryz.prog (Instr.loadAt 104 v29) w42 fun v30 w43 =>
  XU Tryz.prog (Instr.mapUpdate 142 (ρ2 8) v28 v30) w43 fun w44 =>
  J3 (upds ρ2 [(75, v30), (74, v29), (73, v28), (72, v27), (71, (ρ2 8)), (70, v26), (69, v24), (12, v24), (11, v25), (68, v24), (67, v23), (62, v22), (66, v22), (65, v21), (64, v20), (63, (ρ2 8)), (10, v19), (61, v18), (60, v17), (59, v15)]) w44) (
  J3 (upds ρ2 [(70, v26), (69, v24), (12, v24), (11, v25), (68, v24), (67, v23), (62, v22), (66, v22), (65, v21), (64, v20), (63, (ρ2 8)), (10, v19), (61, v18), (60, v17), (59, v15)]) w39)) (
  Q2 (.exit 0) (upds ρ2 [(59, v15)]) w25)) (inBlockS 0 (thenS (fun ρ4 w45 =>
  X Tryz.prog (nilS (ρ4 0)) w45 fun v31 w46 =>
  X Tryz.prog (Instr.fieldAt 175 v31 2) w46 fun v32 w47 =>
  X Tryz.prog (Instr.loadAt 173 v32) w47 fun v33 w48 =>
  XU Tryz.prog (Instr.mapUpdate 173 v33 (ρ4 1) (ρ4 8)) w48 fun w49 =>
  X Tryz.prog (nilS (ρ4 0)) w49 fun v34 w50 =>
  X Tryz.prog (Instr.fieldAt 175 v34 1) w50 fun v35 w51 =>
  X Tryz.prog (Instr.loadAt 43 v35) w51 fun v36 w52 =>
  X Tryz.prog (Instr.buildSlice 43 1 #[(0, (ρ4 1))]) w52 fun v37 w53 =>
  X Tryz.prog (Builtin.append_ #[43, 43] 43 #[v36, v37]) w53 fun v38 w54 =>
  X Tryz.prog (nilS (ρ4 0)) w54 fun v39 w55 =>
  X Tryz.prog (Instr.fieldAt 175 v39 1) w55 fun v40 w56 =>
  XU Tryz.prog (Instr.storeAt 43 v40 v38) w56 fun w57 =>
  K (.tuple #[]) w57) (retS Tryz.prog (Tryz.f66).results K))) (upds ρ1 [(58, (.int .i64 0)), (57, v14), (56, (ρ1 2)), (8, v13), (55, v13), (54, v12), (53, (ρ1 2))]) w23) fun J1 =>
  ∃ R, Frame? R ∧
  XP Tryz.prog (nilS x0) (drewW w19) fun v41 w58 =>
  XP Tryz.prog (Instr.fieldAt 175 v41 1) w58 fun v42 w59 =>
  XR Tryz.prog R (Instr.loadAt 43 v42) w59 fun v43 w60 =>
  XP Tryz.prog (Builtin.len_ #[43] 3 #[v43]) w60 fun v44 w61 =>
  XP Tryz.prog (nilS x0) w61 fun v45 w62 =>
  XP Tryz.prog (Instr.fieldAt 175 v45 0) w62 fun v46 w63 =>
  XR Tryz.prog R (Instr.loadAt 3 v46) w63 fun v47 w64 =>
  XP Tryz.prog (binOpG .eql 3 (.tmp 31) (.tmp 35) v44 v47) w64 fun v48 w65 =>
  condS v48 (
  ∃ R, Frame? R ∧
  XP Tryz.prog (nilS x0) (drewW w65) fun v49 w66 =>
  XP Tryz.prog (Instr.fieldAt 175 v49 1) w66 fun v50 w67 =>
  XR Tryz.prog R (Instr.loadAt 43 v50) w67 fun v51 w68 =>
  XP Tryz.prog (nilS x0) w68 fun v52 w69 =>
  XP Tryz.prog (Instr.fieldAt 175 v52 1) w69 fun v53 w70 =>
  XR Tryz.prog R (Instr.loadAt 43 v53) w70 fun v54 w71 =>
  XP Tryz.prog (Builtin.len_ #[43] 3 #[v54]) w71 fun v55 w72 =>
  XR Tryz.prog R (convert 3 37 v55) w72 fun v56 w73 =>
  XP Tryz.prog (binOp .rem 37 x3 v56) w73 fun v57 w74 =>
  XP Tryz.prog (Instr.indexAt 43 v51 v57) w74 fun v58 w75 =>
  XR Tryz.prog R (Instr.loadAt 3 v58) w75 fun v59 w76 =>
  CALL Tryz.prog 74 #[x0, v59] w76 fun v60 w77 =>
  J1 (upds (env0 #[x0, x1, x2, x3]) [(52, v60), (51, v59), (50, v58), (49, v57), (48, v56), (47, v55), (46, v54), (45, v53), (44, v52), (43, x0), (42, x3), (41, v51), (40, v50), (39, v49), (38, x0), (37, x0), (36, v48), (35, v47), (34, v46), (33, v45), (32, x0), (31, v44), (30, v43), (29, v42), (28, v41), (27, x0), (26, v11), (25, v10), (24, v9), (23, v8), (22, v7), (21, v7), (20, v6), (19, v5), (18, v4), (17, v3), (16, v2), (15, v1), (14, v1), (13, x0)]) w77) (
  J1 (upds (env0 #[x0, x1, x2, x3]) [(36, v48), (35, v47), (34, v46), (33, v45), (32, x0), (31, v44), (30, v43), (29, v42), (28, v41), (27, x0), (26, v11), (25, v10), (24, v9), (23, v8), (22, v7), (21, v7), (20, v6), (19, v5), (18, v4), (17, v3), (16, v2), (15, v1), (14, v1), (13, x0)]) w65))
theorem eq_cache_Cache_LoadT (x0 x1 x2 x3 : Value) (w : World) (K : Value → World → Prop) :
    shT Tryz.prog (Tryz.f66.body.getD .skip) (retS Tryz.prog Tryz.f66.results K) (env0 #[x0, x1, x2, x3]) w = B_cache_Cache_LoadT x0 x1 x2 x3 w K := by kernel_rfl
theorem call_cache_Cache_LoadT (x0 x1 x2 x3 : Value) (w : World) (K : Value → World → Prop) (h : B_cache_Cache_LoadT x0 x1 x2 x3 w K) : CALL Tryz.prog 66 #[x0, x1, x2, x3] w K :=
  callT_of_eq (c := Tryz.f66.body.getD .skip) mixed Tryz.func66 (by kernel_rfl) (by kernel_rfl) (by kernel_rfl) (Nat.le_of_ble_eq_true (by kernel_rfl)) (eq_cache_Cache_LoadT x0 x1 x2 x3 w K) h
end Go.Proofs.YtcigpjejbkngfaaGreatDoor
end
section
namespace Go.Proofs.YtcigpjejbkngfaaGreatDoor
open Go Go.Sh Go.RowKit
attribute [local irreducible] X XU XP XR CALL loopS resC closS
theorem CacheAt.mono {w : World} {D E : Nat → Prop} {cb room : Nat} {T : Tbl} (h : CacheAt w D cb room T) (hd : ∀ g, D g → E g) (hl : ∀ g, E g → g < w.heap.size) : CacheAt w E cb room T := by
  obtain ⟨⟨vo, mb, tb, h1, h2, h3, h4, h5, h6, h7, h8, h9, h10⟩, hlt, hnd, hi, hs, hf⟩ := h
  exact ⟨⟨vo, mb, tb, h1, h2, h3, h4, h5, h6, fun p hp => ⟨(h7 p hp).1, hd _ (h7 p hp).2⟩, hd _ h8, hd _ h9, fun g hg => hd g (h10 g hg)⟩, hl, hnd, hi, hs, hf⟩
theorem row_at {w : World} {v : Value} {l : List Ex} {i : Nat} (hl : RowK 35 Ex.cs w v l) (hi : i < l.length) :
    ∃ g o, (∀ w', (Instr.indexAt 150 v (.int .i64 (i : Int))).run Tryz.prog w' = .ok (.pointer (some ⟨g, o, none⟩)) w') ∧ (∀ j u, l[i].cs[j]? = some u → w.cell? ⟨g, o + j, none⟩ = some u) := by
  obtain ⟨ad, hix, hcs⟩ := hl.at Tryz.underlying150 info_184 sz_184 (kd := .i64) (ii := (i : Int)) i rfl hi
  obtain ⟨g, o, sp⟩ := ad
  have h0 := hcs 0 _ (List.getElem?_eq_getElem (by rw [Ex.cs_len]; omega))
  have : sp = none := by simpa [Addr.add] using World.cell?_spot h0
  subst this
  exact ⟨g, o, hix, fun j u hu => by have := hcs j u hu; rw [add_plain] at this; exact this⟩
theorem X_takeRow {w : World} {v : Value} {l : List Ex} {i : Nat} {K : Value → Value → Value → World → Prop} (hl : RowK 35 Ex.cs w v l) (hi : i < l.length)
    (hK : ∀ v1 v2 q w1, Ext w w1 → w.heap.size ≤ q → w1.heap[q]? = some (.cells l[i].cs.toArray 184 (0, 0)) → K v1 v2 (ptr q) w1) :
    X Tryz.prog (Instr.indexAt 150 v (.int .i64 (i : Int))) w fun v1 w1 => X Tryz.prog (Instr.loadAt 184 v1) w1 fun v2 w2 => X Tryz.prog (Instr.alloc 184 true (.tuple #[])) w2 fun v3 w3 => XU Tryz.prog (Instr.storeAt 184 v3 v2) w3 fun w4 => K v1 v2 v3 w4 := by
  obtain ⟨g, o, hix, hc⟩ := row_at hl hi
  refine X_of (hix _) ?_
  refine X_of (load_cells Tryz.underlying184 agg_184 info_184 (l := l[i].cs) (by rw [sz_184, Ex.cs_len]) (fun j u hj => by rw [add_plain]; exact hc j u hj)) ?_
  refine X_alloc zero_184 ?_
  have hq := newB_get w (List.replicate 32 (Value.int .u8 0) ++ [Value.int .u32 0] ++ [Value.int .i64 0, Value.int .i64 0]).toArray 184
  have hxq := newB_ext w (List.replicate 32 (Value.int .u8 0) ++ [Value.int .u32 0] ++ [Value.int .i64 0, Value.int .i64 0]).toArray 184
  show XU _ _ (newB w (List.replicate 32 (Value.int .u8 0) ++ [Value.int .u32 0] ++ [Value.int .i64 0, Value.int .i64 0]).toArray 184) _
  generalize newB w (List.replicate 32 (Value.int .u8 0) ++ [Value.int .u32 0] ++ [Value.int .i64 0, Value.int .i64 0]).toArray 184 = w2 at hq hxq ⊢
  refine XU_storeAgg info_184 hq (by rw [sz_184]; simp) (by rw [sz_184, Ex.cs_len]) (Ex.one _) ?_
  exact hK _ _ _ _ (Ext.seq hxq (setAt_keep _ _ _ _ _) (fun j hj => by omega)) (Nat.le_refl _) (setAt_same (lt_of_blk hq))
theorem row_key {w : World} {q : Nat} {e : Ex} (h : w.heap[q]? = some (.cells e.cs.toArray 184 (0, 0))) : (Instr.loadAt 33 (ptr q)).run Tryz.prog w = .ok e.k.v w :=
  load_cells Tryz.underlying33 agg_33 info_33 (l := e.k.cs) (by rw [sz_33, Ky.cs_len]) (fun j u hj => by rw [add_plain, Nat.zero_add, cell_blk h]; simpa using e.keyAt hj)
theorem Ex.plAt (e : Ex) {j : Nat} {u : Value} (h : [Value.int .i64 e.off, Value.int .i64 e.len][j]? = some u) : e.cs[33 + j]? = some u := by
  unfold Ex.cs
  rw [List.getElem?_append_right (by rw [Ky.cs_len]; omega), Ky.cs_len, show 33 + j - 33 = j by omega]
  exact h
theorem row_pl {w : World} {q : Nat} {e : Ex} (h : w.heap[q]? = some (.cells e.cs.toArray 184 (0, 0))) : (Instr.loadAt 104 (.pointer (some ⟨q, 0 + 33, none⟩))).run Tryz.prog w = .ok (plV (e.off, e.len)) w :=
  load_cells Tryz.underlying104 agg_104 info_104 (l := [.int .i64 e.off, .int .i64 e.len]) (by rw [sz_104]; rfl) (fun j u hj => by rw [add_plain, Nat.zero_add, cell_blk h]; simpa using e.plAt hj)
theorem cwu {n : Nat} (h : n < 18446744073709551616) : IntKind.u64.wrap (n : Int) = (n : Int) := by rw [wrap_u64]; omega
theorem drop_lt {T : Tbl} {x : Int} (h : x ∈ shs T) : (dropT T x).length < T.length := by
  obtain ⟨p, hp, hps⟩ := List.mem_map.1 h
  refine List.length_filter_lt_length_iff_exists.2 ⟨p, hp, ?_⟩
  simp [hps]
theorem getD_mem {T : Tbl} {i : Nat} (h : i < T.length) : (shs T).getD i 0 ∈ shs T := by
  have hlt : i < (shs T).length := by rw [List.length_map]; exact h
  rw [List.getD_eq_getElem?_getD, List.getElem?_eq_getElem hlt]
  exact List.getElem_mem hlt
def loadT (T : Tbl) (room : Nat) (s : Int) (rows : List Ex) (d : Nat) : Tbl := if room = 0 ∨ s ∈ shs T then T else (if T.length = room then dropT T ((shs T).getD (d % T.length) 0) else T) ++ [(s, rows)]
theorem keyed44_all (es : List (Ky × Pl)) : ∀ p ∈ es.map entV, ∃ x, keyOf Tryz.prog 33 p.1 = some x := fun p hp => by
  obtain ⟨e, _, rfl⟩ := List.mem_map.1 hp
  exact keyOf_ky e.1
section
variable {w : World} {K : Value → World → Prop}
def AfterDrop (w w1 : World) (D : Nat → Prop) (cb room : Nat) (T1 : Tbl) : Prop := Keep D w w1 ∧ CacheAt w1 D cb room T1
set_option maxHeartbeats 2000000 in
theorem Load_spec {D : Nat → Prop} {cb room : Nat} {T : Tbl} {s : Int} {vr : Value} {rows : List Ex} {d : Nat} (h : CacheAt w D cb room T) (hs : I64 s) (hrow : RowK 35 Ex.cs w vr rows) (hrn : rows.length ≤ 1000000) (hd : d < 18446744073709551616)
    (hapart : 0 < rows.length → ∀ g, vr.ownBlock = some g → ¬ D g)
    (hK : ∀ w1, Keep D w w1 → CacheAt w1 (fun g => D g ∨ (w.heap.size ≤ g ∧ g < w1.heap.size)) cb room (loadT T room s rows d) → K (.tuple #[]) w1) : CALL Tryz.prog 66 #[ptr cb, .int .i64 s, vr, .int .u64 (d : Int)] w K := by
  have same : loadT T room s rows d = T → K (.tuple #[]) w := fun he => hK w (Keep.refl _ _) (by rw [he]; exact h.mono (fun g hg => .inl hg) (fun g hg => by rcases hg with hg | hg; exact h.lt g hg; exact hg.2))
  have hcell : ∃ vo mb, w.heap[cb]? = some (.cells #[.int .i64 (room : Int), vo, .map (some mb)] 175 (0, 0)) ∧ OwnK 1 3 intC w 0 vo (shs T) := by
    obtain ⟨⟨vo, mb, tb, h1, h2, _⟩, _⟩ := h
    exact ⟨vo, mb, h1, h2⟩
  obtain ⟨vo, mb, h1, h2⟩ := hcell
  apply call_cache_Cache_LoadT
  unfold B_cache_Cache_LoadT
  (repeat (simp only [SLB, Int.reduceEq, Int.reduceNe, Int.reduceLT, Int.reduceLE, Int.reduceGT, Int.reduceGE, X_field_175_0]))
  refine X_of (run_loadAt (v := .int .i64 (room : Int)) agg_3 ((cell_blk h1).trans rfl)) ?_
  by_cases h0 : room = 0
  · have c : decide ((room : Int) = 0) = true := decide_eq_true (by omega)
    (repeat (simp only [SLB, Int.reduceEq, Int.reduceNe, Int.reduceLT, Int.reduceLE, Int.reduceGT, Int.reduceGE, c]))
    exact same (if_pos (.inl h0))
  have c : decide ((room : Int) = 0) = false := decide_eq_false (by omega)
  (repeat (simp only [SLB, Int.reduceEq, Int.reduceNe, Int.reduceLT, Int.reduceLE, Int.reduceGT, Int.reduceGE, c]))
  refine Has_spec h hs ?_
  by_cases hin : s ∈ shs T
  · have c : decide (s ∈ shs T) = true := decide_eq_true hin
    (repeat (simp only [SLB, Int.reduceEq, Int.reduceNe, Int.reduceLT, Int.reduceLE, Int.reduceGT, Int.reduceGE, c]))
    exact same (if_pos (.inr hin))
  have c : decide (s ∈ shs T) = false := decide_eq_false hin
  (repeat (simp only [SLB, Int.reduceEq, Int.reduceNe, Int.reduceLT, Int.reduceLE, Int.reduceGT, Int.reduceGE, c]))
  have hload : loadT T room s rows d = (if T.length = room then dropT T ((shs T).getD (d % T.length) 0) else T) ++ [(s, rows)] := if_neg (by rintro (h | h); exact h0 h; exact hin h)
  rw [hload] at hK
  have hsm := h.small
  have hfit := h.fits
  obtain ⟨ao, co, eo⟩ := (OwnK.rowK (by decide) intC_len h2).slice
  have hlT : (shs T).length = T.length := List.length_map ..
  refine joinS_of (fun ρ w1 => ∃ T1 : Tbl, (if T.length = room then dropT T ((shs T).getD (d % T.length) 0) else T) = T1 ∧ AfterDrop w w1 D cb room T1 ∧ s ∉ shs T1 ∧ T1.length < room ∧ ρ 0 = ptr cb ∧ ρ 1 = .int .i64 s ∧ ρ 2 = vr) ?_ ?_
  · rintro ρ w1 ⟨T1, hT1, ⟨hk1, hc1⟩, hin1, hlen1, r0, r1, r2⟩
    rw [hT1] at hK
    rw [r2]
    have hrow1 := hrow.keep hk1 hapart
    obtain ⟨ar, cr, er⟩ := hrow.slice
    rw [er, X_len_150]
    refine X_makeMap Tryz.underlying142 _ ?_
    have hx2 := newM_ext w1
    have hm2 := newM_at w1
    generalize newM w1 = w2 at hx2 hm2 ⊢
    rw [X_len_150, ← er]
    obtain ⟨⟨vo1, mb1, tb1, b1, b2, b3, b4, b5, b6, b7, b8, b9, b10⟩, blt, bnd, bi, bsm, bfit⟩ := hc1
    refine loopE (fun ρ wr => ∃ i : Nat, i ≤ rows.length ∧ Ext w1 wr ∧ MapAt wr w1.heap.size ((tabR (rows.take i)).map entV) ∧ ρ 58 = .int .i64 (i : Int) ∧ ρ 57 = .int .i64 (rows.length : Int) ∧ ρ 56 = vr ∧ ρ 8 = .map (some w1.heap.size) ∧ ρ 0 = ptr cb ∧ ρ 1 = .int .i64 s)
      (fun ρ wr => match ρ 58 with | .int _ s => (rows.length - s).toNat | _ => 0)
      (fun ρ wr => Ext w1 wr ∧ MapAt wr w1.heap.size ((tabR rows).map entV) ∧ ρ 8 = .map (some w1.heap.size) ∧ ρ 0 = ptr cb ∧ ρ 1 = .int .i64 s) ?_ ?_ ?_
    · exact ⟨0, by omega, hx2, hm2, rfl, rfl, rfl, rfl, r0, r1⟩
    · rintro J hJ ρ2 wr ⟨i, hi, hx, hm, q58, q57, q56, q8, q0, q1⟩
      rw [q58, q57, q56, q8, X_lss, condS_bool]
      by_cases hie : i = rows.length
      · rw [if_neg (by simp; omega)]
        rw [hie, List.take_of_length_le (Nat.le_refl _)] at hm
        exact hJ _ _ ⟨hx, hm, q8, q0, q1⟩
      rw [if_pos (by simp; omega)]
      have hlt : i < rows.length := by omega
      have hts := tabR_succ rows i hlt
      refine joinS_of (fun ρ3 w3 => Ext w1 w3 ∧ MapAt w3 w1.heap.size ((tabR (rows.take (i + 1))).map entV) ∧ ρ3 58 = .int .i64 (i : Int) ∧ ρ3 57 = .int .i64 (rows.length : Int) ∧ ρ3 56 = vr ∧ ρ3 8 = .map (some w1.heap.size) ∧ ρ3 0 = ptr cb ∧ ρ3 1 = .int .i64 s) ?_ ?_
      · rintro ρ3 w3 ⟨g1, g2, p58, p57, p56, p8, p0, p1⟩
        rw [p58, X_add]
        show _ ∧ _
        refine ⟨⟨i + 1, by omega, g1, g2, next64 (n := 1000000) (by decide) (by omega), p57, p56, p8, p0, p1⟩, ?_⟩
        show (_ - IntKind.i64.wrap _).toNat < _
        rw [w64 (by omega) (by omega)]
        first | omega | (show _ < (_ : Int).toNat; omega)
      · intro J3 hJ3
        rw [hts] at hJ3
        refine X_takeRow (hrow1.ext hx) hlt ?_
        intro u1 u2 q w4 hx4 hq hqb
        generalize rows[i] = e at hJ3 hqb
        generalize tabR (rows.take i) = es at hm hJ3
        have hm4 := hm.ext hx4
        have hx14 := hx.trans hx4
        rw [X_field_184_0]
        refine X_of (row_key hqb) ?_
        obtain ⟨kl, hkl⟩ := keyOf_ky e.k
        have hall := keyed44_all es
        rcases run_lookupM (P := Tryz.prog) keyed33 Tryz.underlying142 zero_104 hm4 hall hkl true with ⟨hno, hrun⟩ | ⟨p, hp, hpk, hrun⟩
        · refine X_of hrun ?_
          have hnk : e.k ∉ es.map Prod.fst := fun h => by
            obtain ⟨x, hx, hxk⟩ := List.mem_map.1 h
            exact hno (entV x) (List.mem_map.2 ⟨x, hx, rfl⟩) (by show x.1.v = _; rw [hxk])
          have ha : addR es e = es ++ [(e.k, (e.off, e.len))] := if_neg hnk
          rw [ha] at hJ3
          rw [if_pos rfl, X_extract0, X_extract1]
          refine X_alloc zero_104 ?_
          have hxa := newB_ext w4 (Value.agg #[(.int .i64 0), (.int .i64 0)]).cells 104
          have hga : (newB w4 (Value.agg #[(.int .i64 0), (.int .i64 0)]).cells 104).heap[w4.heap.size]? = some (.cells [Value.int .i64 0, Value.int .i64 0].toArray 104 (0, 0)) := newB_get _ _ _
          generalize newB w4 (Value.agg #[(.int .i64 0), (.int .i64 0)]).cells 104 = w5 at hxa hga ⊢
          refine XU_storeAgg (l := [.int .i64 0, .int .i64 0]) info_104 hga (by rw [sz_104]; rfl) (by rw [sz_104]; rfl) (by intro u hu; simp at hu; rcases hu with rfl | rfl <;> rfl) ?_
          have hx46 : Ext w4 (setAt w5 w4.heap.size [Value.int .i64 0, Value.int .i64 0].toArray 104 (0, 0)) := Ext.seq hxa (setAt_keep _ _ _ _ _) (fun g hg => by omega)
          generalize setAt w5 w4.heap.size [Value.int .i64 0, Value.int .i64 0].toArray 104 (0, 0) = w6 at hx46 ⊢
          have hqb6 := hx46.get hqb
          rw [X_not, condS_bool, if_pos (by decide), X_field_184_0]
          refine X_of (row_key hqb6) ?_
          rw [X_field_184_1]
          refine X_of (row_pl hqb6) ?_
          refine XU_updateNew keyed33 Tryz.underlying142 (hm4.ext hx46) hall hkl hno ?_
          intro w7 hm7 hk7
          refine hJ3 _ _ ⟨Ext.seq (hx14.trans hx46) hk7 (fun g hg => by omega), ?_, q58, q57, q56, q8, q0, q1⟩
          rw [List.map_append]
          exact hm7
        · refine X_of hrun ?_
          obtain ⟨x, hx, rfl⟩ := List.mem_map.1 hp
          have hke : x.1 = e.k := Ky.v_inj hpk
          have ha : addR es e = es := if_pos (List.mem_map.2 ⟨x, hx, hke⟩)
          rw [ha] at hJ3
          rw [if_pos rfl, X_extract0, X_extract1]
          refine X_alloc zero_104 ?_
          have hxa := newB_ext w4 (Value.agg #[(.int .i64 0), (.int .i64 0)]).cells 104
          have hga : (newB w4 (Value.agg #[(.int .i64 0), (.int .i64 0)]).cells 104).heap[w4.heap.size]? = some (.cells [Value.int .i64 0, Value.int .i64 0].toArray 104 (0, 0)) := newB_get _ _ _
          generalize newB w4 (Value.agg #[(.int .i64 0), (.int .i64 0)]).cells 104 = w5 at hxa hga ⊢
          refine XU_storeAgg (l := [.int .i64 x.2.1, .int .i64 x.2.2]) info_104 hga (by rw [sz_104]; rfl) (by rw [sz_104]; rfl) (by intro u hu; simp at hu; rcases hu with rfl | rfl <;> rfl) ?_
          have hx46 : Ext w4 (setAt w5 w4.heap.size [Value.int .i64 x.2.1, Value.int .i64 x.2.2].toArray 104 (0, 0)) := Ext.seq hxa (setAt_keep _ _ _ _ _) (fun g hg => by omega)
          generalize setAt w5 w4.heap.size [Value.int .i64 x.2.1, Value.int .i64 x.2.2].toArray 104 (0, 0) = w6 at hx46 ⊢
          rw [X_not, condS_bool, if_neg (by decide)]
          exact hJ3 _ _ ⟨hx14.trans hx46, hm4.ext hx46, q58, q57, q56, q8, q0, q1⟩
    · rintro ρ2 wr ⟨hx, hmT, q8, q0, q1⟩
      rw [q0, q1, q8]
      have b1r := hx.get b1
      have b2r := b2.ext hx
      have b3r := b3.ext hx
      have hcm : cb ≠ mb1 := fun he => by
        obtain ⟨es, cl, hm, _⟩ := b3
        rw [he, hm] at b1
        cases b1
      (repeat (simp only [SLB, Int.reduceEq, Int.reduceNe, Int.reduceLT, Int.reduceLE, Int.reduceGT, Int.reduceGE, X_field_175_2]))
      refine X_of (run_loadAt (v := .map (some mb1)) agg_173 ((cell_blk b1r).trans rfl)) ?_
      have hkb := tb_keys tb1 (fun x hx => bi x ((b5 x).1 hx))
      have hnew : ∀ p ∈ tb1.map tbV, p.1 ≠ Value.int .i64 s := fun p hp he => by
        obtain ⟨q, hq, rfl⟩ := List.mem_map.1 hp
        injection he with _ he
        exact hin1 ((b5 s).1 (List.mem_map.2 ⟨q, hq, he⟩))
      refine XU_updateNew keyed3 Tryz.underlying173 b3r hkb (keyOf_i64 hs) hnew ?_
      intro w3 hm3 hk3
      have b13 := hk3.get hcm b1r
      have hvm : ∀ g, vo1.ownBlock = some g → g ≠ mb1 := fun g hg he => own_neM' b2r b3r (by rw [hg, he])
      have b23 := b2r.keep hk3 (fun g hg hgm => hvm g hg hgm)
      (repeat (simp only [SLB, Int.reduceEq, Int.reduceNe, Int.reduceLT, Int.reduceLE, Int.reduceGT, Int.reduceGE, X_field_175_1]))
      refine X_of (run_loadAt (v := vo1) agg_43 ((cell_blk b13).trans rfl)) ?_
      refine X_buildSlice1 Tryz.underlying43 el_3 rfl ?_
      have hx4 := newB_ext w3 #[Value.int .i64 s] 3
      have hrow4 : RowK 1 intC (newB w3 #[Value.int .i64 s] 3) (.slice (some ⟨w3.heap.size, 0, none⟩) 1 1) [s] := RowK.ofK (f := intC) (by decide) intC_len (by rw [newB_get]; rfl) rfl (by decide)
      generalize newB w3 #[Value.int .i64 s] 3 = w4 at hx4 hrow4 ⊢
      have hl1 : (shs T1).length ≤ 4096 := by rw [List.length_map]; omega
      refine X_appendW (base := 0) Tryz.underlying43 el_3 (by decide) (b23.ext hx4) (news := [.int .i64 s]) (m := 1) rfl (fun j u hu => ?_) (by intro u hu; rw [List.mem_singleton.1 hu]; rfl) (by omega) (by decide) (Nat.zero_le _) ?_
      · obtain ⟨a4, c4, e4, _, _, h4⟩ := hrow4
        injection e4 with e41 _ _
        obtain ⟨ad, had, hc4⟩ := h4 (Nat.zero_lt_one)
        rw [had] at e41
        injection e41 with e41
        rw [e41]
        cases j with
        | zero =>
          have := hc4 0 s rfl 0 _ rfl
          simp at hu
          subst hu
          simpa [Addr.add] using this
        | succ j => simp at hu
      intro v5 w5 ho5' hk5 hnb5
      have ho5 : OwnK 1 3 intC w5 0 v5 (shs T1 ++ [s]) := by
        unfold OwnK
        rw [List.length_append, cellsK_append]
        exact ho5'
      have hcv : ¬ some cb = vo1.ownBlock := fun he => own_neT b2 b1 (by decide) he.symm
      have b15 := hk5.get hcv (hx4.get b13)
      obtain ⟨a5, c5, e5⟩ := (OwnK.rowK (by decide) intC_len ho5).slice
      (repeat (simp only [SLB, Int.reduceEq, Int.reduceNe, Int.reduceLT, Int.reduceLE, Int.reduceGT, Int.reduceGE, X_field_175_1]))
      refine XU_store info_43 sz_43 (by rw [e5]; rfl) b15 (by show (0 + 1) < 3; decide) (by show ¬ (0 ≤ _ ∧ _ < 0); omega) ?_
      have hk6 := setAt_keep w5 cb (#[.int .i64 (room : Int), vo1, .map (some mb1)].setIfInBounds (0 + 1) v5) 175 (0, 0)
      have hg6 : (setAt w5 cb (#[.int .i64 (room : Int), vo1, .map (some mb1)].setIfInBounds (0 + 1) v5) 175 (0, 0)).heap[cb]? = some (.cells #[.int .i64 (room : Int), v5, .map (some mb1)] 175 (0, 0)) := setAt_same (lt_of_blk b15)
      generalize setAt w5 cb (#[.int .i64 (room : Int), vo1, .map (some mb1)].setIfInBounds (0 + 1) v5) 175 (0, 0) = w6 at hk6 hg6 ⊢
      have ht1 := hmT.lt
      have hmbt : mb1 < w1.heap.size := b3.lt
      have hcbt : cb < w1.heap.size := lt_of_blk b1
      have hsz := hk1.size
      have kD : Keep D w w6 := ((((hk1.trans (Keep.ext hx)).trans (hk3.mono (fun _ _ h => by rw [h]; exact b9))).trans (Keep.ext hx4)).trans (hk5.mono (fun g _ h => b10 g h.symm))).trans (hk6.mono (fun _ _ h => by rw [h]; exact b8))
      have hs6 : wr.heap.size ≤ w6.heap.size := Nat.le_trans hk3.size (Nat.le_trans hx4.size (Nat.le_trans hk5.size hk6.size))
      have mk : ∀ {b : Nat} {ms : List (Value × Value)}, MapAt wr b ms → b ≠ mb1 → MapAt w6 b ms := by
        intro b ms hmb hne
        have q3 := hmb.keep hk3 hne
        have q4 := q3.ext hx4
        have q5 := q4.keep hk5 (fun he => own_neM' (b23.ext hx4) q4 he.symm)
        refine q5.keep hk6 (fun he => ?_)
        obtain ⟨es, cl, hmm, _⟩ := q5
        rw [he, b15] at hmm
        cases hmm
      have m6 := ((hm3.ext hx4).keep hk5 (fun he => hvm mb1 he.symm rfl)).keep hk6 (fun he => hcm he.symm)
      refine hK w6 kD ⟨⟨v5, mb1, tb1 ++ [(s, w1.heap.size)], hg6, ?_, ?_, ?_, ?_, ?_, ?_, .inl b8, .inl b9, ?_⟩, ?_, ?_, ?_, bsm, ?_⟩
      · have e : shs (T1 ++ [(s, rows)]) = shs T1 ++ [s] := by simp
        rw [e]
        refine ho5.keep hk6 (fun g hg hgc => ?_)
        rcases hnb5 g hg with h | h
        · exact hcv (by rw [h, hgc])
        · have := hx4.size
          have := hk3.size
          have := hx.size
          omega
      · rw [List.map_append]
        exact m6
      · rw [List.map_append, List.nodup_append]
        refine ⟨b4, by simp, fun x hx y hy => ?_⟩
        rw [List.map_singleton, List.mem_singleton] at hy
        rw [hy]
        exact fun he => hin1 ((b5 s).1 (by have he' : x = s := he; rw [← he']; exact hx))
      · intro x
        simp only [List.map_append, List.mem_append, b5 x]
        rfl
      · intro p hp rows' hr'
        rcases List.mem_append.1 hp with hp | hp <;> rcases List.mem_append.1 hr' with hr2 | hr2
        · exact mk ((b6 p hp rows' hr2).ext hx) (b7 p hp).1
        · rw [List.mem_singleton] at hr2
          injection hr2 with h1' h2'
          exact (hin1 ((b5 s).1 (List.mem_map.2 ⟨p, hp, h1'⟩))).elim
        · rw [List.mem_singleton] at hp
          subst hp
          exact (hin1 (List.mem_map.2 ⟨_, hr2, rfl⟩)).elim
        · rw [List.mem_singleton] at hp hr2
          subst hp
          injection hr2 with _ h2'
          subst h2'
          exact mk hmT (by show w1.heap.size ≠ mb1; omega)
      · intro p hp
        rcases List.mem_append.1 hp with hp | hp
        · exact ⟨(b7 p hp).1, .inl (b7 p hp).2⟩
        · rw [List.mem_singleton] at hp
          subst hp
          exact ⟨by show w1.heap.size ≠ mb1; omega, .inr ⟨hsz, by show w1.heap.size < _; omega⟩⟩
      · intro g hg
        rcases hnb5 g hg with h | h
        · exact .inl (b10 g h)
        · refine .inr ⟨?_, ?_⟩
          · have := hx4.size
            have := hk3.size
            have := hx.size
            omega
          · have := (ho5.lt g hg).2
            have := hk6.size
            omega
      · rintro g (hg | hg)
        · have := h.lt g hg
          have := kD.size
          omega
        · exact hg.2
      · have e : shs (T1 ++ [(s, rows)]) = shs T1 ++ [s] := by simp
        rw [e, List.nodup_append]
        refine ⟨bnd, by simp, fun x hx y hy => ?_⟩
        rw [List.mem_singleton] at hy
        rw [hy]
        exact fun he => hin1 (by rw [← he]; exact hx)
      · intro x hx
        have e : shs (T1 ++ [(s, rows)]) = shs T1 ++ [s] := by simp
        rw [e] at hx
        rcases List.mem_append.1 hx with hx | hx
        · exact bi x hx
        · rw [List.mem_singleton.1 hx]; exact hs
      · rw [List.length_append, List.length_singleton]
        omega
  · intro J hJ
    have hxd := Keep.drew (fun _ => False) w
    have h1d : (drewW w).heap[cb]? = some (.cells #[.int .i64 (room : Int), vo, .map (some mb)] 175 (0, 0)) := h1
    have h2d := h2.ext hxd
    have hcd := h.ext hxd
    refine ⟨Ext, Ext.frame, ?_⟩
    generalize drewW w = wd at hxd h1d h2d hcd ⊢
    (repeat (simp only [SLB, Int.reduceEq, Int.reduceNe, Int.reduceLT, Int.reduceLE, Int.reduceGT, Int.reduceGE, XP_field_175_1]))
    refine XR_ok Ext.frame (fun w' kk => run_loadAt (v := vo) agg_43 ((cell_blk (kk.get h1d)).trans rfl)) ?_
    rw [eo]
    (repeat (simp only [SLB, Int.reduceEq, Int.reduceNe, Int.reduceLT, Int.reduceLE, Int.reduceGT, Int.reduceGE, XP_len_43, XP_field_175_0]))
    refine XR_ok Ext.frame (fun w' kk => run_loadAt (v := .int .i64 (room : Int)) agg_3 ((cell_blk (kk.get h1d)).trans rfl)) ?_
    rw [hlT]
    by_cases hfull : T.length = room
    case neg =>
      have c2 : decide ((T.length : Int) = (room : Int)) = false := decide_eq_false (by omega)
      (repeat (simp only [SLB, Int.reduceEq, Int.reduceNe, Int.reduceLT, Int.reduceLE, Int.reduceGT, Int.reduceGE, c2]))
      exact hJ _ _ ⟨T, if_neg hfull, ⟨Keep.ext hxd, hcd⟩, hin, by omega, rfl, rfl, rfl⟩
    have c2 : decide ((T.length : Int) = (room : Int)) = true := decide_eq_true (by omega)
    (repeat (simp only [SLB, Int.reduceEq, Int.reduceNe, Int.reduceLT, Int.reduceLE, Int.reduceGT, Int.reduceGE, c2]))
    have kd2 := Keep.drew (fun _ => False) wd
    have h1e : (drewW wd).heap[cb]? = some (.cells #[.int .i64 (room : Int), vo, .map (some mb)] 175 (0, 0)) := h1d
    have h2e := h2d.ext kd2
    have hce := hcd.ext kd2
    have hxe := hxd.trans kd2
    refine ⟨Ext, Ext.frame, ?_⟩
    generalize drewW wd = we at hxe h1e h2e hce ⊢
    (repeat (simp only [SLB, Int.reduceEq, Int.reduceNe, Int.reduceLT, Int.reduceLE, Int.reduceGT, Int.reduceGE, XP_field_175_1]))
    refine XR_ok Ext.frame (fun w' kk => run_loadAt (v := vo) agg_43 ((cell_blk (kk.get h1e)).trans rfl)) ?_
    (repeat (simp only [SLB, Int.reduceEq, Int.reduceNe, Int.reduceLT, Int.reduceLE, Int.reduceGT, Int.reduceGE, XP_field_175_1]))
    refine XR_ok Ext.frame (fun w' kk => run_loadAt (v := vo) agg_43 ((cell_blk (kk.get h1e)).trans rfl)) ?_
    rw [eo, XP_len_43, ← eo, hlT, XR_conv_3_37, cwu (by omega)]
    have hpos : 0 < T.length := by omega
    have hmod : d % T.length < T.length := Nat.mod_lt _ hpos
    refine XP_of (fun w' => run_rem _ _ _ _ (by omega) w') ?_
    have er : (d : Int).tmod (T.length : Int) = ((d % T.length : Nat) : Int) := by rw [Int.tmod_eq_emod_of_nonneg (by omega)]; omega
    rw [er]
    have hlt : d % T.length < (shs T).length := by rw [hlT]; exact hmod
    obtain ⟨g, hix, hc, _⟩ := int_atK .u64 (OwnK.rowK (by decide) intC_len h2e) hlt
    refine XP_of hix ?_
    refine XR_ok Ext.frame (fun w' kk => run_loadAt agg_3 (kk.cell (fun h => h) hc)) ?_
    have hgd : (shs T)[d % T.length] = (shs T).getD (d % T.length) 0 := by rw [List.getD_eq_getElem?_getD, List.getElem?_eq_getElem hlt]; rfl
    have hmem := getD_mem hmod
    rw [hgd]
    refine Drop_spec hce (h.i64 _ hmem) ?_
    intro w77 hk77 hc77
    refine hJ _ _ ⟨dropT T ((shs T).getD (d % T.length) 0), if_pos hfull, ⟨Keep.trans (Keep.ext hxe) hk77, hc77⟩, fun hm => hin (mem_drop.1 hm).1, ?_, rfl, rfl, rfl⟩
    have := drop_lt hmem
    omega
end
end Go.Proofs.YtcigpjejbkngfaaGreatDoor
end
section
set_option maxRecDepth 8000
namespace Go.Proofs.YtcigpjejbkngfaaGreatDoor
open Go Go.Sh Go.RowKit
attribute [local irreducible] X XU XP XR CALL loopS resC closS
theorem take_mid {α : Type} (L : List α) (x : List α) (a N : Nat) (h1 : a + x.length ≤ N) (h2 : N ≤ L.length) : (L.take a ++ x ++ L.drop (a + x.length)).take N = (L.take N).take a ++ x ++ (L.take N).drop (a + x.length) := by
  have e1 : L.take a = (L.take N).take a := by rw [List.take_take, Nat.min_eq_left (by omega)]
  have e2 : L.drop (a + x.length) = (L.take N).drop (a + x.length) ++ L.drop N := by
    conv => lhs; rw [← List.take_append_drop N L]
    rw [List.drop_append_of_le_length (by rw [List.length_take]; omega)]
  rw [e2, ← List.append_assoc]
  rw [List.take_left']
  · rw [e1]
  · simp only [List.length_append, List.length_take, List.length_drop]
    omega
theorem cells_set (l : List Ex) (i : Nat) (h : i < l.length) (e : Ex) : cellsK Ex.cs (l.set i e) = (cellsK Ex.cs l).take (i * 35) ++ e.cs ++ (cellsK Ex.cs l).drop (i * 35 + e.cs.length) := by
  have hl : l = l.take i ++ l[i] :: l.drop (i + 1) := by rw [← List.drop_eq_getElem_cons h, List.take_append_drop]
  have hs : l.set i e = l.take i ++ e :: l.drop (i + 1) := by rw [List.set_eq_take_append_cons_drop, if_pos h]
  have hlt : (cellsK Ex.cs (l.take i)).length = i * 35 := by rw [cellsK_len Ex.cs_len, List.length_take, Nat.min_eq_left (by omega)]
  have hc1 : cellsK Ex.cs l = cellsK Ex.cs (l.take i) ++ (l[i].cs ++ cellsK Ex.cs (l.drop (i + 1))) := by
    conv => lhs; rw [hl]
    rw [cellsK_append]
    congr 1
  rw [hs, cellsK_append, hc1, List.take_left' hlt]
  have hd : (cellsK Ex.cs (l.take i) ++ (l[i].cs ++ cellsK Ex.cs (l.drop (i + 1)))).drop (i * 35 + e.cs.length) = cellsK Ex.cs (l.drop (i + 1)) := by
    rw [← List.append_assoc]
    refine List.drop_left' ?_
    rw [List.length_append, hlt, Ex.cs_len, Ex.cs_len]
  rw [hd, List.append_assoc]
  congr 1
theorem own_put {w : World} {base : Nat} {v : Value} {l : List Ex} {i : Nat} (ho : OwnK 35 184 Ex.cs w base v l) (hi : i < l.length) (e : Ex) : ∃ g, v.ownBlock = some g ∧ (∀ w', (Instr.indexAt 150 v (.int .i64 (i : Int))).run Tryz.prog w' = .ok (.pointer (some ⟨g, i * 35, none⟩)) w') ∧
    ∀ Q : World → Prop, (∀ w1, OwnK 35 184 Ex.cs w1 base v (l.set i e) → Keep (fun g => v.ownBlock = some g) w w1 → Q w1) → XU Tryz.prog (Instr.storeAt 184 (.pointer (some ⟨g, i * 35, none⟩)) (.agg e.cs.toArray)) w Q := by
  rcases ho.2 with ⟨_, h0⟩ | ⟨g, cap, cur, hv, hg, hh, hnc, hm, hs, ht⟩
  · omega
  subst hv
  refine ⟨g, rfl, fun w' => by rw [ix Tryz.underlying150 info_184 i rfl hi w', sz_184, add_plain, Nat.zero_add], fun Q hQ => ?_⟩
  have hcur : l.length * 35 ≤ cur.size := by rw [hs]; exact Nat.mul_le_mul_right 35 hnc
  have hii : i * 35 + 35 ≤ l.length * 35 := by have := Nat.mul_le_mul_right 35 (show i + 1 ≤ l.length by omega); omega
  refine XU_storeAggAt info_184 hh (by rw [Ex.cs_len]; omega) (by rw [sz_184, Ex.cs_len]) (Ex.one e) ?_
  refine hQ _ ?_ ((setAt_keep _ _ _ _ _).mono (fun q _ hq => by rw [hq]; rfl))
  have hll : (l.set i e).length = l.length := List.length_set ..
  unfold OwnK
  rw [hll]
  refine ⟨by rw [cellsK_len Ex.cs_len, hll], .inr ⟨g, cap, _, rfl, hg, setAt_same (lt_of_blk hh), hnc, hm, ?_, ?_⟩⟩
  · rw [← hs]
    simp only [List.size_toArray, List.length_append, List.length_take, List.length_drop, Array.length_toList, Ex.cs_len]
    omega
  · have := take_mid cur.toList e.cs (i * 35) (l.length * 35) (by rw [Ex.cs_len]; omega) (by simpa using hcur)
    show (cur.toList.take (i * 35) ++ e.cs ++ cur.toList.drop (i * 35 + e.cs.length)).take (l.length * 35) = _
    rw [this, ht, cells_set l i hi e]
section
variable {w : World} {K : Value → World → Prop}
theorem Or_spec {v : Value} {l : List Int} (hl : RowK 1 intC w v l) (hK : ∀ c, K (.int .i64 c) w) : CALL Tryz.prog 112 #[v] w K := by
  obtain ⟨a, c, ev⟩ := hl.slice
  have hn : l.length ≤ 9223372036854775807 := by
    obtain ⟨_, c, _, g1, g2, _⟩ := hl
    omega
  apply call_cmp_Or_int_
  unfold B_cmp_Or_int_
  rw [ev, X_len_43, ← ev]
  refine loopGR 0 (fun ρ wr => ∃ i : Nat, i ≤ l.length ∧ wr = w ∧ ρ 8 = .int .i64 (i : Int) ∧ ρ 7 = .int .i64 (l.length : Int) ∧ ρ 6 = v ∧ ρ 3 = .int .i64 0)
    (fun ρ wr => match ρ 8 with | .int _ s => (l.length - s).toNat | _ => 0)
    (fun ρ wr => wr = w ∧ ρ 3 = .int .i64 0) (fun ρ wr => wr = w ∧ ∃ c, ρ 2 = .int .i64 c) ?_ ?_ ?_ ?_
  · exact ⟨0, by omega, rfl, rfl, rfl, rfl, rfl⟩
  · rintro J hJ hJR ρ wr ⟨i, hi, rfl, r8, r7, r6, r3⟩
    rw [r8, r7, r6, r3, X_lss, condS_bool]
    by_cases hie : i = l.length
    · rw [if_neg (by simp; omega)]
      exact hJ _ _ ⟨rfl, r3⟩
    rw [if_pos (by simp; omega)]
    obtain ⟨g, hix, hc, _⟩ := int_at hl (i := i) (by omega)
    refine X_of (hix _) ?_
    refine X_of (run_loadAt agg_3 hc) ?_
    refine X_of (run_neq 3 .i64 _ _ _ _ _) ?_
    rw [condS_bool]
    split
    · exact hJR _ _ ⟨rfl, _, rfl⟩
    · rw [X_add]
      show _ ∧ _
      refine ⟨⟨i + 1, by omega, rfl, next64 (n := 9223372036854775806) (by decide) (by omega), r7, r6, r3⟩, ?_⟩
      show (_ - IntKind.i64.wrap _).toNat < _
      rw [w64 (by omega) (by omega)]
      first | omega | (show _ < (_ : Int).toNat; omega)
  · rintro ρ wr ⟨rfl, r3⟩
    show K (ρ 3) _
    rw [r3]
    exact hK _
  · rintro ρ wr ⟨rfl, c, r2⟩
    show K (ρ 2) _
    rw [r2]
    exact hK _
end
end Go.Proofs.YtcigpjejbkngfaaGreatDoor
end
section
set_option maxRecDepth 8000
namespace Go.Sh
open Go
theorem X_buildSlice2 {P : Program} {w : World} {K : Value → World → Prop} {T e k bytes : Nat} {z : Value} (hT : P.underlying T = some (.slice e)) (hE : El P e k z bytes) (hk : 0 < k) (hk2 : 2 * k ≤ 16777216) {v0 v1 : Value} {c0 c1 : List Value} (e0 : v0.cells = c0.toArray) (e1 : v1.cells = c1.toArray) (l0 : c0.length = k) (l1 : c1.length = k)
    (h : K (.slice (some ⟨w.heap.size, 0, none⟩) 2 2) (newB w (c0 ++ c1).toArray e)) : X P (Instr.buildSlice T 2 #[(0, v0), (1, v1)]) w K := by
  obtain ⟨⟨i, hi, hs, hz, _⟩, hzc⟩ := hE
  refine X_of (v := .slice (some ⟨w.heap.size, 0, none⟩) 2 2) (w1 := newB w (c0 ++ c1).toArray e) ?_ h
  have h1 : ¬ (2 * k > 2 ^ 24) := by omega
  have h2 : ¬ (2 * k = 0) := by omega
  have hf : ∀ cells : Array Value, cells.size = 2 * k → Instr.fill (fun i => some (i * k, k)) cells [(0, v0), (1, v1)] = some (c0 ++ c1).toArray := by
    intro cells hcs
    have := Great.fill_whole hk [v0, v1] cells (by intro v hv; simp only [List.mem_cons, List.not_mem_nil, or_false] at hv; rcases hv with rfl | rfl <;> simp [e0, e1, l0, l1]) (by simp [hcs])
    simpa [e0, e1] using this
  have hf' := hf ((Array.range (2 * k)).map fun x => (z.cells)[x % z.cells.size]!) (by simp)
  have q1 : infoB P e = true := by unfold infoB; rw [hi]; rfl
  have q2 : szT P e = k := by unfold szT; rw [hi]; exact hs
  have q3 : zeroT P e = some z := by unfold zeroT; rw [hi]; exact hz
  simp only [Instr.buildSlice, Sem.run_bind, run_underlying hT, Result.andThen_ok, sizeOf_run q1, q2, if_neg h1, if_neg h2, zeroValue_run q3, Sem.run_pure, hf', newRow, run_newObj]
  rfl
end Go.Sh
namespace Go.Proofs.YtcigpjejbkngfaaGreatDoor
open Go Go.Sh Go.RowKit
attribute [local irreducible] X XU XP XR CALL loopS resC closS
section
variable {w : World} {K : Value → World → Prop}
theorem two_ints {a b : Int} {K : Value → World → Prop} (hK : ∀ v w1, Ext w w1 → RowK 1 intC w1 v [a, b] → K v w1) : X Tryz.prog (Instr.buildSlice 43 2 #[(0, .int .i64 a), (1, .int .i64 b)]) w K := by
  refine X_buildSlice2 (c0 := [.int .i64 a]) (c1 := [.int .i64 b]) Tryz.underlying43 el_3 (by decide) (by decide) rfl rfl rfl rfl ?_
  refine hK _ _ (newB_ext _ _ _) ?_
  refine RowK.ofK (T := 3) (fr := (0, 0)) (by decide) intC_len ?_ rfl (by decide)
  rw [newB_get]
  rfl
theorem Order_spec {a b : Ky} (hK : ∀ c w1, Ext w w1 → K (.int .i64 c) w1) : CALL Tryz.prog 114 #[a.v, b.v] w K := by
  apply call_index_order
  unfold B_index_order
  refine X_box ?_
  have hx1 := newB_ext w a.v.cells 33
  have hg1 : (newB w a.v.cells 33).heap[w.heap.size]? = some (.cells a.cs.toArray 33 (0, 0)) := newB_get w a.v.cells 33
  generalize newB w a.v.cells 33 = w1 at hx1 hg1 ⊢
  generalize w.heap.size = ba at hg1 ⊢
  refine X_box ?_
  have hx2 := newB_ext w1 b.v.cells 33
  have hg2 : (newB w1 b.v.cells 33).heap[w1.heap.size]? = some (.cells b.cs.toArray 33 (0, 0)) := newB_get w1 b.v.cells 33
  generalize newB w1 b.v.cells 33 = w2 at hx2 hg2 ⊢
  generalize w1.heap.size = bb at hg2 ⊢
  have kd := Keep.drew (fun _ => False) w2
  have hx02 := (hx1.trans hx2).trans kd
  have hga := Ext.get (hx2.trans kd) hg1
  have hgb := Ext.get kd hg2
  refine ⟨Ext, Ext.frame, ?_⟩
  generalize drewW w2 = wd at hx02 hga hgb ⊢
  have bts : ∀ (k : Ky) (g : Nat), wd.heap[g]? = some (.cells k.cs.toArray 33 (0, 0)) → ∀ w', Ext wd w' → Bts w' (.slice (some ⟨g, 0, none⟩) 32 32) k.sum := fun k g hg w' kk => by
    have : Bts w' (.slice (some ⟨g, 0, none⟩) k.sum.length 32) k.sum := ⟨_, 32, rfl, by rw [k.len]; exact Nat.le_refl _, by decide, fun _ => ⟨_, rfl, fun j u hj => by
      rw [add_plain, Nat.zero_add, cell_blk (Ext.get kk hg), List.getElem?_toArray]
      unfold Ky.cs
      have hlt := (List.getElem?_eq_some_iff.1 hj).1
      rw [List.getElem?_append_left (by simpa using hlt)]
      unfold B8
      rw [List.getElem?_map, hj]
      rfl⟩⟩
    rw [k.len] at this
    exact this
  have hnum : ∀ k : Ky, k.cs.toArray[32]? = some (.int .u32 (k.num : Int)) := fun k => by
    rw [List.getElem?_toArray]
    unfold Ky.cs
    rw [List.getElem?_append_right (by simp [k.len])]
    simp [k.len]
  rw [XP_field_33_0]
  refine XP_of (fun w' => run_slice_arr_all Tryz.underlying30 info_5 _ w') ?_
  rw [XP_field_33_0]
  refine XP_of (fun w' => run_slice_arr_all Tryz.underlying30 info_5 _ w') ?_
  rw [XP_field_33_1]
  refine XR_ok Ext.frame (fun w' kk => run_loadAt (v := .int .u32 (a.num : Int)) agg_31 ((cell_blk (Ext.get kk hga)).trans (hnum a))) ?_
  rw [XP_field_33_1]
  refine XR_ok Ext.frame (fun w' kk => run_loadAt (v := .int .u32 (b.num : Int)) agg_31 ((cell_blk (Ext.get kk hgb)).trans (hnum b))) ?_
  refine Bcmp_spec (bts a ba hga wd (Keep.refl _ _)) (bts b bb hgb wd (Keep.refl _ _)) ?_
  intro c1
  refine ⟨Keep.refl _ _, ?_⟩
  refine Cmp31_spec ?_
  intro c2
  refine two_ints ?_
  intro v w3 hx3 hr3
  refine ⟨hx3, ?_⟩
  refine Or_spec hr3 ?_
  intro c
  exact ⟨Keep.refl _ _, hK _ _ (hx02.trans hx3)⟩
theorem RowCmp_spec {a b : Ex} (hK : ∀ c w1, Ext w w1 → K (.int .i64 c) w1) : CALL Tryz.prog 111 #[.agg a.cs.toArray, .agg b.cs.toArray] w K := by
  apply call_index_Index_Shelf_1
  unfold B_index_Index_Shelf_1
  refine X_box ?_
  have hx1 := newB_ext w (Value.agg a.cs.toArray).cells 184
  have hg1 : (newB w (Value.agg a.cs.toArray).cells 184).heap[w.heap.size]? = some (.cells a.cs.toArray 184 (0, 0)) := newB_get w _ 184
  generalize newB w (Value.agg a.cs.toArray).cells 184 = w1 at hx1 hg1 ⊢
  generalize w.heap.size = ba at hg1 ⊢
  refine X_box ?_
  have hx2 := newB_ext w1 (Value.agg b.cs.toArray).cells 184
  have hg2 : (newB w1 (Value.agg b.cs.toArray).cells 184).heap[w1.heap.size]? = some (.cells b.cs.toArray 184 (0, 0)) := newB_get w1 _ 184
  generalize newB w1 (Value.agg b.cs.toArray).cells 184 = w2 at hx2 hg2 ⊢
  generalize w1.heap.size = bb at hg2 ⊢
  have kd := Keep.drew (fun _ => False) w2
  have hx02 := (hx1.trans hx2).trans kd
  have hga := Ext.get (hx2.trans kd) hg1
  have hgb := Ext.get kd hg2
  refine ⟨Ext, Ext.frame, ?_⟩
  generalize drewW w2 = wd at hx02 hga hgb ⊢
  have hlen : ∀ e : Ex, e.cs.toArray[0 + 33 + 1]? = some (.int .i64 e.len) := fun e => by
    rw [List.getElem?_toArray]
    exact e.lenAt
  rw [XP_field_184_1, XP_field_104_1]
  refine XR_ok Ext.frame (fun w' kk => run_loadAt (v := .int .i64 a.len) agg_3 ((cell_blk (Ext.get kk hga)).trans (hlen a))) ?_
  rw [XP_field_184_1, XP_field_104_1]
  refine XR_ok Ext.frame (fun w' kk => run_loadAt (v := .int .i64 b.len) agg_3 ((cell_blk (Ext.get kk hgb)).trans (hlen b))) ?_
  rw [XP_field_184_0]
  refine XR_ok Ext.frame (fun w' kk => row_key (Ext.get kk hga)) ?_
  rw [XP_field_184_0]
  refine XR_ok Ext.frame (fun w' kk => row_key (Ext.get kk hgb)) ?_
  refine Cmp3_spec ?_
  intro c1
  refine ⟨Keep.refl _ _, ?_⟩
  refine Order_spec ?_
  intro c2 w3 hx3
  refine ⟨hx3, ?_⟩
  refine two_ints ?_
  intro v w4 hx4 hr4
  refine ⟨hx4, ?_⟩
  refine Or_spec hr4 ?_
  intro c
  exact ⟨Keep.refl _ _, hK _ _ ((hx02.trans hx3).trans hx4)⟩
end
theorem swap_perm (l : List Ex) (j : Nat) (h : j + 1 < l.length) : ((l.set (j + 1) l[j]).set j l[j + 1]).Perm l := List.set_set_perm h (by omega)
theorem load_row {w : World} {g o : Nat} {e : Ex} (hc : ∀ j u, e.cs[j]? = some u → w.cell? ⟨g, o + j, none⟩ = some u) {w' : World} (k : Ext w w') : (Instr.loadAt 184 (.pointer (some ⟨g, o, none⟩))).run Tryz.prog w' = .ok (.agg e.cs.toArray) w' :=
  load_cells Tryz.underlying184 agg_184 info_184 (l := e.cs) (by rw [sz_184, Ex.cs_len]) (fun j u hj => by rw [add_plain]; exact Keep.cell k (fun h => h) (hc j u hj))
section
variable {w : World} {K : Value → World → Prop}
set_option maxHeartbeats 1000000 in
theorem Ins_spec {v : Value} {l : List Ex} (ho : OwnK 35 184 Ex.cs w 0 v l) (hn : l.length ≤ 12)
    (hK : ∀ l' w1, l'.Perm l → OwnK 35 184 Ex.cs w1 0 v l' → Keep (fun g => v.ownBlock = some g) w w1 → K (.tuple #[]) w1) : CALL Tryz.prog 134 #[v, .int .i64 0, .int .i64 (l.length : Int), .func (.func 111) #[] #[]] w K := by
  apply call_slices_insertionSortCmpFunc_api_Row_
  unfold B_slices_insertionSortCmpFunc_api_Row_
  rw [X_add]
  refine loopG 0 (fun ρ wr => ∃ (i : Nat) (l' : List Ex), 1 ≤ i ∧ i ≤ 13 ∧ l'.Perm l ∧ OwnK 35 184 Ex.cs wr 0 v l' ∧ Keep (fun g => v.ownBlock = some g) w wr ∧ ρ 8 = .int .i64 (i : Int) ∧ ρ 0 = v ∧ ρ 1 = .int .i64 0 ∧ ρ 2 = .int .i64 (l.length : Int) ∧ ρ 3 = .func (.func 111) #[] #[])
    (fun ρ wr => match ρ 8 with | .int _ s => (l.length - s).toNat | _ => 0)
    (fun ρ wr => ∃ l' : List Ex, l'.Perm l ∧ OwnK 35 184 Ex.cs wr 0 v l' ∧ Keep (fun g => v.ownBlock = some g) w wr) ?_ ?_ ?_
  · exact ⟨1, l, by omega, by omega, List.Perm.refl _, ho, Keep.refl _ _, rfl, rfl, rfl, rfl, rfl⟩
  · rintro J hJ ρ wr ⟨i, l', hi1, hi2, hp, ho', hk, r8, r0, r1, r2, r3⟩
    rw [r8, r2, X_lss, condS_bool]
    by_cases hie : i < l.length
    case neg =>
      rw [if_neg (by simp; omega)]
      exact hJ _ _ ⟨l', hp, ho', hk⟩
    rw [if_pos (by simp; omega)]
    refine loopG 2 (fun ρ2 w2 => ∃ (j : Nat) (l2 : List Ex), j ≤ i ∧ l2.Perm l ∧ OwnK 35 184 Ex.cs w2 0 v l2 ∧ Keep (fun g => v.ownBlock = some g) w w2 ∧ ρ2 9 = .int .i64 (j : Int) ∧ ρ2 8 = .int .i64 (i : Int) ∧ ρ2 0 = v ∧ ρ2 1 = .int .i64 0 ∧ ρ2 2 = .int .i64 (l.length : Int) ∧ ρ2 3 = .func (.func 111) #[] #[])
      (fun ρ wr => match ρ 9 with | .int _ s => s.toNat | _ => 0)
      (fun ρ2 w2 => ∃ l2 : List Ex, l2.Perm l ∧ OwnK 35 184 Ex.cs w2 0 v l2 ∧ Keep (fun g => v.ownBlock = some g) w w2 ∧ ρ2 8 = .int .i64 (i : Int) ∧ ρ2 0 = v ∧ ρ2 1 = .int .i64 0 ∧ ρ2 2 = .int .i64 (l.length : Int) ∧ ρ2 3 = .func (.func 111) #[] #[]) ?_ ?_ ?_
    · exact ⟨i, l', by omega, hp, ho', hk, rfl, r8, r0, r1, r2, r3⟩
    · rintro J2 hJ2 ρ2 w2 ⟨j, l2, hj, hp2, ho2, hk2, q9, q8, q0, q1, q2, q3⟩
      have hkd := hk2.trans (Keep.drew (fun g => v.ownBlock = some g) w2)
      have hod := ho2.ext (Keep.drew (fun _ => False) w2)
      have hl2 : l2.length = l.length := hp2.length_eq
      rw [q9, q1]
      refine ⟨Ext, Ext.frame, ?_⟩
      generalize drewW w2 = wd at hkd hod ⊢
      cases j with
      | zero =>
        have c : decide (((0 : Nat) : Int) > 0) = false := rfl
        (repeat (simp only [SLB, Int.reduceEq, Int.reduceNe, Int.reduceLT, Int.reduceLE, Int.reduceGT, Int.reduceGE, c]))
        exact hJ2 _ _ ⟨l2, hp2, hod, hkd, q8, q0, q1, q2, q3⟩
      | succ j =>
        have c : decide (((j + 1 : Nat) : Int) > 0) = true := decide_eq_true (by omega)
        have hrow := OwnK.rowK (by decide) Ex.cs_len hod
        obtain ⟨g1, o1, hix1, hc1⟩ := row_at hrow (i := j + 1) (by omega)
        obtain ⟨g0, o0, hix0, hc0⟩ := row_at hrow (i := j) (by omega)
        have es : ∀ w' : World, (binOp .sub 3 (.int .i64 ((j + 1 : Nat) : Int)) (.int .i64 1)).run Tryz.prog w' = .ok (.int .i64 (j : Int)) w' := fun w' => by
          rw [run_sub, w64 (by omega) (by omega)]
          congr 2
          omega
        rw [q3, q0]
        (repeat (simp only [SLB, Int.reduceEq, Int.reduceNe, Int.reduceLT, Int.reduceLE, Int.reduceGT, Int.reduceGE, c]))
        refine XP_of hix1 ?_
        (repeat (simp only [SLB, Int.reduceEq, Int.reduceNe, Int.reduceLT, Int.reduceLE, Int.reduceGT, Int.reduceGE, c]))
        refine XR_ok Ext.frame (fun w' kk => load_row hc1 kk) ?_
        (repeat (simp only [SLB, Int.reduceEq, Int.reduceNe, Int.reduceLT, Int.reduceLE, Int.reduceGT, Int.reduceGE, c]))
        refine XP_of es ?_
        (repeat (simp only [SLB, Int.reduceEq, Int.reduceNe, Int.reduceLT, Int.reduceLE, Int.reduceGT, Int.reduceGE, c]))
        refine XP_of hix0 ?_
        (repeat (simp only [SLB, Int.reduceEq, Int.reduceNe, Int.reduceLT, Int.reduceLE, Int.reduceGT, Int.reduceGE, c]))
        refine XR_ok Ext.frame (fun w' kk => load_row hc0 kk) ?_
        (repeat (simp only [SLB, Int.reduceEq, Int.reduceNe, Int.reduceLT, Int.reduceLE, Int.reduceGT, Int.reduceGE, c]))
        refine closS_of ?_
        refine RowCmp_spec ?_
        intro cc w3 hx3
        have ho3 := hod.ext hx3
        have hk3 := hkd.trans (Keep.ext hx3)
        by_cases hcc : cc < 0
        case neg =>
          have c2 : decide (cc < 0) = false := decide_eq_false hcc
          (repeat (simp only [SLB, Int.reduceEq, Int.reduceNe, Int.reduceLT, Int.reduceLE, Int.reduceGT, Int.reduceGE, c, c2]))
          exact hJ2 _ _ ⟨l2, hp2, ho3, hk3, q8, q0, q1, q2, q3⟩
        have c2 : decide (cc < 0) = true := decide_eq_true hcc
        (repeat (simp only [SLB, Int.reduceEq, Int.reduceNe, Int.reduceLT, Int.reduceLE, Int.reduceGT, Int.reduceGE, c, c2]))
        have hkd3 := hk3.trans (Keep.drew (fun g => v.ownBlock = some g) w3)
        have hod3 := ho3.ext (Keep.drew (fun _ => False) w3)
        refine ⟨Ext, Ext.frame, ?_⟩
        generalize drewW w3 = we at hkd3 hod3 ⊢
        have hrow3 := OwnK.rowK (by decide) Ex.cs_len hod3
        obtain ⟨g1, o1, hix1, hc1⟩ := row_at hrow3 (i := j + 1) (by omega)
        obtain ⟨g0, o0, hix0, hc0⟩ := row_at hrow3 (i := j) (by omega)
        refine XP_of es ?_
        refine XP_of es ?_
        refine XP_of hix0 ?_
        refine XR_ok Ext.frame (fun w' kk => load_row hc0 kk) ?_
        refine XP_of hix1 ?_
        refine XR_ok Ext.frame (fun w' kk => load_row hc1 kk) ?_
        obtain ⟨ga, hga, hia, hsa⟩ := own_put hod3 (i := j + 1) (by omega) l2[j]
        refine XP_of hia ?_
        refine hsa _ ?_
        intro w4 ho4 hk4
        obtain ⟨gb, hgb, hib, hsb⟩ := own_put ho4 (i := j) (by rw [List.length_set]; omega) l2[j + 1]
        refine XP_of hib ?_
        refine hsb _ ?_
        intro w5 ho5 hk5
        refine X_of (es _) ?_
        show _ ∧ _
        refine ⟨⟨j, _, by omega, (swap_perm l2 j (by omega)).trans hp2, ho5, (hkd3.trans hk4).trans hk5, rfl, q8, q0, q1, q2, q3⟩, ?_⟩
        show ((j : Nat) : Int).toNat < (((j + 1 : Nat) : Int)).toNat
        omega
    · rintro ρ2 w2 ⟨l2, hp2, ho2, hk2, q8, q0, q1, q2, q3⟩
      show X _ (binOp .add 3 (ρ2 8) _) _ _
      rw [q8, X_add]
      show _ ∧ _
      refine ⟨⟨i + 1, l2, by omega, by omega, hp2, ho2, hk2, next64 (n := 1000) (by decide) (by omega), q0, q1, q2, q3⟩, ?_⟩
      show (_ - IntKind.i64.wrap _).toNat < _
      rw [w64 (by omega) (by omega)]
      first | omega | (show _ < (_ : Int).toNat; omega)
  · rintro ρ wr ⟨l', hp, ho', hk⟩
    exact hK l' wr hp ho' hk
theorem Sort_spec {v : Value} {l : List Ex} (ho : OwnK 35 184 Ex.cs w 0 v l) (hn : l.length ≤ 12)
    (hK : ∀ l' w1, l'.Perm l → OwnK 35 184 Ex.cs w1 0 v l' → Keep (fun g => v.ownBlock = some g) w w1 → K (.tuple #[]) w1) : CALL Tryz.prog 110 #[v, .func (.func 111) #[] #[]] w K := by
  obtain ⟨a, c, ev⟩ := (OwnK.rowK (by decide) Ex.cs_len ho).slice
  apply call_slices_SortFunc_api_Row
  unfold B_slices_SortFunc_api_Row
  rw [ev, X_len_150, ← ev, X_conv_3_118, wrap_u64, Int.emod_eq_of_lt (by omega) (by omega)]
  refine Len_spec (by omega) ?_
  intro m
  apply call_pdq
  unfold B_pdq
  refine loopGR 0 (fun ρ wr => wr = w ∧ ρ 0 = v ∧ ρ 1 = .int .i64 0 ∧ ρ 2 = .int .i64 (l.length : Int) ∧ ρ 4 = .func (.func 111) #[] #[]) (fun _ _ => 0) (fun _ _ => False) (fun ρ wr => ∃ l', l'.Perm l ∧ OwnK 35 184 Ex.cs wr 0 v l' ∧ Keep (fun g => v.ownBlock = some g) w wr) ?_ ?_ ?_ ?_
  · exact ⟨rfl, rfl, rfl, rfl, rfl⟩
  · rintro J hJ hJR ρ wr ⟨rfl, r0, r1, r2, r4⟩
    rw [r2, r1, X_sub, w64 (by omega) (by omega)]
    have c : decide ((l.length : Int) - 0 ≤ 12) = true := decide_eq_true (by omega)
    rw [X_leq, c, condS_bool, if_pos rfl, r0, r4]
    refine Ins_spec ho hn ?_
    intro l' w1 hp ho1 hk1
    exact hJR _ _ ⟨l', hp, ho1, hk1⟩
  · intro ρ wr h
    exact h.elim
  · rintro ρ wr ⟨l', hp, ho1, hk1⟩
    exact hK l' wr hp ho1 hk1
end
end Go.Proofs.YtcigpjejbkngfaaGreatDoor
end
