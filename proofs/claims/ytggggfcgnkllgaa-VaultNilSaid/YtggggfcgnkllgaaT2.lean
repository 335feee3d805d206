import Derived.Test.YtggggfcgnkllgaaTy
import Derived.Test.YtggggfcgnkllgaaShSound
set_option linter.unusedVariables false
namespace Go.Proofs.Ytggggfcgnkllgaa
open Go Go.Sh
attribute [local irreducible] X XU XP XR CALL loopS resC closS
/-- cellarage/crc.step -/
def B_crc_step (x0 : Value) (w : World) (K : Value → World → Prop) : Prop :=
  X Try.prog (convert 5 23 x0) w fun v1_6 w1 =>
  X Try.prog (binOp .shl 23 v1_6 (.int .u64 24)) w1 fun v2_7 w2 =>
  loopS (fun Q1 ρ1 w3 =>
  X Try.prog (binOp .lss 3 (ρ1 8) (.int .i64 8)) w3 fun v3_9 w4 =>
  condS v3_9 (
  X Try.prog (binOp .shr 23 (ρ1 3) (.int .u64 31)) w4 fun v4_11 w5 =>
  X Try.prog (binOp .shl 23 (ρ1 3) (.int .u64 1)) w5 fun v5_13 w6 =>
  X Try.prog (binOp .mul 23 (.int .u32 79764919) v4_11) w6 fun v6_15 w7 =>
  X Try.prog (binOp .xor 23 v5_13 v6_15) w7 fun v7_16 w8 =>
  X Try.prog (binOp .add 3 (ρ1 8) (.int .i64 1)) w8 fun v8_17 w9 =>
  Q1 .normal (upds ρ1 [(8, v8_17), (17, v8_17), (3, v7_16), (16, v7_16), (15, v6_15), (14, v4_11), (13, v5_13), (12, (ρ1 3)), (4, v4_11), (11, v4_11), (10, (ρ1 3)), (9, v3_9)]) w9) (
  Q1 (.exit 0) (upds ρ1 [(9, v3_9)]) w4)) (inBlockS 0 (thenS (fun ρ2 w10 =>
  K (ρ2 3) w10) (retS Try.prog (Try.f126).results K))) (upds (env0 #[x0]) [(8, (.int .i64 0)), (3, v2_7), (7, v2_7), (6, v1_6), (5, x0), (2, (.int .u32 0))]) w2

theorem eq_crc_step (x0 : Value) (w : World) (K : Value → World → Prop) :
    sh Try.prog (Try.f126.body.getD .skip) (retS Try.prog Try.f126.results K) (env0 #[x0]) w = B_crc_step x0 w K := by kernel_rfl

theorem call_crc_step (x0 : Value) (w : World) (K : Value → World → Prop) (h : B_crc_step x0 w K) : CALL Try.prog 126 #[x0] w K :=
  call_of_eq (c := Try.f126.body.getD .skip) mixed Try.func126 (by kernel_rfl) (by kernel_rfl) (by kernel_rfl) (Nat.le_of_ble_eq_true (by kernel_rfl)) (eq_crc_step x0 w K) h

/-- cellarage/crc.table -/
def B_crc_table (w : World) (K : Value → World → Prop) : Prop :=
  X Try.prog (Instr.alloc 209 true (.tuple #[])) w fun v1_1 w1 =>
  loopS (fun Q1 ρ1 w2 =>
  X Try.prog (binOp .lss 3 (ρ1 3) (.int .i64 256)) w2 fun v2_4 w3 =>
  condS v2_4 (
  X Try.prog (convert 3 5 (ρ1 3)) w3 fun v3_8 w4 =>
  CALL Try.prog 126 #[v3_8] w4 fun v4_9 w5 =>
  X Try.prog (Instr.indexAt 209 (ρ1 1) (ρ1 3)) w5 fun v5_10 w6 =>
  XU Try.prog (Instr.storeAt 23 v5_10 v4_9) w6 fun w7 =>
  X Try.prog (binOp .add 3 (ρ1 3) (.int .i64 1)) w7 fun v6_11 w8 =>
  Q1 .normal (upds ρ1 [(3, v6_11), (11, v6_11), (10, v5_10), (9, v4_9), (8, v3_8), (7, (ρ1 3)), (6, (ρ1 3)), (2, (ρ1 3)), (5, (ρ1 3)), (4, v2_4)]) w8) (
  Q1 (.exit 0) (upds ρ1 [(4, v2_4)]) w3)) (inBlockS 0 (thenS (fun ρ2 w9 =>
  K (ρ2 1) w9) (retS Try.prog (Try.f127).results K))) (upds (env0 #[]) [(3, (.int .i64 0)), (1, v1_1), (0, (.pointer none))]) w1

theorem eq_crc_table (w : World) (K : Value → World → Prop) :
    sh Try.prog (Try.f127.body.getD .skip) (retS Try.prog Try.f127.results K) (env0 #[]) w = B_crc_table  w K := by kernel_rfl

theorem call_crc_table (w : World) (K : Value → World → Prop) (h : B_crc_table  w K) : CALL Try.prog 127 #[] w K :=
  call_of_eq (c := Try.f127.body.getD .skip) mixed Try.func127 (by kernel_rfl) (by kernel_rfl) (by kernel_rfl) (Nat.le_of_ble_eq_true (by kernel_rfl)) (eq_crc_table  w K) h

/-- cellarage/crc.More -/
def B_crc_More (x0 x1 : Value) (w : World) (K : Value → World → Prop) : Prop :=
  X Try.prog (Op.unary .xor x0) w fun v1_12 w1 =>
  X Try.prog (Builtin.len_ #[27] 3 #[x1]) w1 fun v2_14 w2 =>
  X Try.prog (binOp .lss 3 v2_14 (.int .i64 64)) w2 fun v3_15 w3 =>
  condS v3_15 (
  X Try.prog (Builtin.len_ #[27] 3 #[x1]) w3 fun v4_17 w4 =>
  loopS (fun Q1 ρ1 w5 =>
  X Try.prog (binOp .lss 3 (ρ1 18) (ρ1 17)) w5 fun v5_19 w6 =>
  condS v5_19 (
  X Try.prog (Instr.indexAt 27 (ρ1 16) (ρ1 18)) w6 fun v6_20 w7 =>
  X Try.prog (Instr.loadAt 5 v6_20) w7 fun v7_21 w8 =>
  X Try.prog (binOp .shl 23 (ρ1 5) (.int .u64 8)) w8 fun v8_23 w9 =>
  X Try.prog (binOp .shr 23 (ρ1 5) (.int .u64 24)) w9 fun v9_25 w10 =>
  X Try.prog (convert 23 5 v9_25) w10 fun v10_26 w11 =>
  X Try.prog (binOp .xor 5 v10_26 v7_21) w11 fun v11_28 w12 =>
  CALL Try.prog 126 #[v11_28] w12 fun v12_29 w13 =>
  X Try.prog (binOp .xor 23 v8_23 v12_29) w13 fun v13_30 w14 =>
  X Try.prog (binOp .add 3 (ρ1 18) (.int .i64 1)) w14 fun v14_31 w15 =>
  Q1 .normal (upds ρ1 [(18, v14_31), (31, v14_31), (5, v13_30), (30, v13_30), (29, v12_29), (28, v11_28), (27, v7_21), (26, v10_26), (25, v9_25), (24, (ρ1 5)), (23, v8_23), (22, (ρ1 5)), (7, v7_21), (21, v7_21), (20, v6_20), (19, v5_19)]) w15) (
  Q1 (.exit 0) (upds ρ1 [(19, v5_19)]) w6)) (inBlockS 0 (thenS (fun ρ2 w16 =>
  X Try.prog (Op.unary .xor (ρ2 5)) w16 fun v15_33 w17 =>
  K v15_33 w17) (thenS (fun ρ3 w18 =>
  CALL Try.prog 127 #[] w18 fun v16_34 w19 =>
  X Try.prog (Builtin.len_ #[27] 3 #[(ρ3 1)]) w19 fun v17_36 w20 =>
  loopS (fun Q4 ρ4 w21 =>
  X Try.prog (binOp .lss 3 (ρ4 37) (ρ4 36)) w21 fun v18_38 w22 =>
  condS v18_38 (
  X Try.prog (Instr.indexAt 27 (ρ4 35) (ρ4 37)) w22 fun v19_39 w23 =>
  X Try.prog (Instr.loadAt 5 v19_39) w23 fun v20_40 w24 =>
  X Try.prog (binOp .shl 23 (ρ4 5) (.int .u64 8)) w24 fun v21_42 w25 =>
  X Try.prog (binOp .shr 23 (ρ4 5) (.int .u64 24)) w25 fun v22_45 w26 =>
  X Try.prog (convert 23 5 v22_45) w26 fun v23_46 w27 =>
  X Try.prog (binOp .xor 5 v23_46 v20_40) w27 fun v24_48 w28 =>
  X Try.prog (nilS (ρ4 8)) w28 fun v25_49 w29 =>
  X Try.prog (Instr.indexAt 209 v25_49 v24_48) w29 fun v26_50 w30 =>
  X Try.prog (Instr.loadAt 23 v26_50) w30 fun v27_51 w31 =>
  X Try.prog (binOp .xor 23 v21_42 v27_51) w31 fun v28_52 w32 =>
  X Try.prog (binOp .add 3 (ρ4 37) (.int .i64 1)) w32 fun v29_53 w33 =>
  Q4 .normal (upds ρ4 [(37, v29_53), (53, v29_53), (5, v28_52), (52, v28_52), (51, v27_51), (50, v26_50), (49, v25_49), (48, v24_48), (47, v20_40), (46, v23_46), (45, v22_45), (44, (ρ4 5)), (43, (ρ4 8)), (42, v21_42), (41, (ρ4 5)), (10, v20_40), (40, v20_40), (39, v19_39), (38, v18_38)]) w33) (
  Q4 (.exit 2) (upds ρ4 [(38, v18_38)]) w22)) (inBlockS 2 (thenS (fun ρ5 w34 =>
  X Try.prog (Op.unary .xor (ρ5 5)) w34 fun v30_55 w35 =>
  K v30_55 w35) (retS Try.prog (Try.f53).results K))) (upds ρ3 [(37, (.int .i64 0)), (36, v17_36), (35, (ρ3 1)), (8, v16_34), (34, v16_34)]) w20) (retS Try.prog (Try.f53).results K)))) (upds (env0 #[x0, x1]) [(18, (.int .i64 0)), (17, v4_17), (16, x1), (15, v3_15), (14, v2_14), (13, x1), (5, v1_12), (12, v1_12), (11, x0), (4, (.int .u32 0))]) w4) (
  CALL Try.prog 127 #[] w3 fun v31_34 w36 =>
  X Try.prog (Builtin.len_ #[27] 3 #[x1]) w36 fun v32_36 w37 =>
  loopS (fun Q6 ρ6 w38 =>
  X Try.prog (binOp .lss 3 (ρ6 37) (ρ6 36)) w38 fun v33_38 w39 =>
  condS v33_38 (
  X Try.prog (Instr.indexAt 27 (ρ6 35) (ρ6 37)) w39 fun v34_39 w40 =>
  X Try.prog (Instr.loadAt 5 v34_39) w40 fun v35_40 w41 =>
  X Try.prog (binOp .shl 23 (ρ6 5) (.int .u64 8)) w41 fun v36_42 w42 =>
  X Try.prog (binOp .shr 23 (ρ6 5) (.int .u64 24)) w42 fun v37_45 w43 =>
  X Try.prog (convert 23 5 v37_45) w43 fun v38_46 w44 =>
  X Try.prog (binOp .xor 5 v38_46 v35_40) w44 fun v39_48 w45 =>
  X Try.prog (nilS (ρ6 8)) w45 fun v40_49 w46 =>
  X Try.prog (Instr.indexAt 209 v40_49 v39_48) w46 fun v41_50 w47 =>
  X Try.prog (Instr.loadAt 23 v41_50) w47 fun v42_51 w48 =>
  X Try.prog (binOp .xor 23 v36_42 v42_51) w48 fun v43_52 w49 =>
  X Try.prog (binOp .add 3 (ρ6 37) (.int .i64 1)) w49 fun v44_53 w50 =>
  Q6 .normal (upds ρ6 [(37, v44_53), (53, v44_53), (5, v43_52), (52, v43_52), (51, v42_51), (50, v41_50), (49, v40_49), (48, v39_48), (47, v35_40), (46, v38_46), (45, v37_45), (44, (ρ6 5)), (43, (ρ6 8)), (42, v36_42), (41, (ρ6 5)), (10, v35_40), (40, v35_40), (39, v34_39), (38, v33_38)]) w50) (
  Q6 (.exit 2) (upds ρ6 [(38, v33_38)]) w39)) (inBlockS 2 (thenS (fun ρ7 w51 =>
  X Try.prog (Op.unary .xor (ρ7 5)) w51 fun v45_55 w52 =>
  K v45_55 w52) (retS Try.prog (Try.f53).results K))) (upds (env0 #[x0, x1]) [(37, (.int .i64 0)), (36, v32_36), (35, x1), (8, v31_34), (34, v31_34), (15, v3_15), (14, v2_14), (13, x1), (5, v1_12), (12, v1_12), (11, x0), (4, (.int .u32 0))]) w37)

theorem eq_crc_More (x0 x1 : Value) (w : World) (K : Value → World → Prop) :
    sh Try.prog (Try.f53.body.getD .skip) (retS Try.prog Try.f53.results K) (env0 #[x0, x1]) w = B_crc_More x0 x1 w K := by kernel_rfl

theorem call_crc_More (x0 x1 : Value) (w : World) (K : Value → World → Prop) (h : B_crc_More x0 x1 w K) : CALL Try.prog 53 #[x0, x1] w K :=
  call_of_eq (c := Try.f53.body.getD .skip) mixed Try.func53 (by kernel_rfl) (by kernel_rfl) (by kernel_rfl) (Nat.le_of_ble_eq_true (by kernel_rfl)) (eq_crc_More x0 x1 w K) h

/-- cellarage/crc.Sum -/
def B_crc_Sum (x0 : Value) (w : World) (K : Value → World → Prop) : Prop :=
  CALL Try.prog 53 #[(.int .u32 0), x0] w fun v1_4 w1 =>
  K v1_4 w1

theorem eq_crc_Sum (x0 : Value) (w : World) (K : Value → World → Prop) :
    sh Try.prog (Try.f51.body.getD .skip) (retS Try.prog Try.f51.results K) (env0 #[x0]) w = B_crc_Sum x0 w K := by kernel_rfl

theorem call_crc_Sum (x0 : Value) (w : World) (K : Value → World → Prop) (h : B_crc_Sum x0 w K) : CALL Try.prog 51 #[x0] w K :=
  call_of_eq (c := Try.f51.body.getD .skip) mixed Try.func51 (by kernel_rfl) (by kernel_rfl) (by kernel_rfl) (Nat.le_of_ble_eq_true (by kernel_rfl)) (eq_crc_Sum x0 w K) h

/-- cellarage/crc.Seal -/
def B_crc_Seal (x0 : Value) (w : World) (K : Value → World → Prop) : Prop :=
  CALL Try.prog 51 #[x0] w fun v1_5 w1 =>
  X Try.prog (convert 23 22 v1_5) w1 fun v2_6 w2 =>
  CALL Try.prog 46 #[x0, v2_6, (.int .i64 4)] w2 fun v3_7 w3 =>
  K v3_7 w3

theorem eq_crc_Seal (x0 : Value) (w : World) (K : Value → World → Prop) :
    sh Try.prog (Try.f56.body.getD .skip) (retS Try.prog Try.f56.results K) (env0 #[x0]) w = B_crc_Seal x0 w K := by kernel_rfl

theorem call_crc_Seal (x0 : Value) (w : World) (K : Value → World → Prop) (h : B_crc_Seal x0 w K) : CALL Try.prog 56 #[x0] w K :=
  call_of_eq (c := Try.f56.body.getD .skip) mixed Try.func56 (by kernel_rfl) (by kernel_rfl) (by kernel_rfl) (Nat.le_of_ble_eq_true (by kernel_rfl)) (eq_crc_Seal x0 w K) h

/-- cellarage/crc.Open -/
def B_crc_Open (x0 : Value) (w : World) (K : Value → World → Prop) : Prop :=
  X Try.prog (Builtin.len_ #[27] 3 #[x0]) w fun v1_6 w1 =>
  X Try.prog (binOp .sub 3 v1_6 (.int .i64 4)) w1 fun v2_7 w2 =>
  ∃ R, Frame? R ∧
  XP Try.prog (binOp .lss 3 v2_7 (.int .i64 0)) (drewW w2) fun v3_9 w3 =>
  gstep v3_9 false (fun w4 K => K x0 w4) w3 fun v4_11 w5 =>
  gstep v3_9 false (fun w6 K => K v2_7 w6) w5 fun v5_12 w7 =>
  gstep v3_9 false (fun w8 K => XP Try.prog (Instr.sliceAt 27 v4_11 (some v5_12) none none) w8 K) w7 fun v6_13 w9 =>
  gstep v3_9 false (fun w10 K => K x0 w10) w9 fun v7_16 w11 =>
  gstep v3_9 false (fun w12 K => K v2_7 w12) w11 fun v8_17 w13 =>
  gstep v3_9 false (fun w14 K => XP Try.prog (Instr.sliceAt 27 v7_16 none (some v8_17) none) w14 K) w13 fun v9_18 w15 =>
  gstep v3_9 false (fun w16 K => CALL Try.prog 58 #[v6_13] w16 K) w15 fun v10_14 w17 =>
  gstep v3_9 false (fun w18 K => CALL Try.prog 61 #[v10_14, (.int .i64 4)] w18 K) w17 fun v11_15 w19 =>
  gstep v3_9 false (fun w20 K => CALL Try.prog 51 #[v9_18] w20 K) w19 fun v12_19 w21 =>
  gstep v3_9 false (fun w22 K => XR Try.prog R (convert 23 22 v12_19) w22 K) w21 fun v13_20 w23 =>
  gstep v3_9 false (fun w24 K => XP Try.prog (binOpG .neq 22 (.tmp 15) (.tmp 20) v11_15 v13_20) w24 K) w23 fun v14_21 w25 =>
  XP Try.prog (pickS v3_9 (.bool true) v14_21) w25 fun v15_22 w26 =>
  condS v15_22 (
  K (.tuple #[(.slice none 0 0), (.bool false)]) w26) (
  X Try.prog (Instr.sliceAt 27 x0 none (some v2_7) none) w26 fun v16_25 w27 =>
  X Try.prog (Builtin.append_ #[27, 27] 27 #[(.slice none 0 0), v16_25]) w27 fun v17_26 w28 =>
  K (.tuple #[v17_26, (.bool true)]) w28)

theorem eq_crc_Open (x0 : Value) (w : World) (K : Value → World → Prop) :
    sh Try.prog (Try.f54.body.getD .skip) (retS Try.prog Try.f54.results K) (env0 #[x0]) w = B_crc_Open x0 w K := by kernel_rfl

theorem call_crc_Open (x0 : Value) (w : World) (K : Value → World → Prop) (h : B_crc_Open x0 w K) : CALL Try.prog 54 #[x0] w K :=
  call_of_eq (c := Try.f54.body.getD .skip) mixed Try.func54 (by kernel_rfl) (by kernel_rfl) (by kernel_rfl) (Nat.le_of_ble_eq_true (by kernel_rfl)) (eq_crc_Open x0 w K) h

/-- cellarage/cellarageref02.More -/
def B_ref02_More (x0 x1 : Value) (w : World) (K : Value → World → Prop) : Prop :=
  X Try.prog (binOp .sub 23 (.int .u32 4294967295) x0) w fun v1_10 w1 =>
  loopS (fun Q1 ρ1 w2 =>
  X Try.prog (Builtin.len_ #[27] 3 #[(ρ1 1)]) w2 fun v2_13 w3 =>
  X Try.prog (binOp .lss 3 (ρ1 6) v2_13) w3 fun v3_14 w4 =>
  condS v3_14 (
  X Try.prog (Instr.indexAt 27 (ρ1 1) (ρ1 6)) w4 fun v4_20 w5 =>
  X Try.prog (Instr.loadAt 5 v4_20) w5 fun v5_21 w6 =>
  X Try.prog (convert 5 23 v5_21) w6 fun v6_22 w7 =>
  X Try.prog (binOp .mul 23 v6_22 (.int .u32 16777216)) w7 fun v7_23 w8 =>
  X Try.prog (binOp .xor 23 (ρ1 5) v7_23) w8 fun v8_24 w9 =>
  loopS (fun Q2 ρ2 w10 =>
  X Try.prog (binOp .lss 3 (ρ2 7) (.int .i64 8)) w10 fun v9_26 w11 =>
  condS v9_26 (
  joinS (fun ρ3 w12 =>
  X Try.prog (binOp .add 3 (ρ3 7) (.int .i64 1)) w12 fun v10_28 w13 =>
  Q2 .normal (upds ρ3 [(7, v10_28), (28, v10_28), (27, (ρ3 7))]) w13) fun J3 =>
  X Try.prog (binOp .quo 23 (ρ2 5) (.int .u32 2147483648)) w11 fun v11_30 w14 =>
  X Try.prog (binOp .mul 23 (ρ2 5) (.int .u32 2)) w14 fun v12_32 w15 =>
  X Try.prog (binOpG .eql 23 (.tmp 33) (.const (.int .u32 1)) v11_30 (.int .u32 1)) w15 fun v13_34 w16 =>
  condS v13_34 (
  X Try.prog (binOp .xor 23 v12_32 (.int .u32 79764919)) w16 fun v14_36 w17 =>
  J3 (upds ρ2 [(5, v14_36), (36, v14_36), (35, v12_32), (34, v13_34), (33, v11_30), (5, v12_32), (32, v12_32), (31, (ρ2 5)), (8, v11_30), (30, v11_30), (29, (ρ2 5)), (26, v9_26), (25, (ρ2 7))]) w17) (
  J3 (upds ρ2 [(34, v13_34), (33, v11_30), (5, v12_32), (32, v12_32), (31, (ρ2 5)), (8, v11_30), (30, v11_30), (29, (ρ2 5)), (26, v9_26), (25, (ρ2 7))]) w16)) (
  Q2 (.exit 2) (upds ρ2 [(26, v9_26), (25, (ρ2 7))]) w11)) (inBlockS 2 (inBlockS 1 (thenS (fun ρ4 w18 =>
  X Try.prog (binOp .add 3 (ρ4 6) (.int .i64 1)) w18 fun v15_16 w19 =>
  Q1 .normal (upds ρ4 [(6, v15_16), (16, v15_16), (15, (ρ4 6))]) w19) Q1))) (upds ρ1 [(7, (.int .i64 0)), (5, v8_24), (24, v8_24), (23, v7_23), (22, v6_22), (21, v5_21), (20, v4_20), (19, (ρ1 6)), (18, (ρ1 1)), (17, (ρ1 5)), (14, v3_14), (13, v2_13), (12, (ρ1 1)), (11, (ρ1 6))]) w9) (
  Q1 (.exit 0) (upds ρ1 [(14, v3_14), (13, v2_13), (12, (ρ1 1)), (11, (ρ1 6))]) w4)) (inBlockS 0 (thenS (fun ρ5 w20 =>
  X Try.prog (binOp .sub 23 (.int .u32 4294967295) (ρ5 5)) w20 fun v16_38 w21 =>
  K v16_38 w21) (retS Try.prog (Try.f52).results K))) (upds (env0 #[x0, x1]) [(6, (.int .i64 0)), (5, v1_10), (10, v1_10), (9, x0), (4, (.int .u32 0))]) w1

theorem eq_ref02_More (x0 x1 : Value) (w : World) (K : Value → World → Prop) :
    sh Try.prog (Try.f52.body.getD .skip) (retS Try.prog Try.f52.results K) (env0 #[x0, x1]) w = B_ref02_More x0 x1 w K := by kernel_rfl

theorem call_ref02_More (x0 x1 : Value) (w : World) (K : Value → World → Prop) (h : B_ref02_More x0 x1 w K) : CALL Try.prog 52 #[x0, x1] w K :=
  call_of_eq (c := Try.f52.body.getD .skip) mixed Try.func52 (by kernel_rfl) (by kernel_rfl) (by kernel_rfl) (Nat.le_of_ble_eq_true (by kernel_rfl)) (eq_ref02_More x0 x1 w K) h

/-- cellarage/cellarageref02.Seal -/
def B_ref02_Seal (x0 : Value) (w : World) (K : Value → World → Prop) : Prop :=
  X Try.prog (Builtin.append_ #[27, 27] 27 #[(.slice none 0 0), x0]) w fun v1_6 w1 =>
  CALL Try.prog 52 #[(.int .u32 0), x0] w1 fun v2_9 w2 =>
  X Try.prog (convert 23 22 v2_9) w2 fun v3_10 w3 =>
  CALL Try.prog 125 #[v3_10, (.int .i64 4)] w3 fun v4_11 w4 =>
  X Try.prog (Builtin.append_ #[27, 27] 27 #[v1_6, v4_11]) w4 fun v5_12 w5 =>
  K v5_12 w5

theorem eq_ref02_Seal (x0 : Value) (w : World) (K : Value → World → Prop) :
    sh Try.prog (Try.f57.body.getD .skip) (retS Try.prog Try.f57.results K) (env0 #[x0]) w = B_ref02_Seal x0 w K := by kernel_rfl

theorem call_ref02_Seal (x0 : Value) (w : World) (K : Value → World → Prop) (h : B_ref02_Seal x0 w K) : CALL Try.prog 57 #[x0] w K :=
  call_of_eq (c := Try.f57.body.getD .skip) mixed Try.func57 (by kernel_rfl) (by kernel_rfl) (by kernel_rfl) (Nat.le_of_ble_eq_true (by kernel_rfl)) (eq_ref02_Seal x0 w K) h

/-- cellarage/cellarageref02.Open -/
def B_ref02_Open (x0 : Value) (w : World) (K : Value → World → Prop) : Prop :=
  X Try.prog (Builtin.len_ #[27] 3 #[x0]) w fun v1_6 w1 =>
  X Try.prog (binOp .sub 3 v1_6 (.int .i64 4)) w1 fun v2_7 w2 =>
  ∃ R, Frame? R ∧
  XP Try.prog (binOp .lss 3 v2_7 (.int .i64 0)) (drewW w2) fun v3_9 w3 =>
  gstep v3_9 false (fun w4 K => K x0 w4) w3 fun v4_11 w5 =>
  gstep v3_9 false (fun w6 K => K v2_7 w6) w5 fun v5_12 w7 =>
  gstep v3_9 false (fun w8 K => XP Try.prog (Instr.sliceAt 27 v4_11 none (some v5_12) none) w8 K) w7 fun v6_13 w9 =>
  gstep v3_9 false (fun w10 K => K x0 w10) w9 fun v7_16 w11 =>
  gstep v3_9 false (fun w12 K => XR Try.prog R (convert 27 9 v7_16) w12 K) w11 fun v8_17 w13 =>
  gstep v3_9 false (fun w14 K => CALL Try.prog 57 #[v6_13] w14 K) w13 fun v9_14 w15 =>
  R w13 w15 ∧
  gstep v3_9 false (fun w16 K => XR Try.prog R (convert 27 9 v9_14) w16 K) w15 fun v10_15 w17 =>
  gstep v3_9 false (fun w18 K => XP Try.prog (binOpG .neq 9 (.tmp 15) (.tmp 17) v10_15 v8_17) w18 K) w17 fun v11_18 w19 =>
  XP Try.prog (pickS v3_9 (.bool true) v11_18) w19 fun v12_19 w20 =>
  condS v12_19 (
  K (.tuple #[(.slice none 0 0), (.bool false)]) w20) (
  X Try.prog (Instr.sliceAt 27 x0 none (some v2_7) none) w20 fun v13_22 w21 =>
  K (.tuple #[v13_22, (.bool true)]) w21)

theorem eq_ref02_Open (x0 : Value) (w : World) (K : Value → World → Prop) :
    sh Try.prog (Try.f55.body.getD .skip) (retS Try.prog Try.f55.results K) (env0 #[x0]) w = B_ref02_Open x0 w K := by kernel_rfl

theorem call_ref02_Open (x0 : Value) (w : World) (K : Value → World → Prop) (h : B_ref02_Open x0 w K) : CALL Try.prog 55 #[x0] w K :=
  call_of_eq (c := Try.f55.body.getD .skip) mixed Try.func55 (by kernel_rfl) (by kernel_rfl) (by kernel_rfl) (Nat.le_of_ble_eq_true (by kernel_rfl)) (eq_ref02_Open x0 w K) h

end Go.Proofs.Ytggggfcgnkllgaa
