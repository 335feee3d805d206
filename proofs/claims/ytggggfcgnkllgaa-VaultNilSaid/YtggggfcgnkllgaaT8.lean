import Derived.Test.YtggggfcgnkllgaaTy
import Derived.Test.YtggggfcgnkllgaaShSound
set_option linter.unusedVariables false
namespace Go.Proofs.Ytggggfcgnkllgaa
open Go Go.Sh
attribute [local irreducible] X XU XP XR CALL loopS resC closS
/-- cellarage/cellarageref08.New -/
def B_ref08_New (x0 : Value) (w : World) (K : Value → World → Prop) : Prop :=
  X Try.prog (binOp .lss 3 x0 (.int .i64 0)) w fun v1_7 w1 =>
  gstep v1_7 false (fun w2 K => K x0 w2) w1 fun v2_9 w3 =>
  gstep v1_7 false (fun w4 K => X Try.prog (binOp .gtr 3 v2_9 (.int .i64 16384)) w4 K) w3 fun v3_10 w5 =>
  X Try.prog (pickS v1_7 (.bool true) v3_10) w5 fun v4_11 w6 =>
  condS v4_11 (
  K (.tuple #[(.pointer none), (.int .i64 1)]) w6) (
  X Try.prog (Instr.makeSlice 66 x0 x0) w6 fun v5_13 w7 =>
  X Try.prog (Instr.build 148 #[(0, v5_13), (3, (.int .i64 (-1)))]) w7 fun v6_14 w8 =>
  X Try.prog (Instr.box 148 v6_14) w8 fun v7_15 w9 =>
  loopS (fun Q1 ρ1 w10 =>
  X Try.prog (binOp .lss 3 (ρ1 5) (ρ1 0)) w10 fun v8_18 w11 =>
  condS v8_18 (
  ∃ R, Frame? R ∧
  XP Try.prog (nilS (ρ1 4)) (drewW w11) fun v9_22 w12 =>
  XP Try.prog (Instr.fieldAt 148 v9_22 0) w12 fun v10_23 w13 =>
  XR Try.prog R (Instr.loadAt 66 v10_23) w13 fun v11_24 w14 =>
  CALL Try.prog 133 #[(.string { data := #[] })] w14 fun v12_26 w15 =>
  R w14 w15 ∧
  XP Try.prog (Instr.indexAt 66 v11_24 (ρ1 5)) w15 fun v13_27 w16 =>
  XU Try.prog (Instr.storeAt 9 v13_27 v12_26) w16 fun w17 =>
  X Try.prog (binOp .add 3 (ρ1 5) (.int .i64 1)) w17 fun v14_20 w18 =>
  Q1 .normal (upds ρ1 [(5, v14_20), (20, v14_20), (19, (ρ1 5)), (27, v13_27), (26, v12_26), (25, (ρ1 5)), (24, v11_24), (23, v10_23), (22, v9_22), (21, (ρ1 4)), (18, v8_18), (17, (ρ1 0)), (16, (ρ1 5))]) w18) (
  Q1 (.exit 0) (upds ρ1 [(18, v8_18), (17, (ρ1 0)), (16, (ρ1 5))]) w11)) (inBlockS 0 (thenS (fun ρ2 w19 =>
  K (.tuple #[(ρ2 4), (.int .i64 0)]) w19) (retS Try.prog (Try.f80).results K))) (upds (env0 #[x0]) [(5, (.int .i64 0)), (4, v7_15), (15, v7_15), (14, v6_14), (13, v5_13), (12, x0), (11, v4_11), (10, v3_10), (9, v2_9), (8, v1_7), (7, v1_7), (6, x0), (3, (.int .i64 0)), (2, (.pointer none))]) w9)

theorem eq_ref08_New (x0 : Value) (w : World) (K : Value → World → Prop) :
    sh Try.prog (Try.f80.body.getD .skip) (retS Try.prog Try.f80.results K) (env0 #[x0]) w = B_ref08_New x0 w K := by kernel_rfl

theorem call_ref08_New (x0 : Value) (w : World) (K : Value → World → Prop) (h : B_ref08_New x0 w K) : CALL Try.prog 80 #[x0] w K :=
  call_of_eq (c := Try.f80.body.getD .skip) mixed Try.func80 (by kernel_rfl) (by kernel_rfl) (by kernel_rfl) (Nat.le_of_ble_eq_true (by kernel_rfl)) (eq_ref08_New x0 w K) h

/-- (*cellarage/cellarageref08.Disk).Write -/
def B_ref08_Disk_Write (x0 x1 x2 : Value) (w : World) (K : Value → World → Prop) : Prop :=
  X Try.prog (binOp .lss 3 x1 (.int .i64 0)) w fun v1_8 w1 =>
  gstep v1_8 false (fun w2 K => K x1 w2) w1 fun v2_10 w3 =>
  gstep v1_8 false (fun w4 K => K x0 w4) w3 fun v3_11 w5 =>
  gstep v1_8 false (fun w6 K => X Try.prog (nilS v3_11) w6 K) w5 fun v4_12 w7 =>
  gstep v1_8 false (fun w8 K => X Try.prog (Instr.fieldAt 148 v4_12 0) w8 K) w7 fun v5_13 w9 =>
  gstep v1_8 false (fun w10 K => X Try.prog (Instr.loadAt 66 v5_13) w10 K) w9 fun v6_14 w11 =>
  gstep v1_8 false (fun w12 K => X Try.prog (Builtin.len_ #[66] 3 #[v6_14]) w12 K) w11 fun v7_15 w13 =>
  gstep v1_8 false (fun w14 K => X Try.prog (binOp .geq 3 v2_10 v7_15) w14 K) w13 fun v8_16 w15 =>
  X Try.prog (pickS v1_8 (.bool true) v8_16) w15 fun v9_17 w16 =>
  gstep v9_17 false (fun w17 K => K x2 w17) w16 fun v10_19 w18 =>
  gstep v9_17 false (fun w19 K => X Try.prog (Builtin.len_ #[9] 3 #[v10_19]) w19 K) w18 fun v11_20 w20 =>
  gstep v9_17 false (fun w21 K => X Try.prog (binOp .gtr 3 v11_20 (.int .i64 128)) w21 K) w20 fun v12_21 w22 =>
  X Try.prog (pickS v9_17 (.bool true) v12_21) w22 fun v13_22 w23 =>
  condS v13_22 (
  K (.int .i64 1) w23) (
  CALL Try.prog 142 #[x0] w23 fun v14_24 w24 =>
  condS v14_24 (
  K (.int .i64 6) w24) (
  ∃ R, Frame? R ∧
  XP Try.prog (nilS x0) (drewW w24) fun v15_27 w25 =>
  XP Try.prog (Instr.fieldAt 148 v15_27 1) w25 fun v16_28 w26 =>
  XR Try.prog R (Instr.loadAt 146 v16_28) w26 fun v17_29 w27 =>
  CALL Try.prog 133 #[x2] w27 fun v18_32 w28 =>
  R w27 w28 ∧
  XP Try.prog (Instr.build 200 #[(0, x1), (1, v18_32)]) w28 fun v19_33 w29 =>
  X Try.prog (Instr.buildSlice 146 1 #[(0, v19_33)]) w29 fun v20_34 w30 =>
  R w29 w30 ∧
  X Try.prog (Builtin.append_ #[146, 146] 146 #[v17_29, v20_34]) w30 fun v21_35 w31 =>
  XP Try.prog (nilS x0) w31 fun v22_36 w32 =>
  XP Try.prog (Instr.fieldAt 148 v22_36 1) w32 fun v23_37 w33 =>
  XU Try.prog (Instr.storeAt 146 v23_37 v21_35) w33 fun w34 =>
  CALL Try.prog 143 #[x0] w34 fun v24_39 w35 =>
  K v24_39 w35))

theorem eq_ref08_Disk_Write (x0 x1 x2 : Value) (w : World) (K : Value → World → Prop) :
    sh Try.prog (Try.f109.body.getD .skip) (retS Try.prog Try.f109.results K) (env0 #[x0, x1, x2]) w = B_ref08_Disk_Write x0 x1 x2 w K := by kernel_rfl

theorem call_ref08_Disk_Write (x0 x1 x2 : Value) (w : World) (K : Value → World → Prop) (h : B_ref08_Disk_Write x0 x1 x2 w K) : CALL Try.prog 109 #[x0, x1, x2] w K :=
  call_of_eq (c := Try.f109.body.getD .skip) mixed Try.func109 (by kernel_rfl) (by kernel_rfl) (by kernel_rfl) (Nat.le_of_ble_eq_true (by kernel_rfl)) (eq_ref08_Disk_Write x0 x1 x2 w K) h

/-- (*cellarage/cellarageref08.Disk).Flush -/
def B_ref08_Disk_Flush (x0 : Value) (w : World) (K : Value → World → Prop) : Prop :=
  CALL Try.prog 142 #[x0] w fun v1_5 w1 =>
  condS v1_5 (
  K (.int .i64 6) w1) (
  loopS (fun Q1 ρ1 w2 =>
  X Try.prog (nilS (ρ1 0)) w2 fun v2_8 w3 =>
  X Try.prog (Instr.fieldAt 148 v2_8 1) w3 fun v3_9 w4 =>
  X Try.prog (Instr.loadAt 146 v3_9) w4 fun v4_10 w5 =>
  X Try.prog (Builtin.len_ #[146] 3 #[v4_10]) w5 fun v5_11 w6 =>
  X Try.prog (binOp .lss 3 (ρ1 3) v5_11) w6 fun v6_12 w7 =>
  condS v6_12 (
  ∃ R, Frame? R ∧
  XP Try.prog (nilS (ρ1 0)) (drewW w7) fun v7_16 w8 =>
  XP Try.prog (Instr.fieldAt 148 v7_16 0) w8 fun v8_17 w9 =>
  XR Try.prog R (Instr.loadAt 66 v8_17) w9 fun v9_18 w10 =>
  XP Try.prog (nilS (ρ1 0)) w10 fun v10_20 w11 =>
  XP Try.prog (Instr.fieldAt 148 v10_20 1) w11 fun v11_21 w12 =>
  XR Try.prog R (Instr.loadAt 146 v11_21) w12 fun v12_22 w13 =>
  XP Try.prog (Instr.indexAt 146 v12_22 (ρ1 3)) w13 fun v13_24 w14 =>
  XP Try.prog (Instr.fieldAt 200 v13_24 0) w14 fun v14_25 w15 =>
  XR Try.prog R (Instr.loadAt 3 v14_25) w15 fun v15_26 w16 =>
  XP Try.prog (nilS (ρ1 0)) w16 fun v16_28 w17 =>
  XP Try.prog (Instr.fieldAt 148 v16_28 1) w17 fun v17_29 w18 =>
  XR Try.prog R (Instr.loadAt 146 v17_29) w18 fun v18_30 w19 =>
  XP Try.prog (Instr.indexAt 146 v18_30 (ρ1 3)) w19 fun v19_32 w20 =>
  XP Try.prog (Instr.fieldAt 200 v19_32 1) w20 fun v20_33 w21 =>
  XR Try.prog R (Instr.loadAt 9 v20_33) w21 fun v21_34 w22 =>
  XP Try.prog (Instr.indexAt 66 v9_18 v15_26) w22 fun v22_35 w23 =>
  XU Try.prog (Instr.storeAt 9 v22_35 v21_34) w23 fun w24 =>
  X Try.prog (binOp .add 3 (ρ1 3) (.int .i64 1)) w24 fun v23_14 w25 =>
  Q1 .normal (upds ρ1 [(3, v23_14), (14, v23_14), (13, (ρ1 3)), (35, v22_35), (34, v21_34), (33, v20_33), (32, v19_32), (31, (ρ1 3)), (30, v18_30), (29, v17_29), (28, v16_28), (27, (ρ1 0)), (26, v15_26), (25, v14_25), (24, v13_24), (23, (ρ1 3)), (22, v12_22), (21, v11_21), (20, v10_20), (19, (ρ1 0)), (18, v9_18), (17, v8_17), (16, v7_16), (15, (ρ1 0)), (12, v6_12), (11, v5_11), (10, v4_10), (9, v3_9), (8, v2_8), (7, (ρ1 0)), (6, (ρ1 3))]) w25) (
  Q1 (.exit 0) (upds ρ1 [(12, v6_12), (11, v5_11), (10, v4_10), (9, v3_9), (8, v2_8), (7, (ρ1 0)), (6, (ρ1 3))]) w7)) (inBlockS 0 (thenS (fun ρ2 w26 =>
  X Try.prog (nilS (ρ2 0)) w26 fun v24_37 w27 =>
  X Try.prog (Instr.fieldAt 148 v24_37 1) w27 fun v25_38 w28 =>
  XU Try.prog (Instr.storeAt 146 v25_38 (.slice none 0 0)) w28 fun w29 =>
  CALL Try.prog 143 #[(ρ2 0)] w29 fun v26_40 w30 =>
  K v26_40 w30) (retS Try.prog (Try.f110).results K))) (upds (env0 #[x0]) [(3, (.int .i64 0)), (5, v1_5), (4, x0), (2, (.int .i64 0))]) w1)

theorem eq_ref08_Disk_Flush (x0 : Value) (w : World) (K : Value → World → Prop) :
    sh Try.prog (Try.f110.body.getD .skip) (retS Try.prog Try.f110.results K) (env0 #[x0]) w = B_ref08_Disk_Flush x0 w K := by kernel_rfl

theorem call_ref08_Disk_Flush (x0 : Value) (w : World) (K : Value → World → Prop) (h : B_ref08_Disk_Flush x0 w K) : CALL Try.prog 110 #[x0] w K :=
  call_of_eq (c := Try.f110.body.getD .skip) mixed Try.func110 (by kernel_rfl) (by kernel_rfl) (by kernel_rfl) (Nat.le_of_ble_eq_true (by kernel_rfl)) (eq_ref08_Disk_Flush x0 w K) h

/-- (*cellarage/cellarageref08.Disk).Cut -/
def B_ref08_Disk_Cut (x0 x1 : Value) (w : World) (K : Value → World → Prop) : Prop :=
  X Try.prog (nilS x0) w fun v1_5 w1 =>
  X Try.prog (Instr.fieldAt 148 v1_5 2) w1 fun v2_6 w2 =>
  X Try.prog (Instr.loadAt 4 v2_6) w2 fun v3_7 w3 =>
  X Try.prog (Op.unary .not v3_7) w3 fun v4_8 w4 =>
  condS v4_8 (
  X Try.prog (Builtin.max_ #[3, 3] 3 #[x1, (.int .i64 (-1))]) w4 fun v5_11 w5 =>
  X Try.prog (nilS x0) w5 fun v6_12 w6 =>
  X Try.prog (Instr.fieldAt 148 v6_12 3) w6 fun v7_13 w7 =>
  XU Try.prog (Instr.storeAt 3 v7_13 v5_11) w7 fun w8 =>
  K (.tuple #[]) w8) (
  K (.tuple #[]) w4)

theorem eq_ref08_Disk_Cut (x0 x1 : Value) (w : World) (K : Value → World → Prop) :
    sh Try.prog (Try.f111.body.getD .skip) (retS Try.prog Try.f111.results K) (env0 #[x0, x1]) w = B_ref08_Disk_Cut x0 x1 w K := by kernel_rfl

theorem call_ref08_Disk_Cut (x0 x1 : Value) (w : World) (K : Value → World → Prop) (h : B_ref08_Disk_Cut x0 x1 w K) : CALL Try.prog 111 #[x0, x1] w K :=
  call_of_eq (c := Try.f111.body.getD .skip) mixed Try.func111 (by kernel_rfl) (by kernel_rfl) (by kernel_rfl) (Nat.le_of_ble_eq_true (by kernel_rfl)) (eq_ref08_Disk_Cut x0 x1 w K) h

/-- (*cellarage/cellarageref08.Disk).Crash -/
def B_ref08_Disk_Crash (x0 x1 : Value) (w : World) (K : Value → World → Prop) : Prop :=
  loopS (fun Q1 ρ1 w1 =>
  X Try.prog (nilS (ρ1 0)) w1 fun v1_9 w2 =>
  X Try.prog (Instr.fieldAt 148 v1_9 1) w2 fun v2_10 w3 =>
  X Try.prog (Instr.loadAt 146 v2_10) w3 fun v3_11 w4 =>
  X Try.prog (Builtin.len_ #[146] 3 #[v3_11]) w4 fun v4_12 w5 =>
  X Try.prog (binOp .lss 3 (ρ1 4) v4_12) w5 fun v5_13 w6 =>
  condS v5_13 (
  joinS (fun ρ2 w7 =>
  X Try.prog (nilS (ρ2 0)) w7 fun v6_27 w8 =>
  X Try.prog (Instr.fieldAt 148 v6_27 1) w8 fun v7_28 w9 =>
  X Try.prog (Instr.loadAt 146 v7_28) w9 fun v8_29 w10 =>
  X Try.prog (Instr.indexAt 146 v8_29 (ρ2 4)) w10 fun v9_31 w11 =>
  X Try.prog (Instr.loadAt 200 v9_31) w11 fun v10_32 w12 =>
  X Try.prog (Instr.alloc 200 true (.tuple #[])) w12 fun v11_6 w13 =>
  XU Try.prog (Instr.storeAt 200 v11_6 v10_32) w13 fun w14 =>
  ∃ R, Frame? R ∧
  XP Try.prog (nilS (ρ2 0)) (drewW w14) fun v12_34 w15 =>
  XP Try.prog (Instr.fieldAt 148 v12_34 0) w15 fun v13_35 w16 =>
  XR Try.prog R (Instr.loadAt 66 v13_35) w16 fun v14_36 w17 =>
  XP Try.prog (Instr.fieldAt 200 v11_6 0) w17 fun v15_37 w18 =>
  XR Try.prog R (Instr.loadAt 3 v15_37) w18 fun v16_38 w19 =>
  XP Try.prog (Instr.fieldAt 200 v11_6 1) w19 fun v17_39 w20 =>
  XR Try.prog R (Instr.loadAt 9 v17_39) w20 fun v18_40 w21 =>
  XP Try.prog (Instr.sliceAt 9 v18_40 none (some (ρ2 5)) none) w21 fun v19_42 w22 =>
  XP Try.prog (nilS (ρ2 0)) w22 fun v20_44 w23 =>
  XP Try.prog (Instr.fieldAt 148 v20_44 0) w23 fun v21_45 w24 =>
  XR Try.prog R (Instr.loadAt 66 v21_45) w24 fun v22_46 w25 =>
  XP Try.prog (Instr.fieldAt 200 v11_6 0) w25 fun v23_47 w26 =>
  XR Try.prog R (Instr.loadAt 3 v23_47) w26 fun v24_48 w27 =>
  XP Try.prog (Instr.indexAt 66 v22_46 v24_48) w27 fun v25_49 w28 =>
  XR Try.prog R (Instr.loadAt 9 v25_49) w28 fun v26_50 w29 =>
  XP Try.prog (Instr.sliceAt 9 v26_50 (some (ρ2 5)) none none) w29 fun v27_52 w30 =>
  XP Try.prog (binOp .add 9 v19_42 v27_52) w30 fun v28_53 w31 =>
  XP Try.prog (Instr.indexAt 66 v14_36 v16_38) w31 fun v29_54 w32 =>
  XU Try.prog (Instr.storeAt 9 v29_54 v28_53) w32 fun w33 =>
  X Try.prog (binOp .add 3 (ρ2 4) (.int .i64 1)) w33 fun v30_15 w34 =>
  Q1 .normal (upds ρ2 [(4, v30_15), (15, v30_15), (14, (ρ2 4)), (54, v29_54), (53, v28_53), (52, v27_52), (51, (ρ2 5)), (50, v26_50), (49, v25_49), (48, v24_48), (47, v23_47), (46, v22_46), (45, v21_45), (44, v20_44), (43, (ρ2 0)), (42, v19_42), (41, (ρ2 5)), (40, v18_40), (39, v17_39), (38, v16_38), (37, v15_37), (36, v14_36), (35, v13_35), (34, v12_34), (33, (ρ2 0)), (6, v11_6), (32, v10_32), (31, v9_31), (30, (ρ2 4)), (29, v8_29), (28, v7_28), (27, v6_27), (26, (ρ2 0))]) w34) fun J2 =>
  X Try.prog (Builtin.len_ #[79] 3 #[(ρ1 1)]) w6 fun v31_18 w35 =>
  X Try.prog (binOp .lss 3 (ρ1 4) v31_18) w35 fun v32_19 w36 =>
  condS v32_19 (
  X Try.prog (Instr.indexAt 79 (ρ1 1) (ρ1 4)) w36 fun v33_22 w37 =>
  X Try.prog (Instr.loadAt 3 v33_22) w37 fun v34_23 w38 =>
  X Try.prog (Builtin.min_ #[3, 3] 3 #[v34_23, (.int .i64 128)]) w38 fun v35_24 w39 =>
  X Try.prog (Builtin.max_ #[3, 3] 3 #[(.int .i64 0), v35_24]) w39 fun v36_25 w40 =>
  J2 (upds ρ1 [(5, v36_25), (25, v36_25), (24, v35_24), (23, v34_23), (22, v33_22), (21, (ρ1 4)), (20, (ρ1 1)), (19, v32_19), (18, v31_18), (17, (ρ1 1)), (16, (ρ1 4)), (5, (.int .i64 0)), (13, v5_13), (12, v4_12), (11, v3_11), (10, v2_10), (9, v1_9), (8, (ρ1 0)), (7, (ρ1 4))]) w40) (
  J2 (upds ρ1 [(19, v32_19), (18, v31_18), (17, (ρ1 1)), (16, (ρ1 4)), (5, (.int .i64 0)), (13, v5_13), (12, v4_12), (11, v3_11), (10, v2_10), (9, v1_9), (8, (ρ1 0)), (7, (ρ1 4))]) w36)) (
  Q1 (.exit 0) (upds ρ1 [(13, v5_13), (12, v4_12), (11, v3_11), (10, v2_10), (9, v1_9), (8, (ρ1 0)), (7, (ρ1 4))]) w6)) (inBlockS 0 (thenS (fun ρ3 w41 =>
  X Try.prog (nilS (ρ3 0)) w41 fun v37_56 w42 =>
  X Try.prog (Instr.fieldAt 148 v37_56 1) w42 fun v38_57 w43 =>
  XU Try.prog (Instr.storeAt 146 v38_57 (.slice none 0 0)) w43 fun w44 =>
  X Try.prog (nilS (ρ3 0)) w44 fun v39_59 w45 =>
  X Try.prog (Instr.fieldAt 148 v39_59 2) w45 fun v40_60 w46 =>
  XU Try.prog (Instr.storeAt 4 v40_60 (.bool false)) w46 fun w47 =>
  X Try.prog (nilS (ρ3 0)) w47 fun v41_62 w48 =>
  X Try.prog (Instr.fieldAt 148 v41_62 3) w48 fun v42_63 w49 =>
  XU Try.prog (Instr.storeAt 3 v42_63 (.int .i64 (-1))) w49 fun w50 =>
  K (.tuple #[]) w50) (retS Try.prog (Try.f112).results K))) (upds (env0 #[x0, x1]) [(4, (.int .i64 0))]) w

theorem eq_ref08_Disk_Crash (x0 x1 : Value) (w : World) (K : Value → World → Prop) :
    sh Try.prog (Try.f112.body.getD .skip) (retS Try.prog Try.f112.results K) (env0 #[x0, x1]) w = B_ref08_Disk_Crash x0 x1 w K := by kernel_rfl

theorem call_ref08_Disk_Crash (x0 x1 : Value) (w : World) (K : Value → World → Prop) (h : B_ref08_Disk_Crash x0 x1 w K) : CALL Try.prog 112 #[x0, x1] w K :=
  call_of_eq (c := Try.f112.body.getD .skip) mixed Try.func112 (by kernel_rfl) (by kernel_rfl) (by kernel_rfl) (Nat.le_of_ble_eq_true (by kernel_rfl)) (eq_ref08_Disk_Crash x0 x1 w K) h

/-- (*cellarage/cellarageref08.Disk).Read -/
def B_ref08_Disk_Read (x0 x1 : Value) (w : World) (K : Value → World → Prop) : Prop :=
  X Try.prog (binOp .lss 3 x1 (.int .i64 0)) w fun v1_7 w1 =>
  gstep v1_7 false (fun w2 K => K x1 w2) w1 fun v2_9 w3 =>
  gstep v1_7 false (fun w4 K => K x0 w4) w3 fun v3_10 w5 =>
  gstep v1_7 false (fun w6 K => X Try.prog (nilS v3_10) w6 K) w5 fun v4_11 w7 =>
  gstep v1_7 false (fun w8 K => X Try.prog (Instr.fieldAt 148 v4_11 0) w8 K) w7 fun v5_12 w9 =>
  gstep v1_7 false (fun w10 K => X Try.prog (Instr.loadAt 66 v5_12) w10 K) w9 fun v6_13 w11 =>
  gstep v1_7 false (fun w12 K => X Try.prog (Builtin.len_ #[66] 3 #[v6_13]) w12 K) w11 fun v7_14 w13 =>
  gstep v1_7 false (fun w14 K => X Try.prog (binOp .geq 3 v2_9 v7_14) w14 K) w13 fun v8_15 w15 =>
  X Try.prog (pickS v1_7 (.bool true) v8_15) w15 fun v9_16 w16 =>
  condS v9_16 (
  K (.tuple #[(.string { data := #[] }), (.int .i64 1)]) w16) (
  X Try.prog (nilS x0) w16 fun v10_18 w17 =>
  X Try.prog (Instr.fieldAt 148 v10_18 2) w17 fun v11_19 w18 =>
  X Try.prog (Instr.loadAt 4 v11_19) w18 fun v12_20 w19 =>
  condS v12_20 (
  K (.tuple #[(.string { data := #[] }), (.int .i64 6)]) w19) (
  CALL Try.prog 144 #[x0, x1] w19 fun v13_23 w20 =>
  K (.tuple #[v13_23, (.int .i64 0)]) w20))

theorem eq_ref08_Disk_Read (x0 x1 : Value) (w : World) (K : Value → World → Prop) :
    sh Try.prog (Try.f113.body.getD .skip) (retS Try.prog Try.f113.results K) (env0 #[x0, x1]) w = B_ref08_Disk_Read x0 x1 w K := by kernel_rfl

theorem call_ref08_Disk_Read (x0 x1 : Value) (w : World) (K : Value → World → Prop) (h : B_ref08_Disk_Read x0 x1 w K) : CALL Try.prog 113 #[x0, x1] w K :=
  call_of_eq (c := Try.f113.body.getD .skip) mixed Try.func113 (by kernel_rfl) (by kernel_rfl) (by kernel_rfl) (Nat.le_of_ble_eq_true (by kernel_rfl)) (eq_ref08_Disk_Read x0 x1 w K) h

/-- cellarage/cellarageref08.pad -/
def B_ref08_pad (x0 : Value) (w : World) (K : Value → World → Prop) : Prop :=
  X Try.prog (Instr.makeSlice 27 (.int .i64 128) (.int .i64 128)) w fun v1_5 w1 =>
  loopS (fun Q1 ρ1 w2 =>
  X Try.prog (Builtin.len_ #[9] 3 #[(ρ1 0)]) w2 fun v2_8 w3 =>
  X Try.prog (binOp .lss 3 (ρ1 4) v2_8) w3 fun v3_9 w4 =>
  condS v3_9 (
  X Try.prog (Instr.index 9 (ρ1 0) (ρ1 4)) w4 fun v4_16 w5 =>
  X Try.prog (Instr.indexAt 27 (ρ1 3) (ρ1 4)) w5 fun v5_17 w6 =>
  XU Try.prog (Instr.storeAt 5 v5_17 v4_16) w6 fun w7 =>
  X Try.prog (binOp .add 3 (ρ1 4) (.int .i64 1)) w7 fun v6_11 w8 =>
  Q1 .normal (upds ρ1 [(4, v6_11), (11, v6_11), (10, (ρ1 4)), (17, v5_17), (16, v4_16), (15, (ρ1 4)), (14, (ρ1 0)), (13, (ρ1 4)), (12, (ρ1 3)), (9, v3_9), (8, v2_8), (7, (ρ1 0)), (6, (ρ1 4))]) w8) (
  Q1 (.exit 0) (upds ρ1 [(9, v3_9), (8, v2_8), (7, (ρ1 0)), (6, (ρ1 4))]) w4)) (inBlockS 0 (thenS (fun ρ2 w9 =>
  X Try.prog (convert 27 9 (ρ2 3)) w9 fun v7_19 w10 =>
  K v7_19 w10) (retS Try.prog (Try.f133).results K))) (upds (env0 #[x0]) [(4, (.int .i64 0)), (3, v1_5), (5, v1_5), (2, (.string { data := #[] }))]) w1

theorem eq_ref08_pad (x0 : Value) (w : World) (K : Value → World → Prop) :
    sh Try.prog (Try.f133.body.getD .skip) (retS Try.prog Try.f133.results K) (env0 #[x0]) w = B_ref08_pad x0 w K := by kernel_rfl

theorem call_ref08_pad (x0 : Value) (w : World) (K : Value → World → Prop) (h : B_ref08_pad x0 w K) : CALL Try.prog 133 #[x0] w K :=
  call_of_eq (c := Try.f133.body.getD .skip) mixed Try.func133 (by kernel_rfl) (by kernel_rfl) (by kernel_rfl) (Nat.le_of_ble_eq_true (by kernel_rfl)) (eq_ref08_pad x0 w K) h

/-- (*cellarage/cellarageref08.Disk).off -/
def B_ref08_Disk_off (x0 : Value) (w : World) (K : Value → World → Prop) : Prop :=
  joinS (fun ρ1 w1 =>
  X Try.prog (nilS (ρ1 0)) w1 fun v1_15 w2 =>
  X Try.prog (Instr.fieldAt 148 v1_15 2) w2 fun v2_16 w3 =>
  X Try.prog (Instr.loadAt 4 v2_16) w3 fun v3_17 w4 =>
  K v3_17 w4) fun J1 =>
  X Try.prog (nilS x0) w fun v4_4 w5 =>
  X Try.prog (Instr.fieldAt 148 v4_4 3) w5 fun v5_5 w6 =>
  X Try.prog (Instr.loadAt 3 v5_5) w6 fun v6_6 w7 =>
  X Try.prog (binOpG .eql 3 (.tmp 6) (.const (.int .i64 0)) v6_6 (.int .i64 0)) w7 fun v7_7 w8 =>
  condS v7_7 (
  X Try.prog (nilS x0) w8 fun v8_9 w9 =>
  X Try.prog (Instr.fieldAt 148 v8_9 2) w9 fun v9_10 w10 =>
  XU Try.prog (Instr.storeAt 4 v9_10 (.bool true)) w10 fun w11 =>
  X Try.prog (nilS x0) w11 fun v10_12 w12 =>
  X Try.prog (Instr.fieldAt 148 v10_12 3) w12 fun v11_13 w13 =>
  XU Try.prog (Instr.storeAt 3 v11_13 (.int .i64 (-1))) w13 fun w14 =>
  J1 (upds (env0 #[x0]) [(13, v11_13), (12, v10_12), (11, x0), (10, v9_10), (9, v8_9), (8, x0), (7, v7_7), (6, v6_6), (5, v5_5), (4, v4_4), (3, x0), (2, (.bool false))]) w14) (
  J1 (upds (env0 #[x0]) [(7, v7_7), (6, v6_6), (5, v5_5), (4, v4_4), (3, x0), (2, (.bool false))]) w8)

theorem eq_ref08_Disk_off (x0 : Value) (w : World) (K : Value → World → Prop) :
    sh Try.prog (Try.f142.body.getD .skip) (retS Try.prog Try.f142.results K) (env0 #[x0]) w = B_ref08_Disk_off x0 w K := by kernel_rfl

theorem call_ref08_Disk_off (x0 : Value) (w : World) (K : Value → World → Prop) (h : B_ref08_Disk_off x0 w K) : CALL Try.prog 142 #[x0] w K :=
  call_of_eq (c := Try.f142.body.getD .skip) mixed Try.func142 (by kernel_rfl) (by kernel_rfl) (by kernel_rfl) (Nat.le_of_ble_eq_true (by kernel_rfl)) (eq_ref08_Disk_off x0 w K) h

/-- (*cellarage/cellarageref08.Disk).done -/
def B_ref08_Disk_done (x0 : Value) (w : World) (K : Value → World → Prop) : Prop :=
  X Try.prog (nilS x0) w fun v1_4 w1 =>
  X Try.prog (Instr.fieldAt 148 v1_4 4) w1 fun v2_5 w2 =>
  X Try.prog (Instr.loadAt 3 v2_5) w2 fun v3_6 w3 =>
  X Try.prog (binOp .add 3 v3_6 (.int .i64 1)) w3 fun v4_7 w4 =>
  X Try.prog (nilS x0) w4 fun v5_8 w5 =>
  X Try.prog (Instr.fieldAt 148 v5_8 4) w5 fun v6_9 w6 =>
  XU Try.prog (Instr.storeAt 3 v6_9 v4_7) w6 fun w7 =>
  joinS (fun ρ1 w8 =>
  K (.int .i64 0) w8) fun J1 =>
  X Try.prog (nilS x0) w7 fun v7_11 w9 =>
  X Try.prog (Instr.fieldAt 148 v7_11 3) w9 fun v8_12 w10 =>
  X Try.prog (Instr.loadAt 3 v8_12) w10 fun v9_13 w11 =>
  X Try.prog (binOp .gtr 3 v9_13 (.int .i64 0)) w11 fun v10_14 w12 =>
  condS v10_14 (
  X Try.prog (nilS x0) w12 fun v11_16 w13 =>
  X Try.prog (Instr.fieldAt 148 v11_16 3) w13 fun v12_17 w14 =>
  X Try.prog (Instr.loadAt 3 v12_17) w14 fun v13_18 w15 =>
  X Try.prog (binOp .sub 3 v13_18 (.int .i64 1)) w15 fun v14_19 w16 =>
  X Try.prog (nilS x0) w16 fun v15_20 w17 =>
  X Try.prog (Instr.fieldAt 148 v15_20 3) w17 fun v16_21 w18 =>
  XU Try.prog (Instr.storeAt 3 v16_21 v14_19) w18 fun w19 =>
  J1 (upds (env0 #[x0]) [(21, v16_21), (20, v15_20), (19, v14_19), (18, v13_18), (17, v12_17), (16, v11_16), (15, x0), (14, v10_14), (13, v9_13), (12, v8_12), (11, v7_11), (10, x0), (9, v6_9), (8, v5_8), (7, v4_7), (6, v3_6), (5, v2_5), (4, v1_4), (3, x0), (2, (.int .i64 0))]) w19) (
  J1 (upds (env0 #[x0]) [(14, v10_14), (13, v9_13), (12, v8_12), (11, v7_11), (10, x0), (9, v6_9), (8, v5_8), (7, v4_7), (6, v3_6), (5, v2_5), (4, v1_4), (3, x0), (2, (.int .i64 0))]) w12)

theorem eq_ref08_Disk_done (x0 : Value) (w : World) (K : Value → World → Prop) :
    sh Try.prog (Try.f143.body.getD .skip) (retS Try.prog Try.f143.results K) (env0 #[x0]) w = B_ref08_Disk_done x0 w K := by kernel_rfl

theorem call_ref08_Disk_done (x0 : Value) (w : World) (K : Value → World → Prop) (h : B_ref08_Disk_done x0 w K) : CALL Try.prog 143 #[x0] w K :=
  call_of_eq (c := Try.f143.body.getD .skip) mixed Try.func143 (by kernel_rfl) (by kernel_rfl) (by kernel_rfl) (Nat.le_of_ble_eq_true (by kernel_rfl)) (eq_ref08_Disk_done x0 w K) h

/-- (*cellarage/cellarageref08.Disk).now -/
def B_ref08_Disk_now (x0 x1 : Value) (w : World) (K : Value → World → Prop) : Prop :=
  X Try.prog (nilS x0) w fun v1_7 w1 =>
  X Try.prog (Instr.fieldAt 148 v1_7 1) w1 fun v2_8 w2 =>
  X Try.prog (Instr.loadAt 146 v2_8) w2 fun v3_9 w3 =>
  X Try.prog (Builtin.len_ #[146] 3 #[v3_9]) w3 fun v4_10 w4 =>
  X Try.prog (binOp .sub 3 v4_10 (.int .i64 1)) w4 fun v5_11 w5 =>
  loopS (fun Q1 ρ1 w6 =>
  X Try.prog (binOp .geq 3 (ρ1 5) (.int .i64 0)) w6 fun v6_13 w7 =>
  condS v6_13 (
  X Try.prog (nilS (ρ1 0)) w7 fun v7_17 w8 =>
  X Try.prog (Instr.fieldAt 148 v7_17 1) w8 fun v8_18 w9 =>
  X Try.prog (Instr.loadAt 146 v8_18) w9 fun v9_19 w10 =>
  X Try.prog (Instr.indexAt 146 v9_19 (ρ1 5)) w10 fun v10_21 w11 =>
  X Try.prog (Instr.fieldAt 200 v10_21 0) w11 fun v11_22 w12 =>
  X Try.prog (Instr.loadAt 3 v11_22) w12 fun v12_23 w13 =>
  X Try.prog (binOpG .eql 3 (.tmp 23) (.tmp 24) v12_23 (ρ1 1)) w13 fun v13_25 w14 =>
  condS v13_25 (
  X Try.prog (nilS (ρ1 0)) w14 fun v14_27 w15 =>
  X Try.prog (Instr.fieldAt 148 v14_27 1) w15 fun v15_28 w16 =>
  X Try.prog (Instr.loadAt 146 v15_28) w16 fun v16_29 w17 =>
  X Try.prog (Instr.indexAt 146 v16_29 (ρ1 5)) w17 fun v17_31 w18 =>
  X Try.prog (Instr.fieldAt 200 v17_31 1) w18 fun v18_32 w19 =>
  X Try.prog (Instr.loadAt 9 v18_32) w19 fun v19_33 w20 =>
  Q1 .ret (upds ρ1 [(4, v19_33), (33, v19_33), (32, v18_32), (31, v17_31), (30, (ρ1 5)), (29, v16_29), (28, v15_28), (27, v14_27), (26, (ρ1 0)), (25, v13_25), (24, (ρ1 1)), (23, v12_23), (22, v11_22), (21, v10_21), (20, (ρ1 5)), (19, v9_19), (18, v8_18), (17, v7_17), (16, (ρ1 0)), (13, v6_13), (12, (ρ1 5))]) w20) (
  X Try.prog (binOp .sub 3 (ρ1 5) (.int .i64 1)) w14 fun v20_15 w21 =>
  Q1 .normal (upds ρ1 [(5, v20_15), (15, v20_15), (14, (ρ1 5)), (25, v13_25), (24, (ρ1 1)), (23, v12_23), (22, v11_22), (21, v10_21), (20, (ρ1 5)), (19, v9_19), (18, v8_18), (17, v7_17), (16, (ρ1 0)), (13, v6_13), (12, (ρ1 5))]) w21)) (
  Q1 (.exit 0) (upds ρ1 [(13, v6_13), (12, (ρ1 5))]) w7)) (inBlockS 0 (thenS (fun ρ2 w22 =>
  X Try.prog (nilS (ρ2 0)) w22 fun v21_35 w23 =>
  X Try.prog (Instr.fieldAt 148 v21_35 0) w23 fun v22_36 w24 =>
  X Try.prog (Instr.loadAt 66 v22_36) w24 fun v23_37 w25 =>
  X Try.prog (Instr.indexAt 66 v23_37 (ρ2 1)) w25 fun v24_39 w26 =>
  X Try.prog (Instr.loadAt 9 v24_39) w26 fun v25_40 w27 =>
  K v25_40 w27) (retS Try.prog (Try.f144).results K))) (upds (env0 #[x0, x1]) [(5, v5_11), (11, v5_11), (10, v4_10), (9, v3_9), (8, v2_8), (7, v1_7), (6, x0), (4, (.string { data := #[] }))]) w5

theorem eq_ref08_Disk_now (x0 x1 : Value) (w : World) (K : Value → World → Prop) :
    sh Try.prog (Try.f144.body.getD .skip) (retS Try.prog Try.f144.results K) (env0 #[x0, x1]) w = B_ref08_Disk_now x0 x1 w K := by kernel_rfl

theorem call_ref08_Disk_now (x0 x1 : Value) (w : World) (K : Value → World → Prop) (h : B_ref08_Disk_now x0 x1 w K) : CALL Try.prog 144 #[x0, x1] w K :=
  call_of_eq (c := Try.f144.body.getD .skip) mixed Try.func144 (by kernel_rfl) (by kernel_rfl) (by kernel_rfl) (Nat.le_of_ble_eq_true (by kernel_rfl)) (eq_ref08_Disk_now x0 x1 w K) h

/-- cellarage/cellaragelaw08.shown -/
def B_law08_shown (w : World) (K : Value → World → Prop) : Prop :=
  CALL Try.prog 69 #[(.int .i64 2)] w fun v1_9 w1 =>
  X Try.prog (Instr.extract v1_9 0) w1 fun v2_10 w2 =>
  X Try.prog (Instr.extract v1_9 1) w2 fun v3_11 w3 =>
  X Try.prog (binOpG .eql 74 (.tmp 12) (.const (.pointer none)) v2_10 (.pointer none)) w3 fun v4_13 w4 =>
  gstep v4_13 false (fun w5 K => K v3_11 w5) w4 fun v5_15 w6 =>
  gstep v4_13 false (fun w7 K => X Try.prog (binOpG .neq 30 (.tmp 15) (.const (.int .i64 0)) v5_15 (.int .i64 0)) w7 K) w6 fun v6_16 w8 =>
  X Try.prog (pickS v4_13 (.bool true) v6_16) w8 fun v7_17 w9 =>
  gstep v7_17 false (fun w10 K => K v2_10 w10) w9 fun v8_19 w11 =>
  gstep v7_17 false (fun w12 K => X Try.prog (Instr.buildSlice 27 3 #[(0, (.int .u8 120)), (1, (.int .u8 121)), (2, (.int .u8 122))]) w12 K) w11 fun v9_20 w13 =>
  gstep v7_17 false (fun w14 K => X Try.prog (convert 27 27 v9_20) w14 K) w13 fun v10_21 w15 =>
  gstep v7_17 false (fun w16 K => CALL Try.prog 70 #[v8_19, (.int .i64 1), v10_21] w16 K) w15 fun v11_22 w17 =>
  gstep v7_17 false (fun w18 K => X Try.prog (binOpG .neq 30 (.tmp 22) (.const (.int .i64 0)) v11_22 (.int .i64 0)) w18 K) w17 fun v12_23 w19 =>
  X Try.prog (pickS v7_17 (.bool true) v12_23) w19 fun v13_24 w20 =>
  condS v13_24 (
  K (.bool false) w20) (
  CALL Try.prog 72 #[v2_10, (.slice none 0 0)] w20 fun v14_26 w21 =>
  CALL Try.prog 73 #[v2_10, (.int .i64 1)] w21 fun v15_29 w22 =>
  X Try.prog (Instr.extract v15_29 0) w22 fun v16_30 w23 =>
  X Try.prog (Instr.extract v15_29 1) w23 fun v17_31 w24 =>
  X Try.prog (Instr.buildSlice 27 3 #[(0, (.int .u8 120)), (1, (.int .u8 121)), (2, (.int .u8 122))]) w24 fun v18_33 w25 =>
  X Try.prog (convert 27 27 v18_33) w25 fun v19_34 w26 =>
  CALL Try.prog 70 #[v2_10, (.int .i64 1), v19_34] w26 fun v20_35 w27 =>
  X Try.prog (Instr.buildSlice 79 1 #[(0, (.int .i64 2))]) w27 fun v21_37 w28 =>
  CALL Try.prog 72 #[v2_10, v21_37] w28 fun v22_38 w29 =>
  CALL Try.prog 73 #[v2_10, (.int .i64 1)] w29 fun v23_41 w30 =>
  X Try.prog (Instr.extract v23_41 0) w30 fun v24_42 w31 =>
  X Try.prog (Instr.extract v23_41 1) w31 fun v25_43 w32 =>
  ∃ R, Frame? R ∧
  XP Try.prog (Builtin.len_ #[27] 3 #[v16_30]) (drewW w32) fun v26_45 w33 =>
  XP Try.prog (binOpG .eql 3 (.tmp 45) (.const (.int .i64 128)) v26_45 (.int .i64 128)) w33 fun v27_46 w34 =>
  gstep v27_46 true (fun w35 K => K v16_30 w35) w34 fun v28_48 w36 =>
  gstep v27_46 true (fun w37 K => XR Try.prog R (convert 27 9 v28_48) w37 K) w36 fun v29_49 w38 =>
  gstep v27_46 true (fun w39 K => X Try.prog (Instr.makeSlice 27 (.int .i64 128) (.int .i64 128)) w39 K) w38 fun v30_50 w40 =>
  R w38 w40 ∧
  gstep v27_46 true (fun w41 K => XR Try.prog R (convert 27 9 v30_50) w41 K) w40 fun v31_51 w42 =>
  gstep v27_46 true (fun w43 K => XP Try.prog (binOpG .eql 9 (.tmp 49) (.tmp 51) v29_49 v31_51) w43 K) w42 fun v32_52 w44 =>
  XP Try.prog (pickS v27_46 v32_52 (.bool false)) w44 fun v33_53 w45 =>
  gstep v33_53 true (fun w46 K => K v24_42 w46) w45 fun v34_55 w47 =>
  gstep v33_53 true (fun w48 K => XP Try.prog (Builtin.len_ #[27] 3 #[v34_55]) w48 K) w47 fun v35_56 w49 =>
  gstep v33_53 true (fun w50 K => XP Try.prog (binOpG .eql 3 (.tmp 56) (.const (.int .i64 128)) v35_56 (.int .i64 128)) w50 K) w49 fun v36_57 w51 =>
  XP Try.prog (pickS v33_53 v36_57 (.bool false)) w51 fun v37_58 w52 =>
  gstep v37_58 true (fun w53 K => K v24_42 w53) w52 fun v38_60 w54 =>
  gstep v37_58 true (fun w55 K => XP Try.prog (Instr.sliceAt 27 v38_60 none (some (.int .i64 3)) none) w55 K) w54 fun v39_61 w56 =>
  gstep v37_58 true (fun w57 K => XR Try.prog R (convert 27 9 v39_61) w57 K) w56 fun v40_62 w58 =>
  gstep v37_58 true (fun w59 K => XP Try.prog (binOpG .eql 9 (.tmp 62) (.const (.string { data := #[120, 121, 0] })) v40_62 (.string { data := #[120, 121, 0] })) w59 K) w58 fun v41_63 w60 =>
  XP Try.prog (pickS v37_58 v41_63 (.bool false)) w60 fun v42_64 w61 =>
  gstep v42_64 true (fun w62 K => K v17_31 w62) w61 fun v43_66 w63 =>
  gstep v42_64 true (fun w64 K => XP Try.prog (binOpG .eql 30 (.tmp 66) (.const (.int .i64 0)) v43_66 (.int .i64 0)) w64 K) w63 fun v44_67 w65 =>
  XP Try.prog (pickS v42_64 v44_67 (.bool false)) w65 fun v45_68 w66 =>
  gstep v45_68 true (fun w67 K => K v20_35 w67) w66 fun v46_70 w68 =>
  gstep v45_68 true (fun w69 K => XP Try.prog (binOpG .eql 30 (.tmp 70) (.const (.int .i64 0)) v46_70 (.int .i64 0)) w69 K) w68 fun v47_71 w70 =>
  XP Try.prog (pickS v45_68 v47_71 (.bool false)) w70 fun v48_72 w71 =>
  gstep v48_72 true (fun w72 K => K v25_43 w72) w71 fun v49_74 w73 =>
  gstep v48_72 true (fun w74 K => XP Try.prog (binOpG .eql 30 (.tmp 74) (.const (.int .i64 0)) v49_74 (.int .i64 0)) w74 K) w73 fun v50_75 w75 =>
  XP Try.prog (pickS v48_72 v50_75 (.bool false)) w75 fun v51_76 w76 =>
  gstep v51_76 true (fun w77 K => K v2_10 w77) w76 fun v52_78 w78 =>
  gstep v51_76 true (fun w79 K => CALL Try.prog 70 #[v52_78, (.int .i64 2), (.slice none 0 0)] w79 K) w78 fun v53_79 w80 =>
  R w78 w80 ∧
  gstep v51_76 true (fun w81 K => XP Try.prog (binOpG .eql 30 (.tmp 79) (.const (.int .i64 1)) v53_79 (.int .i64 1)) w81 K) w80 fun v54_80 w82 =>
  XP Try.prog (pickS v51_76 v54_80 (.bool false)) w82 fun v55_81 w83 =>
  K v55_81 w83)

theorem eq_law08_shown (w : World) (K : Value → World → Prop) :
    sh Try.prog (Try.f68.body.getD .skip) (retS Try.prog Try.f68.results K) (env0 #[]) w = B_law08_shown  w K := by kernel_rfl

theorem call_law08_shown (w : World) (K : Value → World → Prop) (h : B_law08_shown  w K) : CALL Try.prog 68 #[] w K :=
  call_of_eq (c := Try.f68.body.getD .skip) mixed Try.func68 (by kernel_rfl) (by kernel_rfl) (by kernel_rfl) (Nat.le_of_ble_eq_true (by kernel_rfl)) (eq_law08_shown  w K) h

/-- cellarage/cellaragelaw08.few -/
def B_law08_few (x0 : Value) (w : World) (K : Value → World → Prop) : Prop :=
  X Try.prog (Builtin.len_ #[83] 3 #[x0]) w fun v1_6 w1 =>
  loopS (fun Q1 ρ1 w2 =>
  X Try.prog (binOp .lss 3 (ρ1 7) (ρ1 6)) w2 fun v2_8 w3 =>
  condS v2_8 (
  X Try.prog (binOp .geq 3 (ρ1 7) (.int .i64 100)) w3 fun v3_11 w4 =>
  gstep v3_11 false (fun w5 K => K (ρ1 0) w5) w4 fun v4_13 w6 =>
  gstep v3_11 false (fun w7 K => K (ρ1 7) w7) w6 fun v5_14 w8 =>
  gstep v3_11 false (fun w9 K => X Try.prog (Instr.indexAt 83 v4_13 v5_14) w9 K) w8 fun v6_15 w10 =>
  gstep v3_11 false (fun w11 K => X Try.prog (Instr.fieldAt 86 v6_15 3) w11 K) w10 fun v7_16 w12 =>
  gstep v3_11 false (fun w13 K => X Try.prog (Instr.loadAt 27 v7_16) w13 K) w12 fun v8_17 w14 =>
  gstep v3_11 false (fun w15 K => X Try.prog (Builtin.len_ #[27] 3 #[v8_17]) w15 K) w14 fun v9_18 w16 =>
  gstep v3_11 false (fun w17 K => K (ρ1 3) w17) w16 fun v10_19 w18 =>
  gstep v3_11 false (fun w19 K => X Try.prog (binOp .gtr 3 v9_18 v10_19) w19 K) w18 fun v11_20 w20 =>
  X Try.prog (pickS v3_11 (.bool true) v11_20) w20 fun v12_21 w21 =>
  condS v12_21 (
  X Try.prog (Instr.sliceAt 83 (ρ1 0) none (some (ρ1 7)) none) w21 fun v13_24 w22 =>
  Q1 .ret (upds ρ1 [(2, v13_24), (24, v13_24), (23, (ρ1 7)), (22, (ρ1 0)), (21, v12_21), (20, v11_20), (19, v10_19), (18, v9_18), (17, v8_17), (16, v7_16), (15, v6_15), (14, v5_14), (13, v4_13), (12, v3_11), (11, v3_11), (10, (ρ1 7)), (4, (ρ1 7)), (9, (ρ1 7)), (8, v2_8)]) w22) (
  X Try.prog (Instr.indexAt 83 (ρ1 0) (ρ1 7)) w21 fun v14_28 w23 =>
  X Try.prog (Instr.fieldAt 86 v14_28 3) w23 fun v15_29 w24 =>
  X Try.prog (Instr.loadAt 27 v15_29) w24 fun v16_30 w25 =>
  X Try.prog (Builtin.len_ #[27] 3 #[v16_30]) w25 fun v17_31 w26 =>
  X Try.prog (binOp .sub 3 (ρ1 3) v17_31) w26 fun v18_32 w27 =>
  X Try.prog (binOp .add 3 (ρ1 7) (.int .i64 1)) w27 fun v19_33 w28 =>
  Q1 .normal (upds ρ1 [(7, v19_33), (33, v19_33), (3, v18_32), (32, v18_32), (31, v17_31), (30, v16_30), (29, v15_29), (28, v14_28), (27, (ρ1 7)), (26, (ρ1 0)), (25, (ρ1 3)), (21, v12_21), (20, v11_20), (19, v10_19), (18, v9_18), (17, v8_17), (16, v7_16), (15, v6_15), (14, v5_14), (13, v4_13), (12, v3_11), (11, v3_11), (10, (ρ1 7)), (4, (ρ1 7)), (9, (ρ1 7)), (8, v2_8)]) w28)) (
  Q1 (.exit 0) (upds ρ1 [(8, v2_8)]) w3)) (inBlockS 0 (thenS (fun ρ2 w29 =>
  K (ρ2 0) w29) (retS Try.prog (Try.f74).results K))) (upds (env0 #[x0]) [(7, (.int .i64 0)), (6, v1_6), (5, x0), (3, (.int .i64 20000)), (2, (.slice none 0 0))]) w1

theorem eq_law08_few (x0 : Value) (w : World) (K : Value → World → Prop) :
    sh Try.prog (Try.f74.body.getD .skip) (retS Try.prog Try.f74.results K) (env0 #[x0]) w = B_law08_few x0 w K := by kernel_rfl

theorem call_law08_few (x0 : Value) (w : World) (K : Value → World → Prop) (h : B_law08_few x0 w K) : CALL Try.prog 74 #[x0] w K :=
  call_of_eq (c := Try.f74.body.getD .skip) mixed Try.func74 (by kernel_rfl) (by kernel_rfl) (by kernel_rfl) (Nat.le_of_ble_eq_true (by kernel_rfl)) (eq_law08_few x0 w K) h

/-- cellarage/cellaragelaw08.does -/
def B_law08_does (x0 x1 : Value) (w : World) (K : Value → World → Prop) : Prop :=
  X Try.prog (Instr.box 86 x1) w fun v1_3 w1 =>
  joinS (fun ρ1 w2 =>
  K (.int .i64 0) w2) fun J1 =>
  X Try.prog (Instr.fieldAt 86 v1_3 0) w1 fun v2_5 w3 =>
  X Try.prog (Instr.loadAt 5 v2_5) w3 fun v3_6 w4 =>
  X Try.prog (binOp .rem 5 v3_6 (.int .u8 5)) w4 fun v4_7 w5 =>
  X Try.prog (binOpG .eql 5 (.tmp 7) (.const (.int .u8 0)) v4_7 (.int .u8 0)) w5 fun v5_9 w6 =>
  condS v5_9 (
  ∃ R, Frame? R ∧
  XP Try.prog (Instr.fieldAt 86 v1_3 1) (drewW w6) fun v6_11 w7 =>
  XR Try.prog R (Instr.loadAt 3 v6_11) w7 fun v7_12 w8 =>
  XP Try.prog (Instr.fieldAt 86 v1_3 3) w8 fun v8_14 w9 =>
  XR Try.prog R (Instr.loadAt 27 v8_14) w9 fun v9_15 w10 =>
  X Try.prog (Instr.buildSlice 27 0 #[]) w10 fun v10_13 w11 =>
  R w10 w11 ∧
  X Try.prog (Builtin.append_ #[27, 27] 27 #[v10_13, v9_15]) w11 fun v11_16 w12 =>
  R w11 w12 ∧
  CALL Try.prog 70 #[x0, v7_12, v11_16] w12 fun v12_17 w13 =>
  R w12 w13 ∧
  K v12_17 w13) (
  X Try.prog (binOpG .eql 5 (.tmp 7) (.const (.int .u8 1)) v4_7 (.int .u8 1)) w6 fun v13_19 w14 =>
  condS v13_19 (
  CALL Try.prog 71 #[x0] w14 fun v14_21 w15 =>
  K v14_21 w15) (
  X Try.prog (binOpG .eql 5 (.tmp 7) (.const (.int .u8 2)) v4_7 (.int .u8 2)) w14 fun v15_23 w16 =>
  condS v15_23 (
  X Try.prog (Instr.fieldAt 86 v1_3 2) w16 fun v16_25 w17 =>
  X Try.prog (Instr.loadAt 3 v16_25) w17 fun v17_26 w18 =>
  CALL Try.prog 78 #[x0, v17_26] w18 fun v18_27 w19 =>
  J1 (upds (env0 #[x0, x1]) [(27, v18_27), (26, v17_26), (25, v16_25), (24, x0), (22, v15_23), (23, v15_23), (18, v13_19), (19, v13_19), (8, v5_9), (9, v5_9), (7, v4_7), (6, v3_6), (5, v2_5), (4, (.int .i64 0)), (3, v1_3)]) w19) (
  X Try.prog (binOpG .eql 5 (.tmp 7) (.const (.int .u8 3)) v4_7 (.int .u8 3)) w16 fun v19_29 w20 =>
  condS v19_29 (
  X Try.prog (Instr.fieldAt 86 v1_3 4) w20 fun v20_31 w21 =>
  X Try.prog (Instr.loadAt 79 v20_31) w21 fun v21_32 w22 =>
  CALL Try.prog 72 #[x0, v21_32] w22 fun v22_33 w23 =>
  J1 (upds (env0 #[x0, x1]) [(33, v22_33), (32, v21_32), (31, v20_31), (30, x0), (28, v19_29), (29, v19_29), (22, v15_23), (23, v15_23), (18, v13_19), (19, v13_19), (8, v5_9), (9, v5_9), (7, v4_7), (6, v3_6), (5, v2_5), (4, (.int .i64 0)), (3, v1_3)]) w23) (
  J1 (upds (env0 #[x0, x1]) [(28, v19_29), (29, v19_29), (22, v15_23), (23, v15_23), (18, v13_19), (19, v13_19), (8, v5_9), (9, v5_9), (7, v4_7), (6, v3_6), (5, v2_5), (4, (.int .i64 0)), (3, v1_3)]) w20))))

theorem eq_law08_does (x0 x1 : Value) (w : World) (K : Value → World → Prop) :
    sh Try.prog (Try.f75.body.getD .skip) (retS Try.prog Try.f75.results K) (env0 #[x0, x1]) w = B_law08_does x0 x1 w K := by kernel_rfl

theorem call_law08_does (x0 x1 : Value) (w : World) (K : Value → World → Prop) (h : B_law08_does x0 x1 w K) : CALL Try.prog 75 #[x0, x1] w K :=
  call_of_eq (c := Try.f75.body.getD .skip) mixed Try.func75 (by kernel_rfl) (by kernel_rfl) (by kernel_rfl) (Nat.le_of_ble_eq_true (by kernel_rfl)) (eq_law08_does x0 x1 w K) h

/-- cellarage/cellaragelaw08.model -/
def B_law08_model (x0 x1 : Value) (w : World) (K : Value → World → Prop) : Prop :=
  X Try.prog (Instr.box 86 x1) w fun v1_3 w1 =>
  joinS (fun ρ1 w2 =>
  K (.int .i64 0) w2) fun J1 =>
  X Try.prog (Instr.fieldAt 86 v1_3 0) w1 fun v2_5 w3 =>
  X Try.prog (Instr.loadAt 5 v2_5) w3 fun v3_6 w4 =>
  X Try.prog (binOp .rem 5 v3_6 (.int .u8 5)) w4 fun v4_7 w5 =>
  X Try.prog (binOpG .eql 5 (.tmp 7) (.const (.int .u8 0)) v4_7 (.int .u8 0)) w5 fun v5_9 w6 =>
  condS v5_9 (
  X Try.prog (Instr.fieldAt 86 v1_3 1) w6 fun v6_11 w7 =>
  X Try.prog (Instr.loadAt 3 v6_11) w7 fun v7_12 w8 =>
  X Try.prog (Instr.fieldAt 86 v1_3 3) w8 fun v8_13 w9 =>
  X Try.prog (Instr.loadAt 27 v8_13) w9 fun v9_14 w10 =>
  X Try.prog (convert 27 9 v9_14) w10 fun v10_15 w11 =>
  CALL Try.prog 109 #[x0, v7_12, v10_15] w11 fun v11_16 w12 =>
  K v11_16 w12) (
  X Try.prog (binOpG .eql 5 (.tmp 7) (.const (.int .u8 1)) v4_7 (.int .u8 1)) w6 fun v12_18 w13 =>
  condS v12_18 (
  CALL Try.prog 110 #[x0] w13 fun v13_20 w14 =>
  K v13_20 w14) (
  X Try.prog (binOpG .eql 5 (.tmp 7) (.const (.int .u8 2)) v4_7 (.int .u8 2)) w13 fun v14_22 w15 =>
  condS v14_22 (
  X Try.prog (Instr.fieldAt 86 v1_3 2) w15 fun v15_24 w16 =>
  X Try.prog (Instr.loadAt 3 v15_24) w16 fun v16_25 w17 =>
  CALL Try.prog 111 #[x0, v16_25] w17 fun v17_26 w18 =>
  J1 (upds (env0 #[x0, x1]) [(26, v17_26), (25, v16_25), (24, v15_24), (23, x0), (21, v14_22), (22, v14_22), (17, v12_18), (18, v12_18), (8, v5_9), (9, v5_9), (7, v4_7), (6, v3_6), (5, v2_5), (4, (.int .i64 0)), (3, v1_3)]) w18) (
  X Try.prog (binOpG .eql 5 (.tmp 7) (.const (.int .u8 3)) v4_7 (.int .u8 3)) w15 fun v18_28 w19 =>
  condS v18_28 (
  X Try.prog (Instr.fieldAt 86 v1_3 4) w19 fun v19_30 w20 =>
  X Try.prog (Instr.loadAt 79 v19_30) w20 fun v20_31 w21 =>
  CALL Try.prog 112 #[x0, v20_31] w21 fun v21_32 w22 =>
  J1 (upds (env0 #[x0, x1]) [(32, v21_32), (31, v20_31), (30, v19_30), (29, x0), (27, v18_28), (28, v18_28), (21, v14_22), (22, v14_22), (17, v12_18), (18, v12_18), (8, v5_9), (9, v5_9), (7, v4_7), (6, v3_6), (5, v2_5), (4, (.int .i64 0)), (3, v1_3)]) w22) (
  J1 (upds (env0 #[x0, x1]) [(27, v18_28), (28, v18_28), (21, v14_22), (22, v14_22), (17, v12_18), (18, v12_18), (8, v5_9), (9, v5_9), (7, v4_7), (6, v3_6), (5, v2_5), (4, (.int .i64 0)), (3, v1_3)]) w19))))

theorem eq_law08_model (x0 x1 : Value) (w : World) (K : Value → World → Prop) :
    sh Try.prog (Try.f82.body.getD .skip) (retS Try.prog Try.f82.results K) (env0 #[x0, x1]) w = B_law08_model x0 x1 w K := by kernel_rfl

theorem call_law08_model (x0 x1 : Value) (w : World) (K : Value → World → Prop) (h : B_law08_model x0 x1 w K) : CALL Try.prog 82 #[x0, x1] w K :=
  call_of_eq (c := Try.f82.body.getD .skip) mixed Try.func82 (by kernel_rfl) (by kernel_rfl) (by kernel_rfl) (Nat.le_of_ble_eq_true (by kernel_rfl)) (eq_law08_model x0 x1 w K) h

/-- cellarage/cellaragelaw08.alike -/
def B_law08_alike (x0 x1 : Value) (w : World) (K : Value → World → Prop) : Prop :=
  ∃ R, Frame? R ∧
  XP Try.prog (nilS x1) (drewW w) fun v1_14 w1 =>
  XP Try.prog (Instr.fieldAt 148 v1_14 0) w1 fun v2_15 w2 =>
  XR Try.prog R (Instr.loadAt 66 v2_15) w2 fun v3_16 w3 =>
  XP Try.prog (Builtin.len_ #[66] 3 #[v3_16]) w3 fun v4_17 w4 =>
  CALL Try.prog 84 #[x0] w4 fun v5_12 w5 =>
  R w4 w5 ∧
  XP Try.prog (binOpG .neq 3 (.tmp 12) (.tmp 17) v5_12 v4_17) w5 fun v6_18 w6 =>
  gstep v6_18 false (fun w7 K => K x0 w7) w6 fun v7_20 w8 =>
  gstep v6_18 false (fun w9 K => K x1 w9) w8 fun v8_22 w10 =>
  gstep v6_18 false (fun w11 K => XP Try.prog (nilS v8_22) w11 K) w10 fun v9_23 w12 =>
  gstep v6_18 false (fun w13 K => XP Try.prog (Instr.fieldAt 148 v9_23 1) w13 K) w12 fun v10_24 w14 =>
  gstep v6_18 false (fun w15 K => XR Try.prog R (Instr.loadAt 146 v10_24) w15 K) w14 fun v11_25 w16 =>
  gstep v6_18 false (fun w17 K => XP Try.prog (Builtin.len_ #[146] 3 #[v11_25]) w17 K) w16 fun v12_26 w18 =>
  gstep v6_18 false (fun w19 K => CALL Try.prog 77 #[v7_20] w19 K) w18 fun v13_21 w20 =>
  R w18 w20 ∧
  gstep v6_18 false (fun w21 K => XP Try.prog (binOpG .neq 3 (.tmp 21) (.tmp 26) v13_21 v12_26) w21 K) w20 fun v14_27 w22 =>
  XP Try.prog (pickS v6_18 (.bool true) v14_27) w22 fun v15_28 w23 =>
  gstep v15_28 false (fun w24 K => K x0 w24) w23 fun v16_30 w25 =>
  gstep v15_28 false (fun w26 K => K x1 w26) w25 fun v17_32 w27 =>
  gstep v15_28 false (fun w28 K => XP Try.prog (nilS v17_32) w28 K) w27 fun v18_33 w29 =>
  gstep v15_28 false (fun w30 K => XP Try.prog (Instr.fieldAt 148 v18_33 2) w30 K) w29 fun v19_34 w31 =>
  gstep v15_28 false (fun w32 K => XR Try.prog R (Instr.loadAt 4 v19_34) w32 K) w31 fun v20_35 w33 =>
  gstep v15_28 false (fun w34 K => CALL Try.prog 76 #[v16_30] w34 K) w33 fun v21_31 w35 =>
  R w33 w35 ∧
  gstep v15_28 false (fun w36 K => XP Try.prog (binOpG .neq 4 (.tmp 31) (.tmp 35) v21_31 v20_35) w36 K) w35 fun v22_36 w37 =>
  XP Try.prog (pickS v15_28 (.bool true) v22_36) w37 fun v23_37 w38 =>
  gstep v23_37 false (fun w39 K => K x0 w39) w38 fun v24_39 w40 =>
  gstep v23_37 false (fun w41 K => K x1 w41) w40 fun v25_41 w42 =>
  gstep v23_37 false (fun w43 K => XP Try.prog (nilS v25_41) w43 K) w42 fun v26_42 w44 =>
  gstep v23_37 false (fun w45 K => XP Try.prog (Instr.fieldAt 148 v26_42 4) w45 K) w44 fun v27_43 w46 =>
  gstep v23_37 false (fun w47 K => XR Try.prog R (Instr.loadAt 3 v27_43) w47 K) w46 fun v28_44 w48 =>
  gstep v23_37 false (fun w49 K => CALL Try.prog 79 #[v24_39] w49 K) w48 fun v29_40 w50 =>
  R w48 w50 ∧
  gstep v23_37 false (fun w51 K => XP Try.prog (binOpG .neq 3 (.tmp 40) (.tmp 44) v29_40 v28_44) w51 K) w50 fun v30_45 w52 =>
  XP Try.prog (pickS v23_37 (.bool true) v30_45) w52 fun v31_46 w53 =>
  condS v31_46 (
  K (.bool false) w53) (
  loopS (fun Q1 ρ1 w54 =>
  X Try.prog (nilS (ρ1 1)) w54 fun v32_49 w55 =>
  X Try.prog (Instr.fieldAt 148 v32_49 0) w55 fun v33_50 w56 =>
  X Try.prog (Instr.loadAt 66 v33_50) w56 fun v34_51 w57 =>
  X Try.prog (Builtin.len_ #[66] 3 #[v34_51]) w57 fun v35_52 w58 =>
  X Try.prog (Builtin.min_ #[3, 3] 3 #[(.int .i64 40), v35_52]) w58 fun v36_53 w59 =>
  X Try.prog (binOp .leq 3 (ρ1 5) v36_53) w59 fun v37_54 w60 =>
  condS v37_54 (
  CALL Try.prog 73 #[(ρ1 0), (ρ1 5)] w60 fun v38_60 w61 =>
  X Try.prog (Instr.extract v38_60 0) w61 fun v39_61 w62 =>
  X Try.prog (Instr.extract v38_60 1) w62 fun v40_62 w63 =>
  CALL Try.prog 113 #[(ρ1 1), (ρ1 5)] w63 fun v41_66 w64 =>
  X Try.prog (Instr.extract v41_66 0) w64 fun v42_67 w65 =>
  X Try.prog (Instr.extract v41_66 1) w65 fun v43_68 w66 =>
  X Try.prog (convert 27 9 v39_61) w66 fun v44_70 w67 =>
  X Try.prog (binOpG .neq 9 (.tmp 70) (.tmp 71) v44_70 v42_67) w67 fun v45_72 w68 =>
  gstep v45_72 false (fun w69 K => K v40_62 w69) w68 fun v46_74 w70 =>
  gstep v45_72 false (fun w71 K => K v43_68 w71) w70 fun v47_75 w72 =>
  gstep v45_72 false (fun w73 K => X Try.prog (binOpG .neq 30 (.tmp 74) (.tmp 75) v46_74 v47_75) w73 K) w72 fun v48_76 w74 =>
  X Try.prog (pickS v45_72 (.bool true) v48_76) w74 fun v49_77 w75 =>
  condS v49_77 (
  Q1 .ret (upds ρ1 [(4, (.bool false)), (77, v49_77), (76, v48_76), (75, v47_75), (74, v46_74), (73, v45_72), (72, v45_72), (71, v42_67), (70, v44_70), (69, v39_61), (9, v43_68), (8, v42_67), (68, v43_68), (67, v42_67), (63, v41_66), (66, v41_66), (65, (ρ1 5)), (64, (ρ1 1)), (7, v40_62), (6, v39_61), (62, v40_62), (61, v39_61), (57, v38_60), (60, v38_60), (59, (ρ1 5)), (58, (ρ1 0)), (54, v37_54), (53, v36_53), (52, v35_52), (51, v34_51), (50, v33_50), (49, v32_49), (48, (ρ1 1)), (47, (ρ1 5))]) w75) (
  X Try.prog (Builtin.len_ #[27] 3 #[v39_61]) w75 fun v50_79 w76 =>
  loopS (fun Q2 ρ2 w77 =>
  X Try.prog (binOp .lss 3 (ρ2 80) (ρ2 79)) w77 fun v51_81 w78 =>
  condS v51_81 (
  X Try.prog (Instr.indexAt 27 (ρ2 6) (ρ2 80)) w78 fun v52_85 w79 =>
  X Try.prog (Instr.loadAt 5 v52_85) w79 fun v53_86 w80 =>
  X Try.prog (binOp .xor 5 v53_86 (.int .u8 255)) w80 fun v54_87 w81 =>
  X Try.prog (Instr.indexAt 27 (ρ2 6) (ρ2 80)) w81 fun v55_88 w82 =>
  XU Try.prog (Instr.storeAt 5 v55_88 v54_87) w82 fun w83 =>
  X Try.prog (binOp .add 3 (ρ2 80) (.int .i64 1)) w83 fun v56_89 w84 =>
  Q2 .normal (upds ρ2 [(80, v56_89), (89, v56_89), (88, v55_88), (87, v54_87), (86, v53_86), (85, v52_85), (84, (ρ2 80)), (83, (ρ2 6)), (10, (ρ2 80)), (82, (ρ2 80)), (81, v51_81)]) w84) (
  Q2 (.exit 2) (upds ρ2 [(81, v51_81)]) w78)) (inBlockS 2 (inBlockS 1 (thenS (fun ρ3 w85 =>
  X Try.prog (binOp .add 3 (ρ3 5) (.int .i64 1)) w85 fun v57_56 w86 =>
  Q1 .normal (upds ρ3 [(5, v57_56), (56, v57_56), (55, (ρ3 5))]) w86) Q1))) (upds ρ1 [(80, (.int .i64 0)), (79, v50_79), (78, v39_61), (77, v49_77), (76, v48_76), (75, v47_75), (74, v46_74), (73, v45_72), (72, v45_72), (71, v42_67), (70, v44_70), (69, v39_61), (9, v43_68), (8, v42_67), (68, v43_68), (67, v42_67), (63, v41_66), (66, v41_66), (65, (ρ1 5)), (64, (ρ1 1)), (7, v40_62), (6, v39_61), (62, v40_62), (61, v39_61), (57, v38_60), (60, v38_60), (59, (ρ1 5)), (58, (ρ1 0)), (54, v37_54), (53, v36_53), (52, v35_52), (51, v34_51), (50, v33_50), (49, v32_49), (48, (ρ1 1)), (47, (ρ1 5))]) w76)) (
  Q1 (.exit 0) (upds ρ1 [(54, v37_54), (53, v36_53), (52, v35_52), (51, v34_51), (50, v33_50), (49, v32_49), (48, (ρ1 1)), (47, (ρ1 5))]) w60)) (inBlockS 0 (thenS (fun ρ4 w87 =>
  K (.bool true) w87) (retS Try.prog (Try.f83).results K))) (upds (env0 #[x0, x1]) [(5, (.int .i64 (-1))), (46, v31_46), (45, v30_45), (40, v29_40), (44, v28_44), (43, v27_43), (42, v26_42), (41, v25_41), (39, v24_39), (38, v23_37), (37, v23_37), (36, v22_36), (31, v21_31), (35, v20_35), (34, v19_34), (33, v18_33), (32, v17_32), (30, v16_30), (29, v15_28), (28, v15_28), (27, v14_27), (21, v13_21), (26, v12_26), (25, v11_25), (24, v10_24), (23, v9_23), (22, v8_22), (20, v7_20), (19, v6_18), (18, v6_18), (12, v5_12), (17, v4_17), (16, v3_16), (15, v2_15), (14, v1_14), (13, x1), (11, x0), (4, (.bool false))]) w53)

theorem eq_law08_alike (x0 x1 : Value) (w : World) (K : Value → World → Prop) :
    sh Try.prog (Try.f83.body.getD .skip) (retS Try.prog Try.f83.results K) (env0 #[x0, x1]) w = B_law08_alike x0 x1 w K := by kernel_rfl

theorem call_law08_alike (x0 x1 : Value) (w : World) (K : Value → World → Prop) (h : B_law08_alike x0 x1 w K) : CALL Try.prog 83 #[x0, x1] w K :=
  call_of_eq (c := Try.f83.body.getD .skip) mixed Try.func83 (by kernel_rfl) (by kernel_rfl) (by kernel_rfl) (Nat.le_of_ble_eq_true (by kernel_rfl)) (eq_law08_alike x0 x1 w K) h

end Go.Proofs.Ytggggfcgnkllgaa
