/- Part 4 of what the law is proved with: T7 Frame Order Args Row Disk1 Disk2 Disk3 Disk4 Disk5. -/
import Derived.ProofKit
import Derived.SizedLaws
import Derived.OpenShut
import GoSem.Op.String
import Derived.ChangeMaps5
import Derived.Test.YtggggfcgnkllgaaQHC3
section
set_option linter.unusedVariables false
namespace Go.Proofs.Ytggggfcgnkllgaa
open Go Go.Sh
attribute [local irreducible] X XU XP XR CALL loopS resC closS
/-- cellarage/disk.New -/
def B_disk_New (x0 : Value) (w : World) (K : Value → World → Prop) : Prop :=
  X Try.prog (binOp .lss 3 x0 (.int .i64 0)) w fun v1_5 w1 =>
  gstep v1_5 false (fun w2 K => K x0 w2) w1 fun v2_7 w3 =>
  gstep v1_5 false (fun w4 K => X Try.prog (binOp .gtr 3 v2_7 (.int .i64 16384)) w4 K) w3 fun v3_8 w5 =>
  X Try.prog (pickS v1_5 (.bool true) v3_8) w5 fun v4_9 w6 =>
  condS v4_9 (
  K (.tuple #[(.pointer none), (.int .i64 1)]) w6) (
  ∃ R, Frame? R ∧
  (X Try.prog (Instr.makeSlice 180 x0 x0) (drewW w6) fun v5_11 w7 =>
  X Try.prog (Instr.makeSlice 180 x0 x0) w7 fun v6_13 w8 =>
  XP Try.prog (Instr.build 183 #[(0, v5_11), (1, v6_13), (4, (.int .i64 (-1)))]) w8 fun v7_14 w9 =>
  X Try.prog (Instr.box 183 v7_14) w9 fun v8_15 w10 =>
  K (.tuple #[v8_15, (.int .i64 0)]) w10) ∧
  (X Try.prog (Instr.makeSlice 180 x0 x0) (drewW w6) fun v9_13 w11 =>
  X Try.prog (Instr.makeSlice 180 x0 x0) w11 fun v10_11 w12 =>
  XP Try.prog (Instr.build 183 #[(0, v10_11), (1, v9_13), (4, (.int .i64 (-1)))]) w12 fun v11_14 w13 =>
  X Try.prog (Instr.box 183 v11_14) w13 fun v12_15 w14 =>
  K (.tuple #[v12_15, (.int .i64 0)]) w14))

theorem eq_disk_New (x0 : Value) (w : World) (K : Value → World → Prop) :
    sh Try.prog (Try.f69.body.getD .skip) (retS Try.prog Try.f69.results K) (env0 #[x0]) w = B_disk_New x0 w K := by kernel_rfl

theorem call_disk_New (x0 : Value) (w : World) (K : Value → World → Prop) (h : B_disk_New x0 w K) : CALL Try.prog 69 #[x0] w K :=
  call_of_eq (c := Try.f69.body.getD .skip) mixed Try.func69 (by kernel_rfl) (by kernel_rfl) (by kernel_rfl) (Nat.le_of_ble_eq_true (by kernel_rfl)) (eq_disk_New x0 w K) h

/-- (*cellarage/disk.Disk).Write -/
def B_disk_Disk_Write (x0 x1 x2 : Value) (w : World) (K : Value → World → Prop) : Prop :=
  X Try.prog (binOpG .eql 74 (.tmp 10) (.const (.pointer none)) x0 (.pointer none)) w fun v1_11 w1 =>
  condS v1_11 (
  K (.int .i64 2) w1) (
  X Try.prog (binOp .lss 3 x1 (.int .i64 0)) w1 fun v2_14 w2 =>
  gstep v2_14 false (fun w3 K => K x1 w3) w2 fun v3_16 w4 =>
  gstep v2_14 false (fun w5 K => K x0 w5) w4 fun v4_17 w6 =>
  gstep v2_14 false (fun w7 K => X Try.prog (nilS v4_17) w7 K) w6 fun v5_18 w8 =>
  gstep v2_14 false (fun w9 K => X Try.prog (Instr.fieldAt 183 v5_18 0) w9 K) w8 fun v6_19 w10 =>
  gstep v2_14 false (fun w11 K => X Try.prog (Instr.loadAt 180 v6_19) w11 K) w10 fun v7_20 w12 =>
  gstep v2_14 false (fun w13 K => X Try.prog (Builtin.len_ #[180] 3 #[v7_20]) w13 K) w12 fun v8_21 w14 =>
  gstep v2_14 false (fun w15 K => X Try.prog (binOp .geq 3 v3_16 v8_21) w15 K) w14 fun v9_22 w16 =>
  X Try.prog (pickS v2_14 (.bool true) v9_22) w16 fun v10_23 w17 =>
  gstep v10_23 false (fun w18 K => K x2 w18) w17 fun v11_25 w19 =>
  gstep v10_23 false (fun w20 K => X Try.prog (Builtin.len_ #[27] 3 #[v11_25]) w20 K) w19 fun v12_26 w21 =>
  gstep v10_23 false (fun w22 K => X Try.prog (binOp .gtr 3 v12_26 (.int .i64 128)) w22 K) w21 fun v13_27 w23 =>
  X Try.prog (pickS v10_23 (.bool true) v13_27) w23 fun v14_28 w24 =>
  condS v14_28 (
  K (.int .i64 1) w24) (
  CALL Try.prog 131 #[x0] w24 fun v15_30 w25 =>
  X Try.prog (binOpG .neq 30 (.tmp 31) (.const (.int .i64 0)) v15_30 (.int .i64 0)) w25 fun v16_32 w26 =>
  condS v16_32 (
  K v15_30 w26) (
  X Try.prog (Instr.build 186 #[(0, x1)]) w26 fun v17_35 w27 =>
  X Try.prog (Instr.alloc 186 true (.tuple #[])) w27 fun v18_8 w28 =>
  XU Try.prog (Instr.storeAt 186 v18_8 v17_35) w28 fun w29 =>
  X Try.prog (Instr.fieldAt 186 v18_8 1) w29 fun v19_36 w30 =>
  X Try.prog (Instr.sliceAt 184 v19_36 none none none) w30 fun v20_37 w31 =>
  X Try.prog (Builtin.copy_ #[27, 27] 3 #[v20_37, x2]) w31 fun v21_39 w32 =>
  ∃ R, Frame? R ∧
  XP Try.prog (nilS x0) (drewW w32) fun v22_42 w33 =>
  XP Try.prog (Instr.fieldAt 183 v22_42 2) w33 fun v23_43 w34 =>
  XR Try.prog R (Instr.loadAt 181 v23_43) w34 fun v24_44 w35 =>
  XR Try.prog R (Instr.loadAt 186 v18_8) w35 fun v25_45 w36 =>
  X Try.prog (Instr.buildSlice 181 1 #[(0, v25_45)]) w36 fun v26_46 w37 =>
  R w36 w37 ∧
  X Try.prog (Builtin.append_ #[181, 181] 181 #[v24_44, v26_46]) w37 fun v27_47 w38 =>
  R w37 w38 ∧
  XP Try.prog (nilS x0) w38 fun v28_48 w39 =>
  XP Try.prog (Instr.fieldAt 183 v28_48 2) w39 fun v29_49 w40 =>
  XU Try.prog (Instr.storeAt 181 v29_49 v27_47) w40 fun w41 =>
  ∃ R, Frame? R ∧
  XP Try.prog (nilS x0) (drewW w41) fun v30_51 w42 =>
  XP Try.prog (Instr.fieldAt 183 v30_51 0) w42 fun v31_52 w43 =>
  XR Try.prog R (Instr.loadAt 180 v31_52) w43 fun v32_53 w44 =>
  XP Try.prog (Instr.fieldAt 186 v18_8 1) w44 fun v33_55 w45 =>
  XR Try.prog R (Instr.loadAt 184 v33_55) w45 fun v34_56 w46 =>
  XP Try.prog (Instr.indexAt 180 v32_53 x1) w46 fun v35_57 w47 =>
  XU Try.prog (Instr.storeAt 184 v35_57 v34_56) w47 fun w48 =>
  K (.int .i64 0) w48)))

theorem eq_disk_Disk_Write (x0 x1 x2 : Value) (w : World) (K : Value → World → Prop) :
    sh Try.prog (Try.f70.body.getD .skip) (retS Try.prog Try.f70.results K) (env0 #[x0, x1, x2]) w = B_disk_Disk_Write x0 x1 x2 w K := by kernel_rfl

theorem call_disk_Disk_Write (x0 x1 x2 : Value) (w : World) (K : Value → World → Prop) (h : B_disk_Disk_Write x0 x1 x2 w K) : CALL Try.prog 70 #[x0, x1, x2] w K :=
  call_of_eq (c := Try.f70.body.getD .skip) mixed Try.func70 (by kernel_rfl) (by kernel_rfl) (by kernel_rfl) (Nat.le_of_ble_eq_true (by kernel_rfl)) (eq_disk_Disk_Write x0 x1 x2 w K) h

/-- (*cellarage/disk.Disk).Flush -/
def B_disk_Disk_Flush (x0 : Value) (w : World) (K : Value → World → Prop) : Prop :=
  X Try.prog (binOpG .eql 74 (.tmp 6) (.const (.pointer none)) x0 (.pointer none)) w fun v1_7 w1 =>
  condS v1_7 (
  K (.int .i64 2) w1) (
  CALL Try.prog 131 #[x0] w1 fun v2_9 w2 =>
  X Try.prog (binOpG .neq 30 (.tmp 10) (.const (.int .i64 0)) v2_9 (.int .i64 0)) w2 fun v3_11 w3 =>
  condS v3_11 (
  K v2_9 w3) (
  X Try.prog (nilS x0) w3 fun v4_14 w4 =>
  X Try.prog (Instr.fieldAt 183 v4_14 2) w4 fun v5_15 w5 =>
  X Try.prog (Instr.loadAt 181 v5_15) w5 fun v6_16 w6 =>
  X Try.prog (Builtin.len_ #[181] 3 #[v6_16]) w6 fun v7_17 w7 =>
  loopS (fun Q1 ρ1 w8 =>
  X Try.prog (binOp .lss 3 (ρ1 18) (ρ1 17)) w8 fun v8_19 w9 =>
  condS v8_19 (
  X Try.prog (Instr.indexAt 181 (ρ1 16) (ρ1 18)) w9 fun v9_20 w10 =>
  X Try.prog (Instr.loadAt 186 v9_20) w10 fun v10_21 w11 =>
  X Try.prog (Instr.alloc 186 true (.tuple #[])) w11 fun v11_5 w12 =>
  XU Try.prog (Instr.storeAt 186 v11_5 v10_21) w12 fun w13 =>
  ∃ R, Frame? R ∧
  XP Try.prog (nilS (ρ1 0)) (drewW w13) fun v12_23 w14 =>
  XP Try.prog (Instr.fieldAt 183 v12_23 1) w14 fun v13_24 w15 =>
  XR Try.prog R (Instr.loadAt 180 v13_24) w15 fun v14_25 w16 =>
  XP Try.prog (Instr.fieldAt 186 v11_5 0) w16 fun v15_26 w17 =>
  XR Try.prog R (Instr.loadAt 3 v15_26) w17 fun v16_27 w18 =>
  XP Try.prog (Instr.fieldAt 186 v11_5 1) w18 fun v17_28 w19 =>
  XR Try.prog R (Instr.loadAt 184 v17_28) w19 fun v18_29 w20 =>
  XP Try.prog (Instr.indexAt 180 v14_25 v16_27) w20 fun v19_30 w21 =>
  XU Try.prog (Instr.storeAt 184 v19_30 v18_29) w21 fun w22 =>
  X Try.prog (binOp .add 3 (ρ1 18) (.int .i64 1)) w22 fun v20_31 w23 =>
  Q1 .normal (upds ρ1 [(18, v20_31), (31, v20_31), (30, v19_30), (29, v18_29), (28, v17_28), (27, v16_27), (26, v15_26), (25, v14_25), (24, v13_24), (23, v12_23), (22, (ρ1 0)), (5, v11_5), (21, v10_21), (20, v9_20), (19, v8_19)]) w23) (
  Q1 (.exit 0) (upds ρ1 [(19, v8_19)]) w9)) (inBlockS 0 (thenS (fun ρ2 w24 =>
  X Try.prog (nilS (ρ2 0)) w24 fun v21_33 w25 =>
  X Try.prog (Instr.fieldAt 183 v21_33 2) w25 fun v22_34 w26 =>
  XU Try.prog (Instr.storeAt 181 v22_34 (.slice none 0 0)) w26 fun w27 =>
  K (.int .i64 0) w27) (retS Try.prog (Try.f71).results K))) (upds (env0 #[x0]) [(18, (.int .i64 0)), (17, v7_17), (16, v6_16), (15, v5_15), (14, v4_14), (13, x0), (11, v3_11), (10, v2_9), (3, v2_9), (9, v2_9), (8, x0), (7, v1_7), (6, x0), (2, (.int .i64 0))]) w7))

theorem eq_disk_Disk_Flush (x0 : Value) (w : World) (K : Value → World → Prop) :
    sh Try.prog (Try.f71.body.getD .skip) (retS Try.prog Try.f71.results K) (env0 #[x0]) w = B_disk_Disk_Flush x0 w K := by kernel_rfl

theorem call_disk_Disk_Flush (x0 : Value) (w : World) (K : Value → World → Prop) (h : B_disk_Disk_Flush x0 w K) : CALL Try.prog 71 #[x0] w K :=
  call_of_eq (c := Try.f71.body.getD .skip) mixed Try.func71 (by kernel_rfl) (by kernel_rfl) (by kernel_rfl) (Nat.le_of_ble_eq_true (by kernel_rfl)) (eq_disk_Disk_Flush x0 w K) h

/-- (*cellarage/disk.Disk).Crash -/
def B_disk_Disk_Crash (x0 x1 : Value) (w : World) (K : Value → World → Prop) : Prop :=
  X Try.prog (binOpG .eql 74 (.tmp 7) (.const (.pointer none)) x0 (.pointer none)) w fun v1_8 w1 =>
  condS v1_8 (
  K (.tuple #[]) w1) (
  X Try.prog (nilS x0) w1 fun v2_10 w2 =>
  X Try.prog (Instr.fieldAt 183 v2_10 2) w2 fun v3_11 w3 =>
  X Try.prog (Instr.loadAt 181 v3_11) w3 fun v4_12 w4 =>
  X Try.prog (Builtin.len_ #[181] 3 #[v4_12]) w4 fun v5_13 w5 =>
  loopS (fun Q1 ρ1 w6 =>
  X Try.prog (binOp .lss 3 (ρ1 14) (ρ1 13)) w6 fun v6_15 w7 =>
  condS v6_15 (
  joinS (fun ρ2 w8 =>
  X Try.prog (binOp .add 3 (ρ2 14) (.int .i64 1)) w8 fun v7_42 w9 =>
  Q1 .normal (upds ρ2 [(14, v7_42), (42, v7_42)]) w9) fun J2 =>
  X Try.prog (Instr.indexAt 181 (ρ1 12) (ρ1 14)) w7 fun v8_17 w10 =>
  X Try.prog (Instr.loadAt 186 v8_17) w10 fun v9_18 w11 =>
  X Try.prog (Instr.alloc 186 true (.tuple #[])) w11 fun v10_5 w12 =>
  XU Try.prog (Instr.storeAt 186 v10_5 v9_18) w12 fun w13 =>
  X Try.prog (Builtin.len_ #[79] 3 #[(ρ1 1)]) w13 fun v11_21 w14 =>
  X Try.prog (binOp .lss 3 (ρ1 14) v11_21) w14 fun v12_22 w15 =>
  condS v12_22 (
  X Try.prog (Instr.indexAt 79 (ρ1 1) (ρ1 14)) w15 fun v13_25 w16 =>
  X Try.prog (Instr.loadAt 3 v13_25) w16 fun v14_26 w17 =>
  X Try.prog (Builtin.min_ #[3, 3] 3 #[v14_26, (.int .i64 128)]) w17 fun v15_27 w18 =>
  X Try.prog (Builtin.max_ #[3, 3] 3 #[(.int .i64 0), v15_27]) w18 fun v16_28 w19 =>
  ∃ R, Frame? R ∧
  XP Try.prog (nilS (ρ1 0)) (drewW w19) fun v17_30 w20 =>
  XP Try.prog (Instr.fieldAt 183 v17_30 1) w20 fun v18_31 w21 =>
  XR Try.prog R (Instr.loadAt 180 v18_31) w21 fun v19_32 w22 =>
  XP Try.prog (Instr.fieldAt 186 v10_5 0) w22 fun v20_33 w23 =>
  XR Try.prog R (Instr.loadAt 3 v20_33) w23 fun v21_34 w24 =>
  XP Try.prog (Instr.indexAt 180 v19_32 v21_34) w24 fun v22_35 w25 =>
  XP Try.prog (Instr.sliceAt 184 v22_35 none (some v16_28) none) w25 fun v23_37 w26 =>
  XP Try.prog (Instr.fieldAt 186 v10_5 1) w26 fun v24_38 w27 =>
  XP Try.prog (Instr.sliceAt 184 v24_38 none (some v16_28) none) w27 fun v25_40 w28 =>
  X Try.prog (Builtin.copy_ #[27, 27] 3 #[v23_37, v25_40]) w28 fun v26_41 w29 =>
  R w28 w29 ∧
  J2 (upds ρ1 [(41, v26_41), (40, v25_40), (39, v16_28), (38, v24_38), (37, v23_37), (36, v16_28), (35, v22_35), (34, v21_34), (33, v20_33), (32, v19_32), (31, v18_31), (30, v17_30), (29, (ρ1 0)), (6, v16_28), (28, v16_28), (27, v15_27), (26, v14_26), (25, v13_25), (24, (ρ1 14)), (23, (ρ1 1)), (22, v12_22), (21, v11_21), (20, (ρ1 1)), (19, (ρ1 14)), (4, (ρ1 14)), (5, v10_5), (18, v9_18), (17, v8_17), (16, (ρ1 14)), (15, v6_15)]) w29) (
  J2 (upds ρ1 [(22, v12_22), (21, v11_21), (20, (ρ1 1)), (19, (ρ1 14)), (4, (ρ1 14)), (5, v10_5), (18, v9_18), (17, v8_17), (16, (ρ1 14)), (15, v6_15)]) w15)) (
  Q1 (.exit 0) (upds ρ1 [(15, v6_15)]) w7)) (inBlockS 0 (thenS (fun ρ3 w30 =>
  ∃ R, Frame? R ∧
  XP Try.prog (nilS (ρ3 0)) (drewW w30) fun v27_44 w31 =>
  XP Try.prog (Instr.fieldAt 183 v27_44 0) w31 fun v28_45 w32 =>
  XR Try.prog R (Instr.loadAt 180 v28_45) w32 fun v29_46 w33 =>
  XP Try.prog (nilS (ρ3 0)) w33 fun v30_48 w34 =>
  XP Try.prog (Instr.fieldAt 183 v30_48 1) w34 fun v31_49 w35 =>
  XR Try.prog R (Instr.loadAt 180 v31_49) w35 fun v32_50 w36 =>
  X Try.prog (Builtin.copy_ #[180, 180] 3 #[v29_46, v32_50]) w36 fun v33_51 w37 =>
  X Try.prog (nilS (ρ3 0)) w37 fun v34_55 w38 =>
  X Try.prog (Instr.fieldAt 183 v34_55 2) w38 fun v35_56 w39 =>
  XU Try.prog (Instr.storeAt 181 v35_56 (.slice none 0 0)) w39 fun w40 =>
  X Try.prog (nilS (ρ3 0)) w40 fun v36_57 w41 =>
  X Try.prog (Instr.fieldAt 183 v36_57 3) w41 fun v37_58 w42 =>
  XU Try.prog (Instr.storeAt 4 v37_58 (.bool false)) w42 fun w43 =>
  X Try.prog (nilS (ρ3 0)) w43 fun v38_59 w44 =>
  X Try.prog (Instr.fieldAt 183 v38_59 4) w44 fun v39_60 w45 =>
  XU Try.prog (Instr.storeAt 3 v39_60 (.int .i64 (-1))) w45 fun w46 =>
  K (.tuple #[]) w46) (retS Try.prog (Try.f72).results K))) (upds (env0 #[x0, x1]) [(14, (.int .i64 0)), (13, v5_13), (12, v4_12), (11, v3_11), (10, v2_10), (9, x0), (8, v1_8), (7, x0)]) w5)

theorem eq_disk_Disk_Crash (x0 x1 : Value) (w : World) (K : Value → World → Prop) :
    sh Try.prog (Try.f72.body.getD .skip) (retS Try.prog Try.f72.results K) (env0 #[x0, x1]) w = B_disk_Disk_Crash x0 x1 w K := by kernel_rfl

theorem call_disk_Disk_Crash (x0 x1 : Value) (w : World) (K : Value → World → Prop) (h : B_disk_Disk_Crash x0 x1 w K) : CALL Try.prog 72 #[x0, x1] w K :=
  call_of_eq (c := Try.f72.body.getD .skip) mixed Try.func72 (by kernel_rfl) (by kernel_rfl) (by kernel_rfl) (Nat.le_of_ble_eq_true (by kernel_rfl)) (eq_disk_Disk_Crash x0 x1 w K) h

/-- (*cellarage/disk.Disk).Read -/
def B_disk_Disk_Read (x0 x1 : Value) (w : World) (K : Value → World → Prop) : Prop :=
  X Try.prog (binOpG .eql 74 (.tmp 7) (.const (.pointer none)) x0 (.pointer none)) w fun v1_8 w1 =>
  condS v1_8 (
  K (.tuple #[(.slice none 0 0), (.int .i64 2)]) w1) (
  X Try.prog (binOp .lss 3 x1 (.int .i64 0)) w1 fun v2_11 w2 =>
  gstep v2_11 false (fun w3 K => K x1 w3) w2 fun v3_13 w4 =>
  gstep v2_11 false (fun w5 K => K x0 w5) w4 fun v4_14 w6 =>
  gstep v2_11 false (fun w7 K => X Try.prog (nilS v4_14) w7 K) w6 fun v5_15 w8 =>
  gstep v2_11 false (fun w9 K => X Try.prog (Instr.fieldAt 183 v5_15 0) w9 K) w8 fun v6_16 w10 =>
  gstep v2_11 false (fun w11 K => X Try.prog (Instr.loadAt 180 v6_16) w11 K) w10 fun v7_17 w12 =>
  gstep v2_11 false (fun w13 K => X Try.prog (Builtin.len_ #[180] 3 #[v7_17]) w13 K) w12 fun v8_18 w14 =>
  gstep v2_11 false (fun w15 K => X Try.prog (binOp .geq 3 v3_13 v8_18) w15 K) w14 fun v9_19 w16 =>
  X Try.prog (pickS v2_11 (.bool true) v9_19) w16 fun v10_20 w17 =>
  condS v10_20 (
  K (.tuple #[(.slice none 0 0), (.int .i64 1)]) w17) (
  X Try.prog (nilS x0) w17 fun v11_23 w18 =>
  X Try.prog (Instr.fieldAt 183 v11_23 3) w18 fun v12_24 w19 =>
  X Try.prog (Instr.loadAt 4 v12_24) w19 fun v13_25 w20 =>
  condS v13_25 (
  K (.tuple #[(.slice none 0 0), (.int .i64 6)]) w20) (
  X Try.prog (nilS x0) w20 fun v14_27 w21 =>
  X Try.prog (Instr.fieldAt 183 v14_27 0) w21 fun v15_28 w22 =>
  X Try.prog (Instr.loadAt 180 v15_28) w22 fun v16_29 w23 =>
  X Try.prog (Instr.indexAt 180 v16_29 x1) w23 fun v17_31 w24 =>
  X Try.prog (Instr.sliceAt 184 v17_31 none none none) w24 fun v18_32 w25 =>
  CALL Try.prog 132 #[v18_32] w25 fun v19_33 w26 =>
  K (.tuple #[v19_33, (.int .i64 0)]) w26)))

theorem eq_disk_Disk_Read (x0 x1 : Value) (w : World) (K : Value → World → Prop) :
    sh Try.prog (Try.f73.body.getD .skip) (retS Try.prog Try.f73.results K) (env0 #[x0, x1]) w = B_disk_Disk_Read x0 x1 w K := by kernel_rfl

theorem call_disk_Disk_Read (x0 x1 : Value) (w : World) (K : Value → World → Prop) (h : B_disk_Disk_Read x0 x1 w K) : CALL Try.prog 73 #[x0, x1] w K :=
  call_of_eq (c := Try.f73.body.getD .skip) mixed Try.func73 (by kernel_rfl) (by kernel_rfl) (by kernel_rfl) (Nat.le_of_ble_eq_true (by kernel_rfl)) (eq_disk_Disk_Read x0 x1 w K) h

/-- (*cellarage/disk.Disk).Dead -/
def B_disk_Disk_Dead (x0 : Value) (w : World) (K : Value → World → Prop) : Prop :=
  X Try.prog (binOpG .neq 74 (.tmp 3) (.const (.pointer none)) x0 (.pointer none)) w fun v1_4 w1 =>
  gstep v1_4 true (fun w2 K => K x0 w2) w1 fun v2_6 w3 =>
  gstep v1_4 true (fun w4 K => X Try.prog (nilS v2_6) w4 K) w3 fun v3_7 w5 =>
  gstep v1_4 true (fun w6 K => X Try.prog (Instr.fieldAt 183 v3_7 3) w6 K) w5 fun v4_8 w7 =>
  gstep v1_4 true (fun w8 K => X Try.prog (Instr.loadAt 4 v4_8) w8 K) w7 fun v5_9 w9 =>
  X Try.prog (pickS v1_4 v5_9 (.bool false)) w9 fun v6_10 w10 =>
  K v6_10 w10

theorem eq_disk_Disk_Dead (x0 : Value) (w : World) (K : Value → World → Prop) :
    sh Try.prog (Try.f76.body.getD .skip) (retS Try.prog Try.f76.results K) (env0 #[x0]) w = B_disk_Disk_Dead x0 w K := by kernel_rfl

theorem call_disk_Disk_Dead (x0 : Value) (w : World) (K : Value → World → Prop) (h : B_disk_Disk_Dead x0 w K) : CALL Try.prog 76 #[x0] w K :=
  call_of_eq (c := Try.f76.body.getD .skip) mixed Try.func76 (by kernel_rfl) (by kernel_rfl) (by kernel_rfl) (Nat.le_of_ble_eq_true (by kernel_rfl)) (eq_disk_Disk_Dead x0 w K) h

/-- (*cellarage/disk.Disk).Pending -/
def B_disk_Disk_Pending (x0 : Value) (w : World) (K : Value → World → Prop) : Prop :=
  X Try.prog (binOpG .eql 74 (.tmp 3) (.const (.pointer none)) x0 (.pointer none)) w fun v1_4 w1 =>
  condS v1_4 (
  K (.int .i64 0) w1) (
  X Try.prog (nilS x0) w1 fun v2_6 w2 =>
  X Try.prog (Instr.fieldAt 183 v2_6 2) w2 fun v3_7 w3 =>
  X Try.prog (Instr.loadAt 181 v3_7) w3 fun v4_8 w4 =>
  X Try.prog (Builtin.len_ #[181] 3 #[v4_8]) w4 fun v5_9 w5 =>
  K v5_9 w5)

theorem eq_disk_Disk_Pending (x0 : Value) (w : World) (K : Value → World → Prop) :
    sh Try.prog (Try.f77.body.getD .skip) (retS Try.prog Try.f77.results K) (env0 #[x0]) w = B_disk_Disk_Pending x0 w K := by kernel_rfl

theorem call_disk_Disk_Pending (x0 : Value) (w : World) (K : Value → World → Prop) (h : B_disk_Disk_Pending x0 w K) : CALL Try.prog 77 #[x0] w K :=
  call_of_eq (c := Try.f77.body.getD .skip) mixed Try.func77 (by kernel_rfl) (by kernel_rfl) (by kernel_rfl) (Nat.le_of_ble_eq_true (by kernel_rfl)) (eq_disk_Disk_Pending x0 w K) h

/-- (*cellarage/disk.Disk).Cut -/
def B_disk_Disk_Cut (x0 x1 : Value) (w : World) (K : Value → World → Prop) : Prop :=
  X Try.prog (binOpG .neq 74 (.tmp 4) (.const (.pointer none)) x0 (.pointer none)) w fun v1_5 w1 =>
  gstep v1_5 true (fun w2 K => K x0 w2) w1 fun v2_7 w3 =>
  gstep v1_5 true (fun w4 K => X Try.prog (nilS v2_7) w4 K) w3 fun v3_8 w5 =>
  gstep v1_5 true (fun w6 K => X Try.prog (Instr.fieldAt 183 v3_8 3) w6 K) w5 fun v4_9 w7 =>
  gstep v1_5 true (fun w8 K => X Try.prog (Instr.loadAt 4 v4_9) w8 K) w7 fun v5_10 w9 =>
  gstep v1_5 true (fun w10 K => X Try.prog (Op.unary .not v5_10) w10 K) w9 fun v6_11 w11 =>
  X Try.prog (pickS v1_5 v6_11 (.bool false)) w11 fun v7_12 w12 =>
  condS v7_12 (
  X Try.prog (Builtin.max_ #[3, 3] 3 #[x1, (.int .i64 (-1))]) w12 fun v8_15 w13 =>
  X Try.prog (nilS x0) w13 fun v9_16 w14 =>
  X Try.prog (Instr.fieldAt 183 v9_16 4) w14 fun v10_17 w15 =>
  XU Try.prog (Instr.storeAt 3 v10_17 v8_15) w15 fun w16 =>
  K (.tuple #[]) w16) (
  K (.tuple #[]) w12)

theorem eq_disk_Disk_Cut (x0 x1 : Value) (w : World) (K : Value → World → Prop) :
    sh Try.prog (Try.f78.body.getD .skip) (retS Try.prog Try.f78.results K) (env0 #[x0, x1]) w = B_disk_Disk_Cut x0 x1 w K := by kernel_rfl

theorem call_disk_Disk_Cut (x0 x1 : Value) (w : World) (K : Value → World → Prop) (h : B_disk_Disk_Cut x0 x1 w K) : CALL Try.prog 78 #[x0, x1] w K :=
  call_of_eq (c := Try.f78.body.getD .skip) mixed Try.func78 (by kernel_rfl) (by kernel_rfl) (by kernel_rfl) (Nat.le_of_ble_eq_true (by kernel_rfl)) (eq_disk_Disk_Cut x0 x1 w K) h

/-- (*cellarage/disk.Disk).Done -/
def B_disk_Disk_Done (x0 : Value) (w : World) (K : Value → World → Prop) : Prop :=
  X Try.prog (binOpG .eql 74 (.tmp 3) (.const (.pointer none)) x0 (.pointer none)) w fun v1_4 w1 =>
  condS v1_4 (
  K (.int .i64 0) w1) (
  X Try.prog (nilS x0) w1 fun v2_6 w2 =>
  X Try.prog (Instr.fieldAt 183 v2_6 5) w2 fun v3_7 w3 =>
  X Try.prog (Instr.loadAt 3 v3_7) w3 fun v4_8 w4 =>
  K v4_8 w4)

theorem eq_disk_Disk_Done (x0 : Value) (w : World) (K : Value → World → Prop) :
    sh Try.prog (Try.f79.body.getD .skip) (retS Try.prog Try.f79.results K) (env0 #[x0]) w = B_disk_Disk_Done x0 w K := by kernel_rfl

theorem call_disk_Disk_Done (x0 : Value) (w : World) (K : Value → World → Prop) (h : B_disk_Disk_Done x0 w K) : CALL Try.prog 79 #[x0] w K :=
  call_of_eq (c := Try.f79.body.getD .skip) mixed Try.func79 (by kernel_rfl) (by kernel_rfl) (by kernel_rfl) (Nat.le_of_ble_eq_true (by kernel_rfl)) (eq_disk_Disk_Done x0 w K) h

/-- (*cellarage/disk.Disk).Copy -/
def B_disk_Disk_Copy (x0 : Value) (w : World) (K : Value → World → Prop) : Prop :=
  X Try.prog (binOpG .eql 74 (.tmp 4) (.const (.pointer none)) x0 (.pointer none)) w fun v1_5 w1 =>
  condS v1_5 (
  K (.pointer none) w1) (
  X Try.prog (nilS x0) w1 fun v2_7 w2 =>
  X Try.prog (Instr.loadAt 183 v2_7) w2 fun v3_8 w3 =>
  X Try.prog (Instr.alloc 183 true (.tuple #[])) w3 fun v4_3 w4 =>
  XU Try.prog (Instr.storeAt 183 v4_3 v3_8) w4 fun w5 =>
  ∃ R, Frame? R ∧
  XP Try.prog (nilS x0) (drewW w5) fun v5_10 w6 =>
  XP Try.prog (Instr.fieldAt 183 v5_10 0) w6 fun v6_11 w7 =>
  XR Try.prog R (Instr.loadAt 180 v6_11) w7 fun v7_12 w8 =>
  XP Try.prog (nilS x0) w8 fun v8_15 w9 =>
  XP Try.prog (Instr.fieldAt 183 v8_15 1) w9 fun v9_16 w10 =>
  XR Try.prog R (Instr.loadAt 180 v9_16) w10 fun v10_17 w11 =>
  XP Try.prog (nilS x0) w11 fun v11_20 w12 =>
  XP Try.prog (Instr.fieldAt 183 v11_20 2) w12 fun v12_21 w13 =>
  XR Try.prog R (Instr.loadAt 181 v12_21) w13 fun v13_22 w14 =>
  CALL Try.prog 134 #[v7_12] w14 fun v14_13 w15 =>
  R w14 w15 ∧
  CALL Try.prog 134 #[v10_17] w15 fun v15_18 w16 =>
  R w15 w16 ∧
  CALL Try.prog 135 #[v13_22] w16 fun v16_23 w17 =>
  R w16 w17 ∧
  XP Try.prog (Instr.fieldAt 183 v4_3 0) w17 fun v17_24 w18 =>
  XU Try.prog (Instr.storeAt 180 v17_24 v14_13) w18 fun w19 =>
  XP Try.prog (Instr.fieldAt 183 v4_3 1) w19 fun v18_25 w20 =>
  XU Try.prog (Instr.storeAt 180 v18_25 v15_18) w20 fun w21 =>
  XP Try.prog (Instr.fieldAt 183 v4_3 2) w21 fun v19_26 w22 =>
  XU Try.prog (Instr.storeAt 181 v19_26 v16_23) w22 fun w23 =>
  K v4_3 w23)

theorem eq_disk_Disk_Copy (x0 : Value) (w : World) (K : Value → World → Prop) :
    sh Try.prog (Try.f81.body.getD .skip) (retS Try.prog Try.f81.results K) (env0 #[x0]) w = B_disk_Disk_Copy x0 w K := by kernel_rfl

theorem call_disk_Disk_Copy (x0 : Value) (w : World) (K : Value → World → Prop) (h : B_disk_Disk_Copy x0 w K) : CALL Try.prog 81 #[x0] w K :=
  call_of_eq (c := Try.f81.body.getD .skip) mixed Try.func81 (by kernel_rfl) (by kernel_rfl) (by kernel_rfl) (Nat.le_of_ble_eq_true (by kernel_rfl)) (eq_disk_Disk_Copy x0 w K) h

/-- (*cellarage/disk.Disk).Size -/
def B_disk_Disk_Size (x0 : Value) (w : World) (K : Value → World → Prop) : Prop :=
  X Try.prog (binOpG .eql 74 (.tmp 3) (.const (.pointer none)) x0 (.pointer none)) w fun v1_4 w1 =>
  condS v1_4 (
  K (.int .i64 0) w1) (
  X Try.prog (nilS x0) w1 fun v2_6 w2 =>
  X Try.prog (Instr.fieldAt 183 v2_6 0) w2 fun v3_7 w3 =>
  X Try.prog (Instr.loadAt 180 v3_7) w3 fun v4_8 w4 =>
  X Try.prog (Builtin.len_ #[180] 3 #[v4_8]) w4 fun v5_9 w5 =>
  K v5_9 w5)

theorem eq_disk_Disk_Size (x0 : Value) (w : World) (K : Value → World → Prop) :
    sh Try.prog (Try.f84.body.getD .skip) (retS Try.prog Try.f84.results K) (env0 #[x0]) w = B_disk_Disk_Size x0 w K := by kernel_rfl

theorem call_disk_Disk_Size (x0 : Value) (w : World) (K : Value → World → Prop) (h : B_disk_Disk_Size x0 w K) : CALL Try.prog 84 #[x0] w K :=
  call_of_eq (c := Try.f84.body.getD .skip) mixed Try.func84 (by kernel_rfl) (by kernel_rfl) (by kernel_rfl) (Nat.le_of_ble_eq_true (by kernel_rfl)) (eq_disk_Disk_Size x0 w K) h

/-- (*cellarage/disk.Disk).powered -/
def B_disk_Disk_powered (x0 : Value) (w : World) (K : Value → World → Prop) : Prop :=
  joinS (fun ρ1 w1 =>
  X Try.prog (nilS (ρ1 0)) w1 fun v1_15 w2 =>
  X Try.prog (Instr.fieldAt 183 v1_15 3) w2 fun v2_16 w3 =>
  X Try.prog (Instr.loadAt 4 v2_16) w3 fun v3_17 w4 =>
  condS v3_17 (
  K (.int .i64 6) w4) (
  X Try.prog (nilS (ρ1 0)) w4 fun v4_19 w5 =>
  X Try.prog (Instr.fieldAt 183 v4_19 5) w5 fun v5_20 w6 =>
  X Try.prog (Instr.loadAt 3 v5_20) w6 fun v6_21 w7 =>
  X Try.prog (binOp .add 3 v6_21 (.int .i64 1)) w7 fun v7_22 w8 =>
  X Try.prog (nilS (ρ1 0)) w8 fun v8_23 w9 =>
  X Try.prog (Instr.fieldAt 183 v8_23 5) w9 fun v9_24 w10 =>
  XU Try.prog (Instr.storeAt 3 v9_24 v7_22) w10 fun w11 =>
  joinS (fun ρ2 w12 =>
  K (.int .i64 0) w12) fun J2 =>
  X Try.prog (nilS (ρ1 0)) w11 fun v10_26 w13 =>
  X Try.prog (Instr.fieldAt 183 v10_26 4) w13 fun v11_27 w14 =>
  X Try.prog (Instr.loadAt 3 v11_27) w14 fun v12_28 w15 =>
  X Try.prog (binOp .gtr 3 v12_28 (.int .i64 0)) w15 fun v13_29 w16 =>
  condS v13_29 (
  X Try.prog (nilS (ρ1 0)) w16 fun v14_31 w17 =>
  X Try.prog (Instr.fieldAt 183 v14_31 4) w17 fun v15_32 w18 =>
  X Try.prog (Instr.loadAt 3 v15_32) w18 fun v16_33 w19 =>
  X Try.prog (binOp .sub 3 v16_33 (.int .i64 1)) w19 fun v17_34 w20 =>
  X Try.prog (nilS (ρ1 0)) w20 fun v18_35 w21 =>
  X Try.prog (Instr.fieldAt 183 v18_35 4) w21 fun v19_36 w22 =>
  XU Try.prog (Instr.storeAt 3 v19_36 v17_34) w22 fun w23 =>
  J2 (upds ρ1 [(36, v19_36), (35, v18_35), (34, v17_34), (33, v16_33), (32, v15_32), (31, v14_31), (30, (ρ1 0)), (29, v13_29), (28, v12_28), (27, v11_27), (26, v10_26), (25, (ρ1 0)), (24, v9_24), (23, v8_23), (22, v7_22), (21, v6_21), (20, v5_20), (19, v4_19), (18, (ρ1 0)), (17, v3_17), (16, v2_16), (15, v1_15), (14, (ρ1 0))]) w23) (
  J2 (upds ρ1 [(29, v13_29), (28, v12_28), (27, v11_27), (26, v10_26), (25, (ρ1 0)), (24, v9_24), (23, v8_23), (22, v7_22), (21, v6_21), (20, v5_20), (19, v4_19), (18, (ρ1 0)), (17, v3_17), (16, v2_16), (15, v1_15), (14, (ρ1 0))]) w16))) fun J1 =>
  X Try.prog (nilS x0) w fun v20_4 w24 =>
  X Try.prog (Instr.fieldAt 183 v20_4 4) w24 fun v21_5 w25 =>
  X Try.prog (Instr.loadAt 3 v21_5) w25 fun v22_6 w26 =>
  X Try.prog (binOpG .eql 3 (.tmp 6) (.const (.int .i64 0)) v22_6 (.int .i64 0)) w26 fun v23_7 w27 =>
  condS v23_7 (
  X Try.prog (nilS x0) w27 fun v24_10 w28 =>
  X Try.prog (Instr.fieldAt 183 v24_10 3) w28 fun v25_11 w29 =>
  XU Try.prog (Instr.storeAt 4 v25_11 (.bool true)) w29 fun w30 =>
  X Try.prog (nilS x0) w30 fun v26_12 w31 =>
  X Try.prog (Instr.fieldAt 183 v26_12 4) w31 fun v27_13 w32 =>
  XU Try.prog (Instr.storeAt 3 v27_13 (.int .i64 (-1))) w32 fun w33 =>
  J1 (upds (env0 #[x0]) [(13, v27_13), (12, v26_12), (11, v25_11), (10, v24_10), (9, x0), (8, x0), (7, v23_7), (6, v22_6), (5, v21_5), (4, v20_4), (3, x0), (2, (.int .i64 0))]) w33) (
  J1 (upds (env0 #[x0]) [(7, v23_7), (6, v22_6), (5, v21_5), (4, v20_4), (3, x0), (2, (.int .i64 0))]) w27)

theorem eq_disk_Disk_powered (x0 : Value) (w : World) (K : Value → World → Prop) :
    sh Try.prog (Try.f131.body.getD .skip) (retS Try.prog Try.f131.results K) (env0 #[x0]) w = B_disk_Disk_powered x0 w K := by kernel_rfl

theorem call_disk_Disk_powered (x0 : Value) (w : World) (K : Value → World → Prop) (h : B_disk_Disk_powered x0 w K) : CALL Try.prog 131 #[x0] w K :=
  call_of_eq (c := Try.f131.body.getD .skip) mixed Try.func131 (by kernel_rfl) (by kernel_rfl) (by kernel_rfl) (Nat.le_of_ble_eq_true (by kernel_rfl)) (eq_disk_Disk_powered x0 w K) h

/-- slices.Clone[[]byte,byte] -/
def B_slices_Clone_byte (x0 : Value) (w : World) (K : Value → World → Prop) : Prop :=
  X Try.prog (binOpG .eql 27 (.tmp 3) (.const (.slice none 0 0)) x0 (.slice none 0 0)) w fun v1_4 w1 =>
  condS v1_4 (
  K (.slice none 0 0) w1) (
  X Try.prog (Instr.buildSlice 27 0 #[]) w1 fun v2_5 w2 =>
  X Try.prog (Builtin.append_ #[27, 27] 27 #[v2_5, x0]) w2 fun v3_7 w3 =>
  K v3_7 w3)

theorem eq_slices_Clone_byte (x0 : Value) (w : World) (K : Value → World → Prop) :
    sh Try.prog (Try.f132.body.getD .skip) (retS Try.prog Try.f132.results K) (env0 #[x0]) w = B_slices_Clone_byte x0 w K := by kernel_rfl

theorem call_slices_Clone_byte (x0 : Value) (w : World) (K : Value → World → Prop) (h : B_slices_Clone_byte x0 w K) : CALL Try.prog 132 #[x0] w K :=
  call_of_eq (c := Try.f132.body.getD .skip) mixed Try.func132 (by kernel_rfl) (by kernel_rfl) (by kernel_rfl) (Nat.le_of_ble_eq_true (by kernel_rfl)) (eq_slices_Clone_byte x0 w K) h

/-- slices.Clone[[]cellarage/disk.sector,cellarage/disk.sector] -/
def B_slices_Clone_disk_sector (x0 : Value) (w : World) (K : Value → World → Prop) : Prop :=
  X Try.prog (binOpG .eql 180 (.tmp 3) (.const (.slice none 0 0)) x0 (.slice none 0 0)) w fun v1_4 w1 =>
  condS v1_4 (
  K (.slice none 0 0) w1) (
  X Try.prog (Instr.buildSlice 180 0 #[]) w1 fun v2_5 w2 =>
  X Try.prog (Builtin.append_ #[180, 180] 180 #[v2_5, x0]) w2 fun v3_7 w3 =>
  K v3_7 w3)

theorem eq_slices_Clone_disk_sector (x0 : Value) (w : World) (K : Value → World → Prop) :
    sh Try.prog (Try.f134.body.getD .skip) (retS Try.prog Try.f134.results K) (env0 #[x0]) w = B_slices_Clone_disk_sector x0 w K := by kernel_rfl

theorem call_slices_Clone_disk_sector (x0 : Value) (w : World) (K : Value → World → Prop) (h : B_slices_Clone_disk_sector x0 w K) : CALL Try.prog 134 #[x0] w K :=
  call_of_eq (c := Try.f134.body.getD .skip) mixed Try.func134 (by kernel_rfl) (by kernel_rfl) (by kernel_rfl) (Nat.le_of_ble_eq_true (by kernel_rfl)) (eq_slices_Clone_disk_sector x0 w K) h

/-- slices.Clone[[]cellarage/disk.write,cellarage/disk.write] -/
def B_slices_Clone_disk_write (x0 : Value) (w : World) (K : Value → World → Prop) : Prop :=
  X Try.prog (binOpG .eql 181 (.tmp 3) (.const (.slice none 0 0)) x0 (.slice none 0 0)) w fun v1_4 w1 =>
  condS v1_4 (
  K (.slice none 0 0) w1) (
  X Try.prog (Instr.buildSlice 181 0 #[]) w1 fun v2_5 w2 =>
  X Try.prog (Builtin.append_ #[181, 181] 181 #[v2_5, x0]) w2 fun v3_7 w3 =>
  K v3_7 w3)

theorem eq_slices_Clone_disk_write (x0 : Value) (w : World) (K : Value → World → Prop) :
    sh Try.prog (Try.f135.body.getD .skip) (retS Try.prog Try.f135.results K) (env0 #[x0]) w = B_slices_Clone_disk_write x0 w K := by kernel_rfl

theorem call_slices_Clone_disk_write (x0 : Value) (w : World) (K : Value → World → Prop) (h : B_slices_Clone_disk_write x0 w K) : CALL Try.prog 135 #[x0] w K :=
  call_of_eq (c := Try.f135.body.getD .skip) mixed Try.func135 (by kernel_rfl) (by kernel_rfl) (by kernel_rfl) (Nat.le_of_ble_eq_true (by kernel_rfl)) (eq_slices_Clone_disk_write x0 w K) h

end Go.Proofs.Ytggggfcgnkllgaa
end
section
/- From a call's contract to a law's row: the arguments read as they did, nothing that was there has turned. -/
set_option linter.unusedVariables false
namespace Go.Sh
open Go Go.RowKit Go.ChangeShapes Go.WideShapes

theorem ext_same {W W' : World} (h : Ext W W') {p : MemPlace} (hp : p.block < W.heap.size) : W.sameAt W' p := h.below.same hp

theorem trodAll_stays {H : Type} {enc : TypeId × Value → H} {P : Program} (hl : laidOutB P = true) {W W' : World} (he : Ext W W') {sp : Nat → Bool} :
    ∀ {ts : List TypeId} {vs : List Value} {ds : List (DataW H)} {ps : List MemPlace}, ts.all (fun t => P.readableRec t && decide (t < P.types.size)) = true →
      DataW.TrodAll enc P W 0 (fun _ => true) true ts vs ds ps → (∀ p ∈ ps, p.block < W.heap.size) → (∀ p ∈ ps, sp p.block = true) → DataW.TrodAll enc P W' 0 sp true ts vs ds ps
  | [], vs, ds, ps, _, h, _, _ => by
    obtain ⟨rfl, rfl, rfl⟩ := trodAll_nil h
    exact trodAll_mk0
  | t :: ts, vs, ds, ps, ht, h, hlt, hs => by
    obtain ⟨v, vs1, d, ds1, a, b, rfl, rfl, rfl, h1, h2⟩ := trodAll_cons h
    simp only [List.all_cons, Bool.and_eq_true, decide_eq_true_eq] at ht
    exact ⟨a, b, WideElems.Trod_stays hl ht.1.1 ht.1.2 h1 (fun x hx => ext_same he (hlt x (by simp [hx]))) (fun x hx => hs x (by simp [hx])),
      trodAll_stays hl he ht.2 h2 (fun x hx => hlt x (by simp [hx])) (fun x hx => hs x (by simp [hx])), rfl⟩

theorem ext_keptBut {W W' : World} (h : Ext W W') (may : MemPlace → Prop) : W.keptBut W' may := by
  refine ⟨h.os, h.output, fun i hi => ?_⟩
  rw [h.block i hi (fun h => h)]
  cases hb : W.heap[i]? with
  | none => simp
  | some o => cases o <;> simp

theorem law_post {H : Type} {enc : TypeId × Value → H} {P : Program} {f : Func} {s : ChangeSpec} {W W' : World} {args : Array Value} {ds : List (DataW H)} {before : List MemPlace} {tb : TypeId}
    (hl : laidOutB P = true) (hT : f.params.toList.all (fun t => P.readableRec t && decide (t < P.types.size)) = true) (hv : s.vars = [])
    (hfn : s.fn H (ds ++ []) = { results := [.lit (.bool true)], args := ds }) (hres : f.resultTypes = #[tb]) (htb : P.underlying tb = some .bool)
    (hW : DataW.Whole enc P f.params.toList s.vars false W args.toList ds [] before) (he : Ext W W') : s.post enc P f false true false false W args (.bool true) W' := by
  have hlt := hW.lt
  obtain ⟨p, q, hA, hV, hp, hz, hn⟩ := id hW
  rw [hv] at hV
  obtain ⟨_, rfl⟩ := trodVars_none hV
  rw [List.append_nil] at hp
  subst hp
  refine ⟨ds, [], before, [], before, [], hW, ?_, ?_, ?_, ext_keptBut he _, fun h => by cases h⟩
  · rw [hfn, hres]
    exact ⟨[], [], ⟨1, by simp [DataW.trod, Value.cells, htb]⟩, rfl, rfl⟩
  · rw [hfn]
    exact trodAll_stays hl he hT hA hlt (fun x hx => by simpa using hlt x hx)
  · rw [hfn, hv]
    rfl

/-! ### What an argument holds -/
section
variable {H : Type} {enc : TypeId × Value → H} {P : Program} {W : World}

/-- These cells read as data of that type. -/
def TrC (enc : TypeId × Value → H) (P : Program) (W : World) (t : TypeId) (cs : List Value) : Prop := ∃ fuel x, DataW.trod enc P W 0 (fun _ => true) true fuel t cs = some x

theorem TrC.of {t : TypeId} {v : Value} {d : DataW H} {p : List MemPlace} (h : DataW.Trod enc P W 0 (fun _ => true) true t v d p) : TrC enc P W t v.cells.toList := by
  obtain ⟨fuel, h⟩ := h; exact ⟨fuel, _, h⟩
theorem TrC.int {t : TypeId} {k : IntKind} {cs : List Value} (ht : P.underlying t = some (.int k)) (h : TrC enc P W t cs) : ∃ n, cs = [.int k n] ∧ (Lit.int k n).wf = true := by
  obtain ⟨fuel, x, h⟩ := h
  cases fuel with
  | zero => simp [DataW.trod] at h
  | succ fuel =>
    unfold DataW.trod at h
    rw [ht] at h
    split at h <;> first | (simp at *; done) | skip
    rename_i k1 k' n e1
    injection e1 with e1
    injection e1 with e1
    subst e1
    split at h
    · rename_i hh; obtain ⟨rfl, hw⟩ := hh; exact ⟨n, rfl, hw⟩
    · cases h
theorem TrC.bool {t : TypeId} {cs : List Value} (ht : P.underlying t = some .bool) (h : TrC enc P W t cs) : ∃ b, cs = [.bool b] := by
  obtain ⟨fuel, x, h⟩ := h
  cases fuel with
  | zero => simp [DataW.trod] at h
  | succ fuel =>
    unfold DataW.trod at h
    rw [ht] at h
    split at h <;> first | (simp at *; done) | exact ⟨_, rfl⟩
theorem TrC.string {t : TypeId} {cs : List Value} (ht : P.underlying t = some .string) (h : TrC enc P W t cs) : ∃ s, cs = [.string s] ∧ s.size ≤ 9223372036854775807 := by
  obtain ⟨fuel, x, h⟩ := h
  cases fuel with
  | zero => simp [DataW.trod] at h
  | succ fuel =>
    unfold DataW.trod at h
    rw [ht] at h
    split at h <;> first | (simp at *; done) | skip
    split at h
    · rename_i hh; exact ⟨_, rfl, by simpa [maxLen] using hh⟩
    · cases h
theorem mapM_some {α β : Type} {f : α → Option β} : ∀ {l : List α} {r : List β}, l.mapM f = some r → ∀ x ∈ l, ∃ y, f x = some y
  | [], _, _, x, hx => by cases hx
  | a :: l, r, h, x, hx => by
    rw [List.mapM_cons] at h
    cases ha : f a with
    | none => simp [ha] at h
    | some y =>
      rcases List.mem_cons.1 hx with rfl | hx
      · exact ⟨y, ha⟩
      · cases hl : l.mapM f with
        | none => simp [ha, hl] at h
        | some ys => exact mapM_some hl x hx
theorem TrC.slice {t e : TypeId} {cs : List Value} (ht : P.underlying t = some (.slice e)) (h : TrC enc P W t cs) : cs = [.slice none 0 0] ∨ ∃ a len cap, cs = [.slice (some a) len cap] ∧ len ≤ cap ∧ cap ≤ 9223372036854775807 ∧
    ∀ i, i < len → ∃ es, W.cells? 0 (a.add (i * P.cellsOf e)) (P.cellsOf e) = some es ∧ TrC enc P W e es := by
  obtain ⟨fuel, x, h⟩ := h
  cases fuel with
  | zero => simp [DataW.trod] at h
  | succ fuel =>
    unfold DataW.trod at h
    rw [ht] at h
    split at h <;> first | (simp at *; done) | skip
    · rename_i e1 a len cap e2
      injection e2 with e2
      injection e2 with e2
      subst e2
      right
      simp only at h
      split at h
      · rename_i hb
        refine ⟨a, len, cap, rfl, hb.2.1, by simpa [maxLen] using hb.2.2, fun i hi => ?_⟩
        cases hm : (List.range len).mapM (fun i => (W.cells? 0 (a.add (i * P.cellsOf e)) (P.cellsOf e)).bind (DataW.trod enc P W 0 (fun _ => true) true fuel e)) with
        | none => rw [hm] at h; simp at h
        | some elems =>
          obtain ⟨y, hy⟩ := mapM_some hm i (by simpa using hi)
          obtain ⟨es, h1, h2⟩ := Option.bind_eq_some_iff.1 hy
          exact ⟨es, h1, fuel, y, h2⟩
      · cases h
theorem TrC.struct {t : TypeId} {fs : Array Field} {cs : List Value} (ht : P.underlying t = some (.struct fs)) (h : TrC enc P W t cs) : cs.length = P.cellsOf t ∧ ∀ f ∈ fs.toList, TrC enc P W f.type ((cs.drop f.offset).take (P.cellsOf f.type)) := by
  obtain ⟨fuel, x, h⟩ := h
  cases fuel with
  | zero => simp [DataW.trod] at h
  | succ fuel =>
    unfold DataW.trod at h
    rw [ht] at h
    split at h <;> first | (simp at *; done) | skip
    rename_i fs1 e1
    injection e1 with e1
    injection e1 with e1
    subst e1
    split at h
    · rename_i hl
      refine ⟨hl, fun f hf => ?_⟩
      obtain ⟨xs, hm, _⟩ := Option.map_eq_some_iff.1 h
      obtain ⟨y, hy⟩ := mapM_some hm f hf
      exact ⟨fuel, y, hy⟩
    · cases h
theorem TrC.array {t e n : Nat} {cs : List Value} (ht : P.underlying t = some (.array n e)) (h : TrC enc P W t cs) : cs.length = P.cellsOf t ∧ ∀ i, i < n → TrC enc P W e ((cs.drop (i * P.cellsOf e)).take (P.cellsOf e)) := by
  obtain ⟨fuel, x, h⟩ := h
  cases fuel with
  | zero => simp [DataW.trod] at h
  | succ fuel =>
    unfold DataW.trod at h
    rw [ht] at h
    split at h <;> first | (simp at *; done) | skip
    rename_i n1 e1 e2
    injection e2 with e2
    injection e2 with e2 e3
    subst e2; subst e3
    split at h
    · rename_i hl
      refine ⟨hl, fun i hi => ?_⟩
      obtain ⟨xs, hm, _⟩ := Option.map_eq_some_iff.1 h
      obtain ⟨y, hy⟩ := mapM_some hm i (by simpa using hi)
      exact ⟨fuel, y, hy⟩
    · cases h
theorem cells_one {W : World} {a : Addr} {es : List Value} (h : W.cells? 0 a 1 = some es) : ∃ v, es = [v] ∧ W.cell? a = some v := by
  unfold World.cells? at h
  simp only [Nat.zero_le, if_true] at h
  have e1 : (List.range 1).mapM (fun i => W.cell? (a.add i)) = (W.cell? a).map (fun v => [v]) := by
    simp [List.range_succ, Addr.add]
    cases W.cell? a <;> rfl
  rw [e1] at h
  obtain ⟨v, hv, rfl⟩ := Option.map_eq_some_iff.1 h
  exact ⟨v, rfl, hv⟩
theorem u8_of_wf {n : Int} (h : (Lit.int .u8 n).wf = true) : ∃ u : UInt8, n = (u.toNat : Int) := by
  simp [Lit.wf, IntKind.min, IntKind.max, IntKind.signed, IntKind.bits] at h
  refine ⟨UInt8.ofNat n.toNat, ?_⟩
  simp
  omega
/-- A slice of bytes. -/
theorem TrC.bytes {t e : TypeId} {v : Value} (ht : P.underlying t = some (.slice e)) (he : P.underlying e = some (.int .u8)) (hc : P.cellsOf e = 1) (h : TrC enc P W t [v]) : ∃ bs, Bts W v bs := by
  rcases h.slice ht with hv | ⟨a, len, cap, hv, h1, h2, h3⟩
  · injection hv with hv
    subst hv
    exact ⟨[], Bts.nil W⟩
  · injection hv with hv
    subst hv
    have key : ∀ i, i < len → ∃ u : UInt8, W.cell? (a.add i) = some (.int .u8 (u.toNat : Int)) := by
      intro i hi
      obtain ⟨es, h4, h5⟩ := h3 i hi
      rw [hc, Nat.mul_one] at h4
      obtain ⟨c, rfl, hcell⟩ := cells_one h4
      obtain ⟨n, hn, hw⟩ := h5.int he
      injection hn with hn
      obtain ⟨u, rfl⟩ := u8_of_wf hw
      exact ⟨u, by rw [hcell, hn]⟩
    have all : ∀ n, n ≤ len → ∃ bs : List UInt8, bs.length = n ∧ ∀ j u, bs[j]? = some u → W.cell? (a.add j) = some (.int .u8 (u.toNat : Int)) := by
      intro n
      induction n with
      | zero => intro _; exact ⟨[], rfl, by simp⟩
      | succ n ih =>
        intro hn
        obtain ⟨bs, hl, hb⟩ := ih (by omega)
        obtain ⟨u, hu⟩ := key n (by omega)
        refine ⟨bs ++ [u], by simp [hl], fun j y hj => ?_⟩
        by_cases hjn : j < bs.length
        · exact hb j y (by rwa [List.getElem?_append_left hjn] at hj)
        · have hlt := (List.getElem?_eq_some_iff.1 hj).1
          simp at hlt
          have : j = bs.length := by omega
          subst this
          simp at hj
          subst hj
          rw [hl]; exact hu
    obtain ⟨bs, hl, hb⟩ := all len (Nat.le_refl _)
    exact ⟨bs, some a, cap, by rw [hl], by omega, h2, fun _ => ⟨a, rfl, hb⟩⟩
end
end Go.Sh
end
section
/- Numbers as bytes: their order, and the way back. Plain Lean. -/
namespace Go.Sh
open Go
/-! ### The order of bytes -/
theorem mod_step (x m : Nat) : x % 256 ^ (m + 1) = x % 256 ^ m + 256 ^ m * (x / 256 ^ m % 256) := by
  rw [Nat.pow_succ, Nat.mod_mul]
theorem less_be (m x y : Nat) : Op.bytesLess (be m x) (be m y) = decide (x % 256 ^ m < y % 256 ^ m) := by
  induction m with
  | zero => simp [be, Op.bytesLess, Nat.mod_one]
  | succ m ih =>
    show (decide (UInt8.ofNat (x / 256 ^ m) < UInt8.ofNat (y / 256 ^ m)) || (UInt8.ofNat (x / 256 ^ m) == UInt8.ofNat (y / 256 ^ m) && Op.bytesLess (be m x) (be m y))) = _
    rw [ih, Bool.eq_iff_iff]
    simp only [Bool.or_eq_true, Bool.and_eq_true, decide_eq_true_eq, beq_iff_eq]
    rw [mod_step x, mod_step y]
    have hp : 0 < 256 ^ m := Nat.pow_pos (by decide)
    have hx := Nat.mod_lt x hp
    have hy := Nat.mod_lt y hp
    have e1 : (UInt8.ofNat (x / 256 ^ m) < UInt8.ofNat (y / 256 ^ m)) ↔ x / 256 ^ m % 256 < y / 256 ^ m % 256 := by
      rw [UInt8.lt_iff_toNat_lt]; simp
    have e2 : (UInt8.ofNat (x / 256 ^ m) = UInt8.ofNat (y / 256 ^ m)) ↔ x / 256 ^ m % 256 = y / 256 ^ m % 256 := by
      rw [← UInt8.toNat_inj]; simp
    rw [e1, e2]
    generalize x / 256 ^ m % 256 = a
    generalize y / 256 ^ m % 256 = b
    generalize x % 256 ^ m = r at hx
    generalize y % 256 ^ m = s at hy
    generalize 256 ^ m = q at hx hy hp
    constructor
    · rintro (h | ⟨rfl, h⟩)
      · have : q * (a + 1) ≤ q * b := Nat.mul_le_mul_left q (by omega)
        rw [Nat.mul_add, Nat.mul_one] at this
        omega
      · omega
    · intro h
      rcases Nat.lt_trichotomy a b with h1 | h1 | h1
      · exact .inl h1
      · subst h1; exact .inr ⟨rfl, by omega⟩
      · have : q * (b + 1) ≤ q * a := Nat.mul_le_mul_left q (by omega)
        rw [Nat.mul_add, Nat.mul_one] at this
        omega
theorem be_inj {m x y : Nat} (hx : x < 256 ^ m) (hy : y < 256 ^ m) (h : be m x = be m y) : x = y := by
  have h1 := less_be m x y
  have h2 := less_be m y x
  rw [h, less_be, Nat.mod_eq_of_lt hy] at h1
  rw [← h, less_be, Nat.mod_eq_of_lt hx] at h2
  rw [Nat.mod_eq_of_lt hx] at h1
  rw [Nat.mod_eq_of_lt hy] at h2
  simp at h1 h2
  omega
theorem num_be (m x : Nat) : num (be m x) = x % 256 ^ m := by
  have key : ∀ m a, (be m x).foldl (fun n u => n * 256 + u.toNat) a = a * 256 ^ m + x % 256 ^ m := by
    intro m
    induction m with
    | zero => intro a; simp [be, Nat.mod_one]
    | succ m ih =>
      intro a
      show (be m x).foldl _ (a * 256 + (UInt8.ofNat (x / 256 ^ m)).toNat) = _
      rw [ih, mod_step]
      have : (UInt8.ofNat (x / 256 ^ m)).toNat = x / 256 ^ m % 256 := by simp
      rw [this, Nat.pow_succ, Nat.add_mul, Nat.mul_comm (x / 256 ^ m % 256), Nat.mul_assoc, Nat.mul_comm 256]
      omega
  have := key m 0
  simpa [num] using this
theorem be_cons_mod (m x y : Nat) (h : x % 256 ^ m = y % 256 ^ m) : be m x = be m y := by
  induction m generalizing x y with
  | zero => rfl
  | succ m ih =>
    rw [mod_step x, mod_step y] at h
    have hp : 0 < 256 ^ m := Nat.pow_pos (by decide)
    have hx := Nat.mod_lt x hp
    have hy := Nat.mod_lt y hp
    have h1 : x % 256 ^ m = y % 256 ^ m := by
      have := congrArg (· % 256 ^ m) h
      simpa [Nat.add_mul_mod_self_left, Nat.mod_mod] using this
    have h2 : x / 256 ^ m % 256 = y / 256 ^ m % 256 := by
      rw [h1] at h
      exact Nat.eq_of_mul_eq_mul_left hp (by omega)
    show UInt8.ofNat (x / 256 ^ m) :: be m x = UInt8.ofNat (y / 256 ^ m) :: be m y
    rw [ih x y h1]
    congr 1
    apply UInt8.toNat_inj.1
    simpa using h2
theorem num_cons (u : UInt8) (l : List UInt8) : num (u :: l) = u.toNat * 256 ^ l.length + num l := by
  have key : ∀ (l : List UInt8) (a : Nat), l.foldl (fun n u => n * 256 + u.toNat) a = a * 256 ^ l.length + num l := by
    intro l
    induction l with
    | nil => intro a; simp [num]
    | cons v l ih =>
      intro a
      have e : num (v :: l) = l.foldl (fun n u => n * 256 + u.toNat) (0 * 256 + v.toNat) := rfl
      rw [List.foldl_cons, ih, e, ih, List.length_cons, Nat.pow_succ, Nat.add_mul, Nat.zero_mul, Nat.zero_add, Nat.mul_assoc, Nat.mul_comm 256, Nat.add_assoc]
  have := key l (0 * 256 + u.toNat)
  have e : num (u :: l) = l.foldl (fun n u => n * 256 + u.toNat) (0 * 256 + u.toNat) := rfl
  rw [e, this, Nat.zero_mul, Nat.zero_add]
theorem num_lt' (l : List UInt8) : num l < 256 ^ l.length := by
  induction l with
  | nil => simp [num]
  | cons u l ih =>
    rw [num_cons, List.length_cons, Nat.pow_succ]
    have := u.toNat_lt
    have h3 : u.toNat * 256 ^ l.length ≤ 255 * 256 ^ l.length := Nat.mul_le_mul_right _ (by omega)
    omega
theorem be_num (l : List UInt8) : be l.length (num l) = l := by
  induction l with
  | nil => rfl
  | cons u l ih =>
    have hlt := num_lt' l
    have hp : 0 < 256 ^ l.length := Nat.pow_pos (by decide)
    show UInt8.ofNat (num (u :: l) / 256 ^ l.length) :: be l.length (num (u :: l)) = _
    have h1 : num (u :: l) / 256 ^ l.length = u.toNat := by
      rw [num_cons, Nat.add_comm, Nat.add_mul_div_right _ _ hp, Nat.div_eq_of_lt hlt, Nat.zero_add]
    have h2 : be l.length (num (u :: l)) = be l.length (num l) := be_cons_mod _ _ _ (by rw [num_cons, Nat.add_comm, Nat.add_mul_mod_self_right])
    rw [h1, h2, ih, UInt8.ofNat_toNat]
end Go.Sh
end
section
/- What a row's arguments are, type by type; and the order of bytes. -/
set_option linter.unusedVariables false
set_option linter.unusedSimpArgs false
namespace Go.Sh
open Go Go.RowKit Go.ChangeShapes Go.WideShapes Go.ChangeAt
section
variable {P : Program} {H : Type} {enc : TypeId × Value → H} {W : World} {base : Nat} {v : Value} {d : DataW H} {p : List MemPlace} {t : TypeId}
theorem arg_u64 (ht : P.underlying t = some (.int .u64)) (ok : Value.okWide P W .any base t v) (h : DataW.Trod enc P W 0 (fun _ => true) true t v d p) : ∃ n : Nat, v = .int .u64 (n : Int) ∧ n < 18446744073709551616 := by
  obtain ⟨n, rfl, _, _, hw⟩ := open_int ht ok h
  simp [Lit.wf, IntKind.min, IntKind.max, IntKind.signed, IntKind.bits] at hw
  exact ⟨n.toNat, by rw [Int.toNat_of_nonneg hw.1], by omega⟩
theorem arg_u32 (ht : P.underlying t = some (.int .u32)) (ok : Value.okWide P W .any base t v) (h : DataW.Trod enc P W 0 (fun _ => true) true t v d p) : ∃ n : Nat, v = .int .u32 (n : Int) ∧ n < 4294967296 := by
  obtain ⟨n, rfl, _, _, hw⟩ := open_int ht ok h
  simp [Lit.wf, IntKind.min, IntKind.max, IntKind.signed, IntKind.bits] at hw
  exact ⟨n.toNat, by rw [Int.toNat_of_nonneg hw.1], by omega⟩
theorem arg_w32 (ht : P.underlying t = some (.int .u32)) (ok : Value.okWide P W .any base t v) (h : DataW.Trod enc P W 0 (fun _ => true) true t v d p) : ∃ c : BitVec 32, v = .int .u32 ((c.toNat : Nat) : Int) := by
  obtain ⟨n, rfl, hn⟩ := arg_u32 ht ok h
  exact ⟨BitVec.ofNat 32 n, by rw [BitVec.toNat_ofNat, Nat.mod_eq_of_lt hn]⟩
theorem arg_u16 (ht : P.underlying t = some (.int .u16)) (ok : Value.okWide P W .any base t v) (h : DataW.Trod enc P W 0 (fun _ => true) true t v d p) : ∃ n : Nat, v = .int .u16 (n : Int) ∧ n < 65536 := by
  obtain ⟨n, rfl, _, _, hw⟩ := open_int ht ok h
  simp [Lit.wf, IntKind.min, IntKind.max, IntKind.signed, IntKind.bits] at hw
  exact ⟨n.toNat, by rw [Int.toNat_of_nonneg hw.1], by omega⟩
theorem arg_u8 (ht : P.underlying t = some (.int .u8)) (ok : Value.okWide P W .any base t v) (h : DataW.Trod enc P W 0 (fun _ => true) true t v d p) : ∃ n : Nat, v = .int .u8 (n : Int) ∧ n < 256 := by
  obtain ⟨n, rfl, _, _, hw⟩ := open_int ht ok h
  simp [Lit.wf, IntKind.min, IntKind.max, IntKind.signed, IntKind.bits] at hw
  exact ⟨n.toNat, by rw [Int.toNat_of_nonneg hw.1], by omega⟩
theorem arg_i64 (ht : P.underlying t = some (.int .i64)) (ok : Value.okWide P W .any base t v) (h : DataW.Trod enc P W 0 (fun _ => true) true t v d p) : ∃ n : Int, v = .int .i64 n ∧ -9223372036854775808 ≤ n ∧ n ≤ 9223372036854775807 := by
  obtain ⟨n, rfl, _, _, hw⟩ := open_int ht ok h
  simp [Lit.wf, IntKind.min, IntKind.max, IntKind.signed, IntKind.bits] at hw
  exact ⟨n, rfl, by omega, by omega⟩
theorem arg_bool (ht : P.underlying t = some .bool) (ok : Value.okWide P W .any base t v) (h : DataW.Trod enc P W 0 (fun _ => true) true t v d p) : ∃ b : Bool, v = .bool b := by
  obtain ⟨b, rfl, _⟩ := open_bool ht ok h
  exact ⟨b, rfl⟩
theorem arg_bytes {e : TypeId} (ht : P.underlying t = some (.slice e)) (he : P.underlying e = some (.int .u8)) (hc : P.cellsOf e = 1) (ok : Value.okWide P W .any base t v)
    (h : DataW.Trod enc P W 0 (fun _ => true) true t v d p) : ∃ bs, Bts W v bs := by
  have hs : ∃ a n c, v = .slice a n c := by
    obtain ⟨a, n, c, e⟩ := okWide_slice ht ok
    exact ⟨a, n, c, e⟩
  obtain ⟨a, n, c, rfl⟩ := hs
  exact TrC.bytes ht he hc (TrC.of h)
theorem arg_string {ts : List TypeId} {ds : List (DataW H)} {j : Nat} (ht : P.underlying t = some .string) (ok : Value.okWide P W .any base t v) (h : DataW.Trod enc P W 0 (fun _ => true) true t v d p)
    (hsz : (DataW.weightsEach P ts ds).all (· ≤ reachBytes) = true) (hj : ts[j]? = some t) (hd : ds[j]? = some d) : ∃ s : List UInt8, v = .string (str s) ∧ s.length < 140737488355328 := by
  obtain ⟨s, rfl, rfl, _, _⟩ := ChangeMaps.open_string ht ok h
  have h1 := sized_string hsz hj hd
  have h2 := reachBytes_lt
  exact ⟨s.data.toList, by rw [← str_of], by omega⟩
end

end Go.Sh
end
section
/- A slice whose elements are one cell each, as a list. -/
set_option linter.unusedVariables false
set_option linter.unusedSimpArgs false
namespace Go.Sh
open Go Go.RowKit Go.ChangeShapes Go.WideShapes Go.ChangeAt

def Row {α : Type} (f : α → Value) (w : World) (v : Value) (xs : List α) : Prop :=
  ∃ a c, v = .slice a xs.length c ∧ xs.length ≤ c ∧ c ≤ 9223372036854775807 ∧ (0 < xs.length → ∃ ad, a = some ad ∧ ∀ j x, xs[j]? = some x → w.cell? (ad.add j) = some (f x))
theorem Row.ext {α : Type} {f : α → Value} {w w' : World} {v : Value} {xs : List α} (h : Row f w v xs) (k : Ext w w') : Row f w' v xs := by
  obtain ⟨a, c, rfl, h1, h2, h3⟩ := h
  refine ⟨a, c, rfl, h1, h2, fun hn => ?_⟩
  obtain ⟨ad, rfl, hc⟩ := h3 hn
  exact ⟨ad, rfl, fun j x hj => k.cell (fun h => h) (hc j x hj)⟩
theorem Row.slice {α : Type} {f : α → Value} {w : World} {v : Value} {xs : List α} (h : Row f w v xs) : ∃ a c, v = .slice a xs.length c := by
  obtain ⟨a, c, e, _⟩ := h
  exact ⟨a, c, e⟩
section
variable {P : Program} {α : Type} {f : α → Value}
theorem Row.cut {T e : TypeId} (hT : P.underlying T = some (.slice e)) (hi : infoB P e = true) {v : Value} {xs : List α} {w0 : World} (hb : Row f w0 v xs) {kh : IntKind} {hj : Int} (h' : Nat) (e2 : hj = h') (h1 : h' ≤ xs.length) :
    ∃ u, (∀ w, (Instr.sliceAt T v none (some (.int kh hj)) none).run P w = .ok u w) ∧ Row f w0 u (xs.take h') := by
  obtain ⟨a, c, rfl, h2, h3, h4⟩ := hb
  refine ⟨_, fun w => sl_hi hT hi h' e2 (by omega) w, ?_⟩
  have hl : (xs.take h').length = h' := by simp; omega
  refine ⟨a, c, by rw [hl], by omega, h3, fun hn => ?_⟩
  obtain ⟨ad, rfl, hc⟩ := h4 (by omega)
  refine ⟨ad, rfl, fun j x hj => hc j x ?_⟩
  rw [List.getElem?_take] at hj
  split at hj
  · exact hj
  · cases hj
theorem Row.at {T e : TypeId} (hT : P.underlying T = some (.slice e)) (hi : infoB P e = true) (hs : szT P e = 1) {v : Value} {xs : List α} {w0 : World} (hb : Row f w0 v xs) {k : IntKind} {ii : Int} (i : Nat) (e1 : ii = i) (h : i < xs.length) :
    ∃ a, (∀ w, (Instr.indexAt T v (.int k ii)).run P w = .ok (.pointer (some a)) w) ∧ w0.cell? a = some (f xs[i]) := by
  obtain ⟨a, c, rfl, h3, h4, h5⟩ := hb
  obtain ⟨ad, rfl, hc⟩ := h5 (by omega)
  refine ⟨_, fun w => ix hT hi i e1 h w, ?_⟩
  rw [hs, Nat.mul_one]
  exact hc i _ (List.getElem?_eq_getElem h)
theorem TrC.row {H : Type} {enc : TypeId × Value → H} {W : World} {t e : TypeId} {v : Value} {Good : α → Prop} (ht : P.underlying t = some (.slice e)) (hc : P.cellsOf e = 1)
    (he : ∀ es, TrC enc P W e es → ∃ x, es = [f x] ∧ Good x) (h : TrC enc P W t [v]) : ∃ xs, Row f W v xs ∧ ∀ x ∈ xs, Good x := by
  rcases h.slice ht with hv | ⟨a, len, cap, hv, h1, h2, h3⟩
  · injection hv with hv
    subst hv
    exact ⟨[], ⟨none, 0, rfl, Nat.le_refl _, by omega, fun h => absurd h (by simp)⟩, by simp⟩
  · injection hv with hv
    subst hv
    have key : ∀ i, i < len → ∃ x, W.cell? (a.add i) = some (f x) ∧ Good x := by
      intro i hi
      obtain ⟨es, h4, h5⟩ := h3 i hi
      rw [hc, Nat.mul_one] at h4
      obtain ⟨c, rfl, hcell⟩ := cells_one h4
      obtain ⟨x, hx, hg⟩ := he _ h5
      injection hx with hx
      exact ⟨x, by rw [hcell, hx], hg⟩
    have all : ∀ n, n ≤ len → ∃ xs : List α, xs.length = n ∧ (∀ j x, xs[j]? = some x → W.cell? (a.add j) = some (f x)) ∧ ∀ x ∈ xs, Good x := by
      intro n
      induction n with
      | zero => intro _; exact ⟨[], rfl, by simp, by simp⟩
      | succ n ih =>
        intro hn
        obtain ⟨xs, hl, hb, hg⟩ := ih (by omega)
        obtain ⟨x, hx, hgx⟩ := key n (by omega)
        refine ⟨xs ++ [x], by simp [hl], fun j y hj => ?_, ?_⟩
        · by_cases hjn : j < xs.length
          · exact hb j y (by rwa [List.getElem?_append_left hjn] at hj)
          · have hlt := (List.getElem?_eq_some_iff.1 hj).1
            simp at hlt
            have : j = xs.length := by omega
            subst this
            simp at hj
            subst hj
            rw [hl]; exact hx
        · intro y hy
          rcases List.mem_append.1 hy with hy | hy
          · exact hg y hy
          · simp at hy; subst hy; exact hgx
    obtain ⟨xs, hl, hb, hg⟩ := all len (Nat.le_refl _)
    exact ⟨xs, ⟨some a, cap, by rw [hl], by omega, h2, fun _ => ⟨a, rfl, hb⟩⟩, hg⟩
variable {H : Type} {enc : TypeId × Value → H} {W : World} {base : Nat} {v : Value} {d : DataW H} {p : List MemPlace} {t : TypeId}
/-- A row of numbers of 64 bits. -/
def fU64 (n : Nat) : Value := .int .u64 (n : Int)
theorem arg_u64s {e : TypeId} (ht : P.underlying t = some (.slice e)) (he : P.underlying e = some (.int .u64)) (hc : P.cellsOf e = 1) (ok : Value.okWide P W .any base t v)
    (h : DataW.Trod enc P W 0 (fun _ => true) true t v d p) : ∃ xs : List Nat, Row fU64 W v xs ∧ ∀ x ∈ xs, x < 18446744073709551616 := by
  obtain ⟨a, n, c, rfl⟩ := okWide_slice ht ok
  refine TrC.row ht hc (fun es hes => ?_) (TrC.of h)
  obtain ⟨n, rfl, hw⟩ := hes.int he
  simp [Lit.wf, IntKind.min, IntKind.max, IntKind.signed, IntKind.bits] at hw
  exact ⟨n.toNat, by unfold fU64; rw [Int.toNat_of_nonneg hw.1], by omega⟩
/-- A row of texts. -/
def fStr (s : List UInt8) : Value := .string (str s)
theorem arg_strs {e : TypeId} (ht : P.underlying t = some (.slice e)) (he : P.underlying e = some .string) (hc : P.cellsOf e = 1) (ok : Value.okWide P W .any base t v)
    (h : DataW.Trod enc P W 0 (fun _ => true) true t v d p) : ∃ xs : List (List UInt8), Row fStr W v xs ∧ ∀ x ∈ xs, x.length ≤ 9223372036854775807 := by
  obtain ⟨a, n, c, rfl⟩ := okWide_slice ht ok
  refine TrC.row ht hc (fun es hes => ?_) (TrC.of h)
  obtain ⟨s, rfl, hs⟩ := hes.string he
  exact ⟨s.data.toList, by unfold fStr; rw [← str_of], by rw [show s.data.toList.length = s.size from rfl]; exact hs⟩
end
end Go.Sh
end
section
/- A disk in memory: its blocks, and the steps that change them. -/
set_option linter.unusedSimpArgs false
set_option linter.unusedVariables false
namespace Go.Proofs.Ytggggfcgnkllgaa
open Go Go.Sh Go.RowKit
attribute [local irreducible] X XU XP XR CALL loopS resC closS

def wcs (p : Nat × List UInt8) : List Value := .int .i64 (p.1 : Int) :: B8 p.2
def wsL (ws : List (Nat × List UInt8)) : List Value := (ws.map wcs).flatten
theorem wcs_all {ws : List (Nat × List UInt8)} (h : ∀ p ∈ ws, p.2.length = 128) : ∀ s ∈ ws.map wcs, s.length = 129 := by
  intro s hs
  obtain ⟨p, hp, rfl⟩ := List.mem_map.1 hs
  simp [wcs, h p hp]
theorem wsL_len {ws : List (Nat × List UInt8)} (h : ∀ p ∈ ws, p.2.length = 128) : (wsL ws).length = ws.length * 129 := by
  unfold wsL
  rw [flat_len (wcs_all h), List.length_map]
theorem wsL_at {ws : List (Nat × List UInt8)} (h : ∀ p ∈ ws, p.2.length = 128) {i : Nat} (hi : i < ws.length) : ((wsL ws).drop (i * 129)).take 129 = wcs ws[i] := by
  unfold wsL
  rw [flat_at (wcs_all h) (by simpa using hi), List.getElem_map]
theorem wsL_append (a b : List (Nat × List UInt8)) : wsL (a ++ b) = wsL a ++ wsL b := by simp [wsL]
theorem wcs_one (p : Nat × List UInt8) : ∀ v ∈ wcs p, v.oneCell' = true := by
  intro v hv
  simp only [wcs, List.mem_cons] at hv
  rcases hv with rfl | hv
  · rfl
  · exact B8_one v hv
/-- A disk's parts, however they go together. -/
structure Raw where
  now : List (List UInt8)
  safe : List (List UInt8)
  ws : List (Nat × List UInt8)
  dead : Bool
  fuse : Int
  done : Int
structure RawAt (w : World) (b : Nat) (r : Raw) (nv sv wv : Value) : Prop where
  blk : w.heap[b]? = some (.cells #[nv, sv, wv, .bool r.dead, .int .i64 r.fuse, .int .i64 r.done] 183 (0, 0))
  now : w.ownsRow 0 184 128 nv r.now.length (B8 r.now.flatten)
  safe : w.ownsRow 0 184 128 sv r.safe.length (B8 r.safe.flatten)
  ws : w.ownsRow 0 186 129 wv r.ws.length (wsL r.ws)
  ne : ∀ g, nv.ownBlock = some g → sv.ownBlock ≠ some g
  n128 : ∀ s ∈ r.now, s.length = 128
  s128 : ∀ s ∈ r.safe, s.length = 128
  w128 : ∀ p ∈ r.ws, p.2.length = 128
def Dk.raw (d : Dk) : Raw := ⟨d.now, d.safe, d.ws, d.dead, d.fuse, d.done⟩
def DiskAt (w : World) (b : Nat) (d : Dk) : Prop := d.ok ∧ ∃ nv sv wv, RawAt w b (Dk.raw d) nv sv wv

theorem RawAt.foot {w : World} {b : Nat} {r : Raw} {nv sv wv : Value} (h : RawAt w b r nv sv wv) {k : Nat} : foot w b k ↔ k = b ∨ nv.ownBlock = some k ∨ sv.ownBlock = some k ∨ wv.ownBlock = some k := by
  rw [foot_cells h.blk]
  simp [Value.ownBlock]
theorem RawAt.lt {w : World} {b : Nat} {r : Raw} {nv sv wv : Value} (h : RawAt w b r nv sv wv) {k : Nat} (hk : Go.Sh.foot w b k) : k < w.heap.size := by
  rcases h.foot.1 hk with rfl | h1 | h1 | h1
  · exact lt_of_blk h.blk
  · exact (h.now.lt k h1).2
  · exact (h.safe.lt k h1).2
  · exact (h.ws.lt k h1).2
theorem RawAt.keep {w w' : World} {b : Nat} {r : Raw} {nv sv wv : Value} {D : Nat → Prop} (h : RawAt w b r nv sv wv) (k : Keep D w w') (hd : ∀ k, Go.Sh.foot w b k → ¬ D k) : RawAt w' b r nv sv wv :=
  ⟨k.get (hd b (foot_self w b)) h.blk, own_keepD h.now k (fun g hg => hd g (h.foot.2 (.inr (.inl hg)))), own_keepD h.safe k (fun g hg => hd g (h.foot.2 (.inr (.inr (.inl hg))))),
    own_keepD h.ws k (fun g hg => hd g (h.foot.2 (.inr (.inr (.inr hg))))), h.ne, h.n128, h.s128, h.w128⟩
theorem RawAt.ext {w w' : World} {b : Nat} {r : Raw} {nv sv wv : Value} (h : RawAt w b r nv sv wv) (k : Ext w w') : RawAt w' b r nv sv wv := h.keep k (fun _ _ h => h)
theorem RawAt.b_ne {w : World} {b : Nat} {r : Raw} {nv sv wv : Value} (h : RawAt w b r nv sv wv) : nv.ownBlock ≠ some b ∧ sv.ownBlock ≠ some b ∧ wv.ownBlock ≠ some b :=
  ⟨own_neT h.now h.blk (by decide), own_neT h.safe h.blk (by decide), own_neT h.ws h.blk (by decide)⟩
theorem DiskAt.lt {w : World} {b : Nat} {d : Dk} (h : DiskAt w b d) : ∀ k, Go.Sh.foot w b k → k < w.heap.size := fun k hk => by
  obtain ⟨_, nv, sv, wv, h⟩ := h
  exact h.lt hk
theorem DiskAt.keep {w w' : World} {b : Nat} {d : Dk} {D : Nat → Prop} (h : DiskAt w b d) (k : Keep D w w') (hd : ∀ k, Go.Sh.foot w b k → ¬ D k) : DiskAt w' b d := by
  obtain ⟨ho, nv, sv, wv, h⟩ := h
  exact ⟨ho, nv, sv, wv, h.keep k hd⟩
theorem DiskAt.ext {w w' : World} {b : Nat} {d : Dk} (h : DiskAt w b d) (k : Ext w w') : DiskAt w' b d := h.keep k (fun _ _ h => h)

/-- The struct's own cells are written. -/
theorem RawAt.put {w : World} {b : Nat} {r : Raw} {nv sv wv : Value} (h : RawAt w b r nv sv wv) {cs' : Array Value} (r' : Raw) (e1 : r'.now = r.now) (e2 : r'.safe = r.safe) (e3 : r'.ws = r.ws)
    (e : cs' = #[nv, sv, wv, .bool r'.dead, .int .i64 r'.fuse, .int .i64 r'.done]) : RawAt (setAt w b cs' 183 (0, 0)) b r' nv sv wv ∧ Step b w (setAt w b cs' 183 (0, 0)) := by
  have k := setAt_keep w b cs' 183 (0, 0)
  have hb := setAt_same (cs := cs') (T := 183) (fr := (0, 0)) (lt_of_blk h.blk)
  obtain ⟨n1, n2, n3⟩ := h.b_ne
  have hr : RawAt (setAt w b cs' 183 (0, 0)) b r' nv sv wv := by
    refine ⟨by rw [hb, e], ?_, ?_, ?_, h.ne, by rw [e1]; exact h.n128, by rw [e2]; exact h.s128, by rw [e3]; exact h.w128⟩
    · rw [e1]; exact own_keepD h.now k (fun g hg hgb => n1 (by rw [hg, hgb]))
    · rw [e2]; exact own_keepD h.safe k (fun g hg hgb => n2 (by rw [hg, hgb]))
    · rw [e3]; exact own_keepD h.ws k (fun g hg hgb => n3 (by rw [hg, hgb]))
  refine ⟨hr, k.mono (fun i _ hi => by subst hi; exact foot_self w i), fun k' hk' => .inl ?_⟩
  exact h.foot.2 (hr.foot.1 hk')
/-- A sector of the call's own: where it lies, and what writing its first bytes does. -/
theorem own_sec {w : World} {base : Nat} {v : Value} {l : List (List UInt8)} (ho : w.ownsRow base 184 128 v l.length (B8 l.flatten)) (h : ∀ s ∈ l, s.length = 128) {i : Nat} (hi : i < l.length) :
    ∃ g cap cur, v = .slice (some ⟨g, 0, none⟩) l.length cap ∧ w.heap[g]? = some (.cells cur 184 (0, 0)) ∧ i * 128 + 128 ≤ cur.size ∧ (cur.toList.drop (i * 128)).take 128 = B8 l[i] ∧
      ∀ x : List UInt8, x.length ≤ 128 → (setAt w g (cur.toList.take (i * 128) ++ B8 x ++ cur.toList.drop (i * 128 + (B8 x).length)).toArray 184 (0, 0)).ownsRow base 184 128 v (l.set i (x ++ l[i].drop x.length)).length (B8 (l.set i (x ++ l[i].drop x.length)).flatten) := by
  have hfl := flat_len h
  rcases id ho.2 with ⟨_, h0⟩ | ⟨g, cap, cur, hv, hg, hh, hn, hm, hs, ht⟩
  · omega
  · have hcur : l.length * 128 ≤ cur.size := by omega
    have hti : cur.toList.take (l.length * 128) = B8 l.flatten := ht
    have hat : (cur.toList.drop (i * 128)).take 128 = B8 l[i] := by
      have e := congrArg (fun x => (x.drop (i * 128)).take 128) hti
      rw [List.drop_take, List.take_take, show min 128 (l.length * 128 - i * 128) = 128 by omega] at e
      rw [e]
      unfold B8
      rw [← List.map_drop, ← List.map_take, flat_at h hi]
    refine ⟨g, cap, cur, hv, hh, by omega, hat, fun x hx => ?_⟩
    have hlen : (l.set i (x ++ l[i].drop x.length)).length = l.length := List.length_set
    have hli := h _ (List.getElem_mem hi)
    have h' : ∀ s ∈ l.set i (x ++ l[i].drop x.length), s.length = 128 := by
      refine set_all128 h i ?_
      rw [List.length_append, List.length_drop]
      omega
    refine ⟨?_, .inr ⟨g, cap, _, by rw [hlen]; exact hv, hg, setAt_same (lt_of_blk hh), by rw [hlen]; exact hn, hm, ?_, ?_⟩⟩
    · rw [B8_length, flat_len h', hlen]
    · rw [List.size_toArray, splice_len _ _ _ (by simp; omega)]
      simpa using hs
    · rw [hlen, flat_put h hi x hx, B8_append, B8_append]
      have t1 : B8 (l.flatten.take (i * 128)) = cur.toList.take (i * 128) := by
        have e := congrArg (fun x => x.take (i * 128)) hti
        rw [List.take_take, show min (i * 128) (l.length * 128) = i * 128 by omega] at e
        rw [e]; unfold B8; rw [List.map_take]
      have t2 : B8 (l.flatten.drop (i * 128 + x.length)) = (cur.toList.take (l.length * 128)).drop (i * 128 + x.length) := by
        rw [hti]; unfold B8; rw [List.map_drop]
      rw [t1, t2, B8_length]
      have e1 : (cur.toList.take (i * 128) ++ B8 x).length = i * 128 + x.length := by
        rw [List.length_append, List.length_take, B8_length, Array.length_toList]; omega
      show ((cur.toList.take (i * 128) ++ B8 x ++ cur.toList.drop (i * 128 + x.length))).take (l.length * 128) = _
      rw [List.take_append, List.take_of_length_le (by omega), e1, List.drop_take]
/-- A sector as it is now. -/
theorem RawAt.now_at {w : World} {b : Nat} {r : Raw} {nv sv wv : Value} (h : RawAt w b r nv sv wv) {i : Nat} (hi : i < r.now.length) :
    ∃ g cap cur, nv = .slice (some ⟨g, 0, none⟩) r.now.length cap ∧ w.heap[g]? = some (.cells cur 184 (0, 0)) ∧ i * 128 + 128 ≤ cur.size ∧ (cur.toList.drop (i * 128)).take 128 = B8 r.now[i] ∧
      ∀ x : List UInt8, x.length ≤ 128 → RawAt (setAt w g (cur.toList.take (i * 128) ++ B8 x ++ cur.toList.drop (i * 128 + (B8 x).length)).toArray 184 (0, 0)) b { r with now := r.now.set i (x ++ r.now[i].drop x.length) } nv sv wv ∧
        Step b w (setAt w g (cur.toList.take (i * 128) ++ B8 x ++ cur.toList.drop (i * 128 + (B8 x).length)).toArray 184 (0, 0)) := by
  obtain ⟨g, cap, cur, hv, hh, h1, h2, h3⟩ := own_sec h.now h.n128 hi
  refine ⟨g, cap, cur, hv, hh, h1, h2, fun x hx => ?_⟩
  have hown := h3 x hx
  have hnb : nv.ownBlock = some g := by rw [hv]; rfl
  generalize (cur.toList.take (i * 128) ++ B8 x ++ cur.toList.drop (i * 128 + (B8 x).length)).toArray = cs' at hown ⊢
  have k := setAt_keep w g cs' 184 (0, 0)
  obtain ⟨n1, n2, n3⟩ := h.b_ne
  have hgb : ¬ b = g := fun e => n1 (by rw [hnb, e])
  have hr : RawAt (setAt w g cs' 184 (0, 0)) b { r with now := r.now.set i (x ++ r.now[i].drop x.length) } nv sv wv := by
    refine ⟨k.get hgb h.blk, hown, own_keepD h.safe k (fun g' hg' e => h.ne g hnb (by rw [hg', e])), own_keepD h.ws k (fun g' hg' e => own_neO h.now h.ws (by decide) hnb (by rw [hg', e])), h.ne, ?_, h.s128, h.w128⟩
    refine set_all128 h.n128 i ?_
    have hli := h.n128 _ (List.getElem_mem hi)
    rw [List.length_append, List.length_drop]
    omega
  refine ⟨hr, k.mono (fun j _ hj => by rw [hj]; exact h.foot.2 (.inr (.inl hnb))), fun k' hk' => .inl ?_⟩
  exact h.foot.2 (hr.foot.1 hk')
/-- A sector as it was safe last. -/
theorem RawAt.safe_at {w : World} {b : Nat} {r : Raw} {nv sv wv : Value} (h : RawAt w b r nv sv wv) {i : Nat} (hi : i < r.safe.length) :
    ∃ g cap cur, sv = .slice (some ⟨g, 0, none⟩) r.safe.length cap ∧ w.heap[g]? = some (.cells cur 184 (0, 0)) ∧ i * 128 + 128 ≤ cur.size ∧ (cur.toList.drop (i * 128)).take 128 = B8 r.safe[i] ∧
      ∀ x : List UInt8, x.length ≤ 128 → RawAt (setAt w g (cur.toList.take (i * 128) ++ B8 x ++ cur.toList.drop (i * 128 + (B8 x).length)).toArray 184 (0, 0)) b { r with safe := r.safe.set i (x ++ r.safe[i].drop x.length) } nv sv wv ∧
        Step b w (setAt w g (cur.toList.take (i * 128) ++ B8 x ++ cur.toList.drop (i * 128 + (B8 x).length)).toArray 184 (0, 0)) := by
  obtain ⟨g, cap, cur, hv, hh, h1, h2, h3⟩ := own_sec h.safe h.s128 hi
  refine ⟨g, cap, cur, hv, hh, h1, h2, fun x hx => ?_⟩
  have hown := h3 x hx
  have hnb : sv.ownBlock = some g := by rw [hv]; rfl
  generalize (cur.toList.take (i * 128) ++ B8 x ++ cur.toList.drop (i * 128 + (B8 x).length)).toArray = cs' at hown ⊢
  have k := setAt_keep w g cs' 184 (0, 0)
  obtain ⟨n1, n2, n3⟩ := h.b_ne
  have hgb : ¬ b = g := fun e => n2 (by rw [hnb, e])
  have hr : RawAt (setAt w g cs' 184 (0, 0)) b { r with safe := r.safe.set i (x ++ r.safe[i].drop x.length) } nv sv wv := by
    refine ⟨k.get hgb h.blk, own_keepD h.now k (fun g' hg' e => h.ne g' hg' (by rw [hnb, e])), hown, own_keepD h.ws k (fun g' hg' e => own_neO h.safe h.ws (by decide) hnb (by rw [hg', e])), h.ne, h.n128, ?_, h.w128⟩
    refine set_all128 h.s128 i ?_
    have hli := h.s128 _ (List.getElem_mem hi)
    rw [List.length_append, List.length_drop]
    omega
  refine ⟨hr, k.mono (fun j _ hj => by rw [hj]; exact h.foot.2 (.inr (.inr (.inl hnb)))), fun k' hk' => .inl ?_⟩
  exact h.foot.2 (hr.foot.1 hk')
/-- A write that is not safe. -/
theorem RawAt.ws_at {w : World} {b : Nat} {r : Raw} {nv sv wv : Value} (h : RawAt w b r nv sv wv) {i : Nat} (hi : i < r.ws.length) :
    ∃ g cap cur, wv = .slice (some ⟨g, 0, none⟩) r.ws.length cap ∧ w.heap[g]? = some (.cells cur 186 (0, 0)) ∧ (cur.toList.drop (i * 129)).take 129 = wcs r.ws[i] := by
  rcases id h.ws.2 with ⟨_, h0⟩ | ⟨g, cap, cur, hv, hg, hh, hn, hm, hs, ht⟩
  · omega
  · refine ⟨g, cap, cur, hv, hh, ?_⟩
    have e := congrArg (fun x => (x.drop (i * 129)).take 129) ht
    rw [List.drop_take, List.take_take, show min 129 (r.ws.length * 129 - i * 129) = 129 by omega, wsL_at h.w128 hi] at e
    exact e
/-- One more write, once it is appended. -/
theorem RawAt.append {w w1 : World} {b : Nat} {r : Raw} {nv sv wv v' : Value} (h : RawAt w b r nv sv wv) (p : Nat × List UInt8) (hp : p.2.length = 128) (k : Keep (fun k => some k = wv.ownBlock) w w1)
    (ho : ∃ base, w1.ownsRow base 186 129 v' (r.ws.length + 1) (wsL r.ws ++ wcs p)) (hn : ∀ g, v'.ownBlock = some g → wv.ownBlock = some g ∨ w.heap.size ≤ g) :
    w1.heap[b]? = some (.cells #[nv, sv, wv, .bool r.dead, .int .i64 r.fuse, .int .i64 r.done] 183 (0, 0)) ∧
    RawAt (setAt w1 b #[nv, sv, v', .bool r.dead, .int .i64 r.fuse, .int .i64 r.done] 183 (0, 0)) b { r with ws := r.ws ++ [p] } nv sv v' ∧ Step b w (setAt w1 b #[nv, sv, v', .bool r.dead, .int .i64 r.fuse, .int .i64 r.done] 183 (0, 0)) := by
  obtain ⟨n1, n2, n3⟩ := h.b_ne
  have hb1 : w1.heap[b]? = some (.cells #[nv, sv, wv, .bool r.dead, .int .i64 r.fuse, .int .i64 r.done] 183 (0, 0)) := k.get (fun e => n3 e.symm) h.blk
  obtain ⟨base, ho⟩ := ho
  have ho0 := own_base0 ho
  have k2 := setAt_keep w1 b #[nv, sv, v', .bool r.dead, .int .i64 r.fuse, .int .i64 r.done] 183 (0, 0)
  have hnow1 := own_keepD h.now k (fun g hg e => own_neO h.now h.ws (by decide) hg e.symm)
  have hsafe1 := own_keepD h.safe k (fun g hg e => own_neO h.safe h.ws (by decide) hg e.symm)
  have hr : RawAt (setAt w1 b #[nv, sv, v', .bool r.dead, .int .i64 r.fuse, .int .i64 r.done] 183 (0, 0)) b { r with ws := r.ws ++ [p] } nv sv v' := by
    refine ⟨setAt_same (lt_of_blk hb1), own_keepD hnow1 k2 (fun g hg e => n1 (by rw [hg, e])), own_keepD hsafe1 k2 (fun g hg e => n2 (by rw [hg, e])), ?_, h.ne, h.n128, h.s128, ?_⟩
    · have e1 : (r.ws ++ [p]).length = r.ws.length + 1 := by simp
      have e2 : wsL (r.ws ++ [p]) = wsL r.ws ++ wcs p := by rw [wsL_append]; simp [wsL]
      show World.ownsRow _ 0 186 129 v' (r.ws ++ [p]).length (wsL (r.ws ++ [p]))
      rw [e1, e2]
      exact own_keepD ho0 k2 (fun g hg e => own_neT ho0 hb1 (by decide) (by rw [hg, e]))
    · intro q hq
      rcases List.mem_append.1 hq with hq | hq
      · exact h.w128 q hq
      · rw [List.mem_singleton.1 hq]; exact hp
  refine ⟨hb1, hr, ?_, fun k' hk' => ?_⟩
  · refine Keep.seq (k.mono (fun i _ hi => h.foot.2 (.inr (.inr (.inr hi.symm))))) k2 (fun i _ hi => ?_)
    rw [hi]; exact foot_self w b
  · rcases hr.foot.1 hk' with h1 | h1 | h1 | h1
    · exact .inl (h.foot.2 (.inl h1))
    · exact .inl (h.foot.2 (.inr (.inl h1)))
    · exact .inl (h.foot.2 (.inr (.inr (.inl h1))))
    · rcases hn _ h1 with h2 | h2
      · exact .inl (h.foot.2 (.inr (.inr (.inr h2))))
      · exact .inr h2
/-- No write is left. -/
theorem RawAt.clear {w : World} {b : Nat} {r : Raw} {nv sv wv : Value} (h : RawAt w b r nv sv wv) :
    RawAt (setAt w b #[nv, sv, .slice none 0 0, .bool r.dead, .int .i64 r.fuse, .int .i64 r.done] 183 (0, 0)) b { r with ws := [] } nv sv (.slice none 0 0) ∧ Step b w (setAt w b #[nv, sv, .slice none 0 0, .bool r.dead, .int .i64 r.fuse, .int .i64 r.done] 183 (0, 0)) := by
  obtain ⟨n1, n2, n3⟩ := h.b_ne
  have k := setAt_keep w b #[nv, sv, .slice none 0 0, .bool r.dead, .int .i64 r.fuse, .int .i64 r.done] 183 (0, 0)
  have hr : RawAt (setAt w b #[nv, sv, .slice none 0 0, .bool r.dead, .int .i64 r.fuse, .int .i64 r.done] 183 (0, 0)) b { r with ws := [] } nv sv (.slice none 0 0) :=
    ⟨setAt_same (lt_of_blk h.blk), own_keepD h.now k (fun g hg e => n1 (by rw [hg, e])), own_keepD h.safe k (fun g hg e => n2 (by rw [hg, e])), ⟨rfl, .inl ⟨rfl, rfl⟩⟩, h.ne, h.n128, h.s128, by intro p hp; exact absurd hp (by simp)⟩
  refine ⟨hr, k.mono (fun i _ hi => by rw [hi]; exact foot_self w b), fun k' hk' => .inl ?_⟩
  rcases hr.foot.1 hk' with h1 | h1 | h1 | h1
  · exact h.foot.2 (.inl h1)
  · exact h.foot.2 (.inr (.inl h1))
  · exact h.foot.2 (.inr (.inr (.inl h1)))
  · cases h1
end Go.Proofs.Ytggggfcgnkllgaa
end
section
/- cellarage/disk, function by function: what each computes on the plain disk. First those that write no sector. -/
set_option linter.unusedSimpArgs false
set_option linter.unusedVariables false
namespace Go.Proofs.Ytggggfcgnkllgaa
open Go Go.Sh Go.RowKit
attribute [local irreducible] X XU XP XR CALL loopS resC closS

abbrev ptr (b : Nat) : Value := .pointer (some ⟨b, 0, none⟩)
abbrev i64v (n : Int) : Value := .int .i64 n
theorem run_eql_nilsl {P : Program} {T e : TypeId} (hT : P.underlying T = some (.slice e)) (a b : Operand) (p : Option Addr) (n c : Nat) (w : World) : (binOpG .eql T a b (.slice p n c) (.slice none 0 0)).run P w = .ok (.bool p.isNone) w := by
  have e1 : binOpG .eql T a b (.slice p n c) (.slice none 0 0) = (do eqGuard .eql T a b (.slice p n c) (.slice none 0 0); let r ← Op.equal T (.slice p n c) (.slice none 0 0); pure (.bool r) : Sem Value) := by cases p <;> rfl
  have e2 : (Op.equal T (.slice p n c) (.slice none 0 0)).run P w = .ok p.isNone w := by
    rw [equal_succ]
    unfold Op.equalIn
    rw [Sem.run_bind, run_underlying hT]
    cases p <;> rfl
  rw [e1, eqGuard_at_slice]
  simp only [Sem.run_bind, Sem.run_pure, Result.andThen_ok, e2]
theorem run_empty27 (w : World) : (Instr.buildSlice 27 0 #[]).run Try.prog w = .ok (.slice (some ⟨w.heap.size, 0, none⟩) 0 0) (newB w #[] 5) := by kernel_rfl
theorem own_emptyT (w : World) (e size : Nat) : (newB w #[] e).ownsRow w.heap.size e size (.slice (some ⟨w.heap.size, 0, none⟩) 0 0) 0 [] :=
  ⟨by simp, .inr ⟨w.heap.size, 0, #[], rfl, Nat.le_refl _, newB_get _ _ _, Nat.le_refl _, by simp [maxLen], by simp, by simp⟩⟩
theorem own_nilB (w : World) : w.ownsRow w.heap.size 5 1 (.slice none 0 0) ([] : List UInt8).length (B8 []) := World.ownsRow_nil w _ 5 1
/-- slices.Clone of bytes. -/
theorem Clone_spec {v : Value} {bs : List UInt8} {w : World} {K : Value → World → Prop} (hb : Bts w v bs) (hl : bs.length ≤ 140737488355328)
    (h : ∀ v' w1, Ext w w1 → w1.ownsRow w.heap.size 5 1 v' bs.length (B8 bs) → K v' w1) : CALL Try.prog 132 #[v] w K := by
  obtain ⟨a, c, e⟩ := Bts.slice hb
  apply call_slices_Clone_byte
  unfold B_slices_Clone_byte
  rw [e]
  refine X_of (run_eql_nilsl Try.underlying27 _ _ _ _ _ _) ?_
  rw [condS_bool]
  cases a with
  | none =>
    have h0 : bs = [] := by
      obtain ⟨a', c', e', _, _, hc⟩ := hb
      rw [e] at e'
      injection e' with e1 _ _
      subst e1
      apply List.eq_nil_of_length_eq_zero
      rcases Nat.eq_zero_or_pos bs.length with h' | h'
      · exact h'
      · obtain ⟨ad, h'', _⟩ := hc h'
        cases h''
    subst h0
    show K _ _
    exact h _ _ (Keep.refl _ _) (own_nilB w)
  | some ad =>
    rw [if_neg (by simp)]
    refine X_of (run_empty27 _) ?_
    have hx := newB_ext w #[] 5
    have ho := own_emptyT w 5 1
    rw [← e]
    refine X_append_bts (base := w.heap.size) Try.underlying27 el_5 (xs := []) ho (hb.ext hx) (by omega) hx.size ?_
    intro v' w1 ho' hk
    rw [Nat.zero_add, List.nil_append] at ho'
    refine h v' w1 (Ext.seq hx hk (fun i hi => ?_)) ho'
    injection hi with hi
    exact Nat.le_of_eq hi.symm
/-- slices.Clone of cells, elements of any size. -/
theorem clone_run {w : World} {K : Value → World → Prop} {t e size bytes n m : Nat} {z : Value} {v : Value} {xs : List Value} (ht : Try.prog.underlying t = some (.slice e)) (hE : El Try.prog e size z bytes) (h0 : 0 < size) (hb0 : 0 < bytes)
    (ho : w.ownsRow m e size v n xs) (h1 : ∀ u ∈ xs, u.oneCell' = true) (hb : n * bytes ≤ 140737488355328) (he : ∀ w', (Instr.buildSlice t 0 #[]).run Try.prog w' = .ok (.slice (some ⟨w'.heap.size, 0, none⟩) 0 0) (newB w' #[] e))
    (h : ∀ v' w1, Ext w w1 → w1.ownsRow w.heap.size e size v' n xs → K v' w1) :
    X Try.prog (binOpG .eql t (.tmp 3) (.const (.slice none 0 0)) v (.slice none 0 0)) w fun v1 w1 => condS v1 (K (.slice none 0 0) w1) (X Try.prog (Instr.buildSlice t 0 #[]) w1 fun v2 w2 => X Try.prog (Builtin.append_ #[t, t] t #[v2, v]) w2 fun v3 w3 => K v3 w3) := by
  rcases id ho.2 with ⟨rfl, rfl⟩ | ⟨g, cap, cur, rfl, hg, hh, hn, hm, hs, htk⟩
  · refine X_of (run_eql_nilsl ht _ _ _ _ _ _) ?_
    rw [condS_bool]
    show K _ _
    have hx : xs = [] := List.eq_nil_of_length_eq_zero (by simpa using ho.1)
    subst hx
    exact h _ _ (Keep.refl _ _) (World.ownsRow_nil w _ e size)
  · refine X_of (run_eql_nilsl ht _ _ _ _ _ _) ?_
    rw [condS_bool, if_neg (by simp)]
    refine X_of (he _) ?_
    have hx := newB_ext w #[] e
    have hoE := own_emptyT w e size
    have hox := own_extD ho hx
    refine X_append (base := w.heap.size) ht hE h0 hoE (news := xs) ho.1 (hox.cells rfl) h1 (by rw [Nat.zero_add]; exact hb) hb0 hx.size ?_
    intro v' w1 ho' hk
    rw [Nat.zero_add, List.nil_append] at ho'
    refine h v' w1 (Ext.seq hx hk (fun i hi => ?_)) ho'
    injection hi with hi
    exact Nat.le_of_eq hi.symm
theorem own_sl {w : World} {base e size n : Nat} {v : Value} {xs : List Value} (h : w.ownsRow base e size v n xs) : ∃ a c, v = .slice a n c := by
  rcases h.2 with ⟨rfl, rfl⟩ | ⟨g, cap, _, rfl, _⟩
  · exact ⟨_, _, rfl⟩
  · exact ⟨_, _, rfl⟩

/-! ### What is told of a disk -/
section
variable {w : World} {b : Nat} {d : Dk} {K : Value → World → Prop}
theorem Dead_spec (h : DiskAt w b d) (hK : K (.bool d.dead) w) : CALL Try.prog 76 #[ptr b] w K := by
  obtain ⟨ok, nv, sv, wv, h⟩ := h
  apply call_disk_Disk_Dead
  unfold B_disk_Disk_Dead
  simp only [X_neq_nil_74, Option.isSome_some, gstep_bool, if_true, X_nilS, X_field_183_3]
  refine X_loadL agg_4 h.blk rfl ?_
  simp only [X_pick, if_true]
  exact hK
theorem Pending_spec (h : DiskAt w b d) (hK : K (i64v d.ws.length) w) : CALL Try.prog 77 #[ptr b] w K := by
  obtain ⟨ok, nv, sv, wv, h⟩ := h
  apply call_disk_Disk_Pending
  unfold B_disk_Disk_Pending
  simp only [X_eql_nil_74, Option.isNone_some, condS_bool, Bool.false_eq_true, if_false, X_nilS, X_field_183_2]
  refine X_loadL agg_181 h.blk rfl ?_
  obtain ⟨a, c, e⟩ := own_sl h.ws
  rw [e, X_len_181]
  exact hK
theorem Size_spec (h : DiskAt w b d) (hK : K (i64v d.safe.length) w) : CALL Try.prog 84 #[ptr b] w K := by
  obtain ⟨ok, nv, sv, wv, h⟩ := h
  apply call_disk_Disk_Size
  unfold B_disk_Disk_Size
  simp only [X_eql_nil_74, Option.isNone_some, condS_bool, Bool.false_eq_true, if_false, X_nilS, X_field_183_0]
  refine X_loadL agg_180 h.blk rfl ?_
  obtain ⟨a, c, e⟩ := own_sl h.now
  rw [e, X_len_180, show (Dk.raw d).now.length = d.safe.length from Dk.now_length d]
  exact hK
theorem Done_spec (h : DiskAt w b d) (hK : K (i64v d.done) w) : CALL Try.prog 79 #[ptr b] w K := by
  obtain ⟨ok, nv, sv, wv, h⟩ := h
  apply call_disk_Disk_Done
  unfold B_disk_Disk_Done
  simp only [X_eql_nil_74, Option.isNone_some, condS_bool, Bool.false_eq_true, if_false, X_nilS, X_field_183_5]
  exact X_loadL agg_3 h.blk rfl hK
/-! A nil disk. -/
theorem Dead_nil (hK : K (.bool false) w) : CALL Try.prog 76 #[.pointer none] w K := by
  apply call_disk_Disk_Dead
  unfold B_disk_Disk_Dead
  simp only [X_neq_nil_74, Option.isSome_none, gstep_bool, Bool.false_eq_true, if_false, X_pick]
  exact hK
theorem Pending_nil (hK : K (i64v 0) w) : CALL Try.prog 77 #[.pointer none] w K := by
  apply call_disk_Disk_Pending
  unfold B_disk_Disk_Pending
  simp only [X_eql_nil_74, Option.isNone_none, condS_bool, if_true]
  exact hK
theorem Size_nil (hK : K (i64v 0) w) : CALL Try.prog 84 #[.pointer none] w K := by
  apply call_disk_Disk_Size
  unfold B_disk_Disk_Size
  simp only [X_eql_nil_74, Option.isNone_none, condS_bool, if_true]
  exact hK
theorem Done_nil (hK : K (i64v 0) w) : CALL Try.prog 79 #[.pointer none] w K := by
  apply call_disk_Disk_Done
  unfold B_disk_Disk_Done
  simp only [X_eql_nil_74, Option.isNone_none, condS_bool, if_true]
  exact hK
theorem Copy_nil (hK : K (.pointer none) w) : CALL Try.prog 81 #[.pointer none] w K := by
  apply call_disk_Disk_Copy
  unfold B_disk_Disk_Copy
  simp only [X_eql_nil_74, Option.isNone_none, condS_bool, if_true]
  exact hK
theorem Cut_nil {v : Value} (hK : K (.tuple #[]) w) : CALL Try.prog 78 #[.pointer none, v] w K := by
  apply call_disk_Disk_Cut
  unfold B_disk_Disk_Cut
  simp only [X_neq_nil_74, Option.isSome_none, gstep_bool, Bool.false_eq_true, if_false, X_pick, condS_bool]
  exact hK
theorem Crash_nil {v : Value} (hK : K (.tuple #[]) w) : CALL Try.prog 72 #[.pointer none, v] w K := by
  apply call_disk_Disk_Crash
  unfold B_disk_Disk_Crash
  simp only [X_eql_nil_74, Option.isNone_none, condS_bool, if_true]
  exact hK
theorem Read_nil {v : Value} (hK : K (.tuple #[.slice none 0 0, i64v 2]) w) : CALL Try.prog 73 #[.pointer none, v] w K := by
  apply call_disk_Disk_Read
  unfold B_disk_Disk_Read
  simp only [X_eql_nil_74, Option.isNone_none, condS_bool, if_true]
  exact hK
theorem Write_nil {v v1 : Value} (hK : K (i64v 2) w) : CALL Try.prog 70 #[.pointer none, v, v1] w K := by
  apply call_disk_Disk_Write
  unfold B_disk_Disk_Write
  simp only [X_eql_nil_74, Option.isNone_none, condS_bool, if_true]
  exact hK
theorem Flush_nil (hK : K (i64v 2) w) : CALL Try.prog 71 #[.pointer none] w K := by
  apply call_disk_Disk_Flush
  unfold B_disk_Disk_Flush
  simp only [X_eql_nil_74, Option.isNone_none, condS_bool, if_true]
  exact hK

/-! ### The power -/
theorem powered_spec {r : Raw} {nv sv wv : Value} (h : RawAt w b r nv sv wv)
    (hK : ∀ (p : Raw) w1, p.now = r.now → p.safe = r.safe → p.ws = r.ws → p.dead = (if r.fuse = 0 then true else r.dead) → p.fuse = (if r.fuse = 0 then -1 else if p.dead = false ∧ 0 < r.fuse then IntKind.i64.wrap (r.fuse - 1) else r.fuse) →
      p.done = (if p.dead = true then r.done else IntKind.i64.wrap (r.done + 1)) → RawAt w1 b p nv sv wv → Step b w w1 → K (i64v (if p.dead = true then 6 else 0)) w1) : CALL Try.prog 131 #[ptr b] w K := by
  apply call_disk_Disk_powered
  unfold B_disk_Disk_powered
  simp only [X_nilS, X_field_183_3, X_field_183_4, X_field_183_5]
  refine joinS_of (fun ρ w1 => ρ 0 = ptr b ∧ RawAt w1 b { r with dead := if r.fuse = 0 then true else r.dead, fuse := if r.fuse = 0 then -1 else r.fuse } nv sv wv ∧ Step b w w1) ?_ ?_
  · rintro ρ w1 ⟨e0, h1, s1⟩
    rw [e0]
    simp only [X_nilS, X_field_183_3, X_field_183_4, X_field_183_5]
    refine X_loadL agg_4 h1.blk rfl ?_
    rw [condS_bool]
    by_cases hd : (if r.fuse = 0 then true else r.dead) = true
    · rw [if_pos hd]
      have := hK { r with dead := if r.fuse = 0 then true else r.dead, fuse := if r.fuse = 0 then -1 else r.fuse } w1 rfl rfl rfl rfl (by
        show (if r.fuse = 0 then (-1 : Int) else r.fuse) = (if r.fuse = 0 then -1 else if (if r.fuse = 0 then true else r.dead) = false ∧ 0 < r.fuse then IntKind.i64.wrap (r.fuse - 1) else r.fuse)
        rw [hd]
        simp) (by
        show r.done = (if (if r.fuse = 0 then true else r.dead) = true then r.done else IntKind.i64.wrap (r.done + 1))
        rw [if_pos hd]) h1 s1
      rw [if_pos hd] at this
      exact this
    · rw [if_neg hd]
      have hf0 : r.fuse ≠ 0 := fun e => hd (by rw [if_pos e])
      have hd' : r.dead = false := by
        rw [if_neg hf0] at hd
        simpa using hd
      refine X_loadL agg_3 h1.blk rfl ?_
      rw [X_add]
      refine XU_store info_3 sz_3 rfl h1.blk (Nat.le_of_ble_eq_true rfl) (by show ¬ ((0 : Nat) ≤ 5 ∧ 5 < 0); omega) ?_
      obtain ⟨h2, s2⟩ := h1.put (cs' := (#[nv, sv, wv, .bool (if r.fuse = 0 then true else r.dead), .int .i64 (if r.fuse = 0 then -1 else r.fuse), .int .i64 r.done] : Array Value).setIfInBounds (0 + 5) (.int .i64 (IntKind.i64.wrap (r.done + 1))))
        { r with dead := if r.fuse = 0 then true else r.dead, fuse := if r.fuse = 0 then -1 else r.fuse, done := IntKind.i64.wrap (r.done + 1) } rfl rfl rfl rfl
      refine joinS_of (fun _ w2 => RawAt w2 b { r with dead := if r.fuse = 0 then true else r.dead, fuse := if r.fuse = 0 then -1 else if 0 < r.fuse then IntKind.i64.wrap (r.fuse - 1) else r.fuse, done := IntKind.i64.wrap (r.done + 1) } nv sv wv ∧ Step b w w2) ?_ ?_
      · rintro ρ' w2 ⟨h3, s3⟩
        have := hK { r with dead := if r.fuse = 0 then true else r.dead, fuse := if r.fuse = 0 then -1 else if 0 < r.fuse then IntKind.i64.wrap (r.fuse - 1) else r.fuse, done := IntKind.i64.wrap (r.done + 1) } w2 rfl rfl rfl rfl (by
          show (if r.fuse = 0 then (-1 : Int) else if 0 < r.fuse then IntKind.i64.wrap (r.fuse - 1) else r.fuse) = (if r.fuse = 0 then -1 else if (if r.fuse = 0 then true else r.dead) = false ∧ 0 < r.fuse then IntKind.i64.wrap (r.fuse - 1) else r.fuse)
          rw [if_neg hf0, if_neg hf0, if_neg hf0, hd']
          simp) (by
          show IntKind.i64.wrap (r.done + 1) = (if (if r.fuse = 0 then true else r.dead) = true then r.done else IntKind.i64.wrap (r.done + 1))
          rw [if_neg hd]) h3 s3
        rw [if_neg hd] at this
        exact this
      · intro J hJ
        generalize setAt w1 b _ 183 (0, 0) = w2 at h2 s2 ⊢
        refine X_loadL agg_3 h2.blk rfl ?_
        simp only [hf0, if_false, X_gtr, condS_bool]
        simp only [hf0, if_false] at h2
        by_cases hp : 0 < r.fuse
        · rw [if_pos (by simpa using hp)]
          refine X_loadL agg_3 h2.blk rfl ?_
          rw [X_sub]
          refine XU_store info_3 sz_3 rfl h2.blk (Nat.le_of_ble_eq_true rfl) (by show ¬ ((0 : Nat) ≤ 4 ∧ 4 < 0); omega) ?_
          obtain ⟨h3, s3⟩ := h2.put (cs' := (#[nv, sv, wv, .bool r.dead, .int .i64 r.fuse, .int .i64 (IntKind.i64.wrap (r.done + 1))] : Array Value).setIfInBounds (0 + 4) (.int .i64 (IntKind.i64.wrap (r.fuse - 1))))
            { r with fuse := IntKind.i64.wrap (r.fuse - 1), done := IntKind.i64.wrap (r.done + 1) } rfl rfl rfl rfl
          refine hJ _ _ ⟨?_, s1.trans (s2.trans s3)⟩
          simp only [hf0, if_false, hp, if_true]
          exact h3
        · rw [if_neg (by simpa using hp)]
          refine hJ _ _ ⟨?_, s1.trans s2⟩
          simp only [hf0, if_false, hp, if_false]
          exact h2
  · intro J hJ
    refine X_loadL agg_3 h.blk rfl ?_
    rw [X_eql, condS_bool]
    by_cases hf : r.fuse = 0
    · rw [if_pos (by simpa using hf)]
      refine XU_store info_4 sz_4 rfl h.blk (Nat.le_of_ble_eq_true rfl) (by show ¬ ((0 : Nat) ≤ 3 ∧ 3 < 0); omega) ?_
      obtain ⟨h1, s1⟩ := h.put (cs' := (#[nv, sv, wv, .bool r.dead, .int .i64 r.fuse, .int .i64 r.done] : Array Value).setIfInBounds (0 + 3) (.bool true)) { r with dead := true } rfl rfl rfl rfl
      generalize setAt w b _ 183 (0, 0) = w1 at h1 s1 ⊢
      refine XU_store info_3 sz_3 rfl h1.blk (Nat.le_of_ble_eq_true rfl) (by show ¬ ((0 : Nat) ≤ 4 ∧ 4 < 0); omega) ?_
      obtain ⟨h2, s2⟩ := h1.put (cs' := (#[nv, sv, wv, .bool true, .int .i64 r.fuse, .int .i64 r.done] : Array Value).setIfInBounds (0 + 4) (.int .i64 (-1))) { r with dead := true, fuse := -1 } rfl rfl rfl rfl
      refine hJ _ _ ⟨rfl, ?_, s1.trans s2⟩
      simp only [hf, if_true]
      exact h2
    · rw [if_neg (by simpa using hf)]
      refine hJ _ _ ⟨rfl, ?_, Step.refl⟩
      simp only [hf, if_false]
      exact h
/-- The same, of the plain disk. -/
theorem powered_spec' {nv sv wv : Value} (hok : d.ok) (h : RawAt w b (Dk.raw d) nv sv wv)
    (h0 : d.trip.dead = true → ∀ w1, RawAt w1 b (Dk.raw d.trip) nv sv wv → Step b w w1 → K (i64v 6) w1)
    (h1 : d.trip.dead = false → ∀ w1, RawAt w1 b (Dk.raw d.trip.tick) nv sv wv → Step b w w1 → K (i64v 0) w1) : CALL Try.prog 131 #[ptr b] w K := by
  refine powered_spec h ?_
  rintro ⟨pn, ps, pw, pd, pf, pdn⟩ w1 e1 e2 e3 e4 e5 e6 hr hs
  simp only at e1 e2 e3 e4 e5 e6
  have et : d.trip.dead = pd := by
    rw [e4]
    show (Dk.trip d).dead = (if d.fuse = 0 then true else d.dead)
    unfold Dk.trip
    split <;> rfl
  have ef : (Dk.trip d).fuse = if d.fuse = 0 then -1 else d.fuse := by unfold Dk.trip; split <;> rfl
  by_cases hd : pd = true
  · rw [if_pos hd]
    refine h0 (by rw [et, hd]) w1 ?_ hs
    have er : Dk.raw d.trip = ⟨pn, ps, pw, pd, pf, pdn⟩ := by
      unfold Dk.raw Dk.now
      rw [Dk.trip_safe, Dk.trip_ws, Dk.trip_done, et, ef, e1, e2, e3, e5, e6, if_pos hd, hd]
      simp [Dk.raw, Dk.now]
    rw [er]; exact hr
  · have hd' : pd = false := by simpa using hd
    rw [if_neg hd]
    refine h1 (by rw [et, hd']) w1 ?_ hs
    have hf0 : d.fuse ≠ 0 := by
      intro e
      rw [hd'] at e4
      have : (Dk.raw d).fuse = 0 := e
      rw [if_pos this] at e4
      cases e4
    have hr0 : (Dk.raw d).fuse = d.fuse := rfl
    have er : Dk.raw d.trip.tick = ⟨pn, ps, pw, pd, pf, pdn⟩ := by
      have t1 : d.trip.tick.safe = d.safe := Dk.trip_safe d
      have t2 : d.trip.tick.ws = d.ws := Dk.trip_ws d
      have t3 : d.trip.tick.dead = d.trip.dead := rfl
      have t4 : d.trip.tick.done = IntKind.i64.wrap (d.done + 1) := by show IntKind.i64.wrap (d.trip.done + 1) = _; rw [Dk.trip_done]
      have t5 : d.trip.tick.fuse = if 0 < d.fuse then d.fuse - 1 else d.fuse := by
        show (if 0 < d.trip.fuse then d.trip.fuse - 1 else d.trip.fuse) = _
        rw [ef, if_neg hf0]
      unfold Dk.raw Dk.now
      rw [t1, t2, t3, t4, t5, et, e1, e2, e3, e5, e6, hd', hr0, if_neg hf0]
      have hw : 0 < d.fuse → IntKind.i64.wrap (d.fuse - 1) = d.fuse - 1 := fun hp => w64 (by omega) (by have := hok.2.2.2.2; omega)
      by_cases hp : 0 < d.fuse
      · rw [if_pos hp, if_pos ⟨rfl, hp⟩, hw hp]
        simp [Dk.raw, Dk.now]
      · rw [if_neg hp, if_neg (fun h => hp h.2)]
        simp [Dk.raw, Dk.now]
    rw [er]; exact hr
/-- Cut. -/
theorem Cut_spec {n : Int} (hn : n ≤ 9223372036854775807) (h : DiskAt w b d) (hK : ∀ w1, DiskAt w1 b (d.cut n) → Step b w w1 → K (.tuple #[]) w1) : CALL Try.prog 78 #[ptr b, i64v n] w K := by
  obtain ⟨ok, nv, sv, wv, h⟩ := h
  apply call_disk_Disk_Cut
  unfold B_disk_Disk_Cut
  simp only [X_neq_nil_74, Option.isSome_some, gstep_bool, if_true, X_nilS, X_field_183_3, X_field_183_4, X_not]
  refine X_loadL agg_4 h.blk rfl ?_
  simp only [X_not, X_pick, if_true, condS_bool]
  have ok' := Dk.cut_ok ok hn
  by_cases hd : d.dead = true
  · have e : (!(Dk.raw d).dead) = false := by show (!d.dead) = false; rw [hd]; rfl
    simp only [e, Bool.false_eq_true, if_false]
    refine hK w ⟨ok', nv, sv, wv, ?_⟩ Step.refl
    unfold Dk.cut
    rw [if_pos hd]
    exact h
  · have e : (!(Dk.raw d).dead) = true := by show (!d.dead) = true; simpa using hd
    simp only [e, if_true, X_max]
    refine XU_store info_3 sz_3 rfl h.blk (Nat.le_of_ble_eq_true rfl) (by show ¬ ((0 : Nat) ≤ 4 ∧ 4 < 0); omega) ?_
    obtain ⟨h1, s1⟩ := h.put (cs' := (#[nv, sv, wv, .bool (Dk.raw d).dead, .int .i64 (Dk.raw d).fuse, .int .i64 (Dk.raw d).done] : Array Value).setIfInBounds (0 + 4) (.int .i64 (max n (-1)))) { Dk.raw d with fuse := max n (-1) } rfl rfl rfl rfl
    refine hK _ ⟨ok', nv, sv, wv, ?_⟩ s1
    have : Dk.raw (d.cut n) = { Dk.raw d with fuse := max n (-1) } := by
      unfold Dk.cut
      rw [if_neg hd]
      rfl
    rw [this]; exact h1
end
end Go.Proofs.Ytggggfcgnkllgaa
end
section
/- cellarage/disk, function by function: those that write sectors. -/
set_option linter.unusedSimpArgs false
set_option linter.unusedVariables false
namespace Go.Proofs.Ytggggfcgnkllgaa
open Go Go.Sh Go.RowKit
attribute [local irreducible] X XU XP XR CALL loopS resC closS

theorem run_build_186 (n : Int) (w : World) : (Instr.build 186 #[(0, .int .i64 n)]).run Try.prog w = .ok (.agg (.int .i64 n :: List.replicate 128 (Value.int .u8 0)).toArray) w := by kernel_rfl
theorem B8_zeros (n : Nat) : B8 (List.replicate n 0) = List.replicate n (Value.int .u8 0) := by simp [B8]
theorem szm_5 : (Try.prog.info? 5).map (·.size) = some 1 := by kernel_rfl
theorem blk_get {w : World} {b o : Nat} {cs : Array Value} {T : TypeId} {fr : Nat × Nat} {v : Value} (hb : w.heap[b]? = some (.cells cs T fr)) (hv : cs[o]? = some v) : w.cell? ⟨b, o, none⟩ = some v := (cell_blk hb).trans hv
theorem padB_cells (a : Int) (bs : List UInt8) (h : bs.length ≤ 128) :
    ((Value.int .i64 a :: List.replicate 128 (Value.int .u8 0)).take 1 ++ B8 (bs.take 128) ++ (Value.int .i64 a :: List.replicate 128 (Value.int .u8 0)).drop (1 + min bs.length 128)) = .int .i64 a :: B8 (padB bs) := by
  have e1 : bs.take 128 = bs := List.take_of_length_le h
  have e2 : 1 + min bs.length 128 = bs.length + 1 := by omega
  rw [e1, e2, List.drop_succ_cons, List.drop_replicate]
  unfold padB
  rw [B8_append, B8_zeros]
  rfl
section
variable {w : World} {b : Nat} {d : Dk} {K : Value → World → Prop}
theorem Write_spec {at_ : Int} {v : Value} {bs : List UInt8} (h : DiskAt w b d) (hw : d.ws.length ≤ 1000000) (hb : Bts w v bs) (hnb : 0 < bs.length → ∀ k, v.ownBlock = some k → ¬ foot w b k)
    (hK : ∀ w1, DiskAt w1 b (d.write at_ bs).1 → Step b w w1 → K (i64v (d.write at_ bs).2) w1) : CALL Try.prog 70 #[ptr b, i64v at_, v] w K := by
  have hd0 := h
  obtain ⟨ok, nv, sv, wv, h⟩ := h
  obtain ⟨av, cv, ev⟩ := Bts.slice hb
  subst ev
  obtain ⟨an, cn, en⟩ := own_sl h.now
  have enl : (Dk.raw d).now.length = d.safe.length := Dk.now_length d
  apply call_disk_Disk_Write
  unfold B_disk_Disk_Write
  simp only [X_eql_nil_74, Option.isNone_some, condS_bool, Bool.false_eq_true, if_false, X_lss, gstep_bool]
  have bad : at_ < 0 ∨ (d.safe.length : Int) ≤ at_ ∨ 128 < bs.length → K (i64v 1) w := by
    intro hbad
    have e : d.write at_ bs = (d, 1) := by unfold Dk.write; rw [if_pos hbad]
    have := hK w (by rw [e]; exact hd0) Step.refl
    rw [e] at this
    exact this
  by_cases hneg : at_ < 0
  · have e1 : decide (at_ < 0) = true := by simpa using hneg
    simp only [e1, Bool.true_eq_false, if_false, X_pick, if_true, gstep_bool, condS_bool]
    exact bad (.inl hneg)
  have e1 : decide (at_ < 0) = false := by simpa using hneg
  simp only [e1, if_true, X_nilS, X_field_183_0]
  refine X_loadL agg_180 h.blk rfl ?_
  rw [en, enl]
  simp only [X_len_180, X_geq, X_pick, gstep_bool, Bool.false_eq_true, if_false]
  by_cases hge : (d.safe.length : Int) ≤ at_
  · have e2 : decide (at_ ≥ (d.safe.length : Int)) = true := by simpa using hge
    simp only [e2, Bool.true_eq_false, if_false, X_pick, if_true, gstep_bool, condS_bool]
    exact bad (.inr (.inl hge))
  have e2 : decide (at_ ≥ (d.safe.length : Int)) = false := by simpa using hge
  simp only [e2, if_true, X_len_27, X_gtr, X_pick, Bool.false_eq_true, if_false, condS_bool]
  by_cases hlen : 128 < bs.length
  · rw [if_pos (by simp; omega)]
    exact bad (.inr (.inr hlen))
  rw [if_neg (by simp; omega)]
  have hgood : ¬ (at_ < 0 ∨ (d.safe.length : Int) ≤ at_ ∨ 128 < bs.length) := by omega
  obtain ⟨i, rfl⟩ : ∃ i : Nat, at_ = (i : Int) := ⟨at_.toNat, by omega⟩
  have hi : i < d.safe.length := by omega
  refine powered_spec' ok h (fun hd w1 h1 s1 => ?_) (fun hd w1 h1 s1 => ?_)
  · have e6 : decide ((6 : Int) ≠ 0) = true := by decide
    simp only [X_neq, e6, condS_bool, if_true]
    have e : d.write (i : Int) bs = (d.trip, 6) := by unfold Dk.write; rw [if_neg hgood, if_pos hd]
    have := hK w1 (by rw [e]; exact ⟨Dk.trip_ok ok, nv, sv, wv, h1⟩) s1
    rw [e] at this
    exact this
  have e6 : decide ((0 : Int) ≠ 0) = false := by decide
  simp only [X_neq, e6, condS_bool, Bool.false_eq_true, if_false]
  have hdf : ¬ d.trip.dead = true := by rw [hd]; decide
  have ew : d.write (i : Int) bs = ({ d.trip.tick with ws := d.ws ++ [(i, padB bs)] }, 0) := by unfold Dk.write; rw [if_neg hgood, if_neg hdf]; simp
  have hpl : (padB bs).length = 128 := padB_len (by omega)
  -- the record
  refine X_of (run_build_186 _ _) ?_
  refine X_alloc zero_186 ?_
  have hq := newB_get w1 ([Value.int .i64 0] ++ List.replicate 128 (Value.int .u8 0)).toArray 186
  have hxq := newB_ext w1 ([Value.int .i64 0] ++ List.replicate 128 (Value.int .u8 0)).toArray 186
  show XU _ _ (newB w1 ([Value.int .i64 0] ++ List.replicate 128 (Value.int .u8 0)).toArray 186) _
  generalize newB w1 ([Value.int .i64 0] ++ List.replicate 128 (Value.int .u8 0)).toArray 186 = w2 at hq hxq ⊢
  have hqn : ∀ k, foot w1 b k → k ≠ w1.heap.size := fun k hk => by have := h1.lt hk; omega
  generalize hqe : w1.heap.size = q at hq hqn ⊢
  refine XU_storeAgg info_186 hq (by rw [sz_186]; simp) (by rw [sz_186]; simp) (by
    intro u hu
    simp only [List.mem_cons, List.mem_replicate] at hu
    rcases hu with rfl | ⟨_, rfl⟩ <;> rfl) ?_
  have hq2 := setAt_same (cs := (Value.int .i64 (i : Int) :: List.replicate 128 (Value.int .u8 0)).toArray) (T := 186) (fr := (0, 0)) (lt_of_blk hq)
  have hx2 : Ext w1 (setAt w2 q (Value.int .i64 (i : Int) :: List.replicate 128 (Value.int .u8 0)).toArray 186 (0, 0)) := Ext.seq hxq (setAt_keep _ _ _ _ _) (fun j hj => by omega)
  generalize setAt w2 q (Value.int .i64 (i : Int) :: List.replicate 128 (Value.int .u8 0)).toArray 186 (0, 0) = w3 at hq2 hx2 ⊢
  simp only [X_field_186_1, Nat.zero_add]
  refine X_of (run_slice_arr_all Try.underlying184 info_5 _ _) ?_
  have hb3 : Bts w3 (.slice av bs.length cv) bs := (hb.keep' s1.keep hnb).ext hx2
  refine X_copy_bts Try.underlying27 szm_5 hq2 hb3 (by simp; omega) ?_
  intro w4 hq4 hz4 hk4
  have hcs : ((Value.int .i64 (i : Int) :: List.replicate 128 (Value.int .u8 0)).toArray.toList.take 1 ++ B8 (bs.take 128) ++ (Value.int .i64 (i : Int) :: List.replicate 128 (Value.int .u8 0)).toArray.toList.drop (1 + min bs.length 128)) = wcs (i, padB bs) := padB_cells _ _ (by omega)
  rw [hcs] at hq4
  have hx4 : Ext w1 w4 := Ext.seq hx2 hk4 (fun j hj => by omega)
  have h4 := h1.ext hx4
  have hwl : (wcs (i, padB bs)).length = 129 := by simp [wcs, hpl]
  refine ⟨Keep (fun k => some k = wv.ownBlock), Keep.frame _, ?_⟩
  try simp only [XP_nilS, XP_field_183_2]
  have h4d : RawAt (drewW w4) b (Dk.raw d.trip.tick) nv sv wv := h4.ext (Keep.drew _ _)
  have hq4d : (drewW w4).heap[q]? = some (.cells (wcs (i, padB bs)).toArray 186 (0, 0)) := hq4
  obtain ⟨n1, n2, n3⟩ := h4d.b_ne
  have hqw : ¬ some q = wv.ownBlock := fun e => hqn q (h1.foot.2 (.inr (.inr (.inr e.symm)))) rfl
  refine XR_ok (Keep.frame _) (fun w' k => run_loadAt agg_181 (blk_get (k.get (fun e => n3 e.symm) h4d.blk) (v := wv) rfl)) ?_
  have hld : ((wcs (i, padB bs)).toArray.toList.drop 0).take (szT Try.prog 186) = wcs (i, padB bs) := by
    rw [sz_186]
    exact List.take_of_length_le (by simp [hwl])
  refine XR_ok (Keep.frame _) (fun w' k => run_loadAgg Try.underlying186 agg_186 info_186 (k.get hqw hq4d) hld (by rw [sz_186, hwl])) ?_
  refine X_buildSliceAgg Try.underlying181 el_186 (by decide) (by decide) hwl ?_
  have hx5 := newB_ext (drewW w4) (wcs (i, padB bs)).toArray 186
  have hg5 := newB_get (drewW w4) (wcs (i, padB bs)).toArray 186
  refine ⟨hx5.ext, ?_⟩
  generalize hne : newB (drewW w4) (wcs (i, padB bs)).toArray 186 = w5 at hx5 hg5 ⊢
  have h5 := h4d.ext hx5
  have et : (Dk.raw d.trip.tick).ws = d.ws := Dk.trip_ws d
  refine X_appendW (base := 0) Try.underlying181 el_186 (by decide) h5.ws (news := wcs (i, padB bs)) (by rw [hwl]) ?_ (wcs_one _) (by rw [et]; omega) (by decide) (Nat.zero_le _) ?_
  · intro j u hj
    rw [add_plain, Nat.zero_add, cell_blk hg5]
    simpa using hj
  intro v' w6 ho6 hk6 hn6
  refine ⟨hk6, ?_⟩
  try simp only [XP_nilS, XP_field_183_2]
  obtain ⟨hb6, h7, s7⟩ := h5.append (i, padB bs) hpl hk6 ⟨0, ho6⟩ hn6
  refine XU_store info_181 sz_181 (by obtain ⟨_, _, e⟩ := own_sl ho6; rw [e]; rfl) hb6 (Nat.le_of_ble_eq_true rfl) (by show ¬ ((0 : Nat) ≤ 0 + 2 ∧ 0 + 2 < 0); omega) ?_
  have hq7 : (setAt w6 b #[nv, sv, v', .bool (Dk.raw d.trip.tick).dead, .int .i64 (Dk.raw d.trip.tick).fuse, .int .i64 (Dk.raw d.trip.tick).done] 183 (0, 0)).heap[q]? = some (.cells (wcs (i, padB bs)).toArray 186 (0, 0)) :=
    (setAt_other (fun e => hqn q (h1.foot.2 (.inl e)) rfl)).trans (hk6.get hqw (hx5.get hq4d))
  show ∃ R, Frame? R ∧ XP _ _ (drewW (setAt w6 b #[nv, sv, v', .bool (Dk.raw d.trip.tick).dead, .int .i64 (Dk.raw d.trip.tick).fuse, .int .i64 (Dk.raw d.trip.tick).done] 183 (0, 0))) _
  generalize setAt w6 b #[nv, sv, v', .bool (Dk.raw d.trip.tick).dead, .int .i64 (Dk.raw d.trip.tick).fuse, .int .i64 (Dk.raw d.trip.tick).done] 183 (0, 0) = w7 at h7 s7 hq7 ⊢
  refine ⟨Ext, Ext.frame, ?_⟩
  try simp only [XP_nilS, XP_field_183_0, XP_field_186_1, Nat.zero_add]
  have h7d : RawAt (drewW w7) b { Dk.raw d.trip.tick with ws := (Dk.raw d.trip.tick).ws ++ [(i, padB bs)] } nv sv v' := h7.ext (Keep.drew _ _)
  have hq7d : (drewW w7).heap[q]? = some (.cells (wcs (i, padB bs)).toArray 186 (0, 0)) := hq7
  refine XR_ok Ext.frame (fun w' k => run_loadAt agg_180 (blk_get (k.get h7d.blk) (v := nv) rfl)) ?_
  have hld2 : ((wcs (i, padB bs)).toArray.toList.drop 1).take (szT Try.prog 184) = B8 (padB bs) := by
    rw [sz_184]
    show (B8 (padB bs)).take 128 = _
    exact List.take_of_length_le (by simp [hpl])
  refine XR_ok Ext.frame (fun w' k => run_loadAgg Try.underlying184 agg_184 info_184 (k.get hq7d) hld2 (by rw [sz_184, B8_length, hpl])) ?_
  have enow : (Dk.raw d.trip.tick).now = d.now := by
    show putAll d.trip.safe d.trip.ws = _
    rw [Dk.trip_safe, Dk.trip_ws]; rfl
  have hin : i < ({ Dk.raw d.trip.tick with ws := (Dk.raw d.trip.tick).ws ++ [(i, padB bs)] } : Raw).now.length := by
    show i < (Dk.raw d.trip.tick).now.length
    rw [enow, Dk.now_length]; exact hi
  obtain ⟨g, cap, cur, hnv, hg, hfit, hold, hput⟩ := h7d.now_at hin
  obtain ⟨h8, s8⟩ := hput (padB bs) (by omega)
  rw [hnv]
  refine XP_of (fun w => ix Try.underlying180 info_184 i rfl hin w) ?_
  rw [sz_184, add_plain, Nat.zero_add]
  refine XU_storeAggAt info_184 hg (by rw [B8_length, hpl]; exact hfit) (by rw [sz_184, B8_length, hpl]) B8_one ?_
  have hs : Step b w (setAt (drewW w7) g (cur.toList.take (i * 128) ++ B8 (padB bs) ++ cur.toList.drop (i * 128 + (B8 (padB bs)).length)).toArray 184 (0, 0)) := by
    have hbw : ∀ {x : World}, RawAt x b (Dk.raw d.trip.tick) nv sv wv → b < x.heap.size := fun h => lt_of_blk h.blk
    refine s1.trans ((Step.ext hx4 (hbw h1)).trans ((Step.ext (Keep.drew _ _) (hbw h4)).trans ((Step.ext hx5 (hbw h4d)).trans (s7.trans ((Step.ext (Keep.drew _ _) (lt_of_blk h7.blk)).trans s8)))))
  have := hK _ (by
    refine ⟨Dk.write_ok ok _ _, nv, sv, v', ?_⟩
    have er : Dk.raw (d.write (i : Int) bs).1 = { ({ Dk.raw d.trip.tick with ws := (Dk.raw d.trip.tick).ws ++ [(i, padB bs)] } : Raw) with now := ({ Dk.raw d.trip.tick with ws := (Dk.raw d.trip.tick).ws ++ [(i, padB bs)] } : Raw).now.set i (padB bs ++ (({ Dk.raw d.trip.tick with ws := (Dk.raw d.trip.tick).ws ++ [(i, padB bs)] } : Raw).now[i]'hin).drop (padB bs).length) } := by
      rw [ew]
      have ed : (({ Dk.raw d.trip.tick with ws := (Dk.raw d.trip.tick).ws ++ [(i, padB bs)] } : Raw).now[i]'hin).drop (padB bs).length = [] := by
        apply List.drop_eq_nil_of_le
        have := h7d.n128 _ (List.getElem_mem hin)
        omega
      rw [ed, List.append_nil]
      have e1 : (Dk.now { d.trip.tick with ws := d.ws ++ [(i, padB bs)] }) = (Dk.raw d.trip.tick).now.set i (padB bs) := by
        rw [enow]
        show putAll d.trip.safe (d.ws ++ [(i, padB bs)]) = _
        rw [Dk.trip_safe, putAll_append]
        rfl
      show Raw.mk (Dk.now { d.trip.tick with ws := d.ws ++ [(i, padB bs)] }) _ _ _ _ _ = Raw.mk _ _ _ _ _ _
      rw [e1, et]
      rfl
    rw [er]
    exact h8) hs
  rw [ew] at this
  exact this
end
end Go.Proofs.Ytggggfcgnkllgaa
end
section
/- cellarage/disk: flush, crash, read, new, copy. -/
set_option linter.unusedSimpArgs false
set_option linter.unusedVariables false
namespace Go.Proofs.Ytggggfcgnkllgaa
open Go Go.Sh Go.RowKit
attribute [local irreducible] X XU XP XR CALL loopS resC closS

theorem wcs_load {w : World} {g i : Nat} {cur : Array Value} {p : Nat × List UInt8} (hh : w.heap[g]? = some (.cells cur 186 (0, 0))) (hc : (cur.toList.drop (i * 129)).take 129 = wcs p) (hp : p.2.length = 128) :
    (Instr.loadAt 186 (.pointer (some ⟨g, i * 129, none⟩))).run Try.prog w = .ok (.agg (wcs p).toArray) w :=
  run_loadAgg Try.underlying186 agg_186 info_186 hh (by rw [sz_186]; exact hc) (by rw [sz_186]; simp [wcs, hp])
theorem set_get (l : List (List UInt8)) (i : Nat) (x : List UInt8) (h : ∀ s ∈ l, s.length = 128) (hi : i < l.length) (hx : x.length = 128) : l.set i (x ++ l[i].drop x.length) = l.set i x := by
  rw [List.drop_eq_nil_of_le (by rw [h _ (List.getElem_mem hi), hx]; exact Nat.le_refl _), List.append_nil]
section
variable {w : World} {b : Nat} {d : Dk} {K : Value → World → Prop}
theorem Flush_spec (h : DiskAt w b d) (hK : ∀ w1, DiskAt w1 b d.flush.1 → Step b w w1 → K (i64v d.flush.2) w1) : CALL Try.prog 71 #[ptr b] w K := by
  have hd0 := h
  obtain ⟨ok, nv, sv, wv, h⟩ := h
  apply call_disk_Disk_Flush
  unfold B_disk_Disk_Flush
  simp only [X_eql_nil_74, Option.isNone_some, condS_bool, Bool.false_eq_true, if_false]
  refine powered_spec' ok h (fun hd w1 h1 s1 => ?_) (fun hd w1 h1 s1 => ?_)
  · have e6 : decide ((6 : Int) ≠ 0) = true := by decide
    simp only [X_neq, e6, condS_bool, if_true]
    have e : d.flush = (d.trip, 6) := by unfold Dk.flush; rw [if_pos hd]
    have := hK w1 (by rw [e]; exact ⟨Dk.trip_ok ok, nv, sv, wv, h1⟩) s1
    rw [e] at this
    exact this
  have e6 : decide ((0 : Int) ≠ 0) = false := by decide
  have hdf : ¬ d.trip.dead = true := by rw [hd]; decide
  have ef : d.flush = ({ d.trip.tick with safe := d.now, ws := [] }, 0) := by unfold Dk.flush; rw [if_neg hdf]
  have esf : (Dk.raw d.trip.tick).safe = d.safe := Dk.trip_safe d
  have ews : (Dk.raw d.trip.tick).ws = d.ws := Dk.trip_ws d
  have enow : (Dk.raw d.trip.tick).now = d.now := by
    show putAll d.trip.safe d.trip.ws = _
    rw [Dk.trip_safe, Dk.trip_ws]; rfl
  simp only [X_neq, e6, condS_bool, Bool.false_eq_true, if_false, X_nilS, X_field_183_2]
  refine X_loadL agg_181 h1.blk rfl ?_
  obtain ⟨aw, cw, ewv⟩ := own_sl h1.ws
  rw [ews] at ewv
  rw [ewv, X_len_181, ← ewv]
  have hw128 : ∀ p ∈ d.ws, p.2.length = 128 := fun p hp => (ok.2.1 p hp).2
  have hbd : d.ws.length ≤ 9223372036854775807 := own_max h.ws
  refine loopE (fun ρ wr => ∃ i : Nat, i ≤ d.ws.length ∧ RawAt wr b { Dk.raw d.trip.tick with safe := putAll d.safe (d.ws.take i) } nv sv wv ∧ Step b w wr ∧
      ρ 18 = .int .i64 (i : Nat) ∧ ρ 17 = .int .i64 (d.ws.length : Nat) ∧ ρ 16 = wv ∧ ρ 0 = ptr b)
    (fun ρ wr => match ρ 18 with | .int _ s => (d.ws.length - s).toNat | _ => 0)
    (fun ρ wr => RawAt wr b { Dk.raw d.trip.tick with safe := d.now } nv sv wv ∧ Step b w wr ∧ ρ 0 = ptr b) ?_ ?_ ?_
  · refine ⟨0, Nat.zero_le _, ?_, s1, rfl, rfl, rfl, rfl⟩
    have : ({ Dk.raw d.trip.tick with safe := putAll d.safe (d.ws.take 0) } : Raw) = Dk.raw d.trip.tick := by
      rw [List.take_zero]
      show ({ Dk.raw d.trip.tick with safe := d.safe } : Raw) = _
      rw [← esf]
    rw [this]; exact h1
  · rintro J hJ ρ wr ⟨i, hi, hr, hs, h18, h17, h16, h0⟩
    rw [h18, h17, X_lss, condS_bool]
    by_cases hin : i = d.ws.length
    · rw [if_neg (by simp; omega)]
      refine hJ _ _ ⟨?_, hs, h0⟩
      rw [hin, List.take_length] at hr
      exact hr
    rw [if_pos (by simp; omega)]
    have hlt : i < d.ws.length := by omega
    have hltr : i < ({ Dk.raw d.trip.tick with safe := putAll d.safe (d.ws.take i) } : Raw).ws.length := by show i < (Dk.raw d.trip.tick).ws.length; rw [ews]; exact hlt
    obtain ⟨g, cap, cur, hwv, hg, hc⟩ := hr.ws_at hltr
    have ewi : ({ Dk.raw d.trip.tick with safe := putAll d.safe (d.ws.take i) } : Raw).ws[i]'hltr = d.ws[i] := by
      show (Dk.raw d.trip.tick).ws[i]'_ = _
      congr 1
    rw [ewi] at hc
    have hp128 := hw128 _ (List.getElem_mem hlt)
    have hpi := (ok.2.1 _ (List.getElem_mem hlt)).1
    rw [h16]
    have hixw : ∀ w, (Instr.indexAt 181 wv (.int .i64 (i : Int))).run Try.prog w = .ok (.pointer (some ⟨g, i * 129, none⟩)) w := fun w => by
      rw [hwv, ix Try.underlying181 info_186 i rfl hltr w, sz_186, add_plain, Nat.zero_add]
    refine X_of (hixw _) ?_
    refine X_of (wcs_load hg hc hp128) ?_
    refine X_alloc zero_186 ?_
    have hq := newB_get wr ([Value.int .i64 0] ++ List.replicate 128 (Value.int .u8 0)).toArray 186
    have hxq := newB_ext wr ([Value.int .i64 0] ++ List.replicate 128 (Value.int .u8 0)).toArray 186
    show XU _ _ (newB wr ([Value.int .i64 0] ++ List.replicate 128 (Value.int .u8 0)).toArray 186) _
    generalize newB wr ([Value.int .i64 0] ++ List.replicate 128 (Value.int .u8 0)).toArray 186 = w2 at hq hxq ⊢
    have hwl : (wcs d.ws[i]).length = 129 := by simp [wcs, hp128]
    refine XU_storeAgg info_186 hq (by rw [sz_186]; simp) (by rw [sz_186, hwl]) (wcs_one _) ?_
    have hq2 := setAt_same (cs := (wcs d.ws[i]).toArray) (T := 186) (fr := (0, 0)) (lt_of_blk hq)
    have hx2 : Ext wr (setAt w2 wr.heap.size (wcs d.ws[i]).toArray 186 (0, 0)) := Ext.seq hxq (setAt_keep _ _ _ _ _) (fun j hj => by omega)
    generalize setAt w2 wr.heap.size (wcs d.ws[i]).toArray 186 (0, 0) = w3 at hq2 hx2 ⊢
    refine ⟨Ext, Ext.frame, ?_⟩
    have hxd : Ext wr (drewW w3) := hx2.trans (Keep.drew _ _)
    have hrd := hr.ext hxd
    have hqd : (drewW w3).heap[wr.heap.size]? = some (.cells (wcs d.ws[i]).toArray 186 (0, 0)) := hq2
    rw [h0]
    try simp only [XP_nilS, XP_field_183_1, XP_field_186_0, XP_field_186_1, Nat.zero_add]
    refine XR_ok Ext.frame (fun w' k => run_loadAt agg_180 (blk_get (k.get hrd.blk) (v := sv) rfl)) ?_
    refine XR_ok Ext.frame (fun w' k => run_loadAt agg_3 (blk_get (k.get hqd) (v := .int .i64 (d.ws[i].1 : Int)) rfl)) ?_
    have hld2 : ((wcs d.ws[i]).toArray.toList.drop 1).take (szT Try.prog 184) = B8 d.ws[i].2 := by
      rw [sz_184]
      show (B8 d.ws[i].2).take 128 = _
      exact List.take_of_length_le (by simp [hp128])
    refine XR_ok Ext.frame (fun w' k => run_loadAgg Try.underlying184 agg_184 info_184 (k.get hqd) hld2 (by rw [sz_184, B8_length, hp128])) ?_
    have hlen : ({ Dk.raw d.trip.tick with safe := putAll d.safe (d.ws.take i) } : Raw).safe.length = d.safe.length := putAll_length _ _
    have hsi : d.ws[i].1 < ({ Dk.raw d.trip.tick with safe := putAll d.safe (d.ws.take i) } : Raw).safe.length := by rw [hlen]; exact hpi
    obtain ⟨g2, cap2, cur2, hsv, hg2, hfit, hold, hput⟩ := hrd.safe_at hsi
    obtain ⟨h8, s8⟩ := hput d.ws[i].2 (by omega)
    have hixs : ∀ w, (Instr.indexAt 180 sv (.int .i64 (d.ws[i].1 : Int))).run Try.prog w = .ok (.pointer (some ⟨g2, d.ws[i].1 * 128, none⟩)) w := fun w => by
      rw [hsv, ix Try.underlying180 info_184 d.ws[i].1 rfl hsi w, sz_184, add_plain, Nat.zero_add]
    refine XP_of hixs ?_
    refine XU_storeAggAt info_184 hg2 (by rw [B8_length, hp128]; exact hfit) (by rw [sz_184, B8_length, hp128]) B8_one ?_
    rw [X_add]
    show _ ∧ _
    refine ⟨⟨i + 1, by omega, ?_, hs.trans ((Step.ext hxd (lt_of_blk hr.blk)).trans s8), next64 (n := d.ws.length - 1) (by omega) (by omega), h17, h16, h0⟩, ?_⟩
    · have e : putAll d.safe (d.ws.take (i + 1)) = (putAll d.safe (d.ws.take i)).set d.ws[i].1 d.ws[i].2 := by
        rw [List.take_succ_eq_append_getElem hlt, putAll_append]
        rfl
      rw [e]
      rw [set_get _ _ _ hrd.s128 hsi hp128] at h8
      exact h8
    · show (_ - IntKind.i64.wrap _).toNat < _
      rw [w64 (by omega) (by omega)]
      omega
  · rintro ρ wr ⟨hr, hs, h0⟩
    rw [h0]
    simp only [X_nilS, X_field_183_2]
    refine XU_store info_181 sz_181 rfl hr.blk (Nat.le_of_ble_eq_true rfl) (by show ¬ ((0 : Nat) ≤ 0 + 2 ∧ 0 + 2 < 0); omega) ?_
    obtain ⟨h2, s2⟩ := hr.clear
    have := hK _ (by
      refine ⟨Dk.flush_ok ok, nv, sv, .slice none 0 0, ?_⟩
      have er : Dk.raw d.flush.1 = { ({ Dk.raw d.trip.tick with safe := d.now } : Raw) with ws := [] } := by
        rw [ef]
        show Raw.mk (putAll d.now []) d.now [] _ _ _ = Raw.mk (Dk.raw d.trip.tick).now d.now [] _ _ _
        rw [enow]
        rfl
      rw [er]
      exact h2) (hs.trans s2)
    rw [ef] at this
    exact this
/-- copy(d.now, d.safe). -/
theorem X_copy_zero {P : Program} {t u U e size : Nat} {w : World} {K : Value → World → Prop} (ht : P.underlying t = some (.slice e)) (hi : infoB P e = true) {a a' : Option Addr} {c c' : Nat} (h : K (.int .i64 (0 : Nat)) w) : X P (Builtin.copy_ #[t, u] U #[.slice a 0 c, .slice a' 0 c']) w K := by
  refine X_of (w1 := w) (v := .int .i64 (0 : Nat)) ?_ h
  have hm : Nat.min 0 0 = 0 := rfl
  cases a <;> cases a' <;> simp [Builtin.copy_, run_underlying ht, Builtin.lenOf, Builtin.firstCells, sizeOf_run hi, hm, goInt, loadCells, loadCellsFrom, storeCells]
theorem copy_now {U : Nat} {r : Raw} {nv sv wv : Value} (h : RawAt w b r nv sv wv) (he : r.now.length = r.safe.length) (hK : ∀ v w1, RawAt w1 b { r with now := r.safe } nv sv wv → Step b w w1 → K v w1) : X Try.prog (Builtin.copy_ #[180, 180] U #[nv, sv]) w K := by
  rcases Nat.eq_zero_or_pos r.now.length with h0 | h0
  · obtain ⟨a1, c1, e1⟩ := own_sl h.now
    obtain ⟨a2, c2, e2⟩ := own_sl h.safe
    have n0 : r.now = [] := List.eq_nil_of_length_eq_zero h0
    have s0 : r.safe = [] := List.eq_nil_of_length_eq_zero (by omega)
    rw [e1, e2, ← he, h0]
    refine X_copy_zero (size := 128) Try.underlying180 info_184 ?_
    refine hK _ _ ?_ Step.refl
    have : ({ r with now := r.safe } : Raw) = r := by
      cases r
      simp only at n0 s0
      subst n0
      subst s0
      rfl
    rw [this]; exact h
  · rcases id h.now.2 with ⟨_, h1⟩ | ⟨g, cap, cur, hnv, _, hh, hn, hm, hs, htk⟩
    · omega
    rcases id h.safe.2 with ⟨_, h1⟩ | ⟨g2, cap2, cur2, hsv, _, hh2, hn2, hm2, hs2, htk2⟩
    · omega
    have hfl : (B8 r.safe.flatten).length = r.now.length * 128 := by rw [B8_length, flat_len h.s128, he]
    have hc := h.safe.cells (g := g2) (by rw [hsv]; rfl)
    have hnb : nv.ownBlock = some g := by rw [hnv]; rfl
    rw [hnv, hsv]
    refine X_copy_cells (size := 128) Try.underlying180 info_184 sz_184 hh (l := B8 r.safe.flatten) (by rw [hfl, ← he, Nat.min_self]) hc B8_one (by omega) ?_
    have k := setAt_keep w g (cur.toList.take 0 ++ B8 r.safe.flatten ++ cur.toList.drop (0 + (B8 r.safe.flatten).length)).toArray 184 (0, 0)
    have hsame := setAt_same (cs := (cur.toList.take 0 ++ B8 r.safe.flatten ++ cur.toList.drop (0 + (B8 r.safe.flatten).length)).toArray) (T := 184) (fr := (0, 0)) (lt_of_blk hh)
    have hsize : (cur.toList.take 0 ++ B8 r.safe.flatten ++ cur.toList.drop (0 + (B8 r.safe.flatten).length)).toArray.size = cap * 128 := by
      rw [List.size_toArray, splice_len _ _ _ (by simp only [Array.length_toList]; omega)]
      simpa using hs
    have htake : (cur.toList.take 0 ++ B8 r.safe.flatten ++ cur.toList.drop (0 + (B8 r.safe.flatten).length)).toArray.toList.take (r.safe.length * 128) = B8 r.safe.flatten := by
      show List.take _ (cur.toList.take 0 ++ B8 r.safe.flatten ++ _) = _
      rw [List.take_zero, List.nil_append, List.take_append_of_le_length (by rw [hfl, he]; exact Nat.le_refl _), List.take_of_length_le (by rw [hfl, he]; exact Nat.le_refl _)]
    generalize (cur.toList.take 0 ++ B8 r.safe.flatten ++ cur.toList.drop (0 + (B8 r.safe.flatten).length)).toArray = cs' at k hsame hsize htake ⊢
    obtain ⟨n1, n2, n3⟩ := h.b_ne
    have hgb : ¬ b = g := fun e => n1 (by rw [hnb, e])
    have hr : RawAt (setAt w g cs' 184 (0, 0)) b { r with now := r.safe } nv sv wv := by
      refine ⟨k.get hgb h.blk, ⟨by rw [hfl, he], .inr ⟨g, cap, cs', by rw [← he]; exact hnv, Nat.zero_le _, hsame, by rw [← he]; exact hn, hm, hsize, htake⟩⟩, own_keepD h.safe k (fun g' hg' e => h.ne g hnb (by rw [hg', e])), own_keepD h.ws k (fun g' hg' e => own_neO h.now h.ws (by decide) hnb (by rw [hg', e])), h.ne, h.s128, h.s128, h.w128⟩
    refine hK _ _ hr ⟨k.mono (fun j _ hj => by rw [hj]; exact h.foot.2 (.inr (.inl hnb))), fun k' hk' => .inl ?_⟩
    exact h.foot.2 (hr.foot.1 hk')
end
end Go.Proofs.Ytggggfcgnkllgaa
end
section
/- cellarage/disk: crash, read, new, copy. -/
set_option linter.unusedSimpArgs false
set_option linter.unusedVariables false
namespace Go.Proofs.Ytggggfcgnkllgaa
open Go Go.Sh Go.RowKit
attribute [local irreducible] X XU XP XR CALL loopS resC closS

/-- Whole numbers, as cells. -/
abbrev fI : Int → Value := fun n => .int .i64 n
theorem row_keep {α : Type} {f : α → Value} {w w' : World} {v : Value} {xs : List α} {D : Nat → Prop} (h : Row f w v xs) (k : Keep D w w') (hd : 0 < xs.length → ∀ b, v.ownBlock = some b → ¬ D b) : Row f w' v xs := by
  obtain ⟨a, c, rfl, h1, h2, h3⟩ := h
  refine ⟨a, c, rfl, h1, h2, fun hn => ?_⟩
  obtain ⟨ad, rfl, hc⟩ := h3 hn
  refine ⟨ad, rfl, fun j x hj => k.cell ?_ (hc j x hj)⟩
  have : (ad.add j).block = ad.block := by unfold Addr.add; split <;> rfl
  rw [this]
  exact hd hn _ rfl
theorem tears_succ (fates : List Int) {l : List (List UInt8)} {ws : List (Nat × List UInt8)} {i : Nat} (h : i < ws.length) : tears fates 0 l (ws.take (i + 1)) = tearAt (tears fates 0 l (ws.take i)) ws[i] (fateAt fates i) := by
  rw [List.take_succ_eq_append_getElem h, tears_append, List.length_take, Nat.min_eq_left (by omega), Nat.zero_add]
  rfl
section
variable {w : World} {b : Nat} {d : Dk} {K : Value → World → Prop}
theorem Crash_spec {v : Value} {fates : List Int} (h : DiskAt w b d) (hf : Row fI w v fates) (hnf : 0 < fates.length → ∀ k, v.ownBlock = some k → ¬ foot w b k)
    (hK : ∀ w1, DiskAt w1 b (d.crash fates) → Step b w w1 → K (.tuple #[]) w1) : CALL Try.prog 72 #[ptr b, v] w K := by
  obtain ⟨ok, nv, sv, wv, h⟩ := h
  obtain ⟨af, cf, ef⟩ := hf.slice
  apply call_disk_Disk_Crash
  unfold B_disk_Disk_Crash
  simp only [X_eql_nil_74, Option.isNone_some, condS_bool, Bool.false_eq_true, if_false, X_nilS, X_field_183_2]
  refine X_loadL agg_181 h.blk rfl ?_
  obtain ⟨aw, cw, ewv⟩ := own_sl h.ws
  rw [ewv, X_len_181, ← ewv]
  have hw128 : ∀ p ∈ d.ws, p.2.length = 128 := fun p hp => (ok.2.1 p hp).2
  have hbd : d.ws.length ≤ 9223372036854775807 := own_max h.ws
  refine loopE (fun ρ wr => ∃ i : Nat, i ≤ d.ws.length ∧ RawAt wr b { Dk.raw d with safe := tears fates 0 d.safe (d.ws.take i) } nv sv wv ∧ Step b w wr ∧
      ρ 14 = .int .i64 (i : Nat) ∧ ρ 13 = .int .i64 (d.ws.length : Nat) ∧ ρ 12 = wv ∧ ρ 0 = ptr b ∧ ρ 1 = v)
    (fun ρ wr => match ρ 14 with | .int _ s => (d.ws.length - s).toNat | _ => 0)
    (fun ρ wr => RawAt wr b { Dk.raw d with safe := tears fates 0 d.safe d.ws } nv sv wv ∧ Step b w wr ∧ ρ 0 = ptr b) ?_ ?_ ?_
  · refine ⟨0, Nat.zero_le _, ?_, Step.refl, rfl, rfl, rfl, rfl, rfl⟩
    have : ({ Dk.raw d with safe := tears fates 0 d.safe (d.ws.take 0) } : Raw) = Dk.raw d := by
      rw [List.take_zero]
      rfl
    rw [this]; exact h
  · rintro JE hJE ρ wr ⟨i, hi, hr, hs, h14, h13, h12, h0, h1⟩
    rw [h14, h13, X_lss, condS_bool]
    by_cases hin : i = d.ws.length
    · rw [if_neg (by simp; omega)]
      refine hJE _ _ ⟨?_, hs, h0⟩
      rw [hin, List.take_length] at hr
      exact hr
    rw [if_pos (by simp; omega)]
    have hlt : i < d.ws.length := by omega
    have hp128 := hw128 _ (List.getElem_mem hlt)
    have hpi := (ok.2.1 _ (List.getElem_mem hlt)).1
    have hlen : ({ Dk.raw d with safe := tears fates 0 d.safe (d.ws.take i) } : Raw).safe.length = d.safe.length := tears_length _ _ _ _
    have hsi : d.ws[i].1 < ({ Dk.raw d with safe := tears fates 0 d.safe (d.ws.take i) } : Raw).safe.length := by rw [hlen]; exact hpi
    refine joinS_of (fun ρ' w' => RawAt w' b { Dk.raw d with safe := tears fates 0 d.safe (d.ws.take (i + 1)) } nv sv wv ∧ Step b w w' ∧
      ρ' 14 = .int .i64 (i : Nat) ∧ ρ' 13 = .int .i64 (d.ws.length : Nat) ∧ ρ' 12 = wv ∧ ρ' 0 = ptr b ∧ ρ' 1 = v) ?_ ?_
    · rintro ρ' w' ⟨hr', hs', g14, g13, g12, g0, g1⟩
      rw [g14, X_add]
      show _ ∧ _
      refine ⟨⟨i + 1, by omega, hr', hs', next64 (n := d.ws.length - 1) (by omega) (by omega), g13, g12, g0, g1⟩, ?_⟩
      show (_ - IntKind.i64.wrap _).toNat < _
      rw [w64 (by omega) (by omega)]
      first | omega | (show _ < (_ : Int).toNat; omega)
    intro J hJ
    obtain ⟨g, cap, cur, hwv, hg, hc⟩ := hr.ws_at hlt
    have hc' : (cur.toList.drop (i * 129)).take 129 = wcs d.ws[i] := hc
    have hwv' : wv = .slice (some ⟨g, 0, none⟩) d.ws.length cap := hwv
    rw [h12]
    have hixw : ∀ w, (Instr.indexAt 181 wv (.int .i64 (i : Int))).run Try.prog w = .ok (.pointer (some ⟨g, i * 129, none⟩)) w := fun w => by
      rw [hwv', ix Try.underlying181 info_186 i rfl hlt w, sz_186, add_plain, Nat.zero_add]
    refine X_of (hixw _) ?_
    refine X_of (wcs_load hg hc' hp128) ?_
    refine X_alloc zero_186 ?_
    have hq := newB_get wr ([Value.int .i64 0] ++ List.replicate 128 (Value.int .u8 0)).toArray 186
    have hxq := newB_ext wr ([Value.int .i64 0] ++ List.replicate 128 (Value.int .u8 0)).toArray 186
    show XU _ _ (newB wr ([Value.int .i64 0] ++ List.replicate 128 (Value.int .u8 0)).toArray 186) _
    generalize newB wr ([Value.int .i64 0] ++ List.replicate 128 (Value.int .u8 0)).toArray 186 = w2 at hq hxq ⊢
    have hwl : (wcs d.ws[i]).length = 129 := by simp [wcs, hp128]
    refine XU_storeAgg info_186 hq (by rw [sz_186]; simp) (by rw [sz_186, hwl]) (wcs_one _) ?_
    have hq2 := setAt_same (cs := (wcs d.ws[i]).toArray) (T := 186) (fr := (0, 0)) (lt_of_blk hq)
    have hx2 : Ext wr (setAt w2 wr.heap.size (wcs d.ws[i]).toArray 186 (0, 0)) := Ext.seq hxq (setAt_keep _ _ _ _ _) (fun j hj => by omega)
    generalize setAt w2 wr.heap.size (wcs d.ws[i]).toArray 186 (0, 0) = w3 at hq2 hx2 ⊢
    have hr3 := hr.ext hx2
    have hs3 := hs.trans (Step.ext hx2 (lt_of_blk hr.blk))
    have hff : Row fI w3 v fates := row_keep hf hs3.keep hnf
    rw [h1, ef]
    simp only [X_len_79, X_lss, condS_bool]
    rw [← ef]
    by_cases hfi : i < fates.length
    · rw [if_pos (by simp; omega)]
      obtain ⟨a, hix, hcell⟩ := hff.at Try.underlying79 info_3 sz_3 (k := .i64) i rfl hfi
      refine X_of (hix _) ?_
      refine X_load agg_3 hcell ?_
      simp only [X_min, X_max]
      obtain ⟨n, hn⟩ : ∃ n : Nat, n = fateAt fates i := ⟨_, rfl⟩
      have hn128 : n ≤ 128 := by rw [hn]; exact fateAt_le _ _
      have en : max 0 (min fates[i] 128) = (n : Int) := by
        rw [hn]; unfold fateAt
        rw [List.getElem?_eq_getElem hfi]
        show _ = (((max 0 (min fates[i] 128)).toNat : Nat) : Int)
        omega
      have hr3d := hr3.ext (Keep.drew (fun _ => False) w3)
      obtain ⟨g2, cap2, cur2, hsv, hg2, hfit, hold, hput⟩ := hr3d.safe_at hsi
      obtain ⟨h8, s8⟩ := hput (d.ws[i].2.take n) (by simp; omega)
      have hxl : (d.ws[i].2.take n).length = n := by rw [List.length_take]; omega
      have hsb : sv.ownBlock = some g2 := by rw [hsv]; rfl
      obtain ⟨n1, n2, n3⟩ := hr3.b_ne
      have hbg : ¬ b = g2 := fun e => n2 (by rw [hsb, e])
      have hqg : ¬ wr.heap.size = g2 := fun e => by
        have := hr.lt (hr.foot.2 (.inr (.inr (.inl hsb))))
        omega
      rw [en]
      refine ⟨Keep (· = g2), Keep.frame _, ?_⟩
      have hq3 : (drewW w3).heap[wr.heap.size]? = some (.cells (wcs d.ws[i]).toArray 186 (0, 0)) := hq2
      have hb3 : (drewW w3).heap[b]? = some (.cells #[nv, sv, wv, .bool d.dead, .int .i64 d.fuse, .int .i64 d.done] 183 (0, 0)) := hr3.blk
      have hg3 : (drewW w3).heap[g2]? = some (.cells cur2 184 (0, 0)) := hg2
      rw [h0]
      try simp only [XP_nilS, XP_field_183_1, XP_field_186_0, XP_field_186_1, Nat.zero_add]
      refine XR_ok (Keep.frame _) (fun w' k => run_loadAt agg_180 (blk_get (k.get hbg hb3) (v := sv) rfl)) ?_
      refine XR_ok (Keep.frame _) (fun w' k => run_loadAt agg_3 (blk_get (k.get hqg hq3) (v := .int .i64 (d.ws[i].1 : Int)) rfl)) ?_
      have hixs : ∀ w, (Instr.indexAt 180 sv (.int .i64 (d.ws[i].1 : Int))).run Try.prog w = .ok (.pointer (some ⟨g2, d.ws[i].1 * 128, none⟩)) w := fun w => by
        rw [hsv, ix Try.underlying180 info_184 d.ws[i].1 rfl hsi w, sz_184, add_plain, Nat.zero_add]
      refine XP_of hixs ?_
      refine XP_of (fun w => run_slice_arr_hi Try.underlying184 info_5 _ .i64 n (by omega) w) ?_
      refine XP_of (fun w => run_slice_arr_hi Try.underlying184 info_5 _ .i64 n (by omega) w) ?_
      refine X_copy_cells (size := 1) Try.underlying27 info_5 sz_5 hg3 (l := B8 (d.ws[i].2.take n)) (by rw [B8_length, hxl]; simp) ?_ B8_one (by rw [B8_length, hxl]; omega) ?_
      · intro j u hj
        rw [add_plain, cell_blk hq3]
        rw [B8_getElem?, List.getElem?_take] at hj
        split at hj
        · rw [← B8_getElem?] at hj
          have : (wcs d.ws[i])[1 + j]? = some u := by
            rw [Nat.add_comm]
            exact hj
          simpa using this
        · cases hj
      refine ⟨setAt_keep _ _ _ _ _, ?_⟩
      refine hJ _ _ ⟨?_, hs3.trans ((Step.ext (Keep.drew _ _) (lt_of_blk hr3.blk)).trans ?_), h14, h13, h12.trans rfl, h0, h1⟩
      · have e : tears fates 0 d.safe (d.ws.take (i + 1)) = (tears fates 0 d.safe (d.ws.take i)).set d.ws[i].1 (d.ws[i].2.take n ++ ((tears fates 0 d.safe (d.ws.take i))[d.ws[i].1]'hsi).drop (d.ws[i].2.take n).length) := by
          rw [tears_succ fates hlt, hxl, hn]
          unfold tearAt
          rw [List.getD_eq_getElem?_getD, List.getElem?_eq_getElem hsi]
          rfl
        rw [e]
        exact h8
      · exact s8
    · rw [if_neg (by simp; omega)]
      refine hJ _ _ ⟨?_, hs3, h14, h13, h12, h0, h1⟩
      have ef0 : fateAt fates i = 0 := by unfold fateAt; rw [List.getElem?_eq_none (by omega)]
      have e : tears fates 0 d.safe (d.ws.take (i + 1)) = tears fates 0 d.safe (d.ws.take i) := by
        rw [tears_succ fates hlt, ef0]
        unfold tearAt
        rw [List.take_zero, List.drop_zero, List.nil_append, List.getD_eq_getElem?_getD, List.getElem?_eq_getElem hsi]
        exact List.set_getElem_self hsi
      rw [e]
      exact hr3
  · rintro ρ wr ⟨hr, hs, h0⟩
    refine ⟨Ext, Ext.frame, ?_⟩
    rw [h0]
    have hrd := hr.ext (Keep.drew (fun _ => False) wr)
    try simp only [XP_nilS, XP_field_183_0, XP_field_183_1]
    refine XR_ok Ext.frame (fun w' k => run_loadAt agg_180 (blk_get (k.get hrd.blk) (v := nv) rfl)) ?_
    refine XR_ok Ext.frame (fun w' k => run_loadAt agg_180 (blk_get (k.get hrd.blk) (v := sv) rfl)) ?_
    refine copy_now hrd (by show d.now.length = (tears fates 0 d.safe d.ws).length; rw [Dk.now_length, tears_length]) ?_
    intro v1 w1 h1 s1
    simp only [X_nilS, X_field_183_2, X_field_183_3, X_field_183_4]
    refine XU_store info_181 sz_181 rfl h1.blk (Nat.le_of_ble_eq_true rfl) (by show ¬ ((0 : Nat) ≤ 0 + 2 ∧ 0 + 2 < 0); omega) ?_
    obtain ⟨h2, s2⟩ := h1.clear
    show XU _ _ (setAt w1 b #[nv, sv, .slice none 0 0, .bool d.dead, .int .i64 d.fuse, .int .i64 d.done] 183 (0, 0)) _
    have e2 : setAt w1 b #[nv, sv, .slice none 0 0, .bool d.dead, .int .i64 d.fuse, .int .i64 d.done] 183 (0, 0) = setAt w1 b #[nv, sv, .slice none 0 0, .bool (Dk.raw d).dead, .int .i64 (Dk.raw d).fuse, .int .i64 (Dk.raw d).done] 183 (0, 0) := rfl
    rw [e2]
    generalize setAt w1 b #[nv, sv, .slice none 0 0, .bool (Dk.raw d).dead, .int .i64 (Dk.raw d).fuse, .int .i64 (Dk.raw d).done] 183 (0, 0) = w2 at h2 s2 ⊢
    refine XU_store info_4 sz_4 rfl h2.blk (Nat.le_of_ble_eq_true rfl) (by show ¬ ((0 : Nat) ≤ 0 + 3 ∧ 0 + 3 < 0); omega) ?_
    obtain ⟨h3, s3⟩ := h2.put (cs' := (#[nv, sv, .slice none 0 0, .bool (Dk.raw d).dead, .int .i64 (Dk.raw d).fuse, .int .i64 (Dk.raw d).done] : Array Value).setIfInBounds (0 + 3) (.bool false)) ⟨tears fates 0 d.safe d.ws, tears fates 0 d.safe d.ws, [], false, d.fuse, d.done⟩ rfl rfl rfl rfl
    generalize setAt w2 b _ 183 (0, 0) = w3 at h3 s3 ⊢
    refine XU_store info_3 sz_3 rfl h3.blk (Nat.le_of_ble_eq_true rfl) (by show ¬ ((0 : Nat) ≤ 0 + 4 ∧ 0 + 4 < 0); omega) ?_
    obtain ⟨h4, s4⟩ := h3.put (cs' := (#[nv, sv, .slice none 0 0, .bool false, .int .i64 d.fuse, .int .i64 d.done] : Array Value).setIfInBounds (0 + 4) (.int .i64 (-1))) ⟨tears fates 0 d.safe d.ws, tears fates 0 d.safe d.ws, [], false, -1, d.done⟩ rfl rfl rfl rfl
    exact hK _ ⟨Dk.crash_ok ok fates, nv, sv, _, h4⟩ (hs.trans ((Step.ext (Keep.drew _ _) (lt_of_blk hr.blk)).trans (s1.trans (s2.trans (s3.trans s4)))))
theorem Read_spec {at_ : Int} (h : DiskAt w b d) (hK : ∀ v w1, Ext w w1 → w1.ownsRow w.heap.size 5 1 v (d.read at_).1.length (B8 (d.read at_).1) → K (.tuple #[v, i64v (d.read at_).2]) w1) : CALL Try.prog 73 #[ptr b, i64v at_] w K := by
  obtain ⟨ok, nv, sv, wv, h⟩ := h
  obtain ⟨an, cn, en⟩ := own_sl h.now
  have enl : (Dk.raw d).now.length = d.safe.length := Dk.now_length d
  apply call_disk_Disk_Read
  unfold B_disk_Disk_Read
  simp only [X_eql_nil_74, Option.isNone_some, condS_bool, Bool.false_eq_true, if_false, X_lss, gstep_bool]
  have bad : at_ < 0 ∨ (d.safe.length : Int) ≤ at_ → K (.tuple #[.slice none 0 0, i64v 1]) w := by
    intro hbad
    have e : d.read at_ = ([], 1) := by unfold Dk.read; rw [if_pos hbad]
    have := hK (.slice none 0 0) w (Keep.refl _ _) (by rw [e]; exact own_nilB w)
    rw [e] at this
    exact this
  by_cases hneg : at_ < 0
  · have e1 : decide (at_ < 0) = true := by simpa using hneg
    simp only [e1, Bool.true_eq_false, if_false, X_pick, if_true, gstep_bool, condS_bool]
    exact bad (.inl hneg)
  have e1 : decide (at_ < 0) = false := by simpa using hneg
  simp only [e1, if_true, X_nilS, X_field_183_0, X_field_183_3]
  refine X_loadL agg_180 h.blk rfl ?_
  rw [en, enl]
  simp only [X_len_180, X_geq, X_pick, condS_bool, Bool.false_eq_true, if_false]
  by_cases hge : (d.safe.length : Int) ≤ at_
  · rw [if_pos (by simpa using hge)]
    exact bad (.inr hge)
  rw [if_neg (by simpa using hge)]
  have hgood : ¬ (at_ < 0 ∨ (d.safe.length : Int) ≤ at_) := by omega
  refine X_loadL agg_4 h.blk rfl ?_
  rw [condS_bool]
  by_cases hd : d.dead = true
  · rw [if_pos (by exact hd)]
    have e : d.read at_ = ([], 6) := by unfold Dk.read; rw [if_neg hgood, if_pos hd]
    have := hK (.slice none 0 0) w (Keep.refl _ _) (by rw [e]; exact own_nilB w)
    rw [e] at this
    exact this
  rw [if_neg (by exact hd)]
  refine X_loadL agg_180 h.blk rfl ?_
  obtain ⟨i, rfl⟩ : ∃ i : Nat, at_ = (i : Int) := ⟨at_.toNat, by omega⟩
  have hi : i < (Dk.raw d).now.length := by rw [enl]; omega
  obtain ⟨g, cap, cur, hnv, hg, hfit, hold, hput⟩ := h.now_at hi
  have h128 := h.n128 _ (List.getElem_mem hi)
  rw [hnv]
  refine X_of (ix Try.underlying180 info_184 i rfl hi _) ?_
  rw [sz_184, add_plain, Nat.zero_add]
  refine X_of (run_slice_arr_all Try.underlying184 info_5 _ _) ?_
  have e : d.read (i : Int) = ((Dk.raw d).now[i], 0) := by
    unfold Dk.read
    rw [if_neg hgood, if_neg hd]
    show (d.now.getD ((i : Int).toNat) [], (0 : Int)) = _
    rw [List.getD_eq_getElem?_getD, Int.toNat_natCast, List.getElem?_eq_getElem (show i < d.now.length from hi)]
    rfl
  have hb : Bts w (.slice (some ⟨g, i * 128, none⟩) (Dk.raw d).now[i].length 128) (Dk.raw d).now[i] := by
    refine ⟨_, _, rfl, by omega, by omega, fun _ => ⟨_, rfl, fun j u hj => ?_⟩⟩
    rw [add_plain, cell_blk hg]
    have hc := congrArg (fun x => x[j]?) hold
    simp only [B8_getElem?, hj, List.getElem?_take, List.getElem?_drop, Option.map_some] at hc
    split at hc
    · rw [← hc]; simp
    · cases hc
  rw [h128] at hb
  refine Clone_spec hb (by omega) ?_
  intro v' w1 hx ho
  have := hK v' w1 hx (by rw [e]; exact ho)
  rw [e] at this
  exact this
theorem run_build_183 (a a' : Option Addr) (n c n' c' : Nat) (w : World) : (Instr.build 183 #[(0, .slice a n c), (1, .slice a' n' c'), (4, .int .i64 (-1))]).run Try.prog w = .ok (.agg #[.slice a n c, .slice a' n' c', .slice none 0 0, .bool false, .int .i64 (-1), .int .i64 0]) w := by kernel_rfl
theorem madeCells_const (v : Value) (m n : Nat) (hm : 0 < m) : madeCells (List.replicate m v).toArray n = (List.replicate n v).toArray := by
  unfold madeCells
  apply Array.ext
  · simp
  · intro i h1 h2
    simp only [Array.getElem_map, Array.getElem_range, List.size_toArray, List.length_replicate]
    have hlt : i % m < m := Nat.mod_lt _ hm
    rw [getElem!_pos _ _ (by simpa using hlt)]
    simp
theorem new_sectors (n : Nat) : madeCells (Value.agg (List.replicate 128 (Value.int .u8 0)).toArray).cells (n * 128) = (B8 (List.replicate n (List.replicate 128 0)).flatten).toArray := by
  have e : (Value.agg (List.replicate 128 (Value.int .u8 0)).toArray).cells = (List.replicate 128 (Value.int .u8 0)).toArray := rfl
  rw [e, madeCells_const _ _ _ (by decide), List.flatten_replicate_replicate, B8_zeros]
theorem New_disk {n : Int} (hbad : n < 0 ∨ 16384 < n → K (.tuple #[.pointer none, i64v 1]) w)
    (hgood : ∀ m : Nat, n = m → m ≤ 16384 → ∀ b w1, Ext w w1 → (∀ k, foot w1 b k → w.heap.size ≤ k) → DiskAt w1 b (Dk.new m) → K (.tuple #[ptr b, i64v 0]) w1) : CALL Try.prog 69 #[i64v n] w K := by
  apply call_disk_New
  unfold B_disk_New
  simp only [X_lss, gstep_bool, X_gtr, X_pick, condS_bool]
  by_cases hneg : n < 0
  · have e1 : decide (n < 0) = true := by simpa using hneg
    simp only [e1, Bool.true_eq_false, if_false, X_pick, if_true, gstep_bool, condS_bool]
    exact hbad (.inl hneg)
  have e1 : decide (n < 0) = false := by simpa using hneg
  simp only [e1, if_true, X_gtr, X_pick, Bool.false_eq_true, if_false, condS_bool]
  by_cases hbig : 16384 < n
  · rw [if_pos (by simpa using hbig)]
    exact hbad (.inr hbig)
  rw [if_neg (by simpa using hbig)]
  obtain ⟨m, rfl⟩ : ∃ m : Nat, n = (m : Int) := ⟨n.toNat, by omega⟩
  have hm : m ≤ 16384 := by omega
  have hx0 := Keep.drew (fun _ => False) w
  have hsz0 : (drewW w).heap.size = w.heap.size := rfl
  have key : ∀ (g1 g2 : Nat) (w2 : World), Ext (drewW w) w2 → w.heap.size ≤ g1 → w.heap.size ≤ g2 → g1 ≠ g2 → w2.heap[g1]? = some (.cells (B8 (List.replicate m (List.replicate 128 0)).flatten).toArray 184 (0, 0)) → w2.heap[g2]? = some (.cells (B8 (List.replicate m (List.replicate 128 0)).flatten).toArray 184 (0, 0)) →
      XP Try.prog (Instr.build 183 #[(0, .slice (some ⟨g1, 0, none⟩) m m), (1, .slice (some ⟨g2, 0, none⟩) m m), (4, (.int .i64 (-1)))]) w2 fun v6 w3 => X Try.prog (Instr.box 183 v6) w3 fun v7 w4 => K (.tuple #[v7, (.int .i64 0)]) w4 := by
    intro g1 g2 w2 hx hg1 hg2 hne h1 h2
    refine XP_of (fun w => run_build_183 _ _ _ _ _ _ w) ?_
    refine X_box ?_
    have hb := newB_get w2 (Value.agg #[.slice (some ⟨g1, 0, none⟩) m m, .slice (some ⟨g2, 0, none⟩) m m, .slice none 0 0, .bool false, .int .i64 (-1), .int .i64 0]).cells 183
    have hxb := newB_ext w2 (Value.agg #[.slice (some ⟨g1, 0, none⟩) m m, .slice (some ⟨g2, 0, none⟩) m m, .slice none 0 0, .bool false, .int .i64 (-1), .int .i64 0]).cells 183
    have hlen : (B8 (List.replicate m (List.replicate 128 0)).flatten).length = m * 128 := by rw [B8_length, flat_len (n := 128) (by intro s hs; rw [(List.mem_replicate.1 hs).2]; simp)]; simp
    have own : ∀ g, w2.heap[g]? = some (.cells (B8 (List.replicate m (List.replicate 128 0)).flatten).toArray 184 (0, 0)) → (newB w2 (Value.agg #[.slice (some ⟨g1, 0, none⟩) m m, .slice (some ⟨g2, 0, none⟩) m m, .slice none 0 0, .bool false, .int .i64 (-1), .int .i64 0]).cells 183).ownsRow 0 184 128 (.slice (some ⟨g, 0, none⟩) m m) m (B8 (List.replicate m (List.replicate 128 0)).flatten) := fun g hg =>
      ⟨hlen, .inr ⟨g, m, _, rfl, Nat.zero_le _, hxb.get hg, Nat.le_refl _, by simp only [maxLen]; omega, by rw [List.size_toArray, hlen], by rw [List.take_of_length_le (by simp [hlen])]⟩⟩
    have hraw : RawAt (newB w2 (Value.agg #[.slice (some ⟨g1, 0, none⟩) m m, .slice (some ⟨g2, 0, none⟩) m m, .slice none 0 0, .bool false, .int .i64 (-1), .int .i64 0]).cells 183) w2.heap.size (Dk.raw (Dk.new m)) (.slice (some ⟨g1, 0, none⟩) m m) (.slice (some ⟨g2, 0, none⟩) m m) (.slice none 0 0) := by
      have ok := Dk.new_ok hm
      have hl : (List.replicate m (List.replicate 128 (0 : UInt8))).length = m := by simp
      refine ⟨hb, ?_, ?_, ⟨rfl, .inl ⟨rfl, rfl⟩⟩, ?_, Dk.now_128 ok, ok.1, by intro p hp; exact absurd hp (by simp [Dk.raw, Dk.new])⟩
      · show World.ownsRow _ 0 184 128 _ (List.replicate m (List.replicate 128 (0 : UInt8))).length (B8 (List.replicate m (List.replicate 128 0)).flatten)
        rw [hl]; exact own g1 h1
      · show World.ownsRow _ 0 184 128 _ (List.replicate m (List.replicate 128 (0 : UInt8))).length (B8 (List.replicate m (List.replicate 128 0)).flatten)
        rw [hl]; exact own g2 h2
      · intro g hg hg'
        have e1 : g1 = g := by simpa [Value.ownBlock] using hg
        have e2 : g2 = g := by simpa [Value.ownBlock] using hg'
        exact hne (by rw [e1, e2])
    refine hgood m rfl hm _ _ (hx0.trans (hx.trans hxb)) ?_ ⟨Dk.new_ok hm, _, _, _, hraw⟩
    intro k hk
    rcases hraw.foot.1 hk with h | h | h | h
    · have := hx.size; omega
    · have : g1 = k := by simpa [Value.ownBlock] using h
      omega
    · have : g2 = k := by simpa [Value.ownBlock] using h
      omega
    · cases h
  refine ⟨Ext, Ext.frame, ?_, ?_⟩
  · refine X_make Try.underlying180 el_184 m m rfl rfl (Nat.le_refl _) (by omega) (by omega) ?_
    refine X_make Try.underlying180 el_184 m m rfl rfl (Nat.le_refl _) (by omega) (by omega) ?_
    rw [new_sectors]
    have hx1 := newB_ext (drewW w) (B8 (List.replicate m (List.replicate 128 0)).flatten).toArray 184
    have hg1 := newB_get (drewW w) (B8 (List.replicate m (List.replicate 128 0)).flatten).toArray 184
    have hs1 := newB_size (drewW w) (B8 (List.replicate m (List.replicate 128 0)).flatten).toArray 184
    generalize newB (drewW w) (B8 (List.replicate m (List.replicate 128 0)).flatten).toArray 184 = w1 at hx1 hg1 hs1 ⊢
    have hx2 := newB_ext w1 (B8 (List.replicate m (List.replicate 128 0)).flatten).toArray 184
    exact key _ _ _ (hx1.trans hx2) (by omega) (by omega) (by omega) (hx2.get hg1) (newB_get _ _ _)
  · refine X_make Try.underlying180 el_184 m m rfl rfl (Nat.le_refl _) (by omega) (by omega) ?_
    refine X_make Try.underlying180 el_184 m m rfl rfl (Nat.le_refl _) (by omega) (by omega) ?_
    rw [new_sectors]
    have hx1 := newB_ext (drewW w) (B8 (List.replicate m (List.replicate 128 0)).flatten).toArray 184
    have hg1 := newB_get (drewW w) (B8 (List.replicate m (List.replicate 128 0)).flatten).toArray 184
    have hs1 := newB_size (drewW w) (B8 (List.replicate m (List.replicate 128 0)).flatten).toArray 184
    generalize newB (drewW w) (B8 (List.replicate m (List.replicate 128 0)).flatten).toArray 184 = w1 at hx1 hg1 hs1 ⊢
    have hx2 := newB_ext w1 (B8 (List.replicate m (List.replicate 128 0)).flatten).toArray 184
    exact key _ _ _ (hx1.trans hx2) (by omega) (by omega) (by omega) (newB_get _ _ _) (hx2.get hg1)
/-- Copy. -/
theorem emp180 (w : World) : (Instr.buildSlice 180 0 #[]).run Try.prog w = .ok (.slice (some ⟨w.heap.size, 0, none⟩) 0 0) (newB w #[] 184) := by kernel_rfl
theorem emp181 (w : World) : (Instr.buildSlice 181 0 #[]).run Try.prog w = .ok (.slice (some ⟨w.heap.size, 0, none⟩) 0 0) (newB w #[] 186) := by kernel_rfl
theorem CloneS_spec {m n : Nat} {v : Value} {xs : List Value} (ho : w.ownsRow m 184 128 v n xs) (h1 : ∀ u ∈ xs, u.oneCell' = true) (hb : n * 128 ≤ 140737488355328) (h : ∀ v' w1, Ext w w1 → w1.ownsRow w.heap.size 184 128 v' n xs → K v' w1) : CALL Try.prog 134 #[v] w K := by
  apply call_slices_Clone_disk_sector
  unfold B_slices_Clone_disk_sector
  exact clone_run (K := K) Try.underlying180 el_184 (by decide) (by decide) ho h1 hb emp180 h
theorem CloneW_spec {m n : Nat} {v : Value} {xs : List Value} (ho : w.ownsRow m 186 129 v n xs) (h1 : ∀ u ∈ xs, u.oneCell' = true) (hb : n * 136 ≤ 140737488355328) (h : ∀ v' w1, Ext w w1 → w1.ownsRow w.heap.size 186 129 v' n xs → K v' w1) : CALL Try.prog 135 #[v] w K := by
  apply call_slices_Clone_disk_write
  unfold B_slices_Clone_disk_write
  exact clone_run (K := K) Try.underlying181 el_186 (by decide) (by decide) ho h1 hb emp181 h
theorem wsL_one (ws : List (Nat × List UInt8)) : ∀ v ∈ wsL ws, v.oneCell' = true := by
  intro v hv
  unfold wsL at hv
  rw [List.mem_flatten] at hv
  obtain ⟨l, hl, hv⟩ := hv
  obtain ⟨p, _, rfl⟩ := List.mem_map.1 hl
  exact wcs_one p v hv
theorem Copy_spec (h : DiskAt w b d) (hw : d.ws.length ≤ 1000000) (hK : ∀ b' w1, Ext w w1 → (∀ k, foot w1 b' k → w.heap.size ≤ k) → DiskAt w1 b' d → K (ptr b') w1) : CALL Try.prog 81 #[ptr b] w K := by
  obtain ⟨ok, nv, sv, wv, h⟩ := h
  have enl : (Dk.raw d).now.length = d.safe.length := Dk.now_length d
  have hsl : d.safe.length ≤ 16384 := ok.2.2.1
  apply call_disk_Disk_Copy
  unfold B_disk_Disk_Copy
  simp only [X_eql_nil_74, Option.isNone_some, condS_bool, Bool.false_eq_true, if_false, X_nilS]
  refine X_loadAgg (l := [nv, sv, wv, .bool d.dead, .int .i64 d.fuse, .int .i64 d.done]) Try.underlying183 agg_183 info_183 h.blk (by rw [sz_183]; rfl) ?_
  refine X_alloc zero_183 ?_
  have hq := newB_get w #[(.slice none 0 0), (.slice none 0 0), (.slice none 0 0), (.bool false), (.int .i64 0), (.int .i64 0)] 183
  have hxq := newB_ext w #[(.slice none 0 0), (.slice none 0 0), (.slice none 0 0), (.bool false), (.int .i64 0), (.int .i64 0)] 183
  show XU _ _ (newB w #[(.slice none 0 0), (.slice none 0 0), (.slice none 0 0), (.bool false), (.int .i64 0), (.int .i64 0)] 183) _
  generalize newB w #[(.slice none 0 0), (.slice none 0 0), (.slice none 0 0), (.bool false), (.int .i64 0), (.int .i64 0)] 183 = w2 at hq hxq ⊢
  have hone : ∀ v ∈ [nv, sv, wv, .bool d.dead, .int .i64 d.fuse, .int .i64 d.done], v.oneCell' = true := by
    obtain ⟨_, _, e1⟩ := own_sl h.now
    obtain ⟨_, _, e2⟩ := own_sl h.safe
    obtain ⟨_, _, e3⟩ := own_sl h.ws
    intro v hv
    simp only [List.mem_cons, List.not_mem_nil, or_false] at hv
    rcases hv with rfl | rfl | rfl | rfl | rfl | rfl
    · rw [e1]; rfl
    · rw [e2]; rfl
    · rw [e3]; rfl
    · rfl
    · rfl
    · rfl
  refine XU_storeAgg info_183 hq (by rw [sz_183]; rfl) (by rw [sz_183]; rfl) hone ?_
  have hq2 := setAt_same (cs := [nv, sv, wv, .bool d.dead, .int .i64 d.fuse, .int .i64 d.done].toArray) (T := 183) (fr := (0, 0)) (lt_of_blk hq)
  have hx2 : Ext w (setAt w2 w.heap.size [nv, sv, wv, .bool d.dead, .int .i64 d.fuse, .int .i64 d.done].toArray 183 (0, 0)) := Ext.seq hxq (setAt_keep _ _ _ _ _) (fun j hj => by omega)
  generalize setAt w2 w.heap.size [nv, sv, wv, .bool d.dead, .int .i64 d.fuse, .int .i64 d.done].toArray 183 (0, 0) = w3 at hq2 hx2 ⊢
  generalize hqe : w.heap.size = q at hq2 ⊢
  refine ⟨Ext, Ext.frame, ?_⟩
  have hxd : Ext w (drewW w3) := hx2.trans (Keep.drew _ _)
  have h3 := h.ext hxd
  have hq3 : (drewW w3).heap[q]? = some (.cells [nv, sv, wv, .bool d.dead, .int .i64 d.fuse, .int .i64 d.done].toArray 183 (0, 0)) := hq2
  try simp only [XP_nilS, XP_field_183_0, XP_field_183_1, XP_field_183_2]
  refine XR_ok Ext.frame (fun w' k => run_loadAt agg_180 (blk_get (k.get h3.blk) (v := nv) rfl)) ?_
  refine XR_ok Ext.frame (fun w' k => run_loadAt agg_180 (blk_get (k.get h3.blk) (v := sv) rfl)) ?_
  refine XR_ok Ext.frame (fun w' k => run_loadAt agg_181 (blk_get (k.get h3.blk) (v := wv) rfl)) ?_
  have hqs : q + 1 ≤ (drewW w3).heap.size := by have := lt_of_blk hq3; omega
  refine CloneS_spec h3.now B8_one (by rw [enl]; omega) ?_
  intro v1 w4 hx4 ho4
  refine ⟨hx4, ?_⟩
  refine CloneS_spec (h3.ext hx4).safe B8_one (by show d.safe.length * 128 ≤ _; omega) ?_
  intro v2 w5 hx5 ho5
  refine ⟨hx5, ?_⟩
  refine CloneW_spec ((h3.ext hx4).ext hx5).ws (wsL_one _) (by show d.ws.length * 136 ≤ _; omega) ?_
  intro v3 w6 hx6 ho6
  refine ⟨hx6, ?_⟩
  have hq6 := hx6.get (hx5.get (hx4.get hq3))
  obtain ⟨a1, c1, e1⟩ := own_sl ho4
  obtain ⟨a2, c2, e2⟩ := own_sl ho5
  obtain ⟨a3, c3, e3⟩ := own_sl ho6
  refine XU_store info_180 sz_180 (by rw [e1]; rfl) hq6 (by simp) (by show ¬ ((0 : Nat) ≤ 0 ∧ 0 < 0); omega) ?_
  have hq7 := setAt_same (cs := ([nv, sv, wv, .bool d.dead, .int .i64 d.fuse, .int .i64 d.done].toArray.setIfInBounds 0 v1)) (T := 183) (fr := (0, 0)) (lt_of_blk hq6)
  have hk7 := setAt_keep w6 q ([nv, sv, wv, .bool d.dead, .int .i64 d.fuse, .int .i64 d.done].toArray.setIfInBounds 0 v1) 183 (0, 0)
  generalize setAt w6 q ([nv, sv, wv, .bool d.dead, .int .i64 d.fuse, .int .i64 d.done].toArray.setIfInBounds 0 v1) 183 (0, 0) = w7 at hq7 hk7 ⊢
  refine XU_store info_180 sz_180 (by rw [e2]; rfl) hq7 (by simp) (by show ¬ ((0 : Nat) ≤ 0 + 1 ∧ 0 + 1 < 0); omega) ?_
  have hq8 := setAt_same (cs := (([nv, sv, wv, .bool d.dead, .int .i64 d.fuse, .int .i64 d.done].toArray.setIfInBounds 0 v1).setIfInBounds (0 + 1) v2)) (T := 183) (fr := (0, 0)) (lt_of_blk hq7)
  have hk8 := setAt_keep w7 q (([nv, sv, wv, .bool d.dead, .int .i64 d.fuse, .int .i64 d.done].toArray.setIfInBounds 0 v1).setIfInBounds (0 + 1) v2) 183 (0, 0)
  generalize setAt w7 q (([nv, sv, wv, .bool d.dead, .int .i64 d.fuse, .int .i64 d.done].toArray.setIfInBounds 0 v1).setIfInBounds (0 + 1) v2) 183 (0, 0) = w8 at hq8 hk8 ⊢
  refine XU_store info_181 sz_181 (by rw [e3]; rfl) hq8 (by simp) (by show ¬ ((0 : Nat) ≤ 0 + 2 ∧ 0 + 2 < 0); omega) ?_
  have hq9 := setAt_same (cs := ((([nv, sv, wv, .bool d.dead, .int .i64 d.fuse, .int .i64 d.done].toArray.setIfInBounds 0 v1).setIfInBounds (0 + 1) v2).setIfInBounds (0 + 2) v3)) (T := 183) (fr := (0, 0)) (lt_of_blk hq8)
  have hk9 := setAt_keep w8 q ((([nv, sv, wv, .bool d.dead, .int .i64 d.fuse, .int .i64 d.done].toArray.setIfInBounds 0 v1).setIfInBounds (0 + 1) v2).setIfInBounds (0 + 2) v3) 183 (0, 0)
  generalize setAt w8 q ((([nv, sv, wv, .bool d.dead, .int .i64 d.fuse, .int .i64 d.done].toArray.setIfInBounds 0 v1).setIfInBounds (0 + 1) v2).setIfInBounds (0 + 2) v3) 183 (0, 0) = w9 at hq9 hk9 ⊢
  have hk69 : Keep (· = q) w6 w9 := hk7.trans (hk8.trans hk9)
  have hx3s : (drewW w3).heap.size ≤ w4.heap.size := hx4.size
  have hx4s : w4.heap.size ≤ w5.heap.size := hx5.size
  have lt4 := ho4.lt
  have lt5 := ho5.lt
  have lt6 := ho6.lt
  have hraw : RawAt w9 q (Dk.raw d) v1 v2 v3 := by
    refine ⟨hq9, ?_, ?_, ?_, ?_, h.n128, h.s128, h.w128⟩
    · exact own_keepD (own_base0 (own_extD (own_extD ho4 hx5) hx6)) hk69 (fun g hg e => by have := lt4 g hg; omega)
    · exact own_keepD (own_base0 (own_extD ho5 hx6)) hk69 (fun g hg e => by have := lt5 g hg; omega)
    · exact own_keepD (own_base0 ho6) hk69 (fun g hg e => by have := lt6 g hg; omega)
    · intro g hg hg'
      have := lt4 g hg
      have := lt5 g hg'
      omega
  refine hK q w9 (Ext.seq (hxd.trans (hx4.trans (hx5.trans hx6))) hk69 (fun j hj => by omega)) ?_ ⟨ok, _, _, _, hraw⟩
  intro k hk
  rcases hraw.foot.1 hk with h' | h' | h' | h'
  · omega
  · have := lt4 k h'; omega
  · have := lt5 k h'; omega
  · have := lt6 k h'; omega
end
end Go.Proofs.Ytggggfcgnkllgaa
end
