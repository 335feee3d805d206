import Derived.Test.YtggggfcgnkllgaaTy
import Derived.Test.YtggggfcgnkllgaaShSound
set_option linter.unusedVariables false
namespace Go.Proofs.Ytggggfcgnkllgaa
open Go Go.Sh
attribute [local irreducible] X XU XP XR CALL loopS resC closS
/-- cellarage/disk.New -/
def B_disk_New (x0 : Value) (w : World) (K : Value → World → Prop) : Prop :=
  X Try.prog (binOp .lss 3 x0 (.int .i64 0)) w fun v1_5 w1 =>
  gstep v1_5 false (fun w2 K => K x0 w2) w1 fun v2_7 w3 =>
  gstep v1_5 false (fun w4 K => X Try.prog (binOp .gtr 3 v2_7 (.int .i64 16384)) w4 K) w3 fun v3_8 w5 =>
  X Try.prog (pickS v1_5 (.bool true) v3_8) w5 fun v4_9 w6 =>
  condS v4_9 (
  K (.tuple #[(.pointer none), (.int .i64 1)]) w6) (
  ∃ R, Frame? R ∧
  (X Try.prog (Instr.makeSlice 180 x0 x0) (drewW w6) fun v5_11 w7 =>
  X Try.prog (Instr.makeSlice 180 x0 x0) w7 fun v6_13 w8 =>
  XP Try.prog (Instr.build 183 #[(0, v5_11), (1, v6_13), (4, (.int .i64 (-1)))]) w8 fun v7_14 w9 =>
  X Try.prog (Instr.box 183 v7_14) w9 fun v8_15 w10 =>
  K (.tuple #[v8_15, (.int .i64 0)]) w10) ∧
  (X Try.prog (Instr.makeSlice 180 x0 x0) (drewW w6) fun v9_13 w11 =>
  X Try.prog (Instr.makeSlice 180 x0 x0) w11 fun v10_11 w12 =>
  XP Try.prog (Instr.build 183 #[(0, v10_11), (1, v9_13), (4, (.int .i64 (-1)))]) w12 fun v11_14 w13 =>
  X Try.prog (Instr.box 183 v11_14) w13 fun v12_15 w14 =>
  K (.tuple #[v12_15, (.int .i64 0)]) w14))

theorem eq_disk_New (x0 : Value) (w : World) (K : Value → World → Prop) :
    sh Try.prog (Try.f69.body.getD .skip) (retS Try.prog Try.f69.results K) (env0 #[x0]) w = B_disk_New x0 w K := by kernel_rfl

theorem call_disk_New (x0 : Value) (w : World) (K : Value → World → Prop) (h : B_disk_New x0 w K) : CALL Try.prog 69 #[x0] w K :=
  call_of_eq (c := Try.f69.body.getD .skip) mixed Try.func69 (by kernel_rfl) (by kernel_rfl) (by kernel_rfl) (Nat.le_of_ble_eq_true (by kernel_rfl)) (eq_disk_New x0 w K) h

/-- (*cellarage/disk.Disk).Write -/
def B_disk_Disk_Write (x0 x1 x2 : Value) (w : World) (K : Value → World → Prop) : Prop :=
  X Try.prog (binOpG .eql 74 (.tmp 10) (.const (.pointer none)) x0 (.pointer none)) w fun v1_11 w1 =>
  condS v1_11 (
  K (.int .i64 2) w1) (
  X Try.prog (binOp .lss 3 x1 (.int .i64 0)) w1 fun v2_14 w2 =>
  gstep v2_14 false (fun w3 K => K x1 w3) w2 fun v3_16 w4 =>
  gstep v2_14 false (fun w5 K => K x0 w5) w4 fun v4_17 w6 =>
  gstep v2_14 false (fun w7 K => X Try.prog (nilS v4_17) w7 K) w6 fun v5_18 w8 =>
  gstep v2_14 false (fun w9 K => X Try.prog (Instr.fieldAt 183 v5_18 0) w9 K) w8 fun v6_19 w10 =>
  gstep v2_14 false (fun w11 K => X Try.prog (Instr.loadAt 180 v6_19) w11 K) w10 fun v7_20 w12 =>
  gstep v2_14 false (fun w13 K => X Try.prog (Builtin.len_ #[180] 3 #[v7_20]) w13 K) w12 fun v8_21 w14 =>
  gstep v2_14 false (fun w15 K => X Try.prog (binOp .geq 3 v3_16 v8_21) w15 K) w14 fun v9_22 w16 =>
  X Try.prog (pickS v2_14 (.bool true) v9_22) w16 fun v10_23 w17 =>
  gstep v10_23 false (fun w18 K => K x2 w18) w17 fun v11_25 w19 =>
  gstep v10_23 false (fun w20 K => X Try.prog (Builtin.len_ #[27] 3 #[v11_25]) w20 K) w19 fun v12_26 w21 =>
  gstep v10_23 false (fun w22 K => X Try.prog (binOp .gtr 3 v12_26 (.int .i64 128)) w22 K) w21 fun v13_27 w23 =>
  X Try.prog (pickS v10_23 (.bool true) v13_27) w23 fun v14_28 w24 =>
  condS v14_28 (
  K (.int .i64 1) w24) (
  CALL Try.prog 131 #[x0] w24 fun v15_30 w25 =>
  X Try.prog (binOpG .neq 30 (.tmp 31) (.const (.int .i64 0)) v15_30 (.int .i64 0)) w25 fun v16_32 w26 =>
  condS v16_32 (
  K v15_30 w26) (
  X Try.prog (Instr.build 186 #[(0, x1)]) w26 fun v17_35 w27 =>
  X Try.prog (Instr.alloc 186 true (.tuple #[])) w27 fun v18_8 w28 =>
  XU Try.prog (Instr.storeAt 186 v18_8 v17_35) w28 fun w29 =>
  X Try.prog (Instr.fieldAt 186 v18_8 1) w29 fun v19_36 w30 =>
  X Try.prog (Instr.sliceAt 184 v19_36 none none none) w30 fun v20_37 w31 =>
  X Try.prog (Builtin.copy_ #[27, 27] 3 #[v20_37, x2]) w31 fun v21_39 w32 =>
  ∃ R, Frame? R ∧
  XP Try.prog (nilS x0) (drewW w32) fun v22_42 w33 =>
  XP Try.prog (Instr.fieldAt 183 v22_42 2) w33 fun v23_43 w34 =>
  XR Try.prog R (Instr.loadAt 181 v23_43) w34 fun v24_44 w35 =>
  XR Try.prog R (Instr.loadAt 186 v18_8) w35 fun v25_45 w36 =>
  X Try.prog (Instr.buildSlice 181 1 #[(0, v25_45)]) w36 fun v26_46 w37 =>
  R w36 w37 ∧
  X Try.prog (Builtin.append_ #[181, 181] 181 #[v24_44, v26_46]) w37 fun v27_47 w38 =>
  R w37 w38 ∧
  XP Try.prog (nilS x0) w38 fun v28_48 w39 =>
  XP Try.prog (Instr.fieldAt 183 v28_48 2) w39 fun v29_49 w40 =>
  XU Try.prog (Instr.storeAt 181 v29_49 v27_47) w40 fun w41 =>
  ∃ R, Frame? R ∧
  XP Try.prog (nilS x0) (drewW w41) fun v30_51 w42 =>
  XP Try.prog (Instr.fieldAt 183 v30_51 0) w42 fun v31_52 w43 =>
  XR Try.prog R (Instr.loadAt 180 v31_52) w43 fun v32_53 w44 =>
  XP Try.prog (Instr.fieldAt 186 v18_8 1) w44 fun v33_55 w45 =>
  XR Try.prog R (Instr.loadAt 184 v33_55) w45 fun v34_56 w46 =>
  XP Try.prog (Instr.indexAt 180 v32_53 x1) w46 fun v35_57 w47 =>
  XU Try.prog (Instr.storeAt 184 v35_57 v34_56) w47 fun w48 =>
  K (.int .i64 0) w48)))

theorem eq_disk_Disk_Write (x0 x1 x2 : Value) (w : World) (K : Value → World → Prop) :
    sh Try.prog (Try.f70.body.getD .skip) (retS Try.prog Try.f70.results K) (env0 #[x0, x1, x2]) w = B_disk_Disk_Write x0 x1 x2 w K := by kernel_rfl

theorem call_disk_Disk_Write (x0 x1 x2 : Value) (w : World) (K : Value → World → Prop) (h : B_disk_Disk_Write x0 x1 x2 w K) : CALL Try.prog 70 #[x0, x1, x2] w K :=
  call_of_eq (c := Try.f70.body.getD .skip) mixed Try.func70 (by kernel_rfl) (by kernel_rfl) (by kernel_rfl) (Nat.le_of_ble_eq_true (by kernel_rfl)) (eq_disk_Disk_Write x0 x1 x2 w K) h

/-- (*cellarage/disk.Disk).Flush -/
def B_disk_Disk_Flush (x0 : Value) (w : World) (K : Value → World → Prop) : Prop :=
  X Try.prog (binOpG .eql 74 (.tmp 6) (.const (.pointer none)) x0 (.pointer none)) w fun v1_7 w1 =>
  condS v1_7 (
  K (.int .i64 2) w1) (
  CALL Try.prog 131 #[x0] w1 fun v2_9 w2 =>
  X Try.prog (binOpG .neq 30 (.tmp 10) (.const (.int .i64 0)) v2_9 (.int .i64 0)) w2 fun v3_11 w3 =>
  condS v3_11 (
  K v2_9 w3) (
  X Try.prog (nilS x0) w3 fun v4_14 w4 =>
  X Try.prog (Instr.fieldAt 183 v4_14 2) w4 fun v5_15 w5 =>
  X Try.prog (Instr.loadAt 181 v5_15) w5 fun v6_16 w6 =>
  X Try.prog (Builtin.len_ #[181] 3 #[v6_16]) w6 fun v7_17 w7 =>
  loopS (fun Q1 ρ1 w8 =>
  X Try.prog (binOp .lss 3 (ρ1 18) (ρ1 17)) w8 fun v8_19 w9 =>
  condS v8_19 (
  X Try.prog (Instr.indexAt 181 (ρ1 16) (ρ1 18)) w9 fun v9_20 w10 =>
  X Try.prog (Instr.loadAt 186 v9_20) w10 fun v10_21 w11 =>
  X Try.prog (Instr.alloc 186 true (.tuple #[])) w11 fun v11_5 w12 =>
  XU Try.prog (Instr.storeAt 186 v11_5 v10_21) w12 fun w13 =>
  ∃ R, Frame? R ∧
  XP Try.prog (nilS (ρ1 0)) (drewW w13) fun v12_23 w14 =>
  XP Try.prog (Instr.fieldAt 183 v12_23 1) w14 fun v13_24 w15 =>
  XR Try.prog R (Instr.loadAt 180 v13_24) w15 fun v14_25 w16 =>
  XP Try.prog (Instr.fieldAt 186 v11_5 0) w16 fun v15_26 w17 =>
  XR Try.prog R (Instr.loadAt 3 v15_26) w17 fun v16_27 w18 =>
  XP Try.prog (Instr.fieldAt 186 v11_5 1) w18 fun v17_28 w19 =>
  XR Try.prog R (Instr.loadAt 184 v17_28) w19 fun v18_29 w20 =>
  XP Try.prog (Instr.indexAt 180 v14_25 v16_27) w20 fun v19_30 w21 =>
  XU Try.prog (Instr.storeAt 184 v19_30 v18_29) w21 fun w22 =>
  X Try.prog (binOp .add 3 (ρ1 18) (.int .i64 1)) w22 fun v20_31 w23 =>
  Q1 .normal (upds ρ1 [(18, v20_31), (31, v20_31), (30, v19_30), (29, v18_29), (28, v17_28), (27, v16_27), (26, v15_26), (25, v14_25), (24, v13_24), (23, v12_23), (22, (ρ1 0)), (5, v11_5), (21, v10_21), (20, v9_20), (19, v8_19)]) w23) (
  Q1 (.exit 0) (upds ρ1 [(19, v8_19)]) w9)) (inBlockS 0 (thenS (fun ρ2 w24 =>
  X Try.prog (nilS (ρ2 0)) w24 fun v21_33 w25 =>
  X Try.prog (Instr.fieldAt 183 v21_33 2) w25 fun v22_34 w26 =>
  XU Try.prog (Instr.storeAt 181 v22_34 (.slice none 0 0)) w26 fun w27 =>
  K (.int .i64 0) w27) (retS Try.prog (Try.f71).results K))) (upds (env0 #[x0]) [(18, (.int .i64 0)), (17, v7_17), (16, v6_16), (15, v5_15), (14, v4_14), (13, x0), (11, v3_11), (10, v2_9), (3, v2_9), (9, v2_9), (8, x0), (7, v1_7), (6, x0), (2, (.int .i64 0))]) w7))

theorem eq_disk_Disk_Flush (x0 : Value) (w : World) (K : Value → World → Prop) :
    sh Try.prog (Try.f71.body.getD .skip) (retS Try.prog Try.f71.results K) (env0 #[x0]) w = B_disk_Disk_Flush x0 w K := by kernel_rfl

theorem call_disk_Disk_Flush (x0 : Value) (w : World) (K : Value → World → Prop) (h : B_disk_Disk_Flush x0 w K) : CALL Try.prog 71 #[x0] w K :=
  call_of_eq (c := Try.f71.body.getD .skip) mixed Try.func71 (by kernel_rfl) (by kernel_rfl) (by kernel_rfl) (Nat.le_of_ble_eq_true (by kernel_rfl)) (eq_disk_Disk_Flush x0 w K) h

/-- (*cellarage/disk.Disk).Crash -/
def B_disk_Disk_Crash (x0 x1 : Value) (w : World) (K : Value → World → Prop) : Prop :=
  X Try.prog (binOpG .eql 74 (.tmp 7) (.const (.pointer none)) x0 (.pointer none)) w fun v1_8 w1 =>
  condS v1_8 (
  K (.tuple #[]) w1) (
  X Try.prog (nilS x0) w1 fun v2_10 w2 =>
  X Try.prog (Instr.fieldAt 183 v2_10 2) w2 fun v3_11 w3 =>
  X Try.prog (Instr.loadAt 181 v3_11) w3 fun v4_12 w4 =>
  X Try.prog (Builtin.len_ #[181] 3 #[v4_12]) w4 fun v5_13 w5 =>
  loopS (fun Q1 ρ1 w6 =>
  X Try.prog (binOp .lss 3 (ρ1 14) (ρ1 13)) w6 fun v6_15 w7 =>
  condS v6_15 (
  joinS (fun ρ2 w8 =>
  X Try.prog (binOp .add 3 (ρ2 14) (.int .i64 1)) w8 fun v7_42 w9 =>
  Q1 .normal (upds ρ2 [(14, v7_42), (42, v7_42)]) w9) fun J2 =>
  X Try.prog (Instr.indexAt 181 (ρ1 12) (ρ1 14)) w7 fun v8_17 w10 =>
  X Try.prog (Instr.loadAt 186 v8_17) w10 fun v9_18 w11 =>
  X Try.prog (Instr.alloc 186 true (.tuple #[])) w11 fun v10_5 w12 =>
  XU Try.prog (Instr.storeAt 186 v10_5 v9_18) w12 fun w13 =>
  X Try.prog (Builtin.len_ #[79] 3 #[(ρ1 1)]) w13 fun v11_21 w14 =>
  X Try.prog (binOp .lss 3 (ρ1 14) v11_21) w14 fun v12_22 w15 =>
  condS v12_22 (
  X Try.prog (Instr.indexAt 79 (ρ1 1) (ρ1 14)) w15 fun v13_25 w16 =>
  X Try.prog (Instr.loadAt 3 v13_25) w16 fun v14_26 w17 =>
  X Try.prog (Builtin.min_ #[3, 3] 3 #[v14_26, (.int .i64 128)]) w17 fun v15_27 w18 =>
  X Try.prog (Builtin.max_ #[3, 3] 3 #[(.int .i64 0), v15_27]) w18 fun v16_28 w19 =>
  ∃ R, Frame? R ∧
  XP Try.prog (nilS (ρ1 0)) (drewW w19) fun v17_30 w20 =>
  XP Try.prog (Instr.fieldAt 183 v17_30 1) w20 fun v18_31 w21 =>
  XR Try.prog R (Instr.loadAt 180 v18_31) w21 fun v19_32 w22 =>
  XP Try.prog (Instr.fieldAt 186 v10_5 0) w22 fun v20_33 w23 =>
  XR Try.prog R (Instr.loadAt 3 v20_33) w23 fun v21_34 w24 =>
  XP Try.prog (Instr.indexAt 180 v19_32 v21_34) w24 fun v22_35 w25 =>
  XP Try.prog (Instr.sliceAt 184 v22_35 none (some v16_28) none) w25 fun v23_37 w26 =>
  XP Try.prog (Instr.fieldAt 186 v10_5 1) w26 fun v24_38 w27 =>
  XP Try.prog (Instr.sliceAt 184 v24_38 none (some v16_28) none) w27 fun v25_40 w28 =>
  X Try.prog (Builtin.copy_ #[27, 27] 3 #[v23_37, v25_40]) w28 fun v26_41 w29 =>
  R w28 w29 ∧
  J2 (upds ρ1 [(41, v26_41), (40, v25_40), (39, v16_28), (38, v24_38), (37, v23_37), (36, v16_28), (35, v22_35), (34, v21_34), (33, v20_33), (32, v19_32), (31, v18_31), (30, v17_30), (29, (ρ1 0)), (6, v16_28), (28, v16_28), (27, v15_27), (26, v14_26), (25, v13_25), (24, (ρ1 14)), (23, (ρ1 1)), (22, v12_22), (21, v11_21), (20, (ρ1 1)), (19, (ρ1 14)), (4, (ρ1 14)), (5, v10_5), (18, v9_18), (17, v8_17), (16, (ρ1 14)), (15, v6_15)]) w29) (
  J2 (upds ρ1 [(22, v12_22), (21, v11_21), (20, (ρ1 1)), (19, (ρ1 14)), (4, (ρ1 14)), (5, v10_5), (18, v9_18), (17, v8_17), (16, (ρ1 14)), (15, v6_15)]) w15)) (
  Q1 (.exit 0) (upds ρ1 [(15, v6_15)]) w7)) (inBlockS 0 (thenS (fun ρ3 w30 =>
  ∃ R, Frame? R ∧
  XP Try.prog (nilS (ρ3 0)) (drewW w30) fun v27_44 w31 =>
  XP Try.prog (Instr.fieldAt 183 v27_44 0) w31 fun v28_45 w32 =>
  XR Try.prog R (Instr.loadAt 180 v28_45) w32 fun v29_46 w33 =>
  XP Try.prog (nilS (ρ3 0)) w33 fun v30_48 w34 =>
  XP Try.prog (Instr.fieldAt 183 v30_48 1) w34 fun v31_49 w35 =>
  XR Try.prog R (Instr.loadAt 180 v31_49) w35 fun v32_50 w36 =>
  X Try.prog (Builtin.copy_ #[180, 180] 3 #[v29_46, v32_50]) w36 fun v33_51 w37 =>
  X Try.prog (nilS (ρ3 0)) w37 fun v34_55 w38 =>
  X Try.prog (Instr.fieldAt 183 v34_55 2) w38 fun v35_56 w39 =>
  XU Try.prog (Instr.storeAt 181 v35_56 (.slice none 0 0)) w39 fun w40 =>
  X Try.prog (nilS (ρ3 0)) w40 fun v36_57 w41 =>
  X Try.prog (Instr.fieldAt 183 v36_57 3) w41 fun v37_58 w42 =>
  XU Try.prog (Instr.storeAt 4 v37_58 (.bool false)) w42 fun w43 =>
  X Try.prog (nilS (ρ3 0)) w43 fun v38_59 w44 =>
  X Try.prog (Instr.fieldAt 183 v38_59 4) w44 fun v39_60 w45 =>
  XU Try.prog (Instr.storeAt 3 v39_60 (.int .i64 (-1))) w45 fun w46 =>
  K (.tuple #[]) w46) (retS Try.prog (Try.f72).results K))) (upds (env0 #[x0, x1]) [(14, (.int .i64 0)), (13, v5_13), (12, v4_12), (11, v3_11), (10, v2_10), (9, x0), (8, v1_8), (7, x0)]) w5)

theorem eq_disk_Disk_Crash (x0 x1 : Value) (w : World) (K : Value → World → Prop) :
    sh Try.prog (Try.f72.body.getD .skip) (retS Try.prog Try.f72.results K) (env0 #[x0, x1]) w = B_disk_Disk_Crash x0 x1 w K := by kernel_rfl

theorem call_disk_Disk_Crash (x0 x1 : Value) (w : World) (K : Value → World → Prop) (h : B_disk_Disk_Crash x0 x1 w K) : CALL Try.prog 72 #[x0, x1] w K :=
  call_of_eq (c := Try.f72.body.getD .skip) mixed Try.func72 (by kernel_rfl) (by kernel_rfl) (by kernel_rfl) (Nat.le_of_ble_eq_true (by kernel_rfl)) (eq_disk_Disk_Crash x0 x1 w K) h

/-- (*cellarage/disk.Disk).Read -/
def B_disk_Disk_Read (x0 x1 : Value) (w : World) (K : Value → World → Prop) : Prop :=
  X Try.prog (binOpG .eql 74 (.tmp 7) (.const (.pointer none)) x0 (.pointer none)) w fun v1_8 w1 =>
  condS v1_8 (
  K (.tuple #[(.slice none 0 0), (.int .i64 2)]) w1) (
  X Try.prog (binOp .lss 3 x1 (.int .i64 0)) w1 fun v2_11 w2 =>
  gstep v2_11 false (fun w3 K => K x1 w3) w2 fun v3_13 w4 =>
  gstep v2_11 false (fun w5 K => K x0 w5) w4 fun v4_14 w6 =>
  gstep v2_11 false (fun w7 K => X Try.prog (nilS v4_14) w7 K) w6 fun v5_15 w8 =>
  gstep v2_11 false (fun w9 K => X Try.prog (Instr.fieldAt 183 v5_15 0) w9 K) w8 fun v6_16 w10 =>
  gstep v2_11 false (fun w11 K => X Try.prog (Instr.loadAt 180 v6_16) w11 K) w10 fun v7_17 w12 =>
  gstep v2_11 false (fun w13 K => X Try.prog (Builtin.len_ #[180] 3 #[v7_17]) w13 K) w12 fun v8_18 w14 =>
  gstep v2_11 false (fun w15 K => X Try.prog (binOp .geq 3 v3_13 v8_18) w15 K) w14 fun v9_19 w16 =>
  X Try.prog (pickS v2_11 (.bool true) v9_19) w16 fun v10_20 w17 =>
  condS v10_20 (
  K (.tuple #[(.slice none 0 0), (.int .i64 1)]) w17) (
  X Try.prog (nilS x0) w17 fun v11_23 w18 =>
  X Try.prog (Instr.fieldAt 183 v11_23 3) w18 fun v12_24 w19 =>
  X Try.prog (Instr.loadAt 4 v12_24) w19 fun v13_25 w20 =>
  condS v13_25 (
  K (.tuple #[(.slice none 0 0), (.int .i64 6)]) w20) (
  X Try.prog (nilS x0) w20 fun v14_27 w21 =>
  X Try.prog (Instr.fieldAt 183 v14_27 0) w21 fun v15_28 w22 =>
  X Try.prog (Instr.loadAt 180 v15_28) w22 fun v16_29 w23 =>
  X Try.prog (Instr.indexAt 180 v16_29 x1) w23 fun v17_31 w24 =>
  X Try.prog (Instr.sliceAt 184 v17_31 none none none) w24 fun v18_32 w25 =>
  CALL Try.prog 132 #[v18_32] w25 fun v19_33 w26 =>
  K (.tuple #[v19_33, (.int .i64 0)]) w26)))

theorem eq_disk_Disk_Read (x0 x1 : Value) (w : World) (K : Value → World → Prop) :
    sh Try.prog (Try.f73.body.getD .skip) (retS Try.prog Try.f73.results K) (env0 #[x0, x1]) w = B_disk_Disk_Read x0 x1 w K := by kernel_rfl

theorem call_disk_Disk_Read (x0 x1 : Value) (w : World) (K : Value → World → Prop) (h : B_disk_Disk_Read x0 x1 w K) : CALL Try.prog 73 #[x0, x1] w K :=
  call_of_eq (c := Try.f73.body.getD .skip) mixed Try.func73 (by kernel_rfl) (by kernel_rfl) (by kernel_rfl) (Nat.le_of_ble_eq_true (by kernel_rfl)) (eq_disk_Disk_Read x0 x1 w K) h

/-- (*cellarage/disk.Disk).Dead -/
def B_disk_Disk_Dead (x0 : Value) (w : World) (K : Value → World → Prop) : Prop :=
  X Try.prog (binOpG .neq 74 (.tmp 3) (.const (.pointer none)) x0 (.pointer none)) w fun v1_4 w1 =>
  gstep v1_4 true (fun w2 K => K x0 w2) w1 fun v2_6 w3 =>
  gstep v1_4 true (fun w4 K => X Try.prog (nilS v2_6) w4 K) w3 fun v3_7 w5 =>
  gstep v1_4 true (fun w6 K => X Try.prog (Instr.fieldAt 183 v3_7 3) w6 K) w5 fun v4_8 w7 =>
  gstep v1_4 true (fun w8 K => X Try.prog (Instr.loadAt 4 v4_8) w8 K) w7 fun v5_9 w9 =>
  X Try.prog (pickS v1_4 v5_9 (.bool false)) w9 fun v6_10 w10 =>
  K v6_10 w10

theorem eq_disk_Disk_Dead (x0 : Value) (w : World) (K : Value → World → Prop) :
    sh Try.prog (Try.f76.body.getD .skip) (retS Try.prog Try.f76.results K) (env0 #[x0]) w = B_disk_Disk_Dead x0 w K := by kernel_rfl

theorem call_disk_Disk_Dead (x0 : Value) (w : World) (K : Value → World → Prop) (h : B_disk_Disk_Dead x0 w K) : CALL Try.prog 76 #[x0] w K :=
  call_of_eq (c := Try.f76.body.getD .skip) mixed Try.func76 (by kernel_rfl) (by kernel_rfl) (by kernel_rfl) (Nat.le_of_ble_eq_true (by kernel_rfl)) (eq_disk_Disk_Dead x0 w K) h

/-- (*cellarage/disk.Disk).Pending -/
def B_disk_Disk_Pending (x0 : Value) (w : World) (K : Value → World → Prop) : Prop :=
  X Try.prog (binOpG .eql 74 (.tmp 3) (.const (.pointer none)) x0 (.pointer none)) w fun v1_4 w1 =>
  condS v1_4 (
  K (.int .i64 0) w1) (
  X Try.prog (nilS x0) w1 fun v2_6 w2 =>
  X Try.prog (Instr.fieldAt 183 v2_6 2) w2 fun v3_7 w3 =>
  X Try.prog (Instr.loadAt 181 v3_7) w3 fun v4_8 w4 =>
  X Try.prog (Builtin.len_ #[181] 3 #[v4_8]) w4 fun v5_9 w5 =>
  K v5_9 w5)

theorem eq_disk_Disk_Pending (x0 : Value) (w : World) (K : Value → World → Prop) :
    sh Try.prog (Try.f77.body.getD .skip) (retS Try.prog Try.f77.results K) (env0 #[x0]) w = B_disk_Disk_Pending x0 w K := by kernel_rfl

theorem call_disk_Disk_Pending (x0 : Value) (w : World) (K : Value → World → Prop) (h : B_disk_Disk_Pending x0 w K) : CALL Try.prog 77 #[x0] w K :=
  call_of_eq (c := Try.f77.body.getD .skip) mixed Try.func77 (by kernel_rfl) (by kernel_rfl) (by kernel_rfl) (Nat.le_of_ble_eq_true (by kernel_rfl)) (eq_disk_Disk_Pending x0 w K) h

/-- (*cellarage/disk.Disk).Cut -/
def B_disk_Disk_Cut (x0 x1 : Value) (w : World) (K : Value → World → Prop) : Prop :=
  X Try.prog (binOpG .neq 74 (.tmp 4) (.const (.pointer none)) x0 (.pointer none)) w fun v1_5 w1 =>
  gstep v1_5 true (fun w2 K => K x0 w2) w1 fun v2_7 w3 =>
  gstep v1_5 true (fun w4 K => X Try.prog (nilS v2_7) w4 K) w3 fun v3_8 w5 =>
  gstep v1_5 true (fun w6 K => X Try.prog (Instr.fieldAt 183 v3_8 3) w6 K) w5 fun v4_9 w7 =>
  gstep v1_5 true (fun w8 K => X Try.prog (Instr.loadAt 4 v4_9) w8 K) w7 fun v5_10 w9 =>
  gstep v1_5 true (fun w10 K => X Try.prog (Op.unary .not v5_10) w10 K) w9 fun v6_11 w11 =>
  X Try.prog (pickS v1_5 v6_11 (.bool false)) w11 fun v7_12 w12 =>
  condS v7_12 (
  X Try.prog (Builtin.max_ #[3, 3] 3 #[x1, (.int .i64 (-1))]) w12 fun v8_15 w13 =>
  X Try.prog (nilS x0) w13 fun v9_16 w14 =>
  X Try.prog (Instr.fieldAt 183 v9_16 4) w14 fun v10_17 w15 =>
  XU Try.prog (Instr.storeAt 3 v10_17 v8_15) w15 fun w16 =>
  K (.tuple #[]) w16) (
  K (.tuple #[]) w12)

theorem eq_disk_Disk_Cut (x0 x1 : Value) (w : World) (K : Value → World → Prop) :
    sh Try.prog (Try.f78.body.getD .skip) (retS Try.prog Try.f78.results K) (env0 #[x0, x1]) w = B_disk_Disk_Cut x0 x1 w K := by kernel_rfl

theorem call_disk_Disk_Cut (x0 x1 : Value) (w : World) (K : Value → World → Prop) (h : B_disk_Disk_Cut x0 x1 w K) : CALL Try.prog 78 #[x0, x1] w K :=
  call_of_eq (c := Try.f78.body.getD .skip) mixed Try.func78 (by kernel_rfl) (by kernel_rfl) (by kernel_rfl) (Nat.le_of_ble_eq_true (by kernel_rfl)) (eq_disk_Disk_Cut x0 x1 w K) h

/-- (*cellarage/disk.Disk).Done -/
def B_disk_Disk_Done (x0 : Value) (w : World) (K : Value → World → Prop) : Prop :=
  X Try.prog (binOpG .eql 74 (.tmp 3) (.const (.pointer none)) x0 (.pointer none)) w fun v1_4 w1 =>
  condS v1_4 (
  K (.int .i64 0) w1) (
  X Try.prog (nilS x0) w1 fun v2_6 w2 =>
  X Try.prog (Instr.fieldAt 183 v2_6 5) w2 fun v3_7 w3 =>
  X Try.prog (Instr.loadAt 3 v3_7) w3 fun v4_8 w4 =>
  K v4_8 w4)

theorem eq_disk_Disk_Done (x0 : Value) (w : World) (K : Value → World → Prop) :
    sh Try.prog (Try.f79.body.getD .skip) (retS Try.prog Try.f79.results K) (env0 #[x0]) w = B_disk_Disk_Done x0 w K := by kernel_rfl

theorem call_disk_Disk_Done (x0 : Value) (w : World) (K : Value → World → Prop) (h : B_disk_Disk_Done x0 w K) : CALL Try.prog 79 #[x0] w K :=
  call_of_eq (c := Try.f79.body.getD .skip) mixed Try.func79 (by kernel_rfl) (by kernel_rfl) (by kernel_rfl) (Nat.le_of_ble_eq_true (by kernel_rfl)) (eq_disk_Disk_Done x0 w K) h

/-- (*cellarage/disk.Disk).Copy -/
def B_disk_Disk_Copy (x0 : Value) (w : World) (K : Value → World → Prop) : Prop :=
  X Try.prog (binOpG .eql 74 (.tmp 4) (.const (.pointer none)) x0 (.pointer none)) w fun v1_5 w1 =>
  condS v1_5 (
  K (.pointer none) w1) (
  X Try.prog (nilS x0) w1 fun v2_7 w2 =>
  X Try.prog (Instr.loadAt 183 v2_7) w2 fun v3_8 w3 =>
  X Try.prog (Instr.alloc 183 true (.tuple #[])) w3 fun v4_3 w4 =>
  XU Try.prog (Instr.storeAt 183 v4_3 v3_8) w4 fun w5 =>
  ∃ R, Frame? R ∧
  XP Try.prog (nilS x0) (drewW w5) fun v5_10 w6 =>
  XP Try.prog (Instr.fieldAt 183 v5_10 0) w6 fun v6_11 w7 =>
  XR Try.prog R (Instr.loadAt 180 v6_11) w7 fun v7_12 w8 =>
  XP Try.prog (nilS x0) w8 fun v8_15 w9 =>
  XP Try.prog (Instr.fieldAt 183 v8_15 1) w9 fun v9_16 w10 =>
  XR Try.prog R (Instr.loadAt 180 v9_16) w10 fun v10_17 w11 =>
  XP Try.prog (nilS x0) w11 fun v11_20 w12 =>
  XP Try.prog (Instr.fieldAt 183 v11_20 2) w12 fun v12_21 w13 =>
  XR Try.prog R (Instr.loadAt 181 v12_21) w13 fun v13_22 w14 =>
  CALL Try.prog 134 #[v7_12] w14 fun v14_13 w15 =>
  R w14 w15 ∧
  CALL Try.prog 134 #[v10_17] w15 fun v15_18 w16 =>
  R w15 w16 ∧
  CALL Try.prog 135 #[v13_22] w16 fun v16_23 w17 =>
  R w16 w17 ∧
  XP Try.prog (Instr.fieldAt 183 v4_3 0) w17 fun v17_24 w18 =>
  XU Try.prog (Instr.storeAt 180 v17_24 v14_13) w18 fun w19 =>
  XP Try.prog (Instr.fieldAt 183 v4_3 1) w19 fun v18_25 w20 =>
  XU Try.prog (Instr.storeAt 180 v18_25 v15_18) w20 fun w21 =>
  XP Try.prog (Instr.fieldAt 183 v4_3 2) w21 fun v19_26 w22 =>
  XU Try.prog (Instr.storeAt 181 v19_26 v16_23) w22 fun w23 =>
  K v4_3 w23)

theorem eq_disk_Disk_Copy (x0 : Value) (w : World) (K : Value → World → Prop) :
    sh Try.prog (Try.f81.body.getD .skip) (retS Try.prog Try.f81.results K) (env0 #[x0]) w = B_disk_Disk_Copy x0 w K := by kernel_rfl

theorem call_disk_Disk_Copy (x0 : Value) (w : World) (K : Value → World → Prop) (h : B_disk_Disk_Copy x0 w K) : CALL Try.prog 81 #[x0] w K :=
  call_of_eq (c := Try.f81.body.getD .skip) mixed Try.func81 (by kernel_rfl) (by kernel_rfl) (by kernel_rfl) (Nat.le_of_ble_eq_true (by kernel_rfl)) (eq_disk_Disk_Copy x0 w K) h

/-- (*cellarage/disk.Disk).Size -/
def B_disk_Disk_Size (x0 : Value) (w : World) (K : Value → World → Prop) : Prop :=
  X Try.prog (binOpG .eql 74 (.tmp 3) (.const (.pointer none)) x0 (.pointer none)) w fun v1_4 w1 =>
  condS v1_4 (
  K (.int .i64 0) w1) (
  X Try.prog (nilS x0) w1 fun v2_6 w2 =>
  X Try.prog (Instr.fieldAt 183 v2_6 0) w2 fun v3_7 w3 =>
  X Try.prog (Instr.loadAt 180 v3_7) w3 fun v4_8 w4 =>
  X Try.prog (Builtin.len_ #[180] 3 #[v4_8]) w4 fun v5_9 w5 =>
  K v5_9 w5)

theorem eq_disk_Disk_Size (x0 : Value) (w : World) (K : Value → World → Prop) :
    sh Try.prog (Try.f84.body.getD .skip) (retS Try.prog Try.f84.results K) (env0 #[x0]) w = B_disk_Disk_Size x0 w K := by kernel_rfl

theorem call_disk_Disk_Size (x0 : Value) (w : World) (K : Value → World → Prop) (h : B_disk_Disk_Size x0 w K) : CALL Try.prog 84 #[x0] w K :=
  call_of_eq (c := Try.f84.body.getD .skip) mixed Try.func84 (by kernel_rfl) (by kernel_rfl) (by kernel_rfl) (Nat.le_of_ble_eq_true (by kernel_rfl)) (eq_disk_Disk_Size x0 w K) h

/-- (*cellarage/disk.Disk).powered -/
def B_disk_Disk_powered (x0 : Value) (w : World) (K : Value → World → Prop) : Prop :=
  joinS (fun ρ1 w1 =>
  X Try.prog (nilS (ρ1 0)) w1 fun v1_15 w2 =>
  X Try.prog (Instr.fieldAt 183 v1_15 3) w2 fun v2_16 w3 =>
  X Try.prog (Instr.loadAt 4 v2_16) w3 fun v3_17 w4 =>
  condS v3_17 (
  K (.int .i64 6) w4) (
  X Try.prog (nilS (ρ1 0)) w4 fun v4_19 w5 =>
  X Try.prog (Instr.fieldAt 183 v4_19 5) w5 fun v5_20 w6 =>
  X Try.prog (Instr.loadAt 3 v5_20) w6 fun v6_21 w7 =>
  X Try.prog (binOp .add 3 v6_21 (.int .i64 1)) w7 fun v7_22 w8 =>
  X Try.prog (nilS (ρ1 0)) w8 fun v8_23 w9 =>
  X Try.prog (Instr.fieldAt 183 v8_23 5) w9 fun v9_24 w10 =>
  XU Try.prog (Instr.storeAt 3 v9_24 v7_22) w10 fun w11 =>
  joinS (fun ρ2 w12 =>
  K (.int .i64 0) w12) fun J2 =>
  X Try.prog (nilS (ρ1 0)) w11 fun v10_26 w13 =>
  X Try.prog (Instr.fieldAt 183 v10_26 4) w13 fun v11_27 w14 =>
  X Try.prog (Instr.loadAt 3 v11_27) w14 fun v12_28 w15 =>
  X Try.prog (binOp .gtr 3 v12_28 (.int .i64 0)) w15 fun v13_29 w16 =>
  condS v13_29 (
  X Try.prog (nilS (ρ1 0)) w16 fun v14_31 w17 =>
  X Try.prog (Instr.fieldAt 183 v14_31 4) w17 fun v15_32 w18 =>
  X Try.prog (Instr.loadAt 3 v15_32) w18 fun v16_33 w19 =>
  X Try.prog (binOp .sub 3 v16_33 (.int .i64 1)) w19 fun v17_34 w20 =>
  X Try.prog (nilS (ρ1 0)) w20 fun v18_35 w21 =>
  X Try.prog (Instr.fieldAt 183 v18_35 4) w21 fun v19_36 w22 =>
  XU Try.prog (Instr.storeAt 3 v19_36 v17_34) w22 fun w23 =>
  J2 (upds ρ1 [(36, v19_36), (35, v18_35), (34, v17_34), (33, v16_33), (32, v15_32), (31, v14_31), (30, (ρ1 0)), (29, v13_29), (28, v12_28), (27, v11_27), (26, v10_26), (25, (ρ1 0)), (24, v9_24), (23, v8_23), (22, v7_22), (21, v6_21), (20, v5_20), (19, v4_19), (18, (ρ1 0)), (17, v3_17), (16, v2_16), (15, v1_15), (14, (ρ1 0))]) w23) (
  J2 (upds ρ1 [(29, v13_29), (28, v12_28), (27, v11_27), (26, v10_26), (25, (ρ1 0)), (24, v9_24), (23, v8_23), (22, v7_22), (21, v6_21), (20, v5_20), (19, v4_19), (18, (ρ1 0)), (17, v3_17), (16, v2_16), (15, v1_15), (14, (ρ1 0))]) w16))) fun J1 =>
  X Try.prog (nilS x0) w fun v20_4 w24 =>
  X Try.prog (Instr.fieldAt 183 v20_4 4) w24 fun v21_5 w25 =>
  X Try.prog (Instr.loadAt 3 v21_5) w25 fun v22_6 w26 =>
  X Try.prog (binOpG .eql 3 (.tmp 6) (.const (.int .i64 0)) v22_6 (.int .i64 0)) w26 fun v23_7 w27 =>
  condS v23_7 (
  X Try.prog (nilS x0) w27 fun v24_10 w28 =>
  X Try.prog (Instr.fieldAt 183 v24_10 3) w28 fun v25_11 w29 =>
  XU Try.prog (Instr.storeAt 4 v25_11 (.bool true)) w29 fun w30 =>
  X Try.prog (nilS x0) w30 fun v26_12 w31 =>
  X Try.prog (Instr.fieldAt 183 v26_12 4) w31 fun v27_13 w32 =>
  XU Try.prog (Instr.storeAt 3 v27_13 (.int .i64 (-1))) w32 fun w33 =>
  J1 (upds (env0 #[x0]) [(13, v27_13), (12, v26_12), (11, v25_11), (10, v24_10), (9, x0), (8, x0), (7, v23_7), (6, v22_6), (5, v21_5), (4, v20_4), (3, x0), (2, (.int .i64 0))]) w33) (
  J1 (upds (env0 #[x0]) [(7, v23_7), (6, v22_6), (5, v21_5), (4, v20_4), (3, x0), (2, (.int .i64 0))]) w27)

theorem eq_disk_Disk_powered (x0 : Value) (w : World) (K : Value → World → Prop) :
    sh Try.prog (Try.f131.body.getD .skip) (retS Try.prog Try.f131.results K) (env0 #[x0]) w = B_disk_Disk_powered x0 w K := by kernel_rfl

theorem call_disk_Disk_powered (x0 : Value) (w : World) (K : Value → World → Prop) (h : B_disk_Disk_powered x0 w K) : CALL Try.prog 131 #[x0] w K :=
  call_of_eq (c := Try.f131.body.getD .skip) mixed Try.func131 (by kernel_rfl) (by kernel_rfl) (by kernel_rfl) (Nat.le_of_ble_eq_true (by kernel_rfl)) (eq_disk_Disk_powered x0 w K) h

/-- slices.Clone[[]byte,byte] -/
def B_slices_Clone_byte (x0 : Value) (w : World) (K : Value → World → Prop) : Prop :=
  X Try.prog (binOpG .eql 27 (.tmp 3) (.const (.slice none 0 0)) x0 (.slice none 0 0)) w fun v1_4 w1 =>
  condS v1_4 (
  K (.slice none 0 0) w1) (
  X Try.prog (Instr.buildSlice 27 0 #[]) w1 fun v2_5 w2 =>
  X Try.prog (Builtin.append_ #[27, 27] 27 #[v2_5, x0]) w2 fun v3_7 w3 =>
  K v3_7 w3)

theorem eq_slices_Clone_byte (x0 : Value) (w : World) (K : Value → World → Prop) :
    sh Try.prog (Try.f132.body.getD .skip) (retS Try.prog Try.f132.results K) (env0 #[x0]) w = B_slices_Clone_byte x0 w K := by kernel_rfl

theorem call_slices_Clone_byte (x0 : Value) (w : World) (K : Value → World → Prop) (h : B_slices_Clone_byte x0 w K) : CALL Try.prog 132 #[x0] w K :=
  call_of_eq (c := Try.f132.body.getD .skip) mixed Try.func132 (by kernel_rfl) (by kernel_rfl) (by kernel_rfl) (Nat.le_of_ble_eq_true (by kernel_rfl)) (eq_slices_Clone_byte x0 w K) h

/-- slices.Clone[[]cellarage/disk.sector,cellarage/disk.sector] -/
def B_slices_Clone_disk_sector (x0 : Value) (w : World) (K : Value → World → Prop) : Prop :=
  X Try.prog (binOpG .eql 180 (.tmp 3) (.const (.slice none 0 0)) x0 (.slice none 0 0)) w fun v1_4 w1 =>
  condS v1_4 (
  K (.slice none 0 0) w1) (
  X Try.prog (Instr.buildSlice 180 0 #[]) w1 fun v2_5 w2 =>
  X Try.prog (Builtin.append_ #[180, 180] 180 #[v2_5, x0]) w2 fun v3_7 w3 =>
  K v3_7 w3)

theorem eq_slices_Clone_disk_sector (x0 : Value) (w : World) (K : Value → World → Prop) :
    sh Try.prog (Try.f134.body.getD .skip) (retS Try.prog Try.f134.results K) (env0 #[x0]) w = B_slices_Clone_disk_sector x0 w K := by kernel_rfl

theorem call_slices_Clone_disk_sector (x0 : Value) (w : World) (K : Value → World → Prop) (h : B_slices_Clone_disk_sector x0 w K) : CALL Try.prog 134 #[x0] w K :=
  call_of_eq (c := Try.f134.body.getD .skip) mixed Try.func134 (by kernel_rfl) (by kernel_rfl) (by kernel_rfl) (Nat.le_of_ble_eq_true (by kernel_rfl)) (eq_slices_Clone_disk_sector x0 w K) h

/-- slices.Clone[[]cellarage/disk.write,cellarage/disk.write] -/
def B_slices_Clone_disk_write (x0 : Value) (w : World) (K : Value → World → Prop) : Prop :=
  X Try.prog (binOpG .eql 181 (.tmp 3) (.const (.slice none 0 0)) x0 (.slice none 0 0)) w fun v1_4 w1 =>
  condS v1_4 (
  K (.slice none 0 0) w1) (
  X Try.prog (Instr.buildSlice 181 0 #[]) w1 fun v2_5 w2 =>
  X Try.prog (Builtin.append_ #[181, 181] 181 #[v2_5, x0]) w2 fun v3_7 w3 =>
  K v3_7 w3)

theorem eq_slices_Clone_disk_write (x0 : Value) (w : World) (K : Value → World → Prop) :
    sh Try.prog (Try.f135.body.getD .skip) (retS Try.prog Try.f135.results K) (env0 #[x0]) w = B_slices_Clone_disk_write x0 w K := by kernel_rfl

theorem call_slices_Clone_disk_write (x0 : Value) (w : World) (K : Value → World → Prop) (h : B_slices_Clone_disk_write x0 w K) : CALL Try.prog 135 #[x0] w K :=
  call_of_eq (c := Try.f135.body.getD .skip) mixed Try.func135 (by kernel_rfl) (by kernel_rfl) (by kernel_rfl) (Nat.le_of_ble_eq_true (by kernel_rfl)) (eq_slices_Clone_disk_write x0 w K) h

end Go.Proofs.Ytggggfcgnkllgaa
