import Derived.Test.YtggggfcgnkllgaaTy
import Derived.Test.YtggggfcgnkllgaaShSound
set_option linter.unusedVariables false
namespace Go.Proofs.Ytggggfcgnkllgaa
open Go Go.Sh
attribute [local irreducible] X XU XP XR CALL loopS resC closS
/-- cellarage/slot.lay -/
def B_slot_lay (x0 : Value) (w : World) (K : Value → World → Prop) : Prop :=
  X Try.prog (Instr.box 25 x0) w fun v1_1 w1 =>
  X Try.prog (Instr.alloc 169 true (.tuple #[])) w1 fun v2_2 w2 =>
  X Try.prog (Instr.alloc 169 true (.tuple #[])) w2 fun v3_3 w3 =>
  ∃ R, Frame? R ∧
  XP Try.prog (Instr.fieldAt 25 v1_1 0) (drewW w3) fun v4_5 w4 =>
  XR Try.prog R (Instr.loadAt 22 v4_5) w4 fun v5_6 w5 =>
  XP Try.prog (Instr.fieldAt 25 v1_1 1) w5 fun v6_8 w6 =>
  XR Try.prog R (Instr.loadAt 5 v6_8) w6 fun v7_9 w7 =>
  XR Try.prog R (convert 5 22 v7_9) w7 fun v8_10 w8 =>
  XP Try.prog (Instr.fieldAt 25 v1_1 2) w8 fun v9_12 w9 =>
  XR Try.prog R (Instr.loadAt 23 v9_12) w9 fun v10_13 w10 =>
  XR Try.prog R (convert 23 22 v10_13) w10 fun v11_14 w11 =>
  XP Try.prog (Instr.fieldAt 25 v1_1 3) w11 fun v12_16 w12 =>
  XR Try.prog R (Instr.loadAt 23 v12_16) w12 fun v13_17 w13 =>
  XR Try.prog R (convert 23 22 v13_17) w13 fun v14_18 w14 =>
  CALL Try.prog 46 #[(.slice none 0 0), v5_6, (.int .i64 8)] w14 fun v15_7 w15 =>
  R w14 w15 ∧
  CALL Try.prog 46 #[v15_7, v8_10, (.int .i64 1)] w15 fun v16_11 w16 =>
  R w15 w16 ∧
  CALL Try.prog 46 #[v16_11, v11_14, (.int .i64 4)] w16 fun v17_15 w17 =>
  R w16 w17 ∧
  CALL Try.prog 46 #[v17_15, v14_18, (.int .i64 4)] w17 fun v18_19 w18 =>
  R w17 w18 ∧
  X Try.prog (Instr.sliceAt 169 v3_3 none none none) w18 fun v19_20 w19 =>
  X Try.prog (Builtin.copy_ #[27, 27] 3 #[v19_20, v18_19]) w19 fun v20_22 w20 =>
  ∃ R, Frame? R ∧
  XP Try.prog (Instr.sliceAt 169 v3_3 (some (.int .i64 120)) none none) (drewW w20) fun v21_23 w21 =>
  XP Try.prog (Instr.sliceAt 27 v18_19 none (some (.int .i64 8)) none) w21 fun v22_25 w22 =>
  X Try.prog (Builtin.copy_ #[27, 27] 3 #[v21_23, v22_25]) w22 fun v23_26 w23 =>
  X Try.prog (Instr.loadAt 169 v3_3) w23 fun v24_27 w24 =>
  XU Try.prog (Instr.storeAt 169 v2_2 v24_27) w24 fun w25 =>
  resC Try.prog 169 v2_2 w25 fun r0 =>
  K r0 w25

theorem eq_slot_lay (x0 : Value) (w : World) (K : Value → World → Prop) :
    sh Try.prog (Try.f124.body.getD .skip) (retS Try.prog Try.f124.results K) (env0 #[x0]) w = B_slot_lay x0 w K := by kernel_rfl

theorem call_slot_lay (x0 : Value) (w : World) (K : Value → World → Prop) (h : B_slot_lay x0 w K) : CALL Try.prog 124 #[x0] w K :=
  call_of_eq (c := Try.f124.body.getD .skip) mixed Try.func124 (by kernel_rfl) (by kernel_rfl) (by kernel_rfl) (Nat.le_of_ble_eq_true (by kernel_rfl)) (eq_slot_lay x0 w K) h

/-- cellarage/slot.Lay -/
def B_slot_Lay (x0 : Value) (w : World) (K : Value → World → Prop) : Prop :=
  X Try.prog (Instr.box 25 x0) w fun v1_1 w1 =>
  X Try.prog (Instr.loadAt 25 v1_1) w1 fun v2_4 w2 =>
  CALL Try.prog 124 #[v2_4] w2 fun v3_5 w3 =>
  X Try.prog (Instr.alloc 169 true (.tuple #[])) w3 fun v4_3 w4 =>
  XU Try.prog (Instr.storeAt 169 v4_3 v3_5) w4 fun w5 =>
  X Try.prog (Instr.sliceAt 169 v4_3 none none none) w5 fun v5_6 w6 =>
  K v5_6 w6

theorem eq_slot_Lay (x0 : Value) (w : World) (K : Value → World → Prop) :
    sh Try.prog (Try.f42.body.getD .skip) (retS Try.prog Try.f42.results K) (env0 #[x0]) w = B_slot_Lay x0 w K := by kernel_rfl

theorem call_slot_Lay (x0 : Value) (w : World) (K : Value → World → Prop) (h : B_slot_Lay x0 w K) : CALL Try.prog 42 #[x0] w K :=
  call_of_eq (c := Try.f42.body.getD .skip) mixed Try.func42 (by kernel_rfl) (by kernel_rfl) (by kernel_rfl) (Nat.le_of_ble_eq_true (by kernel_rfl)) (eq_slot_Lay x0 w K) h

/-- cellarage/slot.Take -/
def B_slot_Take (x0 : Value) (w : World) (K : Value → World → Prop) : Prop :=
  X Try.prog (Instr.alloc 25 true (.tuple #[])) w fun v1_2 w1 =>
  X Try.prog (Builtin.len_ #[27] 3 #[x0]) w1 fun v2_11 w2 =>
  X Try.prog (binOpG .neq 3 (.tmp 11) (.const (.int .i64 128)) v2_11 (.int .i64 128)) w2 fun v3_12 w3 =>
  condS v3_12 (
  X Try.prog (Instr.build 25 #[]) w3 fun v4_13 w4 =>
  XU Try.prog (Instr.storeAt 25 v1_2 v4_13) w4 fun w5 =>
  resC Try.prog 25 v1_2 w5 fun r0 =>
  K (.tuple #[r0, (.int .i64 100)]) w5) (
  CALL Try.prog 58 #[x0] w3 fun v5_15 w6 =>
  CALL Try.prog 61 #[v5_15, (.int .i64 8)] w6 fun v6_17 w7 =>
  CALL Try.prog 61 #[v5_15, (.int .i64 1)] w7 fun v7_19 w8 =>
  CALL Try.prog 61 #[v5_15, (.int .i64 4)] w8 fun v8_21 w9 =>
  CALL Try.prog 61 #[v5_15, (.int .i64 4)] w9 fun v9_23 w10 =>
  X Try.prog (convert 22 5 v7_19) w10 fun v10_26 w11 =>
  X Try.prog (convert 22 23 v8_21) w11 fun v11_28 w12 =>
  X Try.prog (convert 22 23 v9_23) w12 fun v12_30 w13 =>
  X Try.prog (Instr.build 25 #[(0, v6_17), (1, v10_26), (2, v11_28), (3, v12_30)]) w13 fun v13_31 w14 =>
  X Try.prog (Instr.alloc 25 true (.tuple #[])) w14 fun v14_9 w15 =>
  XU Try.prog (Instr.storeAt 25 v14_9 v13_31) w15 fun w16 =>
  ∃ R, Frame? R ∧
  XP Try.prog (binOpG .eql 22 (.tmp 32) (.const (.int .u64 0)) v6_17 (.int .u64 0)) (drewW w16) fun v15_33 w17 =>
  gstep v15_33 false (fun w18 K => XR Try.prog R (Instr.loadAt 25 v14_9) w18 K) w17 fun v16_35 w19 =>
  gstep v15_33 false (fun w20 K => K x0 w20) w19 fun v17_37 w21 =>
  gstep v15_33 false (fun w22 K => XP Try.prog (Instr.arrayAt 169 v17_37) w22 K) w21 fun v18_38 w23 =>
  gstep v15_33 false (fun w24 K => XR Try.prog R (Instr.loadAt 169 v18_38) w24 K) w23 fun v19_39 w25 =>
  gstep v15_33 false (fun w26 K => CALL Try.prog 124 #[v16_35] w26 K) w25 fun v20_36 w27 =>
  R w25 w27 ∧
  gstep v15_33 false (fun w28 K => XP Try.prog (binOpG .neq 169 (.tmp 36) (.tmp 39) v20_36 v19_39) w28 K) w27 fun v21_40 w29 =>
  XP Try.prog (pickS v15_33 (.bool true) v21_40) w29 fun v22_41 w30 =>
  condS v22_41 (
  X Try.prog (Instr.build 25 #[]) w30 fun v23_42 w31 =>
  XU Try.prog (Instr.storeAt 25 v1_2 v23_42) w31 fun w32 =>
  resC Try.prog 25 v1_2 w32 fun r0 =>
  K (.tuple #[r0, (.int .i64 100)]) w32) (
  X Try.prog (Instr.loadAt 25 v14_9) w30 fun v24_43 w33 =>
  XU Try.prog (Instr.storeAt 25 v1_2 v24_43) w33 fun w34 =>
  resC Try.prog 25 v1_2 w34 fun r0 =>
  K (.tuple #[r0, (.int .i64 0)]) w34))

theorem eq_slot_Take (x0 : Value) (w : World) (K : Value → World → Prop) :
    sh Try.prog (Try.f44.body.getD .skip) (retS Try.prog Try.f44.results K) (env0 #[x0]) w = B_slot_Take x0 w K := by kernel_rfl

theorem call_slot_Take (x0 : Value) (w : World) (K : Value → World → Prop) (h : B_slot_Take x0 w K) : CALL Try.prog 44 #[x0] w K :=
  call_of_eq (c := Try.f44.body.getD .skip) mixed Try.func44 (by kernel_rfl) (by kernel_rfl) (by kernel_rfl) (Nat.le_of_ble_eq_true (by kernel_rfl)) (eq_slot_Take x0 w K) h

/-- cellarage/slot.Newer -/
def B_slot_Newer (x0 x1 : Value) (w : World) (K : Value → World → Prop) : Prop :=
  X Try.prog (Instr.alloc 25 true (.tuple #[])) w fun v1_4 w1 =>
  X Try.prog (Instr.alloc 25 true (.tuple #[])) w1 fun v2_7 w2 =>
  X Try.prog (Instr.buildSlice 70 2 #[(0, x0), (1, x1)]) w2 fun v3_15 w3 =>
  X Try.prog (Builtin.len_ #[70] 3 #[v3_15]) w3 fun v4_16 w4 =>
  loopS (fun Q1 ρ1 w5 =>
  X Try.prog (binOp .lss 3 (ρ1 17) (ρ1 16)) w5 fun v5_18 w6 =>
  condS v5_18 (
  joinS (fun ρ2 w7 =>
  X Try.prog (binOp .add 3 (ρ2 17) (.int .i64 1)) w7 fun v6_38 w8 =>
  Q1 .normal (upds ρ2 [(17, v6_38), (38, v6_38)]) w8) fun J2 =>
  X Try.prog (Instr.indexAt 70 (ρ1 15) (ρ1 17)) w6 fun v7_20 w9 =>
  X Try.prog (Instr.loadAt 27 v7_20) w9 fun v8_21 w10 =>
  CALL Try.prog 44 #[v8_21] w10 fun v9_24 w11 =>
  X Try.prog (Instr.extract v9_24 0) w11 fun v10_25 w12 =>
  X Try.prog (Instr.extract v9_24 1) w12 fun v11_26 w13 =>
  X Try.prog (Instr.alloc 25 true (.tuple #[])) w13 fun v12_11 w14 =>
  XU Try.prog (Instr.storeAt 25 v12_11 v10_25) w14 fun w15 =>
  X Try.prog (binOpG .eql 30 (.tmp 27) (.const (.int .i64 0)) v11_26 (.int .i64 0)) w15 fun v13_28 w16 =>
  gstep v13_28 true (fun w17 K => X Try.prog (Instr.fieldAt 25 v12_11 0) w17 K) w16 fun v14_30 w18 =>
  gstep v13_28 true (fun w19 K => X Try.prog (Instr.loadAt 22 v14_30) w19 K) w18 fun v15_31 w20 =>
  gstep v13_28 true (fun w21 K => X Try.prog (Instr.fieldAt 25 (ρ1 7) 0) w21 K) w20 fun v16_32 w22 =>
  gstep v13_28 true (fun w23 K => X Try.prog (Instr.loadAt 22 v16_32) w23 K) w22 fun v17_33 w24 =>
  gstep v13_28 true (fun w25 K => X Try.prog (binOp .gtr 22 v15_31 v17_33) w25 K) w24 fun v18_34 w26 =>
  X Try.prog (pickS v13_28 v18_34 (.bool false)) w26 fun v19_35 w27 =>
  condS v19_35 (
  X Try.prog (Instr.loadAt 25 v12_11) w27 fun v20_36 w28 =>
  XU Try.prog (Instr.storeAt 25 (ρ1 7) v20_36) w28 fun w29 =>
  J2 (upds ρ1 [(8, (ρ1 17)), (37, (ρ1 17)), (36, v20_36), (35, v19_35), (34, v18_34), (33, v17_33), (32, v16_32), (31, v15_31), (30, v14_30), (29, v13_28), (28, v13_28), (27, v11_26), (12, v11_26), (11, v12_11), (26, v11_26), (25, v10_25), (22, v9_24), (24, v9_24), (23, v8_21), (10, v8_21), (9, (ρ1 17)), (21, v8_21), (20, v7_20), (19, (ρ1 17)), (18, v5_18)]) w29) (
  J2 (upds ρ1 [(35, v19_35), (34, v18_34), (33, v17_33), (32, v16_32), (31, v15_31), (30, v14_30), (29, v13_28), (28, v13_28), (27, v11_26), (12, v11_26), (11, v12_11), (26, v11_26), (25, v10_25), (22, v9_24), (24, v9_24), (23, v8_21), (10, v8_21), (9, (ρ1 17)), (21, v8_21), (20, v7_20), (19, (ρ1 17)), (18, v5_18)]) w27)) (
  Q1 (.exit 0) (upds ρ1 [(18, v5_18)]) w6)) (inBlockS 0 (thenS (fun ρ3 w30 =>
  X Try.prog (Instr.fieldAt 25 (ρ3 7) 0) w30 fun v21_39 w31 =>
  X Try.prog (Instr.loadAt 22 v21_39) w31 fun v22_40 w32 =>
  X Try.prog (binOpG .eql 22 (.tmp 40) (.const (.int .u64 0)) v22_40 (.int .u64 0)) w32 fun v23_41 w33 =>
  condS v23_41 (
  X Try.prog (Instr.build 25 #[]) w33 fun v24_42 w34 =>
  XU Try.prog (Instr.storeAt 25 (ρ3 4) v24_42) w34 fun w35 =>
  resC Try.prog 25 (ρ3 4) w35 fun r0 =>
  K (.tuple #[r0, (.int .i64 0), (.int .i64 100)]) w35) (
  X Try.prog (Instr.loadAt 25 (ρ3 7)) w33 fun v25_43 w36 =>
  XU Try.prog (Instr.storeAt 25 (ρ3 4) v25_43) w36 fun w37 =>
  resC Try.prog 25 (ρ3 4) w37 fun r0 =>
  K (.tuple #[r0, (ρ3 8), (.int .i64 0)]) w37)) (retS Try.prog (Try.f48).results K))) (upds (env0 #[x0, x1]) [(17, (.int .i64 0)), (16, v4_16), (15, v3_15), (14, x1), (13, x0), (8, (.int .i64 0)), (7, v2_7), (6, (.int .i64 0)), (5, (.int .i64 0)), (4, v1_4)]) w4

theorem eq_slot_Newer (x0 x1 : Value) (w : World) (K : Value → World → Prop) :
    sh Try.prog (Try.f48.body.getD .skip) (retS Try.prog Try.f48.results K) (env0 #[x0, x1]) w = B_slot_Newer x0 x1 w K := by kernel_rfl

theorem call_slot_Newer (x0 x1 : Value) (w : World) (K : Value → World → Prop) (h : B_slot_Newer x0 x1 w K) : CALL Try.prog 48 #[x0, x1] w K :=
  call_of_eq (c := Try.f48.body.getD .skip) mixed Try.func48 (by kernel_rfl) (by kernel_rfl) (by kernel_rfl) (Nat.le_of_ble_eq_true (by kernel_rfl)) (eq_slot_Newer x0 x1 w K) h

/-- cellarage/cellarageref10.Lay -/
def B_ref10_Lay (x0 : Value) (w : World) (K : Value → World → Prop) : Prop :=
  X Try.prog (Instr.box 25 x0) w fun v1_1 w1 =>
  X Try.prog (Instr.fieldAt 25 v1_1 0) w1 fun v2_4 w2 =>
  X Try.prog (Instr.loadAt 22 v2_4) w2 fun v3_5 w3 =>
  CALL Try.prog 125 #[v3_5, (.int .i64 8)] w3 fun v4_6 w4 =>
  X Try.prog (Instr.fieldAt 25 v1_1 1) w4 fun v5_8 w5 =>
  X Try.prog (Instr.loadAt 5 v5_8) w5 fun v6_9 w6 =>
  X Try.prog (Instr.buildSlice 27 1 #[(0, v6_9)]) w6 fun v7_10 w7 =>
  X Try.prog (Builtin.append_ #[27, 27] 27 #[v4_6, v7_10]) w7 fun v8_11 w8 =>
  X Try.prog (Instr.fieldAt 25 v1_1 2) w8 fun v9_13 w9 =>
  X Try.prog (Instr.loadAt 23 v9_13) w9 fun v10_14 w10 =>
  X Try.prog (convert 23 22 v10_14) w10 fun v11_15 w11 =>
  CALL Try.prog 125 #[v11_15, (.int .i64 4)] w11 fun v12_16 w12 =>
  X Try.prog (Builtin.append_ #[27, 27] 27 #[v8_11, v12_16]) w12 fun v13_17 w13 =>
  X Try.prog (Instr.fieldAt 25 v1_1 3) w13 fun v14_19 w14 =>
  X Try.prog (Instr.loadAt 23 v14_19) w14 fun v15_20 w15 =>
  X Try.prog (convert 23 22 v15_20) w15 fun v16_21 w16 =>
  CALL Try.prog 125 #[v16_21, (.int .i64 4)] w16 fun v17_22 w17 =>
  X Try.prog (Builtin.append_ #[27, 27] 27 #[v13_17, v17_22]) w17 fun v18_23 w18 =>
  loopS (fun Q1 ρ1 w19 =>
  X Try.prog (Builtin.len_ #[27] 3 #[(ρ1 3)]) w19 fun v19_25 w20 =>
  X Try.prog (binOp .lss 3 v19_25 (.int .i64 120)) w20 fun v20_26 w21 =>
  condS v20_26 (
  X Try.prog (Instr.buildSlice 27 1 #[(0, (.int .u8 0))]) w21 fun v21_28 w22 =>
  X Try.prog (Builtin.append_ #[27, 27] 27 #[(ρ1 3), v21_28]) w22 fun v22_29 w23 =>
  Q1 .normal (upds ρ1 [(3, v22_29), (29, v22_29), (28, v21_28), (27, (ρ1 3)), (26, v20_26), (25, v19_25), (24, (ρ1 3))]) w23) (
  Q1 (.exit 0) (upds ρ1 [(26, v20_26), (25, v19_25), (24, (ρ1 3))]) w21)) (inBlockS 0 (thenS (fun ρ2 w24 =>
  X Try.prog (Instr.fieldAt 25 (ρ2 1) 0) w24 fun v23_31 w25 =>
  X Try.prog (Instr.loadAt 22 v23_31) w25 fun v24_32 w26 =>
  CALL Try.prog 125 #[v24_32, (.int .i64 8)] w26 fun v25_33 w27 =>
  X Try.prog (Builtin.append_ #[27, 27] 27 #[(ρ2 3), v25_33]) w27 fun v26_34 w28 =>
  K v26_34 w28) (retS Try.prog (Try.f43).results K))) (upds (env0 #[x0]) [(3, v18_23), (23, v18_23), (22, v17_22), (21, v16_21), (20, v15_20), (19, v14_19), (18, v13_17), (3, v13_17), (17, v13_17), (16, v12_16), (15, v11_15), (14, v10_14), (13, v9_13), (12, v8_11), (3, v8_11), (11, v8_11), (10, v7_10), (9, v6_9), (8, v5_8), (7, v4_6), (3, v4_6), (6, v4_6), (5, v3_5), (4, v2_4), (2, (.slice none 0 0)), (1, v1_1)]) w18

theorem eq_ref10_Lay (x0 : Value) (w : World) (K : Value → World → Prop) :
    sh Try.prog (Try.f43.body.getD .skip) (retS Try.prog Try.f43.results K) (env0 #[x0]) w = B_ref10_Lay x0 w K := by kernel_rfl

theorem call_ref10_Lay (x0 : Value) (w : World) (K : Value → World → Prop) (h : B_ref10_Lay x0 w K) : CALL Try.prog 43 #[x0] w K :=
  call_of_eq (c := Try.f43.body.getD .skip) mixed Try.func43 (by kernel_rfl) (by kernel_rfl) (by kernel_rfl) (Nat.le_of_ble_eq_true (by kernel_rfl)) (eq_ref10_Lay x0 w K) h

/-- cellarage/cellarageref10.Take -/
def B_ref10_Take (x0 : Value) (w : World) (K : Value → World → Prop) : Prop :=
  X Try.prog (Instr.alloc 25 true (.tuple #[])) w fun v1_2 w1 =>
  X Try.prog (Instr.build 57 #[(0, x0)]) w1 fun v2_7 w2 =>
  X Try.prog (Instr.alloc 57 true (.tuple #[])) w2 fun v3_4 w3 =>
  XU Try.prog (Instr.storeAt 57 v3_4 v2_7) w3 fun w4 =>
  CALL Try.prog 62 #[v3_4, (.int .i64 8)] w4 fun v4_8 w5 =>
  X Try.prog (Instr.build 25 #[(0, v4_8)]) w5 fun v5_9 w6 =>
  X Try.prog (Instr.alloc 25 true (.tuple #[])) w6 fun v6_5 w7 =>
  XU Try.prog (Instr.storeAt 25 v6_5 v5_9) w7 fun w8 =>
  CALL Try.prog 62 #[v3_4, (.int .i64 1)] w8 fun v7_10 w9 =>
  X Try.prog (convert 22 5 v7_10) w9 fun v8_11 w10 =>
  X Try.prog (Instr.fieldAt 25 v6_5 1) w10 fun v9_12 w11 =>
  XU Try.prog (Instr.storeAt 5 v9_12 v8_11) w11 fun w12 =>
  CALL Try.prog 62 #[v3_4, (.int .i64 4)] w12 fun v10_13 w13 =>
  X Try.prog (convert 22 23 v10_13) w13 fun v11_14 w14 =>
  X Try.prog (Instr.fieldAt 25 v6_5 2) w14 fun v12_15 w15 =>
  XU Try.prog (Instr.storeAt 23 v12_15 v11_14) w15 fun w16 =>
  CALL Try.prog 62 #[v3_4, (.int .i64 4)] w16 fun v13_16 w17 =>
  X Try.prog (convert 22 23 v13_16) w17 fun v14_17 w18 =>
  X Try.prog (Instr.fieldAt 25 v6_5 3) w18 fun v15_18 w19 =>
  XU Try.prog (Instr.storeAt 23 v15_18 v14_17) w19 fun w20 =>
  ∃ R, Frame? R ∧
  XP Try.prog (Instr.fieldAt 25 v6_5 0) (drewW w20) fun v16_19 w21 =>
  XR Try.prog R (Instr.loadAt 22 v16_19) w21 fun v17_20 w22 =>
  XP Try.prog (binOpG .eql 22 (.tmp 20) (.const (.int .u64 0)) v17_20 (.int .u64 0)) w22 fun v18_21 w23 =>
  gstep v18_21 false (fun w24 K => XR Try.prog R (Instr.loadAt 25 v6_5) w24 K) w23 fun v19_23 w25 =>
  gstep v18_21 false (fun w26 K => K x0 w26) w25 fun v20_26 w27 =>
  gstep v18_21 false (fun w28 K => XR Try.prog R (convert 27 9 v20_26) w28 K) w27 fun v21_27 w29 =>
  gstep v18_21 false (fun w30 K => CALL Try.prog 43 #[v19_23] w30 K) w29 fun v22_24 w31 =>
  R w29 w31 ∧
  gstep v18_21 false (fun w32 K => XR Try.prog R (convert 27 9 v22_24) w32 K) w31 fun v23_25 w33 =>
  gstep v18_21 false (fun w34 K => XP Try.prog (binOpG .neq 9 (.tmp 25) (.tmp 27) v23_25 v21_27) w34 K) w33 fun v24_28 w35 =>
  XP Try.prog (pickS v18_21 (.bool true) v24_28) w35 fun v25_29 w36 =>
  condS v25_29 (
  X Try.prog (Instr.build 25 #[]) w36 fun v26_30 w37 =>
  XU Try.prog (Instr.storeAt 25 v1_2 v26_30) w37 fun w38 =>
  resC Try.prog 25 v1_2 w38 fun r0 =>
  K (.tuple #[r0, (.int .i64 100)]) w38) (
  X Try.prog (Instr.loadAt 25 v6_5) w36 fun v27_31 w39 =>
  XU Try.prog (Instr.storeAt 25 v1_2 v27_31) w39 fun w40 =>
  resC Try.prog 25 v1_2 w40 fun r0 =>
  K (.tuple #[r0, (.int .i64 0)]) w40)

theorem eq_ref10_Take (x0 : Value) (w : World) (K : Value → World → Prop) :
    sh Try.prog (Try.f45.body.getD .skip) (retS Try.prog Try.f45.results K) (env0 #[x0]) w = B_ref10_Take x0 w K := by kernel_rfl

theorem call_ref10_Take (x0 : Value) (w : World) (K : Value → World → Prop) (h : B_ref10_Take x0 w K) : CALL Try.prog 45 #[x0] w K :=
  call_of_eq (c := Try.f45.body.getD .skip) mixed Try.func45 (by kernel_rfl) (by kernel_rfl) (by kernel_rfl) (Nat.le_of_ble_eq_true (by kernel_rfl)) (eq_ref10_Take x0 w K) h

/-- cellarage/cellarageref10.Newer -/
def B_ref10_Newer (x0 x1 : Value) (w : World) (K : Value → World → Prop) : Prop :=
  X Try.prog (Instr.alloc 25 true (.tuple #[])) w fun v1_4 w1 =>
  CALL Try.prog 45 #[x0] w1 fun v2_13 w2 =>
  X Try.prog (Instr.extract v2_13 0) w2 fun v3_14 w3 =>
  X Try.prog (Instr.extract v2_13 1) w3 fun v4_15 w4 =>
  X Try.prog (Instr.alloc 25 true (.tuple #[])) w4 fun v5_7 w5 =>
  XU Try.prog (Instr.storeAt 25 v5_7 v3_14) w5 fun w6 =>
  CALL Try.prog 45 #[x1] w6 fun v6_18 w7 =>
  X Try.prog (Instr.extract v6_18 0) w7 fun v7_19 w8 =>
  X Try.prog (Instr.extract v6_18 1) w8 fun v8_20 w9 =>
  X Try.prog (Instr.alloc 25 true (.tuple #[])) w9 fun v9_9 w10 =>
  XU Try.prog (Instr.storeAt 25 v9_9 v7_19) w10 fun w11 =>
  X Try.prog (binOpG .neq 30 (.tmp 21) (.const (.int .i64 0)) v4_15 (.int .i64 0)) w11 fun v10_22 w12 =>
  gstep v10_22 true (fun w13 K => K v8_20 w13) w12 fun v11_24 w14 =>
  gstep v10_22 true (fun w15 K => X Try.prog (binOpG .neq 30 (.tmp 24) (.const (.int .i64 0)) v11_24 (.int .i64 0)) w15 K) w14 fun v12_25 w16 =>
  X Try.prog (pickS v10_22 v12_25 (.bool false)) w16 fun v13_26 w17 =>
  condS v13_26 (
  X Try.prog (Instr.build 25 #[]) w17 fun v14_27 w18 =>
  XU Try.prog (Instr.storeAt 25 v1_4 v14_27) w18 fun w19 =>
  resC Try.prog 25 v1_4 w19 fun r0 =>
  K (.tuple #[r0, (.int .i64 0), (.int .i64 100)]) w19) (
  X Try.prog (binOpG .neq 30 (.tmp 28) (.const (.int .i64 0)) v4_15 (.int .i64 0)) w17 fun v15_29 w20 =>
  gstep v15_29 false (fun w21 K => K v8_20 w21) w20 fun v16_31 w22 =>
  gstep v15_29 false (fun w23 K => X Try.prog (binOpG .eql 30 (.tmp 31) (.const (.int .i64 0)) v16_31 (.int .i64 0)) w23 K) w22 fun v17_32 w24 =>
  gstep v15_29 false (fun w25 K => K v17_32 w25) w24 fun v18_33 w26 =>
  gstep v18_33 true (fun w27 K => X Try.prog (Instr.fieldAt 25 v9_9 0) w27 K) w26 fun v19_34 w28 =>
  gstep v18_33 true (fun w29 K => X Try.prog (Instr.loadAt 22 v19_34) w29 K) w28 fun v20_35 w30 =>
  gstep v18_33 true (fun w31 K => X Try.prog (Instr.fieldAt 25 v5_7 0) w31 K) w30 fun v21_36 w32 =>
  gstep v18_33 true (fun w33 K => X Try.prog (Instr.loadAt 22 v21_36) w33 K) w32 fun v22_37 w34 =>
  gstep v18_33 true (fun w35 K => X Try.prog (binOp .gtr 22 v20_35 v22_37) w35 K) w34 fun v23_38 w36 =>
  gstep v15_29 false (fun w37 K => X Try.prog (pickS v18_33 v23_38 (.bool false)) w37 K) w36 fun v24_39 w38 =>
  X Try.prog (pickS v15_29 (.bool true) v24_39) w38 fun v25_40 w39 =>
  condS v25_40 (
  X Try.prog (Instr.loadAt 25 v9_9) w39 fun v26_41 w40 =>
  XU Try.prog (Instr.storeAt 25 v1_4 v26_41) w40 fun w41 =>
  resC Try.prog 25 v1_4 w41 fun r0 =>
  K (.tuple #[r0, (.int .i64 1), (.int .i64 0)]) w41) (
  X Try.prog (Instr.loadAt 25 v5_7) w39 fun v27_42 w42 =>
  XU Try.prog (Instr.storeAt 25 v1_4 v27_42) w42 fun w43 =>
  resC Try.prog 25 v1_4 w43 fun r0 =>
  K (.tuple #[r0, (.int .i64 0), (.int .i64 0)]) w43))

theorem eq_ref10_Newer (x0 x1 : Value) (w : World) (K : Value → World → Prop) :
    sh Try.prog (Try.f49.body.getD .skip) (retS Try.prog Try.f49.results K) (env0 #[x0, x1]) w = B_ref10_Newer x0 x1 w K := by kernel_rfl

theorem call_ref10_Newer (x0 x1 : Value) (w : World) (K : Value → World → Prop) (h : B_ref10_Newer x0 x1 w K) : CALL Try.prog 49 #[x0, x1] w K :=
  call_of_eq (c := Try.f49.body.getD .skip) mixed Try.func49 (by kernel_rfl) (by kernel_rfl) (by kernel_rfl) (Nat.le_of_ble_eq_true (by kernel_rfl)) (eq_ref10_Newer x0 x1 w K) h

end Go.Proofs.Ytggggfcgnkllgaa
