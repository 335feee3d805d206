import Derived.Test.YtggggfcgnkllgaaTy
import Derived.Test.YtggggfcgnkllgaaShSound
set_option linter.unusedVariables false
namespace Go.Proofs.Ytggggfcgnkllgaa
open Go Go.Sh
attribute [local irreducible] X XU XP XR CALL loopS resC closS
/-- cellarage/cellarageref12.New -/
def B_ref12_New (x0 x1 x2 x3 : Value) (w : World) (K : Value → World → Prop) : Prop :=
  X Try.prog (Instr.alloc 138 true (.tuple #[])) w fun v1_8 w1 =>
  X Try.prog (nilS x0) w1 fun v2_12 w2 =>
  X Try.prog (Instr.fieldAt 148 v2_12 0) w2 fun v3_13 w3 =>
  X Try.prog (Instr.loadAt 66 v3_13) w3 fun v4_14 w4 =>
  X Try.prog (Builtin.len_ #[66] 3 #[v4_14]) w4 fun v5_15 w5 =>
  X Try.prog (binOp .lss 3 x1 (.int .i64 0)) w5 fun v6_17 w6 =>
  gstep v6_17 false (fun w7 K => K x2 w7) w6 fun v7_19 w8 =>
  gstep v6_17 false (fun w9 K => X Try.prog (binOp .lss 3 v7_19 (.int .i64 1)) w9 K) w8 fun v8_20 w10 =>
  X Try.prog (pickS v6_17 (.bool true) v8_20) w10 fun v9_21 w11 =>
  gstep v9_21 false (fun w12 K => K x2 w12) w11 fun v10_23 w13 =>
  gstep v9_21 false (fun w14 K => X Try.prog (binOp .gtr 3 v10_23 (.int .i64 16384)) w14 K) w13 fun v11_24 w15 =>
  X Try.prog (pickS v9_21 (.bool true) v11_24) w15 fun v12_25 w16 =>
  gstep v12_25 false (fun w17 K => K x3 w17) w16 fun v13_27 w18 =>
  gstep v12_25 false (fun w19 K => X Try.prog (binOp .lss 3 v13_27 (.int .i64 0)) w19 K) w18 fun v14_28 w20 =>
  X Try.prog (pickS v12_25 (.bool true) v14_28) w20 fun v15_29 w21 =>
  gstep v15_29 false (fun w22 K => K x1 w22) w21 fun v16_31 w23 =>
  gstep v15_29 false (fun w24 K => K v5_15 w24) w23 fun v17_32 w25 =>
  gstep v15_29 false (fun w26 K => X Try.prog (binOp .gtr 3 v16_31 v17_32) w26 K) w25 fun v18_33 w27 =>
  X Try.prog (pickS v15_29 (.bool true) v18_33) w27 fun v19_34 w28 =>
  gstep v19_34 false (fun w29 K => K x3 w29) w28 fun v20_36 w30 =>
  gstep v19_34 false (fun w31 K => K v5_15 w31) w30 fun v21_37 w32 =>
  gstep v19_34 false (fun w33 K => K x1 w33) w32 fun v22_38 w34 =>
  gstep v19_34 false (fun w35 K => X Try.prog (binOp .sub 3 v21_37 v22_38) w35 K) w34 fun v23_39 w36 =>
  gstep v19_34 false (fun w37 K => K x2 w37) w36 fun v24_40 w38 =>
  gstep v19_34 false (fun w39 K => X Try.prog (binOp .quo 3 v23_39 v24_40) w39 K) w38 fun v25_41 w40 =>
  gstep v19_34 false (fun w41 K => X Try.prog (binOp .gtr 3 v20_36 v25_41) w41 K) w40 fun v26_42 w42 =>
  X Try.prog (pickS v19_34 (.bool true) v26_42) w42 fun v27_43 w43 =>
  condS v27_43 (
  X Try.prog (Instr.build 138 #[]) w43 fun v28_44 w44 =>
  XU Try.prog (Instr.storeAt 138 v1_8 v28_44) w44 fun w45 =>
  resC Try.prog 138 v1_8 w45 fun r0 =>
  K (.tuple #[r0, (.int .i64 1)]) w45) (
  X Try.prog (Instr.build 138 #[(0, x0), (1, x1), (2, x2), (3, x3)]) w43 fun v29_49 w46 =>
  XU Try.prog (Instr.storeAt 138 v1_8 v29_49) w46 fun w47 =>
  resC Try.prog 138 v1_8 w47 fun r0 =>
  K (.tuple #[r0, (.int .i64 0)]) w47)

theorem eq_ref12_New (x0 x1 x2 x3 : Value) (w : World) (K : Value → World → Prop) :
    sh Try.prog (Try.f104.body.getD .skip) (retS Try.prog Try.f104.results K) (env0 #[x0, x1, x2, x3]) w = B_ref12_New x0 x1 x2 x3 w K := by kernel_rfl

theorem call_ref12_New (x0 x1 x2 x3 : Value) (w : World) (K : Value → World → Prop) (h : B_ref12_New x0 x1 x2 x3 w K) : CALL Try.prog 104 #[x0, x1, x2, x3] w K :=
  call_of_eq (c := Try.f104.body.getD .skip) mixed Try.func104 (by kernel_rfl) (by kernel_rfl) (by kernel_rfl) (Nat.le_of_ble_eq_true (by kernel_rfl)) (eq_ref12_New x0 x1 x2 x3 w K) h

/-- (cellarage/cellarageref12.Vault).Room -/
def B_ref12_Vault_Room (x0 : Value) (w : World) (K : Value → World → Prop) : Prop :=
  X Try.prog (Instr.box 138 x0) w fun v1_1 w1 =>
  X Try.prog (Instr.fieldAt 138 v1_1 2) w1 fun v2_3 w2 =>
  X Try.prog (Instr.loadAt 3 v2_3) w2 fun v3_4 w3 =>
  X Try.prog (binOp .mul 3 (.int .i64 128) v3_4) w3 fun v4_5 w4 =>
  X Try.prog (binOp .sub 3 v4_5 (.int .i64 4)) w4 fun v5_6 w5 =>
  K v5_6 w5

theorem eq_ref12_Vault_Room (x0 : Value) (w : World) (K : Value → World → Prop) :
    sh Try.prog (Try.f105.body.getD .skip) (retS Try.prog Try.f105.results K) (env0 #[x0]) w = B_ref12_Vault_Room x0 w K := by kernel_rfl

theorem call_ref12_Vault_Room (x0 : Value) (w : World) (K : Value → World → Prop) (h : B_ref12_Vault_Room x0 w K) : CALL Try.prog 105 #[x0] w K :=
  call_of_eq (c := Try.f105.body.getD .skip) mixed Try.func105 (by kernel_rfl) (by kernel_rfl) (by kernel_rfl) (Nat.le_of_ble_eq_true (by kernel_rfl)) (eq_ref12_Vault_Room x0 w K) h

/-- (cellarage/cellarageref12.Vault).Put -/
def B_ref12_Vault_Put (x0 x1 x2 : Value) (w : World) (K : Value → World → Prop) : Prop :=
  X Try.prog (Instr.box 138 x0) w fun v1_3 w1 =>
  X Try.prog (binOp .lss 3 x1 (.int .i64 0)) w1 fun v2_11 w2 =>
  gstep v2_11 false (fun w3 K => K x1 w3) w2 fun v3_13 w4 =>
  gstep v2_11 false (fun w5 K => X Try.prog (Instr.fieldAt 138 v1_3 3) w5 K) w4 fun v4_14 w6 =>
  gstep v2_11 false (fun w7 K => X Try.prog (Instr.loadAt 3 v4_14) w7 K) w6 fun v5_15 w8 =>
  gstep v2_11 false (fun w9 K => X Try.prog (binOp .geq 3 v3_13 v5_15) w9 K) w8 fun v6_16 w10 =>
  X Try.prog (pickS v2_11 (.bool true) v6_16) w10 fun v7_17 w11 =>
  condS v7_17 (
  K (.int .i64 1) w11) (
  X Try.prog (Builtin.len_ #[9] 3 #[x2]) w11 fun v8_19 w12 =>
  X Try.prog (Instr.loadAt 138 v1_3) w12 fun v9_20 w13 =>
  CALL Try.prog 105 #[v9_20] w13 fun v10_21 w14 =>
  X Try.prog (binOp .gtr 3 v8_19 v10_21) w14 fun v11_22 w15 =>
  condS v11_22 (
  K (.int .i64 4) w15) (
  X Try.prog (Builtin.len_ #[9] 3 #[x2]) w15 fun v12_24 w16 =>
  X Try.prog (convert 3 22 v12_24) w16 fun v13_25 w17 =>
  CALL Try.prog 125 #[v13_25, (.int .i64 4)] w17 fun v14_26 w18 =>
  X Try.prog (convert 27 9 v14_26) w18 fun v15_27 w19 =>
  X Try.prog (binOp .add 9 v15_27 x2) w19 fun v16_29 w20 =>
  loopS (fun Q1 ρ1 w21 =>
  X Try.prog (Builtin.len_ #[9] 3 #[(ρ1 7)]) w21 fun v17_32 w22 =>
  X Try.prog (binOp .lss 3 (ρ1 8) v17_32) w22 fun v18_33 w23 =>
  condS v18_33 (
  ∃ R, Frame? R ∧
  XP Try.prog (Instr.fieldAt 138 (ρ1 3) 0) (drewW w23) fun v19_36 w24 =>
  XR Try.prog R (Instr.loadAt 92 v19_36) w24 fun v20_37 w25 =>
  XP Try.prog (Instr.fieldAt 138 (ρ1 3) 1) w25 fun v21_38 w26 =>
  XR Try.prog R (Instr.loadAt 3 v21_38) w26 fun v22_39 w27 =>
  XP Try.prog (Instr.fieldAt 138 (ρ1 3) 2) w27 fun v23_41 w28 =>
  XR Try.prog R (Instr.loadAt 3 v23_41) w28 fun v24_42 w29 =>
  XP Try.prog (binOp .mul 3 (ρ1 1) v24_42) w29 fun v25_43 w30 =>
  XP Try.prog (binOp .add 3 v22_39 v25_43) w30 fun v26_44 w31 =>
  XP Try.prog (binOp .quo 3 (ρ1 8) (.int .i64 128)) w31 fun v27_46 w32 =>
  XP Try.prog (binOp .add 3 v26_44 v27_46) w32 fun v28_47 w33 =>
  XP Try.prog (Builtin.len_ #[9] 3 #[(ρ1 7)]) w33 fun v29_51 w34 =>
  XP Try.prog (binOp .add 3 (ρ1 8) (.int .i64 128)) w34 fun v30_53 w35 =>
  XP Try.prog (Builtin.min_ #[3, 3] 3 #[v29_51, v30_53]) w35 fun v31_54 w36 =>
  XP Try.prog (Instr.sliceAt 9 (ρ1 7) (some (ρ1 8)) (some v31_54) none) w36 fun v32_55 w37 =>
  CALL Try.prog 109 #[v20_37, v28_47, v32_55] w37 fun v33_56 w38 =>
  R w37 w38 ∧
  X Try.prog (binOpG .neq 30 (.tmp 57) (.const (.int .i64 0)) v33_56 (.int .i64 0)) w38 fun v34_58 w39 =>
  condS v34_58 (
  Q1 .ret (upds ρ1 [(6, v33_56), (59, v33_56), (58, v34_58), (57, v33_56), (9, v33_56), (56, v33_56), (55, v32_55), (54, v31_54), (53, v30_53), (52, (ρ1 8)), (51, v29_51), (50, (ρ1 7)), (49, (ρ1 8)), (48, (ρ1 7)), (47, v28_47), (46, v27_46), (45, (ρ1 8)), (44, v26_44), (43, v25_43), (42, v24_42), (41, v23_41), (40, (ρ1 1)), (39, v22_39), (38, v21_38), (37, v20_37), (36, v19_36), (33, v18_33), (32, v17_32), (31, (ρ1 7)), (30, (ρ1 8))]) w39) (
  X Try.prog (binOp .add 3 (ρ1 8) (.int .i64 128)) w39 fun v35_35 w40 =>
  Q1 .normal (upds ρ1 [(8, v35_35), (35, v35_35), (34, (ρ1 8)), (58, v34_58), (57, v33_56), (9, v33_56), (56, v33_56), (55, v32_55), (54, v31_54), (53, v30_53), (52, (ρ1 8)), (51, v29_51), (50, (ρ1 7)), (49, (ρ1 8)), (48, (ρ1 7)), (47, v28_47), (46, v27_46), (45, (ρ1 8)), (44, v26_44), (43, v25_43), (42, v24_42), (41, v23_41), (40, (ρ1 1)), (39, v22_39), (38, v21_38), (37, v20_37), (36, v19_36), (33, v18_33), (32, v17_32), (31, (ρ1 7)), (30, (ρ1 8))]) w40)) (
  Q1 (.exit 0) (upds ρ1 [(33, v18_33), (32, v17_32), (31, (ρ1 7)), (30, (ρ1 8))]) w23)) (inBlockS 0 (thenS (fun ρ2 w41 =>
  K (.int .i64 0) w41) (retS Try.prog (Try.f107).results K))) (upds (env0 #[x0, x1, x2]) [(8, (.int .i64 0)), (7, v16_29), (29, v16_29), (28, x2), (27, v15_27), (26, v14_26), (25, v13_25), (24, v12_24), (23, x2), (22, v11_22), (21, v10_21), (20, v9_20), (19, v8_19), (18, x2), (17, v7_17), (16, v6_16), (15, v5_15), (14, v4_14), (13, v3_13), (12, v2_11), (11, v2_11), (10, x1), (6, (.int .i64 0)), (3, v1_3)]) w20))

theorem eq_ref12_Vault_Put (x0 x1 x2 : Value) (w : World) (K : Value → World → Prop) :
    sh Try.prog (Try.f107.body.getD .skip) (retS Try.prog Try.f107.results K) (env0 #[x0, x1, x2]) w = B_ref12_Vault_Put x0 x1 x2 w K := by kernel_rfl

theorem call_ref12_Vault_Put (x0 x1 x2 : Value) (w : World) (K : Value → World → Prop) (h : B_ref12_Vault_Put x0 x1 x2 w K) : CALL Try.prog 107 #[x0, x1, x2] w K :=
  call_of_eq (c := Try.f107.body.getD .skip) mixed Try.func107 (by kernel_rfl) (by kernel_rfl) (by kernel_rfl) (Nat.le_of_ble_eq_true (by kernel_rfl)) (eq_ref12_Vault_Put x0 x1 x2 w K) h

/-- (cellarage/cellarageref12.Vault).Get -/
def B_ref12_Vault_Get (x0 x1 : Value) (w : World) (K : Value → World → Prop) : Prop :=
  X Try.prog (Instr.box 138 x0) w fun v1_2 w1 =>
  X Try.prog (binOp .lss 3 x1 (.int .i64 0)) w1 fun v2_13 w2 =>
  gstep v2_13 false (fun w3 K => K x1 w3) w2 fun v3_15 w4 =>
  gstep v2_13 false (fun w5 K => X Try.prog (Instr.fieldAt 138 v1_2 3) w5 K) w4 fun v4_16 w6 =>
  gstep v2_13 false (fun w7 K => X Try.prog (Instr.loadAt 3 v4_16) w7 K) w6 fun v5_17 w8 =>
  gstep v2_13 false (fun w9 K => X Try.prog (binOp .geq 3 v3_15 v5_17) w9 K) w8 fun v6_18 w10 =>
  X Try.prog (pickS v2_13 (.bool true) v6_18) w10 fun v7_19 w11 =>
  condS v7_19 (
  K (.tuple #[(.string { data := #[] }), (.int .i64 1)]) w11) (
  loopS (fun Q1 ρ1 w12 =>
  X Try.prog (Instr.fieldAt 138 (ρ1 2) 2) w12 fun v8_21 w13 =>
  X Try.prog (Instr.loadAt 3 v8_21) w13 fun v9_22 w14 =>
  X Try.prog (binOp .lss 3 (ρ1 7) v9_22) w14 fun v10_23 w15 =>
  condS v10_23 (
  X Try.prog (Instr.fieldAt 138 (ρ1 2) 0) w15 fun v11_27 w16 =>
  X Try.prog (Instr.loadAt 92 v11_27) w16 fun v12_28 w17 =>
  X Try.prog (Instr.fieldAt 138 (ρ1 2) 1) w17 fun v13_29 w18 =>
  X Try.prog (Instr.loadAt 3 v13_29) w18 fun v14_30 w19 =>
  X Try.prog (Instr.fieldAt 138 (ρ1 2) 2) w19 fun v15_32 w20 =>
  X Try.prog (Instr.loadAt 3 v15_32) w20 fun v16_33 w21 =>
  X Try.prog (binOp .mul 3 (ρ1 1) v16_33) w21 fun v17_34 w22 =>
  X Try.prog (binOp .add 3 v14_30 v17_34) w22 fun v18_35 w23 =>
  X Try.prog (binOp .add 3 v18_35 (ρ1 7)) w23 fun v19_37 w24 =>
  CALL Try.prog 113 #[v12_28, v19_37] w24 fun v20_38 w25 =>
  X Try.prog (Instr.extract v20_38 0) w25 fun v21_39 w26 =>
  X Try.prog (Instr.extract v20_38 1) w26 fun v22_40 w27 =>
  X Try.prog (binOpG .neq 30 (.tmp 41) (.const (.int .i64 0)) v22_40 (.int .i64 0)) w27 fun v23_42 w28 =>
  condS v23_42 (
  Q1 .ret (upds ρ1 [(5, v22_40), (4, (.string { data := #[] })), (43, v22_40), (42, v23_42), (41, v22_40), (9, v22_40), (8, v21_39), (40, v22_40), (39, v21_39), (26, v20_38), (38, v20_38), (37, v19_37), (36, (ρ1 7)), (35, v18_35), (34, v17_34), (33, v16_33), (32, v15_32), (31, (ρ1 1)), (30, v14_30), (29, v13_29), (28, v12_28), (27, v11_27), (23, v10_23), (22, v9_22), (21, v8_21), (20, (ρ1 7))]) w28) (
  X Try.prog (binOp .add 9 (ρ1 6) v21_39) w28 fun v24_46 w29 =>
  X Try.prog (binOp .add 3 (ρ1 7) (.int .i64 1)) w29 fun v25_25 w30 =>
  Q1 .normal (upds ρ1 [(7, v25_25), (25, v25_25), (24, (ρ1 7)), (6, v24_46), (46, v24_46), (45, v21_39), (44, (ρ1 6)), (42, v23_42), (41, v22_40), (9, v22_40), (8, v21_39), (40, v22_40), (39, v21_39), (26, v20_38), (38, v20_38), (37, v19_37), (36, (ρ1 7)), (35, v18_35), (34, v17_34), (33, v16_33), (32, v15_32), (31, (ρ1 1)), (30, v14_30), (29, v13_29), (28, v12_28), (27, v11_27), (23, v10_23), (22, v9_22), (21, v8_21), (20, (ρ1 7))]) w30)) (
  Q1 (.exit 0) (upds ρ1 [(23, v10_23), (22, v9_22), (21, v8_21), (20, (ρ1 7))]) w15)) (inBlockS 0 (thenS (fun ρ2 w31 =>
  X Try.prog (convert 9 27 (ρ2 6)) w31 fun v26_48 w32 =>
  X Try.prog (Instr.build 57 #[(0, v26_48)]) w32 fun v27_49 w33 =>
  X Try.prog (Instr.alloc 57 true (.tuple #[])) w33 fun v28_10 w34 =>
  XU Try.prog (Instr.storeAt 57 v28_10 v27_49) w34 fun w35 =>
  CALL Try.prog 62 #[v28_10, (.int .i64 4)] w35 fun v29_50 w36 =>
  X Try.prog (Instr.loadAt 138 (ρ2 2)) w36 fun v30_52 w37 =>
  CALL Try.prog 105 #[v30_52] w37 fun v31_53 w38 =>
  X Try.prog (convert 3 22 v31_53) w38 fun v32_54 w39 =>
  X Try.prog (binOp .gtr 22 v29_50 v32_54) w39 fun v33_55 w40 =>
  condS v33_55 (
  K (.tuple #[(.string { data := #[] }), (.int .i64 110)]) w40) (
  X Try.prog (binOp .add 22 (.int .u64 4) v29_50) w40 fun v34_58 w41 =>
  X Try.prog (Instr.sliceAt 9 (ρ2 6) (some (.int .i64 4)) (some v34_58) none) w41 fun v35_59 w42 =>
  K (.tuple #[v35_59, (.int .i64 0)]) w42)) (retS Try.prog (Try.f108).results K))) (upds (env0 #[x0, x1]) [(7, (.int .i64 0)), (6, (.string { data := #[] })), (19, v7_19), (18, v6_18), (17, v5_17), (16, v4_16), (15, v3_15), (14, v2_13), (13, v2_13), (12, x1), (5, (.int .i64 0)), (4, (.string { data := #[] })), (2, v1_2)]) w11)

theorem eq_ref12_Vault_Get (x0 x1 : Value) (w : World) (K : Value → World → Prop) :
    sh Try.prog (Try.f108.body.getD .skip) (retS Try.prog Try.f108.results K) (env0 #[x0, x1]) w = B_ref12_Vault_Get x0 x1 w K := by kernel_rfl

theorem call_ref12_Vault_Get (x0 x1 : Value) (w : World) (K : Value → World → Prop) (h : B_ref12_Vault_Get x0 x1 w K) : CALL Try.prog 108 #[x0, x1] w K :=
  call_of_eq (c := Try.f108.body.getD .skip) mixed Try.func108 (by kernel_rfl) (by kernel_rfl) (by kernel_rfl) (Nat.le_of_ble_eq_true (by kernel_rfl)) (eq_ref12_Vault_Get x0 x1 w K) h

end Go.Proofs.Ytggggfcgnkllgaa
