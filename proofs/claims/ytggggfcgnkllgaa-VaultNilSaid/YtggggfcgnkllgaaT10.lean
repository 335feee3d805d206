import Derived.Test.YtggggfcgnkllgaaTy
import Derived.Test.YtggggfcgnkllgaaShSound
set_option linter.unusedVariables false
namespace Go.Proofs.Ytggggfcgnkllgaa
open Go Go.Sh
attribute [local irreducible] X XU XP XR CALL loopS resC closS
/-- cellarage/vault.New -/
def B_vault_New (x0 x1 x2 x3 : Value) (w : World) (K : Value → World → Prop) : Prop :=
  X Try.prog (binOpG .eql 74 (.tmp 10) (.const (.pointer none)) x0 (.pointer none)) w fun v1_11 w1 =>
  condS v1_11 (
  K (.tuple #[(.pointer none), (.int .i64 2)]) w1) (
  X Try.prog (binOp .lss 3 x1 (.int .i64 0)) w1 fun v2_13 w2 =>
  gstep v2_13 false (fun w3 K => K x2 w3) w2 fun v3_15 w4 =>
  gstep v2_13 false (fun w5 K => X Try.prog (binOp .lss 3 v3_15 (.int .i64 1)) w5 K) w4 fun v4_16 w6 =>
  X Try.prog (pickS v2_13 (.bool true) v4_16) w6 fun v5_17 w7 =>
  gstep v5_17 false (fun w8 K => K x2 w8) w7 fun v6_19 w9 =>
  gstep v5_17 false (fun w10 K => X Try.prog (binOp .gtr 3 v6_19 (.int .i64 16384)) w10 K) w9 fun v7_20 w11 =>
  X Try.prog (pickS v5_17 (.bool true) v7_20) w11 fun v8_21 w12 =>
  gstep v8_21 false (fun w13 K => K x3 w13) w12 fun v9_23 w14 =>
  gstep v8_21 false (fun w15 K => X Try.prog (binOp .lss 3 v9_23 (.int .i64 0)) w15 K) w14 fun v10_24 w16 =>
  X Try.prog (pickS v8_21 (.bool true) v10_24) w16 fun v11_25 w17 =>
  gstep v11_25 false (fun w18 K => K x1 w18) w17 fun v12_27 w19 =>
  gstep v11_25 false (fun w20 K => K x0 w20) w19 fun v13_28 w21 =>
  gstep v11_25 false (fun w22 K => CALL Try.prog 84 #[v13_28] w22 K) w21 fun v14_29 w23 =>
  gstep v11_25 false (fun w24 K => X Try.prog (binOp .gtr 3 v12_27 v14_29) w24 K) w23 fun v15_30 w25 =>
  X Try.prog (pickS v11_25 (.bool true) v15_30) w25 fun v16_31 w26 =>
  gstep v16_31 false (fun w27 K => K x3 w27) w26 fun v17_33 w28 =>
  gstep v16_31 false (fun w29 K => K x0 w29) w28 fun v18_34 w30 =>
  gstep v16_31 false (fun w31 K => CALL Try.prog 84 #[v18_34] w31 K) w30 fun v19_35 w32 =>
  gstep v16_31 false (fun w33 K => K x1 w33) w32 fun v20_36 w34 =>
  gstep v16_31 false (fun w35 K => X Try.prog (binOp .sub 3 v19_35 v20_36) w35 K) w34 fun v21_37 w36 =>
  gstep v16_31 false (fun w37 K => K x2 w37) w36 fun v22_38 w38 =>
  gstep v16_31 false (fun w39 K => X Try.prog (binOp .quo 3 v21_37 v22_38) w39 K) w38 fun v23_39 w40 =>
  gstep v16_31 false (fun w41 K => X Try.prog (binOp .gtr 3 v17_33 v23_39) w41 K) w40 fun v24_40 w42 =>
  X Try.prog (pickS v16_31 (.bool true) v24_40) w42 fun v25_41 w43 =>
  condS v25_41 (
  K (.tuple #[(.pointer none), (.int .i64 1)]) w43) (
  X Try.prog (Instr.build 196 #[(0, x0), (1, x1), (2, x2), (3, x3)]) w43 fun v26_46 w44 =>
  X Try.prog (Instr.box 196 v26_46) w44 fun v27_47 w45 =>
  K (.tuple #[v27_47, (.int .i64 0)]) w45))

theorem eq_vault_New (x0 x1 x2 x3 : Value) (w : World) (K : Value → World → Prop) :
    sh Try.prog (Try.f99.body.getD .skip) (retS Try.prog Try.f99.results K) (env0 #[x0, x1, x2, x3]) w = B_vault_New x0 x1 x2 x3 w K := by kernel_rfl

theorem call_vault_New (x0 x1 x2 x3 : Value) (w : World) (K : Value → World → Prop) (h : B_vault_New x0 x1 x2 x3 w K) : CALL Try.prog 99 #[x0, x1, x2, x3] w K :=
  call_of_eq (c := Try.f99.body.getD .skip) mixed Try.func99 (by kernel_rfl) (by kernel_rfl) (by kernel_rfl) (Nat.le_of_ble_eq_true (by kernel_rfl)) (eq_vault_New x0 x1 x2 x3 w K) h

/-- (*cellarage/vault.Vault).Put -/
def B_vault_Vault_Put (x0 x1 x2 : Value) (w : World) (K : Value → World → Prop) : Prop :=
  CALL Try.prog 141 #[x0, x1] w fun v1_15 w1 =>
  X Try.prog (Instr.extract v1_15 0) w1 fun v2_16 w2 =>
  X Try.prog (Instr.extract v1_15 1) w2 fun v3_17 w3 =>
  X Try.prog (binOpG .neq 30 (.tmp 18) (.const (.int .i64 0)) v3_17 (.int .i64 0)) w3 fun v4_19 w4 =>
  condS v4_19 (
  K v3_17 w4) (
  X Try.prog (Builtin.len_ #[27] 3 #[x2]) w4 fun v5_22 w5 =>
  CALL Try.prog 101 #[x0] w5 fun v6_24 w6 =>
  X Try.prog (binOp .gtr 3 v5_22 v6_24) w6 fun v7_25 w7 =>
  condS v7_25 (
  K (.int .i64 4) w7) (
  X Try.prog (Builtin.len_ #[27] 3 #[x2]) w7 fun v8_27 w8 =>
  X Try.prog (convert 3 22 v8_27) w8 fun v9_28 w9 =>
  CALL Try.prog 46 #[(.slice none 0 0), v9_28, (.int .i64 4)] w9 fun v10_29 w10 =>
  X Try.prog (Builtin.append_ #[27, 27] 27 #[v10_29, x2]) w10 fun v11_31 w11 =>
  loopS (fun Q1 ρ1 w12 =>
  X Try.prog (Builtin.len_ #[27] 3 #[(ρ1 9)]) w12 fun v12_33 w13 =>
  X Try.prog (binOp .gtr 3 v12_33 (.int .i64 0)) w13 fun v13_34 w14 =>
  condS v13_34 (
  X Try.prog (Builtin.len_ #[27] 3 #[(ρ1 9)]) w14 fun v14_38 w15 =>
  X Try.prog (Builtin.min_ #[3, 3] 3 #[v14_38, (.int .i64 128)]) w15 fun v15_39 w16 =>
  ∃ R, Frame? R ∧
  XP Try.prog (nilS (ρ1 0)) (drewW w16) fun v16_41 w17 =>
  XP Try.prog (Instr.fieldAt 196 v16_41 0) w17 fun v17_42 w18 =>
  XR Try.prog R (Instr.loadAt 74 v17_42) w18 fun v18_43 w19 =>
  XP Try.prog (Instr.sliceAt 27 (ρ1 9) none (some v15_39) none) w19 fun v19_47 w20 =>
  CALL Try.prog 70 #[v18_43, (ρ1 7), v19_47] w20 fun v20_48 w21 =>
  X Try.prog (binOpG .neq 30 (.tmp 49) (.const (.int .i64 0)) v20_48 (.int .i64 0)) w21 fun v21_50 w22 =>
  condS v21_50 (
  Q1 .ret (upds ρ1 [(6, v20_48), (51, v20_48), (50, v21_50), (49, v20_48), (11, v20_48), (48, v20_48), (47, v19_47), (46, v15_39), (45, (ρ1 9)), (44, (ρ1 7)), (43, v18_43), (42, v17_42), (41, v16_41), (40, (ρ1 0)), (10, v15_39), (39, v15_39), (38, v14_38), (37, (ρ1 9)), (34, v13_34), (33, v12_33), (32, (ρ1 9))]) w22) (
  X Try.prog (Instr.sliceAt 27 (ρ1 9) (some v15_39) none none) w22 fun v22_54 w23 =>
  X Try.prog (binOp .add 3 (ρ1 7) (.int .i64 1)) w23 fun v23_36 w24 =>
  Q1 .normal (upds ρ1 [(7, v23_36), (36, v23_36), (35, (ρ1 7)), (9, v22_54), (54, v22_54), (53, v15_39), (52, (ρ1 9)), (50, v21_50), (49, v20_48), (11, v20_48), (48, v20_48), (47, v19_47), (46, v15_39), (45, (ρ1 9)), (44, (ρ1 7)), (43, v18_43), (42, v17_42), (41, v16_41), (40, (ρ1 0)), (10, v15_39), (39, v15_39), (38, v14_38), (37, (ρ1 9)), (34, v13_34), (33, v12_33), (32, (ρ1 9))]) w24)) (
  Q1 (.exit 0) (upds ρ1 [(34, v13_34), (33, v12_33), (32, (ρ1 9))]) w14)) (inBlockS 0 (thenS (fun ρ2 w25 =>
  K (.int .i64 0) w25) (retS Try.prog (Try.f100).results K))) (upds (env0 #[x0, x1, x2]) [(9, v11_31), (31, v11_31), (30, x2), (29, v10_29), (28, v9_28), (27, v8_27), (26, x2), (25, v7_25), (24, v6_24), (23, x0), (22, v5_22), (21, x2), (19, v4_19), (18, v3_17), (8, v3_17), (7, v2_16), (17, v3_17), (16, v2_16), (12, v1_15), (15, v1_15), (14, x1), (13, x0), (6, (.int .i64 0))]) w11))

theorem eq_vault_Vault_Put (x0 x1 x2 : Value) (w : World) (K : Value → World → Prop) :
    sh Try.prog (Try.f100.body.getD .skip) (retS Try.prog Try.f100.results K) (env0 #[x0, x1, x2]) w = B_vault_Vault_Put x0 x1 x2 w K := by kernel_rfl

theorem call_vault_Vault_Put (x0 x1 x2 : Value) (w : World) (K : Value → World → Prop) (h : B_vault_Vault_Put x0 x1 x2 w K) : CALL Try.prog 100 #[x0, x1, x2] w K :=
  call_of_eq (c := Try.f100.body.getD .skip) mixed Try.func100 (by kernel_rfl) (by kernel_rfl) (by kernel_rfl) (Nat.le_of_ble_eq_true (by kernel_rfl)) (eq_vault_Vault_Put x0 x1 x2 w K) h

/-- (*cellarage/vault.Vault).Room -/
def B_vault_Vault_Room (x0 : Value) (w : World) (K : Value → World → Prop) : Prop :=
  X Try.prog (binOpG .eql 124 (.tmp 3) (.const (.pointer none)) x0 (.pointer none)) w fun v1_4 w1 =>
  condS v1_4 (
  K (.int .i64 0) w1) (
  X Try.prog (nilS x0) w1 fun v2_6 w2 =>
  X Try.prog (Instr.fieldAt 196 v2_6 2) w2 fun v3_7 w3 =>
  X Try.prog (Instr.loadAt 3 v3_7) w3 fun v4_8 w4 =>
  X Try.prog (binOp .mul 3 v4_8 (.int .i64 128)) w4 fun v5_9 w5 =>
  X Try.prog (binOp .sub 3 v5_9 (.int .i64 4)) w5 fun v6_10 w6 =>
  K v6_10 w6)

theorem eq_vault_Vault_Room (x0 : Value) (w : World) (K : Value → World → Prop) :
    sh Try.prog (Try.f101.body.getD .skip) (retS Try.prog Try.f101.results K) (env0 #[x0]) w = B_vault_Vault_Room x0 w K := by kernel_rfl

theorem call_vault_Vault_Room (x0 : Value) (w : World) (K : Value → World → Prop) (h : B_vault_Vault_Room x0 w K) : CALL Try.prog 101 #[x0] w K :=
  call_of_eq (c := Try.f101.body.getD .skip) mixed Try.func101 (by kernel_rfl) (by kernel_rfl) (by kernel_rfl) (Nat.le_of_ble_eq_true (by kernel_rfl)) (eq_vault_Vault_Room x0 w K) h

/-- (*cellarage/vault.Vault).Get -/
def B_vault_Vault_Get (x0 x1 : Value) (w : World) (K : Value → World → Prop) : Prop :=
  CALL Try.prog 141 #[x0, x1] w fun v1_15 w1 =>
  X Try.prog (Instr.extract v1_15 0) w1 fun v2_16 w2 =>
  X Try.prog (Instr.extract v1_15 1) w2 fun v3_17 w3 =>
  X Try.prog (binOpG .neq 30 (.tmp 18) (.const (.int .i64 0)) v3_17 (.int .i64 0)) w3 fun v4_19 w4 =>
  condS v4_19 (
  K (.tuple #[(.slice none 0 0), v3_17]) w4) (
  X Try.prog (nilS x0) w4 fun v5_23 w5 =>
  X Try.prog (Instr.fieldAt 196 v5_23 0) w5 fun v6_24 w6 =>
  X Try.prog (Instr.loadAt 74 v6_24) w6 fun v7_25 w7 =>
  CALL Try.prog 73 #[v7_25, v2_16] w7 fun v8_27 w8 =>
  X Try.prog (Instr.extract v8_27 0) w8 fun v9_28 w9 =>
  X Try.prog (Instr.extract v8_27 1) w9 fun v10_29 w10 =>
  X Try.prog (binOpG .neq 30 (.tmp 30) (.const (.int .i64 0)) v10_29 (.int .i64 0)) w10 fun v11_31 w11 =>
  condS v11_31 (
  K (.tuple #[(.slice none 0 0), v10_29]) w11) (
  CALL Try.prog 58 #[v9_28] w11 fun v12_34 w12 =>
  CALL Try.prog 61 #[v12_34, (.int .i64 4)] w12 fun v13_35 w13 =>
  CALL Try.prog 101 #[x0] w13 fun v14_38 w14 =>
  X Try.prog (convert 3 22 v14_38) w14 fun v15_39 w15 =>
  X Try.prog (binOp .gtr 22 v13_35 v15_39) w15 fun v16_40 w16 =>
  condS v16_40 (
  K (.tuple #[(.slice none 0 0), (.int .i64 110)]) w16) (
  X Try.prog (binOp .add 3 v2_16 (.int .i64 1)) w16 fun v17_42 w17 =>
  loopS (fun Q1 ρ1 w18 =>
  X Try.prog (Builtin.len_ #[27] 3 #[(ρ1 8)]) w18 fun v18_44 w19 =>
  X Try.prog (convert 22 3 (ρ1 9)) w19 fun v19_46 w20 =>
  X Try.prog (binOp .add 3 (.int .i64 4) v19_46) w20 fun v20_47 w21 =>
  X Try.prog (binOp .lss 3 v18_44 v20_47) w21 fun v21_48 w22 =>
  condS v21_48 (
  X Try.prog (nilS (ρ1 0)) w22 fun v22_53 w23 =>
  X Try.prog (Instr.fieldAt 196 v22_53 0) w23 fun v23_54 w24 =>
  X Try.prog (Instr.loadAt 74 v23_54) w24 fun v24_55 w25 =>
  CALL Try.prog 73 #[v24_55, (ρ1 6)] w25 fun v25_57 w26 =>
  X Try.prog (Instr.extract v25_57 0) w26 fun v26_58 w27 =>
  X Try.prog (Instr.extract v25_57 1) w27 fun v27_59 w28 =>
  X Try.prog (binOpG .neq 30 (.tmp 60) (.const (.int .i64 0)) v27_59 (.int .i64 0)) w28 fun v28_61 w29 =>
  condS v28_61 (
  Q1 .ret (upds ρ1 [(5, v27_59), (4, (.slice none 0 0)), (62, v27_59), (61, v28_61), (60, v27_59), (11, v27_59), (10, v26_58), (59, v27_59), (58, v26_58), (51, v25_57), (57, v25_57), (56, (ρ1 6)), (55, v24_55), (54, v23_54), (53, v22_53), (52, (ρ1 0)), (48, v21_48), (47, v20_47), (46, v19_46), (45, (ρ1 9)), (44, v18_44), (43, (ρ1 8))]) w29) (
  X Try.prog (Builtin.append_ #[27, 27] 27 #[(ρ1 8), v26_58]) w29 fun v29_65 w30 =>
  X Try.prog (binOp .add 3 (ρ1 6) (.int .i64 1)) w30 fun v30_50 w31 =>
  Q1 .normal (upds ρ1 [(6, v30_50), (50, v30_50), (49, (ρ1 6)), (8, v29_65), (65, v29_65), (64, v26_58), (63, (ρ1 8)), (61, v28_61), (60, v27_59), (11, v27_59), (10, v26_58), (59, v27_59), (58, v26_58), (51, v25_57), (57, v25_57), (56, (ρ1 6)), (55, v24_55), (54, v23_54), (53, v22_53), (52, (ρ1 0)), (48, v21_48), (47, v20_47), (46, v19_46), (45, (ρ1 9)), (44, v18_44), (43, (ρ1 8))]) w31)) (
  Q1 (.exit 0) (upds ρ1 [(48, v21_48), (47, v20_47), (46, v19_46), (45, (ρ1 9)), (44, v18_44), (43, (ρ1 8))]) w22)) (inBlockS 0 (thenS (fun ρ2 w32 =>
  X Try.prog (convert 22 3 (ρ2 9)) w32 fun v31_68 w33 =>
  X Try.prog (binOp .add 3 (.int .i64 4) v31_68) w33 fun v32_69 w34 =>
  X Try.prog (convert 22 3 (ρ2 9)) w34 fun v33_71 w35 =>
  X Try.prog (binOp .add 3 (.int .i64 4) v33_71) w35 fun v34_72 w36 =>
  X Try.prog (Instr.sliceAt 27 (ρ2 8) (some (.int .i64 4)) (some v32_69) (some v34_72)) w36 fun v35_73 w37 =>
  K (.tuple #[v35_73, (.int .i64 0)]) w37) (retS Try.prog (Try.f102).results K))) (upds (env0 #[x0, x1]) [(6, v17_42), (42, v17_42), (41, v2_16), (40, v16_40), (39, v15_39), (38, v14_38), (37, x0), (36, v13_35), (9, v13_35), (35, v13_35), (34, v12_34), (33, v9_28), (31, v11_31), (30, v10_29), (7, v10_29), (8, v9_28), (29, v10_29), (28, v9_28), (21, v8_27), (27, v8_27), (26, v2_16), (25, v7_25), (24, v6_24), (23, v5_23), (22, x0), (19, v4_19), (18, v3_17), (7, v3_17), (6, v2_16), (17, v3_17), (16, v2_16), (12, v1_15), (15, v1_15), (14, x1), (13, x0), (5, (.int .i64 0)), (4, (.slice none 0 0))]) w17)))

theorem eq_vault_Vault_Get (x0 x1 : Value) (w : World) (K : Value → World → Prop) :
    sh Try.prog (Try.f102.body.getD .skip) (retS Try.prog Try.f102.results K) (env0 #[x0, x1]) w = B_vault_Vault_Get x0 x1 w K := by kernel_rfl

theorem call_vault_Vault_Get (x0 x1 : Value) (w : World) (K : Value → World → Prop) (h : B_vault_Vault_Get x0 x1 w K) : CALL Try.prog 102 #[x0, x1] w K :=
  call_of_eq (c := Try.f102.body.getD .skip) mixed Try.func102 (by kernel_rfl) (by kernel_rfl) (by kernel_rfl) (Nat.le_of_ble_eq_true (by kernel_rfl)) (eq_vault_Vault_Get x0 x1 w K) h

/-- (*cellarage/vault.Vault).Len -/
def B_vault_Vault_Len (x0 : Value) (w : World) (K : Value → World → Prop) : Prop :=
  X Try.prog (binOpG .eql 124 (.tmp 3) (.const (.pointer none)) x0 (.pointer none)) w fun v1_4 w1 =>
  condS v1_4 (
  K (.int .i64 0) w1) (
  X Try.prog (nilS x0) w1 fun v2_6 w2 =>
  X Try.prog (Instr.fieldAt 196 v2_6 3) w2 fun v3_7 w3 =>
  X Try.prog (Instr.loadAt 3 v3_7) w3 fun v4_8 w4 =>
  K v4_8 w4)

theorem eq_vault_Vault_Len (x0 : Value) (w : World) (K : Value → World → Prop) :
    sh Try.prog (Try.f103.body.getD .skip) (retS Try.prog Try.f103.results K) (env0 #[x0]) w = B_vault_Vault_Len x0 w K := by kernel_rfl

theorem call_vault_Vault_Len (x0 : Value) (w : World) (K : Value → World → Prop) (h : B_vault_Vault_Len x0 w K) : CALL Try.prog 103 #[x0] w K :=
  call_of_eq (c := Try.f103.body.getD .skip) mixed Try.func103 (by kernel_rfl) (by kernel_rfl) (by kernel_rfl) (Nat.le_of_ble_eq_true (by kernel_rfl)) (eq_vault_Vault_Len x0 w K) h

/-- (*cellarage/vault.Vault).shelf -/
def B_vault_Vault_shelf (x0 x1 : Value) (w : World) (K : Value → World → Prop) : Prop :=
  X Try.prog (binOpG .eql 124 (.tmp 7) (.const (.pointer none)) x0 (.pointer none)) w fun v1_8 w1 =>
  condS v1_8 (
  K (.tuple #[(.int .i64 0), (.int .i64 2)]) w1) (
  X Try.prog (binOp .lss 3 x1 (.int .i64 0)) w1 fun v2_11 w2 =>
  gstep v2_11 false (fun w3 K => K x1 w3) w2 fun v3_13 w4 =>
  gstep v2_11 false (fun w5 K => K x0 w5) w4 fun v4_14 w6 =>
  gstep v2_11 false (fun w7 K => X Try.prog (nilS v4_14) w7 K) w6 fun v5_15 w8 =>
  gstep v2_11 false (fun w9 K => X Try.prog (Instr.fieldAt 196 v5_15 3) w9 K) w8 fun v6_16 w10 =>
  gstep v2_11 false (fun w11 K => X Try.prog (Instr.loadAt 3 v6_16) w11 K) w10 fun v7_17 w12 =>
  gstep v2_11 false (fun w13 K => X Try.prog (binOp .geq 3 v3_13 v7_17) w13 K) w12 fun v8_18 w14 =>
  X Try.prog (pickS v2_11 (.bool true) v8_18) w14 fun v9_19 w15 =>
  condS v9_19 (
  K (.tuple #[(.int .i64 0), (.int .i64 1)]) w15) (
  ∃ R, Frame? R ∧
  XP Try.prog (nilS x0) (drewW w15) fun v10_21 w16 =>
  XP Try.prog (Instr.fieldAt 196 v10_21 1) w16 fun v11_22 w17 =>
  XR Try.prog R (Instr.loadAt 3 v11_22) w17 fun v12_23 w18 =>
  XP Try.prog (nilS x0) w18 fun v13_26 w19 =>
  XP Try.prog (Instr.fieldAt 196 v13_26 2) w19 fun v14_27 w20 =>
  XR Try.prog R (Instr.loadAt 3 v14_27) w20 fun v15_28 w21 =>
  XP Try.prog (binOp .mul 3 x1 v15_28) w21 fun v16_29 w22 =>
  XP Try.prog (binOp .add 3 v12_23 v16_29) w22 fun v17_30 w23 =>
  K (.tuple #[v17_30, (.int .i64 0)]) w23))

theorem eq_vault_Vault_shelf (x0 x1 : Value) (w : World) (K : Value → World → Prop) :
    sh Try.prog (Try.f141.body.getD .skip) (retS Try.prog Try.f141.results K) (env0 #[x0, x1]) w = B_vault_Vault_shelf x0 x1 w K := by kernel_rfl

theorem call_vault_Vault_shelf (x0 x1 : Value) (w : World) (K : Value → World → Prop) (h : B_vault_Vault_shelf x0 x1 w K) : CALL Try.prog 141 #[x0, x1] w K :=
  call_of_eq (c := Try.f141.body.getD .skip) mixed Try.func141 (by kernel_rfl) (by kernel_rfl) (by kernel_rfl) (Nat.le_of_ble_eq_true (by kernel_rfl)) (eq_vault_Vault_shelf x0 x1 w K) h

end Go.Proofs.Ytggggfcgnkllgaa
