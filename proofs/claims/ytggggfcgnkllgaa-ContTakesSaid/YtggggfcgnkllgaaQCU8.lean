/- Part 8 of what the law is proved with: T10 Vault1 Cont8 Cont9 Cont10 Cont11 Cont12 XorAt. -/
import Derived.Test.YtggggfcgnkllgaaQCU7
section
set_option linter.unusedVariables false
namespace Go.Proofs.Ytggggfcgnkllgaa
open Go Go.Sh
attribute [local irreducible] X XU XP XR CALL loopS resC closS
/-- cellarage/vault.New -/
def B_vault_New (x0 x1 x2 x3 : Value) (w : World) (K : Value → World → Prop) : Prop :=
  X Try.prog (binOpG .eql 74 (.tmp 10) (.const (.pointer none)) x0 (.pointer none)) w fun v1_11 w1 =>
  condS v1_11 (
  K (.tuple #[(.pointer none), (.int .i64 2)]) w1) (
  X Try.prog (binOp .lss 3 x1 (.int .i64 0)) w1 fun v2_13 w2 =>
  gstep v2_13 false (fun w3 K => K x2 w3) w2 fun v3_15 w4 =>
  gstep v2_13 false (fun w5 K => X Try.prog (binOp .lss 3 v3_15 (.int .i64 1)) w5 K) w4 fun v4_16 w6 =>
  X Try.prog (pickS v2_13 (.bool true) v4_16) w6 fun v5_17 w7 =>
  gstep v5_17 false (fun w8 K => K x2 w8) w7 fun v6_19 w9 =>
  gstep v5_17 false (fun w10 K => X Try.prog (binOp .gtr 3 v6_19 (.int .i64 16384)) w10 K) w9 fun v7_20 w11 =>
  X Try.prog (pickS v5_17 (.bool true) v7_20) w11 fun v8_21 w12 =>
  gstep v8_21 false (fun w13 K => K x3 w13) w12 fun v9_23 w14 =>
  gstep v8_21 false (fun w15 K => X Try.prog (binOp .lss 3 v9_23 (.int .i64 0)) w15 K) w14 fun v10_24 w16 =>
  X Try.prog (pickS v8_21 (.bool true) v10_24) w16 fun v11_25 w17 =>
  gstep v11_25 false (fun w18 K => K x1 w18) w17 fun v12_27 w19 =>
  gstep v11_25 false (fun w20 K => K x0 w20) w19 fun v13_28 w21 =>
  gstep v11_25 false (fun w22 K => CALL Try.prog 84 #[v13_28] w22 K) w21 fun v14_29 w23 =>
  gstep v11_25 false (fun w24 K => X Try.prog (binOp .gtr 3 v12_27 v14_29) w24 K) w23 fun v15_30 w25 =>
  X Try.prog (pickS v11_25 (.bool true) v15_30) w25 fun v16_31 w26 =>
  gstep v16_31 false (fun w27 K => K x3 w27) w26 fun v17_33 w28 =>
  gstep v16_31 false (fun w29 K => K x0 w29) w28 fun v18_34 w30 =>
  gstep v16_31 false (fun w31 K => CALL Try.prog 84 #[v18_34] w31 K) w30 fun v19_35 w32 =>
  gstep v16_31 false (fun w33 K => K x1 w33) w32 fun v20_36 w34 =>
  gstep v16_31 false (fun w35 K => X Try.prog (binOp .sub 3 v19_35 v20_36) w35 K) w34 fun v21_37 w36 =>
  gstep v16_31 false (fun w37 K => K x2 w37) w36 fun v22_38 w38 =>
  gstep v16_31 false (fun w39 K => X Try.prog (binOp .quo 3 v21_37 v22_38) w39 K) w38 fun v23_39 w40 =>
  gstep v16_31 false (fun w41 K => X Try.prog (binOp .gtr 3 v17_33 v23_39) w41 K) w40 fun v24_40 w42 =>
  X Try.prog (pickS v16_31 (.bool true) v24_40) w42 fun v25_41 w43 =>
  condS v25_41 (
  K (.tuple #[(.pointer none), (.int .i64 1)]) w43) (
  X Try.prog (Instr.build 196 #[(0, x0), (1, x1), (2, x2), (3, x3)]) w43 fun v26_46 w44 =>
  X Try.prog (Instr.box 196 v26_46) w44 fun v27_47 w45 =>
  K (.tuple #[v27_47, (.int .i64 0)]) w45))

theorem eq_vault_New (x0 x1 x2 x3 : Value) (w : World) (K : Value → World → Prop) :
    sh Try.prog (Try.f99.body.getD .skip) (retS Try.prog Try.f99.results K) (env0 #[x0, x1, x2, x3]) w = B_vault_New x0 x1 x2 x3 w K := by kernel_rfl

theorem call_vault_New (x0 x1 x2 x3 : Value) (w : World) (K : Value → World → Prop) (h : B_vault_New x0 x1 x2 x3 w K) : CALL Try.prog 99 #[x0, x1, x2, x3] w K :=
  call_of_eq (c := Try.f99.body.getD .skip) mixed Try.func99 (by kernel_rfl) (by kernel_rfl) (by kernel_rfl) (Nat.le_of_ble_eq_true (by kernel_rfl)) (eq_vault_New x0 x1 x2 x3 w K) h

/-- (*cellarage/vault.Vault).Put -/
def B_vault_Vault_Put (x0 x1 x2 : Value) (w : World) (K : Value → World → Prop) : Prop :=
  CALL Try.prog 141 #[x0, x1] w fun v1_15 w1 =>
  X Try.prog (Instr.extract v1_15 0) w1 fun v2_16 w2 =>
  X Try.prog (Instr.extract v1_15 1) w2 fun v3_17 w3 =>
  X Try.prog (binOpG .neq 30 (.tmp 18) (.const (.int .i64 0)) v3_17 (.int .i64 0)) w3 fun v4_19 w4 =>
  condS v4_19 (
  K v3_17 w4) (
  X Try.prog (Builtin.len_ #[27] 3 #[x2]) w4 fun v5_22 w5 =>
  CALL Try.prog 101 #[x0] w5 fun v6_24 w6 =>
  X Try.prog (binOp .gtr 3 v5_22 v6_24) w6 fun v7_25 w7 =>
  condS v7_25 (
  K (.int .i64 4) w7) (
  X Try.prog (Builtin.len_ #[27] 3 #[x2]) w7 fun v8_27 w8 =>
  X Try.prog (convert 3 22 v8_27) w8 fun v9_28 w9 =>
  CALL Try.prog 46 #[(.slice none 0 0), v9_28, (.int .i64 4)] w9 fun v10_29 w10 =>
  X Try.prog (Builtin.append_ #[27, 27] 27 #[v10_29, x2]) w10 fun v11_31 w11 =>
  loopS (fun Q1 ρ1 w12 =>
  X Try.prog (Builtin.len_ #[27] 3 #[(ρ1 9)]) w12 fun v12_33 w13 =>
  X Try.prog (binOp .gtr 3 v12_33 (.int .i64 0)) w13 fun v13_34 w14 =>
  condS v13_34 (
  X Try.prog (Builtin.len_ #[27] 3 #[(ρ1 9)]) w14 fun v14_38 w15 =>
  X Try.prog (Builtin.min_ #[3, 3] 3 #[v14_38, (.int .i64 128)]) w15 fun v15_39 w16 =>
  ∃ R, Frame? R ∧
  XP Try.prog (nilS (ρ1 0)) (drewW w16) fun v16_41 w17 =>
  XP Try.prog (Instr.fieldAt 196 v16_41 0) w17 fun v17_42 w18 =>
  XR Try.prog R (Instr.loadAt 74 v17_42) w18 fun v18_43 w19 =>
  XP Try.prog (Instr.sliceAt 27 (ρ1 9) none (some v15_39) none) w19 fun v19_47 w20 =>
  CALL Try.prog 70 #[v18_43, (ρ1 7), v19_47] w20 fun v20_48 w21 =>
  X Try.prog (binOpG .neq 30 (.tmp 49) (.const (.int .i64 0)) v20_48 (.int .i64 0)) w21 fun v21_50 w22 =>
  condS v21_50 (
  Q1 .ret (upds ρ1 [(6, v20_48), (51, v20_48), (50, v21_50), (49, v20_48), (11, v20_48), (48, v20_48), (47, v19_47), (46, v15_39), (45, (ρ1 9)), (44, (ρ1 7)), (43, v18_43), (42, v17_42), (41, v16_41), (40, (ρ1 0)), (10, v15_39), (39, v15_39), (38, v14_38), (37, (ρ1 9)), (34, v13_34), (33, v12_33), (32, (ρ1 9))]) w22) (
  X Try.prog (Instr.sliceAt 27 (ρ1 9) (some v15_39) none none) w22 fun v22_54 w23 =>
  X Try.prog (binOp .add 3 (ρ1 7) (.int .i64 1)) w23 fun v23_36 w24 =>
  Q1 .normal (upds ρ1 [(7, v23_36), (36, v23_36), (35, (ρ1 7)), (9, v22_54), (54, v22_54), (53, v15_39), (52, (ρ1 9)), (50, v21_50), (49, v20_48), (11, v20_48), (48, v20_48), (47, v19_47), (46, v15_39), (45, (ρ1 9)), (44, (ρ1 7)), (43, v18_43), (42, v17_42), (41, v16_41), (40, (ρ1 0)), (10, v15_39), (39, v15_39), (38, v14_38), (37, (ρ1 9)), (34, v13_34), (33, v12_33), (32, (ρ1 9))]) w24)) (
  Q1 (.exit 0) (upds ρ1 [(34, v13_34), (33, v12_33), (32, (ρ1 9))]) w14)) (inBlockS 0 (thenS (fun ρ2 w25 =>
  K (.int .i64 0) w25) (retS Try.prog (Try.f100).results K))) (upds (env0 #[x0, x1, x2]) [(9, v11_31), (31, v11_31), (30, x2), (29, v10_29), (28, v9_28), (27, v8_27), (26, x2), (25, v7_25), (24, v6_24), (23, x0), (22, v5_22), (21, x2), (19, v4_19), (18, v3_17), (8, v3_17), (7, v2_16), (17, v3_17), (16, v2_16), (12, v1_15), (15, v1_15), (14, x1), (13, x0), (6, (.int .i64 0))]) w11))

theorem eq_vault_Vault_Put (x0 x1 x2 : Value) (w : World) (K : Value → World → Prop) :
    sh Try.prog (Try.f100.body.getD .skip) (retS Try.prog Try.f100.results K) (env0 #[x0, x1, x2]) w = B_vault_Vault_Put x0 x1 x2 w K := by kernel_rfl

theorem call_vault_Vault_Put (x0 x1 x2 : Value) (w : World) (K : Value → World → Prop) (h : B_vault_Vault_Put x0 x1 x2 w K) : CALL Try.prog 100 #[x0, x1, x2] w K :=
  call_of_eq (c := Try.f100.body.getD .skip) mixed Try.func100 (by kernel_rfl) (by kernel_rfl) (by kernel_rfl) (Nat.le_of_ble_eq_true (by kernel_rfl)) (eq_vault_Vault_Put x0 x1 x2 w K) h

/-- (*cellarage/vault.Vault).Room -/
def B_vault_Vault_Room (x0 : Value) (w : World) (K : Value → World → Prop) : Prop :=
  X Try.prog (binOpG .eql 124 (.tmp 3) (.const (.pointer none)) x0 (.pointer none)) w fun v1_4 w1 =>
  condS v1_4 (
  K (.int .i64 0) w1) (
  X Try.prog (nilS x0) w1 fun v2_6 w2 =>
  X Try.prog (Instr.fieldAt 196 v2_6 2) w2 fun v3_7 w3 =>
  X Try.prog (Instr.loadAt 3 v3_7) w3 fun v4_8 w4 =>
  X Try.prog (binOp .mul 3 v4_8 (.int .i64 128)) w4 fun v5_9 w5 =>
  X Try.prog (binOp .sub 3 v5_9 (.int .i64 4)) w5 fun v6_10 w6 =>
  K v6_10 w6)

theorem eq_vault_Vault_Room (x0 : Value) (w : World) (K : Value → World → Prop) :
    sh Try.prog (Try.f101.body.getD .skip) (retS Try.prog Try.f101.results K) (env0 #[x0]) w = B_vault_Vault_Room x0 w K := by kernel_rfl

theorem call_vault_Vault_Room (x0 : Value) (w : World) (K : Value → World → Prop) (h : B_vault_Vault_Room x0 w K) : CALL Try.prog 101 #[x0] w K :=
  call_of_eq (c := Try.f101.body.getD .skip) mixed Try.func101 (by kernel_rfl) (by kernel_rfl) (by kernel_rfl) (Nat.le_of_ble_eq_true (by kernel_rfl)) (eq_vault_Vault_Room x0 w K) h

/-- (*cellarage/vault.Vault).Get -/
def B_vault_Vault_Get (x0 x1 : Value) (w : World) (K : Value → World → Prop) : Prop :=
  CALL Try.prog 141 #[x0, x1] w fun v1_15 w1 =>
  X Try.prog (Instr.extract v1_15 0) w1 fun v2_16 w2 =>
  X Try.prog (Instr.extract v1_15 1) w2 fun v3_17 w3 =>
  X Try.prog (binOpG .neq 30 (.tmp 18) (.const (.int .i64 0)) v3_17 (.int .i64 0)) w3 fun v4_19 w4 =>
  condS v4_19 (
  K (.tuple #[(.slice none 0 0), v3_17]) w4) (
  X Try.prog (nilS x0) w4 fun v5_23 w5 =>
  X Try.prog (Instr.fieldAt 196 v5_23 0) w5 fun v6_24 w6 =>
  X Try.prog (Instr.loadAt 74 v6_24) w6 fun v7_25 w7 =>
  CALL Try.prog 73 #[v7_25, v2_16] w7 fun v8_27 w8 =>
  X Try.prog (Instr.extract v8_27 0) w8 fun v9_28 w9 =>
  X Try.prog (Instr.extract v8_27 1) w9 fun v10_29 w10 =>
  X Try.prog (binOpG .neq 30 (.tmp 30) (.const (.int .i64 0)) v10_29 (.int .i64 0)) w10 fun v11_31 w11 =>
  condS v11_31 (
  K (.tuple #[(.slice none 0 0), v10_29]) w11) (
  CALL Try.prog 58 #[v9_28] w11 fun v12_34 w12 =>
  CALL Try.prog 61 #[v12_34, (.int .i64 4)] w12 fun v13_35 w13 =>
  CALL Try.prog 101 #[x0] w13 fun v14_38 w14 =>
  X Try.prog (convert 3 22 v14_38) w14 fun v15_39 w15 =>
  X Try.prog (binOp .gtr 22 v13_35 v15_39) w15 fun v16_40 w16 =>
  condS v16_40 (
  K (.tuple #[(.slice none 0 0), (.int .i64 110)]) w16) (
  X Try.prog (binOp .add 3 v2_16 (.int .i64 1)) w16 fun v17_42 w17 =>
  loopS (fun Q1 ρ1 w18 =>
  X Try.prog (Builtin.len_ #[27] 3 #[(ρ1 8)]) w18 fun v18_44 w19 =>
  X Try.prog (convert 22 3 (ρ1 9)) w19 fun v19_46 w20 =>
  X Try.prog (binOp .add 3 (.int .i64 4) v19_46) w20 fun v20_47 w21 =>
  X Try.prog (binOp .lss 3 v18_44 v20_47) w21 fun v21_48 w22 =>
  condS v21_48 (
  X Try.prog (nilS (ρ1 0)) w22 fun v22_53 w23 =>
  X Try.prog (Instr.fieldAt 196 v22_53 0) w23 fun v23_54 w24 =>
  X Try.prog (Instr.loadAt 74 v23_54) w24 fun v24_55 w25 =>
  CALL Try.prog 73 #[v24_55, (ρ1 6)] w25 fun v25_57 w26 =>
  X Try.prog (Instr.extract v25_57 0) w26 fun v26_58 w27 =>
  X Try.prog (Instr.extract v25_57 1) w27 fun v27_59 w28 =>
  X Try.prog (binOpG .neq 30 (.tmp 60) (.const (.int .i64 0)) v27_59 (.int .i64 0)) w28 fun v28_61 w29 =>
  condS v28_61 (
  Q1 .ret (upds ρ1 [(5, v27_59), (4, (.slice none 0 0)), (62, v27_59), (61, v28_61), (60, v27_59), (11, v27_59), (10, v26_58), (59, v27_59), (58, v26_58), (51, v25_57), (57, v25_57), (56, (ρ1 6)), (55, v24_55), (54, v23_54), (53, v22_53), (52, (ρ1 0)), (48, v21_48), (47, v20_47), (46, v19_46), (45, (ρ1 9)), (44, v18_44), (43, (ρ1 8))]) w29) (
  X Try.prog (Builtin.append_ #[27, 27] 27 #[(ρ1 8), v26_58]) w29 fun v29_65 w30 =>
  X Try.prog (binOp .add 3 (ρ1 6) (.int .i64 1)) w30 fun v30_50 w31 =>
  Q1 .normal (upds ρ1 [(6, v30_50), (50, v30_50), (49, (ρ1 6)), (8, v29_65), (65, v29_65), (64, v26_58), (63, (ρ1 8)), (61, v28_61), (60, v27_59), (11, v27_59), (10, v26_58), (59, v27_59), (58, v26_58), (51, v25_57), (57, v25_57), (56, (ρ1 6)), (55, v24_55), (54, v23_54), (53, v22_53), (52, (ρ1 0)), (48, v21_48), (47, v20_47), (46, v19_46), (45, (ρ1 9)), (44, v18_44), (43, (ρ1 8))]) w31)) (
  Q1 (.exit 0) (upds ρ1 [(48, v21_48), (47, v20_47), (46, v19_46), (45, (ρ1 9)), (44, v18_44), (43, (ρ1 8))]) w22)) (inBlockS 0 (thenS (fun ρ2 w32 =>
  X Try.prog (convert 22 3 (ρ2 9)) w32 fun v31_68 w33 =>
  X Try.prog (binOp .add 3 (.int .i64 4) v31_68) w33 fun v32_69 w34 =>
  X Try.prog (convert 22 3 (ρ2 9)) w34 fun v33_71 w35 =>
  X Try.prog (binOp .add 3 (.int .i64 4) v33_71) w35 fun v34_72 w36 =>
  X Try.prog (Instr.sliceAt 27 (ρ2 8) (some (.int .i64 4)) (some v32_69) (some v34_72)) w36 fun v35_73 w37 =>
  K (.tuple #[v35_73, (.int .i64 0)]) w37) (retS Try.prog (Try.f102).results K))) (upds (env0 #[x0, x1]) [(6, v17_42), (42, v17_42), (41, v2_16), (40, v16_40), (39, v15_39), (38, v14_38), (37, x0), (36, v13_35), (9, v13_35), (35, v13_35), (34, v12_34), (33, v9_28), (31, v11_31), (30, v10_29), (7, v10_29), (8, v9_28), (29, v10_29), (28, v9_28), (21, v8_27), (27, v8_27), (26, v2_16), (25, v7_25), (24, v6_24), (23, v5_23), (22, x0), (19, v4_19), (18, v3_17), (7, v3_17), (6, v2_16), (17, v3_17), (16, v2_16), (12, v1_15), (15, v1_15), (14, x1), (13, x0), (5, (.int .i64 0)), (4, (.slice none 0 0))]) w17)))

theorem eq_vault_Vault_Get (x0 x1 : Value) (w : World) (K : Value → World → Prop) :
    sh Try.prog (Try.f102.body.getD .skip) (retS Try.prog Try.f102.results K) (env0 #[x0, x1]) w = B_vault_Vault_Get x0 x1 w K := by kernel_rfl

theorem call_vault_Vault_Get (x0 x1 : Value) (w : World) (K : Value → World → Prop) (h : B_vault_Vault_Get x0 x1 w K) : CALL Try.prog 102 #[x0, x1] w K :=
  call_of_eq (c := Try.f102.body.getD .skip) mixed Try.func102 (by kernel_rfl) (by kernel_rfl) (by kernel_rfl) (Nat.le_of_ble_eq_true (by kernel_rfl)) (eq_vault_Vault_Get x0 x1 w K) h

/-- (*cellarage/vault.Vault).Len -/
def B_vault_Vault_Len (x0 : Value) (w : World) (K : Value → World → Prop) : Prop :=
  X Try.prog (binOpG .eql 124 (.tmp 3) (.const (.pointer none)) x0 (.pointer none)) w fun v1_4 w1 =>
  condS v1_4 (
  K (.int .i64 0) w1) (
  X Try.prog (nilS x0) w1 fun v2_6 w2 =>
  X Try.prog (Instr.fieldAt 196 v2_6 3) w2 fun v3_7 w3 =>
  X Try.prog (Instr.loadAt 3 v3_7) w3 fun v4_8 w4 =>
  K v4_8 w4)

theorem eq_vault_Vault_Len (x0 : Value) (w : World) (K : Value → World → Prop) :
    sh Try.prog (Try.f103.body.getD .skip) (retS Try.prog Try.f103.results K) (env0 #[x0]) w = B_vault_Vault_Len x0 w K := by kernel_rfl

theorem call_vault_Vault_Len (x0 : Value) (w : World) (K : Value → World → Prop) (h : B_vault_Vault_Len x0 w K) : CALL Try.prog 103 #[x0] w K :=
  call_of_eq (c := Try.f103.body.getD .skip) mixed Try.func103 (by kernel_rfl) (by kernel_rfl) (by kernel_rfl) (Nat.le_of_ble_eq_true (by kernel_rfl)) (eq_vault_Vault_Len x0 w K) h

/-- (*cellarage/vault.Vault).shelf -/
def B_vault_Vault_shelf (x0 x1 : Value) (w : World) (K : Value → World → Prop) : Prop :=
  X Try.prog (binOpG .eql 124 (.tmp 7) (.const (.pointer none)) x0 (.pointer none)) w fun v1_8 w1 =>
  condS v1_8 (
  K (.tuple #[(.int .i64 0), (.int .i64 2)]) w1) (
  X Try.prog (binOp .lss 3 x1 (.int .i64 0)) w1 fun v2_11 w2 =>
  gstep v2_11 false (fun w3 K => K x1 w3) w2 fun v3_13 w4 =>
  gstep v2_11 false (fun w5 K => K x0 w5) w4 fun v4_14 w6 =>
  gstep v2_11 false (fun w7 K => X Try.prog (nilS v4_14) w7 K) w6 fun v5_15 w8 =>
  gstep v2_11 false (fun w9 K => X Try.prog (Instr.fieldAt 196 v5_15 3) w9 K) w8 fun v6_16 w10 =>
  gstep v2_11 false (fun w11 K => X Try.prog (Instr.loadAt 3 v6_16) w11 K) w10 fun v7_17 w12 =>
  gstep v2_11 false (fun w13 K => X Try.prog (binOp .geq 3 v3_13 v7_17) w13 K) w12 fun v8_18 w14 =>
  X Try.prog (pickS v2_11 (.bool true) v8_18) w14 fun v9_19 w15 =>
  condS v9_19 (
  K (.tuple #[(.int .i64 0), (.int .i64 1)]) w15) (
  ∃ R, Frame? R ∧
  XP Try.prog (nilS x0) (drewW w15) fun v10_21 w16 =>
  XP Try.prog (Instr.fieldAt 196 v10_21 1) w16 fun v11_22 w17 =>
  XR Try.prog R (Instr.loadAt 3 v11_22) w17 fun v12_23 w18 =>
  XP Try.prog (nilS x0) w18 fun v13_26 w19 =>
  XP Try.prog (Instr.fieldAt 196 v13_26 2) w19 fun v14_27 w20 =>
  XR Try.prog R (Instr.loadAt 3 v14_27) w20 fun v15_28 w21 =>
  XP Try.prog (binOp .mul 3 x1 v15_28) w21 fun v16_29 w22 =>
  XP Try.prog (binOp .add 3 v12_23 v16_29) w22 fun v17_30 w23 =>
  K (.tuple #[v17_30, (.int .i64 0)]) w23))

theorem eq_vault_Vault_shelf (x0 x1 : Value) (w : World) (K : Value → World → Prop) :
    sh Try.prog (Try.f141.body.getD .skip) (retS Try.prog Try.f141.results K) (env0 #[x0, x1]) w = B_vault_Vault_shelf x0 x1 w K := by kernel_rfl

theorem call_vault_Vault_shelf (x0 x1 : Value) (w : World) (K : Value → World → Prop) (h : B_vault_Vault_shelf x0 x1 w K) : CALL Try.prog 141 #[x0, x1] w K :=
  call_of_eq (c := Try.f141.body.getD .skip) mixed Try.func141 (by kernel_rfl) (by kernel_rfl) (by kernel_rfl) (Nat.le_of_ble_eq_true (by kernel_rfl)) (eq_vault_Vault_shelf x0 x1 w K) h

end Go.Proofs.Ytggggfcgnkllgaa
end
section
/- cellarage/vault, function by function. -/
set_option linter.unusedSimpArgs false
set_option linter.unusedVariables false
namespace Go.Proofs.Ytggggfcgnkllgaa
open Go Go.Sh Go.RowKit
attribute [local irreducible] X XU XP XR CALL loopS resC closS

/-- Blocks of another type are not the disk's. -/
theorem DiskAt.notin {w : World} {b : Nat} {d : Dk} (h : DiskAt w b d) {q : Nat} {cs : Array Value} {T : TypeId} {fr : Nat × Nat} (hq : w.heap[q]? = some (.cells cs T fr)) (h1 : T ≠ 183) (h2 : T ≠ 184) (h3 : T ≠ 186) : ¬ Go.Sh.foot w b q := fun hf => by
  obtain ⟨_, nv, sv, wv, h⟩ := h
  rcases h.foot.1 hf with h' | h' | h' | h'
  · subst h'
    rw [h.blk] at hq
    injection hq with hq
    injection hq with _ hq
    exact h1 hq.symm
  · exact own_neT h.now hq h2 h'
  · exact own_neT h.safe hq h2 h'
  · exact own_neT h.ws hq h3 h'
theorem own_blkT {w : World} {base e size n : Nat} {v : Value} {xs : List Value} (ho : w.ownsRow base e size v n xs) {k : Nat} (hk : v.ownBlock = some k) : ∃ cs, w.heap[k]? = some (.cells cs e (0, 0)) := by
  rcases ho.2 with ⟨rfl, _⟩ | ⟨g, cap, cur, rfl, _, hh, _⟩
  · cases hk
  · have : g = k := by injection hk
    subst this
    exact ⟨cur, hh⟩
theorem DiskAt.outs {w : World} {b base size n : Nat} {d : Dk} {v : Value} {xs : List Value} (h : DiskAt w b d) (ho : w.ownsRow base 5 size v n xs) : Outs w b v := fun k hk => by
  obtain ⟨cs, hc⟩ := own_blkT ho hk
  exact ⟨h.notin hc (by decide) (by decide) (by decide), lt_of_blk hc⟩
def VaultAt (w : World) (bv b : Nat) (v : Vt) : Prop := w.heap[bv]? = some (.cells #[ptr b, .int .i64 (v.fm : Int), .int .i64 (v.each : Int), .int .i64 (v.n : Int)] 196 (0, 0))
theorem run_build_196 (p : Option Addr) (x y z : Int) (w : World) : (Instr.build 196 #[(0, .pointer p), (1, .int .i64 x), (2, .int .i64 y), (3, .int .i64 z)]).run Try.prog w = .ok (.agg #[.pointer p, .int .i64 x, .int .i64 y, .int .i64 z]) w := by kernel_rfl
theorem tdiv_ediv {a b : Int} (ha : 0 ≤ a) : a.tdiv b = a / b := Int.tdiv_eq_ediv_of_nonneg ha
section
variable {w : World} {b bv : Nat} {d : Dk} {v : Vt} {K : Value → World → Prop}
theorem VNew_spec {fm each n : Int} (hd : DiskAt w b d) (hb1 : -9223372036854775808 ≤ fm ∧ fm ≤ 9223372036854775807)
    (h0 : vnew d.safe.length fm each n = none → K (.tuple #[.pointer none, i64v 1]) w)
    (h1 : ∀ v, vnew d.safe.length fm each n = some v → ∀ bv w1, Ext w w1 → w.heap.size ≤ bv → VaultAt w1 bv b v → K (.tuple #[ptr bv, i64v 0]) w1) : CALL Try.prog 99 #[ptr b, i64v fm, i64v each, i64v n] w K := by
  have hsz : d.safe.length ≤ 16384 := hd.1.2.2.1
  apply call_vault_New
  unfold B_vault_New
  simp only [X_eql_nil_74, Option.isNone_some, GS, X_lss]
  have bad : (fm < 0 ∨ each < 1 ∨ 16384 < each ∨ n < 0 ∨ (d.safe.length : Int) < fm ∨ ((d.safe.length : Int) - fm) / each < n) → K (.tuple #[.pointer none, i64v 1]) w := fun h => h0 (by unfold vnew; rw [if_pos h])
  by_cases c1 : fm < 0
  · have e1 : decide (fm < 0) = true := by simpa using c1
    simp only [e1, GS]
    exact bad (.inl c1)
  have e1 : decide (fm < 0) = false := by simpa using c1
  simp only [e1, GS, X_lss]
  by_cases c2 : each < 1
  · have e2 : decide (each < 1) = true := by simpa using c2
    simp only [e2, GS]
    exact bad (.inr (.inl c2))
  have e2 : decide (each < 1) = false := by simpa using c2
  simp only [e2, GS, X_gtr]
  by_cases c3 : 16384 < each
  · have e3 : decide (each > 16384) = true := by simpa using c3
    simp only [e3, GS]
    exact bad (.inr (.inr (.inl c3)))
  have e3 : decide (each > 16384) = false := by simpa using c3
  simp only [e3, GS, X_lss]
  by_cases c4 : n < 0
  · have e4 : decide (n < 0) = true := by simpa using c4
    simp only [e4, GS]
    exact bad (.inr (.inr (.inr (.inl c4))))
  have e4 : decide (n < 0) = false := by simpa using c4
  simp only [e4, GS]
  refine Size_spec hd ?_
  simp only [X_gtr]
  by_cases c5 : (d.safe.length : Int) < fm
  · have e5 : decide (fm > (d.safe.length : Int)) = true := by simpa using c5
    simp only [e5, GS]
    exact bad (.inr (.inr (.inr (.inr (.inl c5)))))
  have e5 : decide (fm > (d.safe.length : Int)) = false := by simpa using c5
  simp only [e5, GS]
  refine Size_spec hd ?_
  rw [X_sub, w64 (by omega) (by omega)]
  have hq0 : 0 ≤ ((d.safe.length : Int) - fm) / each := Int.ediv_nonneg (by omega) (by omega)
  have hq1 : ((d.safe.length : Int) - fm) / each ≤ (d.safe.length : Int) - fm := Int.ediv_le_self _ (by omega)
  refine X_of (run_quo 3 .i64 _ _ (by omega) _) ?_
  rw [tdiv_ediv (by omega), w64 (by omega) (by omega), X_gtr, condS_bool]
  by_cases c6 : ((d.safe.length : Int) - fm) / each < n
  · rw [if_pos (by simpa using c6)]
    exact bad (.inr (.inr (.inr (.inr (.inr c6)))))
  rw [if_neg (by simpa using c6)]
  refine X_of (run_build_196 _ _ _ _ _) ?_
  refine X_box ?_
  have hv : vnew d.safe.length fm each n = some ⟨fm.toNat, each.toNat, n.toNat⟩ := by unfold vnew; rw [if_neg (by omega)]
  refine h1 _ hv _ _ (newB_ext _ _ _) (Nat.le_refl _) ?_
  have hg := newB_get w (Value.agg #[ptr b, .int .i64 fm, .int .i64 each, .int .i64 n]).cells 196
  unfold VaultAt
  show (newB w (Value.agg #[ptr b, .int .i64 fm, .int .i64 each, .int .i64 n]).cells 196).heap[w.heap.size]? = some (.cells #[ptr b, .int .i64 ((fm.toNat : Nat) : Int), .int .i64 ((each.toNat : Nat) : Int), .int .i64 ((n.toNat : Nat) : Int)] 196 (0, 0))
  rw [Int.toNat_of_nonneg (by omega), Int.toNat_of_nonneg (by omega), Int.toNat_of_nonneg (by omega)]
  exact hg
theorem VNew_nil {x1 x2 x3 : Value} (h0 : K (.tuple #[.pointer none, i64v 2]) w) : CALL Try.prog 99 #[.pointer none, x1, x2, x3] w K := by
  apply call_vault_New
  unfold B_vault_New
  simp only [X_eql_nil_74, Option.isNone_none, GS]
  exact h0
theorem VRoom_spec {size : Nat} (hv : VaultAt w bv b v) (ok : v.ok size) (hK : K (i64v (v.room : Int)) w) : CALL Try.prog 101 #[ptr bv] w K := by
  obtain ⟨h1, h2, h3, h4⟩ := ok
  apply call_vault_Vault_Room
  unfold B_vault_Vault_Room
  simp only [X_eql_nil_124, Option.isNone_some, GS, X_nilS, X_field_196_2]
  refine X_loadL agg_3 hv (v := .int .i64 (v.each : Int)) rfl ?_
  rw [X_mul, w64 (by omega) (by omega), X_sub, w64 (by omega) (by omega)]
  have e : (v.each : Int) * 128 - 4 = (v.room : Int) := by unfold Vt.room; omega
  rw [e]; exact hK
theorem VRoom_nil (hK : K (i64v 0) w) : CALL Try.prog 101 #[.pointer none] w K := by
  apply call_vault_Vault_Room
  unfold B_vault_Vault_Room
  simp only [X_eql_nil_124, Option.isNone_none, GS]
  exact hK
theorem VLen_spec (hv : VaultAt w bv b v) (hK : K (i64v (v.n : Int)) w) : CALL Try.prog 103 #[ptr bv] w K := by
  apply call_vault_Vault_Len
  unfold B_vault_Vault_Len
  simp only [X_eql_nil_124, Option.isNone_some, GS, X_nilS, X_field_196_3]
  exact X_loadL agg_3 hv (v := .int .i64 (v.n : Int)) rfl hK
theorem VLen_nil (hK : K (i64v 0) w) : CALL Try.prog 103 #[.pointer none] w K := by
  apply call_vault_Vault_Len
  unfold B_vault_Vault_Len
  simp only [X_eql_nil_124, Option.isNone_none, GS]
  exact hK
theorem shelf_nil {x : Value} (hK : K (.tuple #[i64v 0, i64v 2]) w) : CALL Try.prog 141 #[.pointer none, x] w K := by
  apply call_vault_Vault_shelf
  unfold B_vault_Vault_shelf
  simp only [X_eql_nil_124, Option.isNone_none, GS]
  exact hK
theorem shelf_spec {size : Nat} {at_ : Int} (hv : VaultAt w bv b v) (ok : v.ok size) (h0 : (at_ < 0 ∨ (v.n : Int) ≤ at_) → K (.tuple #[i64v 0, i64v 1]) w)
    (h1 : ∀ i : Nat, at_ = i → i < v.n → ∀ w1, Ext w w1 → K (.tuple #[i64v ((v.fm + i * v.each : Nat) : Int), i64v 0]) w1) : CALL Try.prog 141 #[ptr bv, i64v at_] w K := by
  apply call_vault_Vault_shelf
  unfold B_vault_Vault_shelf
  simp only [X_eql_nil_124, Option.isNone_some, GS, X_lss]
  by_cases c1 : at_ < 0
  · have e1 : decide (at_ < 0) = true := by simpa using c1
    simp only [e1, GS]
    exact h0 (.inl c1)
  have e1 : decide (at_ < 0) = false := by simpa using c1
  simp only [e1, GS, X_nilS, X_field_196_3]
  refine X_loadL agg_3 hv (v := .int .i64 (v.n : Int)) rfl ?_
  simp only [X_geq, GS]
  rw [condS_bool]
  by_cases c2 : (v.n : Int) ≤ at_
  · rw [if_pos (by simpa using c2)]
    exact h0 (.inr c2)
  rw [if_neg (by simpa using c2)]
  obtain ⟨i, rfl⟩ : ∃ i : Nat, at_ = (i : Int) := ⟨at_.toNat, by omega⟩
  have hi : i < v.n := by omega
  have hle := Vt.at_le ok hi
  have h4 := ok.2.2.2
  refine ⟨Ext, Ext.frame, ?_⟩
  have hvd : (drewW w).heap[bv]? = some (.cells #[ptr b, .int .i64 (v.fm : Int), .int .i64 (v.each : Int), .int .i64 (v.n : Int)] 196 (0, 0)) := hv
  try simp only [XP_nilS, XP_field_196_1, XP_field_196_2]
  refine XR_loadL agg_3 hvd (v := .int .i64 (v.fm : Int)) rfl ?_
  try simp only [XP_nilS, XP_field_196_2]
  refine XR_loadL agg_3 hvd (v := .int .i64 (v.each : Int)) rfl ?_
  have em : ((i : Nat) : Int) * (v.each : Int) = ((i * v.each : Nat) : Int) := (Int.natCast_mul _ _).symm
  rw [XP_mul, em, w64 (by omega) (by omega), XP_add, w64 (by omega) (by omega)]
  exact h1 i rfl hi _ (Keep.drew _ _)
/-- Bytes are written, sector by sector. -/
theorem VPut_spec {at_ : Int} {x : Value} {bs : List UInt8} (hv : VaultAt w bv b v) (hd : DiskAt w b d) (ok : v.ok d.safe.length) (hws : d.ws.length + bs.length + 4 ≤ 900000) (hb : Bts w x bs)
    (hK : ∀ w1, DiskAt w1 b (vput v d at_ bs).1 → Step b w w1 → K (i64v (vput v d at_ bs).2) w1) : CALL Try.prog 100 #[ptr bv, i64v at_, x] w K := by
  have hb_lt := hd.lt b (foot_self _ _)
  obtain ⟨ax, cx, ex⟩ := Bts.slice hb
  have e0 : decide ((0 : Int) ≠ 0) = false := by decide
  have e1 : decide ((1 : Int) ≠ 0) = true := by decide
  apply call_vault_Vault_Put
  unfold B_vault_Vault_Put
  refine shelf_spec hv ok ?_ ?_
  · intro hbad
    simp only [X_extract0, X_extract1, X_neq, e1, GS]
    have e : vput v d at_ bs = (d, 1) := by unfold vput; rw [if_pos hbad]
    have := hK w (by rw [e]; exact hd) Step.refl
    rw [e] at this
    exact this
  rintro i rfl hi w1 hx1
  have hd1 := hd.ext hx1
  have hv1 : VaultAt w1 bv b v := hx1.get hv
  have s1 : Step b w w1 := Step.ext hx1 hb_lt
  have hgood : ¬ ((i : Int) < 0 ∨ (v.n : Int) ≤ (i : Int)) := by omega
  have hle := Vt.at_le ok hi
  have hsz := ok.2.2.2
  rw [ex]
  simp only [X_extract0, X_extract1, X_neq, e0, GS, X_len_27]
  refine VRoom_spec hv1 ok ?_
  rw [X_gtr, condS_bool]
  by_cases hroom : v.room < bs.length
  · rw [if_pos (by simp; omega)]
    have e : vput v d (i : Int) bs = (d, 4) := by unfold vput; rw [if_neg hgood, if_pos hroom]
    have := hK w1 (by rw [e]; exact hd1) s1
    rw [e] at this
    exact this
  rw [if_neg (by simp; omega)]
  have eput : vput v d (i : Int) bs = layAll d (v.fm + i * v.each) (be 4 bs.length ++ bs) := by unfold vput; rw [if_neg hgood, if_neg hroom]; rfl
  rw [eput] at hK
  rw [X_conv_3_22, wrap_u64, Int.emod_eq_of_lt (by omega) (by omega)]
  refine Put_spec (Bts.nil w1) (by simp) (by omega) ?_
  intro v2 w2 hx2 ho2
  have e4 : putB bs.length 4 = be 4 bs.length := rfl
  rw [List.nil_append, e4] at ho2
  rw [← ex]
  have hl4 : (be 4 bs.length).length = 4 := be_length _ _
  refine X_append_bts (base := w1.heap.size) Try.underlying27 el_5 ho2 ((hb.ext hx1).ext hx2) (by omega) hx2.size ?_
  intro v3 w3 ho3 hk3
  have hx3 : Ext w1 w3 := Ext.seq hx2 hk3 (fun j hj => (ho2.lt j hj.symm).1)
  have hd3 := hd1.ext hx3
  have hv3 : VaultAt w3 bv b v := hx3.get hv1
  have s3 := s1.trans (Step.ext hx3 (hd1.lt b (foot_self _ _)))
  have out3 : Outs w3 b v3 := hd3.outs ho3
  have hb3 := (own_bts ho3).1
  refine loopE (fun ρ wr => ∃ (d' : Dk) (to_ : Nat) (rest : List UInt8) (vr : Value), DiskAt wr b d' ∧ Step b w wr ∧ VaultAt wr bv b v ∧ Bts wr vr rest ∧ vr.ownBlock = v3.ownBlock ∧ Outs wr b v3 ∧ d'.ws.length + rest.length ≤ 900000 ∧ to_ + rest.length ≤ 20000000 ∧
      layAll d (v.fm + i * v.each) (be 4 bs.length ++ bs) = layAll d' to_ rest ∧ ρ 9 = vr ∧ ρ 7 = .int .i64 (to_ : Int) ∧ ρ 0 = ptr bv)
    (fun ρ wr => match ρ 9 with | .slice _ n _ => n | _ => 0)
    (fun ρ wr => ∃ d', DiskAt wr b d' ∧ Step b w wr ∧ layAll d (v.fm + i * v.each) (be 4 bs.length ++ bs) = (d', 0)) ?_ ?_ ?_
  · have hroom' : bs.length ≤ 16384 * 128 := by have := ok.2.1; unfold Vt.room at hroom; omega
    exact ⟨d, _, _, v3, hd3, s3, hv3, hb3, rfl, out3, by simp [hl4]; omega, by simp [hl4]; omega, rfl, rfl, rfl, rfl⟩
  · rintro J hJ ρ wr ⟨d', to_, rest, vr, hd', hs', hv', hbr, hvr, outr, hws', hto, heq, r9, r7, r0⟩
    obtain ⟨ar, cr, er⟩ := Bts.slice hbr
    rw [r9, er, X_len_27, X_gtr, condS_bool, ← er]
    by_cases hr0 : rest = []
    · rw [if_neg (by rw [hr0]; simp)]
      refine hJ _ _ ⟨d', hd', hs', ?_⟩
      rw [heq, hr0, layAll_nil]
    have hpos : 0 < rest.length := List.length_pos_iff.2 hr0
    rw [if_pos (by simp; omega), er, X_len_27, X_min, ← er]
    obtain ⟨n, hn⟩ : ∃ n : Nat, n = min rest.length 128 := ⟨_, rfl⟩
    have en : min (rest.length : Int) 128 = (n : Int) := by omega
    rw [en]
    have et : rest.take n = rest.take 128 := by
      rw [hn]
      rcases Nat.le_total rest.length 128 with h | h
      · rw [Nat.min_eq_left h, List.take_of_length_le (Nat.le_refl _), List.take_of_length_le h]
      · rw [Nat.min_eq_right h]
    have ed : rest.drop n = rest.drop 128 := by
      rw [hn]
      rcases Nat.le_total rest.length 128 with h | h
      · rw [Nat.min_eq_left h, List.drop_eq_nil_of_le (Nat.le_refl _), List.drop_eq_nil_of_le h]
      · rw [Nat.min_eq_right h]
    refine ⟨Ext, Ext.frame, ?_⟩
    have hvd : (drewW wr).heap[bv]? = some (.cells #[ptr b, .int .i64 (v.fm : Int), .int .i64 (v.each : Int), .int .i64 (v.n : Int)] 196 (0, 0)) := hv'
    rw [r0, r7]
    try simp only [XP_nilS, XP_field_196_0]
    refine XR_loadL agg_74 hvd (v := ptr b) rfl ?_
    have hbd := hbr.drew
    obtain ⟨u, hu, hub, hublk⟩ := cut_hi Try.underlying27 info_5 hbd (kh := .i64) n rfl (by omega)
    obtain ⟨u2, hu2, hub2, hublk2⟩ := cut_lo Try.underlying27 info_5 sz_5 hbd (kl := .i64) n rfl (by omega)
    refine XP_of hu ?_
    have hdd := hd'.ext (Keep.drew (fun _ => False) wr)
    have outd : Outs (drewW wr) b v3 := outr
    refine Write_spec hdd (by omega) hub (fun _ k hk hf => (outd k (by rw [← hvr, ← hublk]; exact hk)).1 hf) ?_
    intro w5 hd5 s5
    rw [et] at hd5 ⊢
    have s5' : Step b w w5 := hs'.trans ((Step.ext (Keep.drew _ _) (hd'.lt b (foot_self _ _))).trans s5)
    have hcons := layAll_cons d' to_ hr0
    rw [X_neq, condS_bool]
    by_cases he : (d'.write (to_ : Int) (rest.take 128)).2 = 0
    · rw [if_neg (by simpa using he)]
      rw [if_neg (by simpa using he)] at hcons
      refine X_of (hu2 _) ?_
      rw [X_add, w64 (by omega) (by omega)]
      have hv5 : VaultAt w5 bv b v := s5.keep.get (hdd.notin hvd (by decide) (by decide) (by decide)) hvd
      have hws5 := Dk.write_ws d' (to_ : Int) (rest.take 128)
      have out5 := outd.step s5
      have hb5 : Bts w5 u2 (rest.drop 128) := by
        rw [← ed]
        exact hub2.keep s5.keep (fun k hk => (outd k (by rw [← hvr, ← hublk2]; exact hk)).1)
      obtain ⟨a5, c5, e5⟩ := Bts.slice hb5
      show _ ∧ _
      refine ⟨⟨_, to_ + 1, rest.drop 128, u2, hd5, s5', hv5, hb5, hublk2.trans hvr, out5, by rw [List.length_drop]; omega, by rw [List.length_drop]; omega, heq.trans hcons, rfl, rfl, r0⟩, ?_⟩
      show (match u2 with | .slice _ n _ => n | _ => 0) < _
      rw [e5, er]
      show (rest.drop 128).length < rest.length
      rw [List.length_drop]
      omega
    · rw [if_pos (by simpa using he)]
      rw [if_pos (by simpa using he)] at hcons
      show K (i64v (d'.write (to_ : Int) (rest.take 128)).2) w5
      have := hK w5 (by rw [heq, hcons]; exact hd5) s5'
      rw [heq, hcons] at this
      exact this
  · rintro ρ wr ⟨d', hd', hs', heq⟩
    have := hK wr (by rw [heq]; exact hd') hs'
    rw [heq] at this
    exact this
theorem VPut_nil {x y : Value} (hK : K (i64v 2) w) : CALL Try.prog 100 #[.pointer none, x, y] w K := by
  have e2 : decide ((2 : Int) ≠ 0) = true := by decide
  apply call_vault_Vault_Put
  unfold B_vault_Vault_Put
  refine shelf_nil ?_
  simp only [X_extract0, X_extract1, X_neq, e2, GS]
  exact hK
theorem VGet_nil {x : Value} (hK : K (.tuple #[.slice none 0 0, i64v 2]) w) : CALL Try.prog 102 #[.pointer none, x] w K := by
  have e2 : decide ((2 : Int) ≠ 0) = true := by decide
  apply call_vault_Vault_Get
  unfold B_vault_Vault_Get
  refine shelf_nil ?_
  simp only [X_extract0, X_extract1, X_neq, e2, GS]
  exact hK
end
end Go.Proofs.Ytggggfcgnkllgaa
end
section
/- A container's bytes, taken apart. -/
set_option linter.unusedVariables false
set_option linter.unusedSimpArgs false
namespace Go.Proofs.Ytggggfcgnkllgaa
open Go Go.Sh Go.RowKit
attribute [local irreducible] X XU XP XR CALL loopS resC closS
theorem tk {α : Type} (a b : List α) {n : Nat} (h : a.length = n) : (a ++ b).take n = a := by subst h; simp
theorem dr {α : Type} (a b : List α) {n : Nat} (h : a.length = n) : (a ++ b).drop n = b := by subst h; simp
theorem be4_num {l : List UInt8} (h : l.length = 4) : be 4 (num l) = l := by have := be_num l; rwa [h] at this
theorem be2_num {l : List UInt8} (h : l.length = 2) : be 2 (num l) = l := by have := be_num l; rwa [h] at this
theorem num_be4 {n : Nat} (h : n < 4294967296) : num (be 4 n) = n := by rw [num_be]; exact Nat.mod_eq_of_lt h
theorem num_be2 {n : Nat} (h : n < 65536) : num (be 2 n) = n := by rw [num_be]; exact Nat.mod_eq_of_lt h
theorem num_lt4 {l : List UInt8} (h : l.length = 4) : num l < 4294967296 := by have := num_lt l; rw [h] at this; exact this
theorem num_lt2 {l : List UInt8} (h : l.length = 2) : num l < 65536 := by have := num_lt l; rw [h] at this; exact this
def Fit (l : List Pp) : Prop := l.length < 65536 ∧ ∀ p ∈ l, p.bs.length < 65536
theorem fit_chk {l : List Pp} (h : chk l = 0) : Fit l := by
  obtain ⟨_, k2, k3, _, _⟩ := chk_ok h
  exact ⟨by omega, fun p hp => by have := k3 p hp; omega⟩
theorem body_split {id : Nat} {l : List Pp} (hid : id < 4294967296) (hf : Fit l) : num ((bodyP id l).take 4) = id ∧ num (((bodyP id l).drop 4).take 2) = l.length ∧
    ((bodyP id l).take (6 + 38 * l.length)).drop 6 = rowsP l ∧ (bodyP id l).drop (6 + 38 * l.length) = dataP l := by
  have e : bodyP id l = be 4 id ++ (be 2 l.length ++ (rowsP l ++ dataP l)) := by simp [bodyP, List.append_assoc]
  have e2 : bodyP id l = (be 4 id ++ be 2 l.length) ++ (rowsP l ++ dataP l) := by simp [bodyP, List.append_assoc]
  have e3 : bodyP id l = (be 4 id ++ be 2 l.length ++ rowsP l) ++ dataP l := rfl
  refine ⟨?_, ?_, ?_, ?_⟩
  · rw [e, tk _ _ (be_length 4 id), num_be4 hid]
  · rw [e, dr _ _ (be_length 4 id), tk _ _ (be_length 2 _), num_be2 hf.1]
  · rw [e3, tk _ _ (by simp [rowsP_len]; omega), dr _ _ (by simp)]
  · rw [e3, dr _ _ (by simp [rowsP_len]; omega)]
theorem body_of {x : List UInt8} {n : Nat} (h : 6 + 38 * n ≤ x.length) (hn : num ((x.drop 4).take 2) = n) : x = be 4 (num (x.take 4)) ++ be 2 n ++ ((x.take (6 + 38 * n)).drop 6) ++ x.drop (6 + 38 * n) := by
  rw [be4_num (by simp; omega), ← hn, be2_num (by simp; omega), hn]
  have e1 : x.take 4 ++ (x.drop 4).take 2 = x.take 6 := by rw [show (6 : Nat) = 4 + 2 from rfl, List.take_add]
  have e2 : x.take 6 ++ (x.take (6 + 38 * n)).drop 6 = x.take (6 + 38 * n) := by
    have : x.take 6 = (x.take (6 + 38 * n)).take 6 := by rw [List.take_take]; congr 1; omega
    rw [this, List.take_append_drop]
  rw [e1, e2, List.take_append_drop]
def kyOf (rows : List UInt8) (h : 38 ≤ rows.length) : Ky := ⟨rows.take 32, num (((rows.take 38).drop 32).take 4), by simp; omega, num_lt4 (by simp; omega)⟩
theorem row_of {rows : List UInt8} (h : 38 ≤ rows.length) {d : List UInt8} (hd : d.length = num (((rows.take 38).drop 32).drop 4)) : rows = rowP ⟨kyOf rows h, d⟩ ++ rows.drop 38 := by
  have e : rowP ⟨kyOf rows h, d⟩ = rows.take 38 := by
    unfold rowP kyOf
    show rows.take 32 ++ be 4 (num (((rows.take 38).drop 32).take 4)) ++ be 2 d.length = _
    rw [be4_num (by simp; omega), hd, be2_num (by simp; omega), List.append_assoc, List.take_append_drop]
    have : rows.take 32 = (rows.take 38).take 32 := by rw [List.take_take]; congr 1
    rw [this, List.take_append_drop]
  rw [e, List.take_append_drop]
theorem row_split {p : Pp} {l : List Pp} (hp : p.bs.length < 65536) (h : 38 ≤ (rowsP (p :: l)).length) : kyOf (rowsP (p :: l)) h = p.k ∧ num ((((rowsP (p :: l)).take 38).drop 32).drop 4) = p.bs.length ∧ (rowsP (p :: l)).drop 38 = rowsP l := by
  have e : rowsP (p :: l) = rowP p ++ rowsP l := by simp [rowsP]
  have e0 : rowP p = p.k.sum ++ (be 4 p.k.num ++ be 2 p.bs.length) := by simp [rowP]
  have e38 : (rowsP (p :: l)).take 38 = rowP p := by rw [e, tk _ _ (rowP_len p)]
  have e6 : ((rowsP (p :: l)).take 38).drop 32 = be 4 p.k.num ++ be 2 p.bs.length := by rw [e38, e0, dr _ _ p.k.len]
  refine ⟨Ky.ext' ?_ ?_, ?_, ?_⟩
  · show (rowsP (p :: l)).take 32 = _
    rw [e, e0, List.append_assoc, tk _ _ p.k.len]
  · show num ((((rowsP (p :: l)).take 38).drop 32).take 4) = _
    rw [e6, tk _ _ (be_length 4 _), num_be4 p.k.lt]
  · rw [e6, dr _ _ (be_length 4 _), num_be2 hp]
  · rw [e, dr _ _ (rowP_len p)]
theorem dataP_cons (p : Pp) (l : List Pp) : dataP (p :: l) = p.bs ++ dataP l := by simp [dataP]
theorem rowsP_app (l : List Pp) (p : Pp) : rowsP (l ++ [p]) = rowsP l ++ rowP p := by simp [rowsP]
theorem dataP_app (l : List Pp) (p : Pp) : dataP (l ++ [p]) = dataP l ++ p.bs := by simp [dataP]
/-- How far a container has been taken apart: what is told, what rows and what bytes are left. -/
structure Parsing (x : List UInt8) (id n : Nat) (done : List Pp) (rows data : List UInt8) : Prop where
  eq : x = be 4 id ++ be 2 n ++ (rowsP done ++ rows) ++ (dataP done ++ data)
  len : rows.length + 38 * done.length = 38 * n
  fit : ∀ p ∈ done, p.bs.length < 65536
  all : ∀ id' l', id' < 4294967296 → Fit l' → x = bodyP id' l' → id' = id ∧ ∃ r, l' = done ++ r ∧ rows = rowsP r ∧ data = dataP r
theorem parsing_start {x : List UInt8} (h : 6 + 38 * num ((x.drop 4).take 2) ≤ x.length) :
    Parsing x (num (x.take 4)) (num ((x.drop 4).take 2)) [] ((x.take (6 + 38 * num ((x.drop 4).take 2))).drop 6) (x.drop (6 + 38 * num ((x.drop 4).take 2))) where
  eq := by
    show x = be 4 _ ++ be 2 _ ++ ([] ++ _) ++ ([] ++ _)
    rw [List.nil_append, List.nil_append]
    exact body_of h rfl
  len := by simp; omega
  fit := by simp
  all := by
    intro id' l' hid hf e
    obtain ⟨h1, h2, h3, h4⟩ := body_split hid hf
    rw [← e] at h1 h2 h3 h4
    refine ⟨h1.symm, l', rfl, ?_, ?_⟩
    · rw [h2]; exact h3
    · rw [h2]; exact h4
theorem no_short {x : List UInt8} (h : x.length < 6) (id l) : x ≠ bodyP id l := by
  intro e
  have := bodyP_len id l
  rw [← e] at this
  omega
theorem no_many {x : List UInt8} (h : ¬ 6 + 38 * num ((x.drop 4).take 2) ≤ x.length) {id : Nat} {l : List Pp} (hid : id < 4294967296) (hf : Fit l) : x ≠ bodyP id l := by
  intro e
  obtain ⟨h1, h2, _, _⟩ := body_split hid hf
  rw [← e] at h2
  have := bodyP_len id l
  rw [← e] at this
  omega
theorem Parsing.more {x : List UInt8} {id n : Nat} {done : List Pp} {rows data : List UInt8} (p : Parsing x id n done rows data) (h : 38 ≤ rows.length) (hs : num (((rows.take 38).drop 32).drop 4) ≤ data.length) :
    Parsing x id n (done ++ [⟨kyOf rows h, data.take (num (((rows.take 38).drop 32).drop 4))⟩]) (rows.drop 38) (data.drop (num (((rows.take 38).drop 32).drop 4))) where
  eq := by
    have hr := row_of h (d := data.take (num (((rows.take 38).drop 32).drop 4))) (by rw [List.length_take]; omega)
    rw [rowsP_app, dataP_app, List.append_assoc (rowsP done), ← hr, List.append_assoc (dataP done), List.take_append_drop]
    exact p.eq
  len := by have := p.len; simp; omega
  fit := by
    intro q hq
    rcases List.mem_append.1 hq with hq | hq
    · exact p.fit q hq
    · rw [List.mem_singleton.1 hq]
      show (data.take _).length < 65536
      have : num (((rows.take 38).drop 32).drop 4) < 65536 := num_lt2 (by simp; omega)
      rw [List.length_take]
      omega
  all := by
    intro id' l' hid hf e
    obtain ⟨h1, r, h2, h3, h4⟩ := p.all id' l' hid hf e
    refine ⟨h1, ?_⟩
    cases r with
    | nil => rw [h3] at h; simp [rowsP] at h
    | cons q r =>
      subst h3
      obtain ⟨g1, g2, g3⟩ := row_split (hf.2 q (by rw [h2]; simp)) h
      rw [g1, g2, g3, h4, dataP_cons, tk _ _ rfl, dr _ _ rfl]
      exact ⟨r, by rw [h2]; simp, rfl, rfl⟩
theorem Parsing.stuck {x : List UInt8} {id n : Nat} {done : List Pp} {rows data : List UInt8} (p : Parsing x id n done rows data) (h : 38 ≤ rows.length) (hs : ¬ num (((rows.take 38).drop 32).drop 4) ≤ data.length) {id' : Nat} {l' : List Pp} (hid : id' < 4294967296) (hf : Fit l') : x ≠ bodyP id' l' := by
  intro e
  obtain ⟨h1, r, h2, h3, h4⟩ := p.all id' l' hid hf e
  cases r with
  | nil => rw [h3] at h; simp [rowsP] at h
  | cons q r =>
    subst h3
    obtain ⟨g1, g2, g3⟩ := row_split (hf.2 q (by rw [h2]; simp)) h
    rw [g2, h4, dataP_cons] at hs
    exact hs (by simp)
theorem Parsing.done {x : List UInt8} {id n : Nat} {done : List Pp} (p : Parsing x id n done [] []) (hn : n < 65536) : x = bodyP id done ∧ Fit done := by
  have h1 := p.len
  have h2 := p.eq
  have e : n = done.length := by simp at h1; omega
  subst e
  refine ⟨?_, hn, p.fit⟩
  rw [h2]
  simp [bodyP]
theorem Parsing.rest {x : List UInt8} {id n : Nat} {done : List Pp} {data : List UInt8} (p : Parsing x id n done [] data) (hd : data ≠ []) {id' : Nat} {l' : List Pp} (hid : id' < 4294967296) (hf : Fit l') : x ≠ bodyP id' l' := by
  intro e
  obtain ⟨h1, r, h2, h3, h4⟩ := p.all id' l' hid hf e
  cases r with
  | nil => exact hd h4
  | cons q r =>
    have := rowsP_len (q :: r)
    rw [← h3] at this
    simp at this
/-- A container that is none: no pieces have these bytes. -/
theorem lay_inj {id id' : Nat} {l l' : List Pp} (hid : id < 4294967296) (hid' : id' < 4294967296) (hf : Fit l) (hf' : Fit l') (h : bodyP id l = bodyP id' l') : id = id' ∧ l = l' := by
  have key : ∀ (l l' : List Pp), (∀ p ∈ l, p.bs.length < 65536) → (∀ p ∈ l', p.bs.length < 65536) → rowsP l = rowsP l' → dataP l = dataP l' → l = l' := by
    intro l
    induction l with
    | nil =>
      intro l' _ _ hr _
      have := rowsP_len l'
      rw [← hr] at this
      exact (List.eq_nil_of_length_eq_zero (by simp [rowsP] at this; omega)).symm
    | cons p l ih =>
      intro l' h1 h2 hr hd
      cases l' with
      | nil =>
        have := rowsP_len (p :: l)
        rw [hr] at this
        simp [rowsP] at this
      | cons q r =>
        have hlen : 38 ≤ (rowsP (p :: l)).length := by rw [rowsP_len, List.length_cons]; omega
        have hlen' : 38 ≤ (rowsP (q :: r)).length := by rw [rowsP_len, List.length_cons]; omega
        obtain ⟨g1, g2, g3⟩ := row_split (h1 p (by simp)) hlen
        obtain ⟨k1, k2, k3⟩ := row_split (h2 q (by simp)) hlen'
        have e1 : p.k = q.k := by
          rw [← g1, ← k1]
          congr 1
        have e2 : p.bs.length = q.bs.length := by rw [← g2, ← k2, hr]
        rw [dataP_cons, dataP_cons] at hd
        obtain ⟨e3, e4⟩ := List.append_inj hd e2
        have e5 := ih r (fun p hp => h1 p (by simp [hp])) (fun p hp => h2 p (by simp [hp])) (by rw [← g3, ← k3, hr]) e4
        rw [e5]
        congr 1
        cases p; cases q
        simp only at e1 e3
        rw [e1, e3]
  obtain ⟨h1, h2, h3, h4⟩ := body_split hid hf
  obtain ⟨k1, k2, k3, k4⟩ := body_split hid' hf'
  rw [h] at h1 h2 h3 h4
  have hl : l.length = l'.length := by rw [← h2, ← k2]
  refine ⟨h1.symm.trans k1, key l l' hf.2 hf'.2 ?_ ?_⟩
  · rw [← h3, ← k3, hl]
  · rw [← h4, ← k4, hl]
end Go.Proofs.Ytggggfcgnkllgaa
end
section
/- What is told of a container, and Take. -/
set_option linter.unusedVariables false
set_option linter.unusedSimpArgs false
namespace Go.Proofs.Ytggggfcgnkllgaa
open Go Go.Sh Go.RowKit
attribute [local irreducible] X XU XP XR CALL loopS resC closS
structure Told (w : World) (base q : Nat) (vl : Value) (cs : List Pc) : Prop where
  cell : w.heap[q]? = some (.cells #[vl] 100 (0, 0))
  low : base ≤ q
  row : OwnK 34 115 Pc.cs w base vl cs
  data : ∀ c ∈ cs, w.ownsRow base 5 1 c.dv c.p.bs.length (B8 c.p.bs)
  apart : cs.Pairwise (fun c d => ∀ g, c.dv.ownBlock = some g → d.dv.ownBlock ≠ some g)
theorem Told.inn {w : World} {base q : Nat} {vl : Value} {cs : List Pc} (h : Told w base q vl cs) : ∀ c ∈ cs, c.In w := fun c hc => (own_bts (h.data c hc)).1
theorem Told.keep {w w1 : World} {base q : Nat} {vl : Value} {cs : List Pc} {D : Nat → Prop} (h : Told w base q vl cs) (k : Keep D w w1) (hd : ∀ g, base ≤ g → (∀ cs' fr, w.heap[g]? = some (.cells cs' 100 fr) ∨ w.heap[g]? = some (.cells cs' 115 fr) ∨ w.heap[g]? = some (.cells cs' 5 fr) → ¬ D g)) : Told w1 base q vl cs where
  cell := k.get (hd q h.low _ _ (.inl h.cell)) h.cell
  low := h.low
  row := h.row.keep k (fun g hg => by obtain ⟨cs', hc⟩ := own_blkT h.row hg; exact hd g (h.row.lt g hg).1 _ _ (.inr (.inl hc)))
  data := fun c hc => own_keepD (h.data c hc) k (fun g hg => by obtain ⟨cs', hc'⟩ := own_blkT (h.data c hc) hg; exact hd g ((h.data c hc).lt g hg).1 _ _ (.inr (.inr hc')))
  apart := h.apart
theorem Told.ext {w w1 : World} {base q : Nat} {vl : Value} {cs : List Pc} (h : Told w base q vl cs) (k : Ext w w1) : Told w1 base q vl cs := h.keep k (fun _ _ _ _ _ h => h)
theorem Told.slice {w : World} {base q : Nat} {vl : Value} {cs : List Pc} (h : Told w base q vl cs) : RowK 34 Pc.cs w vl cs := h.row.rowK (by decide) Pc.len
section
variable {w : World} {K : Value → World → Prop}
set_option maxHeartbeats 1000000 in
theorem told_spec {base q : Nat} {vl x : Value} {cs : List Pc} {k : Ky} {bs : List UInt8} (ht : Told w base q vl cs) (hb : Bts w x bs) (hl : bs.length ≤ 1000000000) (hn : cs.length ≤ 1000000)
    (hK : ∀ vl' dv w1, Keep (fun i => i = q ∨ vl.ownBlock = some i) w w1 → Told w1 base q vl' (cs ++ [⟨⟨k, bs⟩, dv⟩]) → K (.tuple #[]) w1) : CALL Try.prog 139 #[k.v, x, ptr q] w K := by
  have hqlt := lt_of_blk ht.cell
  apply call_cont_Take_1
  unfold B_cont_Take_1
  refine X_box ?_
  have hx1 := newB_ext w k.v.cells 113
  have hg1 := newB_get w k.v.cells 113
  generalize newB w k.v.cells 113 = w1 at hx1 hg1 ⊢
  have hxd := hx1.trans (Keep.drew (fun _ => False) w1)
  have hgd : (drewW w1).heap[w.heap.size]? = some (.cells k.v.cells 113 (0, 0)) := hg1
  have td := ht.ext hxd
  have hbd := hb.ext hxd
  refine ⟨Keep (fun g => vl.ownBlock = some g), Keep.frame _, ?_⟩
  generalize drewW w1 = wd at hxd hgd td hbd ⊢
  refine XR_ok (Keep.frame _) (fun w' kk => run_loadAt agg_100 (cell_blk (kk.get (own_neT td.row td.cell (by decide)) td.cell))) ?_
  refine XR_ok (Keep.frame _) (fun w' kk => load_cells (l := k.cs) Try.underlying113 agg_113 info_113 (by rw [sz_113, Ky.cs_len]) (fun j u hj => ?_)) ?_
  · have hg' := kk.get (own_neT td.row hgd (by decide)) hgd
    rw [add_plain, Nat.zero_add, cell_blk hg']
    simpa [Value.cells] using hj
  refine X_append_btsW (base := base) Try.underlying27 el_5 (n := 0) (xs := []) (World.ownsRow_nil wd base 5 1) hbd (by omega) (Nat.le_trans ht.low (by have := hxd.size; omega)) ?_
  intro dv w2 ho hk hnew
  have hx2 : Ext wd w2 := hk.mono (fun i _ h => by cases h)
  have ho : w2.ownsRow base 5 1 dv bs.length (B8 bs) := by simpa using ho
  obtain ⟨a, c, e⟩ := Bts.slice (own_bts ho).1
  refine ⟨Keep.ext hx2, ?_⟩
  subst e
  refine XP_of (fun w' => run_build_115b k bs w') ?_
  refine X_buildSliceK Try.underlying100 el_115 (by decide) (by decide) (Pc.len _) ?_
  have hx3 := newB_ext w2 (Pc.cs ⟨⟨k, bs⟩, .slice a bs.length c⟩).toArray 115
  have hg3 := newB_get w2 (Pc.cs ⟨⟨k, bs⟩, .slice a bs.length c⟩).toArray 115
  show Keep _ w2 (newB w2 (Pc.cs ⟨⟨k, bs⟩, .slice a bs.length c⟩).toArray 115) ∧ X _ _ (newB w2 (Pc.cs ⟨⟨k, bs⟩, .slice a bs.length c⟩).toArray 115) _
  generalize newB w2 (Pc.cs ⟨⟨k, bs⟩, .slice a bs.length c⟩).toArray 115 = w3 at hx3 hg3 ⊢
  refine ⟨Keep.ext hx3, ?_⟩
  have hx23 := hx2.trans hx3
  have t3 := td.ext hx23
  have ho3 := own_extD ho hx3
  have hrow : RowK 34 Pc.cs w3 (.slice (some ⟨w2.heap.size, 0, none⟩) 1 1) [⟨⟨k, bs⟩, .slice a bs.length c⟩] := by
    refine RowK.ofK (T := 115) (fr := (0, 0)) (by decide) Pc.len ?_ rfl (by decide)
    rw [hg3]
    unfold cellsK
    simp
  refine X_appendK Try.underlying100 el_115 (by decide) Pc.len (fun x hx => by rw [List.mem_singleton.1 hx]; exact Pc.one (own_bts ho3).1) t3.row hrow (by simp; omega) (by decide) (Nat.le_trans t3.low (Nat.le_of_lt (lt_of_blk t3.cell))) ?_
  intro vl' w4 ho4 hk4
  have hk4' : Keep (fun g => vl.ownBlock = some g) w3 w4 := hk4.mono (fun i _ h => h.symm)
  refine ⟨hk4', ?_⟩
  have hq4 := hk4'.get (own_neT t3.row t3.cell (by decide)) t3.cell
  obtain ⟨a', c', e'⟩ := (ho4.rowK (by decide) Pc.len).slice
  refine XU_store info_100 sz_100 (by rw [e']; rfl) hq4 (by show 0 < 1; decide) (by decide) ?_
  have hk5 := setAt_keep w4 q (#[vl].setIfInBounds 0 vl') 100 (0, 0)
  have hs5 : (setAt w4 q (#[vl].setIfInBounds 0 vl') 100 (0, 0)).heap[q]? = some (.cells #[vl'] 100 (0, 0)) := setAt_same (lt_of_blk hq4)
  generalize setAt w4 q (#[vl].setIfInBounds 0 vl') 100 (0, 0) = w5 at hk5 hs5 ⊢
  have hx03 : Ext w w3 := hxd.trans hx23
  refine hK vl' (.slice a bs.length c) w5 ?_ ⟨hs5, ht.low, ho4.keep hk5 (fun g hg hgq => ?_), ?_, ?_⟩
  · refine Keep.trans (Keep.trans (Keep.ext hx03) (hk4'.mono (fun i _ h => .inr h))) (hk5.mono (fun i _ h => .inl h))
  · subst hgq
    exact own_neT ho4 hq4 (by decide) hg
  · have both : ∀ {v : Value} {bb : List UInt8}, w3.ownsRow base 5 1 v bb.length (B8 bb) → w5.ownsRow base 5 1 v bb.length (B8 bb) := by
      intro v bb h
      have h4 : w4.ownsRow base 5 1 v bb.length (B8 bb) := own_keepD h hk4' (fun g hg hg' => own_neO h t3.row (by decide) hg hg')
      refine own_keepD h4 hk5 (fun g hg hgq => ?_)
      subst hgq
      exact own_neT h4 hq4 (by decide) hg
    intro d hd
    rcases List.mem_append.1 hd with hd | hd
    · exact both (t3.data d hd)
    · rw [List.mem_singleton.1 hd]
      exact both ho3
  · rw [List.pairwise_append]
    refine ⟨ht.apart, by simp, fun d hd d' hd' g hg hg' => ?_⟩
    rw [List.mem_singleton.1 hd'] at hg'
    rcases hnew g hg' with h | h
    · cases h
    · have := ((td.data d hd).lt g hg).2
      omega
end
theorem cut_hi3 {P : Program} {T e : TypeId} (hT : P.underlying T = some (.slice e)) (hi : infoB P e = true) {v : Value} {bs : List UInt8} {w0 : World} (hb : Bts w0 v bs) {kh km : IntKind} {hj mj : Int} (h' : Nat) (e2 : hj = h') (e3 : mj = h') (h1 : h' ≤ bs.length) :
    ∃ u, (∀ w, (Instr.sliceAt T v none (some (.int kh hj)) (some (.int km mj))).run P w = .ok u w) ∧ Bts w0 u (bs.take h') ∧ u.ownBlock = v.ownBlock := by
  subst e2; subst e3
  obtain ⟨a, c, rfl, g1, g2, g3⟩ := hb
  refine ⟨.slice (if h' = 0 then a else a.map (·.add 0)) h' h', fun w => ?_, ?_, ?_⟩
  · have q1 : h' ≤ c := by omega
    simp [Instr.sliceAt, Instr.slice, run_underlying hT, Instr.sliceBounds, Instr.sliceBound, asIntOf, sizeOf_run hi, q1]
  · have hlen : (bs.take h').length = h' := by rw [List.length_take]; omega
    rw [map_add0]
    refine ⟨a, h', by rw [hlen], by rw [hlen]; exact Nat.le_refl _, by omega, fun h0 => ?_⟩
    rw [hlen] at h0
    obtain ⟨ad, rfl, hc⟩ := g3 (by omega)
    refine ⟨ad, rfl, fun j u hj => hc j u ?_⟩
    rw [List.getElem?_take] at hj
    split at hj
    · exact hj
    · cases hj
  · rw [map_add0]
    cases a <;> rfl
end Go.Proofs.Ytggggfcgnkllgaa
end
section
/- each, and Take. -/
set_option linter.unusedVariables false
set_option linter.unusedSimpArgs false
namespace Go.Proofs.Ytggggfcgnkllgaa
open Go Go.Sh Go.RowKit
attribute [local irreducible] X XU XP XR CALL loopS resC closS
theorem cw32 {n : Nat} (h : n < 4294967296) : IntKind.u32.wrap (n : Int) = (n : Int) := by rw [wrap_u32]; omega
theorem getR4' {b : List UInt8} (h : 4 ≤ b.length) : getR b 0 4 = (num (b.take 4), b.drop 4, 0) := by
  have e4 : (4 : Int).toNat = 4 := rfl
  simp only [getR, e4]
  rw [if_neg (by simp), if_neg (by decide), if_neg (by omega)]
theorem getR2' {b : List UInt8} (h : 2 ≤ b.length) : getR b 0 2 = (num (b.take 2), b.drop 2, 0) := by
  have e4 : (2 : Int).toNat = 2 := rfl
  simp only [getR, e4]
  rw [if_neg (by simp), if_neg (by decide), if_neg (by omega)]
/-- A slice of the opened bytes: where it lies. -/
structure Part (w : World) (B : Nat) (v : Value) (bs : List UInt8) : Prop where
  bts : Bts w v bs
  blk : ∀ g, v.ownBlock = some g → g = B
theorem Part.keep {w w1 : World} {B : Nat} {v : Value} {bs : List UInt8} {D : Nat → Prop} (h : Part w B v bs) (k : Keep D w w1) (hd : ¬ D B) : Part w1 B v bs :=
  ⟨h.bts.keep k (fun g hg => by rw [h.blk g hg]; exact hd), h.blk⟩
theorem Part.ext {w w1 : World} {B : Nat} {v : Value} {bs : List UInt8} (h : Part w B v bs) (k : Ext w w1) : Part w1 B v bs := h.keep k (fun h => h)
section
variable {w : World} {K : Value → World → Prop}
set_option maxHeartbeats 4000000 in
theorem each_spec {v : Value} {b : List UInt8} {base q : Nat} {vl : Value} (hb : Bts w v b) (hl : b.length ≤ 1000000) (ht : Told w base q vl [])
    (h0 : (∀ id l, id < 4294967296 → Fit l → openB b ≠ some (bodyP id l)) → ∀ u vl' cs w1, Keep (fun g => base ≤ g) w w1 → Told w1 base q vl' cs → K (.tuple #[u, .bool false]) w1)
    (h1 : ∀ id l, id < 4294967296 → Fit l → openB b = some (bodyP id l) → ∀ vl' cs w1, pl cs = l → Keep (fun g => base ≤ g) w w1 → Told w1 base q vl' cs → K (.tuple #[.int .u32 (id : Int), .bool true]) w1) :
    CALL Try.prog 138 #[v, .func (.func 139) #[] #[ptr q]] w K := by
  have hqlt := lt_of_blk ht.cell
  apply call_cont_each
  unfold B_cont_each
  refine Open_spec hb (by omega) (fun hn w1 hx1 => ?_) (fun x v1 w1 hx hx1 ho1 => ?_)
  · (repeat (simp only [XP_extract0, XP_extract1, XP_extract2, XP_extract3, X_extract0, X_extract1, X_extract2, X_extract3, X_nilS, X_eql_nil_74, X_neq_nil_74, X_eql_nil_124, X_neq_nil_124, X_eql, X_neq, X_lss, X_leq, X_gtr, X_geq, X_not, X_min, X_max, X_len_27, X_len_9, X_len_79, XP_nilS, XP_eql, XP_neq, XP_lss, XP_leq, XP_gtr, XP_geq, XP_not, XP_min, XP_max, XP_len_27, XP_len_9, XP_eql_nil_74, X_str_eql, X_str_neq, XP_str_eql, XP_str_neq, GS, gs_u, decide_true, decide_false, Option.isNone_some, Option.isSome_some, Option.isNone_none, Option.isSome_none, eq_self, Bool.not_true, Bool.not_false, Int.reduceEq, Int.reduceNe, Int.reduceLT, Int.reduceLE, Int.reduceGT, Int.reduceGE]))
    exact h0 (fun id l _ _ h => by rw [hn] at h; cases h) _ _ _ _ (Keep.ext hx1) (ht.ext hx1)
  have hxl : x.length ≤ b.length := by
    unfold openB at hx
    split at hx
    · cases hx
    · split at hx
      · injection hx with hx
        rw [← hx, List.length_take]
        omega
      · cases hx
  have hb1 := (own_bts ho1).1
  obtain ⟨a1, c1, e1⟩ := Bts.slice hb1
  have fail : (∀ id l, id < 4294967296 → Fit l → x ≠ bodyP id l) → ∀ u vl' cs w1, Keep (fun g => base ≤ g) w w1 → Told w1 base q vl' cs → K (.tuple #[u, .bool false]) w1 :=
    fun h => h0 (fun id l hid hf he => by rw [hx] at he; injection he with he; exact h id l hid hf he)
  have t1 := ht.ext hx1
  rw [e1]
  (repeat (simp only [XP_extract0, XP_extract1, XP_extract2, XP_extract3, X_extract0, X_extract1, X_extract2, X_extract3, X_nilS, X_eql_nil_74, X_neq_nil_74, X_eql_nil_124, X_neq_nil_124, X_eql, X_neq, X_lss, X_leq, X_gtr, X_geq, X_not, X_min, X_max, X_len_27, X_len_9, X_len_79, XP_nilS, XP_eql, XP_neq, XP_lss, XP_leq, XP_gtr, XP_geq, XP_not, XP_min, XP_max, XP_len_27, XP_len_9, XP_eql_nil_74, X_str_eql, X_str_neq, XP_str_eql, XP_str_neq, GS, gs_u, decide_true, decide_false, Option.isNone_some, Option.isSome_some, Option.isNone_none, Option.isSome_none, eq_self, Bool.not_true, Bool.not_false, Int.reduceEq, Int.reduceNe, Int.reduceLT, Int.reduceLE, Int.reduceGT, Int.reduceGE]))
  by_cases h6 : x.length < 6
  · have c : decide ((x.length : Int) < 6) = true := by simp; omega
    (repeat (simp only [XP_extract0, XP_extract1, XP_extract2, XP_extract3, X_extract0, X_extract1, X_extract2, X_extract3, X_nilS, X_eql_nil_74, X_neq_nil_74, X_eql_nil_124, X_neq_nil_124, X_eql, X_neq, X_lss, X_leq, X_gtr, X_geq, X_not, X_min, X_max, X_len_27, X_len_9, X_len_79, XP_nilS, XP_eql, XP_neq, XP_lss, XP_leq, XP_gtr, XP_geq, XP_not, XP_min, XP_max, XP_len_27, XP_len_9, XP_eql_nil_74, X_str_eql, X_str_neq, XP_str_eql, XP_str_neq, GS, gs_u, decide_true, decide_false, Option.isNone_some, Option.isSome_some, Option.isNone_none, Option.isSome_none, eq_self, Bool.not_true, Bool.not_false, Int.reduceEq, Int.reduceNe, Int.reduceLT, Int.reduceLE, Int.reduceGT, Int.reduceGE, c]))
    exact fail (fun id l _ _ => no_short h6 id l) _ _ _ _ (Keep.ext hx1) t1
  have c : decide ((x.length : Int) < 6) = false := by simp; omega
  (repeat (simp only [XP_extract0, XP_extract1, XP_extract2, XP_extract3, X_extract0, X_extract1, X_extract2, X_extract3, X_nilS, X_eql_nil_74, X_neq_nil_74, X_eql_nil_124, X_neq_nil_124, X_eql, X_neq, X_lss, X_leq, X_gtr, X_geq, X_not, X_min, X_max, X_len_27, X_len_9, X_len_79, XP_nilS, XP_eql, XP_neq, XP_lss, XP_leq, XP_gtr, XP_geq, XP_not, XP_min, XP_max, XP_len_27, XP_len_9, XP_eql_nil_74, X_str_eql, X_str_neq, XP_str_eql, XP_str_neq, GS, gs_u, decide_true, decide_false, Option.isNone_some, Option.isSome_some, Option.isNone_none, Option.isSome_none, eq_self, Bool.not_true, Bool.not_false, Int.reduceEq, Int.reduceNe, Int.reduceLT, Int.reduceLE, Int.reduceGT, Int.reduceGE, c]))
  rw [← e1]
  obtain ⟨B, hB1, hB2⟩ : ∃ B, v1.ownBlock = some B ∧ w.heap.size ≤ B := by
    rcases ho1.2 with ⟨_, h⟩ | ⟨g, cap, cur, e, hg, _⟩
    · omega
    · exact ⟨g, by rw [e]; rfl, hg⟩
  obtain ⟨Bc, hBg⟩ := own_blkT ho1 hB1
  have p1 : Part w1 B v1 x := ⟨hb1, fun g hg => by rw [hB1] at hg; injection hg with hg; exact hg.symm⟩
  have hBlt := lt_of_blk hBg
  obtain ⟨v2, hv2, hb2, k2⟩ := cut_hi Try.underlying27 info_5 hb1 (kh := .i64) (hj := 6) 6 rfl (by omega)
  refine X_of (hv2 _) ?_
  refine New_spec hb2 (by rw [List.length_take]; omega) ?_
  intro rb w2 hx2 hrb hr2
  have h6l : (x.take 6).length = 6 := by rw [List.length_take]; omega
  have hBrb : B ≠ rb := by omega
  refine Get_spec hr2 ?_
  intro w3 hk3 hr3
  rw [getR4' (by omega)] at hr3 ⊢
  have e46 : (x.take 6).take 4 = x.take 4 := by rw [List.take_take]; congr 1
  have e26 : ((x.take 6).drop 4).take 2 = (x.drop 4).take 2 := by
    rw [List.drop_take]
    rw [List.take_take]
    congr 1
  have hid : num (x.take 4) < 4294967296 := num_lt4 (by simp; omega)
  have hn16 : num ((x.drop 4).take 2) < 65536 := num_lt2 (by simp; omega)
  have hstart := parsing_start (x := x)
  have hmany : ¬ 6 + 38 * num ((x.drop 4).take 2) ≤ x.length → ∀ id l, id < 4294967296 → Fit l → x ≠ bodyP id l := fun h id l hid hf => no_many h hid hf
  show X _ (convert 22 23 (.int .u64 ((num ((x.take 6).take 4) : Nat) : Int))) _ _
  rw [e46, X_conv_22_23, cw32 hid]
  refine Get_spec hr3 ?_
  intro w4 hk4 hr4
  show X _ (convert 22 3 (.int .u64 (((getR ((x.take 6).drop 4) 0 2).1 : Nat) : Int))) _ _
  rw [getR2' (by simp; omega), e26, X_conv_22_3, w64 (by omega) (by omega)]
  generalize num (x.take 4) = id at hid hstart ⊢
  generalize num ((x.drop 4).take 2) = n at hn16 hstart hmany ⊢
  have hk24 : Keep (fun g => g = rb) w2 w4 := hk3.trans hk4
  have hk14 : Keep (fun g => w1.heap.size ≤ g) w1 w4 := Keep.trans (Keep.ext hx2) (hk24.mono (fun i hi h => by subst h; omega))
  have hx14 : Ext w1 w4 := ⟨hk14.os, hk14.tape, hk14.output, hk14.size, fun i hi _ => hk14.block i hi (by omega)⟩
  have hx04 := hx1.trans hx14
  have t4 := t1.ext hx14
  have p4 := p1.ext hx14
  have hBg4 := hx14.get hBg
  rw [e1]
  (repeat (simp only [XP_extract0, XP_extract1, XP_extract2, XP_extract3, X_extract0, X_extract1, X_extract2, X_extract3, X_nilS, X_eql_nil_74, X_neq_nil_74, X_eql_nil_124, X_neq_nil_124, X_eql, X_neq, X_lss, X_leq, X_gtr, X_geq, X_not, X_min, X_max, X_len_27, X_len_9, X_len_79, XP_nilS, XP_eql, XP_neq, XP_lss, XP_leq, XP_gtr, XP_geq, XP_not, XP_min, XP_max, XP_len_27, XP_len_9, XP_eql_nil_74, X_str_eql, X_str_neq, XP_str_eql, XP_str_neq, GS, gs_u, decide_true, decide_false, Option.isNone_some, Option.isSome_some, Option.isNone_none, Option.isSome_none, eq_self, Bool.not_true, Bool.not_false, Int.reduceEq, Int.reduceNe, Int.reduceLT, Int.reduceLE, Int.reduceGT, Int.reduceGE]))
  rw [X_sub, w64 (by omega) (by omega)]
  refine X_of (run_quo 3 .i64 _ 38 (by decide) _) ?_
  rw [tdiv_ediv (by omega), w64 (by omega) (by omega)]
  (repeat (simp only [XP_extract0, XP_extract1, XP_extract2, XP_extract3, X_extract0, X_extract1, X_extract2, X_extract3, X_nilS, X_eql_nil_74, X_neq_nil_74, X_eql_nil_124, X_neq_nil_124, X_eql, X_neq, X_lss, X_leq, X_gtr, X_geq, X_not, X_min, X_max, X_len_27, X_len_9, X_len_79, XP_nilS, XP_eql, XP_neq, XP_lss, XP_leq, XP_gtr, XP_geq, XP_not, XP_min, XP_max, XP_len_27, XP_len_9, XP_eql_nil_74, X_str_eql, X_str_neq, XP_str_eql, XP_str_neq, GS, gs_u, decide_true, decide_false, Option.isNone_some, Option.isSome_some, Option.isNone_none, Option.isSome_none, eq_self, Bool.not_true, Bool.not_false, Int.reduceEq, Int.reduceNe, Int.reduceLT, Int.reduceLE, Int.reduceGT, Int.reduceGE]))
  by_cases hm : 6 + 38 * n ≤ x.length
  case neg =>
    have c : decide ((n : Int) > ((x.length : Int) - 6) / 38) = true := by simp; omega
    (repeat (simp only [XP_extract0, XP_extract1, XP_extract2, XP_extract3, X_extract0, X_extract1, X_extract2, X_extract3, X_nilS, X_eql_nil_74, X_neq_nil_74, X_eql_nil_124, X_neq_nil_124, X_eql, X_neq, X_lss, X_leq, X_gtr, X_geq, X_not, X_min, X_max, X_len_27, X_len_9, X_len_79, XP_nilS, XP_eql, XP_neq, XP_lss, XP_leq, XP_gtr, XP_geq, XP_not, XP_min, XP_max, XP_len_27, XP_len_9, XP_eql_nil_74, X_str_eql, X_str_neq, XP_str_eql, XP_str_neq, GS, gs_u, decide_true, decide_false, Option.isNone_some, Option.isSome_some, Option.isNone_none, Option.isSome_none, eq_self, Bool.not_true, Bool.not_false, Int.reduceEq, Int.reduceNe, Int.reduceLT, Int.reduceLE, Int.reduceGT, Int.reduceGE, c]))
    exact fail (hmany hm) _ _ _ _ (Keep.ext hx04) t4
  have c : decide ((n : Int) > ((x.length : Int) - 6) / 38) = false := by simp; omega
  (repeat (simp only [XP_extract0, XP_extract1, XP_extract2, XP_extract3, X_extract0, X_extract1, X_extract2, X_extract3, X_nilS, X_eql_nil_74, X_neq_nil_74, X_eql_nil_124, X_neq_nil_124, X_eql, X_neq, X_lss, X_leq, X_gtr, X_geq, X_not, X_min, X_max, X_len_27, X_len_9, X_len_79, XP_nilS, XP_eql, XP_neq, XP_lss, XP_leq, XP_gtr, XP_geq, XP_not, XP_min, XP_max, XP_len_27, XP_len_9, XP_eql_nil_74, X_str_eql, X_str_neq, XP_str_eql, XP_str_neq, GS, gs_u, decide_true, decide_false, Option.isNone_some, Option.isSome_some, Option.isNone_none, Option.isSome_none, eq_self, Bool.not_true, Bool.not_false, Int.reduceEq, Int.reduceNe, Int.reduceLT, Int.reduceLE, Int.reduceGT, Int.reduceGE, c]))
  rw [← e1]
  have P0 := hstart hm
  have hxd := Keep.drew (fun _ => False) w4
  have p5 := p4.ext hxd
  have t5 := t4.ext hxd
  have hBg5 : (drewW w4).heap[B]? = some (.cells Bc 5 (0, 0)) := hBg4
  have hx05 := hx04.trans hxd
  refine ⟨Ext, Ext.frame, ?_⟩
  generalize drewW w4 = w5 at hxd p5 t5 hBg5 hx05 ⊢
  have em : IntKind.i64.wrap ((n : Int) * 38) = ((38 * n : Nat) : Int) := by rw [w64 (by omega) (by omega)]; omega
  have ea : IntKind.i64.wrap ((6 : Int) + ((38 * n : Nat) : Int)) = ((6 + 38 * n : Nat) : Int) := by rw [w64 (by omega) (by omega)]; omega
  refine XP_of (fun w' => run_mul 3 .i64 _ _ w') ?_
  rw [em]
  refine XP_of (fun w' => run_add 3 .i64 _ _ w') ?_
  rw [ea]
  obtain ⟨rv, hrv, hbr, kr⟩ := cut_both Try.underlying27 info_5 sz_5 p5.bts (kl := .i64) (kh := .i64) (li := 6) (hj := ((6 + 38 * n : Nat) : Int)) 6 (6 + 38 * n) rfl rfl (by omega) (by omega)
  refine XP_of hrv ?_
  refine XP_of (fun w' => run_mul 3 .i64 _ _ w') ?_
  rw [em]
  refine XP_of (fun w' => run_add 3 .i64 _ _ w') ?_
  rw [ea]
  obtain ⟨dv, hdv, hbd, kd⟩ := cut_lo Try.underlying27 info_5 sz_5 p5.bts (kl := .i64) (li := ((6 + 38 * n : Nat) : Int)) (6 + 38 * n) rfl (by omega)
  refine XP_of hdv ?_
  have pr : Part w5 B rv ((x.take (6 + 38 * n)).drop 6) := ⟨hbr, fun g hg => p5.blk g (kr ▸ hg)⟩
  have pd : Part w5 B dv (x.drop (6 + 38 * n)) := ⟨hbd, fun g hg => p5.blk g (kd ▸ hg)⟩
  refine loopE (fun ρ wr => ∃ (done : List Pp) (rows data : List UInt8) (rv dv vl' : Value) (cs : List Pc), Parsing x id n done rows data ∧ pl cs = done ∧ Keep (fun g => base ≤ g ∧ g ≠ B) w5 wr ∧ Told wr base q vl' cs ∧ Part wr B rv rows ∧ Part wr B dv data ∧
      ρ 11 = rv ∧ ρ 12 = dv ∧ ρ 9 = .int .u32 (id : Int) ∧ ρ 1 = .func (.func 139) #[] #[ptr q])
    (fun ρ wr => match ρ 11 with | .slice _ n _ => n | _ => 0)
    (fun ρ wr => ∃ (done : List Pp) (data : List UInt8) (dv vl' : Value) (cs : List Pc), Parsing x id n done [] data ∧ pl cs = done ∧ Keep (fun g => base ≤ g ∧ g ≠ B) w5 wr ∧ Told wr base q vl' cs ∧ Part wr B dv data ∧ ρ 12 = dv ∧ ρ 9 = .int .u32 (id : Int)) ?_ ?_ ?_
  · exact ⟨[], _, _, rv, dv, vl, [], P0, rfl, Keep.refl _ _, t5, pr, pd, rfl, rfl, rfl, rfl⟩
  · rintro J hJ ρ wr ⟨done, rows, data, rv, dv, vl', cs, P, hcs, hk, t, pr, pd, r11, r12, r9, r1⟩
    obtain ⟨ar, cr, er⟩ := Bts.slice pr.bts
    obtain ⟨ad, cd, ed⟩ := Bts.slice pd.bts
    have hBr : wr.heap[B]? = some (.cells Bc 5 (0, 0)) := hk.get (fun h => h.2 rfl) hBg5
    have hPl := P.len
    have hPe := congrArg List.length P.eq
    simp only [List.length_append, be_length] at hPe
    rw [r11, er, X_len_27, X_gtr, condS_bool]
    by_cases hr0 : rows.length = 0
    · rw [if_neg (by rw [hr0]; decide)]
      have : rows = [] := List.eq_nil_of_length_eq_zero hr0
      subst this
      exact hJ _ _ ⟨done, data, dv, vl', cs, P, hcs, hk, t, pd, r12, r9⟩
    rw [if_pos (by simp; omega), ← er]
    have h38 : 38 ≤ rows.length := by omega
    obtain ⟨sv, hsv, hbs, ks⟩ := cut_both Try.underlying27 info_5 sz_5 pr.bts (kl := .i64) (kh := .i64) (li := 32) (hj := 38) 32 38 rfl rfl (by omega) (by omega)
    refine X_of (hsv _) ?_
    refine New_spec hbs (by simp; omega) ?_
    intro rb2 w7 hx7 hrb2 hr7
    have hBrb2 : B ≠ rb2 := by have := lt_of_blk hBr; omega
    have h6b : (((rows.take 38).drop 32)).length = 6 := by simp; omega
    have pr7 := pr.ext hx7
    have pd7 := pd.ext hx7
    have t7 := t.ext hx7
    have hk7 := hk.trans (Keep.ext hx7)
    have hBr7 := hx7.get hBr
    refine joinS_of (fun ρ2 w2 => ∃ kb, ρ2 14 = ptr kb ∧ w2.heap[kb]? = some (.cells (kyOf rows h38).cs.toArray 113 (0, 0)) ∧ wr.heap.size ≤ kb ∧ Ext wr w2 ∧ Rdr w2 wr.heap.size w7.heap.size rb2 (((rows.take 38).drop 32).drop 4) 0 ∧ ρ2 13 = ptr rb2 ∧ ρ2 11 = rv ∧ ρ2 12 = dv ∧ ρ2 9 = .int .u32 (id : Int) ∧ ρ2 1 = .func (.func 139) #[] #[ptr q]) ?_ ?_
    · rintro ρ2 w8 ⟨kb, q14, hkb, hkbl, hx8, hr8, q13, q11, q12, q9, q1⟩
      rw [q13, q12, q11, q1, q14]
      refine Get_spec hr8 ?_
      intro w9 hk9 hr9
      rw [getR2' (by simp; omega)]
      have e2 : (((rows.take 38).drop 32).drop 4).take 2 = ((rows.take 38).drop 32).drop 4 := List.take_of_length_le (by simp; omega)
      have hsz : num (((rows.take 38).drop 32).drop 4) < 65536 := num_lt2 (by simp; omega)
      have Pmore := P.more h38
      have Pstuck : ¬ num (((rows.take 38).drop 32).drop 4) ≤ data.length → ∀ id' l', id' < 4294967296 → Fit l' → x ≠ bodyP id' l' := fun hs id' l' hid hf => P.stuck h38 hs hid hf
      show X _ (convert 22 3 (.int .u64 ((num ((((rows.take 38).drop 32).drop 4).take 2) : Nat) : Int))) _ _
      rw [e2]
      generalize num (((rows.take 38).drop 32).drop 4) = size at hsz Pmore Pstuck ⊢
      have hx9 : Ext wr w9 := Ext.seq hx8 hk9 (fun i hi => by subst hi; exact hrb2)
      have pr9 := pr.ext hx9
      have pd9 := pd.ext hx9
      have t9 := t.ext hx9
      have hkb9 := hk9.get (b := kb) (fun h => by
        obtain ⟨_, hh, _⟩ := hr8
        rw [← h, hkb] at hh
        injection hh with hh
        injection hh with _ hh
        exact absurd hh (by decide)) hkb
      have hk09 := hk.trans (Keep.ext hx9)
      rw [X_conv_22_3, w64 (by omega) (by omega), ed]
      (repeat (simp only [XP_extract0, XP_extract1, XP_extract2, XP_extract3, X_extract0, X_extract1, X_extract2, X_extract3, X_nilS, X_eql_nil_74, X_neq_nil_74, X_eql_nil_124, X_neq_nil_124, X_eql, X_neq, X_lss, X_leq, X_gtr, X_geq, X_not, X_min, X_max, X_len_27, X_len_9, X_len_79, XP_nilS, XP_eql, XP_neq, XP_lss, XP_leq, XP_gtr, XP_geq, XP_not, XP_min, XP_max, XP_len_27, XP_len_9, XP_eql_nil_74, X_str_eql, X_str_neq, XP_str_eql, XP_str_neq, GS, gs_u, decide_true, decide_false, Option.isNone_some, Option.isSome_some, Option.isNone_none, Option.isSome_none, eq_self, Bool.not_true, Bool.not_false, Int.reduceEq, Int.reduceNe, Int.reduceLT, Int.reduceLE, Int.reduceGT, Int.reduceGE]))
      by_cases hs : size ≤ data.length
      case neg =>
        have c : decide ((size : Int) > (data.length : Int)) = true := by simp; omega
        (repeat (simp only [XP_extract0, XP_extract1, XP_extract2, XP_extract3, X_extract0, X_extract1, X_extract2, X_extract3, X_nilS, X_eql_nil_74, X_neq_nil_74, X_eql_nil_124, X_neq_nil_124, X_eql, X_neq, X_lss, X_leq, X_gtr, X_geq, X_not, X_min, X_max, X_len_27, X_len_9, X_len_79, XP_nilS, XP_eql, XP_neq, XP_lss, XP_leq, XP_gtr, XP_geq, XP_not, XP_min, XP_max, XP_len_27, XP_len_9, XP_eql_nil_74, X_str_eql, X_str_neq, XP_str_eql, XP_str_neq, GS, gs_u, decide_true, decide_false, Option.isNone_some, Option.isSome_some, Option.isNone_none, Option.isSome_none, eq_self, Bool.not_true, Bool.not_false, Int.reduceEq, Int.reduceNe, Int.reduceLT, Int.reduceLE, Int.reduceGT, Int.reduceGE, c]))
        exact fail (Pstuck hs) _ _ _ _ (Keep.trans (Keep.ext hx05) (hk09.mono (fun i _ h => h.1))) t9
      have c : decide ((size : Int) > (data.length : Int)) = false := by simp; omega
      (repeat (simp only [XP_extract0, XP_extract1, XP_extract2, XP_extract3, X_extract0, X_extract1, X_extract2, X_extract3, X_nilS, X_eql_nil_74, X_neq_nil_74, X_eql_nil_124, X_neq_nil_124, X_eql, X_neq, X_lss, X_leq, X_gtr, X_geq, X_not, X_min, X_max, X_len_27, X_len_9, X_len_79, XP_nilS, XP_eql, XP_neq, XP_lss, XP_leq, XP_gtr, XP_geq, XP_not, XP_min, XP_max, XP_len_27, XP_len_9, XP_eql_nil_74, X_str_eql, X_str_neq, XP_str_eql, XP_str_neq, GS, gs_u, decide_true, decide_false, Option.isNone_some, Option.isSome_some, Option.isNone_none, Option.isSome_none, eq_self, Bool.not_true, Bool.not_false, Int.reduceEq, Int.reduceNe, Int.reduceLT, Int.reduceLE, Int.reduceGT, Int.reduceGE, c]))
      rw [← ed]
      refine ⟨Ext, Ext.frame, ?_⟩
      have hxd9 := Keep.drew (fun _ => False) w9
      have hkbd : (drewW w9).heap[kb]? = some (.cells (kyOf rows h38).cs.toArray 113 (0, 0)) := hkb9
      have prd := pr9.ext hxd9
      have pdd := pd9.ext hxd9
      have tdd := t9.ext hxd9
      have hk0d := hk09.trans (Keep.ext hxd9)
      have hBd : (drewW w9).heap[B]? = some (.cells Bc 5 (0, 0)) := hx9.get hBr
      generalize drewW w9 = wd at hkbd prd pdd tdd hk0d hBd ⊢
      refine XR_ok Ext.frame (fun w' kk => load_cells (l := (kyOf rows h38).cs) Try.underlying113 agg_113 info_113 (by rw [sz_113, Ky.cs_len]) (fun j u hj => ?_)) ?_
      · rw [add_plain, Nat.zero_add, cell_blk (kk.get hkbd)]
        simpa using hj
      obtain ⟨pv, hpv, hbp, kp⟩ := cut_hi3 Try.underlying27 info_5 pdd.bts (kh := .i64) (km := .i64) (hj := (size : Int)) (mj := (size : Int)) size rfl rfl hs
      refine XP_of hpv ?_
      refine closS_of ?_
      have hcl : cs.length = done.length := by rw [← hcs]; simp
      have hplen : (data.take size).length ≤ 65536 := by rw [List.length_take]; omega
      refine told_spec (k := kyOf rows h38) tdd hbp (by omega) (by omega) ?_
      intro vl2 dv2 w10 hk10 t10
      have hnB : ¬ (B = q ∨ vl'.ownBlock = some B) := by
        rintro (h | h)
        · have hc := tdd.cell
          rw [← h, hBd] at hc
          injection hc with hc
          injection hc with _ hc
          exact absurd hc (by decide)
        · exact own_neT tdd.row hBd (by decide) h
      have prX := prd.keep hk10 hnB
      have pdX := pdd.keep hk10 hnB
      have hk0X : Keep (fun g => base ≤ g ∧ g ≠ B) w5 w10 := hk0d.trans (hk10.mono (fun i _ h => by
        refine ⟨?_, fun e => hnB (e ▸ h)⟩
        rcases h with h | h
        · rw [h]; exact tdd.low
        · exact (tdd.row.lt i h).1))
      obtain ⟨dn, hdn, hbn, kn⟩ := cut_lo Try.underlying27 info_5 sz_5 pdX.bts (kl := .i64) (li := (size : Int)) size rfl (by omega)
      refine X_of (hdn _) ?_
      obtain ⟨rn, hrn, hbrn, krn⟩ := cut_lo Try.underlying27 info_5 sz_5 prX.bts (kl := .i64) (li := 38) 38 rfl (by omega)
      refine X_of (hrn _) ?_
      show _ ∧ _
      obtain ⟨arn, crn, ern⟩ := Bts.slice hbrn
      refine ⟨⟨_, _, _, rn, dn, vl2, _, Pmore hs, ?_, hk0X, t10, ⟨hbrn, fun g hg => prX.blk g (krn ▸ hg)⟩, ⟨hbn, fun g hg => pdX.blk g (kn ▸ hg)⟩, rfl, rfl, q9, q1⟩, ?_⟩
      · simp [pl, hcs]
      · show (match rn with | .slice _ n _ => n | _ => 0) < _
        rw [ern]
        first | rw [er] | rw [r11, er]
        show (rows.drop 38).length < rows.length
        rw [List.length_drop]
        omega
    · intro J2 hJ2
      have hxd7 := Keep.drew (fun _ => False) w7
      have hr8 := hr7.ext hxd7
      have pr8 := pr7.ext hxd7
      have hx8 := hx7.trans hxd7
      have hBr8 : (drewW w7).heap[B]? = some (.cells Bc 5 (0, 0)) := hBr7
      refine ⟨Keep (fun g => g = rb2), Keep.frame _, ?_⟩
      generalize drewW w7 = w8 at hxd7 hr8 pr8 hx8 hBr8 ⊢
      obtain ⟨hv, hhv, hbh, kh⟩ := cut_hi Try.underlying27 info_5 pr8.bts (kh := .i64) (hj := 32) 32 rfl (by omega)
      refine XP_of hhv ?_
      have hbh' := hbh
      obtain ⟨ah, ch, eh, g1, g2, g3⟩ := hbh'
      have hl32 : (rows.take 32).length = 32 := by rw [List.length_take]; omega
      obtain ⟨adr, hadr, hcell⟩ := g3 (by omega)
      subst hadr
      rw [eh]
      refine XP_of (fun w' => run_arrayAt Try.underlying111 _ (by omega) _ w') ?_
      have hBad : adr.block = B := pr8.blk _ (by rw [← kh, eh]; rfl)
      refine XR_ok (Keep.frame _) (fun w' kk => load_cells (l := B8 (rows.take 32)) Try.underlying111 agg_111 info_111 (by rw [sz_111]; simp; omega) (fun j u hj => ?_)) ?_
      · rw [B8_getElem?] at hj
        obtain ⟨y, hy, rfl⟩ := Option.map_eq_some_iff.1 hj
        refine kk.cell ?_ (hcell j y hy)
        rw [add_block, hBad]
        exact hBrb2
      have hkl : (kyOf rows h38).sum = rows.take 32 := rfl
      have hkn : ((kyOf rows h38).num : Int) = ((num (((rows.take 38).drop 32).take 4) : Nat) : Int) := rfl
      have hknum := (kyOf rows h38).lt
      have hbuild := run_build_113b (kyOf rows h38)
      rw [hkl, hkn] at hbuild
      have hn4 : num (((rows.take 38).drop 32).take 4) < 4294967296 := num_lt4 (by simp; omega)
      refine ⟨?_, ?_⟩
      · refine Get_spec hr8 ?_
        intro w9 hk9 hr9
        rw [getR4' (by omega)] at hr9 ⊢
        refine ⟨hk9, ?_⟩
        show XR _ _ (convert 22 23 (.int .u64 ((num (((rows.take 38).drop 32).take 4) : Nat) : Int))) _ _
        rw [XR_conv_22_23, cw32 hn4]
        refine XP_of (fun w' => hbuild w') ?_
        refine X_alloc zero_113 ?_
        have hxA := newB_ext w9 (List.replicate 32 (Value.int .u8 0) ++ [Value.int .u32 0]).toArray 113
        have hgA := newB_get w9 (List.replicate 32 (Value.int .u8 0) ++ [Value.int .u32 0]).toArray 113
        show Keep _ w9 (newB w9 (List.replicate 32 (Value.int .u8 0) ++ [Value.int .u32 0]).toArray 113) ∧ XU _ _ (newB w9 (List.replicate 32 (Value.int .u8 0) ++ [Value.int .u32 0]).toArray 113) _
        generalize newB w9 (List.replicate 32 (Value.int .u8 0) ++ [Value.int .u32 0]).toArray 113 = w10 at hxA hgA ⊢
        refine ⟨Keep.ext hxA, ?_⟩
        have hx9 : Ext wr w9 := Ext.seq hx8 hk9 (fun i hi => by subst hi; exact hrb2)
        refine XU_storeAgg info_113 hgA (by rw [sz_113]; simp) (by rw [sz_113, Ky.cs_len]) (Ky.one _) ?_
        refine hJ2 _ _ ⟨w9.heap.size, rfl, setAt_same (lt_of_blk hgA), hx9.size, Ext.seq (hx9.trans hxA) (setAt_keep _ _ _ _ _) (fun i hi => by subst hi; exact hx9.size), ?_, rfl, r11, r12, r9, r1⟩
        refine (hr9.ext hxA).keep (setAt_keep _ _ _ _ _) ?_ ?_
        · have := hr9.lt
          omega
        · intro i _ hi _ he
          have h1 := hk9.size
          have h2 := hxd7.size
          omega
      · refine X_alloc zero_113 ?_
        have hxA := newB_ext w8 (Value.agg (List.replicate 32 (Value.int .u8 0) ++ [Value.int .u32 0]).toArray).cells 113
        have hgA := newB_get w8 (Value.agg (List.replicate 32 (Value.int .u8 0) ++ [Value.int .u32 0]).toArray).cells 113
        generalize newB w8 (Value.agg (List.replicate 32 (Value.int .u8 0) ++ [Value.int .u32 0]).toArray).cells 113 = w9 at hxA hgA ⊢
        have hgA : w9.heap[w8.heap.size]? = some (.cells (List.replicate 32 (Value.int .u8 0) ++ [Value.int .u32 0]).toArray 113 (0, 0)) := hgA
        refine ⟨Keep.ext hxA, ?_⟩
        have hrlt := hr8.lt
        refine Get_spec (hr8.ext hxA) ?_
        intro w10 hk10 hr10
        rw [getR4' (by omega)] at hr10 ⊢
        refine ⟨hk10, ?_⟩
        show XR _ _ (convert 22 23 (.int .u64 ((num (((rows.take 38).drop 32).take 4) : Nat) : Int))) _ _
        rw [XR_conv_22_23, cw32 hn4]
        refine XP_of (fun w' => hbuild w') ?_
        have hgB := hk10.get (b := w8.heap.size) (by omega) hgA
        refine XU_storeAgg info_113 hgB (by rw [sz_113]; simp) (by rw [sz_113, Ky.cs_len]) (Ky.one _) ?_
        refine hJ2 _ _ ⟨w8.heap.size, rfl, setAt_same (lt_of_blk hgB), hx8.size, Ext.seq (Ext.seq (hx8.trans hxA) hk10 (fun i hi => by subst hi; exact hrb2)) (setAt_keep _ _ _ _ _) (fun i hi => by subst hi; exact hx8.size), ?_, rfl, r11, r12, r9, r1⟩
        refine hr10.keep (setAt_keep _ _ _ _ _) ?_ ?_
        · omega
        · intro i _ hi _ he
          have := hxd7.size
          omega
  · rintro ρ wr ⟨done, data, dv, vl', cs, P, hcs, hk, t, pd, r12, r9⟩
    obtain ⟨ad, cd, ed⟩ := Bts.slice pd.bts
    have hk0 : Keep (fun g => base ≤ g) w wr := Keep.trans (Keep.ext hx05) (hk.mono (fun i _ h => h.1))
    rw [r12, r9, ed]
    (repeat (simp only [XP_extract0, XP_extract1, XP_extract2, XP_extract3, X_extract0, X_extract1, X_extract2, X_extract3, X_nilS, X_eql_nil_74, X_neq_nil_74, X_eql_nil_124, X_neq_nil_124, X_eql, X_neq, X_lss, X_leq, X_gtr, X_geq, X_not, X_min, X_max, X_len_27, X_len_9, X_len_79, XP_nilS, XP_eql, XP_neq, XP_lss, XP_leq, XP_gtr, XP_geq, XP_not, XP_min, XP_max, XP_len_27, XP_len_9, XP_eql_nil_74, X_str_eql, X_str_neq, XP_str_eql, XP_str_neq, GS, gs_u, decide_true, decide_false, Option.isNone_some, Option.isSome_some, Option.isNone_none, Option.isSome_none, eq_self, Bool.not_true, Bool.not_false, Int.reduceEq, Int.reduceNe, Int.reduceLT, Int.reduceLE, Int.reduceGT, Int.reduceGE]))
    by_cases hd : data = []
    · subst hd
      obtain ⟨g1, g2⟩ := P.done hn16
      exact h1 id done hid g2 (by rw [hx, g1]) vl' cs wr hcs hk0 t
    · have hpos := List.length_pos_iff.2 hd
      have c : decide ((data.length : Int) = 0) = false := by simp; omega
      rw [c]
      exact fail (fun id l hid hf => P.rest hd hid hf) _ _ _ _ hk0 t
end
end Go.Proofs.Ytggggfcgnkllgaa
end
section
/- Take; the same pieces. -/
set_option linter.unusedVariables false
set_option linter.unusedSimpArgs false
namespace Go.Proofs.Ytggggfcgnkllgaa
open Go Go.Sh Go.RowKit
attribute [local irreducible] X XU XP XR CALL loopS resC closS
theorem open_seal (bs : List UInt8) : openB (sealB bs) = some bs := by
  have hl : (sealB bs).length - 4 = bs.length := by rw [sealB_len]; omega
  have ht : (sealB bs).take bs.length = bs := by
    unfold sealB
    rw [List.take_append_of_le_length (Nat.le_refl _), List.take_length]
  have hd : (sealB bs).drop bs.length = be 4 (crc bs).toNat := by
    unfold sealB
    rw [List.drop_append_of_le_length (Nat.le_refl _), List.drop_length, List.nil_append]
  have hlt : (crc bs).toNat < 256 ^ 4 := (crc bs).isLt
  unfold openB
  rw [hl, ht, hd, num_be, Nat.mod_eq_of_lt hlt, if_neg (by rw [sealB_len]; omega), if_pos rfl]
theorem seal_open {bs cs : List UInt8} (h : openB bs = some cs) : sealB cs = bs := by
  unfold openB at h
  split at h
  · cases h
  · rename_i h4
    split at h
    · rename_i he
      obtain rfl := Option.some.inj h
      unfold sealB
      rw [← he]
      have hb4 := be_num (bs.drop (bs.length - 4))
      have hl4 : (bs.drop (bs.length - 4)).length = 4 := by simp; omega
      rw [hl4] at hb4
      rw [hb4, List.take_append_drop]
    · cases h
theorem open_lay (id : Nat) (l : List Pp) : openB (layP id l) = some (bodyP id l) := open_seal _
theorem lay_eq {id id' : Nat} {l l' : List Pp} (hid : id < 4294967296) (hid' : id' < 4294967296) (hf : Fit l) (hf' : Fit l') (h : layP id l = layP id' l') : id = id' ∧ l = l' := by
  have := open_lay id l
  rw [h, open_lay] at this
  injection this with this
  obtain ⟨h1, h2⟩ := lay_inj hid' hid hf' hf this
  exact ⟨h1.symm, h2.symm⟩
theorem str_neF {x y : List UInt8} (h : x = y) : ((str x).toList != (str y).toList) = false := by rw [h]; simp
section
variable {w : World} {K : Value → World → Prop}
theorem Take_spec {v : Value} {b : List UInt8} (hb : Bts w v b) (hl : b.length ≤ 1000000)
    (h0 : (∀ id l, id < 4294967296 → chk l = 0 → b ≠ layP id l) → ∀ w1, Ext w w1 → K (.tuple #[.int .u32 0, .slice none 0 0, i64v 110]) w1)
    (h1 : ∀ id l, id < 4294967296 → chk l = 0 → b = layP id l → ∀ q vl cs w1, pl cs = l → Ext w w1 → Told w1 w.heap.size q vl cs → K (.tuple #[.int .u32 (id : Int), vl, i64v 0]) w1) : CALL Try.prog 91 #[v] w K := by
  apply call_cont_Take
  unfold B_cont_Take
  refine X_alloc zero_100 ?_
  have hx1 := newB_ext w #[Value.slice none 0 0] 100
  have hg1 := newB_get w #[Value.slice none 0 0] 100
  show X _ _ (newB w #[Value.slice none 0 0] 100) _
  generalize newB w #[Value.slice none 0 0] 100 = w1 at hx1 hg1 ⊢
  refine X_of (v := .func (.func 139) #[] #[ptr w.heap.size]) (w1 := w1) rfl ?_
  have t1 : Told w1 w.heap.size w.heap.size (.slice none 0 0) [] := ⟨hg1, Nat.le_refl _, ownK_nil _ _, by simp, List.Pairwise.nil⟩
  have toExt : ∀ {w2}, Keep (fun g => w.heap.size ≤ g) w1 w2 → Ext w w2 := fun k => Ext.seq hx1 k (fun _ h => h)
  refine each_spec (hb.ext hx1) hl t1 (fun hno u vl cs w2 hk2 t2 => ?_) (fun id l hid hf ho vl cs w2 hcs hk2 t2 => ?_)
  · (repeat (simp only [XP_extract0, XP_extract1, XP_extract2, XP_extract3, X_extract0, X_extract1, X_extract2, X_extract3, X_nilS, X_eql_nil_74, X_neq_nil_74, X_eql_nil_124, X_neq_nil_124, X_eql, X_neq, X_lss, X_leq, X_gtr, X_geq, X_not, X_min, X_max, X_len_27, X_len_9, X_len_79, XP_nilS, XP_eql, XP_neq, XP_lss, XP_leq, XP_gtr, XP_geq, XP_not, XP_min, XP_max, XP_len_27, XP_len_9, XP_eql_nil_74, X_str_eql, X_str_neq, XP_str_eql, XP_str_neq, GS, gs_u, decide_true, decide_false, Option.isNone_some, Option.isSome_some, Option.isNone_none, Option.isSome_none, eq_self, Bool.not_true, Bool.not_false, Int.reduceEq, Int.reduceNe, Int.reduceLT, Int.reduceLE, Int.reduceGT, Int.reduceGE]))
    exact h0 (fun id l hid hc he => hno id l hid (fit_chk hc) (by rw [he]; exact open_lay id l)) _ (toExt hk2)
  · have hbl : b = layP id l := (seal_open ho).symm
    have hsz : sizeP l ≤ 1000000 := by rw [← layP_len id l, ← hbl]; exact hl
    have hcl : cs.length = l.length := by rw [← hcs]; simp
    (repeat (simp only [XP_extract0, XP_extract1, XP_extract2, XP_extract3, X_extract0, X_extract1, X_extract2, X_extract3, X_nilS, X_eql_nil_74, X_neq_nil_74, X_eql_nil_124, X_neq_nil_124, X_eql, X_neq, X_lss, X_leq, X_gtr, X_geq, X_not, X_min, X_max, X_len_27, X_len_9, X_len_79, XP_nilS, XP_eql, XP_neq, XP_lss, XP_leq, XP_gtr, XP_geq, XP_not, XP_min, XP_max, XP_len_27, XP_len_9, XP_eql_nil_74, X_str_eql, X_str_neq, XP_str_eql, XP_str_neq, GS, gs_u, decide_true, decide_false, Option.isNone_some, Option.isSome_some, Option.isNone_none, Option.isSome_none, eq_self, Bool.not_true, Bool.not_false, Int.reduceEq, Int.reduceNe, Int.reduceLT, Int.reduceLE, Int.reduceGT, Int.reduceGE]))
    refine X_of (run_loadAt agg_100 (cell_blk t2.cell)) ?_
    refine check_spec t2.slice t2.inn (by rw [hcs]; unfold sizeP at hsz; omega) ?_
    intro w3 hx3
    have t3 := t2.ext hx3
    have hx03 := (toExt hk2).trans hx3
    rw [hcs]
    by_cases hc : chk l = 0
    · rw [hc]
      have c : decide ((0 : Int) ≠ 0) = false := by decide
      (repeat (simp only [XP_extract0, XP_extract1, XP_extract2, XP_extract3, X_extract0, X_extract1, X_extract2, X_extract3, X_nilS, X_eql_nil_74, X_neq_nil_74, X_eql_nil_124, X_neq_nil_124, X_eql, X_neq, X_lss, X_leq, X_gtr, X_geq, X_not, X_min, X_max, X_len_27, X_len_9, X_len_79, XP_nilS, XP_eql, XP_neq, XP_lss, XP_leq, XP_gtr, XP_geq, XP_not, XP_min, XP_max, XP_len_27, XP_len_9, XP_eql_nil_74, X_str_eql, X_str_neq, XP_str_eql, XP_str_neq, GS, gs_u, decide_true, decide_false, Option.isNone_some, Option.isSome_some, Option.isNone_none, Option.isSome_none, eq_self, Bool.not_true, Bool.not_false, Int.reduceEq, Int.reduceNe, Int.reduceLT, Int.reduceLE, Int.reduceGT, Int.reduceGE, c]))
      have hxd := Keep.drew (fun _ => False) w3
      have td := t3.ext hxd
      refine ⟨Ext, Ext.frame, XR_ok Ext.frame (fun w' kk => run_loadAt agg_100 (cell_blk (kk.get td.cell))) ?_⟩
      exact h1 id l hid hc hbl _ vl cs _ hcs (hx03.trans hxd) td
    · have c : decide (chk l ≠ 0) = true := by simpa using hc
      (repeat (simp only [XP_extract0, XP_extract1, XP_extract2, XP_extract3, X_extract0, X_extract1, X_extract2, X_extract3, X_nilS, X_eql_nil_74, X_neq_nil_74, X_eql_nil_124, X_neq_nil_124, X_eql, X_neq, X_lss, X_leq, X_gtr, X_geq, X_not, X_min, X_max, X_len_27, X_len_9, X_len_79, XP_nilS, XP_eql, XP_neq, XP_lss, XP_leq, XP_gtr, XP_geq, XP_not, XP_min, XP_max, XP_len_27, XP_len_9, XP_eql_nil_74, X_str_eql, X_str_neq, XP_str_eql, XP_str_neq, GS, gs_u, decide_true, decide_false, Option.isNone_some, Option.isSome_some, Option.isNone_none, Option.isSome_none, eq_self, Bool.not_true, Bool.not_false, Int.reduceEq, Int.reduceNe, Int.reduceLT, Int.reduceLE, Int.reduceGT, Int.reduceGE, c]))
      refine h0 (fun id' l' hid' hc' he => ?_) _ hx03
      rw [hbl] at he
      obtain ⟨_, h⟩ := lay_eq hid hid' hf (fit_chk hc') he
      exact hc (h ▸ hc')
theorem Same_spec {va vb : Value} {la lb : List Pc} (ha : RowK 34 Pc.cs w va la) (hb : RowK 34 Pc.cs w vb lb) (hia : ∀ c ∈ la, c.In w) (hib : ∀ c ∈ lb, c.In w) (hn : la.length ≤ 1000000000000) (he : pl la = pl lb) (hK : ∀ w1, Ext w w1 → K (.bool true) w1) : CALL Try.prog 92 #[va, vb] w K := by
  obtain ⟨aa, ca, ea⟩ := ha.slice
  obtain ⟨ab, cb, eb⟩ := hb.slice
  have hlen : la.length = lb.length := by have := congrArg List.length he; simpa using this
  apply call_ref11_Same
  unfold B_ref11_Same
  rw [ea, eb]
  have c : decide ((la.length : Int) ≠ (lb.length : Int)) = false := by simp; omega
  (repeat (simp only [XP_extract0, XP_extract1, XP_extract2, XP_extract3, X_extract0, X_extract1, X_extract2, X_extract3, X_nilS, X_eql_nil_74, X_neq_nil_74, X_eql_nil_124, X_neq_nil_124, X_eql, X_neq, X_lss, X_leq, X_gtr, X_geq, X_not, X_min, X_max, X_len_27, X_len_9, X_len_79, XP_nilS, XP_eql, XP_neq, XP_lss, XP_leq, XP_gtr, XP_geq, XP_not, XP_min, XP_max, XP_len_27, XP_len_9, XP_eql_nil_74, X_str_eql, X_str_neq, XP_str_eql, XP_str_neq, GS, gs_u, decide_true, decide_false, Option.isNone_some, Option.isSome_some, Option.isNone_none, Option.isSome_none, eq_self, Bool.not_true, Bool.not_false, Int.reduceEq, Int.reduceNe, Int.reduceLT, Int.reduceLE, Int.reduceGT, Int.reduceGE, X_len_100, c]))
  rw [← ea, ← eb]
  refine loopE (fun ρ wr => ∃ i : Nat, i ≤ la.length ∧ Ext w wr ∧ ρ 5 = .int .i64 (i : Int) ∧ ρ 0 = va ∧ ρ 1 = vb)
    (fun ρ wr => match ρ 5 with | .int _ s => (la.length - s).toNat | _ => 0)
    (fun ρ wr => Ext w wr) ?_ ?_ ?_
  · exact ⟨0, by omega, Keep.refl _ _, rfl, rfl, rfl⟩
  · rintro J hJ ρ wr ⟨i, hi, hx, r5, r0, r1⟩
    rw [r0, r5, ea, X_len_100, X_lss, condS_bool, ← ea]
    by_cases hie : i = la.length
    · rw [if_neg (by simp; omega)]
      exact hJ _ _ hx
    rw [if_pos (by simp; omega), r1]
    have hlt : i < la.length := by omega
    have hltb : i < lb.length := by omega
    have hxd := hx.trans (Keep.drew (fun _ => False) wr)
    obtain ⟨g, o, hix, hc⟩ := piece_at (ha.ext hxd) hlt
    obtain ⟨g2, o2, hix2, hc2⟩ := piece_at (hb.ext hxd) hltb
    have hpe : la[i].p = lb[i].p := by
      have h1 : (pl la)[i]? = (pl lb)[i]? := by rw [he]
      rw [List.getElem?_map, List.getElem?_map, List.getElem?_eq_getElem hlt, List.getElem?_eq_getElem hltb] at h1
      simpa using h1
    have hA := (hia _ (List.getElem_mem hlt)).ext hxd
    have hB := (hib _ (List.getElem_mem hltb)).ext hxd
    refine ⟨Ext, Ext.frame, ?_⟩
    generalize drewW wr = wd at hxd hc hc2 hA hB ⊢
    have hdv := hc 33 _ la[i].dvAt
    have hdv2 := hc2 33 _ lb[i].dvAt
    refine XP_of hix ?_
    rw [XP_field_115_0]
    refine XR_ok Ext.frame (fun w' kk => run_keyAt (v := va) (l := la) (i := i) (fun j u hu => kk.cell (fun h => h) (hc j u hu))) ?_
    refine XP_of hix2 ?_
    rw [XP_field_115_0]
    refine XR_ok Ext.frame (fun w' kk => run_keyAt (v := va) (l := la) (i := i) (fun j u hu => kk.cell (fun h => h) (hc2 j u hu))) ?_
    refine XP_of (fun w' => run_key_neq _ _ _ _ w') ?_
    have cn : decide (la[i].p.k ≠ lb[i].p.k) = false := by rw [hpe]; simp
    (repeat (simp only [XP_extract0, XP_extract1, XP_extract2, XP_extract3, X_extract0, X_extract1, X_extract2, X_extract3, X_nilS, X_eql_nil_74, X_neq_nil_74, X_eql_nil_124, X_neq_nil_124, X_eql, X_neq, X_lss, X_leq, X_gtr, X_geq, X_not, X_min, X_max, X_len_27, X_len_9, X_len_79, XP_nilS, XP_eql, XP_neq, XP_lss, XP_leq, XP_gtr, XP_geq, XP_not, XP_min, XP_max, XP_len_27, XP_len_9, XP_eql_nil_74, X_str_eql, X_str_neq, XP_str_eql, XP_str_neq, GS, gs_u, decide_true, decide_false, Option.isNone_some, Option.isSome_some, Option.isNone_none, Option.isSome_none, eq_self, Bool.not_true, Bool.not_false, Int.reduceEq, Int.reduceNe, Int.reduceLT, Int.reduceLE, Int.reduceGT, Int.reduceGE, cn]))
    refine XP_of hix ?_
    rw [XP_field_115_1]
    refine XR_ok Ext.frame (fun w' kk => run_loadAt agg_27 (kk.cell (fun h => h) hdv)) ?_
    refine XR_ok Ext.frame (fun w' kk => run_str (src := 27) (dst := 9) Try.underlying27 Try.underlying5 Try.underlying9 (hA.ext kk)) ?_
    refine XP_of hix2 ?_
    rw [XP_field_115_1]
    refine XR_ok Ext.frame (fun w' kk => run_loadAt agg_27 (kk.cell (fun h => h) hdv2)) ?_
    refine XR_ok Ext.frame (fun w' kk => run_str (src := 27) (dst := 9) Try.underlying27 Try.underlying5 Try.underlying9 (hB.ext kk)) ?_
    have cs' := str_neF (congrArg Pp.bs hpe)
    (repeat (simp only [XP_extract0, XP_extract1, XP_extract2, XP_extract3, X_extract0, X_extract1, X_extract2, X_extract3, X_nilS, X_eql_nil_74, X_neq_nil_74, X_eql_nil_124, X_neq_nil_124, X_eql, X_neq, X_lss, X_leq, X_gtr, X_geq, X_not, X_min, X_max, X_len_27, X_len_9, X_len_79, XP_nilS, XP_eql, XP_neq, XP_lss, XP_leq, XP_gtr, XP_geq, XP_not, XP_min, XP_max, XP_len_27, XP_len_9, XP_eql_nil_74, X_str_eql, X_str_neq, XP_str_eql, XP_str_neq, GS, gs_u, decide_true, decide_false, Option.isNone_some, Option.isSome_some, Option.isNone_none, Option.isSome_none, eq_self, Bool.not_true, Bool.not_false, Int.reduceEq, Int.reduceNe, Int.reduceLT, Int.reduceLE, Int.reduceGT, Int.reduceGE, cs']))
    rw [X_add]
    show _ ∧ _
    refine ⟨⟨i + 1, by omega, hxd, next64 (n := 1000000000000) (by decide) (by omega), r0, r1⟩, ?_⟩
    show (_ - IntKind.i64.wrap _).toNat < _
    rw [w64 (by omega) (by omega)]
    first | omega | (show _ < (_ : Int).toNat; omega)
  · rintro ρ wr hx
    exact hK wr hx
end
end Go.Proofs.Ytggggfcgnkllgaa
end
section
/- Keys of containers; one piece; the reference's check sums of keys. -/
set_option linter.unusedVariables false
set_option linter.unusedSimpArgs false
namespace Go.Proofs.Ytggggfcgnkllgaa
open Go Go.Sh Go.RowKit
attribute [local irreducible] X XU XP XR CALL loopS resC closS
theorem u8_wrap (n : Nat) : ∃ u : UInt8, IntKind.u8.wrap (n : Int) = ((u.toNat : Nat) : Int) ∧ (n < 256 → u.toNat = n) := by
  refine ⟨UInt8.ofNat (n % 256), ?_, fun h => ?_⟩
  · have e : IntKind.u8.wrap (n : Int) = (n : Int) % 256 := by simp [IntKind.wrap, IntKind.bits, IntKind.signed]
    rw [e]
    simp
  · simp; omega
section
variable {w : World} {K : Value → World → Prop}
set_option maxHeartbeats 1000000 in
theorem sum_spec {lo hi rb : Nat} {all bs : List UInt8} {f : Int} (hr : RdrR w lo hi rb all bs f) (hhi : hi ≤ w.heap.size)
    (hK : ∀ s bs' f' w1, s.length = 32 → Keep (fun g => g = rb) w w1 → RdrR w1 lo hi rb all bs' f' → (f = 0 → 32 ≤ bs.length → s = bs.take 32 ∧ bs' = bs.drop 32 ∧ f' = 0) → K (.agg (B8 s).toArray) w1) : CALL Try.prog 140 #[ptr rb] w K := by
  have hrb := hr.lt
  apply call_ref11_sum
  unfold B_ref11_sum
  refine X_alloc zero_111 ?_
  have hx1 := newB_ext w (List.replicate 32 (Value.int .u8 0)).toArray 111
  have hg1 := newB_get w (List.replicate 32 (Value.int .u8 0)).toArray 111
  show X _ _ (newB w (List.replicate 32 (Value.int .u8 0)).toArray 111) _
  generalize newB w (List.replicate 32 (Value.int .u8 0)).toArray 111 = w1 at hx1 hg1 ⊢
  refine X_alloc zero_111 ?_
  have hx2 := newB_ext w1 (List.replicate 32 (Value.int .u8 0)).toArray 111
  have hg2 := newB_get w1 (List.replicate 32 (Value.int .u8 0)).toArray 111
  show loopS _ _ _ (newB w1 (List.replicate 32 (Value.int .u8 0)).toArray 111)
  generalize newB w1 (List.replicate 32 (Value.int .u8 0)).toArray 111 = w2 at hx2 hg2 ⊢
  rw [← B8_rep] at hg1 hg2
  have hg12 := hx2.get hg1
  have h12 : w.heap.size ≠ w1.heap.size := by have := lt_of_blk hg1; omega
  have hs1 := hx1.size
  generalize hq1 : w.heap.size = q1 at hg12 h12
  generalize hq2 : w1.heap.size = q2 at hg2 h12
  refine loopE (fun ρ wr => ∃ (i : Nat) (s bs' : List UInt8) (f' : Int), i ≤ 32 ∧ s.length = 32 ∧ wr.heap[q1]? = some (.cells (B8 (List.replicate 32 0)).toArray 111 (0, 0)) ∧ wr.heap[q2]? = some (.cells (B8 s).toArray 111 (0, 0)) ∧ Keep (fun g => g = rb) w wr ∧ RdrR wr lo hi rb all bs' f' ∧
      (f = 0 → 32 ≤ bs.length → s.take i = bs.take i ∧ bs' = bs.drop i ∧ f' = 0) ∧ ρ 4 = .int .i64 (i : Nat) ∧ ρ 3 = ptr q2 ∧ ρ 2 = ptr q1 ∧ ρ 0 = ptr rb)
    (fun ρ wr => match ρ 4 with | .int _ s => (32 - s).toNat | _ => 0)
    (fun ρ wr => ∃ (s bs' : List UInt8) (f' : Int), s.length = 32 ∧ wr.heap[q1]? = some (.cells (B8 (List.replicate 32 0)).toArray 111 (0, 0)) ∧ wr.heap[q2]? = some (.cells (B8 s).toArray 111 (0, 0)) ∧ Keep (fun g => g = rb) w wr ∧ RdrR wr lo hi rb all bs' f' ∧
      (f = 0 → 32 ≤ bs.length → s = bs.take 32 ∧ bs' = bs.drop 32 ∧ f' = 0) ∧ ρ 3 = ptr q2 ∧ ρ 2 = ptr q1) ?_ ?_ ?_
  · exact ⟨0, List.replicate 32 0, bs, f, by omega, by simp, hg12, hg2, Keep.ext (hx1.trans hx2), (hr.ext hx1).ext hx2, fun h0 _ => ⟨by simp, by simp, h0⟩, rfl, rfl, rfl, rfl⟩
  · rintro J hJ ρ wr ⟨i, s, bs', f', hi32, hsl, hc1, hc2, hk, hrr, hst, r4, r3, r2, r0⟩
    rw [r4, r3, r0, X_lss, condS_bool]
    by_cases hie : i = 32
    · rw [if_neg (by simp; omega)]
      subst hie
      rw [List.take_of_length_le (by omega)] at hst
      exact hJ _ _ ⟨s, bs', f', hsl, hc1, hc2, hk, hrr, hst, r3, r2⟩
    rw [if_pos (by simp; omega)]
    refine RGet_spec hrr ?_
    intro w5 hk5 hr5
    obtain ⟨u, hu, hu2⟩ := u8_wrap (getR bs' f' 1).1
    rw [X_conv_22_5, hu]
    refine X_of (ix_arr Try.underlying111 info_5 (k := .i64) (ii := (i : Int)) i rfl (by omega) _) ?_
    rw [sz_5, Nat.mul_one, add_plain, Nat.zero_add]
    have hqb : q2 ≠ rb := by omega
    have hqb1 : q1 ≠ rb := by omega
    have hc5 := hk5.get hqb hc2
    have hc51 := hk5.get hqb1 hc1
    refine XU_store info_5 sz_5 rfl hc5 (by simp; omega) (by show ¬ ((0 : Nat) ≤ i ∧ i < 0); omega) ?_
    have hset : (B8 s).toArray.setIfInBounds i (.int .u8 ((u.toNat : Nat) : Int)) = (B8 (s.set i u)).toArray := by
      rw [← B8_set]
      simp
    rw [hset, X_add]
    have hk6 := setAt_keep w5 q2 (B8 (s.set i u)).toArray 111 (0, 0)
    have hs6 : (setAt w5 q2 (B8 (s.set i u)).toArray 111 (0, 0)).heap[q2]? = some (.cells (B8 (s.set i u)).toArray 111 (0, 0)) := setAt_same (lt_of_blk hc5)
    show _ ∧ _
    refine ⟨⟨i + 1, s.set i u, _, _, by omega, by simpa using hsl, hk6.get (by omega) hc51, hs6, Keep.seq (hk.trans hk5) hk6 (fun j hj he => by omega), hr5.keep hk6 (by omega) (fun j _ hj _ he => by omega), ?_, next64 (n := 32) (by decide) (by omega), r3, r2, r0⟩, ?_⟩
    · intro h0 h32
      obtain ⟨g1, g2, g3⟩ := hst h0 h32
      subst g2; subst g3
      have hlen : i < bs.length := by omega
      have hg : getR (bs.drop i) 0 1 = (num ((bs.drop i).take 1), (bs.drop i).drop 1, 0) := by
        have e4 : (1 : Int).toNat = 1 := rfl
        simp only [getR, e4]
        rw [if_neg (by simp), if_neg (by decide), if_neg (by simp; omega)]
      rw [hg] at hu2 ⊢
      have hd : bs.drop i = bs[i] :: bs.drop (i + 1) := List.drop_eq_getElem_cons hlen
      have hn : num ((bs.drop i).take 1) = bs[i].toNat := by rw [hd]; show num [bs[i]] = _; simp [num]
      refine ⟨?_, by simp [List.drop_drop, Nat.add_comm], rfl⟩
      have hu3 : u = bs[i] := by
        have := hu2 (by show num ((bs.drop i).take 1) < 256; rw [hn]; exact bs[i].toNat_lt)
        have : u.toNat = bs[i].toNat := by rw [this]; exact hn
        exact UInt8.toNat_inj.1 this
      rw [List.take_succ_eq_append_getElem (by simpa [hsl] using (show i < 32 by omega)), List.take_succ_eq_append_getElem hlen, List.getElem_set_self, hu3, List.take_set_of_le (Nat.le_refl _), g1]
    · show (_ - IntKind.i64.wrap _).toNat < _
      rw [w64 (by omega) (by omega)]
      first | omega | (show _ < (_ : Int).toNat; omega)
  · rintro ρ wr ⟨s, bs', f', hsl, hc1, hc2, hk, hrr, hst, r3, r2⟩
    rw [r3, r2]
    refine X_of (load_cells (l := B8 s) Try.underlying111 agg_111 info_111 (by rw [sz_111]; simpa using hsl) (fun j u hj => ?_)) ?_
    · rw [add_plain, Nat.zero_add, cell_blk hc2]
      simpa using hj
    refine XU_storeAgg info_111 hc1 (by rw [sz_111]; simp) (by rw [sz_111]; simpa using hsl) B8_one ?_
    have hk7 := setAt_keep wr q1 (B8 s).toArray 111 (0, 0)
    refine resC_agg Try.underlying111 agg_111 info_111 (setAt_same (lt_of_blk hc1)) (by rw [sz_111]; simpa using hsl) ?_
    exact hK s bs' f' _ hsl (Keep.seq hk hk7 (fun j hj he => by omega)) (hrr.keep hk7 (by omega) (fun j _ hj _ he => by omega)) hst
/-- A row of keys of the call's own. -/
theorem X_appKey {base : Nat} {vo : Value} {ks : List Ky} {k : Ky} (ho : OwnK 33 113 Ky.cs w base vo ks) (hn : ks.length ≤ 1000000) (hbase : base ≤ w.heap.size) {K2 : Value → Value → World → Prop}
    (hK : ∀ u v' w1, OwnK 33 113 Ky.cs w1 base v' (ks ++ [k]) → Keep (fun q => some q = vo.ownBlock) w w1 → K2 u v' w1) :
    X Try.prog (Instr.buildSlice 116 1 #[(0, k.v)]) w fun u w1 => X Try.prog (Builtin.append_ #[116, 116] 116 #[vo, u]) w1 fun v' w2 => K2 u v' w2 := by
  refine X_buildSliceK Try.underlying116 el_113 (by decide) (by decide) k.cs_len ?_
  have hx3 := newB_ext w k.cs.toArray 113
  have hg3 := newB_get w k.cs.toArray 113
  show X _ _ (newB w k.cs.toArray 113) _
  generalize newB w k.cs.toArray 113 = w3 at hx3 hg3 ⊢
  have hrow : RowK 33 Ky.cs w3 (.slice (some ⟨w.heap.size, 0, none⟩) 1 1) [k] := by
    refine RowK.ofK (T := 113) (fr := (0, 0)) (by decide) Ky.cs_len ?_ rfl (by decide)
    rw [hg3]
    unfold cellsK
    simp
  refine X_appendK Try.underlying116 el_113 (by decide) Ky.cs_len (fun x hx => by rw [List.mem_singleton.1 hx]; exact Ky.one k) (ho.ext hx3) hrow (by simp; omega) (by decide) (by have := hx3.size; omega) ?_
  intro v' w4 ho4 hk4
  exact hK _ _ _ ho4 (Keep.trans (Keep.ext hx3) hk4)
theorem RKeys_spec {v : Value} {l : List Pc} (hl : RowK 34 Pc.cs w v l) (hn : l.length ≤ 1000000) (hK : ∀ vk w1, Ext w w1 → OwnK 33 113 Ky.cs w1 w.heap.size vk (kys (pl l)) → K vk w1) : CALL Try.prog 97 #[v] w K := by
  obtain ⟨a, c, ev⟩ := hl.slice
  have hkl : (kys (pl l)).length = l.length := by simp
  apply call_ref11_Keys
  unfold B_ref11_Keys
  refine loopE (fun ρ wr => ∃ (i : Nat) (vo : Value), i ≤ l.length ∧ Ext w wr ∧ OwnK 33 113 Ky.cs wr w.heap.size vo ((kys (pl l)).take i) ∧ ρ 4 = .int .i64 (i : Nat) ∧ ρ 3 = vo ∧ ρ 0 = v)
    (fun ρ wr => match ρ 4 with | .int _ s => (l.length - s).toNat | _ => 0)
    (fun ρ wr => ∃ (vo : Value), Ext w wr ∧ OwnK 33 113 Ky.cs wr w.heap.size vo (kys (pl l)) ∧ ρ 3 = vo) ?_ ?_ ?_
  · exact ⟨0, _, by omega, Keep.refl _ _, ownK_nil _ _, rfl, rfl, rfl⟩
  · rintro J hJ ρ wr ⟨i, vo, hi, hx, ho, r4, r3, r0⟩
    rw [r4, r3, r0, ev, X_len_100, X_lss, condS_bool, ← ev]
    by_cases hie : i = l.length
    · rw [if_neg (by simp; omega)]
      rw [hie, List.take_of_length_le (by omega)] at ho
      exact hJ _ _ ⟨vo, hx, ho, r3⟩
    rw [if_pos (by simp; omega)]
    have hlt : i < l.length := by omega
    obtain ⟨g, o, hix, hc⟩ := piece_at (hl.ext hx) hlt
    refine X_of (hix _) ?_
    rw [X_field_115_0]
    refine X_of (run_keyAt (v := v) (l := l) (i := i) hc) ?_
    refine X_appKey ho (by simp; omega) hx.size ?_
    intro u v' w5 ho5 hk5
    rw [X_add]
    show _ ∧ _
    refine ⟨⟨i + 1, v', by omega, Ext.seq hx hk5 (fun q hq => (ho.lt q hq.symm).1), ?_, next64 (n := 1000000) (by decide) (by omega), rfl, r0⟩, ?_⟩
    · rw [List.take_succ_eq_append_getElem (by rw [hkl]; exact hlt)]
      have e : (kys (pl l))[i]'(by rw [hkl]; exact hlt) = l[i].p.k := by simp
      rw [e]
      exact ho5
    · show (_ - IntKind.i64.wrap _).toNat < _
      rw [w64 (by omega) (by omega)]
      first | omega | (show _ < (_ : Int).toNat; omega)
  · rintro ρ wr ⟨vo, hx, ho, r3⟩
    rw [r3]
    exact hK vo wr hx ho
/-- The keys of what is taken. -/
theorem KeysC_spec {v : Value} {b : List UInt8} (hb : Bts w v b) (hl : b.length ≤ 1000000)
    (h0 : (∀ id l, id < 4294967296 → chk l = 0 → b ≠ layP id l) → ∀ w1, Ext w w1 → K (.tuple #[.int .u32 0, .slice none 0 0, i64v 110]) w1)
    (h1 : ∀ id l, id < 4294967296 → chk l = 0 → b = layP id l → ∀ vk w1, Ext w w1 → RowK 33 Ky.cs w1 vk (kys l) → K (.tuple #[.int .u32 (id : Int), vk, i64v 0]) w1) : CALL Try.prog 94 #[v] w K := by
  apply call_cont_Keys
  unfold B_cont_Keys
  refine Take_spec hb hl (fun hno w2 hx2 => ?_) (fun id l hid hc he q vl cs w2 hcs hx2 t2 => ?_)
  · (repeat (simp only [XP_extract0, XP_extract1, XP_extract2, XP_extract3, X_extract0, X_extract1, X_extract2, X_extract3, X_nilS, X_eql_nil_74, X_neq_nil_74, X_eql_nil_124, X_neq_nil_124, X_eql, X_neq, X_lss, X_leq, X_gtr, X_geq, X_not, X_min, X_max, X_len_27, X_len_9, X_len_79, XP_nilS, XP_eql, XP_neq, XP_lss, XP_leq, XP_gtr, XP_geq, XP_not, XP_min, XP_max, XP_len_27, XP_len_9, XP_eql_nil_74, X_str_eql, X_str_neq, XP_str_eql, XP_str_neq, GS, gs_u, decide_true, decide_false, Option.isNone_some, Option.isSome_some, Option.isNone_none, Option.isSome_none, eq_self, Bool.not_true, Bool.not_false, Int.reduceEq, Int.reduceNe, Int.reduceLT, Int.reduceLE, Int.reduceGT, Int.reduceGE, X_len_100]))
    refine loopE (fun ρ wr => wr = w2 ∧ ρ 19 = .int .i64 0 ∧ ρ 18 = .int .i64 0 ∧ ρ 5 = .int .u32 0 ∧ ρ 8 = .slice none 0 0 ∧ ρ 7 = .int .i64 110)
      (fun ρ wr => 0)
      (fun ρ wr => wr = w2 ∧ ρ 5 = .int .u32 0 ∧ ρ 8 = .slice none 0 0 ∧ ρ 7 = .int .i64 110) ?_ ?_ ?_
    · exact ⟨rfl, rfl, rfl, rfl, rfl, rfl⟩
    · rintro J hJ ρ wr ⟨rfl, r19, r18, r5, r8, r7⟩
      rw [r19, r18, X_lss, condS_bool, if_neg (by decide)]
      exact hJ _ _ ⟨rfl, r5, r8, r7⟩
    · rintro ρ wr ⟨rfl, r5, r8, r7⟩
      rw [r5, r8, r7]
      exact h0 hno _ hx2
  · have hcl : cs.length = l.length := by rw [← hcs]; simp
    have hn := (chk_ok hc).2.1
    have hkl : (kys l).length = cs.length := by rw [hcl]; simp
    obtain ⟨a, c, ev⟩ := t2.slice.slice
    (repeat (simp only [XP_extract0, XP_extract1, XP_extract2, XP_extract3, X_extract0, X_extract1, X_extract2, X_extract3, X_nilS, X_eql_nil_74, X_neq_nil_74, X_eql_nil_124, X_neq_nil_124, X_eql, X_neq, X_lss, X_leq, X_gtr, X_geq, X_not, X_min, X_max, X_len_27, X_len_9, X_len_79, XP_nilS, XP_eql, XP_neq, XP_lss, XP_leq, XP_gtr, XP_geq, XP_not, XP_min, XP_max, XP_len_27, XP_len_9, XP_eql_nil_74, X_str_eql, X_str_neq, XP_str_eql, XP_str_neq, GS, gs_u, decide_true, decide_false, Option.isNone_some, Option.isSome_some, Option.isNone_none, Option.isSome_none, eq_self, Bool.not_true, Bool.not_false, Int.reduceEq, Int.reduceNe, Int.reduceLT, Int.reduceLE, Int.reduceGT, Int.reduceGE]))
    rw [ev, X_len_100, ← ev]
    refine loopE (fun ρ wr => ∃ (i : Nat) (vo : Value), i ≤ cs.length ∧ Ext w2 wr ∧ OwnK 33 113 Ky.cs wr w2.heap.size vo ((kys l).take i) ∧ ρ 19 = .int .i64 (i : Nat) ∧ ρ 18 = .int .i64 (cs.length : Nat) ∧ ρ 17 = vl ∧ ρ 8 = vo ∧ ρ 5 = .int .u32 (id : Int) ∧ ρ 7 = .int .i64 0)
      (fun ρ wr => match ρ 19 with | .int _ s => (cs.length - s).toNat | _ => 0)
      (fun ρ wr => ∃ (vo : Value), Ext w2 wr ∧ OwnK 33 113 Ky.cs wr w2.heap.size vo (kys l) ∧ ρ 8 = vo ∧ ρ 5 = .int .u32 (id : Int) ∧ ρ 7 = .int .i64 0) ?_ ?_ ?_
    · exact ⟨0, _, by omega, Keep.refl _ _, ownK_nil _ _, rfl, rfl, rfl, rfl, rfl, rfl⟩
    · rintro J hJ ρ wr ⟨i, vo, hi, hx, ho, r19, r18, r17, r8, r5, r7⟩
      rw [r19, r18, r17, r8, X_lss, condS_bool]
      by_cases hie : i = cs.length
      · rw [if_neg (by simp; omega)]
        rw [hie, List.take_of_length_le (by omega)] at ho
        exact hJ _ _ ⟨vo, hx, ho, r8, r5, r7⟩
      rw [if_pos (by simp; omega)]
      have hlt : i < cs.length := by omega
      refine X_takePiece (t2.slice.ext hx) hlt ((t2.inn _ (List.getElem_mem hlt)).ext hx) ?_
      intro u1 u2 q w4 hx4 hq hqb
      rw [X_field_115_0]
      refine X_of (piece_key hqb) ?_
      refine X_appKey (ho.ext hx4) (by simp; omega) (hx.trans hx4).size ?_
      intro u v' w5 ho5 hk5
      rw [X_add]
      show _ ∧ _
      refine ⟨⟨i + 1, v', by omega, Ext.seq (hx.trans hx4) hk5 (fun q hq => (ho.lt q hq.symm).1), ?_, next64 (n := 1000000) (by decide) (by omega), r18, r17, rfl, r5, r7⟩, ?_⟩
      · rw [List.take_succ_eq_append_getElem (by rw [hkl]; exact hlt)]
        have e : (kys l)[i]'(by rw [hkl]; exact hlt) = cs[i].p.k := by
          have : kys l = kys (pl cs) := by rw [hcs]
          simp only [this]
          simp
        rw [e]
        exact ho5
      · show (_ - IntKind.i64.wrap _).toNat < _
        rw [w64 (by omega) (by omega)]
        first | omega | (show _ < (_ : Int).toNat; omega)
    · rintro ρ wr ⟨vo, hx, ho, r8, r5, r7⟩
      rw [r8, r5, r7]
      exact h1 id l hid hc he vo wr (hx2.trans hx) (OwnK.rowK (by decide) Ky.cs_len ho)
theorem SameKeys_spec {va vb : Value} {ks : List Ky} (ha : RowK 33 Ky.cs w va ks) (hb : RowK 33 Ky.cs w vb ks) (hn : ks.length ≤ 1000000) (hK : ∀ w1, Ext w w1 → K (.bool true) w1) : CALL Try.prog 96 #[va, vb] w K := by
  obtain ⟨aa, ca, ea⟩ := ha.slice
  obtain ⟨ab, cb, eb⟩ := hb.slice
  apply call_ref11_SameKeys
  unfold B_ref11_SameKeys
  rw [ea, eb]
  have c : decide ((ks.length : Int) ≠ (ks.length : Int)) = false := by simp
  (repeat (simp only [XP_extract0, XP_extract1, XP_extract2, XP_extract3, X_extract0, X_extract1, X_extract2, X_extract3, X_nilS, X_eql_nil_74, X_neq_nil_74, X_eql_nil_124, X_neq_nil_124, X_eql, X_neq, X_lss, X_leq, X_gtr, X_geq, X_not, X_min, X_max, X_len_27, X_len_9, X_len_79, XP_nilS, XP_eql, XP_neq, XP_lss, XP_leq, XP_gtr, XP_geq, XP_not, XP_min, XP_max, XP_len_27, XP_len_9, XP_eql_nil_74, X_str_eql, X_str_neq, XP_str_eql, XP_str_neq, GS, gs_u, decide_true, decide_false, Option.isNone_some, Option.isSome_some, Option.isNone_none, Option.isSome_none, eq_self, Bool.not_true, Bool.not_false, Int.reduceEq, Int.reduceNe, Int.reduceLT, Int.reduceLE, Int.reduceGT, Int.reduceGE, X_len_116, c]))
  rw [← ea, ← eb]
  have keyAt : ∀ {v : Value} {wr : World} {i : Nat}, RowK 33 Ky.cs wr v ks → (h : i < ks.length) → ∃ g : Addr, (∀ w', (Instr.indexAt 116 v (.int .i64 (i : Int))).run Try.prog w' = .ok (.pointer (some g)) w') ∧ (∀ w', Ext wr w' → (Instr.loadAt 113 (.pointer (some g))).run Try.prog w' = .ok (ks[i]).v w') := by
    intro v wr i hv h
    obtain ⟨ad, hix, hcs⟩ := hv.at Try.underlying116 info_113 sz_113 (kd := .i64) (ii := (i : Int)) i rfl h
    exact ⟨ad, hix, fun w' kk => load_cells Try.underlying113 agg_113 info_113 (l := ks[i].cs) (by rw [sz_113, Ky.cs_len]) (fun j u hj => kk.cell (fun h => h) (hcs j u hj))⟩
  refine loopE (fun ρ wr => ∃ i : Nat, i ≤ ks.length ∧ Ext w wr ∧ ρ 5 = .int .i64 (i : Int) ∧ ρ 0 = va ∧ ρ 1 = vb)
    (fun ρ wr => match ρ 5 with | .int _ s => (ks.length - s).toNat | _ => 0)
    (fun ρ wr => Ext w wr) ?_ ?_ ?_
  · exact ⟨0, by omega, Keep.refl _ _, rfl, rfl, rfl⟩
  · rintro J hJ ρ wr ⟨i, hi, hx, r5, r0, r1⟩
    rw [r0, r5, ea, X_len_116, X_lss, condS_bool, ← ea]
    by_cases hie : i = ks.length
    · rw [if_neg (by simp; omega)]
      exact hJ _ _ hx
    rw [if_pos (by simp; omega), r1]
    have hlt : i < ks.length := by omega
    have hxd := hx.trans (Keep.drew (fun _ => False) wr)
    obtain ⟨g, hix, hld⟩ := keyAt (ha.ext hxd) hlt
    obtain ⟨g2, hix2, hld2⟩ := keyAt (hb.ext hxd) hlt
    refine ⟨Ext, Ext.frame, ?_⟩
    generalize drewW wr = wd at hxd hld hld2 ⊢
    refine XP_of hix ?_
    refine XR_ok Ext.frame hld ?_
    refine XP_of hix2 ?_
    refine XR_ok Ext.frame hld2 ?_
    refine XP_of (fun w' => run_key_neq _ _ _ _ w') ?_
    rw [condS_bool, if_neg (by simp), X_add]
    show _ ∧ _
    refine ⟨⟨i + 1, by omega, hxd, next64 (n := 1000000) (by decide) (by omega), r0, r1⟩, ?_⟩
    show (_ - IntKind.i64.wrap _).toNat < _
    rw [w64 (by omega) (by omega)]
    first | omega | (show _ < (_ : Int).toNat; omega)
  · rintro ρ wr hx
    exact hK wr hx
end
end Go.Proofs.Ytggggfcgnkllgaa
end
section
/- A byte of the call's own is turned. -/
set_option linter.unusedVariables false
set_option linter.unusedSimpArgs false
namespace Go.Proofs.Ytggggfcgnkllgaa
open Go Go.Sh Go.RowKit
attribute [local irreducible] X XU XP XR CALL loopS resC closS
theorem X_xorAt {w : World} {base n j : Nat} {v : Value} {l : List UInt8} {K : Value → Value → Value → Value → World → Prop} (ho : w.ownsRow base 5 1 v n (B8 l)) (hj : j < l.length) (u : UInt8)
    (hK : ∀ a b c d w1, w1.ownsRow base 5 1 v n (B8 (l.set j (l[j] ^^^ u))) → Keep (fun k => v.ownBlock = some k) w w1 → K a b c d w1) :
    X Try.prog (Instr.indexAt 27 v (.int .i64 (j : Int))) w fun a w1 => X Try.prog (Instr.loadAt 5 a) w1 fun b w2 => X Try.prog (binOp .xor 5 b (.int .u8 ((u.toNat : Nat) : Int))) w2 fun c w3 =>
      X Try.prog (Instr.indexAt 27 v (.int .i64 (j : Int))) w3 fun d w4 => XU Try.prog (Instr.storeAt 5 d c) w4 fun w5 => K a b c d w5 := by
  obtain ⟨g, cap, cur, rfl, hg, hh, hjc, hcj, hjn, ho'⟩ := own_put ho hj (l[j] ^^^ u)
  have hix : ∀ w, (Instr.indexAt 27 (.slice (some ⟨g, 0, none⟩) n cap) (.int .i64 (j : Int))).run Try.prog w = .ok (.pointer (some ⟨g, j, none⟩)) w := by
    intro w
    have := Go.Sh.run_index (P := Try.prog) Try.underlying27 info_5 ⟨g, 0, none⟩ n cap .i64 j hjn w
    rw [sz_5, Nat.mul_one, add_plain, Nat.zero_add] at this
    exact this
  refine X_of (hix _) ?_
  refine X_of (run_loadAt agg_5 ((cell_blk hh).trans hcj)) ?_
  refine X_of (u8_xor 5 _ _ _) ?_
  refine X_of (hix _) ?_
  refine XU_store info_5 sz_5 rfl hh hjc (by simp) ?_
  refine hK _ _ _ _ _ ho' ((setAt_keep _ _ _ _ _).mono (fun k _ hk => ?_))
  rw [hk]; rfl
end Go.Proofs.Ytggggfcgnkllgaa
end
