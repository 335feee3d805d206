/- Part 5 of what the law is proved with: T10 Vault1 Vault2 T8 Ref1 Ref2 Ref3. -/
import Derived.Test.YtggggfcgnkllgaaQHC4
section
set_option linter.unusedVariables false
namespace Go.Proofs.Ytggggfcgnkllgaa
open Go Go.Sh
attribute [local irreducible] X XU XP XR CALL loopS resC closS
/-- cellarage/vault.New -/
def B_vault_New (x0 x1 x2 x3 : Value) (w : World) (K : Value → World → Prop) : Prop :=
  X Try.prog (binOpG .eql 74 (.tmp 10) (.const (.pointer none)) x0 (.pointer none)) w fun v1_11 w1 =>
  condS v1_11 (
  K (.tuple #[(.pointer none), (.int .i64 2)]) w1) (
  X Try.prog (binOp .lss 3 x1 (.int .i64 0)) w1 fun v2_13 w2 =>
  gstep v2_13 false (fun w3 K => K x2 w3) w2 fun v3_15 w4 =>
  gstep v2_13 false (fun w5 K => X Try.prog (binOp .lss 3 v3_15 (.int .i64 1)) w5 K) w4 fun v4_16 w6 =>
  X Try.prog (pickS v2_13 (.bool true) v4_16) w6 fun v5_17 w7 =>
  gstep v5_17 false (fun w8 K => K x2 w8) w7 fun v6_19 w9 =>
  gstep v5_17 false (fun w10 K => X Try.prog (binOp .gtr 3 v6_19 (.int .i64 16384)) w10 K) w9 fun v7_20 w11 =>
  X Try.prog (pickS v5_17 (.bool true) v7_20) w11 fun v8_21 w12 =>
  gstep v8_21 false (fun w13 K => K x3 w13) w12 fun v9_23 w14 =>
  gstep v8_21 false (fun w15 K => X Try.prog (binOp .lss 3 v9_23 (.int .i64 0)) w15 K) w14 fun v10_24 w16 =>
  X Try.prog (pickS v8_21 (.bool true) v10_24) w16 fun v11_25 w17 =>
  gstep v11_25 false (fun w18 K => K x1 w18) w17 fun v12_27 w19 =>
  gstep v11_25 false (fun w20 K => K x0 w20) w19 fun v13_28 w21 =>
  gstep v11_25 false (fun w22 K => CALL Try.prog 84 #[v13_28] w22 K) w21 fun v14_29 w23 =>
  gstep v11_25 false (fun w24 K => X Try.prog (binOp .gtr 3 v12_27 v14_29) w24 K) w23 fun v15_30 w25 =>
  X Try.prog (pickS v11_25 (.bool true) v15_30) w25 fun v16_31 w26 =>
  gstep v16_31 false (fun w27 K => K x3 w27) w26 fun v17_33 w28 =>
  gstep v16_31 false (fun w29 K => K x0 w29) w28 fun v18_34 w30 =>
  gstep v16_31 false (fun w31 K => CALL Try.prog 84 #[v18_34] w31 K) w30 fun v19_35 w32 =>
  gstep v16_31 false (fun w33 K => K x1 w33) w32 fun v20_36 w34 =>
  gstep v16_31 false (fun w35 K => X Try.prog (binOp .sub 3 v19_35 v20_36) w35 K) w34 fun v21_37 w36 =>
  gstep v16_31 false (fun w37 K => K x2 w37) w36 fun v22_38 w38 =>
  gstep v16_31 false (fun w39 K => X Try.prog (binOp .quo 3 v21_37 v22_38) w39 K) w38 fun v23_39 w40 =>
  gstep v16_31 false (fun w41 K => X Try.prog (binOp .gtr 3 v17_33 v23_39) w41 K) w40 fun v24_40 w42 =>
  X Try.prog (pickS v16_31 (.bool true) v24_40) w42 fun v25_41 w43 =>
  condS v25_41 (
  K (.tuple #[(.pointer none), (.int .i64 1)]) w43) (
  X Try.prog (Instr.build 196 #[(0, x0), (1, x1), (2, x2), (3, x3)]) w43 fun v26_46 w44 =>
  X Try.prog (Instr.box 196 v26_46) w44 fun v27_47 w45 =>
  K (.tuple #[v27_47, (.int .i64 0)]) w45))

theorem eq_vault_New (x0 x1 x2 x3 : Value) (w : World) (K : Value → World → Prop) :
    sh Try.prog (Try.f99.body.getD .skip) (retS Try.prog Try.f99.results K) (env0 #[x0, x1, x2, x3]) w = B_vault_New x0 x1 x2 x3 w K := by kernel_rfl

theorem call_vault_New (x0 x1 x2 x3 : Value) (w : World) (K : Value → World → Prop) (h : B_vault_New x0 x1 x2 x3 w K) : CALL Try.prog 99 #[x0, x1, x2, x3] w K :=
  call_of_eq (c := Try.f99.body.getD .skip) mixed Try.func99 (by kernel_rfl) (by kernel_rfl) (by kernel_rfl) (Nat.le_of_ble_eq_true (by kernel_rfl)) (eq_vault_New x0 x1 x2 x3 w K) h

/-- (*cellarage/vault.Vault).Put -/
def B_vault_Vault_Put (x0 x1 x2 : Value) (w : World) (K : Value → World → Prop) : Prop :=
  CALL Try.prog 141 #[x0, x1] w fun v1_15 w1 =>
  X Try.prog (Instr.extract v1_15 0) w1 fun v2_16 w2 =>
  X Try.prog (Instr.extract v1_15 1) w2 fun v3_17 w3 =>
  X Try.prog (binOpG .neq 30 (.tmp 18) (.const (.int .i64 0)) v3_17 (.int .i64 0)) w3 fun v4_19 w4 =>
  condS v4_19 (
  K v3_17 w4) (
  X Try.prog (Builtin.len_ #[27] 3 #[x2]) w4 fun v5_22 w5 =>
  CALL Try.prog 101 #[x0] w5 fun v6_24 w6 =>
  X Try.prog (binOp .gtr 3 v5_22 v6_24) w6 fun v7_25 w7 =>
  condS v7_25 (
  K (.int .i64 4) w7) (
  X Try.prog (Builtin.len_ #[27] 3 #[x2]) w7 fun v8_27 w8 =>
  X Try.prog (convert 3 22 v8_27) w8 fun v9_28 w9 =>
  CALL Try.prog 46 #[(.slice none 0 0), v9_28, (.int .i64 4)] w9 fun v10_29 w10 =>
  X Try.prog (Builtin.append_ #[27, 27] 27 #[v10_29, x2]) w10 fun v11_31 w11 =>
  loopS (fun Q1 ρ1 w12 =>
  X Try.prog (Builtin.len_ #[27] 3 #[(ρ1 9)]) w12 fun v12_33 w13 =>
  X Try.prog (binOp .gtr 3 v12_33 (.int .i64 0)) w13 fun v13_34 w14 =>
  condS v13_34 (
  X Try.prog (Builtin.len_ #[27] 3 #[(ρ1 9)]) w14 fun v14_38 w15 =>
  X Try.prog (Builtin.min_ #[3, 3] 3 #[v14_38, (.int .i64 128)]) w15 fun v15_39 w16 =>
  ∃ R, Frame? R ∧
  XP Try.prog (nilS (ρ1 0)) (drewW w16) fun v16_41 w17 =>
  XP Try.prog (Instr.fieldAt 196 v16_41 0) w17 fun v17_42 w18 =>
  XR Try.prog R (Instr.loadAt 74 v17_42) w18 fun v18_43 w19 =>
  XP Try.prog (Instr.sliceAt 27 (ρ1 9) none (some v15_39) none) w19 fun v19_47 w20 =>
  CALL Try.prog 70 #[v18_43, (ρ1 7), v19_47] w20 fun v20_48 w21 =>
  X Try.prog (binOpG .neq 30 (.tmp 49) (.const (.int .i64 0)) v20_48 (.int .i64 0)) w21 fun v21_50 w22 =>
  condS v21_50 (
  Q1 .ret (upds ρ1 [(6, v20_48), (51, v20_48), (50, v21_50), (49, v20_48), (11, v20_48), (48, v20_48), (47, v19_47), (46, v15_39), (45, (ρ1 9)), (44, (ρ1 7)), (43, v18_43), (42, v17_42), (41, v16_41), (40, (ρ1 0)), (10, v15_39), (39, v15_39), (38, v14_38), (37, (ρ1 9)), (34, v13_34), (33, v12_33), (32, (ρ1 9))]) w22) (
  X Try.prog (Instr.sliceAt 27 (ρ1 9) (some v15_39) none none) w22 fun v22_54 w23 =>
  X Try.prog (binOp .add 3 (ρ1 7) (.int .i64 1)) w23 fun v23_36 w24 =>
  Q1 .normal (upds ρ1 [(7, v23_36), (36, v23_36), (35, (ρ1 7)), (9, v22_54), (54, v22_54), (53, v15_39), (52, (ρ1 9)), (50, v21_50), (49, v20_48), (11, v20_48), (48, v20_48), (47, v19_47), (46, v15_39), (45, (ρ1 9)), (44, (ρ1 7)), (43, v18_43), (42, v17_42), (41, v16_41), (40, (ρ1 0)), (10, v15_39), (39, v15_39), (38, v14_38), (37, (ρ1 9)), (34, v13_34), (33, v12_33), (32, (ρ1 9))]) w24)) (
  Q1 (.exit 0) (upds ρ1 [(34, v13_34), (33, v12_33), (32, (ρ1 9))]) w14)) (inBlockS 0 (thenS (fun ρ2 w25 =>
  K (.int .i64 0) w25) (retS Try.prog (Try.f100).results K))) (upds (env0 #[x0, x1, x2]) [(9, v11_31), (31, v11_31), (30, x2), (29, v10_29), (28, v9_28), (27, v8_27), (26, x2), (25, v7_25), (24, v6_24), (23, x0), (22, v5_22), (21, x2), (19, v4_19), (18, v3_17), (8, v3_17), (7, v2_16), (17, v3_17), (16, v2_16), (12, v1_15), (15, v1_15), (14, x1), (13, x0), (6, (.int .i64 0))]) w11))

theorem eq_vault_Vault_Put (x0 x1 x2 : Value) (w : World) (K : Value → World → Prop) :
    sh Try.prog (Try.f100.body.getD .skip) (retS Try.prog Try.f100.results K) (env0 #[x0, x1, x2]) w = B_vault_Vault_Put x0 x1 x2 w K := by kernel_rfl

theorem call_vault_Vault_Put (x0 x1 x2 : Value) (w : World) (K : Value → World → Prop) (h : B_vault_Vault_Put x0 x1 x2 w K) : CALL Try.prog 100 #[x0, x1, x2] w K :=
  call_of_eq (c := Try.f100.body.getD .skip) mixed Try.func100 (by kernel_rfl) (by kernel_rfl) (by kernel_rfl) (Nat.le_of_ble_eq_true (by kernel_rfl)) (eq_vault_Vault_Put x0 x1 x2 w K) h

/-- (*cellarage/vault.Vault).Room -/
def B_vault_Vault_Room (x0 : Value) (w : World) (K : Value → World → Prop) : Prop :=
  X Try.prog (binOpG .eql 124 (.tmp 3) (.const (.pointer none)) x0 (.pointer none)) w fun v1_4 w1 =>
  condS v1_4 (
  K (.int .i64 0) w1) (
  X Try.prog (nilS x0) w1 fun v2_6 w2 =>
  X Try.prog (Instr.fieldAt 196 v2_6 2) w2 fun v3_7 w3 =>
  X Try.prog (Instr.loadAt 3 v3_7) w3 fun v4_8 w4 =>
  X Try.prog (binOp .mul 3 v4_8 (.int .i64 128)) w4 fun v5_9 w5 =>
  X Try.prog (binOp .sub 3 v5_9 (.int .i64 4)) w5 fun v6_10 w6 =>
  K v6_10 w6)

theorem eq_vault_Vault_Room (x0 : Value) (w : World) (K : Value → World → Prop) :
    sh Try.prog (Try.f101.body.getD .skip) (retS Try.prog Try.f101.results K) (env0 #[x0]) w = B_vault_Vault_Room x0 w K := by kernel_rfl

theorem call_vault_Vault_Room (x0 : Value) (w : World) (K : Value → World → Prop) (h : B_vault_Vault_Room x0 w K) : CALL Try.prog 101 #[x0] w K :=
  call_of_eq (c := Try.f101.body.getD .skip) mixed Try.func101 (by kernel_rfl) (by kernel_rfl) (by kernel_rfl) (Nat.le_of_ble_eq_true (by kernel_rfl)) (eq_vault_Vault_Room x0 w K) h

/-- (*cellarage/vault.Vault).Get -/
def B_vault_Vault_Get (x0 x1 : Value) (w : World) (K : Value → World → Prop) : Prop :=
  CALL Try.prog 141 #[x0, x1] w fun v1_15 w1 =>
  X Try.prog (Instr.extract v1_15 0) w1 fun v2_16 w2 =>
  X Try.prog (Instr.extract v1_15 1) w2 fun v3_17 w3 =>
  X Try.prog (binOpG .neq 30 (.tmp 18) (.const (.int .i64 0)) v3_17 (.int .i64 0)) w3 fun v4_19 w4 =>
  condS v4_19 (
  K (.tuple #[(.slice none 0 0), v3_17]) w4) (
  X Try.prog (nilS x0) w4 fun v5_23 w5 =>
  X Try.prog (Instr.fieldAt 196 v5_23 0) w5 fun v6_24 w6 =>
  X Try.prog (Instr.loadAt 74 v6_24) w6 fun v7_25 w7 =>
  CALL Try.prog 73 #[v7_25, v2_16] w7 fun v8_27 w8 =>
  X Try.prog (Instr.extract v8_27 0) w8 fun v9_28 w9 =>
  X Try.prog (Instr.extract v8_27 1) w9 fun v10_29 w10 =>
  X Try.prog (binOpG .neq 30 (.tmp 30) (.const (.int .i64 0)) v10_29 (.int .i64 0)) w10 fun v11_31 w11 =>
  condS v11_31 (
  K (.tuple #[(.slice none 0 0), v10_29]) w11) (
  CALL Try.prog 58 #[v9_28] w11 fun v12_34 w12 =>
  CALL Try.prog 61 #[v12_34, (.int .i64 4)] w12 fun v13_35 w13 =>
  CALL Try.prog 101 #[x0] w13 fun v14_38 w14 =>
  X Try.prog (convert 3 22 v14_38) w14 fun v15_39 w15 =>
  X Try.prog (binOp .gtr 22 v13_35 v15_39) w15 fun v16_40 w16 =>
  condS v16_40 (
  K (.tuple #[(.slice none 0 0), (.int .i64 110)]) w16) (
  X Try.prog (binOp .add 3 v2_16 (.int .i64 1)) w16 fun v17_42 w17 =>
  loopS (fun Q1 ρ1 w18 =>
  X Try.prog (Builtin.len_ #[27] 3 #[(ρ1 8)]) w18 fun v18_44 w19 =>
  X Try.prog (convert 22 3 (ρ1 9)) w19 fun v19_46 w20 =>
  X Try.prog (binOp .add 3 (.int .i64 4) v19_46) w20 fun v20_47 w21 =>
  X Try.prog (binOp .lss 3 v18_44 v20_47) w21 fun v21_48 w22 =>
  condS v21_48 (
  X Try.prog (nilS (ρ1 0)) w22 fun v22_53 w23 =>
  X Try.prog (Instr.fieldAt 196 v22_53 0) w23 fun v23_54 w24 =>
  X Try.prog (Instr.loadAt 74 v23_54) w24 fun v24_55 w25 =>
  CALL Try.prog 73 #[v24_55, (ρ1 6)] w25 fun v25_57 w26 =>
  X Try.prog (Instr.extract v25_57 0) w26 fun v26_58 w27 =>
  X Try.prog (Instr.extract v25_57 1) w27 fun v27_59 w28 =>
  X Try.prog (binOpG .neq 30 (.tmp 60) (.const (.int .i64 0)) v27_59 (.int .i64 0)) w28 fun v28_61 w29 =>
  condS v28_61 (
  Q1 .ret (upds ρ1 [(5, v27_59), (4, (.slice none 0 0)), (62, v27_59), (61, v28_61), (60, v27_59), (11, v27_59), (10, v26_58), (59, v27_59), (58, v26_58), (51, v25_57), (57, v25_57), (56, (ρ1 6)), (55, v24_55), (54, v23_54), (53, v22_53), (52, (ρ1 0)), (48, v21_48), (47, v20_47), (46, v19_46), (45, (ρ1 9)), (44, v18_44), (43, (ρ1 8))]) w29) (
  X Try.prog (Builtin.append_ #[27, 27] 27 #[(ρ1 8), v26_58]) w29 fun v29_65 w30 =>
  X Try.prog (binOp .add 3 (ρ1 6) (.int .i64 1)) w30 fun v30_50 w31 =>
  Q1 .normal (upds ρ1 [(6, v30_50), (50, v30_50), (49, (ρ1 6)), (8, v29_65), (65, v29_65), (64, v26_58), (63, (ρ1 8)), (61, v28_61), (60, v27_59), (11, v27_59), (10, v26_58), (59, v27_59), (58, v26_58), (51, v25_57), (57, v25_57), (56, (ρ1 6)), (55, v24_55), (54, v23_54), (53, v22_53), (52, (ρ1 0)), (48, v21_48), (47, v20_47), (46, v19_46), (45, (ρ1 9)), (44, v18_44), (43, (ρ1 8))]) w31)) (
  Q1 (.exit 0) (upds ρ1 [(48, v21_48), (47, v20_47), (46, v19_46), (45, (ρ1 9)), (44, v18_44), (43, (ρ1 8))]) w22)) (inBlockS 0 (thenS (fun ρ2 w32 =>
  X Try.prog (convert 22 3 (ρ2 9)) w32 fun v31_68 w33 =>
  X Try.prog (binOp .add 3 (.int .i64 4) v31_68) w33 fun v32_69 w34 =>
  X Try.prog (convert 22 3 (ρ2 9)) w34 fun v33_71 w35 =>
  X Try.prog (binOp .add 3 (.int .i64 4) v33_71) w35 fun v34_72 w36 =>
  X Try.prog (Instr.sliceAt 27 (ρ2 8) (some (.int .i64 4)) (some v32_69) (some v34_72)) w36 fun v35_73 w37 =>
  K (.tuple #[v35_73, (.int .i64 0)]) w37) (retS Try.prog (Try.f102).results K))) (upds (env0 #[x0, x1]) [(6, v17_42), (42, v17_42), (41, v2_16), (40, v16_40), (39, v15_39), (38, v14_38), (37, x0), (36, v13_35), (9, v13_35), (35, v13_35), (34, v12_34), (33, v9_28), (31, v11_31), (30, v10_29), (7, v10_29), (8, v9_28), (29, v10_29), (28, v9_28), (21, v8_27), (27, v8_27), (26, v2_16), (25, v7_25), (24, v6_24), (23, v5_23), (22, x0), (19, v4_19), (18, v3_17), (7, v3_17), (6, v2_16), (17, v3_17), (16, v2_16), (12, v1_15), (15, v1_15), (14, x1), (13, x0), (5, (.int .i64 0)), (4, (.slice none 0 0))]) w17)))

theorem eq_vault_Vault_Get (x0 x1 : Value) (w : World) (K : Value → World → Prop) :
    sh Try.prog (Try.f102.body.getD .skip) (retS Try.prog Try.f102.results K) (env0 #[x0, x1]) w = B_vault_Vault_Get x0 x1 w K := by kernel_rfl

theorem call_vault_Vault_Get (x0 x1 : Value) (w : World) (K : Value → World → Prop) (h : B_vault_Vault_Get x0 x1 w K) : CALL Try.prog 102 #[x0, x1] w K :=
  call_of_eq (c := Try.f102.body.getD .skip) mixed Try.func102 (by kernel_rfl) (by kernel_rfl) (by kernel_rfl) (Nat.le_of_ble_eq_true (by kernel_rfl)) (eq_vault_Vault_Get x0 x1 w K) h

/-- (*cellarage/vault.Vault).Len -/
def B_vault_Vault_Len (x0 : Value) (w : World) (K : Value → World → Prop) : Prop :=
  X Try.prog (binOpG .eql 124 (.tmp 3) (.const (.pointer none)) x0 (.pointer none)) w fun v1_4 w1 =>
  condS v1_4 (
  K (.int .i64 0) w1) (
  X Try.prog (nilS x0) w1 fun v2_6 w2 =>
  X Try.prog (Instr.fieldAt 196 v2_6 3) w2 fun v3_7 w3 =>
  X Try.prog (Instr.loadAt 3 v3_7) w3 fun v4_8 w4 =>
  K v4_8 w4)

theorem eq_vault_Vault_Len (x0 : Value) (w : World) (K : Value → World → Prop) :
    sh Try.prog (Try.f103.body.getD .skip) (retS Try.prog Try.f103.results K) (env0 #[x0]) w = B_vault_Vault_Len x0 w K := by kernel_rfl

theorem call_vault_Vault_Len (x0 : Value) (w : World) (K : Value → World → Prop) (h : B_vault_Vault_Len x0 w K) : CALL Try.prog 103 #[x0] w K :=
  call_of_eq (c := Try.f103.body.getD .skip) mixed Try.func103 (by kernel_rfl) (by kernel_rfl) (by kernel_rfl) (Nat.le_of_ble_eq_true (by kernel_rfl)) (eq_vault_Vault_Len x0 w K) h

/-- (*cellarage/vault.Vault).shelf -/
def B_vault_Vault_shelf (x0 x1 : Value) (w : World) (K : Value → World → Prop) : Prop :=
  X Try.prog (binOpG .eql 124 (.tmp 7) (.const (.pointer none)) x0 (.pointer none)) w fun v1_8 w1 =>
  condS v1_8 (
  K (.tuple #[(.int .i64 0), (.int .i64 2)]) w1) (
  X Try.prog (binOp .lss 3 x1 (.int .i64 0)) w1 fun v2_11 w2 =>
  gstep v2_11 false (fun w3 K => K x1 w3) w2 fun v3_13 w4 =>
  gstep v2_11 false (fun w5 K => K x0 w5) w4 fun v4_14 w6 =>
  gstep v2_11 false (fun w7 K => X Try.prog (nilS v4_14) w7 K) w6 fun v5_15 w8 =>
  gstep v2_11 false (fun w9 K => X Try.prog (Instr.fieldAt 196 v5_15 3) w9 K) w8 fun v6_16 w10 =>
  gstep v2_11 false (fun w11 K => X Try.prog (Instr.loadAt 3 v6_16) w11 K) w10 fun v7_17 w12 =>
  gstep v2_11 false (fun w13 K => X Try.prog (binOp .geq 3 v3_13 v7_17) w13 K) w12 fun v8_18 w14 =>
  X Try.prog (pickS v2_11 (.bool true) v8_18) w14 fun v9_19 w15 =>
  condS v9_19 (
  K (.tuple #[(.int .i64 0), (.int .i64 1)]) w15) (
  ∃ R, Frame? R ∧
  XP Try.prog (nilS x0) (drewW w15) fun v10_21 w16 =>
  XP Try.prog (Instr.fieldAt 196 v10_21 1) w16 fun v11_22 w17 =>
  XR Try.prog R (Instr.loadAt 3 v11_22) w17 fun v12_23 w18 =>
  XP Try.prog (nilS x0) w18 fun v13_26 w19 =>
  XP Try.prog (Instr.fieldAt 196 v13_26 2) w19 fun v14_27 w20 =>
  XR Try.prog R (Instr.loadAt 3 v14_27) w20 fun v15_28 w21 =>
  XP Try.prog (binOp .mul 3 x1 v15_28) w21 fun v16_29 w22 =>
  XP Try.prog (binOp .add 3 v12_23 v16_29) w22 fun v17_30 w23 =>
  K (.tuple #[v17_30, (.int .i64 0)]) w23))

theorem eq_vault_Vault_shelf (x0 x1 : Value) (w : World) (K : Value → World → Prop) :
    sh Try.prog (Try.f141.body.getD .skip) (retS Try.prog Try.f141.results K) (env0 #[x0, x1]) w = B_vault_Vault_shelf x0 x1 w K := by kernel_rfl

theorem call_vault_Vault_shelf (x0 x1 : Value) (w : World) (K : Value → World → Prop) (h : B_vault_Vault_shelf x0 x1 w K) : CALL Try.prog 141 #[x0, x1] w K :=
  call_of_eq (c := Try.f141.body.getD .skip) mixed Try.func141 (by kernel_rfl) (by kernel_rfl) (by kernel_rfl) (Nat.le_of_ble_eq_true (by kernel_rfl)) (eq_vault_Vault_shelf x0 x1 w K) h

end Go.Proofs.Ytggggfcgnkllgaa
end
section
/- cellarage/vault, function by function. -/
set_option linter.unusedSimpArgs false
set_option linter.unusedVariables false
namespace Go.Proofs.Ytggggfcgnkllgaa
open Go Go.Sh Go.RowKit
attribute [local irreducible] X XU XP XR CALL loopS resC closS

/-- Blocks of another type are not the disk's. -/
theorem DiskAt.notin {w : World} {b : Nat} {d : Dk} (h : DiskAt w b d) {q : Nat} {cs : Array Value} {T : TypeId} {fr : Nat × Nat} (hq : w.heap[q]? = some (.cells cs T fr)) (h1 : T ≠ 183) (h2 : T ≠ 184) (h3 : T ≠ 186) : ¬ Go.Sh.foot w b q := fun hf => by
  obtain ⟨_, nv, sv, wv, h⟩ := h
  rcases h.foot.1 hf with h' | h' | h' | h'
  · subst h'
    rw [h.blk] at hq
    injection hq with hq
    injection hq with _ hq
    exact h1 hq.symm
  · exact own_neT h.now hq h2 h'
  · exact own_neT h.safe hq h2 h'
  · exact own_neT h.ws hq h3 h'
theorem own_blkT {w : World} {base e size n : Nat} {v : Value} {xs : List Value} (ho : w.ownsRow base e size v n xs) {k : Nat} (hk : v.ownBlock = some k) : ∃ cs, w.heap[k]? = some (.cells cs e (0, 0)) := by
  rcases ho.2 with ⟨rfl, _⟩ | ⟨g, cap, cur, rfl, _, hh, _⟩
  · cases hk
  · have : g = k := by injection hk
    subst this
    exact ⟨cur, hh⟩
theorem DiskAt.outs {w : World} {b base size n : Nat} {d : Dk} {v : Value} {xs : List Value} (h : DiskAt w b d) (ho : w.ownsRow base 5 size v n xs) : Outs w b v := fun k hk => by
  obtain ⟨cs, hc⟩ := own_blkT ho hk
  exact ⟨h.notin hc (by decide) (by decide) (by decide), lt_of_blk hc⟩
def VaultAt (w : World) (bv b : Nat) (v : Vt) : Prop := w.heap[bv]? = some (.cells #[ptr b, .int .i64 (v.fm : Int), .int .i64 (v.each : Int), .int .i64 (v.n : Int)] 196 (0, 0))
theorem run_build_196 (p : Option Addr) (x y z : Int) (w : World) : (Instr.build 196 #[(0, .pointer p), (1, .int .i64 x), (2, .int .i64 y), (3, .int .i64 z)]).run Try.prog w = .ok (.agg #[.pointer p, .int .i64 x, .int .i64 y, .int .i64 z]) w := by kernel_rfl
theorem tdiv_ediv {a b : Int} (ha : 0 ≤ a) : a.tdiv b = a / b := Int.tdiv_eq_ediv_of_nonneg ha
section
variable {w : World} {b bv : Nat} {d : Dk} {v : Vt} {K : Value → World → Prop}
theorem VNew_spec {fm each n : Int} (hd : DiskAt w b d) (hb1 : -9223372036854775808 ≤ fm ∧ fm ≤ 9223372036854775807)
    (h0 : vnew d.safe.length fm each n = none → K (.tuple #[.pointer none, i64v 1]) w)
    (h1 : ∀ v, vnew d.safe.length fm each n = some v → ∀ bv w1, Ext w w1 → w.heap.size ≤ bv → VaultAt w1 bv b v → K (.tuple #[ptr bv, i64v 0]) w1) : CALL Try.prog 99 #[ptr b, i64v fm, i64v each, i64v n] w K := by
  have hsz : d.safe.length ≤ 16384 := hd.1.2.2.1
  apply call_vault_New
  unfold B_vault_New
  simp only [X_eql_nil_74, Option.isNone_some, GS, X_lss]
  have bad : (fm < 0 ∨ each < 1 ∨ 16384 < each ∨ n < 0 ∨ (d.safe.length : Int) < fm ∨ ((d.safe.length : Int) - fm) / each < n) → K (.tuple #[.pointer none, i64v 1]) w := fun h => h0 (by unfold vnew; rw [if_pos h])
  by_cases c1 : fm < 0
  · have e1 : decide (fm < 0) = true := by simpa using c1
    simp only [e1, GS]
    exact bad (.inl c1)
  have e1 : decide (fm < 0) = false := by simpa using c1
  simp only [e1, GS, X_lss]
  by_cases c2 : each < 1
  · have e2 : decide (each < 1) = true := by simpa using c2
    simp only [e2, GS]
    exact bad (.inr (.inl c2))
  have e2 : decide (each < 1) = false := by simpa using c2
  simp only [e2, GS, X_gtr]
  by_cases c3 : 16384 < each
  · have e3 : decide (each > 16384) = true := by simpa using c3
    simp only [e3, GS]
    exact bad (.inr (.inr (.inl c3)))
  have e3 : decide (each > 16384) = false := by simpa using c3
  simp only [e3, GS, X_lss]
  by_cases c4 : n < 0
  · have e4 : decide (n < 0) = true := by simpa using c4
    simp only [e4, GS]
    exact bad (.inr (.inr (.inr (.inl c4))))
  have e4 : decide (n < 0) = false := by simpa using c4
  simp only [e4, GS]
  refine Size_spec hd ?_
  simp only [X_gtr]
  by_cases c5 : (d.safe.length : Int) < fm
  · have e5 : decide (fm > (d.safe.length : Int)) = true := by simpa using c5
    simp only [e5, GS]
    exact bad (.inr (.inr (.inr (.inr (.inl c5)))))
  have e5 : decide (fm > (d.safe.length : Int)) = false := by simpa using c5
  simp only [e5, GS]
  refine Size_spec hd ?_
  rw [X_sub, w64 (by omega) (by omega)]
  have hq0 : 0 ≤ ((d.safe.length : Int) - fm) / each := Int.ediv_nonneg (by omega) (by omega)
  have hq1 : ((d.safe.length : Int) - fm) / each ≤ (d.safe.length : Int) - fm := Int.ediv_le_self _ (by omega)
  refine X_of (run_quo 3 .i64 _ _ (by omega) _) ?_
  rw [tdiv_ediv (by omega), w64 (by omega) (by omega), X_gtr, condS_bool]
  by_cases c6 : ((d.safe.length : Int) - fm) / each < n
  · rw [if_pos (by simpa using c6)]
    exact bad (.inr (.inr (.inr (.inr (.inr c6)))))
  rw [if_neg (by simpa using c6)]
  refine X_of (run_build_196 _ _ _ _ _) ?_
  refine X_box ?_
  have hv : vnew d.safe.length fm each n = some ⟨fm.toNat, each.toNat, n.toNat⟩ := by unfold vnew; rw [if_neg (by omega)]
  refine h1 _ hv _ _ (newB_ext _ _ _) (Nat.le_refl _) ?_
  have hg := newB_get w (Value.agg #[ptr b, .int .i64 fm, .int .i64 each, .int .i64 n]).cells 196
  unfold VaultAt
  show (newB w (Value.agg #[ptr b, .int .i64 fm, .int .i64 each, .int .i64 n]).cells 196).heap[w.heap.size]? = some (.cells #[ptr b, .int .i64 ((fm.toNat : Nat) : Int), .int .i64 ((each.toNat : Nat) : Int), .int .i64 ((n.toNat : Nat) : Int)] 196 (0, 0))
  rw [Int.toNat_of_nonneg (by omega), Int.toNat_of_nonneg (by omega), Int.toNat_of_nonneg (by omega)]
  exact hg
theorem VNew_nil {x1 x2 x3 : Value} (h0 : K (.tuple #[.pointer none, i64v 2]) w) : CALL Try.prog 99 #[.pointer none, x1, x2, x3] w K := by
  apply call_vault_New
  unfold B_vault_New
  simp only [X_eql_nil_74, Option.isNone_none, GS]
  exact h0
theorem VRoom_spec {size : Nat} (hv : VaultAt w bv b v) (ok : v.ok size) (hK : K (i64v (v.room : Int)) w) : CALL Try.prog 101 #[ptr bv] w K := by
  obtain ⟨h1, h2, h3, h4⟩ := ok
  apply call_vault_Vault_Room
  unfold B_vault_Vault_Room
  simp only [X_eql_nil_124, Option.isNone_some, GS, X_nilS, X_field_196_2]
  refine X_loadL agg_3 hv (v := .int .i64 (v.each : Int)) rfl ?_
  rw [X_mul, w64 (by omega) (by omega), X_sub, w64 (by omega) (by omega)]
  have e : (v.each : Int) * 128 - 4 = (v.room : Int) := by unfold Vt.room; omega
  rw [e]; exact hK
theorem VRoom_nil (hK : K (i64v 0) w) : CALL Try.prog 101 #[.pointer none] w K := by
  apply call_vault_Vault_Room
  unfold B_vault_Vault_Room
  simp only [X_eql_nil_124, Option.isNone_none, GS]
  exact hK
theorem VLen_spec (hv : VaultAt w bv b v) (hK : K (i64v (v.n : Int)) w) : CALL Try.prog 103 #[ptr bv] w K := by
  apply call_vault_Vault_Len
  unfold B_vault_Vault_Len
  simp only [X_eql_nil_124, Option.isNone_some, GS, X_nilS, X_field_196_3]
  exact X_loadL agg_3 hv (v := .int .i64 (v.n : Int)) rfl hK
theorem VLen_nil (hK : K (i64v 0) w) : CALL Try.prog 103 #[.pointer none] w K := by
  apply call_vault_Vault_Len
  unfold B_vault_Vault_Len
  simp only [X_eql_nil_124, Option.isNone_none, GS]
  exact hK
theorem shelf_nil {x : Value} (hK : K (.tuple #[i64v 0, i64v 2]) w) : CALL Try.prog 141 #[.pointer none, x] w K := by
  apply call_vault_Vault_shelf
  unfold B_vault_Vault_shelf
  simp only [X_eql_nil_124, Option.isNone_none, GS]
  exact hK
theorem shelf_spec {size : Nat} {at_ : Int} (hv : VaultAt w bv b v) (ok : v.ok size) (h0 : (at_ < 0 ∨ (v.n : Int) ≤ at_) → K (.tuple #[i64v 0, i64v 1]) w)
    (h1 : ∀ i : Nat, at_ = i → i < v.n → ∀ w1, Ext w w1 → K (.tuple #[i64v ((v.fm + i * v.each : Nat) : Int), i64v 0]) w1) : CALL Try.prog 141 #[ptr bv, i64v at_] w K := by
  apply call_vault_Vault_shelf
  unfold B_vault_Vault_shelf
  simp only [X_eql_nil_124, Option.isNone_some, GS, X_lss]
  by_cases c1 : at_ < 0
  · have e1 : decide (at_ < 0) = true := by simpa using c1
    simp only [e1, GS]
    exact h0 (.inl c1)
  have e1 : decide (at_ < 0) = false := by simpa using c1
  simp only [e1, GS, X_nilS, X_field_196_3]
  refine X_loadL agg_3 hv (v := .int .i64 (v.n : Int)) rfl ?_
  simp only [X_geq, GS]
  rw [condS_bool]
  by_cases c2 : (v.n : Int) ≤ at_
  · rw [if_pos (by simpa using c2)]
    exact h0 (.inr c2)
  rw [if_neg (by simpa using c2)]
  obtain ⟨i, rfl⟩ : ∃ i : Nat, at_ = (i : Int) := ⟨at_.toNat, by omega⟩
  have hi : i < v.n := by omega
  have hle := Vt.at_le ok hi
  have h4 := ok.2.2.2
  refine ⟨Ext, Ext.frame, ?_⟩
  have hvd : (drewW w).heap[bv]? = some (.cells #[ptr b, .int .i64 (v.fm : Int), .int .i64 (v.each : Int), .int .i64 (v.n : Int)] 196 (0, 0)) := hv
  try simp only [XP_nilS, XP_field_196_1, XP_field_196_2]
  refine XR_loadL agg_3 hvd (v := .int .i64 (v.fm : Int)) rfl ?_
  try simp only [XP_nilS, XP_field_196_2]
  refine XR_loadL agg_3 hvd (v := .int .i64 (v.each : Int)) rfl ?_
  have em : ((i : Nat) : Int) * (v.each : Int) = ((i * v.each : Nat) : Int) := (Int.natCast_mul _ _).symm
  rw [XP_mul, em, w64 (by omega) (by omega), XP_add, w64 (by omega) (by omega)]
  exact h1 i rfl hi _ (Keep.drew _ _)
/-- Bytes are written, sector by sector. -/
theorem VPut_spec {at_ : Int} {x : Value} {bs : List UInt8} (hv : VaultAt w bv b v) (hd : DiskAt w b d) (ok : v.ok d.safe.length) (hws : d.ws.length + bs.length + 4 ≤ 900000) (hb : Bts w x bs)
    (hK : ∀ w1, DiskAt w1 b (vput v d at_ bs).1 → Step b w w1 → K (i64v (vput v d at_ bs).2) w1) : CALL Try.prog 100 #[ptr bv, i64v at_, x] w K := by
  have hb_lt := hd.lt b (foot_self _ _)
  obtain ⟨ax, cx, ex⟩ := Bts.slice hb
  have e0 : decide ((0 : Int) ≠ 0) = false := by decide
  have e1 : decide ((1 : Int) ≠ 0) = true := by decide
  apply call_vault_Vault_Put
  unfold B_vault_Vault_Put
  refine shelf_spec hv ok ?_ ?_
  · intro hbad
    simp only [X_extract0, X_extract1, X_neq, e1, GS]
    have e : vput v d at_ bs = (d, 1) := by unfold vput; rw [if_pos hbad]
    have := hK w (by rw [e]; exact hd) Step.refl
    rw [e] at this
    exact this
  rintro i rfl hi w1 hx1
  have hd1 := hd.ext hx1
  have hv1 : VaultAt w1 bv b v := hx1.get hv
  have s1 : Step b w w1 := Step.ext hx1 hb_lt
  have hgood : ¬ ((i : Int) < 0 ∨ (v.n : Int) ≤ (i : Int)) := by omega
  have hle := Vt.at_le ok hi
  have hsz := ok.2.2.2
  rw [ex]
  simp only [X_extract0, X_extract1, X_neq, e0, GS, X_len_27]
  refine VRoom_spec hv1 ok ?_
  rw [X_gtr, condS_bool]
  by_cases hroom : v.room < bs.length
  · rw [if_pos (by simp; omega)]
    have e : vput v d (i : Int) bs = (d, 4) := by unfold vput; rw [if_neg hgood, if_pos hroom]
    have := hK w1 (by rw [e]; exact hd1) s1
    rw [e] at this
    exact this
  rw [if_neg (by simp; omega)]
  have eput : vput v d (i : Int) bs = layAll d (v.fm + i * v.each) (be 4 bs.length ++ bs) := by unfold vput; rw [if_neg hgood, if_neg hroom]; rfl
  rw [eput] at hK
  rw [X_conv_3_22, wrap_u64, Int.emod_eq_of_lt (by omega) (by omega)]
  refine Put_spec (Bts.nil w1) (by simp) (by omega) ?_
  intro v2 w2 hx2 ho2
  have e4 : putB bs.length 4 = be 4 bs.length := rfl
  rw [List.nil_append, e4] at ho2
  rw [← ex]
  have hl4 : (be 4 bs.length).length = 4 := be_length _ _
  refine X_append_bts (base := w1.heap.size) Try.underlying27 el_5 ho2 ((hb.ext hx1).ext hx2) (by omega) hx2.size ?_
  intro v3 w3 ho3 hk3
  have hx3 : Ext w1 w3 := Ext.seq hx2 hk3 (fun j hj => (ho2.lt j hj.symm).1)
  have hd3 := hd1.ext hx3
  have hv3 : VaultAt w3 bv b v := hx3.get hv1
  have s3 := s1.trans (Step.ext hx3 (hd1.lt b (foot_self _ _)))
  have out3 : Outs w3 b v3 := hd3.outs ho3
  have hb3 := (own_bts ho3).1
  refine loopE (fun ρ wr => ∃ (d' : Dk) (to_ : Nat) (rest : List UInt8) (vr : Value), DiskAt wr b d' ∧ Step b w wr ∧ VaultAt wr bv b v ∧ Bts wr vr rest ∧ vr.ownBlock = v3.ownBlock ∧ Outs wr b v3 ∧ d'.ws.length + rest.length ≤ 900000 ∧ to_ + rest.length ≤ 20000000 ∧
      layAll d (v.fm + i * v.each) (be 4 bs.length ++ bs) = layAll d' to_ rest ∧ ρ 9 = vr ∧ ρ 7 = .int .i64 (to_ : Int) ∧ ρ 0 = ptr bv)
    (fun ρ wr => match ρ 9 with | .slice _ n _ => n | _ => 0)
    (fun ρ wr => ∃ d', DiskAt wr b d' ∧ Step b w wr ∧ layAll d (v.fm + i * v.each) (be 4 bs.length ++ bs) = (d', 0)) ?_ ?_ ?_
  · have hroom' : bs.length ≤ 16384 * 128 := by have := ok.2.1; unfold Vt.room at hroom; omega
    exact ⟨d, _, _, v3, hd3, s3, hv3, hb3, rfl, out3, by simp [hl4]; omega, by simp [hl4]; omega, rfl, rfl, rfl, rfl⟩
  · rintro J hJ ρ wr ⟨d', to_, rest, vr, hd', hs', hv', hbr, hvr, outr, hws', hto, heq, r9, r7, r0⟩
    obtain ⟨ar, cr, er⟩ := Bts.slice hbr
    rw [r9, er, X_len_27, X_gtr, condS_bool, ← er]
    by_cases hr0 : rest = []
    · rw [if_neg (by rw [hr0]; simp)]
      refine hJ _ _ ⟨d', hd', hs', ?_⟩
      rw [heq, hr0, layAll_nil]
    have hpos : 0 < rest.length := List.length_pos_iff.2 hr0
    rw [if_pos (by simp; omega), er, X_len_27, X_min, ← er]
    obtain ⟨n, hn⟩ : ∃ n : Nat, n = min rest.length 128 := ⟨_, rfl⟩
    have en : min (rest.length : Int) 128 = (n : Int) := by omega
    rw [en]
    have et : rest.take n = rest.take 128 := by
      rw [hn]
      rcases Nat.le_total rest.length 128 with h | h
      · rw [Nat.min_eq_left h, List.take_of_length_le (Nat.le_refl _), List.take_of_length_le h]
      · rw [Nat.min_eq_right h]
    have ed : rest.drop n = rest.drop 128 := by
      rw [hn]
      rcases Nat.le_total rest.length 128 with h | h
      · rw [Nat.min_eq_left h, List.drop_eq_nil_of_le (Nat.le_refl _), List.drop_eq_nil_of_le h]
      · rw [Nat.min_eq_right h]
    refine ⟨Ext, Ext.frame, ?_⟩
    have hvd : (drewW wr).heap[bv]? = some (.cells #[ptr b, .int .i64 (v.fm : Int), .int .i64 (v.each : Int), .int .i64 (v.n : Int)] 196 (0, 0)) := hv'
    rw [r0, r7]
    try simp only [XP_nilS, XP_field_196_0]
    refine XR_loadL agg_74 hvd (v := ptr b) rfl ?_
    have hbd := hbr.drew
    obtain ⟨u, hu, hub, hublk⟩ := cut_hi Try.underlying27 info_5 hbd (kh := .i64) n rfl (by omega)
    obtain ⟨u2, hu2, hub2, hublk2⟩ := cut_lo Try.underlying27 info_5 sz_5 hbd (kl := .i64) n rfl (by omega)
    refine XP_of hu ?_
    have hdd := hd'.ext (Keep.drew (fun _ => False) wr)
    have outd : Outs (drewW wr) b v3 := outr
    refine Write_spec hdd (by omega) hub (fun _ k hk hf => (outd k (by rw [← hvr, ← hublk]; exact hk)).1 hf) ?_
    intro w5 hd5 s5
    rw [et] at hd5 ⊢
    have s5' : Step b w w5 := hs'.trans ((Step.ext (Keep.drew _ _) (hd'.lt b (foot_self _ _))).trans s5)
    have hcons := layAll_cons d' to_ hr0
    rw [X_neq, condS_bool]
    by_cases he : (d'.write (to_ : Int) (rest.take 128)).2 = 0
    · rw [if_neg (by simpa using he)]
      rw [if_neg (by simpa using he)] at hcons
      refine X_of (hu2 _) ?_
      rw [X_add, w64 (by omega) (by omega)]
      have hv5 : VaultAt w5 bv b v := s5.keep.get (hdd.notin hvd (by decide) (by decide) (by decide)) hvd
      have hws5 := Dk.write_ws d' (to_ : Int) (rest.take 128)
      have out5 := outd.step s5
      have hb5 : Bts w5 u2 (rest.drop 128) := by
        rw [← ed]
        exact hub2.keep s5.keep (fun k hk => (outd k (by rw [← hvr, ← hublk2]; exact hk)).1)
      obtain ⟨a5, c5, e5⟩ := Bts.slice hb5
      show _ ∧ _
      refine ⟨⟨_, to_ + 1, rest.drop 128, u2, hd5, s5', hv5, hb5, hublk2.trans hvr, out5, by rw [List.length_drop]; omega, by rw [List.length_drop]; omega, heq.trans hcons, rfl, rfl, r0⟩, ?_⟩
      show (match u2 with | .slice _ n _ => n | _ => 0) < _
      rw [e5, er]
      show (rest.drop 128).length < rest.length
      rw [List.length_drop]
      omega
    · rw [if_pos (by simpa using he)]
      rw [if_pos (by simpa using he)] at hcons
      show K (i64v (d'.write (to_ : Int) (rest.take 128)).2) w5
      have := hK w5 (by rw [heq, hcons]; exact hd5) s5'
      rw [heq, hcons] at this
      exact this
  · rintro ρ wr ⟨d', hd', hs', heq⟩
    have := hK wr (by rw [heq]; exact hd') hs'
    rw [heq] at this
    exact this
theorem VPut_nil {x y : Value} (hK : K (i64v 2) w) : CALL Try.prog 100 #[.pointer none, x, y] w K := by
  have e2 : decide ((2 : Int) ≠ 0) = true := by decide
  apply call_vault_Vault_Put
  unfold B_vault_Vault_Put
  refine shelf_nil ?_
  simp only [X_extract0, X_extract1, X_neq, e2, GS]
  exact hK
theorem VGet_nil {x : Value} (hK : K (.tuple #[.slice none 0 0, i64v 2]) w) : CALL Try.prog 102 #[.pointer none, x] w K := by
  have e2 : decide ((2 : Int) ≠ 0) = true := by decide
  apply call_vault_Vault_Get
  unfold B_vault_Vault_Get
  refine shelf_nil ?_
  simp only [X_extract0, X_extract1, X_neq, e2, GS]
  exact hK
end
end Go.Proofs.Ytggggfcgnkllgaa
end
section
/- cellarage/vault: what a shelf has. -/
set_option linter.unusedSimpArgs false
set_option linter.unusedVariables false
namespace Go.Proofs.Ytggggfcgnkllgaa
open Go Go.Sh Go.RowKit
attribute [local irreducible] X XU XP XR CALL loopS resC closS
/-- 'x[lo:hi:mx]' of a slice. -/
theorem run_slice3 {P : Program} {T e : TypeId} (hT : P.underlying T = some (.slice e)) (hi : infoB P e = true) (a : Option Addr) (n c : Nat) (kl kh km : IntKind) (lo hi' mx : Nat) (h1 : lo ≤ hi') (h2 : hi' ≤ mx) (h3 : mx ≤ c) (w : World) :
    (Instr.sliceAt T (.slice a n c) (some (.int kl lo)) (some (.int kh hi')) (some (.int km mx))).run P w = .ok (.slice (if mx = lo then a else a.map (·.add (lo * szT P e))) (hi' - lo) (mx - lo)) w := by
  simp [Instr.sliceAt, Instr.slice, run_underlying hT, Instr.sliceBounds, Instr.sliceBound, asIntOf, sizeOf_run hi, h1, h2, h3]
theorem cut_three {P : Program} {T e : TypeId} (hT : P.underlying T = some (.slice e)) (hi : infoB P e = true) (hs : szT P e = 1) {v : Value} {bs : List UInt8} {w0 : World} (hb : Bts w0 v bs) {kl kh km : IntKind} {li hj mj : Int} (lo h' : Nat) (e1 : li = lo) (e2 : hj = h') (e3 : mj = h') (h1 : lo ≤ h') (h2 : h' ≤ bs.length) :
    ∃ u, (∀ w, (Instr.sliceAt T v (some (.int kl li)) (some (.int kh hj)) (some (.int km mj))).run P w = .ok u w) ∧ Bts w0 u ((bs.take h').drop lo) ∧ u.ownBlock = v.ownBlock := by
  subst e1; subst e2; subst e3
  obtain ⟨a, c, rfl, h3, h4, h5⟩ := hb
  refine ⟨_, fun w => run_slice3 hT hi a bs.length c kl kh km lo h' h' h1 (Nat.le_refl _) (by omega) w, ?_, ?_⟩
  · rw [hs, Nat.mul_one]
    have hl : ((bs.take h').drop lo).length = h' - lo := by simp; omega
    refine ⟨_, _, by rw [hl], by omega, by omega, fun hn => ?_⟩
    rw [hl] at hn
    obtain ⟨ad, rfl, hc⟩ := h5 (by omega)
    refine ⟨ad.add lo, by rw [if_neg (by omega)]; rfl, fun j u hj => ?_⟩
    have hj' : bs[lo + j]? = some u := by
      rw [List.getElem?_drop, List.getElem?_take] at hj
      split at hj
      · exact hj
      · cases hj
    have := hc _ _ hj'
    have e : (ad.add lo).add j = ad.add (lo + j) := by
      unfold Addr.add
      by_cases h0 : lo = 0
      · subst h0; simp
      · by_cases hj0 : j = 0
        · subst hj0; simp
        · simp [h0, hj0, Nat.add_assoc]
    rw [e]
    exact this
  · rw [hs, Nat.mul_one]
    cases a with
    | none => split <;> rfl
    | some ad => split <;> simp [Value.ownBlock, add_block']
where add_block' (ad : Addr) (j : Nat) : (ad.add j).block = ad.block := by unfold Addr.add; split <;> rfl
theorem num4_lt (l : List UInt8) : num (l.take 4) < 4294967296 := by
  have h := num_lt (l.take 4)
  have h2 : (256 : Nat) ^ (l.take 4).length ≤ 256 ^ 4 := Nat.pow_le_pow_right (by decide) (by simp; omega)
  omega
theorem flat_take_drop (l : List (List UInt8)) (h : ∀ s ∈ l, s.length = 128) (b j : Nat) (hj : b + j ≤ l.length) : ((l.drop b).take j).flatten.length = j * 128 := by
  rw [flat_len (n := 128) (fun s hs => h s (List.mem_of_mem_drop (List.mem_of_mem_take hs)))]
  simp
  omega
theorem flat_succ (l : List (List UInt8)) (b j : Nat) (hj : b + j < l.length) : ((l.drop b).take (j + 1)).flatten = ((l.drop b).take j).flatten ++ l.getD (b + j) [] := by
  rw [List.take_succ_eq_append_getElem (by simp; omega), List.flatten_append]
  simp only [List.flatten_cons, List.flatten_nil, List.append_nil, List.getElem_drop]
  rw [List.getD_eq_getElem?_getD, List.getElem?_eq_getElem hj]
  rfl
theorem take_flat (l : List (List UInt8)) (h : ∀ s ∈ l, s.length = 128) (b j e k : Nat) (hje : j ≤ e) (he : b + e ≤ l.length) (hk : k ≤ j * 128) : (((l.drop b).take e).flatten).take k = (((l.drop b).take j).flatten).take k := by
  have e1 : ((l.drop b).take e).take j = (l.drop b).take j := by rw [List.take_take, Nat.min_eq_left hje]
  have hall : ∀ s ∈ (l.drop b).take e, s.length = 128 := fun s hs => h s (List.mem_of_mem_drop (List.mem_of_mem_take hs))
  have e2 := flat_take hall j
  rw [e1] at e2
  rw [← e2, List.take_take, Nat.min_eq_left hk]
section
variable {w : World} {b bv : Nat} {d : Dk} {v : Vt} {K : Value → World → Prop}
theorem read_at {d : Dk} {i : Nat} (hi : i < d.safe.length) : d.read (i : Int) = if d.dead = true then ([], 6) else (d.now.getD i [], 0) := by
  unfold Dk.read
  rw [if_neg (by omega)]
  rfl
theorem VGet_spec {at_ : Int} (hv : VaultAt w bv b v) (hd : DiskAt w b d) (ok : v.ok d.safe.length)
    (hK : ∀ u w1, Ext w w1 → Bts w1 u (vget v d at_).1 → K (.tuple #[u, i64v (vget v d at_).2]) w1) : CALL Try.prog 102 #[ptr bv, i64v at_] w K := by
  have e0 : decide ((0 : Int) ≠ 0) = false := by decide
  have e1 : decide ((1 : Int) ≠ 0) = true := by decide
  have e6 : decide ((6 : Int) ≠ 0) = true := by decide
  apply call_vault_Vault_Get
  unfold B_vault_Vault_Get
  refine shelf_spec hv ok ?_ ?_
  · intro hbad
    simp only [X_extract0, X_extract1, X_neq, e1, GS]
    have e : vget v d at_ = ([], 1) := by unfold vget; rw [if_pos hbad]
    have := hK (.slice none 0 0) w (Keep.refl _ _) (by rw [e]; exact Bts.nil w)
    rw [e] at this
    exact this
  rintro i rfl hi w1 hx1
  have hd1 := hd.ext hx1
  have hv1 : VaultAt w1 bv b v := hx1.get hv
  have hgood : ¬ ((i : Int) < 0 ∨ (v.n : Int) ≤ (i : Int)) := by omega
  have hle := Vt.at_le ok hi
  obtain ⟨ok1, ok2, ok3, ok4⟩ := id ok
  obtain ⟨B, hB⟩ : ∃ B, B = v.fm + i * v.each := ⟨_, rfl⟩
  rw [← hB] at hle ⊢
  simp only [X_extract0, X_extract1, X_neq, e0, GS, X_nilS, X_field_196_0]
  refine X_loadL agg_74 hv1 (v := ptr b) rfl ?_
  refine Read_spec hd1 ?_
  intro v2 w2 hx2 ho2
  rw [read_at (d := d) (i := B) (by omega)] at ho2 ⊢
  by_cases hdead : d.dead = true
  · rw [if_pos hdead] at ho2 ⊢
    simp only [X_extract0, X_extract1, X_neq, e6, GS]
    have e : vget v d (i : Int) = ([], 6) := by unfold vget; rw [if_neg hgood, if_pos hdead]
    have := hK (.slice none 0 0) w2 (hx1.trans hx2) (by rw [e]; exact Bts.nil _)
    rw [e] at this
    exact this
  rw [if_neg hdead] at ho2 ⊢
  have n128 := Dk.now_128 hd.1
  have nlen := Dk.now_length d
  have hnl : (d.now.getD B []).length = 128 := by
    rw [List.getD_eq_getElem?_getD, List.getElem?_eq_getElem (by omega)]
    exact n128 _ (List.getElem_mem _)
  have eone : ((d.now.drop B).take 1).flatten = d.now.getD B [] := by
    have := flat_succ d.now B 0 (by omega)
    rw [Nat.add_zero] at this
    simpa using this
  simp only [X_extract0, X_extract1, X_neq, e0, GS]
  have hb2 := (own_bts ho2).1
  refine New_spec hb2 (by show (d.now.getD B []).length ≤ _; omega) ?_
  intro rb w3 hx3 hrb hr3
  refine Get_spec hr3 ?_
  intro w4 hk4 hr4
  have hx4 : Ext w2 w4 := Ext.seq hx3 hk4 (fun j hj => by omega)
  have eg : getR (d.now.getD B []) 0 4 = (num ((d.now.getD B []).take 4), (d.now.getD B []).drop 4, 0) := by
    unfold getR
    rw [if_neg (by simp), if_neg (by omega), if_neg (by rw [hnl]; decide)]
    rfl
  rw [eg]
  have hv4 : VaultAt w4 bv b v := hx4.get (hx2.get hv1)
  have eall : (vall v d i).take 4 = (d.now.getD B []).take 4 := by
    unfold vall
    rw [← hB, take_flat d.now n128 B 1 v.each 4 ok1 (by omega) (by decide), eone]
  obtain ⟨n, hn⟩ : ∃ n, n = num ((d.now.getD B []).take 4) := ⟨_, rfl⟩
  have hn4 := num4_lt (d.now.getD B [])
  rw [← hn] at hn4 ⊢
  refine VRoom_spec hv4 ok ?_
  have hrle : v.room ≤ 16384 * 128 := by unfold Vt.room; omega
  rw [X_conv_3_22, wrap_u64, Int.emod_eq_of_lt (by omega) (by omega), X_gtr, condS_bool]
  have eget : vget v d (i : Int) = if v.room < n then ([], 110) else (((vall v d i).drop 4).take n, 0) := by
    unfold vget
    rw [if_neg hgood, if_neg hdead]
    show (if v.room < num ((vall v d i).take 4) then _ else _) = _
    rw [Int.toNat_natCast, eall, ← hn]
  by_cases hroom : v.room < n
  · rw [if_pos (by simp; omega)]
    rw [if_pos hroom] at eget
    have := hK (.slice none 0 0) w4 (hx1.trans (hx2.trans hx4)) (by rw [eget]; exact Bts.nil _)
    rw [eget] at this
    exact this
  rw [if_neg (by simp; omega)]
  rw [if_neg hroom] at eget
  have hroomv : 4 + n ≤ v.each * 128 := by unfold Vt.room at hroom; omega
  rw [X_add, w64 (by omega) (by omega)]
  have ho4 := own_extD ho2 hx4
  have hd4 := hd1.ext (hx2.trans hx4)
  refine loopE (fun ρ wr => ∃ (j : Nat) (va : Value), 1 ≤ j ∧ j ≤ v.each ∧ Ext w1 wr ∧ wr.ownsRow w1.heap.size 5 1 va (((d.now.drop B).take j).flatten).length (B8 ((d.now.drop B).take j).flatten) ∧ ρ 8 = va ∧ ρ 9 = .int .u64 (n : Int) ∧ ρ 6 = .int .i64 ((B + j : Nat) : Int) ∧ ρ 0 = ptr bv)
    (fun ρ wr => match ρ 6 with | .int _ s => (B + v.each + 1 - s).toNat | _ => 0)
    (fun ρ wr => ∃ (j : Nat) (va : Value), j ≤ v.each ∧ 4 + n ≤ j * 128 ∧ Ext w1 wr ∧ Bts wr va ((d.now.drop B).take j).flatten ∧ ρ 8 = va ∧ ρ 9 = .int .u64 (n : Int)) ?_ ?_ ?_
  · refine ⟨1, v2, Nat.le_refl _, ok1, hx2.trans hx4, ?_, rfl, rfl, ?_, rfl⟩
    · rw [eone]; exact ho4
    · show Value.int .i64 ((B : Int) + 1) = _
      congr 1
  · rintro J hJ ρ wr ⟨j, va, hj1, hj, hxr, hor, r8, r9, r6, r0⟩
    have hlj := flat_take_drop d.now n128 B j (by omega)
    obtain ⟨aa, ca, ea⟩ := own_sl hor
    rw [r8, r9, ea, X_len_27, X_conv_22_3, w64 (by omega) (by omega), X_add, w64 (by omega) (by omega), X_lss, condS_bool, ← ea, hlj]
    by_cases hlt : j * 128 < 4 + n
    case neg =>
      rw [if_neg (by simp; omega)]
      exact hJ _ _ ⟨j, va, hj, by omega, hxr, (own_bts hor).1, r8, r9⟩
    rw [if_pos (by simp; omega)]
    have hje : j < v.each := by omega
    have hvr : VaultAt wr bv b v := hxr.get hv1
    rw [r0, r6]
    simp only [X_nilS, X_field_196_0]
    refine X_loadL agg_74 hvr (v := ptr b) rfl ?_
    have hdr := hd1.ext hxr
    refine Read_spec hdr ?_
    intro v5 w5 hx5 ho5
    rw [read_at (d := d) (i := B + j) (by omega), if_neg hdead] at ho5 ⊢
    simp only [X_extract0, X_extract1, X_neq, e0, GS]
    have hor5 := own_extD hor hx5
    have hnl5 : (d.now.getD (B + j) []).length = 128 := by
      rw [List.getD_eq_getElem?_getD, List.getElem?_eq_getElem (by omega)]
      exact n128 _ (List.getElem_mem _)
    refine X_append_bts (base := w1.heap.size) Try.underlying27 el_5 hor5 (own_bts ho5).1 (by show _ + (d.now.getD (B + j) []).length ≤ _; omega) (by have := hxr.size; have := hx5.size; omega) ?_
    intro v6 w6 ho6 hk6
    rw [X_add, w64 (by omega) (by omega)]
    have es := flat_succ d.now B j (by omega)
    rw [← es] at ho6
    show _ ∧ _
    refine ⟨⟨j + 1, v6, by omega, hje, Ext.seq (hxr.trans hx5) hk6 (fun q hq => (hor.lt q hq.symm).1), ?_, rfl, r9, ?_, r0⟩, ?_⟩
    · have el : ((d.now.drop B).take (j + 1)).flatten.length = ((d.now.drop B).take j).flatten.length + (d.now.getD (B + j) []).length := by rw [es, List.length_append]
      rw [el]
      exact ho6
    · show Value.int .i64 (((B + j : Nat) : Int) + 1) = _
      congr 1
    · show ((B : Int) + (v.each : Int) + 1 - (((B + j : Nat) : Int) + 1)).toNat < _
      first | omega | (show _ < (_ : Int).toNat; omega)
  · rintro ρ wr ⟨j, va, hj, hjn, hxr, hbr, r8, r9⟩
    have hlj := flat_take_drop d.now n128 B j (by omega)
    rw [r8, r9]
    rw [X_conv_22_3, w64 (by omega) (by omega), X_add, w64 (by omega) (by omega)]
    rw [X_conv_22_3, w64 (by omega) (by omega), X_add, w64 (by omega) (by omega)]
    obtain ⟨u, hu, hub, _⟩ := cut_three Try.underlying27 info_5 sz_5 hbr (kl := .i64) (kh := .i64) (km := .i64) (li := 4) (hj := 4 + (n : Int)) (mj := 4 + (n : Int)) 4 (4 + n) rfl (by omega) (by omega) (by omega) (by omega)
    refine X_of (hu _) ?_
    have := hK u wr (hx1.trans hxr) (by
      rw [eget]
      have e2 : ((vall v d i).drop 4).take n = ((((d.now.drop B).take j).flatten).take (4 + n)).drop 4 := by
        have e3 : (vall v d i).take (4 + n) = (((d.now.drop B).take j).flatten).take (4 + n) := by
          unfold vall
          rw [← hB]
          exact take_flat d.now n128 B j v.each (4 + n) hj (by omega) hjn
        rw [← e3, List.drop_take, show 4 + n - 4 = n by omega]
      show Bts wr u (((vall v d i).drop 4).take n)
      rw [e2]
      exact hub)
    rw [eget] at this
    exact this
end
end Go.Proofs.Ytggggfcgnkllgaa
end
section
set_option linter.unusedVariables false
namespace Go.Proofs.Ytggggfcgnkllgaa
open Go Go.Sh
attribute [local irreducible] X XU XP XR CALL loopS resC closS
/-- cellarage/cellarageref08.New -/
def B_ref08_New (x0 : Value) (w : World) (K : Value → World → Prop) : Prop :=
  X Try.prog (binOp .lss 3 x0 (.int .i64 0)) w fun v1_7 w1 =>
  gstep v1_7 false (fun w2 K => K x0 w2) w1 fun v2_9 w3 =>
  gstep v1_7 false (fun w4 K => X Try.prog (binOp .gtr 3 v2_9 (.int .i64 16384)) w4 K) w3 fun v3_10 w5 =>
  X Try.prog (pickS v1_7 (.bool true) v3_10) w5 fun v4_11 w6 =>
  condS v4_11 (
  K (.tuple #[(.pointer none), (.int .i64 1)]) w6) (
  X Try.prog (Instr.makeSlice 66 x0 x0) w6 fun v5_13 w7 =>
  X Try.prog (Instr.build 148 #[(0, v5_13), (3, (.int .i64 (-1)))]) w7 fun v6_14 w8 =>
  X Try.prog (Instr.box 148 v6_14) w8 fun v7_15 w9 =>
  loopS (fun Q1 ρ1 w10 =>
  X Try.prog (binOp .lss 3 (ρ1 5) (ρ1 0)) w10 fun v8_18 w11 =>
  condS v8_18 (
  ∃ R, Frame? R ∧
  XP Try.prog (nilS (ρ1 4)) (drewW w11) fun v9_22 w12 =>
  XP Try.prog (Instr.fieldAt 148 v9_22 0) w12 fun v10_23 w13 =>
  XR Try.prog R (Instr.loadAt 66 v10_23) w13 fun v11_24 w14 =>
  CALL Try.prog 133 #[(.string { data := #[] })] w14 fun v12_26 w15 =>
  R w14 w15 ∧
  XP Try.prog (Instr.indexAt 66 v11_24 (ρ1 5)) w15 fun v13_27 w16 =>
  XU Try.prog (Instr.storeAt 9 v13_27 v12_26) w16 fun w17 =>
  X Try.prog (binOp .add 3 (ρ1 5) (.int .i64 1)) w17 fun v14_20 w18 =>
  Q1 .normal (upds ρ1 [(5, v14_20), (20, v14_20), (19, (ρ1 5)), (27, v13_27), (26, v12_26), (25, (ρ1 5)), (24, v11_24), (23, v10_23), (22, v9_22), (21, (ρ1 4)), (18, v8_18), (17, (ρ1 0)), (16, (ρ1 5))]) w18) (
  Q1 (.exit 0) (upds ρ1 [(18, v8_18), (17, (ρ1 0)), (16, (ρ1 5))]) w11)) (inBlockS 0 (thenS (fun ρ2 w19 =>
  K (.tuple #[(ρ2 4), (.int .i64 0)]) w19) (retS Try.prog (Try.f80).results K))) (upds (env0 #[x0]) [(5, (.int .i64 0)), (4, v7_15), (15, v7_15), (14, v6_14), (13, v5_13), (12, x0), (11, v4_11), (10, v3_10), (9, v2_9), (8, v1_7), (7, v1_7), (6, x0), (3, (.int .i64 0)), (2, (.pointer none))]) w9)

theorem eq_ref08_New (x0 : Value) (w : World) (K : Value → World → Prop) :
    sh Try.prog (Try.f80.body.getD .skip) (retS Try.prog Try.f80.results K) (env0 #[x0]) w = B_ref08_New x0 w K := by kernel_rfl

theorem call_ref08_New (x0 : Value) (w : World) (K : Value → World → Prop) (h : B_ref08_New x0 w K) : CALL Try.prog 80 #[x0] w K :=
  call_of_eq (c := Try.f80.body.getD .skip) mixed Try.func80 (by kernel_rfl) (by kernel_rfl) (by kernel_rfl) (Nat.le_of_ble_eq_true (by kernel_rfl)) (eq_ref08_New x0 w K) h

/-- (*cellarage/cellarageref08.Disk).Write -/
def B_ref08_Disk_Write (x0 x1 x2 : Value) (w : World) (K : Value → World → Prop) : Prop :=
  X Try.prog (binOp .lss 3 x1 (.int .i64 0)) w fun v1_8 w1 =>
  gstep v1_8 false (fun w2 K => K x1 w2) w1 fun v2_10 w3 =>
  gstep v1_8 false (fun w4 K => K x0 w4) w3 fun v3_11 w5 =>
  gstep v1_8 false (fun w6 K => X Try.prog (nilS v3_11) w6 K) w5 fun v4_12 w7 =>
  gstep v1_8 false (fun w8 K => X Try.prog (Instr.fieldAt 148 v4_12 0) w8 K) w7 fun v5_13 w9 =>
  gstep v1_8 false (fun w10 K => X Try.prog (Instr.loadAt 66 v5_13) w10 K) w9 fun v6_14 w11 =>
  gstep v1_8 false (fun w12 K => X Try.prog (Builtin.len_ #[66] 3 #[v6_14]) w12 K) w11 fun v7_15 w13 =>
  gstep v1_8 false (fun w14 K => X Try.prog (binOp .geq 3 v2_10 v7_15) w14 K) w13 fun v8_16 w15 =>
  X Try.prog (pickS v1_8 (.bool true) v8_16) w15 fun v9_17 w16 =>
  gstep v9_17 false (fun w17 K => K x2 w17) w16 fun v10_19 w18 =>
  gstep v9_17 false (fun w19 K => X Try.prog (Builtin.len_ #[9] 3 #[v10_19]) w19 K) w18 fun v11_20 w20 =>
  gstep v9_17 false (fun w21 K => X Try.prog (binOp .gtr 3 v11_20 (.int .i64 128)) w21 K) w20 fun v12_21 w22 =>
  X Try.prog (pickS v9_17 (.bool true) v12_21) w22 fun v13_22 w23 =>
  condS v13_22 (
  K (.int .i64 1) w23) (
  CALL Try.prog 142 #[x0] w23 fun v14_24 w24 =>
  condS v14_24 (
  K (.int .i64 6) w24) (
  ∃ R, Frame? R ∧
  XP Try.prog (nilS x0) (drewW w24) fun v15_27 w25 =>
  XP Try.prog (Instr.fieldAt 148 v15_27 1) w25 fun v16_28 w26 =>
  XR Try.prog R (Instr.loadAt 146 v16_28) w26 fun v17_29 w27 =>
  CALL Try.prog 133 #[x2] w27 fun v18_32 w28 =>
  R w27 w28 ∧
  XP Try.prog (Instr.build 200 #[(0, x1), (1, v18_32)]) w28 fun v19_33 w29 =>
  X Try.prog (Instr.buildSlice 146 1 #[(0, v19_33)]) w29 fun v20_34 w30 =>
  R w29 w30 ∧
  X Try.prog (Builtin.append_ #[146, 146] 146 #[v17_29, v20_34]) w30 fun v21_35 w31 =>
  XP Try.prog (nilS x0) w31 fun v22_36 w32 =>
  XP Try.prog (Instr.fieldAt 148 v22_36 1) w32 fun v23_37 w33 =>
  XU Try.prog (Instr.storeAt 146 v23_37 v21_35) w33 fun w34 =>
  CALL Try.prog 143 #[x0] w34 fun v24_39 w35 =>
  K v24_39 w35))

theorem eq_ref08_Disk_Write (x0 x1 x2 : Value) (w : World) (K : Value → World → Prop) :
    sh Try.prog (Try.f109.body.getD .skip) (retS Try.prog Try.f109.results K) (env0 #[x0, x1, x2]) w = B_ref08_Disk_Write x0 x1 x2 w K := by kernel_rfl

theorem call_ref08_Disk_Write (x0 x1 x2 : Value) (w : World) (K : Value → World → Prop) (h : B_ref08_Disk_Write x0 x1 x2 w K) : CALL Try.prog 109 #[x0, x1, x2] w K :=
  call_of_eq (c := Try.f109.body.getD .skip) mixed Try.func109 (by kernel_rfl) (by kernel_rfl) (by kernel_rfl) (Nat.le_of_ble_eq_true (by kernel_rfl)) (eq_ref08_Disk_Write x0 x1 x2 w K) h

/-- (*cellarage/cellarageref08.Disk).Flush -/
def B_ref08_Disk_Flush (x0 : Value) (w : World) (K : Value → World → Prop) : Prop :=
  CALL Try.prog 142 #[x0] w fun v1_5 w1 =>
  condS v1_5 (
  K (.int .i64 6) w1) (
  loopS (fun Q1 ρ1 w2 =>
  X Try.prog (nilS (ρ1 0)) w2 fun v2_8 w3 =>
  X Try.prog (Instr.fieldAt 148 v2_8 1) w3 fun v3_9 w4 =>
  X Try.prog (Instr.loadAt 146 v3_9) w4 fun v4_10 w5 =>
  X Try.prog (Builtin.len_ #[146] 3 #[v4_10]) w5 fun v5_11 w6 =>
  X Try.prog (binOp .lss 3 (ρ1 3) v5_11) w6 fun v6_12 w7 =>
  condS v6_12 (
  ∃ R, Frame? R ∧
  XP Try.prog (nilS (ρ1 0)) (drewW w7) fun v7_16 w8 =>
  XP Try.prog (Instr.fieldAt 148 v7_16 0) w8 fun v8_17 w9 =>
  XR Try.prog R (Instr.loadAt 66 v8_17) w9 fun v9_18 w10 =>
  XP Try.prog (nilS (ρ1 0)) w10 fun v10_20 w11 =>
  XP Try.prog (Instr.fieldAt 148 v10_20 1) w11 fun v11_21 w12 =>
  XR Try.prog R (Instr.loadAt 146 v11_21) w12 fun v12_22 w13 =>
  XP Try.prog (Instr.indexAt 146 v12_22 (ρ1 3)) w13 fun v13_24 w14 =>
  XP Try.prog (Instr.fieldAt 200 v13_24 0) w14 fun v14_25 w15 =>
  XR Try.prog R (Instr.loadAt 3 v14_25) w15 fun v15_26 w16 =>
  XP Try.prog (nilS (ρ1 0)) w16 fun v16_28 w17 =>
  XP Try.prog (Instr.fieldAt 148 v16_28 1) w17 fun v17_29 w18 =>
  XR Try.prog R (Instr.loadAt 146 v17_29) w18 fun v18_30 w19 =>
  XP Try.prog (Instr.indexAt 146 v18_30 (ρ1 3)) w19 fun v19_32 w20 =>
  XP Try.prog (Instr.fieldAt 200 v19_32 1) w20 fun v20_33 w21 =>
  XR Try.prog R (Instr.loadAt 9 v20_33) w21 fun v21_34 w22 =>
  XP Try.prog (Instr.indexAt 66 v9_18 v15_26) w22 fun v22_35 w23 =>
  XU Try.prog (Instr.storeAt 9 v22_35 v21_34) w23 fun w24 =>
  X Try.prog (binOp .add 3 (ρ1 3) (.int .i64 1)) w24 fun v23_14 w25 =>
  Q1 .normal (upds ρ1 [(3, v23_14), (14, v23_14), (13, (ρ1 3)), (35, v22_35), (34, v21_34), (33, v20_33), (32, v19_32), (31, (ρ1 3)), (30, v18_30), (29, v17_29), (28, v16_28), (27, (ρ1 0)), (26, v15_26), (25, v14_25), (24, v13_24), (23, (ρ1 3)), (22, v12_22), (21, v11_21), (20, v10_20), (19, (ρ1 0)), (18, v9_18), (17, v8_17), (16, v7_16), (15, (ρ1 0)), (12, v6_12), (11, v5_11), (10, v4_10), (9, v3_9), (8, v2_8), (7, (ρ1 0)), (6, (ρ1 3))]) w25) (
  Q1 (.exit 0) (upds ρ1 [(12, v6_12), (11, v5_11), (10, v4_10), (9, v3_9), (8, v2_8), (7, (ρ1 0)), (6, (ρ1 3))]) w7)) (inBlockS 0 (thenS (fun ρ2 w26 =>
  X Try.prog (nilS (ρ2 0)) w26 fun v24_37 w27 =>
  X Try.prog (Instr.fieldAt 148 v24_37 1) w27 fun v25_38 w28 =>
  XU Try.prog (Instr.storeAt 146 v25_38 (.slice none 0 0)) w28 fun w29 =>
  CALL Try.prog 143 #[(ρ2 0)] w29 fun v26_40 w30 =>
  K v26_40 w30) (retS Try.prog (Try.f110).results K))) (upds (env0 #[x0]) [(3, (.int .i64 0)), (5, v1_5), (4, x0), (2, (.int .i64 0))]) w1)

theorem eq_ref08_Disk_Flush (x0 : Value) (w : World) (K : Value → World → Prop) :
    sh Try.prog (Try.f110.body.getD .skip) (retS Try.prog Try.f110.results K) (env0 #[x0]) w = B_ref08_Disk_Flush x0 w K := by kernel_rfl

theorem call_ref08_Disk_Flush (x0 : Value) (w : World) (K : Value → World → Prop) (h : B_ref08_Disk_Flush x0 w K) : CALL Try.prog 110 #[x0] w K :=
  call_of_eq (c := Try.f110.body.getD .skip) mixed Try.func110 (by kernel_rfl) (by kernel_rfl) (by kernel_rfl) (Nat.le_of_ble_eq_true (by kernel_rfl)) (eq_ref08_Disk_Flush x0 w K) h

/-- (*cellarage/cellarageref08.Disk).Cut -/
def B_ref08_Disk_Cut (x0 x1 : Value) (w : World) (K : Value → World → Prop) : Prop :=
  X Try.prog (nilS x0) w fun v1_5 w1 =>
  X Try.prog (Instr.fieldAt 148 v1_5 2) w1 fun v2_6 w2 =>
  X Try.prog (Instr.loadAt 4 v2_6) w2 fun v3_7 w3 =>
  X Try.prog (Op.unary .not v3_7) w3 fun v4_8 w4 =>
  condS v4_8 (
  X Try.prog (Builtin.max_ #[3, 3] 3 #[x1, (.int .i64 (-1))]) w4 fun v5_11 w5 =>
  X Try.prog (nilS x0) w5 fun v6_12 w6 =>
  X Try.prog (Instr.fieldAt 148 v6_12 3) w6 fun v7_13 w7 =>
  XU Try.prog (Instr.storeAt 3 v7_13 v5_11) w7 fun w8 =>
  K (.tuple #[]) w8) (
  K (.tuple #[]) w4)

theorem eq_ref08_Disk_Cut (x0 x1 : Value) (w : World) (K : Value → World → Prop) :
    sh Try.prog (Try.f111.body.getD .skip) (retS Try.prog Try.f111.results K) (env0 #[x0, x1]) w = B_ref08_Disk_Cut x0 x1 w K := by kernel_rfl

theorem call_ref08_Disk_Cut (x0 x1 : Value) (w : World) (K : Value → World → Prop) (h : B_ref08_Disk_Cut x0 x1 w K) : CALL Try.prog 111 #[x0, x1] w K :=
  call_of_eq (c := Try.f111.body.getD .skip) mixed Try.func111 (by kernel_rfl) (by kernel_rfl) (by kernel_rfl) (Nat.le_of_ble_eq_true (by kernel_rfl)) (eq_ref08_Disk_Cut x0 x1 w K) h

/-- (*cellarage/cellarageref08.Disk).Crash -/
def B_ref08_Disk_Crash (x0 x1 : Value) (w : World) (K : Value → World → Prop) : Prop :=
  loopS (fun Q1 ρ1 w1 =>
  X Try.prog (nilS (ρ1 0)) w1 fun v1_9 w2 =>
  X Try.prog (Instr.fieldAt 148 v1_9 1) w2 fun v2_10 w3 =>
  X Try.prog (Instr.loadAt 146 v2_10) w3 fun v3_11 w4 =>
  X Try.prog (Builtin.len_ #[146] 3 #[v3_11]) w4 fun v4_12 w5 =>
  X Try.prog (binOp .lss 3 (ρ1 4) v4_12) w5 fun v5_13 w6 =>
  condS v5_13 (
  joinS (fun ρ2 w7 =>
  X Try.prog (nilS (ρ2 0)) w7 fun v6_27 w8 =>
  X Try.prog (Instr.fieldAt 148 v6_27 1) w8 fun v7_28 w9 =>
  X Try.prog (Instr.loadAt 146 v7_28) w9 fun v8_29 w10 =>
  X Try.prog (Instr.indexAt 146 v8_29 (ρ2 4)) w10 fun v9_31 w11 =>
  X Try.prog (Instr.loadAt 200 v9_31) w11 fun v10_32 w12 =>
  X Try.prog (Instr.alloc 200 true (.tuple #[])) w12 fun v11_6 w13 =>
  XU Try.prog (Instr.storeAt 200 v11_6 v10_32) w13 fun w14 =>
  ∃ R, Frame? R ∧
  XP Try.prog (nilS (ρ2 0)) (drewW w14) fun v12_34 w15 =>
  XP Try.prog (Instr.fieldAt 148 v12_34 0) w15 fun v13_35 w16 =>
  XR Try.prog R (Instr.loadAt 66 v13_35) w16 fun v14_36 w17 =>
  XP Try.prog (Instr.fieldAt 200 v11_6 0) w17 fun v15_37 w18 =>
  XR Try.prog R (Instr.loadAt 3 v15_37) w18 fun v16_38 w19 =>
  XP Try.prog (Instr.fieldAt 200 v11_6 1) w19 fun v17_39 w20 =>
  XR Try.prog R (Instr.loadAt 9 v17_39) w20 fun v18_40 w21 =>
  XP Try.prog (Instr.sliceAt 9 v18_40 none (some (ρ2 5)) none) w21 fun v19_42 w22 =>
  XP Try.prog (nilS (ρ2 0)) w22 fun v20_44 w23 =>
  XP Try.prog (Instr.fieldAt 148 v20_44 0) w23 fun v21_45 w24 =>
  XR Try.prog R (Instr.loadAt 66 v21_45) w24 fun v22_46 w25 =>
  XP Try.prog (Instr.fieldAt 200 v11_6 0) w25 fun v23_47 w26 =>
  XR Try.prog R (Instr.loadAt 3 v23_47) w26 fun v24_48 w27 =>
  XP Try.prog (Instr.indexAt 66 v22_46 v24_48) w27 fun v25_49 w28 =>
  XR Try.prog R (Instr.loadAt 9 v25_49) w28 fun v26_50 w29 =>
  XP Try.prog (Instr.sliceAt 9 v26_50 (some (ρ2 5)) none none) w29 fun v27_52 w30 =>
  XP Try.prog (binOp .add 9 v19_42 v27_52) w30 fun v28_53 w31 =>
  XP Try.prog (Instr.indexAt 66 v14_36 v16_38) w31 fun v29_54 w32 =>
  XU Try.prog (Instr.storeAt 9 v29_54 v28_53) w32 fun w33 =>
  X Try.prog (binOp .add 3 (ρ2 4) (.int .i64 1)) w33 fun v30_15 w34 =>
  Q1 .normal (upds ρ2 [(4, v30_15), (15, v30_15), (14, (ρ2 4)), (54, v29_54), (53, v28_53), (52, v27_52), (51, (ρ2 5)), (50, v26_50), (49, v25_49), (48, v24_48), (47, v23_47), (46, v22_46), (45, v21_45), (44, v20_44), (43, (ρ2 0)), (42, v19_42), (41, (ρ2 5)), (40, v18_40), (39, v17_39), (38, v16_38), (37, v15_37), (36, v14_36), (35, v13_35), (34, v12_34), (33, (ρ2 0)), (6, v11_6), (32, v10_32), (31, v9_31), (30, (ρ2 4)), (29, v8_29), (28, v7_28), (27, v6_27), (26, (ρ2 0))]) w34) fun J2 =>
  X Try.prog (Builtin.len_ #[79] 3 #[(ρ1 1)]) w6 fun v31_18 w35 =>
  X Try.prog (binOp .lss 3 (ρ1 4) v31_18) w35 fun v32_19 w36 =>
  condS v32_19 (
  X Try.prog (Instr.indexAt 79 (ρ1 1) (ρ1 4)) w36 fun v33_22 w37 =>
  X Try.prog (Instr.loadAt 3 v33_22) w37 fun v34_23 w38 =>
  X Try.prog (Builtin.min_ #[3, 3] 3 #[v34_23, (.int .i64 128)]) w38 fun v35_24 w39 =>
  X Try.prog (Builtin.max_ #[3, 3] 3 #[(.int .i64 0), v35_24]) w39 fun v36_25 w40 =>
  J2 (upds ρ1 [(5, v36_25), (25, v36_25), (24, v35_24), (23, v34_23), (22, v33_22), (21, (ρ1 4)), (20, (ρ1 1)), (19, v32_19), (18, v31_18), (17, (ρ1 1)), (16, (ρ1 4)), (5, (.int .i64 0)), (13, v5_13), (12, v4_12), (11, v3_11), (10, v2_10), (9, v1_9), (8, (ρ1 0)), (7, (ρ1 4))]) w40) (
  J2 (upds ρ1 [(19, v32_19), (18, v31_18), (17, (ρ1 1)), (16, (ρ1 4)), (5, (.int .i64 0)), (13, v5_13), (12, v4_12), (11, v3_11), (10, v2_10), (9, v1_9), (8, (ρ1 0)), (7, (ρ1 4))]) w36)) (
  Q1 (.exit 0) (upds ρ1 [(13, v5_13), (12, v4_12), (11, v3_11), (10, v2_10), (9, v1_9), (8, (ρ1 0)), (7, (ρ1 4))]) w6)) (inBlockS 0 (thenS (fun ρ3 w41 =>
  X Try.prog (nilS (ρ3 0)) w41 fun v37_56 w42 =>
  X Try.prog (Instr.fieldAt 148 v37_56 1) w42 fun v38_57 w43 =>
  XU Try.prog (Instr.storeAt 146 v38_57 (.slice none 0 0)) w43 fun w44 =>
  X Try.prog (nilS (ρ3 0)) w44 fun v39_59 w45 =>
  X Try.prog (Instr.fieldAt 148 v39_59 2) w45 fun v40_60 w46 =>
  XU Try.prog (Instr.storeAt 4 v40_60 (.bool false)) w46 fun w47 =>
  X Try.prog (nilS (ρ3 0)) w47 fun v41_62 w48 =>
  X Try.prog (Instr.fieldAt 148 v41_62 3) w48 fun v42_63 w49 =>
  XU Try.prog (Instr.storeAt 3 v42_63 (.int .i64 (-1))) w49 fun w50 =>
  K (.tuple #[]) w50) (retS Try.prog (Try.f112).results K))) (upds (env0 #[x0, x1]) [(4, (.int .i64 0))]) w

theorem eq_ref08_Disk_Crash (x0 x1 : Value) (w : World) (K : Value → World → Prop) :
    sh Try.prog (Try.f112.body.getD .skip) (retS Try.prog Try.f112.results K) (env0 #[x0, x1]) w = B_ref08_Disk_Crash x0 x1 w K := by kernel_rfl

theorem call_ref08_Disk_Crash (x0 x1 : Value) (w : World) (K : Value → World → Prop) (h : B_ref08_Disk_Crash x0 x1 w K) : CALL Try.prog 112 #[x0, x1] w K :=
  call_of_eq (c := Try.f112.body.getD .skip) mixed Try.func112 (by kernel_rfl) (by kernel_rfl) (by kernel_rfl) (Nat.le_of_ble_eq_true (by kernel_rfl)) (eq_ref08_Disk_Crash x0 x1 w K) h

/-- (*cellarage/cellarageref08.Disk).Read -/
def B_ref08_Disk_Read (x0 x1 : Value) (w : World) (K : Value → World → Prop) : Prop :=
  X Try.prog (binOp .lss 3 x1 (.int .i64 0)) w fun v1_7 w1 =>
  gstep v1_7 false (fun w2 K => K x1 w2) w1 fun v2_9 w3 =>
  gstep v1_7 false (fun w4 K => K x0 w4) w3 fun v3_10 w5 =>
  gstep v1_7 false (fun w6 K => X Try.prog (nilS v3_10) w6 K) w5 fun v4_11 w7 =>
  gstep v1_7 false (fun w8 K => X Try.prog (Instr.fieldAt 148 v4_11 0) w8 K) w7 fun v5_12 w9 =>
  gstep v1_7 false (fun w10 K => X Try.prog (Instr.loadAt 66 v5_12) w10 K) w9 fun v6_13 w11 =>
  gstep v1_7 false (fun w12 K => X Try.prog (Builtin.len_ #[66] 3 #[v6_13]) w12 K) w11 fun v7_14 w13 =>
  gstep v1_7 false (fun w14 K => X Try.prog (binOp .geq 3 v2_9 v7_14) w14 K) w13 fun v8_15 w15 =>
  X Try.prog (pickS v1_7 (.bool true) v8_15) w15 fun v9_16 w16 =>
  condS v9_16 (
  K (.tuple #[(.string { data := #[] }), (.int .i64 1)]) w16) (
  X Try.prog (nilS x0) w16 fun v10_18 w17 =>
  X Try.prog (Instr.fieldAt 148 v10_18 2) w17 fun v11_19 w18 =>
  X Try.prog (Instr.loadAt 4 v11_19) w18 fun v12_20 w19 =>
  condS v12_20 (
  K (.tuple #[(.string { data := #[] }), (.int .i64 6)]) w19) (
  CALL Try.prog 144 #[x0, x1] w19 fun v13_23 w20 =>
  K (.tuple #[v13_23, (.int .i64 0)]) w20))

theorem eq_ref08_Disk_Read (x0 x1 : Value) (w : World) (K : Value → World → Prop) :
    sh Try.prog (Try.f113.body.getD .skip) (retS Try.prog Try.f113.results K) (env0 #[x0, x1]) w = B_ref08_Disk_Read x0 x1 w K := by kernel_rfl

theorem call_ref08_Disk_Read (x0 x1 : Value) (w : World) (K : Value → World → Prop) (h : B_ref08_Disk_Read x0 x1 w K) : CALL Try.prog 113 #[x0, x1] w K :=
  call_of_eq (c := Try.f113.body.getD .skip) mixed Try.func113 (by kernel_rfl) (by kernel_rfl) (by kernel_rfl) (Nat.le_of_ble_eq_true (by kernel_rfl)) (eq_ref08_Disk_Read x0 x1 w K) h

/-- cellarage/cellarageref08.pad -/
def B_ref08_pad (x0 : Value) (w : World) (K : Value → World → Prop) : Prop :=
  X Try.prog (Instr.makeSlice 27 (.int .i64 128) (.int .i64 128)) w fun v1_5 w1 =>
  loopS (fun Q1 ρ1 w2 =>
  X Try.prog (Builtin.len_ #[9] 3 #[(ρ1 0)]) w2 fun v2_8 w3 =>
  X Try.prog (binOp .lss 3 (ρ1 4) v2_8) w3 fun v3_9 w4 =>
  condS v3_9 (
  X Try.prog (Instr.index 9 (ρ1 0) (ρ1 4)) w4 fun v4_16 w5 =>
  X Try.prog (Instr.indexAt 27 (ρ1 3) (ρ1 4)) w5 fun v5_17 w6 =>
  XU Try.prog (Instr.storeAt 5 v5_17 v4_16) w6 fun w7 =>
  X Try.prog (binOp .add 3 (ρ1 4) (.int .i64 1)) w7 fun v6_11 w8 =>
  Q1 .normal (upds ρ1 [(4, v6_11), (11, v6_11), (10, (ρ1 4)), (17, v5_17), (16, v4_16), (15, (ρ1 4)), (14, (ρ1 0)), (13, (ρ1 4)), (12, (ρ1 3)), (9, v3_9), (8, v2_8), (7, (ρ1 0)), (6, (ρ1 4))]) w8) (
  Q1 (.exit 0) (upds ρ1 [(9, v3_9), (8, v2_8), (7, (ρ1 0)), (6, (ρ1 4))]) w4)) (inBlockS 0 (thenS (fun ρ2 w9 =>
  X Try.prog (convert 27 9 (ρ2 3)) w9 fun v7_19 w10 =>
  K v7_19 w10) (retS Try.prog (Try.f133).results K))) (upds (env0 #[x0]) [(4, (.int .i64 0)), (3, v1_5), (5, v1_5), (2, (.string { data := #[] }))]) w1

theorem eq_ref08_pad (x0 : Value) (w : World) (K : Value → World → Prop) :
    sh Try.prog (Try.f133.body.getD .skip) (retS Try.prog Try.f133.results K) (env0 #[x0]) w = B_ref08_pad x0 w K := by kernel_rfl

theorem call_ref08_pad (x0 : Value) (w : World) (K : Value → World → Prop) (h : B_ref08_pad x0 w K) : CALL Try.prog 133 #[x0] w K :=
  call_of_eq (c := Try.f133.body.getD .skip) mixed Try.func133 (by kernel_rfl) (by kernel_rfl) (by kernel_rfl) (Nat.le_of_ble_eq_true (by kernel_rfl)) (eq_ref08_pad x0 w K) h

/-- (*cellarage/cellarageref08.Disk).off -/
def B_ref08_Disk_off (x0 : Value) (w : World) (K : Value → World → Prop) : Prop :=
  joinS (fun ρ1 w1 =>
  X Try.prog (nilS (ρ1 0)) w1 fun v1_15 w2 =>
  X Try.prog (Instr.fieldAt 148 v1_15 2) w2 fun v2_16 w3 =>
  X Try.prog (Instr.loadAt 4 v2_16) w3 fun v3_17 w4 =>
  K v3_17 w4) fun J1 =>
  X Try.prog (nilS x0) w fun v4_4 w5 =>
  X Try.prog (Instr.fieldAt 148 v4_4 3) w5 fun v5_5 w6 =>
  X Try.prog (Instr.loadAt 3 v5_5) w6 fun v6_6 w7 =>
  X Try.prog (binOpG .eql 3 (.tmp 6) (.const (.int .i64 0)) v6_6 (.int .i64 0)) w7 fun v7_7 w8 =>
  condS v7_7 (
  X Try.prog (nilS x0) w8 fun v8_9 w9 =>
  X Try.prog (Instr.fieldAt 148 v8_9 2) w9 fun v9_10 w10 =>
  XU Try.prog (Instr.storeAt 4 v9_10 (.bool true)) w10 fun w11 =>
  X Try.prog (nilS x0) w11 fun v10_12 w12 =>
  X Try.prog (Instr.fieldAt 148 v10_12 3) w12 fun v11_13 w13 =>
  XU Try.prog (Instr.storeAt 3 v11_13 (.int .i64 (-1))) w13 fun w14 =>
  J1 (upds (env0 #[x0]) [(13, v11_13), (12, v10_12), (11, x0), (10, v9_10), (9, v8_9), (8, x0), (7, v7_7), (6, v6_6), (5, v5_5), (4, v4_4), (3, x0), (2, (.bool false))]) w14) (
  J1 (upds (env0 #[x0]) [(7, v7_7), (6, v6_6), (5, v5_5), (4, v4_4), (3, x0), (2, (.bool false))]) w8)

theorem eq_ref08_Disk_off (x0 : Value) (w : World) (K : Value → World → Prop) :
    sh Try.prog (Try.f142.body.getD .skip) (retS Try.prog Try.f142.results K) (env0 #[x0]) w = B_ref08_Disk_off x0 w K := by kernel_rfl

theorem call_ref08_Disk_off (x0 : Value) (w : World) (K : Value → World → Prop) (h : B_ref08_Disk_off x0 w K) : CALL Try.prog 142 #[x0] w K :=
  call_of_eq (c := Try.f142.body.getD .skip) mixed Try.func142 (by kernel_rfl) (by kernel_rfl) (by kernel_rfl) (Nat.le_of_ble_eq_true (by kernel_rfl)) (eq_ref08_Disk_off x0 w K) h

/-- (*cellarage/cellarageref08.Disk).done -/
def B_ref08_Disk_done (x0 : Value) (w : World) (K : Value → World → Prop) : Prop :=
  X Try.prog (nilS x0) w fun v1_4 w1 =>
  X Try.prog (Instr.fieldAt 148 v1_4 4) w1 fun v2_5 w2 =>
  X Try.prog (Instr.loadAt 3 v2_5) w2 fun v3_6 w3 =>
  X Try.prog (binOp .add 3 v3_6 (.int .i64 1)) w3 fun v4_7 w4 =>
  X Try.prog (nilS x0) w4 fun v5_8 w5 =>
  X Try.prog (Instr.fieldAt 148 v5_8 4) w5 fun v6_9 w6 =>
  XU Try.prog (Instr.storeAt 3 v6_9 v4_7) w6 fun w7 =>
  joinS (fun ρ1 w8 =>
  K (.int .i64 0) w8) fun J1 =>
  X Try.prog (nilS x0) w7 fun v7_11 w9 =>
  X Try.prog (Instr.fieldAt 148 v7_11 3) w9 fun v8_12 w10 =>
  X Try.prog (Instr.loadAt 3 v8_12) w10 fun v9_13 w11 =>
  X Try.prog (binOp .gtr 3 v9_13 (.int .i64 0)) w11 fun v10_14 w12 =>
  condS v10_14 (
  X Try.prog (nilS x0) w12 fun v11_16 w13 =>
  X Try.prog (Instr.fieldAt 148 v11_16 3) w13 fun v12_17 w14 =>
  X Try.prog (Instr.loadAt 3 v12_17) w14 fun v13_18 w15 =>
  X Try.prog (binOp .sub 3 v13_18 (.int .i64 1)) w15 fun v14_19 w16 =>
  X Try.prog (nilS x0) w16 fun v15_20 w17 =>
  X Try.prog (Instr.fieldAt 148 v15_20 3) w17 fun v16_21 w18 =>
  XU Try.prog (Instr.storeAt 3 v16_21 v14_19) w18 fun w19 =>
  J1 (upds (env0 #[x0]) [(21, v16_21), (20, v15_20), (19, v14_19), (18, v13_18), (17, v12_17), (16, v11_16), (15, x0), (14, v10_14), (13, v9_13), (12, v8_12), (11, v7_11), (10, x0), (9, v6_9), (8, v5_8), (7, v4_7), (6, v3_6), (5, v2_5), (4, v1_4), (3, x0), (2, (.int .i64 0))]) w19) (
  J1 (upds (env0 #[x0]) [(14, v10_14), (13, v9_13), (12, v8_12), (11, v7_11), (10, x0), (9, v6_9), (8, v5_8), (7, v4_7), (6, v3_6), (5, v2_5), (4, v1_4), (3, x0), (2, (.int .i64 0))]) w12)

theorem eq_ref08_Disk_done (x0 : Value) (w : World) (K : Value → World → Prop) :
    sh Try.prog (Try.f143.body.getD .skip) (retS Try.prog Try.f143.results K) (env0 #[x0]) w = B_ref08_Disk_done x0 w K := by kernel_rfl

theorem call_ref08_Disk_done (x0 : Value) (w : World) (K : Value → World → Prop) (h : B_ref08_Disk_done x0 w K) : CALL Try.prog 143 #[x0] w K :=
  call_of_eq (c := Try.f143.body.getD .skip) mixed Try.func143 (by kernel_rfl) (by kernel_rfl) (by kernel_rfl) (Nat.le_of_ble_eq_true (by kernel_rfl)) (eq_ref08_Disk_done x0 w K) h

/-- (*cellarage/cellarageref08.Disk).now -/
def B_ref08_Disk_now (x0 x1 : Value) (w : World) (K : Value → World → Prop) : Prop :=
  X Try.prog (nilS x0) w fun v1_7 w1 =>
  X Try.prog (Instr.fieldAt 148 v1_7 1) w1 fun v2_8 w2 =>
  X Try.prog (Instr.loadAt 146 v2_8) w2 fun v3_9 w3 =>
  X Try.prog (Builtin.len_ #[146] 3 #[v3_9]) w3 fun v4_10 w4 =>
  X Try.prog (binOp .sub 3 v4_10 (.int .i64 1)) w4 fun v5_11 w5 =>
  loopS (fun Q1 ρ1 w6 =>
  X Try.prog (binOp .geq 3 (ρ1 5) (.int .i64 0)) w6 fun v6_13 w7 =>
  condS v6_13 (
  X Try.prog (nilS (ρ1 0)) w7 fun v7_17 w8 =>
  X Try.prog (Instr.fieldAt 148 v7_17 1) w8 fun v8_18 w9 =>
  X Try.prog (Instr.loadAt 146 v8_18) w9 fun v9_19 w10 =>
  X Try.prog (Instr.indexAt 146 v9_19 (ρ1 5)) w10 fun v10_21 w11 =>
  X Try.prog (Instr.fieldAt 200 v10_21 0) w11 fun v11_22 w12 =>
  X Try.prog (Instr.loadAt 3 v11_22) w12 fun v12_23 w13 =>
  X Try.prog (binOpG .eql 3 (.tmp 23) (.tmp 24) v12_23 (ρ1 1)) w13 fun v13_25 w14 =>
  condS v13_25 (
  X Try.prog (nilS (ρ1 0)) w14 fun v14_27 w15 =>
  X Try.prog (Instr.fieldAt 148 v14_27 1) w15 fun v15_28 w16 =>
  X Try.prog (Instr.loadAt 146 v15_28) w16 fun v16_29 w17 =>
  X Try.prog (Instr.indexAt 146 v16_29 (ρ1 5)) w17 fun v17_31 w18 =>
  X Try.prog (Instr.fieldAt 200 v17_31 1) w18 fun v18_32 w19 =>
  X Try.prog (Instr.loadAt 9 v18_32) w19 fun v19_33 w20 =>
  Q1 .ret (upds ρ1 [(4, v19_33), (33, v19_33), (32, v18_32), (31, v17_31), (30, (ρ1 5)), (29, v16_29), (28, v15_28), (27, v14_27), (26, (ρ1 0)), (25, v13_25), (24, (ρ1 1)), (23, v12_23), (22, v11_22), (21, v10_21), (20, (ρ1 5)), (19, v9_19), (18, v8_18), (17, v7_17), (16, (ρ1 0)), (13, v6_13), (12, (ρ1 5))]) w20) (
  X Try.prog (binOp .sub 3 (ρ1 5) (.int .i64 1)) w14 fun v20_15 w21 =>
  Q1 .normal (upds ρ1 [(5, v20_15), (15, v20_15), (14, (ρ1 5)), (25, v13_25), (24, (ρ1 1)), (23, v12_23), (22, v11_22), (21, v10_21), (20, (ρ1 5)), (19, v9_19), (18, v8_18), (17, v7_17), (16, (ρ1 0)), (13, v6_13), (12, (ρ1 5))]) w21)) (
  Q1 (.exit 0) (upds ρ1 [(13, v6_13), (12, (ρ1 5))]) w7)) (inBlockS 0 (thenS (fun ρ2 w22 =>
  X Try.prog (nilS (ρ2 0)) w22 fun v21_35 w23 =>
  X Try.prog (Instr.fieldAt 148 v21_35 0) w23 fun v22_36 w24 =>
  X Try.prog (Instr.loadAt 66 v22_36) w24 fun v23_37 w25 =>
  X Try.prog (Instr.indexAt 66 v23_37 (ρ2 1)) w25 fun v24_39 w26 =>
  X Try.prog (Instr.loadAt 9 v24_39) w26 fun v25_40 w27 =>
  K v25_40 w27) (retS Try.prog (Try.f144).results K))) (upds (env0 #[x0, x1]) [(5, v5_11), (11, v5_11), (10, v4_10), (9, v3_9), (8, v2_8), (7, v1_7), (6, x0), (4, (.string { data := #[] }))]) w5

theorem eq_ref08_Disk_now (x0 x1 : Value) (w : World) (K : Value → World → Prop) :
    sh Try.prog (Try.f144.body.getD .skip) (retS Try.prog Try.f144.results K) (env0 #[x0, x1]) w = B_ref08_Disk_now x0 x1 w K := by kernel_rfl

theorem call_ref08_Disk_now (x0 x1 : Value) (w : World) (K : Value → World → Prop) (h : B_ref08_Disk_now x0 x1 w K) : CALL Try.prog 144 #[x0, x1] w K :=
  call_of_eq (c := Try.f144.body.getD .skip) mixed Try.func144 (by kernel_rfl) (by kernel_rfl) (by kernel_rfl) (Nat.le_of_ble_eq_true (by kernel_rfl)) (eq_ref08_Disk_now x0 x1 w K) h

/-- cellarage/cellaragelaw08.shown -/
def B_law08_shown (w : World) (K : Value → World → Prop) : Prop :=
  CALL Try.prog 69 #[(.int .i64 2)] w fun v1_9 w1 =>
  X Try.prog (Instr.extract v1_9 0) w1 fun v2_10 w2 =>
  X Try.prog (Instr.extract v1_9 1) w2 fun v3_11 w3 =>
  X Try.prog (binOpG .eql 74 (.tmp 12) (.const (.pointer none)) v2_10 (.pointer none)) w3 fun v4_13 w4 =>
  gstep v4_13 false (fun w5 K => K v3_11 w5) w4 fun v5_15 w6 =>
  gstep v4_13 false (fun w7 K => X Try.prog (binOpG .neq 30 (.tmp 15) (.const (.int .i64 0)) v5_15 (.int .i64 0)) w7 K) w6 fun v6_16 w8 =>
  X Try.prog (pickS v4_13 (.bool true) v6_16) w8 fun v7_17 w9 =>
  gstep v7_17 false (fun w10 K => K v2_10 w10) w9 fun v8_19 w11 =>
  gstep v7_17 false (fun w12 K => X Try.prog (Instr.buildSlice 27 3 #[(0, (.int .u8 120)), (1, (.int .u8 121)), (2, (.int .u8 122))]) w12 K) w11 fun v9_20 w13 =>
  gstep v7_17 false (fun w14 K => X Try.prog (convert 27 27 v9_20) w14 K) w13 fun v10_21 w15 =>
  gstep v7_17 false (fun w16 K => CALL Try.prog 70 #[v8_19, (.int .i64 1), v10_21] w16 K) w15 fun v11_22 w17 =>
  gstep v7_17 false (fun w18 K => X Try.prog (binOpG .neq 30 (.tmp 22) (.const (.int .i64 0)) v11_22 (.int .i64 0)) w18 K) w17 fun v12_23 w19 =>
  X Try.prog (pickS v7_17 (.bool true) v12_23) w19 fun v13_24 w20 =>
  condS v13_24 (
  K (.bool false) w20) (
  CALL Try.prog 72 #[v2_10, (.slice none 0 0)] w20 fun v14_26 w21 =>
  CALL Try.prog 73 #[v2_10, (.int .i64 1)] w21 fun v15_29 w22 =>
  X Try.prog (Instr.extract v15_29 0) w22 fun v16_30 w23 =>
  X Try.prog (Instr.extract v15_29 1) w23 fun v17_31 w24 =>
  X Try.prog (Instr.buildSlice 27 3 #[(0, (.int .u8 120)), (1, (.int .u8 121)), (2, (.int .u8 122))]) w24 fun v18_33 w25 =>
  X Try.prog (convert 27 27 v18_33) w25 fun v19_34 w26 =>
  CALL Try.prog 70 #[v2_10, (.int .i64 1), v19_34] w26 fun v20_35 w27 =>
  X Try.prog (Instr.buildSlice 79 1 #[(0, (.int .i64 2))]) w27 fun v21_37 w28 =>
  CALL Try.prog 72 #[v2_10, v21_37] w28 fun v22_38 w29 =>
  CALL Try.prog 73 #[v2_10, (.int .i64 1)] w29 fun v23_41 w30 =>
  X Try.prog (Instr.extract v23_41 0) w30 fun v24_42 w31 =>
  X Try.prog (Instr.extract v23_41 1) w31 fun v25_43 w32 =>
  ∃ R, Frame? R ∧
  XP Try.prog (Builtin.len_ #[27] 3 #[v16_30]) (drewW w32) fun v26_45 w33 =>
  XP Try.prog (binOpG .eql 3 (.tmp 45) (.const (.int .i64 128)) v26_45 (.int .i64 128)) w33 fun v27_46 w34 =>
  gstep v27_46 true (fun w35 K => K v16_30 w35) w34 fun v28_48 w36 =>
  gstep v27_46 true (fun w37 K => XR Try.prog R (convert 27 9 v28_48) w37 K) w36 fun v29_49 w38 =>
  gstep v27_46 true (fun w39 K => X Try.prog (Instr.makeSlice 27 (.int .i64 128) (.int .i64 128)) w39 K) w38 fun v30_50 w40 =>
  R w38 w40 ∧
  gstep v27_46 true (fun w41 K => XR Try.prog R (convert 27 9 v30_50) w41 K) w40 fun v31_51 w42 =>
  gstep v27_46 true (fun w43 K => XP Try.prog (binOpG .eql 9 (.tmp 49) (.tmp 51) v29_49 v31_51) w43 K) w42 fun v32_52 w44 =>
  XP Try.prog (pickS v27_46 v32_52 (.bool false)) w44 fun v33_53 w45 =>
  gstep v33_53 true (fun w46 K => K v24_42 w46) w45 fun v34_55 w47 =>
  gstep v33_53 true (fun w48 K => XP Try.prog (Builtin.len_ #[27] 3 #[v34_55]) w48 K) w47 fun v35_56 w49 =>
  gstep v33_53 true (fun w50 K => XP Try.prog (binOpG .eql 3 (.tmp 56) (.const (.int .i64 128)) v35_56 (.int .i64 128)) w50 K) w49 fun v36_57 w51 =>
  XP Try.prog (pickS v33_53 v36_57 (.bool false)) w51 fun v37_58 w52 =>
  gstep v37_58 true (fun w53 K => K v24_42 w53) w52 fun v38_60 w54 =>
  gstep v37_58 true (fun w55 K => XP Try.prog (Instr.sliceAt 27 v38_60 none (some (.int .i64 3)) none) w55 K) w54 fun v39_61 w56 =>
  gstep v37_58 true (fun w57 K => XR Try.prog R (convert 27 9 v39_61) w57 K) w56 fun v40_62 w58 =>
  gstep v37_58 true (fun w59 K => XP Try.prog (binOpG .eql 9 (.tmp 62) (.const (.string { data := #[120, 121, 0] })) v40_62 (.string { data := #[120, 121, 0] })) w59 K) w58 fun v41_63 w60 =>
  XP Try.prog (pickS v37_58 v41_63 (.bool false)) w60 fun v42_64 w61 =>
  gstep v42_64 true (fun w62 K => K v17_31 w62) w61 fun v43_66 w63 =>
  gstep v42_64 true (fun w64 K => XP Try.prog (binOpG .eql 30 (.tmp 66) (.const (.int .i64 0)) v43_66 (.int .i64 0)) w64 K) w63 fun v44_67 w65 =>
  XP Try.prog (pickS v42_64 v44_67 (.bool false)) w65 fun v45_68 w66 =>
  gstep v45_68 true (fun w67 K => K v20_35 w67) w66 fun v46_70 w68 =>
  gstep v45_68 true (fun w69 K => XP Try.prog (binOpG .eql 30 (.tmp 70) (.const (.int .i64 0)) v46_70 (.int .i64 0)) w69 K) w68 fun v47_71 w70 =>
  XP Try.prog (pickS v45_68 v47_71 (.bool false)) w70 fun v48_72 w71 =>
  gstep v48_72 true (fun w72 K => K v25_43 w72) w71 fun v49_74 w73 =>
  gstep v48_72 true (fun w74 K => XP Try.prog (binOpG .eql 30 (.tmp 74) (.const (.int .i64 0)) v49_74 (.int .i64 0)) w74 K) w73 fun v50_75 w75 =>
  XP Try.prog (pickS v48_72 v50_75 (.bool false)) w75 fun v51_76 w76 =>
  gstep v51_76 true (fun w77 K => K v2_10 w77) w76 fun v52_78 w78 =>
  gstep v51_76 true (fun w79 K => CALL Try.prog 70 #[v52_78, (.int .i64 2), (.slice none 0 0)] w79 K) w78 fun v53_79 w80 =>
  R w78 w80 ∧
  gstep v51_76 true (fun w81 K => XP Try.prog (binOpG .eql 30 (.tmp 79) (.const (.int .i64 1)) v53_79 (.int .i64 1)) w81 K) w80 fun v54_80 w82 =>
  XP Try.prog (pickS v51_76 v54_80 (.bool false)) w82 fun v55_81 w83 =>
  K v55_81 w83)

theorem eq_law08_shown (w : World) (K : Value → World → Prop) :
    sh Try.prog (Try.f68.body.getD .skip) (retS Try.prog Try.f68.results K) (env0 #[]) w = B_law08_shown  w K := by kernel_rfl

theorem call_law08_shown (w : World) (K : Value → World → Prop) (h : B_law08_shown  w K) : CALL Try.prog 68 #[] w K :=
  call_of_eq (c := Try.f68.body.getD .skip) mixed Try.func68 (by kernel_rfl) (by kernel_rfl) (by kernel_rfl) (Nat.le_of_ble_eq_true (by kernel_rfl)) (eq_law08_shown  w K) h

/-- cellarage/cellaragelaw08.few -/
def B_law08_few (x0 : Value) (w : World) (K : Value → World → Prop) : Prop :=
  X Try.prog (Builtin.len_ #[83] 3 #[x0]) w fun v1_6 w1 =>
  loopS (fun Q1 ρ1 w2 =>
  X Try.prog (binOp .lss 3 (ρ1 7) (ρ1 6)) w2 fun v2_8 w3 =>
  condS v2_8 (
  X Try.prog (binOp .geq 3 (ρ1 7) (.int .i64 100)) w3 fun v3_11 w4 =>
  gstep v3_11 false (fun w5 K => K (ρ1 0) w5) w4 fun v4_13 w6 =>
  gstep v3_11 false (fun w7 K => K (ρ1 7) w7) w6 fun v5_14 w8 =>
  gstep v3_11 false (fun w9 K => X Try.prog (Instr.indexAt 83 v4_13 v5_14) w9 K) w8 fun v6_15 w10 =>
  gstep v3_11 false (fun w11 K => X Try.prog (Instr.fieldAt 86 v6_15 3) w11 K) w10 fun v7_16 w12 =>
  gstep v3_11 false (fun w13 K => X Try.prog (Instr.loadAt 27 v7_16) w13 K) w12 fun v8_17 w14 =>
  gstep v3_11 false (fun w15 K => X Try.prog (Builtin.len_ #[27] 3 #[v8_17]) w15 K) w14 fun v9_18 w16 =>
  gstep v3_11 false (fun w17 K => K (ρ1 3) w17) w16 fun v10_19 w18 =>
  gstep v3_11 false (fun w19 K => X Try.prog (binOp .gtr 3 v9_18 v10_19) w19 K) w18 fun v11_20 w20 =>
  X Try.prog (pickS v3_11 (.bool true) v11_20) w20 fun v12_21 w21 =>
  condS v12_21 (
  X Try.prog (Instr.sliceAt 83 (ρ1 0) none (some (ρ1 7)) none) w21 fun v13_24 w22 =>
  Q1 .ret (upds ρ1 [(2, v13_24), (24, v13_24), (23, (ρ1 7)), (22, (ρ1 0)), (21, v12_21), (20, v11_20), (19, v10_19), (18, v9_18), (17, v8_17), (16, v7_16), (15, v6_15), (14, v5_14), (13, v4_13), (12, v3_11), (11, v3_11), (10, (ρ1 7)), (4, (ρ1 7)), (9, (ρ1 7)), (8, v2_8)]) w22) (
  X Try.prog (Instr.indexAt 83 (ρ1 0) (ρ1 7)) w21 fun v14_28 w23 =>
  X Try.prog (Instr.fieldAt 86 v14_28 3) w23 fun v15_29 w24 =>
  X Try.prog (Instr.loadAt 27 v15_29) w24 fun v16_30 w25 =>
  X Try.prog (Builtin.len_ #[27] 3 #[v16_30]) w25 fun v17_31 w26 =>
  X Try.prog (binOp .sub 3 (ρ1 3) v17_31) w26 fun v18_32 w27 =>
  X Try.prog (binOp .add 3 (ρ1 7) (.int .i64 1)) w27 fun v19_33 w28 =>
  Q1 .normal (upds ρ1 [(7, v19_33), (33, v19_33), (3, v18_32), (32, v18_32), (31, v17_31), (30, v16_30), (29, v15_29), (28, v14_28), (27, (ρ1 7)), (26, (ρ1 0)), (25, (ρ1 3)), (21, v12_21), (20, v11_20), (19, v10_19), (18, v9_18), (17, v8_17), (16, v7_16), (15, v6_15), (14, v5_14), (13, v4_13), (12, v3_11), (11, v3_11), (10, (ρ1 7)), (4, (ρ1 7)), (9, (ρ1 7)), (8, v2_8)]) w28)) (
  Q1 (.exit 0) (upds ρ1 [(8, v2_8)]) w3)) (inBlockS 0 (thenS (fun ρ2 w29 =>
  K (ρ2 0) w29) (retS Try.prog (Try.f74).results K))) (upds (env0 #[x0]) [(7, (.int .i64 0)), (6, v1_6), (5, x0), (3, (.int .i64 20000)), (2, (.slice none 0 0))]) w1

theorem eq_law08_few (x0 : Value) (w : World) (K : Value → World → Prop) :
    sh Try.prog (Try.f74.body.getD .skip) (retS Try.prog Try.f74.results K) (env0 #[x0]) w = B_law08_few x0 w K := by kernel_rfl

theorem call_law08_few (x0 : Value) (w : World) (K : Value → World → Prop) (h : B_law08_few x0 w K) : CALL Try.prog 74 #[x0] w K :=
  call_of_eq (c := Try.f74.body.getD .skip) mixed Try.func74 (by kernel_rfl) (by kernel_rfl) (by kernel_rfl) (Nat.le_of_ble_eq_true (by kernel_rfl)) (eq_law08_few x0 w K) h

/-- cellarage/cellaragelaw08.does -/
def B_law08_does (x0 x1 : Value) (w : World) (K : Value → World → Prop) : Prop :=
  X Try.prog (Instr.box 86 x1) w fun v1_3 w1 =>
  joinS (fun ρ1 w2 =>
  K (.int .i64 0) w2) fun J1 =>
  X Try.prog (Instr.fieldAt 86 v1_3 0) w1 fun v2_5 w3 =>
  X Try.prog (Instr.loadAt 5 v2_5) w3 fun v3_6 w4 =>
  X Try.prog (binOp .rem 5 v3_6 (.int .u8 5)) w4 fun v4_7 w5 =>
  X Try.prog (binOpG .eql 5 (.tmp 7) (.const (.int .u8 0)) v4_7 (.int .u8 0)) w5 fun v5_9 w6 =>
  condS v5_9 (
  ∃ R, Frame? R ∧
  XP Try.prog (Instr.fieldAt 86 v1_3 1) (drewW w6) fun v6_11 w7 =>
  XR Try.prog R (Instr.loadAt 3 v6_11) w7 fun v7_12 w8 =>
  XP Try.prog (Instr.fieldAt 86 v1_3 3) w8 fun v8_14 w9 =>
  XR Try.prog R (Instr.loadAt 27 v8_14) w9 fun v9_15 w10 =>
  X Try.prog (Instr.buildSlice 27 0 #[]) w10 fun v10_13 w11 =>
  R w10 w11 ∧
  X Try.prog (Builtin.append_ #[27, 27] 27 #[v10_13, v9_15]) w11 fun v11_16 w12 =>
  R w11 w12 ∧
  CALL Try.prog 70 #[x0, v7_12, v11_16] w12 fun v12_17 w13 =>
  R w12 w13 ∧
  K v12_17 w13) (
  X Try.prog (binOpG .eql 5 (.tmp 7) (.const (.int .u8 1)) v4_7 (.int .u8 1)) w6 fun v13_19 w14 =>
  condS v13_19 (
  CALL Try.prog 71 #[x0] w14 fun v14_21 w15 =>
  K v14_21 w15) (
  X Try.prog (binOpG .eql 5 (.tmp 7) (.const (.int .u8 2)) v4_7 (.int .u8 2)) w14 fun v15_23 w16 =>
  condS v15_23 (
  X Try.prog (Instr.fieldAt 86 v1_3 2) w16 fun v16_25 w17 =>
  X Try.prog (Instr.loadAt 3 v16_25) w17 fun v17_26 w18 =>
  CALL Try.prog 78 #[x0, v17_26] w18 fun v18_27 w19 =>
  J1 (upds (env0 #[x0, x1]) [(27, v18_27), (26, v17_26), (25, v16_25), (24, x0), (22, v15_23), (23, v15_23), (18, v13_19), (19, v13_19), (8, v5_9), (9, v5_9), (7, v4_7), (6, v3_6), (5, v2_5), (4, (.int .i64 0)), (3, v1_3)]) w19) (
  X Try.prog (binOpG .eql 5 (.tmp 7) (.const (.int .u8 3)) v4_7 (.int .u8 3)) w16 fun v19_29 w20 =>
  condS v19_29 (
  X Try.prog (Instr.fieldAt 86 v1_3 4) w20 fun v20_31 w21 =>
  X Try.prog (Instr.loadAt 79 v20_31) w21 fun v21_32 w22 =>
  CALL Try.prog 72 #[x0, v21_32] w22 fun v22_33 w23 =>
  J1 (upds (env0 #[x0, x1]) [(33, v22_33), (32, v21_32), (31, v20_31), (30, x0), (28, v19_29), (29, v19_29), (22, v15_23), (23, v15_23), (18, v13_19), (19, v13_19), (8, v5_9), (9, v5_9), (7, v4_7), (6, v3_6), (5, v2_5), (4, (.int .i64 0)), (3, v1_3)]) w23) (
  J1 (upds (env0 #[x0, x1]) [(28, v19_29), (29, v19_29), (22, v15_23), (23, v15_23), (18, v13_19), (19, v13_19), (8, v5_9), (9, v5_9), (7, v4_7), (6, v3_6), (5, v2_5), (4, (.int .i64 0)), (3, v1_3)]) w20))))

theorem eq_law08_does (x0 x1 : Value) (w : World) (K : Value → World → Prop) :
    sh Try.prog (Try.f75.body.getD .skip) (retS Try.prog Try.f75.results K) (env0 #[x0, x1]) w = B_law08_does x0 x1 w K := by kernel_rfl

theorem call_law08_does (x0 x1 : Value) (w : World) (K : Value → World → Prop) (h : B_law08_does x0 x1 w K) : CALL Try.prog 75 #[x0, x1] w K :=
  call_of_eq (c := Try.f75.body.getD .skip) mixed Try.func75 (by kernel_rfl) (by kernel_rfl) (by kernel_rfl) (Nat.le_of_ble_eq_true (by kernel_rfl)) (eq_law08_does x0 x1 w K) h

/-- cellarage/cellaragelaw08.model -/
def B_law08_model (x0 x1 : Value) (w : World) (K : Value → World → Prop) : Prop :=
  X Try.prog (Instr.box 86 x1) w fun v1_3 w1 =>
  joinS (fun ρ1 w2 =>
  K (.int .i64 0) w2) fun J1 =>
  X Try.prog (Instr.fieldAt 86 v1_3 0) w1 fun v2_5 w3 =>
  X Try.prog (Instr.loadAt 5 v2_5) w3 fun v3_6 w4 =>
  X Try.prog (binOp .rem 5 v3_6 (.int .u8 5)) w4 fun v4_7 w5 =>
  X Try.prog (binOpG .eql 5 (.tmp 7) (.const (.int .u8 0)) v4_7 (.int .u8 0)) w5 fun v5_9 w6 =>
  condS v5_9 (
  X Try.prog (Instr.fieldAt 86 v1_3 1) w6 fun v6_11 w7 =>
  X Try.prog (Instr.loadAt 3 v6_11) w7 fun v7_12 w8 =>
  X Try.prog (Instr.fieldAt 86 v1_3 3) w8 fun v8_13 w9 =>
  X Try.prog (Instr.loadAt 27 v8_13) w9 fun v9_14 w10 =>
  X Try.prog (convert 27 9 v9_14) w10 fun v10_15 w11 =>
  CALL Try.prog 109 #[x0, v7_12, v10_15] w11 fun v11_16 w12 =>
  K v11_16 w12) (
  X Try.prog (binOpG .eql 5 (.tmp 7) (.const (.int .u8 1)) v4_7 (.int .u8 1)) w6 fun v12_18 w13 =>
  condS v12_18 (
  CALL Try.prog 110 #[x0] w13 fun v13_20 w14 =>
  K v13_20 w14) (
  X Try.prog (binOpG .eql 5 (.tmp 7) (.const (.int .u8 2)) v4_7 (.int .u8 2)) w13 fun v14_22 w15 =>
  condS v14_22 (
  X Try.prog (Instr.fieldAt 86 v1_3 2) w15 fun v15_24 w16 =>
  X Try.prog (Instr.loadAt 3 v15_24) w16 fun v16_25 w17 =>
  CALL Try.prog 111 #[x0, v16_25] w17 fun v17_26 w18 =>
  J1 (upds (env0 #[x0, x1]) [(26, v17_26), (25, v16_25), (24, v15_24), (23, x0), (21, v14_22), (22, v14_22), (17, v12_18), (18, v12_18), (8, v5_9), (9, v5_9), (7, v4_7), (6, v3_6), (5, v2_5), (4, (.int .i64 0)), (3, v1_3)]) w18) (
  X Try.prog (binOpG .eql 5 (.tmp 7) (.const (.int .u8 3)) v4_7 (.int .u8 3)) w15 fun v18_28 w19 =>
  condS v18_28 (
  X Try.prog (Instr.fieldAt 86 v1_3 4) w19 fun v19_30 w20 =>
  X Try.prog (Instr.loadAt 79 v19_30) w20 fun v20_31 w21 =>
  CALL Try.prog 112 #[x0, v20_31] w21 fun v21_32 w22 =>
  J1 (upds (env0 #[x0, x1]) [(32, v21_32), (31, v20_31), (30, v19_30), (29, x0), (27, v18_28), (28, v18_28), (21, v14_22), (22, v14_22), (17, v12_18), (18, v12_18), (8, v5_9), (9, v5_9), (7, v4_7), (6, v3_6), (5, v2_5), (4, (.int .i64 0)), (3, v1_3)]) w22) (
  J1 (upds (env0 #[x0, x1]) [(27, v18_28), (28, v18_28), (21, v14_22), (22, v14_22), (17, v12_18), (18, v12_18), (8, v5_9), (9, v5_9), (7, v4_7), (6, v3_6), (5, v2_5), (4, (.int .i64 0)), (3, v1_3)]) w19))))

theorem eq_law08_model (x0 x1 : Value) (w : World) (K : Value → World → Prop) :
    sh Try.prog (Try.f82.body.getD .skip) (retS Try.prog Try.f82.results K) (env0 #[x0, x1]) w = B_law08_model x0 x1 w K := by kernel_rfl

theorem call_law08_model (x0 x1 : Value) (w : World) (K : Value → World → Prop) (h : B_law08_model x0 x1 w K) : CALL Try.prog 82 #[x0, x1] w K :=
  call_of_eq (c := Try.f82.body.getD .skip) mixed Try.func82 (by kernel_rfl) (by kernel_rfl) (by kernel_rfl) (Nat.le_of_ble_eq_true (by kernel_rfl)) (eq_law08_model x0 x1 w K) h

/-- cellarage/cellaragelaw08.alike -/
def B_law08_alike (x0 x1 : Value) (w : World) (K : Value → World → Prop) : Prop :=
  ∃ R, Frame? R ∧
  XP Try.prog (nilS x1) (drewW w) fun v1_14 w1 =>
  XP Try.prog (Instr.fieldAt 148 v1_14 0) w1 fun v2_15 w2 =>
  XR Try.prog R (Instr.loadAt 66 v2_15) w2 fun v3_16 w3 =>
  XP Try.prog (Builtin.len_ #[66] 3 #[v3_16]) w3 fun v4_17 w4 =>
  CALL Try.prog 84 #[x0] w4 fun v5_12 w5 =>
  R w4 w5 ∧
  XP Try.prog (binOpG .neq 3 (.tmp 12) (.tmp 17) v5_12 v4_17) w5 fun v6_18 w6 =>
  gstep v6_18 false (fun w7 K => K x0 w7) w6 fun v7_20 w8 =>
  gstep v6_18 false (fun w9 K => K x1 w9) w8 fun v8_22 w10 =>
  gstep v6_18 false (fun w11 K => XP Try.prog (nilS v8_22) w11 K) w10 fun v9_23 w12 =>
  gstep v6_18 false (fun w13 K => XP Try.prog (Instr.fieldAt 148 v9_23 1) w13 K) w12 fun v10_24 w14 =>
  gstep v6_18 false (fun w15 K => XR Try.prog R (Instr.loadAt 146 v10_24) w15 K) w14 fun v11_25 w16 =>
  gstep v6_18 false (fun w17 K => XP Try.prog (Builtin.len_ #[146] 3 #[v11_25]) w17 K) w16 fun v12_26 w18 =>
  gstep v6_18 false (fun w19 K => CALL Try.prog 77 #[v7_20] w19 K) w18 fun v13_21 w20 =>
  R w18 w20 ∧
  gstep v6_18 false (fun w21 K => XP Try.prog (binOpG .neq 3 (.tmp 21) (.tmp 26) v13_21 v12_26) w21 K) w20 fun v14_27 w22 =>
  XP Try.prog (pickS v6_18 (.bool true) v14_27) w22 fun v15_28 w23 =>
  gstep v15_28 false (fun w24 K => K x0 w24) w23 fun v16_30 w25 =>
  gstep v15_28 false (fun w26 K => K x1 w26) w25 fun v17_32 w27 =>
  gstep v15_28 false (fun w28 K => XP Try.prog (nilS v17_32) w28 K) w27 fun v18_33 w29 =>
  gstep v15_28 false (fun w30 K => XP Try.prog (Instr.fieldAt 148 v18_33 2) w30 K) w29 fun v19_34 w31 =>
  gstep v15_28 false (fun w32 K => XR Try.prog R (Instr.loadAt 4 v19_34) w32 K) w31 fun v20_35 w33 =>
  gstep v15_28 false (fun w34 K => CALL Try.prog 76 #[v16_30] w34 K) w33 fun v21_31 w35 =>
  R w33 w35 ∧
  gstep v15_28 false (fun w36 K => XP Try.prog (binOpG .neq 4 (.tmp 31) (.tmp 35) v21_31 v20_35) w36 K) w35 fun v22_36 w37 =>
  XP Try.prog (pickS v15_28 (.bool true) v22_36) w37 fun v23_37 w38 =>
  gstep v23_37 false (fun w39 K => K x0 w39) w38 fun v24_39 w40 =>
  gstep v23_37 false (fun w41 K => K x1 w41) w40 fun v25_41 w42 =>
  gstep v23_37 false (fun w43 K => XP Try.prog (nilS v25_41) w43 K) w42 fun v26_42 w44 =>
  gstep v23_37 false (fun w45 K => XP Try.prog (Instr.fieldAt 148 v26_42 4) w45 K) w44 fun v27_43 w46 =>
  gstep v23_37 false (fun w47 K => XR Try.prog R (Instr.loadAt 3 v27_43) w47 K) w46 fun v28_44 w48 =>
  gstep v23_37 false (fun w49 K => CALL Try.prog 79 #[v24_39] w49 K) w48 fun v29_40 w50 =>
  R w48 w50 ∧
  gstep v23_37 false (fun w51 K => XP Try.prog (binOpG .neq 3 (.tmp 40) (.tmp 44) v29_40 v28_44) w51 K) w50 fun v30_45 w52 =>
  XP Try.prog (pickS v23_37 (.bool true) v30_45) w52 fun v31_46 w53 =>
  condS v31_46 (
  K (.bool false) w53) (
  loopS (fun Q1 ρ1 w54 =>
  X Try.prog (nilS (ρ1 1)) w54 fun v32_49 w55 =>
  X Try.prog (Instr.fieldAt 148 v32_49 0) w55 fun v33_50 w56 =>
  X Try.prog (Instr.loadAt 66 v33_50) w56 fun v34_51 w57 =>
  X Try.prog (Builtin.len_ #[66] 3 #[v34_51]) w57 fun v35_52 w58 =>
  X Try.prog (Builtin.min_ #[3, 3] 3 #[(.int .i64 40), v35_52]) w58 fun v36_53 w59 =>
  X Try.prog (binOp .leq 3 (ρ1 5) v36_53) w59 fun v37_54 w60 =>
  condS v37_54 (
  CALL Try.prog 73 #[(ρ1 0), (ρ1 5)] w60 fun v38_60 w61 =>
  X Try.prog (Instr.extract v38_60 0) w61 fun v39_61 w62 =>
  X Try.prog (Instr.extract v38_60 1) w62 fun v40_62 w63 =>
  CALL Try.prog 113 #[(ρ1 1), (ρ1 5)] w63 fun v41_66 w64 =>
  X Try.prog (Instr.extract v41_66 0) w64 fun v42_67 w65 =>
  X Try.prog (Instr.extract v41_66 1) w65 fun v43_68 w66 =>
  X Try.prog (convert 27 9 v39_61) w66 fun v44_70 w67 =>
  X Try.prog (binOpG .neq 9 (.tmp 70) (.tmp 71) v44_70 v42_67) w67 fun v45_72 w68 =>
  gstep v45_72 false (fun w69 K => K v40_62 w69) w68 fun v46_74 w70 =>
  gstep v45_72 false (fun w71 K => K v43_68 w71) w70 fun v47_75 w72 =>
  gstep v45_72 false (fun w73 K => X Try.prog (binOpG .neq 30 (.tmp 74) (.tmp 75) v46_74 v47_75) w73 K) w72 fun v48_76 w74 =>
  X Try.prog (pickS v45_72 (.bool true) v48_76) w74 fun v49_77 w75 =>
  condS v49_77 (
  Q1 .ret (upds ρ1 [(4, (.bool false)), (77, v49_77), (76, v48_76), (75, v47_75), (74, v46_74), (73, v45_72), (72, v45_72), (71, v42_67), (70, v44_70), (69, v39_61), (9, v43_68), (8, v42_67), (68, v43_68), (67, v42_67), (63, v41_66), (66, v41_66), (65, (ρ1 5)), (64, (ρ1 1)), (7, v40_62), (6, v39_61), (62, v40_62), (61, v39_61), (57, v38_60), (60, v38_60), (59, (ρ1 5)), (58, (ρ1 0)), (54, v37_54), (53, v36_53), (52, v35_52), (51, v34_51), (50, v33_50), (49, v32_49), (48, (ρ1 1)), (47, (ρ1 5))]) w75) (
  X Try.prog (Builtin.len_ #[27] 3 #[v39_61]) w75 fun v50_79 w76 =>
  loopS (fun Q2 ρ2 w77 =>
  X Try.prog (binOp .lss 3 (ρ2 80) (ρ2 79)) w77 fun v51_81 w78 =>
  condS v51_81 (
  X Try.prog (Instr.indexAt 27 (ρ2 6) (ρ2 80)) w78 fun v52_85 w79 =>
  X Try.prog (Instr.loadAt 5 v52_85) w79 fun v53_86 w80 =>
  X Try.prog (binOp .xor 5 v53_86 (.int .u8 255)) w80 fun v54_87 w81 =>
  X Try.prog (Instr.indexAt 27 (ρ2 6) (ρ2 80)) w81 fun v55_88 w82 =>
  XU Try.prog (Instr.storeAt 5 v55_88 v54_87) w82 fun w83 =>
  X Try.prog (binOp .add 3 (ρ2 80) (.int .i64 1)) w83 fun v56_89 w84 =>
  Q2 .normal (upds ρ2 [(80, v56_89), (89, v56_89), (88, v55_88), (87, v54_87), (86, v53_86), (85, v52_85), (84, (ρ2 80)), (83, (ρ2 6)), (10, (ρ2 80)), (82, (ρ2 80)), (81, v51_81)]) w84) (
  Q2 (.exit 2) (upds ρ2 [(81, v51_81)]) w78)) (inBlockS 2 (inBlockS 1 (thenS (fun ρ3 w85 =>
  X Try.prog (binOp .add 3 (ρ3 5) (.int .i64 1)) w85 fun v57_56 w86 =>
  Q1 .normal (upds ρ3 [(5, v57_56), (56, v57_56), (55, (ρ3 5))]) w86) Q1))) (upds ρ1 [(80, (.int .i64 0)), (79, v50_79), (78, v39_61), (77, v49_77), (76, v48_76), (75, v47_75), (74, v46_74), (73, v45_72), (72, v45_72), (71, v42_67), (70, v44_70), (69, v39_61), (9, v43_68), (8, v42_67), (68, v43_68), (67, v42_67), (63, v41_66), (66, v41_66), (65, (ρ1 5)), (64, (ρ1 1)), (7, v40_62), (6, v39_61), (62, v40_62), (61, v39_61), (57, v38_60), (60, v38_60), (59, (ρ1 5)), (58, (ρ1 0)), (54, v37_54), (53, v36_53), (52, v35_52), (51, v34_51), (50, v33_50), (49, v32_49), (48, (ρ1 1)), (47, (ρ1 5))]) w76)) (
  Q1 (.exit 0) (upds ρ1 [(54, v37_54), (53, v36_53), (52, v35_52), (51, v34_51), (50, v33_50), (49, v32_49), (48, (ρ1 1)), (47, (ρ1 5))]) w60)) (inBlockS 0 (thenS (fun ρ4 w87 =>
  K (.bool true) w87) (retS Try.prog (Try.f83).results K))) (upds (env0 #[x0, x1]) [(5, (.int .i64 (-1))), (46, v31_46), (45, v30_45), (40, v29_40), (44, v28_44), (43, v27_43), (42, v26_42), (41, v25_41), (39, v24_39), (38, v23_37), (37, v23_37), (36, v22_36), (31, v21_31), (35, v20_35), (34, v19_34), (33, v18_33), (32, v17_32), (30, v16_30), (29, v15_28), (28, v15_28), (27, v14_27), (21, v13_21), (26, v12_26), (25, v11_25), (24, v10_24), (23, v9_23), (22, v8_22), (20, v7_20), (19, v6_18), (18, v6_18), (12, v5_12), (17, v4_17), (16, v3_16), (15, v2_15), (14, v1_14), (13, x1), (11, x0), (4, (.bool false))]) w53)

theorem eq_law08_alike (x0 x1 : Value) (w : World) (K : Value → World → Prop) :
    sh Try.prog (Try.f83.body.getD .skip) (retS Try.prog Try.f83.results K) (env0 #[x0, x1]) w = B_law08_alike x0 x1 w K := by kernel_rfl

theorem call_law08_alike (x0 x1 : Value) (w : World) (K : Value → World → Prop) (h : B_law08_alike x0 x1 w K) : CALL Try.prog 83 #[x0, x1] w K :=
  call_of_eq (c := Try.f83.body.getD .skip) mixed Try.func83 (by kernel_rfl) (by kernel_rfl) (by kernel_rfl) (Nat.le_of_ble_eq_true (by kernel_rfl)) (eq_law08_alike x0 x1 w K) h

end Go.Proofs.Ytggggfcgnkllgaa
end
section
/- cellaragelaw08's reference disk in memory, and what its small functions compute. -/
set_option linter.unusedSimpArgs false
set_option linter.unusedVariables false
namespace Go.Proofs.Ytggggfcgnkllgaa
open Go Go.Sh Go.RowKit
attribute [local irreducible] X XU XP XR CALL loopS resC closS

section
variable {P : Program}
theorem run_index_str {T : TypeId} (hT : P.underlying T = some .string) (l : List UInt8) (k : IntKind) {ii : Int} (i : Nat) (e1 : ii = i) (h : i < l.length) (w : World) : (Instr.index T (.string (str l)) (.int k ii)).run P w = .ok (.int .u8 ((l[i].toNat : Nat) : Int)) w := by
  subst e1
  have h2 : (str l)[i]? = some l[i] := by
    have hs : i < (str l).size := by rw [str_size]; exact h
    have e := getElem?_pos (str l) i hs
    rw [e]
    congr 1
  simp [Instr.index, asIntOf, run_underlying hT, h2]
theorem extract_str (l : List UInt8) (a b : Nat) : (str l).extract a b = str ((l.take b).drop a) := by
  apply ByteArray.ext
  simp only [str, ByteArray.data_extract]
  rw [List.extract_toArray]
  simp [List.extract_eq_take_drop, List.drop_take]
theorem run_cutstr_hi {T : TypeId} (hT : P.underlying T = some .string) (l : List UInt8) (k : IntKind) (n : Nat) (h : n ≤ l.length) (w : World) : (Instr.sliceAt T (.string (str l)) none (some (.int k (n : Int))) none).run P w = .ok (.string (str (l.take n))) w := by
  have h' : n ≤ (str l).size := by rw [str_size]; exact h
  simp [Instr.sliceAt, Instr.slice, run_underlying hT, Instr.sliceBounds, Instr.sliceBound, asIntOf, h', extract_str]
theorem run_cutstr_lo {T : TypeId} (hT : P.underlying T = some .string) (l : List UInt8) (k : IntKind) (n : Nat) (h : n ≤ l.length) (w : World) : (Instr.sliceAt T (.string (str l)) (some (.int k (n : Int))) none none).run P w = .ok (.string (str (l.drop n))) w := by
  have h' : n ≤ (str l).size := by rw [str_size]; exact h
  simp [Instr.sliceAt, Instr.slice, run_underlying hT, Instr.sliceBounds, Instr.sliceBound, asIntOf, h, h', extract_str, str_size, List.take_length]
theorem str_append (a b : List UInt8) : str a ++ str b = str (a ++ b) := by
  apply ByteArray.ext
  simp [str]
end
def strs (l : List (List UInt8)) : List Value := l.map fun s => .string (str s)
def pcs (p : Nat × List UInt8) : List Value := [.int .i64 (p.1 : Int), .string (str p.2)]
def putL (ws : List (Nat × List UInt8)) : List Value := (ws.map pcs).flatten
theorem pcs_all (ws : List (Nat × List UInt8)) : ∀ s ∈ ws.map pcs, s.length = 2 := by
  intro s hs
  obtain ⟨p, hp, rfl⟩ := List.mem_map.1 hs
  rfl
theorem putL_append (a b : List (Nat × List UInt8)) : putL (a ++ b) = putL a ++ putL b := by simp [putL]
theorem pcs_one (p : Nat × List UInt8) : ∀ v ∈ pcs p, v.oneCell' = true := by
  intro v hv
  simp only [pcs, List.mem_cons, List.not_mem_nil, or_false] at hv
  rcases hv with rfl | rfl <;> rfl
theorem strs_one (l : List (List UInt8)) : ∀ v ∈ strs l, v.oneCell' = true := by
  intro v hv
  obtain ⟨s, _, rfl⟩ := List.mem_map.1 hv
  rfl
structure RAt (w : World) (b : Nat) (d : Dk) (sv pv : Value) : Prop where
  blk : w.heap[b]? = some (.cells #[sv, pv, .bool d.dead, .int .i64 d.fuse, .int .i64 d.done] 148 (0, 0))
  safe : w.ownsRow 0 9 1 sv d.safe.length (strs d.safe)
  ws : w.ownsRow 0 200 2 pv d.ws.length (putL d.ws)
def RefAt (w : World) (b : Nat) (d : Dk) : Prop := d.ok ∧ ∃ sv pv, RAt w b d sv pv
theorem RAt.foot {w : World} {b : Nat} {d : Dk} {sv pv : Value} (h : RAt w b d sv pv) {k : Nat} : Go.Sh.foot w b k ↔ k = b ∨ sv.ownBlock = some k ∨ pv.ownBlock = some k := by
  rw [foot_cells h.blk]
  simp [Value.ownBlock]
theorem RAt.lt {w : World} {b : Nat} {d : Dk} {sv pv : Value} (h : RAt w b d sv pv) {k : Nat} (hk : Go.Sh.foot w b k) : k < w.heap.size := by
  rcases h.foot.1 hk with rfl | h1 | h1
  · exact lt_of_blk h.blk
  · exact (h.safe.lt k h1).2
  · exact (h.ws.lt k h1).2
theorem RAt.keep {w w' : World} {b : Nat} {d : Dk} {sv pv : Value} {D : Nat → Prop} (h : RAt w b d sv pv) (k : Keep D w w') (hd : ∀ k, Go.Sh.foot w b k → ¬ D k) : RAt w' b d sv pv :=
  ⟨k.get (hd b (foot_self w b)) h.blk, own_keepD h.safe k (fun g hg => hd g (h.foot.2 (.inr (.inl hg)))), own_keepD h.ws k (fun g hg => hd g (h.foot.2 (.inr (.inr hg))))⟩
theorem RAt.ext {w w' : World} {b : Nat} {d : Dk} {sv pv : Value} (h : RAt w b d sv pv) (k : Ext w w') : RAt w' b d sv pv := h.keep k (fun _ _ h => h)
theorem RAt.b_ne {w : World} {b : Nat} {d : Dk} {sv pv : Value} (h : RAt w b d sv pv) : sv.ownBlock ≠ some b ∧ pv.ownBlock ≠ some b :=
  ⟨own_neT h.safe h.blk (by decide), own_neT h.ws h.blk (by decide)⟩
theorem RefAt.lt {w : World} {b : Nat} {d : Dk} (h : RefAt w b d) : ∀ k, Go.Sh.foot w b k → k < w.heap.size := fun k hk => by
  obtain ⟨_, sv, pv, h⟩ := h
  exact h.lt hk
theorem RefAt.keep {w w' : World} {b : Nat} {d : Dk} {D : Nat → Prop} (h : RefAt w b d) (k : Keep D w w') (hd : ∀ k, Go.Sh.foot w b k → ¬ D k) : RefAt w' b d := by
  obtain ⟨ho, sv, pv, h⟩ := h
  exact ⟨ho, sv, pv, h.keep k hd⟩
theorem RefAt.ext {w w' : World} {b : Nat} {d : Dk} (h : RefAt w b d) (k : Ext w w') : RefAt w' b d := h.keep k (fun _ _ h => h)
theorem RAt.put {w : World} {b : Nat} {d : Dk} {sv pv : Value} (h : RAt w b d sv pv) {cs' : Array Value} (d' : Dk) (e2 : d'.safe = d.safe) (e3 : d'.ws = d.ws)
    (e : cs' = #[sv, pv, .bool d'.dead, .int .i64 d'.fuse, .int .i64 d'.done]) : RAt (setAt w b cs' 148 (0, 0)) b d' sv pv ∧ Step b w (setAt w b cs' 148 (0, 0)) := by
  have k := setAt_keep w b cs' 148 (0, 0)
  have hb := setAt_same (cs := cs') (T := 148) (fr := (0, 0)) (lt_of_blk h.blk)
  obtain ⟨n1, n2⟩ := h.b_ne
  have hr : RAt (setAt w b cs' 148 (0, 0)) b d' sv pv := by
    refine ⟨by rw [hb, e], ?_, ?_⟩
    · rw [e2]; exact own_keepD h.safe k (fun g hg hgb => n1 (by rw [hg, hgb]))
    · rw [e3]; exact own_keepD h.ws k (fun g hg hgb => n2 (by rw [hg, hgb]))
  refine ⟨hr, k.mono (fun i _ hi => by subst hi; exact foot_self w i), fun k' hk' => .inl ?_⟩
  exact h.foot.2 (hr.foot.1 hk')
/-- A safe sector: where it lies, and what writing it does. -/
theorem RAt.safe_at {w : World} {b : Nat} {d : Dk} {sv pv : Value} (h : RAt w b d sv pv) {i : Nat} (hi : i < d.safe.length) :
    ∃ g cap cur, sv = .slice (some ⟨g, 0, none⟩) d.safe.length cap ∧ w.heap[g]? = some (.cells cur 9 (0, 0)) ∧ i < cur.size ∧ cur[i]? = some (.string (str d.safe[i])) ∧ (∀ w', (Instr.indexAt 66 sv (.int .i64 (i : Int))).run Try.prog w' = .ok (.pointer (some ⟨g, i, none⟩)) w') ∧
      ∀ x : List UInt8, RAt (setAt w g (cur.setIfInBounds i (.string (str x))) 9 (0, 0)) b { d with safe := d.safe.set i x } sv pv ∧ Step b w (setAt w g (cur.setIfInBounds i (.string (str x))) 9 (0, 0)) := by
  rcases id h.safe.2 with ⟨_, h0⟩ | ⟨g, cap, cur, hsv, hg, hh, hn, hm, hs, ht⟩
  · omega
  have hic : i < cur.size := by omega
  have hsb : sv.ownBlock = some g := by rw [hsv]; rfl
  refine ⟨g, cap, cur, hsv, hh, hic, ?_, fun w' => by rw [hsv, ix Try.underlying66 info_9 i rfl hi w', sz_9, Nat.mul_one, add_plain, Nat.zero_add], fun x => ?_⟩
  · have e := congrArg (fun x => x[i]?) ht
    simp only [List.getElem?_take, show i < d.safe.length * 1 by omega, if_true] at e
    simp only [strs, List.getElem?_map, List.getElem?_eq_getElem hi, Option.map_some] at e
    simpa using e
  · have k := setAt_keep w g (cur.setIfInBounds i (.string (str x))) 9 (0, 0)
    obtain ⟨n1, n2⟩ := h.b_ne
    have hgb : ¬ b = g := fun e => n1 (by rw [hsb, e])
    have hr : RAt (setAt w g (cur.setIfInBounds i (.string (str x))) 9 (0, 0)) b { d with safe := d.safe.set i x } sv pv := by
      refine ⟨k.get hgb h.blk, ?_, own_keepD h.ws k (fun g' hg' e => own_neO h.safe h.ws (by decide) hsb (by rw [hg', e]))⟩
      show World.ownsRow _ 0 9 1 sv (d.safe.set i x).length (strs (d.safe.set i x))
      rw [List.length_set]
      refine ⟨by simp [strs], .inr ⟨g, cap, _, hsv, hg, setAt_same (lt_of_blk hh), hn, hm, by simpa using hs, ?_⟩⟩
      unfold strs at ht ⊢
      rw [List.map_set, ← ht]
      simp [List.take_set]
    refine ⟨hr, k.mono (fun j _ hj => by rw [hj]; exact h.foot.2 (.inr (.inl hsb))), fun k' hk' => .inl ?_⟩
    exact h.foot.2 (hr.foot.1 hk')
/-- A write that is not safe. -/
theorem RAt.ws_at {w : World} {b : Nat} {d : Dk} {sv pv : Value} (h : RAt w b d sv pv) {i : Nat} (hi : i < d.ws.length) :
    ∃ g cap cur, pv = .slice (some ⟨g, 0, none⟩) d.ws.length cap ∧ w.heap[g]? = some (.cells cur 200 (0, 0)) ∧ cur[i * 2]? = some (.int .i64 (d.ws[i].1 : Int)) ∧ cur[i * 2 + 1]? = some (.string (str d.ws[i].2)) ∧ (cur.toList.drop (i * 2)).take 2 = pcs d.ws[i] ∧ (∀ w', (Instr.indexAt 146 pv (.int .i64 (i : Int))).run Try.prog w' = .ok (.pointer (some ⟨g, i * 2, none⟩)) w') := by
  rcases id h.ws.2 with ⟨_, h0⟩ | ⟨g, cap, cur, hv, hg, hh, hn, hm, hs, ht⟩
  · omega
  · have e := congrArg (fun x => (x.drop (i * 2)).take 2) ht
    rw [List.drop_take, List.take_take, show min 2 (d.ws.length * 2 - i * 2) = 2 by omega] at e
    have e2 : ((putL d.ws).drop (i * 2)).take 2 = pcs d.ws[i] := by
      unfold putL
      rw [flat_at (pcs_all d.ws) (by simpa using hi), List.getElem_map]
    rw [e2] at e
    refine ⟨g, cap, cur, hv, hh, ?_, ?_, e, fun w' => by rw [hv, ix Try.underlying146 info_200 i rfl hi w', sz_200, add_plain, Nat.zero_add]⟩
    · have e3 := congrArg (fun x => x[0]?) e
      simp only [List.getElem?_take, List.getElem?_drop, pcs] at e3
      simpa using e3
    · have e3 := congrArg (fun x => x[1]?) e
      simp only [List.getElem?_take, List.getElem?_drop, pcs] at e3
      simpa using e3
theorem RAt.append {w w1 : World} {b : Nat} {d : Dk} {sv pv v' : Value} (h : RAt w b d sv pv) (p : Nat × List UInt8) (k : Keep (fun k => some k = pv.ownBlock) w w1)
    (ho : w1.ownsRow 0 200 2 v' (d.ws.length + 1) (putL d.ws ++ pcs p)) (hn : ∀ g, v'.ownBlock = some g → pv.ownBlock = some g ∨ w.heap.size ≤ g) :
    w1.heap[b]? = some (.cells #[sv, pv, .bool d.dead, .int .i64 d.fuse, .int .i64 d.done] 148 (0, 0)) ∧
    RAt (setAt w1 b #[sv, v', .bool d.dead, .int .i64 d.fuse, .int .i64 d.done] 148 (0, 0)) b { d with ws := d.ws ++ [p] } sv v' ∧ Step b w (setAt w1 b #[sv, v', .bool d.dead, .int .i64 d.fuse, .int .i64 d.done] 148 (0, 0)) := by
  obtain ⟨n1, n2⟩ := h.b_ne
  have hb1 : w1.heap[b]? = some (.cells #[sv, pv, .bool d.dead, .int .i64 d.fuse, .int .i64 d.done] 148 (0, 0)) := k.get (fun e => n2 e.symm) h.blk
  have k2 := setAt_keep w1 b #[sv, v', .bool d.dead, .int .i64 d.fuse, .int .i64 d.done] 148 (0, 0)
  have hsafe1 := own_keepD h.safe k (fun g hg e => own_neO h.safe h.ws (by decide) hg e.symm)
  have hr : RAt (setAt w1 b #[sv, v', .bool d.dead, .int .i64 d.fuse, .int .i64 d.done] 148 (0, 0)) b { d with ws := d.ws ++ [p] } sv v' := by
    refine ⟨setAt_same (lt_of_blk hb1), own_keepD hsafe1 k2 (fun g hg e => n1 (by rw [hg, e])), ?_⟩
    have e1 : (d.ws ++ [p]).length = d.ws.length + 1 := by simp
    have e2 : putL (d.ws ++ [p]) = putL d.ws ++ pcs p := by rw [putL_append]; simp [putL]
    show World.ownsRow _ 0 200 2 v' (d.ws ++ [p]).length (putL (d.ws ++ [p]))
    rw [e1, e2]
    exact own_keepD ho k2 (fun g hg e => own_neT ho hb1 (by decide) (by rw [hg, e]))
  refine ⟨hb1, hr, ?_, fun k' hk' => ?_⟩
  · refine Keep.seq (k.mono (fun i _ hi => h.foot.2 (.inr (.inr hi.symm)))) k2 (fun i _ hi => ?_)
    rw [hi]; exact foot_self w b
  · rcases hr.foot.1 hk' with h1 | h1 | h1
    · exact .inl (h.foot.2 (.inl h1))
    · exact .inl (h.foot.2 (.inr (.inl h1)))
    · rcases hn _ h1 with h2 | h2
      · exact .inl (h.foot.2 (.inr (.inr h2)))
      · exact .inr h2
theorem RAt.clear {w : World} {b : Nat} {d : Dk} {sv pv : Value} (h : RAt w b d sv pv) :
    RAt (setAt w b #[sv, .slice none 0 0, .bool d.dead, .int .i64 d.fuse, .int .i64 d.done] 148 (0, 0)) b { d with ws := [] } sv (.slice none 0 0) ∧ Step b w (setAt w b #[sv, .slice none 0 0, .bool d.dead, .int .i64 d.fuse, .int .i64 d.done] 148 (0, 0)) := by
  obtain ⟨n1, n2⟩ := h.b_ne
  have k := setAt_keep w b #[sv, .slice none 0 0, .bool d.dead, .int .i64 d.fuse, .int .i64 d.done] 148 (0, 0)
  have hr : RAt (setAt w b #[sv, .slice none 0 0, .bool d.dead, .int .i64 d.fuse, .int .i64 d.done] 148 (0, 0)) b { d with ws := [] } sv (.slice none 0 0) :=
    ⟨setAt_same (lt_of_blk h.blk), own_keepD h.safe k (fun g hg e => n1 (by rw [hg, e])), ⟨rfl, .inl ⟨rfl, rfl⟩⟩⟩
  refine ⟨hr, k.mono (fun i _ hi => by rw [hi]; exact foot_self w b), fun k' hk' => .inl ?_⟩
  rcases hr.foot.1 hk' with h1 | h1 | h1
  · exact h.foot.2 (.inl h1)
  · exact h.foot.2 (.inr (.inl h1))
  · cases h1

/-- pad. -/
theorem pad_spec {l : List UInt8} {w : World} {K : Value → World → Prop} (hl : l.length ≤ 128) (hK : ∀ w1, Ext w w1 → K (.string (str (padB l))) w1) : CALL Try.prog 133 #[.string (str l)] w K := by
  apply call_ref08_pad
  unfold B_ref08_pad
  refine X_make Try.underlying27 el_5 128 128 rfl rfl (Nat.le_refl _) (by decide) (by decide) ?_
  have hcells : madeCells (Value.int .u8 0).cells (128 * 1) = (B8 (l.take 0 ++ List.replicate (128 - 0) 0)).toArray := by
    apply Array.ext'
    have : (madeCells (Value.int .u8 0).cells 128).toList = List.replicate 128 (.int .u8 0) := made_one _ _
    rw [Nat.mul_one, this]
    simp [B8]
  rw [hcells]
  have hg := newB_get w (B8 (l.take 0 ++ List.replicate (128 - 0) 0)).toArray 5
  have hx := newB_ext w (B8 (l.take 0 ++ List.replicate (128 - 0) 0)).toArray 5
  generalize newB w (B8 (l.take 0 ++ List.replicate (128 - 0) 0)).toArray 5 = w1 at hg hx ⊢
  refine loopE (fun ρ wr => ∃ i : Nat, i ≤ l.length ∧ Ext w wr ∧ wr.heap[w.heap.size]? = some (.cells (B8 (l.take i ++ List.replicate (128 - i) 0)).toArray 5 (0, 0)) ∧
      ρ 4 = .int .i64 (i : Nat) ∧ ρ 3 = .slice (some ⟨w.heap.size, 0, none⟩) 128 128 ∧ ρ 0 = .string (str l))
    (fun ρ wr => match ρ 4 with | .int _ s => (l.length - s).toNat | _ => 0)
    (fun ρ wr => Ext w wr ∧ wr.heap[w.heap.size]? = some (.cells (B8 (padB l)).toArray 5 (0, 0)) ∧ ρ 3 = .slice (some ⟨w.heap.size, 0, none⟩) 128 128) ?_ ?_ ?_
  · exact ⟨0, Nat.zero_le _, hx, hg, rfl, rfl, rfl⟩
  · rintro J hJ ρ wr ⟨i, hi, hxr, hgr, h4, h3, h0⟩
    rw [h4, h3, h0]
    simp only [X_len_9, X_lss, condS_bool, str_size]
    by_cases hin : i = l.length
    · rw [if_neg (by simp; omega)]
      refine hJ _ _ ⟨hxr, ?_, h3⟩
      rw [hin, List.take_length] at hgr
      exact hgr
    rw [if_pos (by simp; omega)]
    have hlt : i < l.length := by omega
    refine X_of (run_index_str Try.underlying9 l .i64 i rfl hlt _) ?_
    refine X_of (ix Try.underlying27 info_5 i rfl (by omega) _) ?_
    rw [sz_5, Nat.mul_one, add_plain, Nat.zero_add]
    refine XU_store info_5 sz_5 rfl hgr (by simp; omega) (by show ¬ ((0 : Nat) ≤ i ∧ i < 0); omega) ?_
    rw [X_add]
    show _ ∧ _
    refine ⟨⟨i + 1, by omega, Ext.seq hxr (setAt_keep _ _ _ _ _) (fun j hj => by omega), ?_, next64 (n := 128) (by decide) (by omega), h3, h0⟩, ?_⟩
    · have e : (B8 (l.take i ++ List.replicate (128 - i) 0)).toArray.setIfInBounds i (.int .u8 ((l[i].toNat : Nat) : Int)) = (B8 (l.take (i + 1) ++ List.replicate (128 - (i + 1)) 0)).toArray := by
        have e1 : List.replicate (128 - i) (0 : UInt8) = 0 :: List.replicate (128 - (i + 1)) 0 := by
          rw [show 128 - i = (128 - (i + 1)) + 1 by omega, List.replicate_succ]
        have e2 : (l.take i ++ List.replicate (128 - i) 0).set i l[i] = l.take (i + 1) ++ List.replicate (128 - (i + 1)) 0 := by
          rw [e1, List.set_append_right _ _ (by simp; omega), List.length_take, Nat.min_eq_left (by omega), Nat.sub_self, List.set_cons_zero, List.take_succ_eq_append_getElem hlt, List.append_assoc]
          rfl
        rw [← e2, ← B8_set]
        simp
      rw [← e]
      exact setAt_same (lt_of_blk hgr)
    · show (_ - IntKind.i64.wrap _).toNat < _
      rw [w64 (by omega) (by omega)]
      first | omega | (show _ < (_ : Int).toNat; omega)
  · rintro ρ wr ⟨hxr, hgr, h3⟩
    rw [h3]
    have hb : Bts wr (.slice (some ⟨w.heap.size, 0, none⟩) (padB l).length 128) (padB l) := by
      refine ⟨_, _, rfl, by rw [padB_len hl]; exact Nat.le_refl _, by decide, fun _ => ⟨_, rfl, fun j u hj => ?_⟩⟩
      rw [add_plain, cell_blk hgr, Nat.zero_add]
      simp [B8_getElem?, hj]
    rw [padB_len hl] at hb
    exact X_str Try.underlying27 Try.underlying5 Try.underlying9 hb (hK _ hxr)
section
variable {w : World} {b : Nat} {d : Dk} {sv pv : Value} {K : Value → World → Prop}
theorem off_spec (h : RAt w b d sv pv) (hK : ∀ w1, RAt w1 b d.trip sv pv → Step b w w1 → K (.bool d.trip.dead) w1) : CALL Try.prog 142 #[ptr b] w K := by
  apply call_ref08_Disk_off
  unfold B_ref08_Disk_off
  simp only [X_nilS, X_field_148_2, X_field_148_3]
  refine joinS_of (fun ρ w1 => ρ 0 = ptr b ∧ RAt w1 b d.trip sv pv ∧ Step b w w1) ?_ ?_
  · rintro ρ w1 ⟨e0, h1, s1⟩
    rw [e0]
    simp only [X_nilS, X_field_148_2]
    exact X_loadL agg_4 h1.blk rfl (hK w1 h1 s1)
  intro J hJ
  refine X_loadL agg_3 h.blk rfl ?_
  rw [X_eql, condS_bool]
  by_cases hf : d.fuse = 0
  · rw [if_pos (by simpa using hf)]
    have et : d.trip = { d with dead := true, fuse := -1 } := by unfold Dk.trip; rw [if_pos hf]
    refine XU_store info_4 sz_4 rfl h.blk (Nat.le_of_ble_eq_true rfl) (by show ¬ ((0 : Nat) ≤ 2 ∧ 2 < 0); omega) ?_
    obtain ⟨h1, s1⟩ := h.put (cs' := (#[sv, pv, .bool d.dead, .int .i64 d.fuse, .int .i64 d.done] : Array Value).setIfInBounds (0 + 2) (.bool true)) { d with dead := true } rfl rfl rfl
    generalize setAt w b _ 148 (0, 0) = w1 at h1 s1 ⊢
    refine XU_store info_3 sz_3 rfl h1.blk (Nat.le_of_ble_eq_true rfl) (by show ¬ ((0 : Nat) ≤ 3 ∧ 3 < 0); omega) ?_
    obtain ⟨h2, s2⟩ := h1.put (cs' := (#[sv, pv, .bool true, .int .i64 d.fuse, .int .i64 d.done] : Array Value).setIfInBounds (0 + 3) (.int .i64 (-1))) { d with dead := true, fuse := -1 } rfl rfl rfl
    refine hJ _ _ ⟨rfl, ?_, s1.trans s2⟩
    rw [et]; exact h2
  · rw [if_neg (by simpa using hf)]
    have et : d.trip = d := by unfold Dk.trip; rw [if_neg hf]
    refine hJ _ _ ⟨rfl, ?_, Step.refl⟩
    rw [et]; exact h
theorem done_spec (hf : d.fuse ≤ 9223372036854775807) (h : RAt w b d sv pv) (hK : ∀ w1, RAt w1 b d.tick sv pv → Step b w w1 → K (i64v 0) w1) : CALL Try.prog 143 #[ptr b] w K := by
  apply call_ref08_Disk_done
  unfold B_ref08_Disk_done
  simp only [X_nilS, X_field_148_4, X_field_148_3]
  refine X_loadL agg_3 h.blk rfl ?_
  rw [X_add]
  refine XU_store info_3 sz_3 rfl h.blk (Nat.le_of_ble_eq_true rfl) (by show ¬ ((0 : Nat) ≤ 4 ∧ 4 < 0); omega) ?_
  obtain ⟨h1, s1⟩ := h.put (cs' := (#[sv, pv, .bool d.dead, .int .i64 d.fuse, .int .i64 d.done] : Array Value).setIfInBounds (0 + 4) (.int .i64 (IntKind.i64.wrap (d.done + 1)))) { d with done := IntKind.i64.wrap (d.done + 1) } rfl rfl rfl
  generalize setAt w b _ 148 (0, 0) = w1 at h1 s1 ⊢
  refine joinS_of (fun ρ w1 => RAt w1 b d.tick sv pv ∧ Step b w w1) ?_ ?_
  · rintro ρ w1 ⟨h1, s1⟩
    exact hK w1 h1 s1
  intro J hJ
  refine X_loadL agg_3 h1.blk rfl ?_
  rw [X_gtr, condS_bool]
  by_cases hp : 0 < d.fuse
  · rw [if_pos (by simpa using hp)]
    refine X_loadL agg_3 h1.blk rfl ?_
    rw [X_sub]
    refine XU_store info_3 sz_3 rfl h1.blk (Nat.le_of_ble_eq_true rfl) (by show ¬ ((0 : Nat) ≤ 3 ∧ 3 < 0); omega) ?_
    obtain ⟨h2, s2⟩ := h1.put (cs' := (#[sv, pv, .bool d.dead, .int .i64 d.fuse, .int .i64 (IntKind.i64.wrap (d.done + 1))] : Array Value).setIfInBounds (0 + 3) (.int .i64 (IntKind.i64.wrap (d.fuse - 1)))) { d with done := IntKind.i64.wrap (d.done + 1), fuse := IntKind.i64.wrap (d.fuse - 1) } rfl rfl rfl
    refine hJ _ _ ⟨?_, s1.trans s2⟩
    have e : d.tick = { d with done := IntKind.i64.wrap (d.done + 1), fuse := IntKind.i64.wrap (d.fuse - 1) } := by
      unfold Dk.tick
      rw [if_pos hp, w64 (x := d.fuse - 1) (by omega) (by omega)]
    rw [e]; exact h2
  · rw [if_neg (by simpa using hp)]
    refine hJ _ _ ⟨?_, s1⟩
    have e : d.tick = { d with done := IntKind.i64.wrap (d.done + 1) } := by
      unfold Dk.tick
      rw [if_neg hp]
    rw [e]; exact h1
end
end Go.Proofs.Ytggggfcgnkllgaa
end
section
/- cellaragelaw08's reference disk: what its acts compute. -/
set_option linter.unusedSimpArgs false
set_option linter.unusedVariables false
namespace Go.Proofs.Ytggggfcgnkllgaa
open Go Go.Sh Go.RowKit
attribute [local irreducible] X XU XP XR CALL loopS resC closS

theorem putAll_none {l : List (List UInt8)} {c : List (Nat × List UInt8)} {k : Nat} (h : ∀ p ∈ c, p.1 ≠ k) : (putAll l c)[k]? = l[k]? := by
  induction c generalizing l with
  | nil => rfl
  | cons p c ih =>
    show (putAll (l.set p.1 p.2) c)[k]? = _
    rw [ih (fun q hq => h q (by simp [hq])), List.getElem?_set_ne (h p (by simp))]
theorem putAll_last {l : List (List UInt8)} {ws : List (Nat × List UInt8)} {i k : Nat} (hi : i < ws.length) (hk : ws[i].1 = k) (hl : k < l.length) (h : ∀ j (hj : j < ws.length), i < j → ws[j].1 ≠ k) : (putAll l ws)[k]? = some ws[i].2 := by
  have e : ws = ws.take i ++ ws[i] :: ws.drop (i + 1) := by
    rw [← List.drop_eq_getElem_cons hi, List.take_append_drop]
  have e2 : putAll l ws = putAll ((putAll l (ws.take i)).set ws[i].1 ws[i].2) (ws.drop (i + 1)) := by
    have h0 : putAll l ws = putAll l (ws.take i ++ ws[i] :: ws.drop (i + 1)) := congrArg (putAll l) e
    rw [h0, putAll_append]
    rfl
  rw [e2, putAll_none, hk, List.getElem?_set_self (by rw [putAll_length]; exact hl)]
  intro p hp
  obtain ⟨j, hj, rfl⟩ := List.mem_iff_getElem.1 hp
  rw [List.getElem_drop]
  rw [List.length_drop] at hj
  exact h _ (by omega) (by omega)
theorem sz2 (i : Nat) : i * 2 + 1 = i * 2 + 1 := rfl
theorem run_build_200 (n : Int) (s : ByteArray) (w : World) : (Instr.build 200 #[(0, .int .i64 n), (1, .string s)]).run Try.prog w = .ok (.agg #[.int .i64 n, .string s]) w := by kernel_rfl
theorem run_build_148 (a : Option Addr) (n c : Nat) (w : World) : (Instr.build 148 #[(0, .slice a n c), (3, .int .i64 (-1))]).run Try.prog w = .ok (.agg #[.slice a n c, .slice none 0 0, .bool false, .int .i64 (-1), .int .i64 0]) w := by kernel_rfl
section
variable {w : World} {b : Nat} {d : Dk} {K : Value → World → Prop}
theorem RWrite_spec {at_ : Int} {bs : List UInt8} (h : RefAt w b d) (hw : d.ws.length ≤ 1000000)
    (hK : ∀ w1, RefAt w1 b (d.write at_ bs).1 → Step b w w1 → K (i64v (d.write at_ bs).2) w1) : CALL Try.prog 109 #[ptr b, i64v at_, .string (str bs)] w K := by
  have hd0 := h
  obtain ⟨ok, sv, pv, h⟩ := h
  obtain ⟨an, cn, en⟩ := own_sl h.safe
  apply call_ref08_Disk_Write
  unfold B_ref08_Disk_Write
  simp only [X_lss, gstep_bool]
  have bad : at_ < 0 ∨ (d.safe.length : Int) ≤ at_ ∨ 128 < bs.length → K (i64v 1) w := by
    intro hbad
    have e : d.write at_ bs = (d, 1) := by unfold Dk.write; rw [if_pos hbad]
    have := hK w (by rw [e]; exact hd0) Step.refl
    rw [e] at this
    exact this
  by_cases hneg : at_ < 0
  · have e1 : decide (at_ < 0) = true := by simpa using hneg
    simp only [e1, Bool.true_eq_false, if_false, X_pick, if_true, gstep_bool, condS_bool]
    exact bad (.inl hneg)
  have e1 : decide (at_ < 0) = false := by simpa using hneg
  simp only [e1, if_true, X_nilS, X_field_148_0]
  refine X_loadL agg_66 h.blk rfl ?_
  rw [en]
  simp only [X_len_66, X_geq, X_pick, gstep_bool, Bool.false_eq_true, if_false]
  by_cases hge : (d.safe.length : Int) ≤ at_
  · have e2 : decide (at_ ≥ (d.safe.length : Int)) = true := by simpa using hge
    simp only [e2, Bool.true_eq_false, if_false, X_pick, if_true, gstep_bool, condS_bool]
    exact bad (.inr (.inl hge))
  have e2 : decide (at_ ≥ (d.safe.length : Int)) = false := by simpa using hge
  simp only [e2, if_true, X_len_9, str_size, X_gtr, X_pick, Bool.false_eq_true, if_false, condS_bool]
  by_cases hlen : 128 < bs.length
  · rw [if_pos (by simp; omega)]
    exact bad (.inr (.inr hlen))
  rw [if_neg (by simp; omega)]
  have hgood : ¬ (at_ < 0 ∨ (d.safe.length : Int) ≤ at_ ∨ 128 < bs.length) := by omega
  obtain ⟨i, rfl⟩ : ∃ i : Nat, at_ = (i : Int) := ⟨at_.toNat, by omega⟩
  have hi : i < d.safe.length := by omega
  refine off_spec h (fun w1 h1 s1 => ?_)
  rw [condS_bool]
  by_cases hd : d.trip.dead = true
  · rw [if_pos hd]
    have e : d.write (i : Int) bs = (d.trip, 6) := by unfold Dk.write; rw [if_neg hgood, if_pos hd]
    have := hK w1 (by rw [e]; exact ⟨Dk.trip_ok ok, sv, pv, h1⟩) s1
    rw [e] at this
    exact this
  rw [if_neg hd]
  have ew : d.write (i : Int) bs = ({ d.trip.tick with ws := d.ws ++ [(i, padB bs)] }, 0) := by unfold Dk.write; rw [if_neg hgood, if_neg hd]; simp
  refine ⟨Ext, Ext.frame, ?_⟩
  have h1d := h1.ext (Keep.drew (fun _ => False) w1)
  try simp only [XP_nilS, XP_field_148_1]
  refine XR_ok Ext.frame (fun w' k => run_loadAt agg_146 (blk_get (k.get h1d.blk) (v := pv) rfl)) ?_
  refine pad_spec (by omega) ?_
  intro w2 hx2
  refine ⟨hx2, ?_⟩
  refine XP_of (fun w => run_build_200 _ _ w) ?_
  have hwl : (pcs (i, padB bs)).length = 2 := rfl
  refine X_buildSliceAgg (l := pcs (i, padB bs)) Try.underlying146 el_200 (by decide) (by decide) hwl ?_
  have hx3 := newB_ext w2 (pcs (i, padB bs)).toArray 200
  have hg3 := newB_get w2 (pcs (i, padB bs)).toArray 200
  refine ⟨hx3, ?_⟩
  generalize newB w2 (pcs (i, padB bs)).toArray 200 = w3 at hx3 hg3 ⊢
  have h3 := (h1d.ext hx2).ext hx3
  have et : d.trip.ws = d.ws := Dk.trip_ws d
  refine X_appendW (base := 0) Try.underlying146 el_200 (by decide) h3.ws (news := pcs (i, padB bs)) (by rw [hwl]) ?_ (pcs_one _) (by rw [et]; omega) (by decide) (Nat.zero_le _) ?_
  · intro j u hj
    rw [add_plain, Nat.zero_add, cell_blk hg3]
    simpa using hj
  intro v' w4 ho4 hk4 hn4
  try simp only [XP_nilS, XP_field_148_1]
  obtain ⟨hb4, h5, s5⟩ := h3.append (i, padB bs) hk4 ho4 hn4
  refine XU_store info_146 sz_146 (by obtain ⟨_, _, e⟩ := own_sl ho4; rw [e]; rfl) hb4 (Nat.le_of_ble_eq_true rfl) (by show ¬ ((0 : Nat) ≤ 0 + 1 ∧ 0 + 1 < 0); omega) ?_
  show CALL _ _ _ (setAt w4 b #[sv, v', .bool d.trip.dead, .int .i64 d.trip.fuse, .int .i64 d.trip.done] 148 (0, 0)) _
  generalize setAt w4 b #[sv, v', .bool d.trip.dead, .int .i64 d.trip.fuse, .int .i64 d.trip.done] 148 (0, 0) = w5 at h5 s5 ⊢
  have okt := Dk.trip_ok ok
  refine done_spec (by exact okt.2.2.2.2) h5 ?_
  intro w6 h6 s6
  have hs : Step b w w6 := s1.trans ((Step.ext (Keep.drew _ _) (lt_of_blk h1.blk)).trans ((Step.ext hx2 (lt_of_blk h1d.blk)).trans ((Step.ext hx3 (lt_of_blk (h1d.ext hx2).blk)).trans (s5.trans s6))))
  have er : (d.write (i : Int) bs).1 = ({ d.trip with ws := d.trip.ws ++ [(i, padB bs)] } : Dk).tick := by
    rw [ew, et]; rfl
  have := hK w6 ⟨Dk.write_ok ok _ _, sv, v', by rw [er]; exact h6⟩ hs
  rw [ew] at this
  exact this
theorem RFlush_spec (h : RefAt w b d) (hw : d.ws.length ≤ 1000000) (hK : ∀ w1, RefAt w1 b d.flush.1 → Step b w w1 → K (i64v d.flush.2) w1) : CALL Try.prog 110 #[ptr b] w K := by
  obtain ⟨ok, sv, pv, h⟩ := h
  apply call_ref08_Disk_Flush
  unfold B_ref08_Disk_Flush
  refine off_spec h (fun w1 h1 s1 => ?_)
  rw [condS_bool]
  by_cases hd : d.trip.dead = true
  · rw [if_pos hd]
    have e : d.flush = (d.trip, 6) := by unfold Dk.flush; rw [if_pos hd]
    have := hK w1 (by rw [e]; exact ⟨Dk.trip_ok ok, sv, pv, h1⟩) s1
    rw [e] at this
    exact this
  rw [if_neg hd]
  have ef : d.flush = ({ d.trip.tick with safe := d.now, ws := [] }, 0) := by unfold Dk.flush; rw [if_neg hd]
  have esf : d.trip.safe = d.safe := Dk.trip_safe d
  have ews : d.trip.ws = d.ws := Dk.trip_ws d
  refine loopE (fun ρ wr => ∃ i : Nat, i ≤ d.ws.length ∧ RAt wr b { d.trip with safe := putAll d.safe (d.ws.take i) } sv pv ∧ Step b w wr ∧ ρ 3 = .int .i64 (i : Nat) ∧ ρ 0 = ptr b)
    (fun ρ wr => match ρ 3 with | .int _ s => (d.ws.length - s).toNat | _ => 0)
    (fun ρ wr => RAt wr b { d.trip with safe := d.now } sv pv ∧ Step b w wr ∧ ρ 0 = ptr b) ?_ ?_ ?_
  · refine ⟨0, Nat.zero_le _, ?_, s1, rfl, rfl⟩
    have : ({ d.trip with safe := putAll d.safe (d.ws.take 0) } : Dk) = d.trip := by
      rw [List.take_zero]
      show ({ d.trip with safe := d.safe } : Dk) = _
      rw [← esf]
    rw [this]; exact h1
  · rintro J hJ ρ wr ⟨i, hi, hr, hs, h3, h0⟩
    obtain ⟨ap, cp, ep⟩ := own_sl hr.ws
    have ewl : ({ d.trip with safe := putAll d.safe (d.ws.take i) } : Dk).ws.length = d.ws.length := by show d.trip.ws.length = _; rw [ews]
    rw [ewl] at ep
    rw [h3, h0]
    try simp only [X_nilS, X_field_148_1]
    refine X_loadL agg_146 hr.blk rfl ?_
    rw [ep, X_len_146, X_lss, condS_bool, ← ep]
    by_cases hin : i = d.ws.length
    · rw [if_neg (by simp; omega)]
      refine hJ _ _ ⟨?_, hs, h0⟩
      rw [hin, List.take_length] at hr
      exact hr
    rw [if_pos (by simp; omega)]
    have hlt : i < d.ws.length := by omega
    have hltr : i < ({ d.trip with safe := putAll d.safe (d.ws.take i) } : Dk).ws.length := by rw [ewl]; exact hlt
    have hpi := (ok.2.1 _ (List.getElem_mem hlt)).1
    have hrd := hr.ext (Keep.drew (fun _ => False) wr)
    obtain ⟨g, cap, cur, hpv, hg, hc1, hc2, _, hixp⟩ := hrd.ws_at hltr
    have ewi : ({ d.trip with safe := putAll d.safe (d.ws.take i) } : Dk).ws[i]'hltr = d.ws[i] := by
      show d.trip.ws[i]'_ = _
      congr 1
    rw [ewi] at hc1 hc2
    have hlen : ({ d.trip with safe := putAll d.safe (d.ws.take i) } : Dk).safe.length = d.safe.length := putAll_length _ _
    have hsi : d.ws[i].1 < ({ d.trip with safe := putAll d.safe (d.ws.take i) } : Dk).safe.length := by rw [hlen]; exact hpi
    obtain ⟨g2, cap2, cur2, hsv, hg2, hfit, hold, hixs, hput⟩ := hrd.safe_at hsi
    obtain ⟨h8, s8⟩ := hput d.ws[i].2
    refine ⟨Ext, Ext.frame, ?_⟩
    try simp only [XP_nilS, XP_field_148_0, XP_field_148_1]
    refine XR_ok Ext.frame (fun w' k => run_loadAt agg_66 (blk_get (k.get hrd.blk) (v := sv) rfl)) ?_
    refine XR_ok Ext.frame (fun w' k => run_loadAt agg_146 (blk_get (k.get hrd.blk) (v := pv) rfl)) ?_
    refine XP_of hixp ?_
    try simp only [XP_field_200_0]
    refine XR_ok Ext.frame (fun w' k => run_loadAt agg_3 (blk_get (k.get hg) hc1)) ?_
    try simp only [XP_nilS, XP_field_148_1]
    refine XR_ok Ext.frame (fun w' k => run_loadAt agg_146 (blk_get (k.get hrd.blk) (v := pv) rfl)) ?_
    refine XP_of hixp ?_
    try simp only [XP_field_200_1]
    refine XR_ok Ext.frame (fun w' k => run_loadAt agg_9 (blk_get (k.get hg) hc2)) ?_
    refine XP_of hixs ?_
    refine XU_store info_9 sz_9 rfl hg2 hfit (by show ¬ ((0 : Nat) ≤ _ ∧ _ < 0); omega) ?_
    rw [X_add]
    show _ ∧ _
    refine ⟨⟨i + 1, by omega, ?_, hs.trans ((Step.ext (Keep.drew _ _) (lt_of_blk hr.blk)).trans s8), next64 (n := 1000000) (by decide) (by omega), h0⟩, ?_⟩
    · have e : putAll d.safe (d.ws.take (i + 1)) = (putAll d.safe (d.ws.take i)).set d.ws[i].1 d.ws[i].2 := by
        rw [List.take_succ_eq_append_getElem hlt, putAll_append]
        rfl
      rw [e]
      exact h8
    · show (_ - IntKind.i64.wrap _).toNat < _
      rw [w64 (by omega) (by omega)]
      first | omega | (show _ < (_ : Int).toNat; omega)
  · rintro ρ wr ⟨hr, hs, h0⟩
    rw [h0]
    try simp only [X_nilS, X_field_148_1]
    refine XU_store info_146 sz_146 rfl hr.blk (Nat.le_of_ble_eq_true rfl) (by show ¬ ((0 : Nat) ≤ 0 + 1 ∧ 0 + 1 < 0); omega) ?_
    obtain ⟨h2, s2⟩ := hr.clear
    show CALL _ _ _ (setAt wr b #[sv, .slice none 0 0, .bool d.trip.dead, .int .i64 d.trip.fuse, .int .i64 d.trip.done] 148 (0, 0)) _
    generalize setAt wr b #[sv, .slice none 0 0, .bool d.trip.dead, .int .i64 d.trip.fuse, .int .i64 d.trip.done] 148 (0, 0) = w2 at h2 s2 ⊢
    refine done_spec (by exact (Dk.trip_ok ok).2.2.2.2) h2 ?_
    intro w3 h3 s3
    have er : d.flush.1 = ({ d.trip with safe := d.now, ws := [] } : Dk).tick := by rw [ef]; rfl
    have := hK w3 ⟨Dk.flush_ok ok, sv, .slice none 0 0, by rw [er]; exact h3⟩ (hs.trans (s2.trans s3))
    rw [ef] at this
    exact this
theorem RCut_spec {n : Int} (hn : n ≤ 9223372036854775807) (h : RefAt w b d) (hK : ∀ w1, RefAt w1 b (d.cut n) → Step b w w1 → K (.tuple #[]) w1) : CALL Try.prog 111 #[ptr b, i64v n] w K := by
  obtain ⟨ok, sv, pv, h⟩ := h
  apply call_ref08_Disk_Cut
  unfold B_ref08_Disk_Cut
  try simp only [X_nilS, X_field_148_2, X_field_148_3]
  refine X_loadL agg_4 h.blk rfl ?_
  simp only [X_not, condS_bool]
  have ok' := Dk.cut_ok ok hn
  by_cases hd : d.dead = true
  · have e : (!d.dead) = false := by rw [hd]; rfl
    simp only [e, Bool.false_eq_true, if_false]
    refine hK w ⟨ok', sv, pv, ?_⟩ Step.refl
    unfold Dk.cut
    rw [if_pos hd]
    exact h
  · have e : (!d.dead) = true := by simpa using hd
    simp only [e, if_true, X_max]
    refine XU_store info_3 sz_3 rfl h.blk (Nat.le_of_ble_eq_true rfl) (by show ¬ ((0 : Nat) ≤ 3 ∧ 3 < 0); omega) ?_
    obtain ⟨h1, s1⟩ := h.put (cs' := (#[sv, pv, .bool d.dead, .int .i64 d.fuse, .int .i64 d.done] : Array Value).setIfInBounds (0 + 3) (.int .i64 (max n (-1)))) { d with fuse := max n (-1) } rfl rfl rfl
    refine hK _ ⟨ok', sv, pv, ?_⟩ s1
    have : d.cut n = { d with fuse := max n (-1) } := by
      unfold Dk.cut
      rw [if_neg hd]
    rw [this]; exact h1
theorem now_spec {k : Nat} (h : RefAt w b d) (hw : d.ws.length ≤ 1000000) (hk : k < d.safe.length) (hK : K (.string (str (d.now.getD k []))) w) : CALL Try.prog 144 #[ptr b, i64v (k : Int)] w K := by
  obtain ⟨ok, sv, pv, h⟩ := h
  obtain ⟨ap, cp, ep⟩ := own_sl h.ws
  apply call_ref08_Disk_now
  unfold B_ref08_Disk_now
  try simp only [X_nilS, X_field_148_1]
  refine X_loadL agg_146 h.blk rfl ?_
  rw [ep, X_len_146, X_sub, ← ep]
  rw [w64 (by omega) (by omega)]
  refine loopE (fun ρ wr => wr = w ∧ ∃ i : Nat, i ≤ d.ws.length ∧ (∀ j (hj : j < d.ws.length), i ≤ j → d.ws[j].1 ≠ k) ∧ ρ 5 = .int .i64 ((i : Int) - 1) ∧ ρ 0 = ptr b ∧ ρ 1 = .int .i64 (k : Int))
    (fun ρ wr => match ρ 5 with | .int _ s => (s + 1).toNat | _ => 0)
    (fun ρ wr => wr = w ∧ (∀ p ∈ d.ws, p.1 ≠ k) ∧ ρ 0 = ptr b ∧ ρ 1 = .int .i64 (k : Int)) ?_ ?_ ?_
  · exact ⟨rfl, d.ws.length, Nat.le_refl _, fun j hj hj' => absurd hj' (by omega), rfl, rfl, rfl⟩
  · rintro J hJ ρ wr ⟨rfl, i, hi, hno, h5, h0, h1⟩
    rw [h5, X_geq, condS_bool]
    by_cases hin : i = 0
    · rw [if_neg (by simp; omega)]
      refine hJ _ _ ⟨rfl, fun p hp => ?_, h0, h1⟩
      obtain ⟨j, hj, rfl⟩ := List.mem_iff_getElem.1 hp
      exact hno j hj (by omega)
    rw [if_pos (by simp; omega)]
    obtain ⟨m, rfl⟩ : ∃ m, i = m + 1 := ⟨i - 1, by omega⟩
    have em : ((m + 1 : Nat) : Int) - 1 = (m : Int) := by omega
    have hm : m < d.ws.length := by omega
    obtain ⟨g, cap, cur, hpv, hg, hc1, hc2, _, hixp⟩ := h.ws_at hm
    rw [em, h0, h1]
    try simp only [X_nilS, X_field_148_1]
    refine X_loadL agg_146 h.blk rfl ?_
    refine X_of (hixp _) ?_
    try simp only [X_field_200_0]
    refine X_loadB agg_3 hg hc1 ?_
    rw [X_eql, condS_bool]
    by_cases hmk : d.ws[m].1 = k
    · rw [if_pos (by simp [hmk])]
      try simp only [X_nilS, X_field_148_1]
      refine X_loadL agg_146 h.blk rfl ?_
      refine X_of (hixp _) ?_
      try simp only [X_field_200_1]
      refine X_loadB agg_9 hg hc2 ?_
      have e : d.now.getD k [] = d.ws[m].2 := by
        rw [List.getD_eq_getElem?_getD]
        show ((putAll d.safe d.ws)[k]?).getD [] = _
        rw [putAll_last hm hmk hk (fun j hj hmj => hno j hj (by omega))]
        rfl
      rw [e] at hK
      exact hK
    · rw [if_neg (by simp; omega)]
      rw [X_sub, w64 (by omega) (by omega)]
      show _ ∧ _
      refine ⟨⟨rfl, m, by omega, ?_, rfl, h0, h1⟩, ?_⟩
      · intro j hj hmj
        rcases Nat.eq_or_lt_of_le hmj with e | e
        · subst e; exact hmk
        · exact hno j hj (by omega)
      · show ((m : Int) - 1 + 1).toNat < _
        omega
  · rintro ρ wr ⟨rfl, hno, h0, h1⟩
    rw [h0, h1]
    try simp only [X_nilS, X_field_148_0]
    refine X_loadL agg_66 h.blk rfl ?_
    obtain ⟨g2, cap2, cur2, hsv, hg2, hfit, hold, hixs, hput⟩ := h.safe_at hk
    refine X_of (hixs _) ?_
    refine X_loadB agg_9 hg2 hold ?_
    have e : d.now.getD k [] = d.safe[k] := by
      rw [List.getD_eq_getElem?_getD]
      show ((putAll d.safe d.ws)[k]?).getD [] = _
      rw [putAll_none hno, List.getElem?_eq_getElem hk]
      rfl
    rw [e] at hK
    exact hK
theorem RRead_spec {at_ : Int} (h : RefAt w b d) (hw : d.ws.length ≤ 1000000) (hK : K (.tuple #[.string (str (d.read at_).1), i64v (d.read at_).2]) w) : CALL Try.prog 113 #[ptr b, i64v at_] w K := by
  have hd0 := h
  obtain ⟨ok, sv, pv, h⟩ := h
  obtain ⟨an, cn, en⟩ := own_sl h.safe
  apply call_ref08_Disk_Read
  unfold B_ref08_Disk_Read
  simp only [X_lss, gstep_bool]
  have bad : at_ < 0 ∨ (d.safe.length : Int) ≤ at_ → K (.tuple #[.string { data := #[] }, i64v 1]) w := by
    intro hbad
    have e : d.read at_ = ([], 1) := by unfold Dk.read; rw [if_pos hbad]
    rw [e] at hK
    exact hK
  by_cases hneg : at_ < 0
  · have e1 : decide (at_ < 0) = true := by simpa using hneg
    simp only [e1, Bool.true_eq_false, if_false, X_pick, if_true, gstep_bool, condS_bool]
    exact bad (.inl hneg)
  have e1 : decide (at_ < 0) = false := by simpa using hneg
  simp only [e1, if_true, X_nilS, X_field_148_0, X_field_148_2]
  refine X_loadL agg_66 h.blk rfl ?_
  rw [en]
  simp only [X_len_66, X_geq, X_pick, condS_bool, Bool.false_eq_true, if_false]
  by_cases hge : (d.safe.length : Int) ≤ at_
  · rw [if_pos (by simpa using hge)]
    exact bad (.inr hge)
  rw [if_neg (by simpa using hge)]
  have hgood : ¬ (at_ < 0 ∨ (d.safe.length : Int) ≤ at_) := by omega
  refine X_loadL agg_4 h.blk rfl ?_
  rw [condS_bool]
  by_cases hd : d.dead = true
  · rw [if_pos hd]
    have e : d.read at_ = ([], 6) := by unfold Dk.read; rw [if_neg hgood, if_pos hd]
    rw [e] at hK
    exact hK
  rw [if_neg hd]
  obtain ⟨i, rfl⟩ : ∃ i : Nat, at_ = (i : Int) := ⟨at_.toNat, by omega⟩
  refine now_spec hd0 hw (by omega) ?_
  have e : d.read (i : Int) = (d.now.getD i [], 0) := by unfold Dk.read; rw [if_neg hgood, if_neg hd]; rfl
  rw [e] at hK
  exact hK
end
end Go.Proofs.Ytggggfcgnkllgaa
end
section
/- cellaragelaw08's reference disk: crash, new. -/
set_option linter.unusedSimpArgs false
set_option linter.unusedVariables false
namespace Go.Proofs.Ytggggfcgnkllgaa
open Go Go.Sh Go.RowKit
attribute [local irreducible] X XU XP XR CALL loopS resC closS
section
variable {w : World} {b : Nat} {d : Dk} {K : Value → World → Prop}
theorem RCrash_spec {v : Value} {fates : List Int} (h : RefAt w b d) (hw : d.ws.length ≤ 1000000) (hf : Row fI w v fates) (hnf : 0 < fates.length → ∀ k, v.ownBlock = some k → ¬ foot w b k)
    (hK : ∀ w1, RefAt w1 b (d.crash fates) → Step b w w1 → K (.tuple #[]) w1) : CALL Try.prog 112 #[ptr b, v] w K := by
  obtain ⟨ok, sv, pv, h⟩ := h
  obtain ⟨af, cf, ef⟩ := hf.slice
  apply call_ref08_Disk_Crash
  unfold B_ref08_Disk_Crash
  refine loopE (fun ρ wr => ∃ i : Nat, i ≤ d.ws.length ∧ RAt wr b { d with safe := tears fates 0 d.safe (d.ws.take i) } sv pv ∧ Step b w wr ∧ ρ 4 = .int .i64 (i : Nat) ∧ ρ 0 = ptr b ∧ ρ 1 = v)
    (fun ρ wr => match ρ 4 with | .int _ s => (d.ws.length - s).toNat | _ => 0)
    (fun ρ wr => RAt wr b { d with safe := tears fates 0 d.safe d.ws } sv pv ∧ Step b w wr ∧ ρ 0 = ptr b) ?_ ?_ ?_
  · refine ⟨0, Nat.zero_le _, ?_, Step.refl, rfl, rfl, rfl⟩
    have : ({ d with safe := tears fates 0 d.safe (d.ws.take 0) } : Dk) = d := by rw [List.take_zero]; rfl
    rw [this]; exact h
  · rintro JE hJE ρ wr ⟨i, hi, hr, hs, h4, h0, h1⟩
    obtain ⟨ap, cp, ep⟩ := own_sl hr.ws
    have ewl : ({ d with safe := tears fates 0 d.safe (d.ws.take i) } : Dk).ws.length = d.ws.length := rfl
    rw [ewl] at ep
    rw [h4, h0]
    try simp only [X_nilS, X_field_148_1]
    refine X_loadL agg_146 hr.blk rfl ?_
    rw [ep, X_len_146, X_lss, condS_bool, ← ep]
    by_cases hin : i = d.ws.length
    · rw [if_neg (by simp; omega)]
      refine hJE _ _ ⟨?_, hs, h0⟩
      rw [hin, List.take_length] at hr
      exact hr
    rw [if_pos (by simp; omega)]
    have hlt : i < d.ws.length := by omega
    have hp := ok.2.1 _ (List.getElem_mem hlt)
    have hlen : ({ d with safe := tears fates 0 d.safe (d.ws.take i) } : Dk).safe.length = d.safe.length := tears_length _ _ _ _
    have hsi : d.ws[i].1 < ({ d with safe := tears fates 0 d.safe (d.ws.take i) } : Dk).safe.length := by rw [hlen]; exact hp.1
    have h128 : ∀ s ∈ tears fates 0 d.safe (d.ws.take i), s.length = 128 := tears_128 fates 0 ok.1 (fun p hp => ok.2.1 p (List.mem_of_mem_take hp))
    refine joinS_of (fun ρ' w' => RAt w' b { d with safe := tears fates 0 d.safe (d.ws.take i) } sv pv ∧ Step b w w' ∧ ρ' 4 = .int .i64 (i : Nat) ∧ ρ' 5 = .int .i64 (fateAt fates i : Nat) ∧ ρ' 0 = ptr b ∧ ρ' 1 = v) ?_ ?_
    · rintro ρ' w' ⟨hr', hs', g4, g5, g0, g1⟩
      rw [g4, g5, g0]
      try simp only [X_nilS, X_field_148_1]
      refine X_loadL agg_146 hr'.blk rfl ?_
      obtain ⟨g, cap, cur, hpv, hg, hc1, hc2, hc3, hixp⟩ := hr'.ws_at hlt
      refine X_of (hixp _) ?_
      refine X_of (run_loadAgg (l := pcs d.ws[i]) Try.underlying200 agg_200 info_200 hg (by rw [sz_200]; exact hc3) (by rw [sz_200]; rfl)) ?_
      refine X_alloc zero_200 ?_
      have hq := newB_get w' #[(.int .i64 0), (.string { data := #[] })] 200
      have hxq := newB_ext w' #[(.int .i64 0), (.string { data := #[] })] 200
      show XU _ _ (newB w' #[(.int .i64 0), (.string { data := #[] })] 200) _
      generalize newB w' #[(.int .i64 0), (.string { data := #[] })] 200 = w2 at hq hxq ⊢
      refine XU_storeAgg (l := pcs d.ws[i]) info_200 hq (by rw [sz_200]; rfl) (by rw [sz_200]; rfl) (pcs_one _) ?_
      have hq2 := setAt_same (cs := (pcs d.ws[i]).toArray) (T := 200) (fr := (0, 0)) (lt_of_blk hq)
      have hx2 : Ext w' (setAt w2 w'.heap.size (pcs d.ws[i]).toArray 200 (0, 0)) := Ext.seq hxq (setAt_keep _ _ _ _ _) (fun j hj => by omega)
      generalize setAt w2 w'.heap.size (pcs d.ws[i]).toArray 200 (0, 0) = w3 at hq2 hx2 ⊢
      refine ⟨Ext, Ext.frame, ?_⟩
      have hxd : Ext w' (drewW w3) := hx2.trans (Keep.drew _ _)
      have hrd := hr'.ext hxd
      have hqd : (drewW w3).heap[w'.heap.size]? = some (.cells (pcs d.ws[i]).toArray 200 (0, 0)) := hq2
      obtain ⟨g2, cap2, cur2, hsv, hg2, hfit, hold, hixs, hput⟩ := hrd.safe_at hsi
      have hn := fateAt_le fates i
      have hl1 : (({ d with safe := tears fates 0 d.safe (d.ws.take i) } : Dk).safe[d.ws[i].1]'hsi).length = 128 := h128 _ (List.getElem_mem hsi)
      obtain ⟨h8, s8⟩ := hput (d.ws[i].2.take (fateAt fates i) ++ (({ d with safe := tears fates 0 d.safe (d.ws.take i) } : Dk).safe[d.ws[i].1]'hsi).drop (fateAt fates i))
      try simp only [XP_nilS, XP_field_148_0, XP_field_148_1, XP_field_200_0, XP_field_200_1, Nat.zero_add]
      refine XR_ok Ext.frame (fun w' k => run_loadAt agg_66 (blk_get (k.get hrd.blk) (v := sv) rfl)) ?_
      refine XR_ok Ext.frame (fun w' k => run_loadAt agg_3 (blk_get (k.get hqd) (v := .int .i64 (d.ws[i].1 : Int)) rfl)) ?_
      refine XR_ok Ext.frame (fun w' k => run_loadAt agg_9 (blk_get (k.get hqd) (v := .string (str d.ws[i].2)) rfl)) ?_
      refine XP_of (fun w => run_cutstr_hi Try.underlying9 _ .i64 _ (by omega) w) ?_
      try simp only [XP_nilS, XP_field_148_0]
      refine XR_ok Ext.frame (fun w' k => run_loadAt agg_66 (blk_get (k.get hrd.blk) (v := sv) rfl)) ?_
      refine XR_ok Ext.frame (fun w' k => run_loadAt agg_3 (blk_get (k.get hqd) (v := .int .i64 (d.ws[i].1 : Int)) rfl)) ?_
      refine XP_of hixs ?_
      refine XR_ok Ext.frame (fun w' k => run_loadAt agg_9 (blk_get (k.get hg2) hold)) ?_
      refine XP_of (fun w => run_cutstr_lo Try.underlying9 _ .i64 _ (by omega) w) ?_
      refine XP_of (fun w => run_string_add 9 _ _ (by rw [str_size, str_size, List.length_take, List.length_drop]; omega) w) ?_
      rw [str_append]
      refine XP_of hixs ?_
      refine XU_store info_9 sz_9 rfl hg2 hfit (by show ¬ ((0 : Nat) ≤ _ ∧ _ < 0); omega) ?_
      rw [X_add]
      show _ ∧ _
      refine ⟨⟨i + 1, by omega, ?_, hs'.trans ((Step.ext hxd (lt_of_blk hr'.blk)).trans s8), next64 (n := 1000000) (by decide) (by omega), g0, g1⟩, ?_⟩
      · have e : tears fates 0 d.safe (d.ws.take (i + 1)) = (tears fates 0 d.safe (d.ws.take i)).set d.ws[i].1 (d.ws[i].2.take (fateAt fates i) ++ ((tears fates 0 d.safe (d.ws.take i))[d.ws[i].1]'hsi).drop (fateAt fates i)) := by
          rw [tears_succ fates hlt]
          unfold tearAt
          rw [List.getD_eq_getElem?_getD, List.getElem?_eq_getElem hsi]
          rfl
        rw [e]
        exact h8
      · show (_ - IntKind.i64.wrap _).toNat < _
        rw [w64 (by omega) (by omega)]
        first | omega | (show _ < (_ : Int).toNat; omega)
    intro J hJ
    have hff : Row fI wr v fates := row_keep hf hs.keep hnf
    rw [h1, ef]
    simp only [X_len_79, X_lss, condS_bool]
    rw [← ef]
    by_cases hfi : i < fates.length
    · rw [if_pos (by simp; omega)]
      obtain ⟨a, hix, hcell⟩ := hff.at Try.underlying79 info_3 sz_3 (k := .i64) i rfl hfi
      refine X_of (hix _) ?_
      refine X_load agg_3 hcell ?_
      simp only [X_min, X_max]
      have en : max 0 (min fates[i] 128) = (fateAt fates i : Int) := by
        unfold fateAt
        rw [List.getElem?_eq_getElem hfi]
        show _ = (((max 0 (min fates[i] 128)).toNat : Nat) : Int)
        omega
      rw [en]
      exact hJ _ _ ⟨hr, hs, h4, rfl, h0, h1⟩
    · rw [if_neg (by simp; omega)]
      have ef0 : fateAt fates i = 0 := by unfold fateAt; rw [List.getElem?_eq_none (by omega)]
      refine hJ _ _ ⟨hr, hs, h4, ?_, h0, h1⟩
      rw [ef0]; rfl
  · rintro ρ wr ⟨hr, hs, h0⟩
    rw [h0]
    try simp only [X_nilS, X_field_148_1, X_field_148_2, X_field_148_3]
    refine XU_store info_146 sz_146 rfl hr.blk (Nat.le_of_ble_eq_true rfl) (by show ¬ ((0 : Nat) ≤ 0 + 1 ∧ 0 + 1 < 0); omega) ?_
    obtain ⟨h2, s2⟩ := hr.clear
    show XU _ _ (setAt wr b #[sv, .slice none 0 0, .bool d.dead, .int .i64 d.fuse, .int .i64 d.done] 148 (0, 0)) _
    generalize setAt wr b #[sv, .slice none 0 0, .bool d.dead, .int .i64 d.fuse, .int .i64 d.done] 148 (0, 0) = w2 at h2 s2 ⊢
    refine XU_store info_4 sz_4 rfl h2.blk (Nat.le_of_ble_eq_true rfl) (by show ¬ ((0 : Nat) ≤ 0 + 2 ∧ 0 + 2 < 0); omega) ?_
    obtain ⟨h3, s3⟩ := h2.put (cs' := (#[sv, .slice none 0 0, .bool d.dead, .int .i64 d.fuse, .int .i64 d.done] : Array Value).setIfInBounds (0 + 2) (.bool false)) ⟨tears fates 0 d.safe d.ws, [], false, d.fuse, d.done⟩ rfl rfl rfl
    generalize setAt w2 b _ 148 (0, 0) = w3 at h3 s3 ⊢
    refine XU_store info_3 sz_3 rfl h3.blk (Nat.le_of_ble_eq_true rfl) (by show ¬ ((0 : Nat) ≤ 0 + 3 ∧ 0 + 3 < 0); omega) ?_
    obtain ⟨h4, s4⟩ := h3.put (cs' := (#[sv, .slice none 0 0, .bool false, .int .i64 d.fuse, .int .i64 d.done] : Array Value).setIfInBounds (0 + 3) (.int .i64 (-1))) ⟨tears fates 0 d.safe d.ws, [], false, -1, d.done⟩ rfl rfl rfl
    exact hK _ ⟨Dk.crash_ok ok fates, sv, _, h4⟩ (hs.trans (s2.trans (s3.trans s4)))
theorem RNew_disk {n : Int} (hbad : n < 0 ∨ 16384 < n → K (.tuple #[.pointer none, i64v 1]) w)
    (hgood : ∀ m : Nat, n = m → m ≤ 16384 → ∀ b w1, Ext w w1 → (∀ k, foot w1 b k → w.heap.size ≤ k) → RefAt w1 b (Dk.new m) → K (.tuple #[ptr b, i64v 0]) w1) : CALL Try.prog 80 #[i64v n] w K := by
  apply call_ref08_New
  unfold B_ref08_New
  simp only [X_lss, gstep_bool, X_gtr, X_pick, condS_bool]
  by_cases hneg : n < 0
  · have e1 : decide (n < 0) = true := by simpa using hneg
    simp only [e1, Bool.true_eq_false, if_false, X_pick, if_true, gstep_bool, condS_bool]
    exact hbad (.inl hneg)
  have e1 : decide (n < 0) = false := by simpa using hneg
  simp only [e1, if_true, X_gtr, X_pick, Bool.false_eq_true, if_false, condS_bool]
  by_cases hbig : 16384 < n
  · rw [if_pos (by simpa using hbig)]
    exact hbad (.inr hbig)
  rw [if_neg (by simpa using hbig)]
  obtain ⟨m, rfl⟩ : ∃ m : Nat, n = (m : Int) := ⟨n.toNat, by omega⟩
  have hm : m ≤ 16384 := by omega
  refine X_make Try.underlying66 el_9 m m rfl rfl (Nat.le_refl _) (by omega) (by omega) ?_
  have hcells : madeCells (Value.string { data := #[] }).cells (m * 1) = (strs (List.replicate m [])).toArray := by
    apply Array.ext'
    have : (madeCells (Value.string { data := #[] }).cells m).toList = List.replicate m (.string { data := #[] }) := made_one _ _
    rw [Nat.mul_one, this]
    simp [strs, str]
  rw [hcells]
  have hg1 := newB_get w (strs (List.replicate m [])).toArray 9
  have hx1 := newB_ext w (strs (List.replicate m [])).toArray 9
  have hs1 := newB_size w (strs (List.replicate m [])).toArray 9
  generalize newB w (strs (List.replicate m [])).toArray 9 = w1 at hg1 hx1 hs1 ⊢
  refine X_of (run_build_148 _ _ _ _) ?_
  refine X_box ?_
  have hb := newB_get w1 (Value.agg #[.slice (some ⟨w.heap.size, 0, none⟩) m m, .slice none 0 0, .bool false, .int .i64 (-1), .int .i64 0]).cells 148
  have hxb := newB_ext w1 (Value.agg #[.slice (some ⟨w.heap.size, 0, none⟩) m m, .slice none 0 0, .bool false, .int .i64 (-1), .int .i64 0]).cells 148
  have hsb := newB_size w1 (Value.agg #[.slice (some ⟨w.heap.size, 0, none⟩) m m, .slice none 0 0, .bool false, .int .i64 (-1), .int .i64 0]).cells 148
  have hown : ∀ (w' : World) (l : List (List UInt8)), l.length = m → w'.heap[w.heap.size]? = some (.cells (strs l).toArray 9 (0, 0)) → w'.ownsRow 0 9 1 (.slice (some ⟨w.heap.size, 0, none⟩) m m) m (strs l) := fun w' l hl hh =>
    ⟨by simp [strs, hl], .inr ⟨w.heap.size, m, _, rfl, Nat.zero_le _, hh, Nat.le_refl _, by simp only [maxLen]; omega, by simp [strs, hl], List.take_of_length_le (by simp [strs, hl])⟩⟩
  have hg2 := hxb.get hg1
  generalize newB w1 (Value.agg #[.slice (some ⟨w.heap.size, 0, none⟩) m m, .slice none 0 0, .bool false, .int .i64 (-1), .int .i64 0]).cells 148 = w2 at hb hxb hg2 hsb ⊢
  have hx2 := hx1.trans hxb
  have h0 : RAt w2 w1.heap.size ⟨List.replicate m [], [], false, -1, 0⟩ (.slice (some ⟨w.heap.size, 0, none⟩) m m) (.slice none 0 0) := by
    refine ⟨hb, ?_, ⟨rfl, .inl ⟨rfl, rfl⟩⟩⟩
    show World.ownsRow _ 0 9 1 _ (List.replicate m ([] : List UInt8)).length (strs (List.replicate m []))
    rw [List.length_replicate]
    exact hown _ _ (by simp) hg2
  generalize hbe : w1.heap.size = b at h0 ⊢
  have low0 : ∀ (w' : World) (d : Dk), RAt w' b d (.slice (some ⟨w.heap.size, 0, none⟩) m m) (.slice none 0 0) → ∀ k, foot w' b k → w.heap.size ≤ k := fun w' d h k hk => by
    rcases h.foot.1 hk with h' | h' | h'
    · omega
    · have : w.heap.size = k := by simpa [Value.ownBlock] using h'
      omega
    · cases h'
  refine loopE (fun ρ wr => ∃ i : Nat, i ≤ m ∧ RAt wr b ⟨List.replicate i (List.replicate 128 0) ++ List.replicate (m - i) [], [], false, -1, 0⟩ (.slice (some ⟨w.heap.size, 0, none⟩) m m) (.slice none 0 0) ∧ Ext w wr ∧ ρ 5 = .int .i64 (i : Nat) ∧ ρ 4 = ptr b ∧ ρ 0 = .int .i64 (m : Int))
    (fun ρ wr => match ρ 5 with | .int _ s => (m - s).toNat | _ => 0)
    (fun ρ wr => RAt wr b (Dk.new m) (.slice (some ⟨w.heap.size, 0, none⟩) m m) (.slice none 0 0) ∧ Ext w wr ∧ ρ 4 = ptr b) ?_ ?_ ?_
  · exact ⟨0, Nat.zero_le _, by simpa using h0, hx2, rfl, rfl, rfl⟩
  · rintro J hJ ρ wr ⟨i, hi, hr, hxr, h5, h4, h0'⟩
    rw [h5, h4, h0', X_lss, condS_bool]
    by_cases hin : i = m
    · rw [if_neg (by simp; omega)]
      refine hJ _ _ ⟨?_, hxr, h4⟩
      subst hin
      rw [Nat.sub_self, List.replicate_zero, List.append_nil] at hr
      exact hr
    rw [if_pos (by simp; omega)]
    refine ⟨Ext, Ext.frame, ?_⟩
    have hrd := hr.ext (Keep.drew (fun _ => False) wr)
    try simp only [XP_nilS, XP_field_148_0]
    refine XR_ok Ext.frame (fun w' k => run_loadAt agg_66 (blk_get (k.get hrd.blk) (v := .slice (some ⟨w.heap.size, 0, none⟩) m m) rfl)) ?_
    refine pad_spec (l := []) (by decide) ?_
    intro w3 hx3
    refine ⟨hx3, ?_⟩
    have hr3 := hrd.ext hx3
    have hsi : i < (⟨List.replicate i (List.replicate 128 0) ++ List.replicate (m - i) [], [], false, -1, 0⟩ : Dk).safe.length := by simp; omega
    obtain ⟨g2, cap2, cur2, hsv, hg2, hfit, hold, hixs, hput⟩ := hr3.safe_at hsi
    have hg2e : w.heap.size = g2 := by
      injection hsv with e1 _ _
      injection e1 with e1
      injection e1
    subst hg2e
    refine XP_of hixs ?_
    refine XU_store info_9 sz_9 rfl hg2 hfit (by show ¬ ((0 : Nat) ≤ _ ∧ _ < 0); omega) ?_
    obtain ⟨h8, s8⟩ := hput (padB [])
    rw [X_add]
    show _ ∧ _
    have hx03 : Ext w w3 := (hxr.trans (Keep.drew _ _)).trans hx3
    refine ⟨⟨i + 1, by omega, ?_, s8.out hx03 (low0 _ _ hr3), next64 (n := 16384) (by decide) (by omega), h4, h0'⟩, ?_⟩
    · have e : (List.replicate i (List.replicate 128 (0 : UInt8)) ++ List.replicate (m - i) []).set i (padB []) = List.replicate (i + 1) (List.replicate 128 0) ++ List.replicate (m - (i + 1)) [] := by
        rw [show m - i = (m - (i + 1)) + 1 by omega, List.replicate_succ (n := m - (i + 1)), List.set_append_right _ _ (by simp), List.length_replicate, Nat.sub_self, List.set_cons_zero, List.replicate_succ' (n := i)]
        simp [padB]
      rw [← e]
      exact h8
    · show (_ - IntKind.i64.wrap _).toNat < _
      rw [w64 (by omega) (by omega)]
      first | omega | (show _ < (_ : Int).toNat; omega)
  · rintro ρ wr ⟨hr, hxr, h4⟩
    rw [h4]
    exact hgood m rfl hm b wr hxr (low0 _ _ hr) ⟨Dk.new_ok hm, _, _, hr⟩
end
end Go.Proofs.Ytggggfcgnkllgaa
end
