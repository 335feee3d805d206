import Derived.Test.YtggggfcgnkllgaaTy
import Derived.Test.YtggggfcgnkllgaaShSound
set_option linter.unusedVariables false
namespace Go.Proofs.Ytggggfcgnkllgaa
open Go Go.Sh
attribute [local irreducible] X XU XP XR CALL loopS resC closS
/-- cellarage/cellaragelaw01.shown -/
def B_law01_shown (w : World) (K : Value → World → Prop) : Prop :=
  CALL Try.prog 67 #[(.slice none 0 0), (.string { data := #[97, 98] })] w fun v1_6 w1 =>
  CALL Try.prog 58 #[v1_6] w1 fun v2_8 w2 =>
  X Try.prog (Instr.buildSlice 27 1 #[(0, (.int .u8 7))]) w2 fun v3_9 w3 =>
  CALL Try.prog 58 #[v3_9] w3 fun v4_10 w4 =>
  X Try.prog (binOpG .eql 54 (.tmp 11) (.const (.pointer none)) v2_8 (.pointer none)) w4 fun v5_12 w5 =>
  gstep v5_12 false (fun w6 K => K v4_10 w6) w5 fun v6_14 w7 =>
  gstep v5_12 false (fun w8 K => X Try.prog (binOpG .eql 54 (.tmp 14) (.const (.pointer none)) v6_14 (.pointer none)) w8 K) w7 fun v7_15 w9 =>
  X Try.prog (pickS v5_12 (.bool true) v7_15) w9 fun v8_16 w10 =>
  condS v8_16 (
  K (.bool false) w10) (
  CALL Try.prog 59 #[v2_8, (.int .i64 1)] w10 fun v9_18 w11 =>
  CALL Try.prog 61 #[v4_10, (.int .i64 2)] w11 fun v10_20 w12 =>
  CALL Try.prog 46 #[(.slice none 0 0), (.int .u64 258), (.int .i64 3)] w12 fun v11_21 w13 =>
  X Try.prog (convert 27 9 v11_21) w13 fun v12_22 w14 =>
  X Try.prog (binOpG .eql 9 (.tmp 22) (.const (.string { data := #[0, 1, 2] })) v12_22 (.string { data := #[0, 1, 2] })) w14 fun v13_23 w15 =>
  gstep v13_23 true (fun w16 K => K v1_6 w16) w15 fun v14_25 w17 =>
  gstep v13_23 true (fun w18 K => X Try.prog (convert 27 9 v14_25) w18 K) w17 fun v15_26 w19 =>
  gstep v13_23 true (fun w20 K => X Try.prog (binOpG .eql 9 (.tmp 26) (.const (.string { data := #[0, 0, 0, 2, 97, 98] })) v15_26 (.string { data := #[0, 0, 0, 2, 97, 98] })) w20 K) w19 fun v16_27 w21 =>
  X Try.prog (pickS v13_23 v16_27 (.bool false)) w21 fun v17_28 w22 =>
  gstep v17_28 true (fun w23 K => K v9_18 w23) w22 fun v18_30 w24 =>
  gstep v17_28 true (fun w25 K => X Try.prog (binOpG .eql 9 (.tmp 30) (.const (.string { data := #[] })) v18_30 (.string { data := #[] })) w25 K) w24 fun v19_31 w26 =>
  X Try.prog (pickS v17_28 v19_31 (.bool false)) w26 fun v20_32 w27 =>
  gstep v20_32 true (fun w28 K => K v2_8 w28) w27 fun v21_34 w29 =>
  gstep v20_32 true (fun w30 K => CALL Try.prog 64 #[v21_34] w30 K) w29 fun v22_35 w31 =>
  gstep v20_32 true (fun w32 K => X Try.prog (binOpG .eql 30 (.tmp 35) (.const (.int .i64 4)) v22_35 (.int .i64 4)) w32 K) w31 fun v23_36 w33 =>
  X Try.prog (pickS v20_32 v23_36 (.bool false)) w33 fun v24_37 w34 =>
  gstep v24_37 true (fun w35 K => K v2_8 w35) w34 fun v25_39 w36 =>
  gstep v24_37 true (fun w37 K => CALL Try.prog 63 #[v25_39] w37 K) w36 fun v26_40 w38 =>
  gstep v24_37 true (fun w39 K => X Try.prog (binOpG .eql 3 (.tmp 40) (.const (.int .i64 6)) v26_40 (.int .i64 6)) w39 K) w38 fun v27_41 w40 =>
  X Try.prog (pickS v24_37 v27_41 (.bool false)) w40 fun v28_42 w41 =>
  gstep v28_42 true (fun w42 K => K v10_20 w42) w41 fun v29_44 w43 =>
  gstep v28_42 true (fun w44 K => X Try.prog (binOpG .eql 22 (.tmp 44) (.const (.int .u64 0)) v29_44 (.int .u64 0)) w44 K) w43 fun v30_45 w45 =>
  X Try.prog (pickS v28_42 v30_45 (.bool false)) w45 fun v31_46 w46 =>
  gstep v31_46 true (fun w47 K => K v4_10 w47) w46 fun v32_48 w48 =>
  gstep v31_46 true (fun w49 K => CALL Try.prog 64 #[v32_48] w49 K) w48 fun v33_49 w50 =>
  gstep v31_46 true (fun w51 K => X Try.prog (binOpG .eql 30 (.tmp 49) (.const (.int .i64 10)) v33_49 (.int .i64 10)) w51 K) w50 fun v34_50 w52 =>
  X Try.prog (pickS v31_46 v34_50 (.bool false)) w52 fun v35_51 w53 =>
  K v35_51 w53)

theorem eq_law01_shown (w : World) (K : Value → World → Prop) :
    sh Try.prog (Try.f47.body.getD .skip) (retS Try.prog Try.f47.results K) (env0 #[]) w = B_law01_shown  w K := by kernel_rfl

theorem call_law01_shown (w : World) (K : Value → World → Prop) (h : B_law01_shown  w K) : CALL Try.prog 47 #[] w K :=
  call_of_eq (c := Try.f47.body.getD .skip) mixed Try.func47 (by kernel_rfl) (by kernel_rfl) (by kernel_rfl) (Nat.le_of_ble_eq_true (by kernel_rfl)) (eq_law01_shown  w K) h

/-- cellarage/cellaragelaw02.CrcSums -/
def B_law02_CrcSums (x0 x1 : Value) (w : World) (K : Value → World → Prop) : Prop :=
  CALL Try.prog 50 #[] w fun v1_6 w1 =>
  X Try.prog (Builtin.len_ #[27] 3 #[x1]) w1 fun v2_8 w2 =>
  X Try.prog (binOp .gtr 3 v2_8 (.int .i64 100000)) w2 fun v3_9 w3 =>
  condS v3_9 (
  K v1_6 w3) (
  gstep v1_6 true (fun w4 K => K x1 w4) w3 fun v4_13 w5 =>
  gstep v1_6 true (fun w6 K => CALL Try.prog 51 #[v4_13] w6 K) w5 fun v5_14 w7 =>
  gstep v1_6 true (fun w8 K => K x1 w8) w7 fun v6_15 w9 =>
  gstep v1_6 true (fun w10 K => CALL Try.prog 52 #[(.int .u32 0), v6_15] w10 K) w9 fun v7_16 w11 =>
  gstep v1_6 true (fun w12 K => X Try.prog (binOpG .eql 23 (.tmp 14) (.tmp 16) v5_14 v7_16) w12 K) w11 fun v8_17 w13 =>
  X Try.prog (pickS v1_6 v8_17 (.bool false)) w13 fun v9_18 w14 =>
  gstep v9_18 true (fun w15 K => K x0 w15) w14 fun v10_20 w16 =>
  gstep v9_18 true (fun w17 K => K x1 w17) w16 fun v11_21 w18 =>
  gstep v9_18 true (fun w19 K => CALL Try.prog 53 #[v10_20, v11_21] w19 K) w18 fun v12_22 w20 =>
  gstep v9_18 true (fun w21 K => K x0 w21) w20 fun v13_23 w22 =>
  gstep v9_18 true (fun w23 K => K x1 w23) w22 fun v14_24 w24 =>
  gstep v9_18 true (fun w25 K => CALL Try.prog 52 #[v13_23, v14_24] w25 K) w24 fun v15_25 w26 =>
  gstep v9_18 true (fun w27 K => X Try.prog (binOpG .eql 23 (.tmp 22) (.tmp 25) v12_22 v15_25) w27 K) w26 fun v16_26 w28 =>
  X Try.prog (pickS v9_18 v16_26 (.bool false)) w28 fun v17_27 w29 =>
  K v17_27 w29)

theorem eq_law02_CrcSums (x0 x1 : Value) (w : World) (K : Value → World → Prop) :
    sh Try.prog (Try.f10.body.getD .skip) (retS Try.prog Try.f10.results K) (env0 #[x0, x1]) w = B_law02_CrcSums x0 x1 w K := by kernel_rfl

theorem call_law02_CrcSums (x0 x1 : Value) (w : World) (K : Value → World → Prop) (h : B_law02_CrcSums x0 x1 w K) : CALL Try.prog 10 #[x0, x1] w K :=
  call_of_eq (c := Try.f10.body.getD .skip) mixed Try.func10 (by kernel_rfl) (by kernel_rfl) (by kernel_rfl) (Nat.le_of_ble_eq_true (by kernel_rfl)) (eq_law02_CrcSums x0 x1 w K) h

/-- cellarage/cellaragelaw02.CrcSeals -/
def B_law02_CrcSeals (x0 : Value) (w : World) (K : Value → World → Prop) : Prop :=
  CALL Try.prog 50 #[] w fun v1_8 w1 =>
  X Try.prog (Builtin.len_ #[27] 3 #[x0]) w1 fun v2_10 w2 =>
  X Try.prog (binOp .gtr 3 v2_10 (.int .i64 100000)) w2 fun v3_11 w3 =>
  condS v3_11 (
  K v1_8 w3) (
  CALL Try.prog 54 #[x0] w3 fun v4_15 w4 =>
  X Try.prog (Instr.extract v4_15 0) w4 fun v5_16 w5 =>
  X Try.prog (Instr.extract v4_15 1) w5 fun v6_17 w6 =>
  CALL Try.prog 55 #[x0] w6 fun v7_20 w7 =>
  X Try.prog (Instr.extract v7_20 0) w7 fun v8_21 w8 =>
  X Try.prog (Instr.extract v7_20 1) w8 fun v9_22 w9 =>
  ∃ R, Frame? R ∧
  gstep v1_8 true (fun w10 K => K x0 w10) (drewW w9) fun v10_25 w11 =>
  gstep v1_8 true (fun w12 K => K x0 w12) w11 fun v11_28 w13 =>
  gstep v1_8 true (fun w14 K => CALL Try.prog 56 #[v10_25] w14 K) w13 fun v12_26 w15 =>
  gstep v1_8 true (fun w16 K => XR Try.prog R (convert 27 9 v12_26) w16 K) w15 fun v13_27 w17 =>
  gstep v1_8 true (fun w18 K => CALL Try.prog 57 #[v11_28] w18 K) w17 fun v14_29 w19 =>
  R w17 w19 ∧
  gstep v1_8 true (fun w20 K => XR Try.prog R (convert 27 9 v14_29) w20 K) w19 fun v15_30 w21 =>
  gstep v1_8 true (fun w22 K => XP Try.prog (binOpG .eql 9 (.tmp 27) (.tmp 30) v13_27 v15_30) w22 K) w21 fun v16_31 w23 =>
  XP Try.prog (pickS v1_8 v16_31 (.bool false)) w23 fun v17_32 w24 =>
  gstep v17_32 true (fun w25 K => K v5_16 w25) w24 fun v18_34 w26 =>
  gstep v17_32 true (fun w27 K => XR Try.prog R (convert 27 9 v18_34) w27 K) w26 fun v19_35 w28 =>
  gstep v17_32 true (fun w29 K => K v8_21 w29) w28 fun v20_36 w30 =>
  gstep v17_32 true (fun w31 K => XR Try.prog R (convert 27 9 v20_36) w31 K) w30 fun v21_37 w32 =>
  gstep v17_32 true (fun w33 K => XP Try.prog (binOpG .eql 9 (.tmp 35) (.tmp 37) v19_35 v21_37) w33 K) w32 fun v22_38 w34 =>
  XP Try.prog (pickS v17_32 v22_38 (.bool false)) w34 fun v23_39 w35 =>
  gstep v23_39 true (fun w36 K => K v6_17 w36) w35 fun v24_41 w37 =>
  gstep v23_39 true (fun w38 K => K v9_22 w38) w37 fun v25_42 w39 =>
  gstep v23_39 true (fun w40 K => XP Try.prog (binOpG .eql 4 (.tmp 41) (.tmp 42) v24_41 v25_42) w40 K) w39 fun v26_43 w41 =>
  XP Try.prog (pickS v23_39 v26_43 (.bool false)) w41 fun v27_44 w42 =>
  K v27_44 w42)

theorem eq_law02_CrcSeals (x0 : Value) (w : World) (K : Value → World → Prop) :
    sh Try.prog (Try.f11.body.getD .skip) (retS Try.prog Try.f11.results K) (env0 #[x0]) w = B_law02_CrcSeals x0 w K := by kernel_rfl

theorem call_law02_CrcSeals (x0 : Value) (w : World) (K : Value → World → Prop) (h : B_law02_CrcSeals x0 w K) : CALL Try.prog 11 #[x0] w K :=
  call_of_eq (c := Try.f11.body.getD .skip) mixed Try.func11 (by kernel_rfl) (by kernel_rfl) (by kernel_rfl) (Nat.le_of_ble_eq_true (by kernel_rfl)) (eq_law02_CrcSeals x0 w K) h

/-- cellarage/cellaragelaw02.CrcGoes -/
def B_law02_CrcGoes (x0 x1 : Value) (w : World) (K : Value → World → Prop) : Prop :=
  CALL Try.prog 50 #[] w fun v1_7 w1 =>
  X Try.prog (Builtin.len_ #[27] 3 #[x0]) w1 fun v2_9 w2 =>
  X Try.prog (binOp .gtr 3 v2_9 (.int .i64 100000)) w2 fun v3_10 w3 =>
  condS v3_10 (
  K v1_7 w3) (
  X Try.prog (Builtin.len_ #[27] 3 #[x0]) w3 fun v4_14 w4 =>
  X Try.prog (binOp .add 3 v4_14 (.int .i64 1)) w4 fun v5_15 w5 =>
  X Try.prog (convert 3 49 v5_15) w5 fun v6_16 w6 =>
  X Try.prog (binOp .rem 49 x1 v6_16) w6 fun v7_17 w7 =>
  X Try.prog (convert 49 3 v7_17) w7 fun v8_18 w8 =>
  ∃ R, Frame? R ∧
  gstep v1_7 true (fun w9 K => K x0 w9) (drewW w8) fun v9_21 w10 =>
  gstep v1_7 true (fun w11 K => K v8_18 w11) w10 fun v10_22 w12 =>
  gstep v1_7 true (fun w13 K => XP Try.prog (Instr.sliceAt 27 v9_21 none (some v10_22) none) w13 K) w12 fun v11_23 w14 =>
  gstep v1_7 true (fun w15 K => K x0 w15) w14 fun v12_25 w16 =>
  gstep v1_7 true (fun w17 K => K v8_18 w17) w16 fun v13_26 w18 =>
  gstep v1_7 true (fun w19 K => XP Try.prog (Instr.sliceAt 27 v12_25 (some v13_26) none none) w19 K) w18 fun v14_27 w20 =>
  gstep v1_7 true (fun w21 K => K x0 w21) w20 fun v15_29 w22 =>
  gstep v1_7 true (fun w23 K => CALL Try.prog 51 #[v11_23] w23 K) w22 fun v16_24 w24 =>
  gstep v1_7 true (fun w25 K => CALL Try.prog 53 #[v16_24, v14_27] w25 K) w24 fun v17_28 w26 =>
  gstep v1_7 true (fun w27 K => CALL Try.prog 51 #[v15_29] w27 K) w26 fun v18_30 w28 =>
  gstep v1_7 true (fun w29 K => XP Try.prog (binOpG .eql 23 (.tmp 28) (.tmp 30) v17_28 v18_30) w29 K) w28 fun v19_31 w30 =>
  XP Try.prog (pickS v1_7 v19_31 (.bool false)) w30 fun v20_32 w31 =>
  K v20_32 w31)

theorem eq_law02_CrcGoes (x0 x1 : Value) (w : World) (K : Value → World → Prop) :
    sh Try.prog (Try.f12.body.getD .skip) (retS Try.prog Try.f12.results K) (env0 #[x0, x1]) w = B_law02_CrcGoes x0 x1 w K := by kernel_rfl

theorem call_law02_CrcGoes (x0 x1 : Value) (w : World) (K : Value → World → Prop) (h : B_law02_CrcGoes x0 x1 w K) : CALL Try.prog 12 #[x0, x1] w K :=
  call_of_eq (c := Try.f12.body.getD .skip) mixed Try.func12 (by kernel_rfl) (by kernel_rfl) (by kernel_rfl) (Nat.le_of_ble_eq_true (by kernel_rfl)) (eq_law02_CrcGoes x0 x1 w K) h

/-- cellarage/cellaragelaw02.CrcTells -/
def B_law02_CrcTells (x0 x1 x2 : Value) (w : World) (K : Value → World → Prop) : Prop :=
  CALL Try.prog 50 #[] w fun v1_14 w1 =>
  X Try.prog (Builtin.len_ #[27] 3 #[x0]) w1 fun v2_16 w2 =>
  X Try.prog (binOpG .eql 3 (.tmp 16) (.const (.int .i64 0)) v2_16 (.int .i64 0)) w2 fun v3_17 w3 =>
  gstep v3_17 false (fun w4 K => K x0 w4) w3 fun v4_19 w5 =>
  gstep v3_17 false (fun w6 K => X Try.prog (Builtin.len_ #[27] 3 #[v4_19]) w6 K) w5 fun v5_20 w7 =>
  gstep v3_17 false (fun w8 K => X Try.prog (binOp .gtr 3 v5_20 (.int .i64 100000)) w8 K) w7 fun v6_21 w9 =>
  X Try.prog (pickS v3_17 (.bool true) v6_21) w9 fun v7_22 w10 =>
  gstep v7_22 false (fun w11 K => K x2 w11) w10 fun v8_24 w12 =>
  gstep v7_22 false (fun w13 K => X Try.prog (binOpG .eql 23 (.tmp 24) (.const (.int .u32 0)) v8_24 (.int .u32 0)) w13 K) w12 fun v9_25 w14 =>
  X Try.prog (pickS v7_22 (.bool true) v9_25) w14 fun v10_26 w15 =>
  condS v10_26 (
  K v1_14 w15) (
  CALL Try.prog 56 #[x0] w15 fun v11_29 w16 =>
  X Try.prog (Builtin.len_ #[27] 3 #[v11_29]) w16 fun v12_31 w17 =>
  X Try.prog (Builtin.len_ #[27] 3 #[x0]) w17 fun v13_33 w18 =>
  X Try.prog (binOp .add 3 v13_33 (.int .i64 4)) w18 fun v14_34 w19 =>
  X Try.prog (binOpG .neq 3 (.tmp 31) (.tmp 34) v12_31 v14_34) w19 fun v15_35 w20 =>
  condS v15_35 (
  K (.bool false) w20) (
  X Try.prog (Builtin.len_ #[27] 3 #[v11_29]) w20 fun v16_38 w21 =>
  X Try.prog (binOp .mul 3 (.int .i64 8) v16_38) w21 fun v17_39 w22 =>
  X Try.prog (convert 3 49 v17_39) w22 fun v18_40 w23 =>
  X Try.prog (binOp .rem 49 x1 v18_40) w23 fun v19_41 w24 =>
  X Try.prog (convert 49 3 v19_41) w24 fun v20_42 w25 =>
  loopS (fun Q1 ρ1 w26 =>
  X Try.prog (binOp .lss 3 (ρ1 11) (.int .i64 32)) w26 fun v21_44 w27 =>
  gstep v21_44 true (fun w28 K => K (ρ1 9) w28) w27 fun v22_46 w29 =>
  gstep v21_44 true (fun w30 K => K (ρ1 11) w30) w29 fun v23_47 w31 =>
  gstep v21_44 true (fun w32 K => X Try.prog (binOp .add 3 v22_46 v23_47) w32 K) w31 fun v24_48 w33 =>
  gstep v21_44 true (fun w34 K => K (ρ1 8) w34) w33 fun v25_49 w35 =>
  gstep v21_44 true (fun w36 K => X Try.prog (Builtin.len_ #[27] 3 #[v25_49]) w36 K) w35 fun v26_50 w37 =>
  gstep v21_44 true (fun w38 K => X Try.prog (binOp .mul 3 (.int .i64 8) v26_50) w38 K) w37 fun v27_51 w39 =>
  gstep v21_44 true (fun w40 K => X Try.prog (binOp .lss 3 v24_48 v27_51) w40 K) w39 fun v28_52 w41 =>
  X Try.prog (pickS v21_44 v28_52 (.bool false)) w41 fun v29_53 w42 =>
  condS v29_53 (
  joinS (fun ρ2 w43 =>
  X Try.prog (binOp .add 3 (ρ2 11) (.int .i64 1)) w43 fun v30_55 w44 =>
  Q1 .normal (upds ρ2 [(11, v30_55), (55, v30_55), (54, (ρ2 11))]) w44) fun J2 =>
  X Try.prog (binOp .shr 23 (ρ1 2) (ρ1 11)) w42 fun v31_58 w45 =>
  X Try.prog (binOp .rem 23 v31_58 (.int .u32 2)) w45 fun v32_59 w46 =>
  X Try.prog (binOpG .eql 23 (.tmp 59) (.const (.int .u32 1)) v32_59 (.int .u32 1)) w46 fun v33_60 w47 =>
  condS v33_60 (
  ∃ R, Frame? R ∧
  XP Try.prog (binOp .add 3 (ρ1 9) (ρ1 11)) (drewW w47) fun v34_64 w48 =>
  XP Try.prog (binOp .quo 3 v34_64 (.int .i64 8)) w48 fun v35_65 w49 =>
  XP Try.prog (Instr.indexAt 27 (ρ1 8) v35_65) w49 fun v36_66 w50 =>
  XR Try.prog R (Instr.loadAt 5 v36_66) w50 fun v37_67 w51 =>
  XP Try.prog (binOp .add 3 (ρ1 9) (ρ1 11)) w51 fun v38_70 w52 =>
  XP Try.prog (binOp .rem 3 v38_70 (.int .i64 8)) w52 fun v39_71 w53 =>
  XP Try.prog (binOp .shr 5 (.int .u8 128) v39_71) w53 fun v40_72 w54 =>
  XP Try.prog (binOp .xor 5 v37_67 v40_72) w54 fun v41_73 w55 =>
  XP Try.prog (Instr.indexAt 27 (ρ1 8) v35_65) w55 fun v42_74 w56 =>
  XU Try.prog (Instr.storeAt 5 v42_74 v41_73) w56 fun w57 =>
  X Try.prog (binOp .add 3 (ρ1 10) (.int .i64 1)) w57 fun v43_76 w58 =>
  J2 (upds ρ1 [(10, v43_76), (76, v43_76), (75, (ρ1 10)), (74, v42_74), (73, v41_73), (72, v40_72), (71, v39_71), (70, v38_70), (69, (ρ1 11)), (68, (ρ1 9)), (67, v37_67), (66, v36_66), (65, v35_65), (64, v34_64), (63, (ρ1 11)), (62, (ρ1 9)), (61, (ρ1 8)), (60, v33_60), (59, v32_59), (58, v31_58), (57, (ρ1 11)), (56, (ρ1 2)), (53, v29_53), (52, v28_52), (51, v27_51), (50, v26_50), (49, v25_49), (48, v24_48), (47, v23_47), (46, v22_46), (45, v21_44), (44, v21_44), (43, (ρ1 11))]) w58) (
  J2 (upds ρ1 [(60, v33_60), (59, v32_59), (58, v31_58), (57, (ρ1 11)), (56, (ρ1 2)), (53, v29_53), (52, v28_52), (51, v27_51), (50, v26_50), (49, v25_49), (48, v24_48), (47, v23_47), (46, v22_46), (45, v21_44), (44, v21_44), (43, (ρ1 11))]) w47)) (
  Q1 (.exit 0) (upds ρ1 [(53, v29_53), (52, v28_52), (51, v27_51), (50, v26_50), (49, v25_49), (48, v24_48), (47, v23_47), (46, v22_46), (45, v21_44), (44, v21_44), (43, (ρ1 11))]) w42)) (inBlockS 0 (thenS (fun ρ3 w59 =>
  CALL Try.prog 54 #[(ρ3 8)] w59 fun v44_79 w60 =>
  X Try.prog (Instr.extract v44_79 0) w60 fun v45_80 w61 =>
  X Try.prog (Instr.extract v44_79 1) w61 fun v46_81 w62 =>
  X Try.prog (binOpG .eql 3 (.tmp 82) (.const (.int .i64 0)) (ρ3 10) (.int .i64 0)) w62 fun v47_83 w63 =>
  condS v47_83 (
  gstep (ρ3 7) true (fun w64 K => K v46_81 w64) w63 fun v48_86 w65 =>
  X Try.prog (pickS (ρ3 7) v48_86 (.bool false)) w65 fun v49_87 w66 =>
  gstep v49_87 true (fun w67 K => K v45_80 w67) w66 fun v50_89 w68 =>
  gstep v49_87 true (fun w69 K => X Try.prog (convert 27 9 v50_89) w69 K) w68 fun v51_90 w70 =>
  gstep v49_87 true (fun w71 K => K (ρ3 0) w71) w70 fun v52_91 w72 =>
  gstep v49_87 true (fun w73 K => X Try.prog (convert 27 9 v52_91) w73 K) w72 fun v53_92 w74 =>
  gstep v49_87 true (fun w75 K => X Try.prog (binOpG .eql 9 (.tmp 90) (.tmp 92) v51_90 v53_92) w75 K) w74 fun v54_93 w76 =>
  X Try.prog (pickS v49_87 v54_93 (.bool false)) w76 fun v55_94 w77 =>
  K v55_94 w77) (
  ∃ R, Frame? R ∧
  gstep (ρ3 7) true (fun w78 K => K v46_81 w78) (drewW w63) fun v56_97 w79 =>
  gstep (ρ3 7) true (fun w80 K => XP Try.prog (Op.unary .not v56_97) w80 K) w79 fun v57_98 w81 =>
  XP Try.prog (pickS (ρ3 7) v57_98 (.bool false)) w81 fun v58_99 w82 =>
  gstep v58_99 true (fun w83 K => K v45_80 w83) w82 fun v59_101 w84 =>
  gstep v58_99 true (fun w85 K => XP Try.prog (Builtin.len_ #[27] 3 #[v59_101]) w85 K) w84 fun v60_102 w86 =>
  gstep v58_99 true (fun w87 K => XP Try.prog (binOpG .eql 3 (.tmp 102) (.const (.int .i64 0)) v60_102 (.int .i64 0)) w87 K) w86 fun v61_103 w88 =>
  XP Try.prog (pickS v58_99 v61_103 (.bool false)) w88 fun v62_104 w89 =>
  gstep v62_104 true (fun w90 K => K (ρ3 8) w90) w89 fun v63_106 w91 =>
  gstep v62_104 true (fun w92 K => K (ρ3 0) w92) w91 fun v64_107 w93 =>
  gstep v62_104 true (fun w94 K => XP Try.prog (Builtin.len_ #[27] 3 #[v64_107]) w94 K) w93 fun v65_108 w95 =>
  gstep v62_104 true (fun w96 K => XP Try.prog (Instr.sliceAt 27 v63_106 none (some v65_108) none) w96 K) w95 fun v66_109 w97 =>
  gstep v62_104 true (fun w98 K => XR Try.prog R (convert 27 9 v66_109) w98 K) w97 fun v67_110 w99 =>
  gstep v62_104 true (fun w100 K => K (ρ3 0) w100) w99 fun v68_111 w101 =>
  gstep v62_104 true (fun w102 K => XR Try.prog R (convert 27 9 v68_111) w102 K) w101 fun v69_112 w103 =>
  gstep v62_104 true (fun w104 K => XP Try.prog (binOpG .eql 9 (.tmp 110) (.tmp 112) v67_110 v69_112) w104 K) w103 fun v70_113 w105 =>
  gstep v62_104 true (fun w106 K => K v70_113 w106) w105 fun v71_114 w107 =>
  gstep v71_114 false (fun w108 K => K (ρ3 8) w108) w107 fun v72_115 w109 =>
  gstep v71_114 false (fun w110 K => K (ρ3 0) w110) w109 fun v73_116 w111 =>
  gstep v71_114 false (fun w112 K => XP Try.prog (Builtin.len_ #[27] 3 #[v73_116]) w112 K) w111 fun v74_117 w113 =>
  gstep v71_114 false (fun w114 K => XP Try.prog (Instr.sliceAt 27 v72_115 none (some v74_117) none) w114 K) w113 fun v75_118 w115 =>
  gstep v71_114 false (fun w116 K => K (ρ3 0) w116) w115 fun v76_120 w117 =>
  gstep v71_114 false (fun w118 K => CALL Try.prog 51 #[v75_118] w118 K) w117 fun v77_119 w119 =>
  R w117 w119 ∧
  gstep v71_114 false (fun w120 K => CALL Try.prog 51 #[v76_120] w120 K) w119 fun v78_121 w121 =>
  R w119 w121 ∧
  gstep v71_114 false (fun w122 K => XP Try.prog (binOpG .neq 23 (.tmp 119) (.tmp 121) v77_119 v78_121) w122 K) w121 fun v79_122 w123 =>
  gstep v62_104 true (fun w124 K => XP Try.prog (pickS v71_114 (.bool true) v79_122) w124 K) w123 fun v80_123 w125 =>
  gstep v62_104 true (fun w126 K => K v80_123 w126) w125 fun v81_124 w127 =>
  gstep v81_124 false (fun w128 K => K (ρ3 9) w128) w127 fun v82_125 w129 =>
  gstep v81_124 false (fun w130 K => XP Try.prog (binOp .add 3 v82_125 (.int .i64 32)) w130 K) w129 fun v83_126 w131 =>
  gstep v81_124 false (fun w132 K => K (ρ3 0) w132) w131 fun v84_127 w133 =>
  gstep v81_124 false (fun w134 K => XP Try.prog (Builtin.len_ #[27] 3 #[v84_127]) w134 K) w133 fun v85_128 w135 =>
  gstep v81_124 false (fun w136 K => XP Try.prog (binOp .mul 3 (.int .i64 8) v85_128) w136 K) w135 fun v86_129 w137 =>
  gstep v81_124 false (fun w138 K => XP Try.prog (binOp .gtr 3 v83_126 v86_129) w138 K) w137 fun v87_130 w139 =>
  gstep v62_104 true (fun w140 K => XP Try.prog (pickS v81_124 (.bool true) v87_130) w140 K) w139 fun v88_131 w141 =>
  XP Try.prog (pickS v62_104 v88_131 (.bool false)) w141 fun v89_132 w142 =>
  K v89_132 w142)) (retS Try.prog (Try.f13).results K))) (upds (env0 #[x0, x1, x2]) [(11, (.int .i64 0)), (10, (.int .i64 0)), (9, v20_42), (42, v20_42), (41, v19_41), (40, v18_40), (39, v17_39), (38, v16_38), (37, v11_29), (36, x1), (35, v15_35), (34, v14_34), (33, v13_33), (32, x0), (31, v12_31), (30, v11_29), (8, v11_29), (29, v11_29), (28, x0), (26, v10_26), (25, v9_25), (24, v8_24), (23, v7_22), (22, v7_22), (21, v6_21), (20, v5_20), (19, v4_19), (18, v3_17), (17, v3_17), (16, v2_16), (15, x0), (7, v1_14), (14, v1_14), (6, (.bool false))]) w25))

theorem eq_law02_CrcTells (x0 x1 x2 : Value) (w : World) (K : Value → World → Prop) :
    sh Try.prog (Try.f13.body.getD .skip) (retS Try.prog Try.f13.results K) (env0 #[x0, x1, x2]) w = B_law02_CrcTells x0 x1 x2 w K := by kernel_rfl

theorem call_law02_CrcTells (x0 x1 x2 : Value) (w : World) (K : Value → World → Prop) (h : B_law02_CrcTells x0 x1 x2 w K) : CALL Try.prog 13 #[x0, x1, x2] w K :=
  call_of_eq (c := Try.f13.body.getD .skip) mixed Try.func13 (by kernel_rfl) (by kernel_rfl) (by kernel_rfl) (Nat.le_of_ble_eq_true (by kernel_rfl)) (eq_law02_CrcTells x0 x1 x2 w K) h

/-- cellarage/cellaragelaw02.CrcBack -/
def B_law02_CrcBack (x0 x1 : Value) (w : World) (K : Value → World → Prop) : Prop :=
  CALL Try.prog 50 #[] w fun v1_11 w1 =>
  X Try.prog (Builtin.len_ #[27] 3 #[x0]) w1 fun v2_13 w2 =>
  X Try.prog (binOp .gtr 3 v2_13 (.int .i64 100000)) w2 fun v3_14 w3 =>
  gstep v3_14 false (fun w4 K => K x1 w4) w3 fun v4_16 w5 =>
  gstep v3_14 false (fun w6 K => X Try.prog (Builtin.len_ #[27] 3 #[v4_16]) w6 K) w5 fun v5_17 w7 =>
  gstep v3_14 false (fun w8 K => X Try.prog (binOp .gtr 3 v5_17 (.int .i64 100000)) w8 K) w7 fun v6_18 w9 =>
  X Try.prog (pickS v3_14 (.bool true) v6_18) w9 fun v7_19 w10 =>
  condS v7_19 (
  K v1_11 w10) (
  CALL Try.prog 56 #[x0] w10 fun v8_22 w11 =>
  CALL Try.prog 54 #[v8_22] w11 fun v9_25 w12 =>
  X Try.prog (Instr.extract v9_25 0) w12 fun v10_26 w13 =>
  X Try.prog (Instr.extract v9_25 1) w13 fun v11_27 w14 =>
  CALL Try.prog 54 #[x1] w14 fun v12_30 w15 =>
  X Try.prog (Instr.extract v12_30 0) w15 fun v13_31 w16 =>
  X Try.prog (Instr.extract v12_30 1) w16 fun v14_32 w17 =>
  ∃ R, Frame? R ∧
  gstep v14_32 true (fun w18 K => K v13_31 w18) (drewW w17) fun v15_35 w19 =>
  gstep v14_32 true (fun w20 K => K x1 w20) w19 fun v16_38 w21 =>
  gstep v14_32 true (fun w22 K => XR Try.prog R (convert 27 9 v16_38) w22 K) w21 fun v17_39 w23 =>
  gstep v14_32 true (fun w24 K => CALL Try.prog 56 #[v15_35] w24 K) w23 fun v18_36 w25 =>
  R w23 w25 ∧
  gstep v14_32 true (fun w26 K => XR Try.prog R (convert 27 9 v18_36) w26 K) w25 fun v19_37 w27 =>
  gstep v14_32 true (fun w28 K => XP Try.prog (binOpG .neq 9 (.tmp 37) (.tmp 39) v19_37 v17_39) w28 K) w27 fun v20_40 w29 =>
  XP Try.prog (pickS v14_32 v20_40 (.bool false)) w29 fun v21_41 w30 =>
  gstep v21_41 false (fun w31 K => K v14_32 w31) w30 fun v22_43 w32 =>
  gstep v21_41 false (fun w33 K => XP Try.prog (Op.unary .not v22_43) w33 K) w32 fun v23_44 w34 =>
  gstep v21_41 false (fun w35 K => K v23_44 w35) w34 fun v24_45 w36 =>
  gstep v24_45 true (fun w37 K => K v13_31 w37) w36 fun v25_46 w38 =>
  gstep v24_45 true (fun w39 K => XP Try.prog (Builtin.len_ #[27] 3 #[v25_46]) w39 K) w38 fun v26_47 w40 =>
  gstep v24_45 true (fun w41 K => XP Try.prog (binOp .gtr 3 v26_47 (.int .i64 0)) w41 K) w40 fun v27_48 w42 =>
  gstep v21_41 false (fun w43 K => XP Try.prog (pickS v24_45 v27_48 (.bool false)) w43 K) w42 fun v28_49 w44 =>
  XP Try.prog (pickS v21_41 (.bool true) v28_49) w44 fun v29_50 w45 =>
  condS v29_50 (
  K (.bool false) w45) (
  gstep v1_11 true (fun w46 K => K v11_27 w46) w45 fun v30_53 w47 =>
  X Try.prog (pickS v1_11 v30_53 (.bool false)) w47 fun v31_54 w48 =>
  gstep v31_54 true (fun w49 K => K v10_26 w49) w48 fun v32_56 w50 =>
  gstep v31_54 true (fun w51 K => X Try.prog (convert 27 9 v32_56) w51 K) w50 fun v33_57 w52 =>
  gstep v31_54 true (fun w53 K => K x0 w53) w52 fun v34_58 w54 =>
  gstep v31_54 true (fun w55 K => X Try.prog (convert 27 9 v34_58) w55 K) w54 fun v35_59 w56 =>
  gstep v31_54 true (fun w57 K => X Try.prog (binOpG .eql 9 (.tmp 57) (.tmp 59) v33_57 v35_59) w57 K) w56 fun v36_60 w58 =>
  X Try.prog (pickS v31_54 v36_60 (.bool false)) w58 fun v37_61 w59 =>
  gstep v37_61 true (fun w60 K => K v8_22 w60) w59 fun v38_63 w61 =>
  gstep v37_61 true (fun w62 K => CALL Try.prog 51 #[v38_63] w62 K) w61 fun v39_64 w63 =>
  gstep v37_61 true (fun w64 K => X Try.prog (binOpG .eql 23 (.tmp 64) (.const (.int .u32 955982468)) v39_64 (.int .u32 955982468)) w64 K) w63 fun v40_65 w65 =>
  X Try.prog (pickS v37_61 v40_65 (.bool false)) w65 fun v41_66 w66 =>
  K v41_66 w66))

theorem eq_law02_CrcBack (x0 x1 : Value) (w : World) (K : Value → World → Prop) :
    sh Try.prog (Try.f14.body.getD .skip) (retS Try.prog Try.f14.results K) (env0 #[x0, x1]) w = B_law02_CrcBack x0 x1 w K := by kernel_rfl

theorem call_law02_CrcBack (x0 x1 : Value) (w : World) (K : Value → World → Prop) (h : B_law02_CrcBack x0 x1 w K) : CALL Try.prog 14 #[x0, x1] w K :=
  call_of_eq (c := Try.f14.body.getD .skip) mixed Try.func14 (by kernel_rfl) (by kernel_rfl) (by kernel_rfl) (Nat.le_of_ble_eq_true (by kernel_rfl)) (eq_law02_CrcBack x0 x1 w K) h

/-- cellarage/cellaragelaw02.CrcLinear -/
def B_law02_CrcLinear (x0 x1 x2 : Value) (w : World) (K : Value → World → Prop) : Prop :=
  CALL Try.prog 50 #[] w fun v1_11 w1 =>
  X Try.prog (Builtin.len_ #[27] 3 #[x0]) w1 fun v2_13 w2 =>
  X Try.prog (Builtin.len_ #[27] 3 #[x1]) w2 fun v3_15 w3 =>
  X Try.prog (Builtin.len_ #[27] 3 #[x2]) w3 fun v4_17 w4 =>
  X Try.prog (Builtin.min_ #[3, 3, 3, 3] 3 #[v2_13, v3_15, v4_17, (.int .i64 10000)]) w4 fun v5_18 w5 =>
  X Try.prog (Instr.makeSlice 27 v5_18 v5_18) w5 fun v6_20 w6 =>
  X Try.prog (Builtin.len_ #[27] 3 #[v6_20]) w6 fun v7_22 w7 =>
  loopS (fun Q1 ρ1 w8 =>
  X Try.prog (binOp .lss 3 (ρ1 23) (ρ1 22)) w8 fun v8_24 w9 =>
  condS v8_24 (
  ∃ R, Frame? R ∧
  XP Try.prog (Instr.indexAt 27 (ρ1 0) (ρ1 23)) (drewW w9) fun v9_30 w10 =>
  XR Try.prog R (Instr.loadAt 5 v9_30) w10 fun v10_31 w11 =>
  XP Try.prog (Instr.indexAt 27 (ρ1 1) (ρ1 23)) w11 fun v11_34 w12 =>
  XR Try.prog R (Instr.loadAt 5 v11_34) w12 fun v12_35 w13 =>
  XP Try.prog (binOp .xor 5 v10_31 v12_35) w13 fun v13_36 w14 =>
  XP Try.prog (Instr.indexAt 27 (ρ1 2) (ρ1 23)) w14 fun v14_39 w15 =>
  XR Try.prog R (Instr.loadAt 5 v14_39) w15 fun v15_40 w16 =>
  XP Try.prog (binOp .xor 5 v13_36 v15_40) w16 fun v16_41 w17 =>
  XP Try.prog (Instr.indexAt 27 (ρ1 9) (ρ1 23)) w17 fun v17_42 w18 =>
  XU Try.prog (Instr.storeAt 5 v17_42 v16_41) w18 fun w19 =>
  X Try.prog (binOp .add 3 (ρ1 23) (.int .i64 1)) w19 fun v18_43 w20 =>
  Q1 .normal (upds ρ1 [(23, v18_43), (43, v18_43), (42, v17_42), (41, v16_41), (40, v15_40), (39, v14_39), (38, (ρ1 23)), (37, (ρ1 2)), (36, v13_36), (35, v12_35), (34, v11_34), (33, (ρ1 23)), (32, (ρ1 1)), (31, v10_31), (30, v9_30), (29, (ρ1 23)), (28, (ρ1 0)), (27, (ρ1 23)), (26, (ρ1 9)), (10, (ρ1 23)), (25, (ρ1 23)), (24, v8_24)]) w20) (
  Q1 (.exit 0) (upds ρ1 [(24, v8_24)]) w9)) (inBlockS 0 (thenS (fun ρ2 w21 =>
  ∃ R, Frame? R ∧
  gstep (ρ2 7) true (fun w22 K => K (ρ2 0) w22) (drewW w21) fun v19_46 w23 =>
  gstep (ρ2 7) true (fun w24 K => K (ρ2 8) w24) w23 fun v20_47 w25 =>
  gstep (ρ2 7) true (fun w26 K => XP Try.prog (Instr.sliceAt 27 v19_46 none (some v20_47) none) w26 K) w25 fun v21_48 w27 =>
  gstep (ρ2 7) true (fun w28 K => K (ρ2 1) w28) w27 fun v22_50 w29 =>
  gstep (ρ2 7) true (fun w30 K => K (ρ2 8) w30) w29 fun v23_51 w31 =>
  gstep (ρ2 7) true (fun w32 K => XP Try.prog (Instr.sliceAt 27 v22_50 none (some v23_51) none) w32 K) w31 fun v24_52 w33 =>
  gstep (ρ2 7) true (fun w34 K => K (ρ2 2) w34) w33 fun v25_55 w35 =>
  gstep (ρ2 7) true (fun w36 K => K (ρ2 8) w36) w35 fun v26_56 w37 =>
  gstep (ρ2 7) true (fun w38 K => XP Try.prog (Instr.sliceAt 27 v25_55 none (some v26_56) none) w38 K) w37 fun v27_57 w39 =>
  gstep (ρ2 7) true (fun w40 K => K (ρ2 9) w40) w39 fun v28_60 w41 =>
  gstep (ρ2 7) true (fun w42 K => CALL Try.prog 51 #[v21_48] w42 K) w41 fun v29_49 w43 =>
  gstep (ρ2 7) true (fun w44 K => CALL Try.prog 51 #[v24_52] w44 K) w43 fun v30_53 w45 =>
  gstep (ρ2 7) true (fun w46 K => XP Try.prog (binOp .xor 23 v29_49 v30_53) w46 K) w45 fun v31_54 w47 =>
  gstep (ρ2 7) true (fun w48 K => CALL Try.prog 51 #[v27_57] w48 K) w47 fun v32_58 w49 =>
  gstep (ρ2 7) true (fun w50 K => XP Try.prog (binOp .xor 23 v31_54 v32_58) w50 K) w49 fun v33_59 w51 =>
  gstep (ρ2 7) true (fun w52 K => CALL Try.prog 51 #[v28_60] w52 K) w51 fun v34_61 w53 =>
  gstep (ρ2 7) true (fun w54 K => XP Try.prog (binOp .xor 23 v33_59 v34_61) w54 K) w53 fun v35_62 w55 =>
  gstep (ρ2 7) true (fun w56 K => XP Try.prog (binOpG .eql 23 (.tmp 62) (.const (.int .u32 0)) v35_62 (.int .u32 0)) w56 K) w55 fun v36_63 w57 =>
  XP Try.prog (pickS (ρ2 7) v36_63 (.bool false)) w57 fun v37_64 w58 =>
  K v37_64 w58) (retS Try.prog (Try.f15).results K))) (upds (env0 #[x0, x1, x2]) [(23, (.int .i64 0)), (22, v7_22), (21, v6_20), (9, v6_20), (20, v6_20), (19, v5_18), (8, v5_18), (18, v5_18), (17, v4_17), (16, x2), (15, v3_15), (14, x1), (13, v2_13), (12, x0), (7, v1_11), (11, v1_11), (6, (.bool false))]) w7

theorem eq_law02_CrcLinear (x0 x1 x2 : Value) (w : World) (K : Value → World → Prop) :
    sh Try.prog (Try.f15.body.getD .skip) (retS Try.prog Try.f15.results K) (env0 #[x0, x1, x2]) w = B_law02_CrcLinear x0 x1 x2 w K := by kernel_rfl

theorem call_law02_CrcLinear (x0 x1 x2 : Value) (w : World) (K : Value → World → Prop) (h : B_law02_CrcLinear x0 x1 x2 w K) : CALL Try.prog 15 #[x0, x1, x2] w K :=
  call_of_eq (c := Try.f15.body.getD .skip) mixed Try.func15 (by kernel_rfl) (by kernel_rfl) (by kernel_rfl) (Nat.le_of_ble_eq_true (by kernel_rfl)) (eq_law02_CrcLinear x0 x1 x2 w K) h

end Go.Proofs.Ytggggfcgnkllgaa
