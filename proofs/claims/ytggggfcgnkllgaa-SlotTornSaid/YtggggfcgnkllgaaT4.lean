import Derived.Test.YtggggfcgnkllgaaTy
import Derived.Test.YtggggfcgnkllgaaShSound
set_option linter.unusedVariables false
namespace Go.Proofs.Ytggggfcgnkllgaa
open Go Go.Sh
attribute [local irreducible] X XU XP XR CALL loopS resC closS
/-- cellarage/cellaragelaw10.shown -/
def B_law10_shown (w : World) (K : Value → World → Prop) : Prop :=
  X Try.prog (Instr.makeSlice 27 (.int .i64 128) (.int .i64 128)) w fun v1_5 w1 =>
  CALL Try.prog 44 #[v1_5] w1 fun v2_6 w2 =>
  X Try.prog (Instr.extract v2_6 0) w2 fun v3_7 w3 =>
  X Try.prog (Instr.extract v2_6 1) w3 fun v4_8 w4 =>
  X Try.prog (Instr.alloc 25 true (.tuple #[])) w4 fun v5_1 w5 =>
  XU Try.prog (Instr.storeAt 25 v5_1 v3_7) w5 fun w6 =>
  X Try.prog (Instr.build 25 #[(0, (.int .u64 1))]) w6 fun v6_9 w7 =>
  CALL Try.prog 42 #[v6_9] w7 fun v7_10 w8 =>
  X Try.prog (binOpG .eql 30 (.tmp 11) (.const (.int .i64 100)) v4_8 (.int .i64 100)) w8 fun v8_12 w9 =>
  gstep v8_12 true (fun w10 K => K v7_10 w10) w9 fun v9_14 w11 =>
  gstep v8_12 true (fun w12 K => X Try.prog (Builtin.len_ #[27] 3 #[v9_14]) w12 K) w11 fun v10_15 w13 =>
  gstep v8_12 true (fun w14 K => X Try.prog (binOpG .eql 3 (.tmp 15) (.const (.int .i64 128)) v10_15 (.int .i64 128)) w14 K) w13 fun v11_16 w15 =>
  X Try.prog (pickS v8_12 v11_16 (.bool false)) w15 fun v12_17 w16 =>
  gstep v12_17 true (fun w17 K => K v7_10 w17) w16 fun v13_19 w18 =>
  gstep v12_17 true (fun w19 K => X Try.prog (Instr.indexAt 27 v13_19 (.int .i64 7)) w19 K) w18 fun v14_20 w20 =>
  gstep v12_17 true (fun w21 K => X Try.prog (Instr.loadAt 5 v14_20) w21 K) w20 fun v15_21 w22 =>
  gstep v12_17 true (fun w23 K => X Try.prog (binOpG .eql 5 (.tmp 21) (.const (.int .u8 1)) v15_21 (.int .u8 1)) w23 K) w22 fun v16_22 w24 =>
  X Try.prog (pickS v12_17 v16_22 (.bool false)) w24 fun v17_23 w25 =>
  gstep v17_23 true (fun w26 K => K v7_10 w26) w25 fun v18_25 w27 =>
  gstep v17_23 true (fun w28 K => X Try.prog (Instr.indexAt 27 v18_25 (.int .i64 127)) w28 K) w27 fun v19_26 w29 =>
  gstep v17_23 true (fun w30 K => X Try.prog (Instr.loadAt 5 v19_26) w30 K) w29 fun v20_27 w31 =>
  gstep v17_23 true (fun w32 K => X Try.prog (binOpG .eql 5 (.tmp 27) (.const (.int .u8 1)) v20_27 (.int .u8 1)) w32 K) w31 fun v21_28 w33 =>
  X Try.prog (pickS v17_23 v21_28 (.bool false)) w33 fun v22_29 w34 =>
  gstep v22_29 true (fun w35 K => K v7_10 w35) w34 fun v23_31 w36 =>
  gstep v22_29 true (fun w37 K => X Try.prog (Instr.indexAt 27 v23_31 (.int .i64 8)) w37 K) w36 fun v24_32 w38 =>
  gstep v22_29 true (fun w39 K => X Try.prog (Instr.loadAt 5 v24_32) w39 K) w38 fun v25_33 w40 =>
  gstep v22_29 true (fun w41 K => X Try.prog (binOpG .eql 5 (.tmp 33) (.const (.int .u8 0)) v25_33 (.int .u8 0)) w41 K) w40 fun v26_34 w42 =>
  X Try.prog (pickS v22_29 v26_34 (.bool false)) w42 fun v27_35 w43 =>
  K v27_35 w43

theorem eq_law10_shown (w : World) (K : Value → World → Prop) :
    sh Try.prog (Try.f41.body.getD .skip) (retS Try.prog Try.f41.results K) (env0 #[]) w = B_law10_shown  w K := by kernel_rfl

theorem call_law10_shown (w : World) (K : Value → World → Prop) (h : B_law10_shown  w K) : CALL Try.prog 41 #[] w K :=
  call_of_eq (c := Try.f41.body.getD .skip) mixed Try.func41 (by kernel_rfl) (by kernel_rfl) (by kernel_rfl) (Nat.le_of_ble_eq_true (by kernel_rfl)) (eq_law10_shown  w K) h

/-- cellarage/cellaragelaw10.SlotLays -/
def B_law10_SlotLays (x0 : Value) (w : World) (K : Value → World → Prop) : Prop :=
  X Try.prog (Instr.box 25 x0) w fun v1_1 w1 =>
  ∃ R, Frame? R ∧
  CALL Try.prog 41 #[] (drewW w1) fun v2_3 w2 =>
  gstep v2_3 true (fun w3 K => XR Try.prog R (Instr.loadAt 25 v1_1) w3 K) w2 fun v3_5 w4 =>
  gstep v2_3 true (fun w5 K => XR Try.prog R (Instr.loadAt 25 v1_1) w5 K) w4 fun v4_8 w6 =>
  gstep v2_3 true (fun w7 K => CALL Try.prog 42 #[v3_5] w7 K) w6 fun v5_6 w8 =>
  R w6 w8 ∧
  gstep v2_3 true (fun w9 K => XR Try.prog R (convert 27 9 v5_6) w9 K) w8 fun v6_7 w10 =>
  gstep v2_3 true (fun w11 K => CALL Try.prog 43 #[v4_8] w11 K) w10 fun v7_9 w12 =>
  R w10 w12 ∧
  gstep v2_3 true (fun w13 K => XR Try.prog R (convert 27 9 v7_9) w13 K) w12 fun v8_10 w14 =>
  gstep v2_3 true (fun w15 K => XP Try.prog (binOpG .eql 9 (.tmp 7) (.tmp 10) v6_7 v8_10) w15 K) w14 fun v9_11 w16 =>
  XP Try.prog (pickS v2_3 v9_11 (.bool false)) w16 fun v10_12 w17 =>
  K v10_12 w17

theorem eq_law10_SlotLays (x0 : Value) (w : World) (K : Value → World → Prop) :
    sh Try.prog (Try.f3.body.getD .skip) (retS Try.prog Try.f3.results K) (env0 #[x0]) w = B_law10_SlotLays x0 w K := by kernel_rfl

theorem call_law10_SlotLays (x0 : Value) (w : World) (K : Value → World → Prop) (h : B_law10_SlotLays x0 w K) : CALL Try.prog 3 #[x0] w K :=
  call_of_eq (c := Try.f3.body.getD .skip) mixed Try.func3 (by kernel_rfl) (by kernel_rfl) (by kernel_rfl) (Nat.le_of_ble_eq_true (by kernel_rfl)) (eq_law10_SlotLays x0 w K) h

/-- cellarage/cellaragelaw10.SlotTakes -/
def B_law10_SlotTakes (x0 : Value) (w : World) (K : Value → World → Prop) : Prop :=
  CALL Try.prog 44 #[x0] w fun v1_9 w1 =>
  X Try.prog (Instr.extract v1_9 0) w1 fun v2_10 w2 =>
  X Try.prog (Instr.extract v1_9 1) w2 fun v3_11 w3 =>
  X Try.prog (Instr.alloc 25 true (.tuple #[])) w3 fun v4_3 w4 =>
  XU Try.prog (Instr.storeAt 25 v4_3 v2_10) w4 fun w5 =>
  CALL Try.prog 45 #[x0] w5 fun v5_14 w6 =>
  X Try.prog (Instr.extract v5_14 0) w6 fun v6_15 w7 =>
  X Try.prog (Instr.extract v5_14 1) w7 fun v7_16 w8 =>
  X Try.prog (Instr.alloc 25 true (.tuple #[])) w8 fun v8_5 w9 =>
  XU Try.prog (Instr.storeAt 25 v8_5 v6_15) w9 fun w10 =>
  CALL Try.prog 41 #[] w10 fun v9_17 w11 =>
  gstep v9_17 true (fun w12 K => X Try.prog (Instr.loadAt 25 v4_3) w12 K) w11 fun v10_19 w13 =>
  gstep v9_17 true (fun w14 K => X Try.prog (Instr.loadAt 25 v8_5) w14 K) w13 fun v11_20 w15 =>
  gstep v9_17 true (fun w16 K => X Try.prog (binOpG .eql 25 (.tmp 19) (.tmp 20) v10_19 v11_20) w16 K) w15 fun v12_21 w17 =>
  X Try.prog (pickS v9_17 v12_21 (.bool false)) w17 fun v13_22 w18 =>
  gstep v13_22 true (fun w19 K => K v3_11 w19) w18 fun v14_24 w20 =>
  gstep v13_22 true (fun w21 K => K v7_16 w21) w20 fun v15_25 w22 =>
  gstep v13_22 true (fun w23 K => X Try.prog (binOpG .eql 30 (.tmp 24) (.tmp 25) v14_24 v15_25) w23 K) w22 fun v16_26 w24 =>
  X Try.prog (pickS v13_22 v16_26 (.bool false)) w24 fun v17_27 w25 =>
  K v17_27 w25

theorem eq_law10_SlotTakes (x0 : Value) (w : World) (K : Value → World → Prop) :
    sh Try.prog (Try.f4.body.getD .skip) (retS Try.prog Try.f4.results K) (env0 #[x0]) w = B_law10_SlotTakes x0 w K := by kernel_rfl

theorem call_law10_SlotTakes (x0 : Value) (w : World) (K : Value → World → Prop) (h : B_law10_SlotTakes x0 w K) : CALL Try.prog 4 #[x0] w K :=
  call_of_eq (c := Try.f4.body.getD .skip) mixed Try.func4 (by kernel_rfl) (by kernel_rfl) (by kernel_rfl) (Nat.le_of_ble_eq_true (by kernel_rfl)) (eq_law10_SlotTakes x0 w K) h

/-- cellarage/cellaragelaw10.SlotBack -/
def B_law10_SlotBack (x0 x1 : Value) (w : World) (K : Value → World → Prop) : Prop :=
  X Try.prog (Instr.box 25 x0) w fun v1_2 w1 =>
  CALL Try.prog 41 #[] w1 fun v2_10 w2 =>
  X Try.prog (Instr.loadAt 25 v1_2) w2 fun v3_12 w3 =>
  CALL Try.prog 42 #[v3_12] w3 fun v4_13 w4 =>
  CALL Try.prog 44 #[v4_13] w4 fun v5_14 w5 =>
  X Try.prog (Instr.extract v5_14 0) w5 fun v6_15 w6 =>
  X Try.prog (Instr.extract v5_14 1) w6 fun v7_16 w7 =>
  X Try.prog (Instr.alloc 25 true (.tuple #[])) w7 fun v8_6 w8 =>
  XU Try.prog (Instr.storeAt 25 v8_6 v6_15) w8 fun w9 =>
  X Try.prog (Instr.fieldAt 25 v1_2 0) w9 fun v9_17 w10 =>
  X Try.prog (Instr.loadAt 22 v9_17) w10 fun v10_18 w11 =>
  X Try.prog (binOpG .eql 22 (.tmp 18) (.const (.int .u64 0)) v10_18 (.int .u64 0)) w11 fun v11_19 w12 =>
  gstep v11_19 true (fun w13 K => K v7_16 w13) w12 fun v12_21 w14 =>
  gstep v11_19 true (fun w15 K => X Try.prog (binOpG .neq 30 (.tmp 21) (.const (.int .i64 100)) v12_21 (.int .i64 100)) w15 K) w14 fun v13_22 w16 =>
  X Try.prog (pickS v11_19 v13_22 (.bool false)) w16 fun v14_23 w17 =>
  gstep v14_23 false (fun w18 K => X Try.prog (Instr.fieldAt 25 v1_2 0) w18 K) w17 fun v15_25 w19 =>
  gstep v14_23 false (fun w20 K => X Try.prog (Instr.loadAt 22 v15_25) w20 K) w19 fun v16_26 w21 =>
  gstep v14_23 false (fun w22 K => X Try.prog (binOpG .neq 22 (.tmp 26) (.const (.int .u64 0)) v16_26 (.int .u64 0)) w22 K) w21 fun v17_27 w23 =>
  gstep v14_23 false (fun w24 K => K v17_27 w24) w23 fun v18_28 w25 =>
  gstep v18_28 true (fun w26 K => K v7_16 w26) w25 fun v19_29 w27 =>
  gstep v18_28 true (fun w28 K => X Try.prog (binOpG .neq 30 (.tmp 29) (.const (.int .i64 0)) v19_29 (.int .i64 0)) w28 K) w27 fun v20_30 w29 =>
  gstep v18_28 true (fun w30 K => K v20_30 w30) w29 fun v21_31 w31 =>
  gstep v21_31 false (fun w32 K => X Try.prog (Instr.loadAt 25 v8_6) w32 K) w31 fun v22_32 w33 =>
  gstep v21_31 false (fun w34 K => X Try.prog (Instr.loadAt 25 v1_2) w34 K) w33 fun v23_33 w35 =>
  gstep v21_31 false (fun w36 K => X Try.prog (binOpG .neq 25 (.tmp 32) (.tmp 33) v22_32 v23_33) w36 K) w35 fun v24_34 w37 =>
  gstep v18_28 true (fun w38 K => X Try.prog (pickS v21_31 (.bool true) v24_34) w38 K) w37 fun v25_35 w39 =>
  gstep v14_23 false (fun w40 K => X Try.prog (pickS v18_28 v25_35 (.bool false)) w40 K) w39 fun v26_36 w41 =>
  X Try.prog (pickS v14_23 (.bool true) v26_36) w41 fun v27_37 w42 =>
  condS v27_37 (
  K (.bool false) w42) (
  CALL Try.prog 44 #[x1] w42 fun v28_40 w43 =>
  X Try.prog (Instr.extract v28_40 0) w43 fun v29_41 w44 =>
  X Try.prog (Instr.extract v28_40 1) w44 fun v30_42 w45 =>
  X Try.prog (Instr.alloc 25 true (.tuple #[])) w45 fun v31_8 w46 =>
  XU Try.prog (Instr.storeAt 25 v31_8 v29_41) w46 fun w47 =>
  ∃ R, Frame? R ∧
  gstep v2_10 true (fun w48 K => K v30_42 w48) (drewW w47) fun v32_45 w49 =>
  gstep v2_10 true (fun w50 K => XP Try.prog (binOpG .eql 30 (.tmp 45) (.const (.int .i64 0)) v32_45 (.int .i64 0)) w50 K) w49 fun v33_46 w51 =>
  gstep v2_10 true (fun w52 K => K v33_46 w52) w51 fun v34_47 w53 =>
  gstep v34_47 true (fun w54 K => XP Try.prog (Instr.fieldAt 25 v31_8 0) w54 K) w53 fun v35_48 w55 =>
  gstep v34_47 true (fun w56 K => XR Try.prog R (Instr.loadAt 22 v35_48) w56 K) w55 fun v36_49 w57 =>
  gstep v34_47 true (fun w58 K => XP Try.prog (binOpG .neq 22 (.tmp 49) (.const (.int .u64 0)) v36_49 (.int .u64 0)) w58 K) w57 fun v37_50 w59 =>
  gstep v2_10 true (fun w60 K => XP Try.prog (pickS v34_47 v37_50 (.bool false)) w60 K) w59 fun v38_51 w61 =>
  gstep v2_10 true (fun w62 K => K v38_51 w62) w61 fun v39_52 w63 =>
  gstep v39_52 true (fun w64 K => XR Try.prog R (Instr.loadAt 25 v31_8) w64 K) w63 fun v40_53 w65 =>
  gstep v39_52 true (fun w66 K => K x1 w66) w65 fun v41_56 w67 =>
  gstep v39_52 true (fun w68 K => XR Try.prog R (convert 27 9 v41_56) w68 K) w67 fun v42_57 w69 =>
  gstep v39_52 true (fun w70 K => CALL Try.prog 42 #[v40_53] w70 K) w69 fun v43_54 w71 =>
  R w69 w71 ∧
  gstep v39_52 true (fun w72 K => XR Try.prog R (convert 27 9 v43_54) w72 K) w71 fun v44_55 w73 =>
  gstep v39_52 true (fun w74 K => XP Try.prog (binOpG .eql 9 (.tmp 55) (.tmp 57) v44_55 v42_57) w74 K) w73 fun v45_58 w75 =>
  gstep v2_10 true (fun w76 K => XP Try.prog (pickS v39_52 v45_58 (.bool false)) w76 K) w75 fun v46_59 w77 =>
  gstep v2_10 true (fun w78 K => K v46_59 w78) w77 fun v47_60 w79 =>
  gstep v47_60 false (fun w80 K => K v30_42 w80) w79 fun v48_61 w81 =>
  gstep v47_60 false (fun w82 K => XP Try.prog (binOpG .eql 30 (.tmp 61) (.const (.int .i64 100)) v48_61 (.int .i64 100)) w82 K) w81 fun v49_62 w83 =>
  gstep v47_60 false (fun w84 K => K v49_62 w84) w83 fun v50_63 w85 =>
  gstep v50_63 true (fun w86 K => XR Try.prog R (Instr.loadAt 25 v31_8) w86 K) w85 fun v51_64 w87 =>
  gstep v50_63 true (fun w88 K => XP Try.prog (Instr.build 25 #[]) w88 K) w87 fun v52_65 w89 =>
  gstep v50_63 true (fun w90 K => XP Try.prog (binOpG .eql 25 (.tmp 64) (.tmp 65) v51_64 v52_65) w90 K) w89 fun v53_66 w91 =>
  gstep v47_60 false (fun w92 K => XP Try.prog (pickS v50_63 v53_66 (.bool false)) w92 K) w91 fun v54_67 w93 =>
  gstep v2_10 true (fun w94 K => XP Try.prog (pickS v47_60 (.bool true) v54_67) w94 K) w93 fun v55_68 w95 =>
  XP Try.prog (pickS v2_10 v55_68 (.bool false)) w95 fun v56_69 w96 =>
  K v56_69 w96)

theorem eq_law10_SlotBack (x0 x1 : Value) (w : World) (K : Value → World → Prop) :
    sh Try.prog (Try.f5.body.getD .skip) (retS Try.prog Try.f5.results K) (env0 #[x0, x1]) w = B_law10_SlotBack x0 x1 w K := by kernel_rfl

theorem call_law10_SlotBack (x0 x1 : Value) (w : World) (K : Value → World → Prop) (h : B_law10_SlotBack x0 x1 w K) : CALL Try.prog 5 #[x0, x1] w K :=
  call_of_eq (c := Try.f5.body.getD .skip) mixed Try.func5 (by kernel_rfl) (by kernel_rfl) (by kernel_rfl) (Nat.le_of_ble_eq_true (by kernel_rfl)) (eq_law10_SlotBack x0 x1 w K) h

/-- cellarage/cellaragelaw10.SlotTorn -/
def B_law10_SlotTorn (x0 x1 x2 : Value) (w : World) (K : Value → World → Prop) : Prop :=
  X Try.prog (Instr.box 25 x0) w fun v1_3 w1 =>
  X Try.prog (Instr.box 25 x1) w1 fun v2_4 w2 =>
  CALL Try.prog 41 #[] w2 fun v3_13 w3 =>
  X Try.prog (Instr.fieldAt 25 v1_3 0) w3 fun v4_14 w4 =>
  X Try.prog (Instr.loadAt 22 v4_14) w4 fun v5_15 w5 =>
  X Try.prog (convert 22 5 v5_15) w5 fun v6_16 w6 =>
  X Try.prog (Instr.fieldAt 25 v2_4 0) w6 fun v7_17 w7 =>
  X Try.prog (Instr.loadAt 22 v7_17) w7 fun v8_18 w8 =>
  X Try.prog (convert 22 5 v8_18) w8 fun v9_19 w9 =>
  X Try.prog (binOpG .eql 5 (.tmp 16) (.tmp 19) v6_16 v9_19) w9 fun v10_20 w10 =>
  gstep v10_20 false (fun w11 K => X Try.prog (Instr.fieldAt 25 v1_3 0) w11 K) w10 fun v11_22 w12 =>
  gstep v10_20 false (fun w13 K => X Try.prog (Instr.loadAt 22 v11_22) w13 K) w12 fun v12_23 w14 =>
  gstep v10_20 false (fun w15 K => X Try.prog (binOpG .eql 22 (.tmp 23) (.const (.int .u64 0)) v12_23 (.int .u64 0)) w15 K) w14 fun v13_24 w16 =>
  X Try.prog (pickS v10_20 (.bool true) v13_24) w16 fun v14_25 w17 =>
  condS v14_25 (
  K v3_13 w17) (
  X Try.prog (Instr.makeSlice 27 (.int .i64 128) (.int .i64 128)) w17 fun v15_27 w18 =>
  joinS (fun ρ1 w19 =>
  X Try.prog (Instr.loadAt 25 (ρ1 3)) w19 fun v16_33 w20 =>
  CALL Try.prog 42 #[v16_33] w20 fun v17_34 w21 =>
  X Try.prog (Builtin.len_ #[27] 3 #[(ρ1 8)]) w21 fun v18_36 w22 =>
  X Try.prog (binOpG .neq 3 (.tmp 36) (.const (.int .i64 128)) v18_36 (.int .i64 128)) w22 fun v19_37 w23 =>
  gstep v19_37 false (fun w24 K => K v17_34 w24) w23 fun v20_39 w25 =>
  gstep v19_37 false (fun w26 K => X Try.prog (Builtin.len_ #[27] 3 #[v20_39]) w26 K) w25 fun v21_40 w27 =>
  gstep v19_37 false (fun w28 K => X Try.prog (binOpG .neq 3 (.tmp 40) (.const (.int .i64 128)) v21_40 (.int .i64 128)) w28 K) w27 fun v22_41 w29 =>
  X Try.prog (pickS v19_37 (.bool true) v22_41) w29 fun v23_42 w30 =>
  condS v23_42 (
  K (.bool false) w30) (
  X Try.prog (convert 5 3 (ρ1 2)) w30 fun v24_44 w31 =>
  X Try.prog (binOp .rem 3 v24_44 (.int .i64 129)) w31 fun v25_45 w32 =>
  joinS (fun ρ2 w33 =>
  gstep (ρ2 7) true (fun w34 K => K (ρ2 12) w34) w33 fun v26_61 w35 =>
  gstep (ρ2 7) true (fun w36 K => X Try.prog (binOpG .eql 30 (.tmp 61) (.const (.int .i64 100)) v26_61 (.int .i64 100)) w36 K) w35 fun v27_62 w37 =>
  gstep (ρ2 7) true (fun w38 K => K v27_62 w38) w37 fun v28_63 w39 =>
  gstep v28_63 true (fun w40 K => K (ρ2 10) w40) w39 fun v29_64 w41 =>
  gstep v28_63 true (fun w42 K => X Try.prog (binOp .gtr 3 v29_64 (.int .i64 0)) w42 K) w41 fun v30_65 w43 =>
  gstep (ρ2 7) true (fun w44 K => X Try.prog (pickS v28_63 v30_65 (.bool false)) w44 K) w43 fun v31_66 w45 =>
  gstep (ρ2 7) true (fun w46 K => K v31_66 w46) w45 fun v32_67 w47 =>
  gstep v32_67 true (fun w48 K => K (ρ2 10) w48) w47 fun v33_68 w49 =>
  gstep v32_67 true (fun w50 K => X Try.prog (binOp .lss 3 v33_68 (.int .i64 128)) w50 K) w49 fun v34_69 w51 =>
  gstep (ρ2 7) true (fun w52 K => X Try.prog (pickS v32_67 v34_69 (.bool false)) w52 K) w51 fun v35_70 w53 =>
  gstep (ρ2 7) true (fun w54 K => K v35_70 w54) w53 fun v36_71 w55 =>
  gstep v36_71 false (fun w56 K => K (ρ2 12) w56) w55 fun v37_72 w57 =>
  gstep v36_71 false (fun w58 K => X Try.prog (binOpG .eql 30 (.tmp 72) (.const (.int .i64 100)) v37_72 (.int .i64 100)) w58 K) w57 fun v38_73 w59 =>
  gstep v36_71 false (fun w60 K => K v38_73 w60) w59 fun v39_74 w61 =>
  gstep v39_74 true (fun w62 K => K (ρ2 10) w62) w61 fun v40_75 w63 =>
  gstep v39_74 true (fun w64 K => X Try.prog (binOpG .eql 3 (.tmp 75) (.const (.int .i64 0)) v40_75 (.int .i64 0)) w64 K) w63 fun v41_76 w65 =>
  gstep v36_71 false (fun w66 K => X Try.prog (pickS v39_74 v41_76 (.bool false)) w66 K) w65 fun v42_77 w67 =>
  gstep v36_71 false (fun w68 K => K v42_77 w68) w67 fun v43_78 w69 =>
  gstep v43_78 true (fun w70 K => X Try.prog (Instr.fieldAt 25 (ρ2 4) 0) w70 K) w69 fun v44_79 w71 =>
  gstep v43_78 true (fun w72 K => X Try.prog (Instr.loadAt 22 v44_79) w72 K) w71 fun v45_80 w73 =>
  gstep v43_78 true (fun w74 K => X Try.prog (binOpG .eql 22 (.tmp 80) (.const (.int .u64 0)) v45_80 (.int .u64 0)) w74 K) w73 fun v46_81 w75 =>
  gstep v36_71 false (fun w76 K => X Try.prog (pickS v43_78 v46_81 (.bool false)) w76 K) w75 fun v47_82 w77 =>
  gstep (ρ2 7) true (fun w78 K => X Try.prog (pickS v36_71 (.bool true) v47_82) w78 K) w77 fun v48_83 w79 =>
  gstep (ρ2 7) true (fun w80 K => K v48_83 w80) w79 fun v49_84 w81 =>
  gstep v49_84 false (fun w82 K => K (ρ2 12) w82) w81 fun v50_85 w83 =>
  gstep v49_84 false (fun w84 K => X Try.prog (binOpG .eql 30 (.tmp 85) (.const (.int .i64 0)) v50_85 (.int .i64 0)) w84 K) w83 fun v51_86 w85 =>
  gstep v49_84 false (fun w86 K => K v51_86 w86) w85 fun v52_87 w87 =>
  gstep v52_87 true (fun w88 K => X Try.prog (Instr.loadAt 25 (ρ2 11)) w88 K) w87 fun v53_88 w89 =>
  gstep v52_87 true (fun w90 K => X Try.prog (Instr.loadAt 25 (ρ2 3)) w90 K) w89 fun v54_89 w91 =>
  gstep v52_87 true (fun w92 K => X Try.prog (binOpG .eql 25 (.tmp 88) (.tmp 89) v53_88 v54_89) w92 K) w91 fun v55_90 w93 =>
  gstep v52_87 true (fun w94 K => K v55_90 w94) w93 fun v56_91 w95 =>
  gstep v56_91 false (fun w96 K => X Try.prog (Instr.loadAt 25 (ρ2 11)) w96 K) w95 fun v57_92 w97 =>
  gstep v56_91 false (fun w98 K => X Try.prog (Instr.loadAt 25 (ρ2 4)) w98 K) w97 fun v58_93 w99 =>
  gstep v56_91 false (fun w100 K => X Try.prog (binOpG .eql 25 (.tmp 92) (.tmp 93) v57_92 v58_93) w100 K) w99 fun v59_94 w101 =>
  gstep v56_91 false (fun w102 K => K v59_94 w102) w101 fun v60_95 w103 =>
  gstep v60_95 true (fun w104 K => X Try.prog (Instr.fieldAt 25 (ρ2 4) 0) w104 K) w103 fun v61_96 w105 =>
  gstep v60_95 true (fun w106 K => X Try.prog (Instr.loadAt 22 v61_96) w106 K) w105 fun v62_97 w107 =>
  gstep v60_95 true (fun w108 K => X Try.prog (binOpG .neq 22 (.tmp 97) (.const (.int .u64 0)) v62_97 (.int .u64 0)) w108 K) w107 fun v63_98 w109 =>
  gstep v56_91 false (fun w110 K => X Try.prog (pickS v60_95 v63_98 (.bool false)) w110 K) w109 fun v64_99 w111 =>
  gstep v52_87 true (fun w112 K => X Try.prog (pickS v56_91 (.bool true) v64_99) w112 K) w111 fun v65_100 w113 =>
  gstep v49_84 false (fun w114 K => X Try.prog (pickS v52_87 v65_100 (.bool false)) w114 K) w113 fun v66_101 w115 =>
  gstep (ρ2 7) true (fun w116 K => X Try.prog (pickS v49_84 (.bool true) v66_101) w116 K) w115 fun v67_102 w117 =>
  X Try.prog (pickS (ρ2 7) v67_102 (.bool false)) w117 fun v68_103 w118 =>
  K v68_103 w118) fun J2 =>
  ∃ R, Frame? R ∧
  XP Try.prog (Instr.sliceAt 27 v17_34 none (some v25_45) none) (drewW w32) fun v69_50 w119 =>
  XP Try.prog (Instr.sliceAt 27 (ρ1 8) (some v25_45) none none) w119 fun v70_54 w120 =>
  (X Try.prog (Instr.buildSlice 27 0 #[]) w120 fun v71_47 w121 =>
  (X Try.prog (Builtin.append_ #[27, 27] 27 #[v71_47, v69_50]) w121 fun v72_51 w122 =>
  (X Try.prog (Builtin.append_ #[27, 27] 27 #[v72_51, v70_54]) w122 fun v73_55 w123 =>
  (CALL Try.prog 44 #[v73_55] w123 fun v74_56 w124 =>
  XP Try.prog (Instr.extract v74_56 0) w124 fun v75_57 w125 =>
  XP Try.prog (Instr.extract v74_56 1) w125 fun v76_58 w126 =>
  X Try.prog (Instr.alloc 25 true (.tuple #[])) w126 fun v77_11 w127 =>
  XU Try.prog (Instr.storeAt 25 v77_11 v75_57) w127 fun w128 =>
  J2 (upds ρ1 [(12, v76_58), (11, v77_11), (58, v76_58), (57, v75_57), (46, v74_56), (56, v74_56), (55, v73_55), (51, v72_51), (47, v71_47), (54, v70_54), (53, v25_45), (52, (ρ1 8)), (50, v69_50), (49, v25_45), (48, v17_34), (10, v25_45), (45, v25_45), (44, v24_44), (43, (ρ1 2)), (42, v23_42), (41, v22_41), (40, v21_40), (39, v20_39), (38, v19_37), (37, v19_37), (36, v18_36), (35, (ρ1 8)), (9, v17_34), (34, v17_34), (33, v16_33)]) w128) ∧
  (X Try.prog (Instr.alloc 25 true (.tuple #[])) w123 fun v78_11 w129 =>
  CALL Try.prog 44 #[v73_55] w129 fun v79_56 w130 =>
  XP Try.prog (Instr.extract v79_56 0) w130 fun v80_57 w131 =>
  XP Try.prog (Instr.extract v79_56 1) w131 fun v81_58 w132 =>
  XU Try.prog (Instr.storeAt 25 v78_11 v80_57) w132 fun w133 =>
  J2 (upds ρ1 [(12, v81_58), (58, v81_58), (57, v80_57), (46, v79_56), (56, v79_56), (11, v78_11), (55, v73_55), (51, v72_51), (47, v71_47), (54, v70_54), (53, v25_45), (52, (ρ1 8)), (50, v69_50), (49, v25_45), (48, v17_34), (10, v25_45), (45, v25_45), (44, v24_44), (43, (ρ1 2)), (42, v23_42), (41, v22_41), (40, v21_40), (39, v20_39), (38, v19_37), (37, v19_37), (36, v18_36), (35, (ρ1 8)), (9, v17_34), (34, v17_34), (33, v16_33)]) w133)) ∧
  (X Try.prog (Instr.alloc 25 true (.tuple #[])) w122 fun v82_11 w134 =>
  X Try.prog (Builtin.append_ #[27, 27] 27 #[v72_51, v70_54]) w134 fun v83_55 w135 =>
  CALL Try.prog 44 #[v83_55] w135 fun v84_56 w136 =>
  XP Try.prog (Instr.extract v84_56 0) w136 fun v85_57 w137 =>
  XP Try.prog (Instr.extract v84_56 1) w137 fun v86_58 w138 =>
  XU Try.prog (Instr.storeAt 25 v82_11 v85_57) w138 fun w139 =>
  J2 (upds ρ1 [(12, v86_58), (58, v86_58), (57, v85_57), (46, v84_56), (56, v84_56), (55, v83_55), (11, v82_11), (51, v72_51), (47, v71_47), (54, v70_54), (53, v25_45), (52, (ρ1 8)), (50, v69_50), (49, v25_45), (48, v17_34), (10, v25_45), (45, v25_45), (44, v24_44), (43, (ρ1 2)), (42, v23_42), (41, v22_41), (40, v21_40), (39, v20_39), (38, v19_37), (37, v19_37), (36, v18_36), (35, (ρ1 8)), (9, v17_34), (34, v17_34), (33, v16_33)]) w139)) ∧
  (X Try.prog (Instr.alloc 25 true (.tuple #[])) w121 fun v87_11 w140 =>
  X Try.prog (Builtin.append_ #[27, 27] 27 #[v71_47, v69_50]) w140 fun v88_51 w141 =>
  X Try.prog (Builtin.append_ #[27, 27] 27 #[v88_51, v70_54]) w141 fun v89_55 w142 =>
  CALL Try.prog 44 #[v89_55] w142 fun v90_56 w143 =>
  XP Try.prog (Instr.extract v90_56 0) w143 fun v91_57 w144 =>
  XP Try.prog (Instr.extract v90_56 1) w144 fun v92_58 w145 =>
  XU Try.prog (Instr.storeAt 25 v87_11 v91_57) w145 fun w146 =>
  J2 (upds ρ1 [(12, v92_58), (58, v92_58), (57, v91_57), (46, v90_56), (56, v90_56), (55, v89_55), (51, v88_51), (11, v87_11), (47, v71_47), (54, v70_54), (53, v25_45), (52, (ρ1 8)), (50, v69_50), (49, v25_45), (48, v17_34), (10, v25_45), (45, v25_45), (44, v24_44), (43, (ρ1 2)), (42, v23_42), (41, v22_41), (40, v21_40), (39, v20_39), (38, v19_37), (37, v19_37), (36, v18_36), (35, (ρ1 8)), (9, v17_34), (34, v17_34), (33, v16_33)]) w146)) ∧
  (X Try.prog (Instr.alloc 25 true (.tuple #[])) w120 fun v93_11 w147 =>
  X Try.prog (Instr.buildSlice 27 0 #[]) w147 fun v94_47 w148 =>
  X Try.prog (Builtin.append_ #[27, 27] 27 #[v94_47, v69_50]) w148 fun v95_51 w149 =>
  X Try.prog (Builtin.append_ #[27, 27] 27 #[v95_51, v70_54]) w149 fun v96_55 w150 =>
  CALL Try.prog 44 #[v96_55] w150 fun v97_56 w151 =>
  XP Try.prog (Instr.extract v97_56 0) w151 fun v98_57 w152 =>
  XP Try.prog (Instr.extract v97_56 1) w152 fun v99_58 w153 =>
  XU Try.prog (Instr.storeAt 25 v93_11 v98_57) w153 fun w154 =>
  J2 (upds ρ1 [(12, v99_58), (58, v99_58), (57, v98_57), (46, v97_56), (56, v97_56), (55, v96_55), (51, v95_51), (47, v94_47), (11, v93_11), (54, v70_54), (53, v25_45), (52, (ρ1 8)), (50, v69_50), (49, v25_45), (48, v17_34), (10, v25_45), (45, v25_45), (44, v24_44), (43, (ρ1 2)), (42, v23_42), (41, v22_41), (40, v21_40), (39, v20_39), (38, v19_37), (37, v19_37), (36, v18_36), (35, (ρ1 8)), (9, v17_34), (34, v17_34), (33, v16_33)]) w154))) fun J1 =>
  X Try.prog (Instr.fieldAt 25 v2_4 0) w18 fun v100_28 w155 =>
  X Try.prog (Instr.loadAt 22 v100_28) w155 fun v101_29 w156 =>
  X Try.prog (binOpG .neq 22 (.tmp 29) (.const (.int .u64 0)) v101_29 (.int .u64 0)) w156 fun v102_30 w157 =>
  condS v102_30 (
  X Try.prog (Instr.loadAt 25 v2_4) w157 fun v103_31 w158 =>
  CALL Try.prog 42 #[v103_31] w158 fun v104_32 w159 =>
  J1 (upds (env0 #[x0, x1, x2]) [(8, v104_32), (32, v104_32), (31, v103_31), (30, v102_30), (29, v101_29), (28, v100_28), (8, v15_27), (27, v15_27), (25, v14_25), (24, v13_24), (23, v12_23), (22, v11_22), (21, v10_20), (20, v10_20), (19, v9_19), (18, v8_18), (17, v7_17), (16, v6_16), (15, v5_15), (14, v4_14), (7, v3_13), (13, v3_13), (6, (.bool false)), (4, v2_4), (3, v1_3)]) w159) (
  J1 (upds (env0 #[x0, x1, x2]) [(30, v102_30), (29, v101_29), (28, v100_28), (8, v15_27), (27, v15_27), (25, v14_25), (24, v13_24), (23, v12_23), (22, v11_22), (21, v10_20), (20, v10_20), (19, v9_19), (18, v8_18), (17, v7_17), (16, v6_16), (15, v5_15), (14, v4_14), (7, v3_13), (13, v3_13), (6, (.bool false)), (4, v2_4), (3, v1_3)]) w157))

theorem eq_law10_SlotTorn (x0 x1 x2 : Value) (w : World) (K : Value → World → Prop) :
    sh Try.prog (Try.f6.body.getD .skip) (retS Try.prog Try.f6.results K) (env0 #[x0, x1, x2]) w = B_law10_SlotTorn x0 x1 x2 w K := by kernel_rfl

theorem call_law10_SlotTorn (x0 x1 x2 : Value) (w : World) (K : Value → World → Prop) (h : B_law10_SlotTorn x0 x1 x2 w K) : CALL Try.prog 6 #[x0, x1, x2] w K :=
  call_of_eq (c := Try.f6.body.getD .skip) mixed Try.func6 (by kernel_rfl) (by kernel_rfl) (by kernel_rfl) (Nat.le_of_ble_eq_true (by kernel_rfl)) (eq_law10_SlotTorn x0 x1 x2 w K) h

/-- cellarage/cellaragelaw10.SlotNewer -/
def B_law10_SlotNewer (x0 x1 : Value) (w : World) (K : Value → World → Prop) : Prop :=
  CALL Try.prog 48 #[x0, x1] w fun v1_14 w1 =>
  X Try.prog (Instr.extract v1_14 0) w1 fun v2_15 w2 =>
  X Try.prog (Instr.extract v1_14 1) w2 fun v3_16 w3 =>
  X Try.prog (Instr.extract v1_14 2) w3 fun v4_17 w4 =>
  X Try.prog (Instr.alloc 25 true (.tuple #[])) w4 fun v5_5 w5 =>
  XU Try.prog (Instr.storeAt 25 v5_5 v2_15) w5 fun w6 =>
  CALL Try.prog 49 #[x0, x1] w6 fun v6_21 w7 =>
  X Try.prog (Instr.extract v6_21 0) w7 fun v7_22 w8 =>
  X Try.prog (Instr.extract v6_21 1) w8 fun v8_23 w9 =>
  X Try.prog (Instr.extract v6_21 2) w9 fun v9_24 w10 =>
  X Try.prog (Instr.alloc 25 true (.tuple #[])) w10 fun v10_8 w11 =>
  XU Try.prog (Instr.storeAt 25 v10_8 v7_22) w11 fun w12 =>
  CALL Try.prog 41 #[] w12 fun v11_25 w13 =>
  gstep v11_25 true (fun w14 K => X Try.prog (Instr.loadAt 25 v5_5) w14 K) w13 fun v12_27 w15 =>
  gstep v11_25 true (fun w16 K => X Try.prog (Instr.loadAt 25 v10_8) w16 K) w15 fun v13_28 w17 =>
  gstep v11_25 true (fun w18 K => X Try.prog (binOpG .eql 25 (.tmp 27) (.tmp 28) v12_27 v13_28) w18 K) w17 fun v14_29 w19 =>
  X Try.prog (pickS v11_25 v14_29 (.bool false)) w19 fun v15_30 w20 =>
  gstep v15_30 true (fun w21 K => K v3_16 w21) w20 fun v16_32 w22 =>
  gstep v15_30 true (fun w23 K => K v8_23 w23) w22 fun v17_33 w24 =>
  gstep v15_30 true (fun w25 K => X Try.prog (binOpG .eql 3 (.tmp 32) (.tmp 33) v16_32 v17_33) w25 K) w24 fun v18_34 w26 =>
  X Try.prog (pickS v15_30 v18_34 (.bool false)) w26 fun v19_35 w27 =>
  gstep v19_35 true (fun w28 K => K v4_17 w28) w27 fun v20_37 w29 =>
  gstep v19_35 true (fun w30 K => K v9_24 w30) w29 fun v21_38 w31 =>
  gstep v19_35 true (fun w32 K => X Try.prog (binOpG .eql 30 (.tmp 37) (.tmp 38) v20_37 v21_38) w32 K) w31 fun v22_39 w33 =>
  X Try.prog (pickS v19_35 v22_39 (.bool false)) w33 fun v23_40 w34 =>
  K v23_40 w34

theorem eq_law10_SlotNewer (x0 x1 : Value) (w : World) (K : Value → World → Prop) :
    sh Try.prog (Try.f8.body.getD .skip) (retS Try.prog Try.f8.results K) (env0 #[x0, x1]) w = B_law10_SlotNewer x0 x1 w K := by kernel_rfl

theorem call_law10_SlotNewer (x0 x1 : Value) (w : World) (K : Value → World → Prop) (h : B_law10_SlotNewer x0 x1 w K) : CALL Try.prog 8 #[x0, x1] w K :=
  call_of_eq (c := Try.f8.body.getD .skip) mixed Try.func8 (by kernel_rfl) (by kernel_rfl) (by kernel_rfl) (Nat.le_of_ble_eq_true (by kernel_rfl)) (eq_law10_SlotNewer x0 x1 w K) h

/-- cellarage/cellaragelaw10.SlotCommits -/
def B_law10_SlotCommits (x0 x1 x2 : Value) (w : World) (K : Value → World → Prop) : Prop :=
  X Try.prog (Instr.box 25 x0) w fun v1_3 w1 =>
  X Try.prog (Instr.box 41 x1) w1 fun v2_4 w2 =>
  CALL Try.prog 41 #[] w2 fun v3_20 w3 =>
  X Try.prog (Instr.fieldAt 25 v1_3 0) w3 fun v4_21 w4 =>
  X Try.prog (Instr.loadAt 22 v4_21) w4 fun v5_22 w5 =>
  X Try.prog (binOp .lss 22 v5_22 (.int .u64 3)) w5 fun v6_23 w6 =>
  condS v6_23 (
  K v3_20 w6) (
  X Try.prog (Instr.fieldAt 25 v1_3 0) w6 fun v7_25 w7 =>
  X Try.prog (Instr.loadAt 22 v7_25) w7 fun v8_26 w8 =>
  X Try.prog (binOp .sub 22 v8_26 (.int .u64 2)) w8 fun v9_27 w9 =>
  X Try.prog (Instr.indexAt 41 v2_4 (.int .i64 0)) w9 fun v10_28 w10 =>
  X Try.prog (Instr.loadAt 5 v10_28) w10 fun v11_29 w11 =>
  X Try.prog (Instr.fieldAt 25 v1_3 3) w11 fun v12_30 w12 =>
  X Try.prog (Instr.loadAt 23 v12_30) w12 fun v13_31 w13 =>
  X Try.prog (Instr.build 25 #[(0, v9_27), (1, v11_29), (2, v13_31)]) w13 fun v14_32 w14 =>
  X Try.prog (Instr.alloc 25 true (.tuple #[])) w14 fun v15_8 w15 =>
  XU Try.prog (Instr.storeAt 25 v15_8 v14_32) w15 fun w16 =>
  X Try.prog (Instr.fieldAt 25 v1_3 0) w16 fun v16_33 w17 =>
  X Try.prog (Instr.loadAt 22 v16_33) w17 fun v17_34 w18 =>
  X Try.prog (binOp .sub 22 v17_34 (.int .u64 1)) w18 fun v18_35 w19 =>
  X Try.prog (Instr.indexAt 41 v2_4 (.int .i64 1)) w19 fun v19_36 w20 =>
  X Try.prog (Instr.loadAt 5 v19_36) w20 fun v20_37 w21 =>
  X Try.prog (Instr.fieldAt 25 v1_3 2) w21 fun v21_38 w22 =>
  X Try.prog (Instr.loadAt 23 v21_38) w22 fun v22_39 w23 =>
  X Try.prog (Instr.build 25 #[(0, v18_35), (1, v20_37), (3, v22_39)]) w23 fun v23_40 w24 =>
  X Try.prog (Instr.alloc 25 true (.tuple #[])) w24 fun v24_9 w25 =>
  XU Try.prog (Instr.storeAt 25 v24_9 v23_40) w25 fun w26 =>
  ∃ R, Frame? R ∧
  XR Try.prog R (Instr.loadAt 25 v1_3) (drewW w26) fun v25_41 w27 =>
  XR Try.prog R (Instr.loadAt 25 v15_8) w27 fun v26_43 w28 =>
  CALL Try.prog 42 #[v25_41] w28 fun v27_42 w29 =>
  R w28 w29 ∧
  CALL Try.prog 42 #[v26_43] w29 fun v28_44 w30 =>
  R w29 w30 ∧
  X Try.prog (Builtin.len_ #[27] 3 #[v27_42]) w30 fun v29_46 w31 =>
  X Try.prog (binOpG .neq 3 (.tmp 46) (.const (.int .i64 128)) v29_46 (.int .i64 128)) w31 fun v30_47 w32 =>
  gstep v30_47 false (fun w33 K => K v28_44 w33) w32 fun v31_49 w34 =>
  gstep v30_47 false (fun w35 K => X Try.prog (Builtin.len_ #[27] 3 #[v31_49]) w35 K) w34 fun v32_50 w36 =>
  gstep v30_47 false (fun w37 K => X Try.prog (binOpG .neq 3 (.tmp 50) (.const (.int .i64 128)) v32_50 (.int .i64 128)) w37 K) w36 fun v33_51 w38 =>
  X Try.prog (pickS v30_47 (.bool true) v33_51) w38 fun v34_52 w39 =>
  condS v34_52 (
  K (.bool false) w39) (
  X Try.prog (convert 5 3 x2) w39 fun v35_54 w40 =>
  X Try.prog (binOp .rem 3 v35_54 (.int .i64 129)) w40 fun v36_55 w41 =>
  ∃ R, Frame? R ∧
  XP Try.prog (Instr.sliceAt 27 v27_42 none (some v36_55) none) (drewW w41) fun v37_59 w42 =>
  XP Try.prog (Instr.sliceAt 27 v28_44 (some v36_55) none none) w42 fun v38_63 w43 =>
  X Try.prog (Instr.buildSlice 27 0 #[]) w43 fun v39_56 w44 =>
  X Try.prog (Builtin.append_ #[27, 27] 27 #[v39_56, v37_59]) w44 fun v40_60 w45 =>
  X Try.prog (Builtin.append_ #[27, 27] 27 #[v40_60, v38_63]) w45 fun v41_64 w46 =>
  X Try.prog (Instr.loadAt 25 v24_9) w46 fun v42_67 w47 =>
  CALL Try.prog 42 #[v42_67] w47 fun v43_68 w48 =>
  CALL Try.prog 48 #[v41_64, v43_68] w48 fun v44_69 w49 =>
  X Try.prog (Instr.extract v44_69 0) w49 fun v45_70 w50 =>
  X Try.prog (Instr.extract v44_69 1) w50 fun v46_71 w51 =>
  X Try.prog (Instr.extract v44_69 2) w51 fun v47_72 w52 =>
  X Try.prog (Instr.alloc 25 true (.tuple #[])) w52 fun v48_14 w53 =>
  XU Try.prog (Instr.storeAt 25 v48_14 v45_70) w53 fun w54 =>
  X Try.prog (Instr.loadAt 25 v24_9) w54 fun v49_74 w55 =>
  CALL Try.prog 42 #[v49_74] w55 fun v50_75 w56 =>
  CALL Try.prog 48 #[v50_75, v41_64] w56 fun v51_77 w57 =>
  X Try.prog (Instr.extract v51_77 0) w57 fun v52_78 w58 =>
  X Try.prog (Instr.extract v51_77 1) w58 fun v53_79 w59 =>
  X Try.prog (Instr.extract v51_77 2) w59 fun v54_80 w60 =>
  X Try.prog (Instr.alloc 25 true (.tuple #[])) w60 fun v55_17 w61 =>
  XU Try.prog (Instr.storeAt 25 v55_17 v52_78) w61 fun w62 =>
  X Try.prog (binOpG .neq 30 (.tmp 81) (.const (.int .i64 0)) v47_72 (.int .i64 0)) w62 fun v56_82 w63 =>
  gstep v56_82 false (fun w64 K => K v54_80 w64) w63 fun v57_84 w65 =>
  gstep v56_82 false (fun w66 K => X Try.prog (binOpG .neq 30 (.tmp 84) (.const (.int .i64 0)) v57_84 (.int .i64 0)) w66 K) w65 fun v58_85 w67 =>
  X Try.prog (pickS v56_82 (.bool true) v58_85) w67 fun v59_86 w68 =>
  gstep v59_86 false (fun w69 K => X Try.prog (Instr.loadAt 25 v48_14) w69 K) w68 fun v60_88 w70 =>
  gstep v59_86 false (fun w71 K => X Try.prog (Instr.loadAt 25 v55_17) w71 K) w70 fun v61_89 w72 =>
  gstep v59_86 false (fun w73 K => X Try.prog (binOpG .neq 25 (.tmp 88) (.tmp 89) v60_88 v61_89) w73 K) w72 fun v62_90 w74 =>
  X Try.prog (pickS v59_86 (.bool true) v62_90) w74 fun v63_91 w75 =>
  gstep v63_91 false (fun w76 K => K v46_71 w76) w75 fun v64_93 w77 =>
  gstep v63_91 false (fun w78 K => K v53_79 w78) w77 fun v65_94 w79 =>
  gstep v63_91 false (fun w80 K => X Try.prog (binOp .add 3 v64_93 v65_94) w80 K) w79 fun v66_95 w81 =>
  gstep v63_91 false (fun w82 K => X Try.prog (binOpG .neq 3 (.tmp 95) (.const (.int .i64 1)) v66_95 (.int .i64 1)) w82 K) w81 fun v67_96 w83 =>
  X Try.prog (pickS v63_91 (.bool true) v67_96) w83 fun v68_97 w84 =>
  condS v68_97 (
  K (.bool false) w84) (
  gstep v3_20 true (fun w85 K => X Try.prog (Instr.loadAt 25 v48_14) w85 K) w84 fun v69_100 w86 =>
  gstep v3_20 true (fun w87 K => X Try.prog (Instr.loadAt 25 v24_9) w87 K) w86 fun v70_101 w88 =>
  gstep v3_20 true (fun w89 K => X Try.prog (binOpG .eql 25 (.tmp 100) (.tmp 101) v69_100 v70_101) w89 K) w88 fun v71_102 w90 =>
  gstep v3_20 true (fun w91 K => K v71_102 w91) w90 fun v72_103 w92 =>
  gstep v72_103 true (fun w93 K => K v46_71 w93) w92 fun v73_104 w94 =>
  gstep v72_103 true (fun w95 K => X Try.prog (binOpG .eql 3 (.tmp 104) (.const (.int .i64 1)) v73_104 (.int .i64 1)) w95 K) w94 fun v74_105 w96 =>
  gstep v3_20 true (fun w97 K => X Try.prog (pickS v72_103 v74_105 (.bool false)) w97 K) w96 fun v75_106 w98 =>
  gstep v3_20 true (fun w99 K => K v75_106 w99) w98 fun v76_107 w100 =>
  gstep v76_107 true (fun w101 K => K v36_55 w101) w100 fun v77_108 w102 =>
  gstep v76_107 true (fun w103 K => X Try.prog (binOp .lss 3 v77_108 (.int .i64 128)) w103 K) w102 fun v78_109 w104 =>
  gstep v3_20 true (fun w105 K => X Try.prog (pickS v76_107 v78_109 (.bool false)) w105 K) w104 fun v79_110 w106 =>
  gstep v3_20 true (fun w107 K => K v79_110 w107) w106 fun v80_111 w108 =>
  gstep v80_111 false (fun w109 K => X Try.prog (Instr.loadAt 25 v48_14) w109 K) w108 fun v81_112 w110 =>
  gstep v80_111 false (fun w111 K => X Try.prog (Instr.loadAt 25 v1_3) w111 K) w110 fun v82_113 w112 =>
  gstep v80_111 false (fun w113 K => X Try.prog (binOpG .eql 25 (.tmp 112) (.tmp 113) v81_112 v82_113) w113 K) w112 fun v83_114 w114 =>
  gstep v80_111 false (fun w115 K => K v83_114 w115) w114 fun v84_115 w116 =>
  gstep v84_115 true (fun w117 K => K v46_71 w117) w116 fun v85_116 w118 =>
  gstep v84_115 true (fun w119 K => X Try.prog (binOpG .eql 3 (.tmp 116) (.const (.int .i64 0)) v85_116 (.int .i64 0)) w119 K) w118 fun v86_117 w120 =>
  gstep v80_111 false (fun w121 K => X Try.prog (pickS v84_115 v86_117 (.bool false)) w121 K) w120 fun v87_118 w122 =>
  gstep v3_20 true (fun w123 K => X Try.prog (pickS v80_111 (.bool true) v87_118) w123 K) w122 fun v88_119 w124 =>
  X Try.prog (pickS v3_20 v88_119 (.bool false)) w124 fun v89_120 w125 =>
  K v89_120 w125)))

theorem eq_law10_SlotCommits (x0 x1 x2 : Value) (w : World) (K : Value → World → Prop) :
    sh Try.prog (Try.f9.body.getD .skip) (retS Try.prog Try.f9.results K) (env0 #[x0, x1, x2]) w = B_law10_SlotCommits x0 x1 x2 w K := by kernel_rfl

theorem call_law10_SlotCommits (x0 x1 x2 : Value) (w : World) (K : Value → World → Prop) (h : B_law10_SlotCommits x0 x1 x2 w K) : CALL Try.prog 9 #[x0, x1, x2] w K :=
  call_of_eq (c := Try.f9.body.getD .skip) mixed Try.func9 (by kernel_rfl) (by kernel_rfl) (by kernel_rfl) (Nat.le_of_ble_eq_true (by kernel_rfl)) (eq_law10_SlotCommits x0 x1 x2 w K) h

end Go.Proofs.Ytggggfcgnkllgaa
