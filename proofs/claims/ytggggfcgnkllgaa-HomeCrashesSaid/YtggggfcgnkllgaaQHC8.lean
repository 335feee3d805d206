/- Part 8 of what the law is proved with: T4 Slot4 Shown10 ArgSlot TakeAll Newer Newer2 HomeNum T13 Home1 Torn HomeLaw VaultLaw. -/
import Derived.Test.YtggggfcgnkllgaaQHC7
section
set_option linter.unusedVariables false
namespace Go.Proofs.Ytggggfcgnkllgaa
open Go Go.Sh
attribute [local irreducible] X XU XP XR CALL loopS resC closS
/-- cellarage/cellaragelaw10.shown -/
def B_law10_shown (w : World) (K : Value → World → Prop) : Prop :=
  X Try.prog (Instr.makeSlice 27 (.int .i64 128) (.int .i64 128)) w fun v1_5 w1 =>
  CALL Try.prog 44 #[v1_5] w1 fun v2_6 w2 =>
  X Try.prog (Instr.extract v2_6 0) w2 fun v3_7 w3 =>
  X Try.prog (Instr.extract v2_6 1) w3 fun v4_8 w4 =>
  X Try.prog (Instr.alloc 25 true (.tuple #[])) w4 fun v5_1 w5 =>
  XU Try.prog (Instr.storeAt 25 v5_1 v3_7) w5 fun w6 =>
  X Try.prog (Instr.build 25 #[(0, (.int .u64 1))]) w6 fun v6_9 w7 =>
  CALL Try.prog 42 #[v6_9] w7 fun v7_10 w8 =>
  X Try.prog (binOpG .eql 30 (.tmp 11) (.const (.int .i64 100)) v4_8 (.int .i64 100)) w8 fun v8_12 w9 =>
  gstep v8_12 true (fun w10 K => K v7_10 w10) w9 fun v9_14 w11 =>
  gstep v8_12 true (fun w12 K => X Try.prog (Builtin.len_ #[27] 3 #[v9_14]) w12 K) w11 fun v10_15 w13 =>
  gstep v8_12 true (fun w14 K => X Try.prog (binOpG .eql 3 (.tmp 15) (.const (.int .i64 128)) v10_15 (.int .i64 128)) w14 K) w13 fun v11_16 w15 =>
  X Try.prog (pickS v8_12 v11_16 (.bool false)) w15 fun v12_17 w16 =>
  gstep v12_17 true (fun w17 K => K v7_10 w17) w16 fun v13_19 w18 =>
  gstep v12_17 true (fun w19 K => X Try.prog (Instr.indexAt 27 v13_19 (.int .i64 7)) w19 K) w18 fun v14_20 w20 =>
  gstep v12_17 true (fun w21 K => X Try.prog (Instr.loadAt 5 v14_20) w21 K) w20 fun v15_21 w22 =>
  gstep v12_17 true (fun w23 K => X Try.prog (binOpG .eql 5 (.tmp 21) (.const (.int .u8 1)) v15_21 (.int .u8 1)) w23 K) w22 fun v16_22 w24 =>
  X Try.prog (pickS v12_17 v16_22 (.bool false)) w24 fun v17_23 w25 =>
  gstep v17_23 true (fun w26 K => K v7_10 w26) w25 fun v18_25 w27 =>
  gstep v17_23 true (fun w28 K => X Try.prog (Instr.indexAt 27 v18_25 (.int .i64 127)) w28 K) w27 fun v19_26 w29 =>
  gstep v17_23 true (fun w30 K => X Try.prog (Instr.loadAt 5 v19_26) w30 K) w29 fun v20_27 w31 =>
  gstep v17_23 true (fun w32 K => X Try.prog (binOpG .eql 5 (.tmp 27) (.const (.int .u8 1)) v20_27 (.int .u8 1)) w32 K) w31 fun v21_28 w33 =>
  X Try.prog (pickS v17_23 v21_28 (.bool false)) w33 fun v22_29 w34 =>
  gstep v22_29 true (fun w35 K => K v7_10 w35) w34 fun v23_31 w36 =>
  gstep v22_29 true (fun w37 K => X Try.prog (Instr.indexAt 27 v23_31 (.int .i64 8)) w37 K) w36 fun v24_32 w38 =>
  gstep v22_29 true (fun w39 K => X Try.prog (Instr.loadAt 5 v24_32) w39 K) w38 fun v25_33 w40 =>
  gstep v22_29 true (fun w41 K => X Try.prog (binOpG .eql 5 (.tmp 33) (.const (.int .u8 0)) v25_33 (.int .u8 0)) w41 K) w40 fun v26_34 w42 =>
  X Try.prog (pickS v22_29 v26_34 (.bool false)) w42 fun v27_35 w43 =>
  K v27_35 w43

theorem eq_law10_shown (w : World) (K : Value → World → Prop) :
    sh Try.prog (Try.f41.body.getD .skip) (retS Try.prog Try.f41.results K) (env0 #[]) w = B_law10_shown  w K := by kernel_rfl

theorem call_law10_shown (w : World) (K : Value → World → Prop) (h : B_law10_shown  w K) : CALL Try.prog 41 #[] w K :=
  call_of_eq (c := Try.f41.body.getD .skip) mixed Try.func41 (by kernel_rfl) (by kernel_rfl) (by kernel_rfl) (Nat.le_of_ble_eq_true (by kernel_rfl)) (eq_law10_shown  w K) h

/-- cellarage/cellaragelaw10.SlotLays -/
def B_law10_SlotLays (x0 : Value) (w : World) (K : Value → World → Prop) : Prop :=
  X Try.prog (Instr.box 25 x0) w fun v1_1 w1 =>
  ∃ R, Frame? R ∧
  CALL Try.prog 41 #[] (drewW w1) fun v2_3 w2 =>
  gstep v2_3 true (fun w3 K => XR Try.prog R (Instr.loadAt 25 v1_1) w3 K) w2 fun v3_5 w4 =>
  gstep v2_3 true (fun w5 K => XR Try.prog R (Instr.loadAt 25 v1_1) w5 K) w4 fun v4_8 w6 =>
  gstep v2_3 true (fun w7 K => CALL Try.prog 42 #[v3_5] w7 K) w6 fun v5_6 w8 =>
  R w6 w8 ∧
  gstep v2_3 true (fun w9 K => XR Try.prog R (convert 27 9 v5_6) w9 K) w8 fun v6_7 w10 =>
  gstep v2_3 true (fun w11 K => CALL Try.prog 43 #[v4_8] w11 K) w10 fun v7_9 w12 =>
  R w10 w12 ∧
  gstep v2_3 true (fun w13 K => XR Try.prog R (convert 27 9 v7_9) w13 K) w12 fun v8_10 w14 =>
  gstep v2_3 true (fun w15 K => XP Try.prog (binOpG .eql 9 (.tmp 7) (.tmp 10) v6_7 v8_10) w15 K) w14 fun v9_11 w16 =>
  XP Try.prog (pickS v2_3 v9_11 (.bool false)) w16 fun v10_12 w17 =>
  K v10_12 w17

theorem eq_law10_SlotLays (x0 : Value) (w : World) (K : Value → World → Prop) :
    sh Try.prog (Try.f3.body.getD .skip) (retS Try.prog Try.f3.results K) (env0 #[x0]) w = B_law10_SlotLays x0 w K := by kernel_rfl

theorem call_law10_SlotLays (x0 : Value) (w : World) (K : Value → World → Prop) (h : B_law10_SlotLays x0 w K) : CALL Try.prog 3 #[x0] w K :=
  call_of_eq (c := Try.f3.body.getD .skip) mixed Try.func3 (by kernel_rfl) (by kernel_rfl) (by kernel_rfl) (Nat.le_of_ble_eq_true (by kernel_rfl)) (eq_law10_SlotLays x0 w K) h

/-- cellarage/cellaragelaw10.SlotTakes -/
def B_law10_SlotTakes (x0 : Value) (w : World) (K : Value → World → Prop) : Prop :=
  CALL Try.prog 44 #[x0] w fun v1_9 w1 =>
  X Try.prog (Instr.extract v1_9 0) w1 fun v2_10 w2 =>
  X Try.prog (Instr.extract v1_9 1) w2 fun v3_11 w3 =>
  X Try.prog (Instr.alloc 25 true (.tuple #[])) w3 fun v4_3 w4 =>
  XU Try.prog (Instr.storeAt 25 v4_3 v2_10) w4 fun w5 =>
  CALL Try.prog 45 #[x0] w5 fun v5_14 w6 =>
  X Try.prog (Instr.extract v5_14 0) w6 fun v6_15 w7 =>
  X Try.prog (Instr.extract v5_14 1) w7 fun v7_16 w8 =>
  X Try.prog (Instr.alloc 25 true (.tuple #[])) w8 fun v8_5 w9 =>
  XU Try.prog (Instr.storeAt 25 v8_5 v6_15) w9 fun w10 =>
  CALL Try.prog 41 #[] w10 fun v9_17 w11 =>
  gstep v9_17 true (fun w12 K => X Try.prog (Instr.loadAt 25 v4_3) w12 K) w11 fun v10_19 w13 =>
  gstep v9_17 true (fun w14 K => X Try.prog (Instr.loadAt 25 v8_5) w14 K) w13 fun v11_20 w15 =>
  gstep v9_17 true (fun w16 K => X Try.prog (binOpG .eql 25 (.tmp 19) (.tmp 20) v10_19 v11_20) w16 K) w15 fun v12_21 w17 =>
  X Try.prog (pickS v9_17 v12_21 (.bool false)) w17 fun v13_22 w18 =>
  gstep v13_22 true (fun w19 K => K v3_11 w19) w18 fun v14_24 w20 =>
  gstep v13_22 true (fun w21 K => K v7_16 w21) w20 fun v15_25 w22 =>
  gstep v13_22 true (fun w23 K => X Try.prog (binOpG .eql 30 (.tmp 24) (.tmp 25) v14_24 v15_25) w23 K) w22 fun v16_26 w24 =>
  X Try.prog (pickS v13_22 v16_26 (.bool false)) w24 fun v17_27 w25 =>
  K v17_27 w25

theorem eq_law10_SlotTakes (x0 : Value) (w : World) (K : Value → World → Prop) :
    sh Try.prog (Try.f4.body.getD .skip) (retS Try.prog Try.f4.results K) (env0 #[x0]) w = B_law10_SlotTakes x0 w K := by kernel_rfl

theorem call_law10_SlotTakes (x0 : Value) (w : World) (K : Value → World → Prop) (h : B_law10_SlotTakes x0 w K) : CALL Try.prog 4 #[x0] w K :=
  call_of_eq (c := Try.f4.body.getD .skip) mixed Try.func4 (by kernel_rfl) (by kernel_rfl) (by kernel_rfl) (Nat.le_of_ble_eq_true (by kernel_rfl)) (eq_law10_SlotTakes x0 w K) h

/-- cellarage/cellaragelaw10.SlotBack -/
def B_law10_SlotBack (x0 x1 : Value) (w : World) (K : Value → World → Prop) : Prop :=
  X Try.prog (Instr.box 25 x0) w fun v1_2 w1 =>
  CALL Try.prog 41 #[] w1 fun v2_10 w2 =>
  X Try.prog (Instr.loadAt 25 v1_2) w2 fun v3_12 w3 =>
  CALL Try.prog 42 #[v3_12] w3 fun v4_13 w4 =>
  CALL Try.prog 44 #[v4_13] w4 fun v5_14 w5 =>
  X Try.prog (Instr.extract v5_14 0) w5 fun v6_15 w6 =>
  X Try.prog (Instr.extract v5_14 1) w6 fun v7_16 w7 =>
  X Try.prog (Instr.alloc 25 true (.tuple #[])) w7 fun v8_6 w8 =>
  XU Try.prog (Instr.storeAt 25 v8_6 v6_15) w8 fun w9 =>
  X Try.prog (Instr.fieldAt 25 v1_2 0) w9 fun v9_17 w10 =>
  X Try.prog (Instr.loadAt 22 v9_17) w10 fun v10_18 w11 =>
  X Try.prog (binOpG .eql 22 (.tmp 18) (.const (.int .u64 0)) v10_18 (.int .u64 0)) w11 fun v11_19 w12 =>
  gstep v11_19 true (fun w13 K => K v7_16 w13) w12 fun v12_21 w14 =>
  gstep v11_19 true (fun w15 K => X Try.prog (binOpG .neq 30 (.tmp 21) (.const (.int .i64 100)) v12_21 (.int .i64 100)) w15 K) w14 fun v13_22 w16 =>
  X Try.prog (pickS v11_19 v13_22 (.bool false)) w16 fun v14_23 w17 =>
  gstep v14_23 false (fun w18 K => X Try.prog (Instr.fieldAt 25 v1_2 0) w18 K) w17 fun v15_25 w19 =>
  gstep v14_23 false (fun w20 K => X Try.prog (Instr.loadAt 22 v15_25) w20 K) w19 fun v16_26 w21 =>
  gstep v14_23 false (fun w22 K => X Try.prog (binOpG .neq 22 (.tmp 26) (.const (.int .u64 0)) v16_26 (.int .u64 0)) w22 K) w21 fun v17_27 w23 =>
  gstep v14_23 false (fun w24 K => K v17_27 w24) w23 fun v18_28 w25 =>
  gstep v18_28 true (fun w26 K => K v7_16 w26) w25 fun v19_29 w27 =>
  gstep v18_28 true (fun w28 K => X Try.prog (binOpG .neq 30 (.tmp 29) (.const (.int .i64 0)) v19_29 (.int .i64 0)) w28 K) w27 fun v20_30 w29 =>
  gstep v18_28 true (fun w30 K => K v20_30 w30) w29 fun v21_31 w31 =>
  gstep v21_31 false (fun w32 K => X Try.prog (Instr.loadAt 25 v8_6) w32 K) w31 fun v22_32 w33 =>
  gstep v21_31 false (fun w34 K => X Try.prog (Instr.loadAt 25 v1_2) w34 K) w33 fun v23_33 w35 =>
  gstep v21_31 false (fun w36 K => X Try.prog (binOpG .neq 25 (.tmp 32) (.tmp 33) v22_32 v23_33) w36 K) w35 fun v24_34 w37 =>
  gstep v18_28 true (fun w38 K => X Try.prog (pickS v21_31 (.bool true) v24_34) w38 K) w37 fun v25_35 w39 =>
  gstep v14_23 false (fun w40 K => X Try.prog (pickS v18_28 v25_35 (.bool false)) w40 K) w39 fun v26_36 w41 =>
  X Try.prog (pickS v14_23 (.bool true) v26_36) w41 fun v27_37 w42 =>
  condS v27_37 (
  K (.bool false) w42) (
  CALL Try.prog 44 #[x1] w42 fun v28_40 w43 =>
  X Try.prog (Instr.extract v28_40 0) w43 fun v29_41 w44 =>
  X Try.prog (Instr.extract v28_40 1) w44 fun v30_42 w45 =>
  X Try.prog (Instr.alloc 25 true (.tuple #[])) w45 fun v31_8 w46 =>
  XU Try.prog (Instr.storeAt 25 v31_8 v29_41) w46 fun w47 =>
  ∃ R, Frame? R ∧
  gstep v2_10 true (fun w48 K => K v30_42 w48) (drewW w47) fun v32_45 w49 =>
  gstep v2_10 true (fun w50 K => XP Try.prog (binOpG .eql 30 (.tmp 45) (.const (.int .i64 0)) v32_45 (.int .i64 0)) w50 K) w49 fun v33_46 w51 =>
  gstep v2_10 true (fun w52 K => K v33_46 w52) w51 fun v34_47 w53 =>
  gstep v34_47 true (fun w54 K => XP Try.prog (Instr.fieldAt 25 v31_8 0) w54 K) w53 fun v35_48 w55 =>
  gstep v34_47 true (fun w56 K => XR Try.prog R (Instr.loadAt 22 v35_48) w56 K) w55 fun v36_49 w57 =>
  gstep v34_47 true (fun w58 K => XP Try.prog (binOpG .neq 22 (.tmp 49) (.const (.int .u64 0)) v36_49 (.int .u64 0)) w58 K) w57 fun v37_50 w59 =>
  gstep v2_10 true (fun w60 K => XP Try.prog (pickS v34_47 v37_50 (.bool false)) w60 K) w59 fun v38_51 w61 =>
  gstep v2_10 true (fun w62 K => K v38_51 w62) w61 fun v39_52 w63 =>
  gstep v39_52 true (fun w64 K => XR Try.prog R (Instr.loadAt 25 v31_8) w64 K) w63 fun v40_53 w65 =>
  gstep v39_52 true (fun w66 K => K x1 w66) w65 fun v41_56 w67 =>
  gstep v39_52 true (fun w68 K => XR Try.prog R (convert 27 9 v41_56) w68 K) w67 fun v42_57 w69 =>
  gstep v39_52 true (fun w70 K => CALL Try.prog 42 #[v40_53] w70 K) w69 fun v43_54 w71 =>
  R w69 w71 ∧
  gstep v39_52 true (fun w72 K => XR Try.prog R (convert 27 9 v43_54) w72 K) w71 fun v44_55 w73 =>
  gstep v39_52 true (fun w74 K => XP Try.prog (binOpG .eql 9 (.tmp 55) (.tmp 57) v44_55 v42_57) w74 K) w73 fun v45_58 w75 =>
  gstep v2_10 true (fun w76 K => XP Try.prog (pickS v39_52 v45_58 (.bool false)) w76 K) w75 fun v46_59 w77 =>
  gstep v2_10 true (fun w78 K => K v46_59 w78) w77 fun v47_60 w79 =>
  gstep v47_60 false (fun w80 K => K v30_42 w80) w79 fun v48_61 w81 =>
  gstep v47_60 false (fun w82 K => XP Try.prog (binOpG .eql 30 (.tmp 61) (.const (.int .i64 100)) v48_61 (.int .i64 100)) w82 K) w81 fun v49_62 w83 =>
  gstep v47_60 false (fun w84 K => K v49_62 w84) w83 fun v50_63 w85 =>
  gstep v50_63 true (fun w86 K => XR Try.prog R (Instr.loadAt 25 v31_8) w86 K) w85 fun v51_64 w87 =>
  gstep v50_63 true (fun w88 K => XP Try.prog (Instr.build 25 #[]) w88 K) w87 fun v52_65 w89 =>
  gstep v50_63 true (fun w90 K => XP Try.prog (binOpG .eql 25 (.tmp 64) (.tmp 65) v51_64 v52_65) w90 K) w89 fun v53_66 w91 =>
  gstep v47_60 false (fun w92 K => XP Try.prog (pickS v50_63 v53_66 (.bool false)) w92 K) w91 fun v54_67 w93 =>
  gstep v2_10 true (fun w94 K => XP Try.prog (pickS v47_60 (.bool true) v54_67) w94 K) w93 fun v55_68 w95 =>
  XP Try.prog (pickS v2_10 v55_68 (.bool false)) w95 fun v56_69 w96 =>
  K v56_69 w96)

theorem eq_law10_SlotBack (x0 x1 : Value) (w : World) (K : Value → World → Prop) :
    sh Try.prog (Try.f5.body.getD .skip) (retS Try.prog Try.f5.results K) (env0 #[x0, x1]) w = B_law10_SlotBack x0 x1 w K := by kernel_rfl

theorem call_law10_SlotBack (x0 x1 : Value) (w : World) (K : Value → World → Prop) (h : B_law10_SlotBack x0 x1 w K) : CALL Try.prog 5 #[x0, x1] w K :=
  call_of_eq (c := Try.f5.body.getD .skip) mixed Try.func5 (by kernel_rfl) (by kernel_rfl) (by kernel_rfl) (Nat.le_of_ble_eq_true (by kernel_rfl)) (eq_law10_SlotBack x0 x1 w K) h

/-- cellarage/cellaragelaw10.SlotTorn -/
def B_law10_SlotTorn (x0 x1 x2 : Value) (w : World) (K : Value → World → Prop) : Prop :=
  X Try.prog (Instr.box 25 x0) w fun v1_3 w1 =>
  X Try.prog (Instr.box 25 x1) w1 fun v2_4 w2 =>
  CALL Try.prog 41 #[] w2 fun v3_13 w3 =>
  X Try.prog (Instr.fieldAt 25 v1_3 0) w3 fun v4_14 w4 =>
  X Try.prog (Instr.loadAt 22 v4_14) w4 fun v5_15 w5 =>
  X Try.prog (convert 22 5 v5_15) w5 fun v6_16 w6 =>
  X Try.prog (Instr.fieldAt 25 v2_4 0) w6 fun v7_17 w7 =>
  X Try.prog (Instr.loadAt 22 v7_17) w7 fun v8_18 w8 =>
  X Try.prog (convert 22 5 v8_18) w8 fun v9_19 w9 =>
  X Try.prog (binOpG .eql 5 (.tmp 16) (.tmp 19) v6_16 v9_19) w9 fun v10_20 w10 =>
  gstep v10_20 false (fun w11 K => X Try.prog (Instr.fieldAt 25 v1_3 0) w11 K) w10 fun v11_22 w12 =>
  gstep v10_20 false (fun w13 K => X Try.prog (Instr.loadAt 22 v11_22) w13 K) w12 fun v12_23 w14 =>
  gstep v10_20 false (fun w15 K => X Try.prog (binOpG .eql 22 (.tmp 23) (.const (.int .u64 0)) v12_23 (.int .u64 0)) w15 K) w14 fun v13_24 w16 =>
  X Try.prog (pickS v10_20 (.bool true) v13_24) w16 fun v14_25 w17 =>
  condS v14_25 (
  K v3_13 w17) (
  X Try.prog (Instr.makeSlice 27 (.int .i64 128) (.int .i64 128)) w17 fun v15_27 w18 =>
  joinS (fun ρ1 w19 =>
  X Try.prog (Instr.loadAt 25 (ρ1 3)) w19 fun v16_33 w20 =>
  CALL Try.prog 42 #[v16_33] w20 fun v17_34 w21 =>
  X Try.prog (Builtin.len_ #[27] 3 #[(ρ1 8)]) w21 fun v18_36 w22 =>
  X Try.prog (binOpG .neq 3 (.tmp 36) (.const (.int .i64 128)) v18_36 (.int .i64 128)) w22 fun v19_37 w23 =>
  gstep v19_37 false (fun w24 K => K v17_34 w24) w23 fun v20_39 w25 =>
  gstep v19_37 false (fun w26 K => X Try.prog (Builtin.len_ #[27] 3 #[v20_39]) w26 K) w25 fun v21_40 w27 =>
  gstep v19_37 false (fun w28 K => X Try.prog (binOpG .neq 3 (.tmp 40) (.const (.int .i64 128)) v21_40 (.int .i64 128)) w28 K) w27 fun v22_41 w29 =>
  X Try.prog (pickS v19_37 (.bool true) v22_41) w29 fun v23_42 w30 =>
  condS v23_42 (
  K (.bool false) w30) (
  X Try.prog (convert 5 3 (ρ1 2)) w30 fun v24_44 w31 =>
  X Try.prog (binOp .rem 3 v24_44 (.int .i64 129)) w31 fun v25_45 w32 =>
  joinS (fun ρ2 w33 =>
  gstep (ρ2 7) true (fun w34 K => K (ρ2 12) w34) w33 fun v26_61 w35 =>
  gstep (ρ2 7) true (fun w36 K => X Try.prog (binOpG .eql 30 (.tmp 61) (.const (.int .i64 100)) v26_61 (.int .i64 100)) w36 K) w35 fun v27_62 w37 =>
  gstep (ρ2 7) true (fun w38 K => K v27_62 w38) w37 fun v28_63 w39 =>
  gstep v28_63 true (fun w40 K => K (ρ2 10) w40) w39 fun v29_64 w41 =>
  gstep v28_63 true (fun w42 K => X Try.prog (binOp .gtr 3 v29_64 (.int .i64 0)) w42 K) w41 fun v30_65 w43 =>
  gstep (ρ2 7) true (fun w44 K => X Try.prog (pickS v28_63 v30_65 (.bool false)) w44 K) w43 fun v31_66 w45 =>
  gstep (ρ2 7) true (fun w46 K => K v31_66 w46) w45 fun v32_67 w47 =>
  gstep v32_67 true (fun w48 K => K (ρ2 10) w48) w47 fun v33_68 w49 =>
  gstep v32_67 true (fun w50 K => X Try.prog (binOp .lss 3 v33_68 (.int .i64 128)) w50 K) w49 fun v34_69 w51 =>
  gstep (ρ2 7) true (fun w52 K => X Try.prog (pickS v32_67 v34_69 (.bool false)) w52 K) w51 fun v35_70 w53 =>
  gstep (ρ2 7) true (fun w54 K => K v35_70 w54) w53 fun v36_71 w55 =>
  gstep v36_71 false (fun w56 K => K (ρ2 12) w56) w55 fun v37_72 w57 =>
  gstep v36_71 false (fun w58 K => X Try.prog (binOpG .eql 30 (.tmp 72) (.const (.int .i64 100)) v37_72 (.int .i64 100)) w58 K) w57 fun v38_73 w59 =>
  gstep v36_71 false (fun w60 K => K v38_73 w60) w59 fun v39_74 w61 =>
  gstep v39_74 true (fun w62 K => K (ρ2 10) w62) w61 fun v40_75 w63 =>
  gstep v39_74 true (fun w64 K => X Try.prog (binOpG .eql 3 (.tmp 75) (.const (.int .i64 0)) v40_75 (.int .i64 0)) w64 K) w63 fun v41_76 w65 =>
  gstep v36_71 false (fun w66 K => X Try.prog (pickS v39_74 v41_76 (.bool false)) w66 K) w65 fun v42_77 w67 =>
  gstep v36_71 false (fun w68 K => K v42_77 w68) w67 fun v43_78 w69 =>
  gstep v43_78 true (fun w70 K => X Try.prog (Instr.fieldAt 25 (ρ2 4) 0) w70 K) w69 fun v44_79 w71 =>
  gstep v43_78 true (fun w72 K => X Try.prog (Instr.loadAt 22 v44_79) w72 K) w71 fun v45_80 w73 =>
  gstep v43_78 true (fun w74 K => X Try.prog (binOpG .eql 22 (.tmp 80) (.const (.int .u64 0)) v45_80 (.int .u64 0)) w74 K) w73 fun v46_81 w75 =>
  gstep v36_71 false (fun w76 K => X Try.prog (pickS v43_78 v46_81 (.bool false)) w76 K) w75 fun v47_82 w77 =>
  gstep (ρ2 7) true (fun w78 K => X Try.prog (pickS v36_71 (.bool true) v47_82) w78 K) w77 fun v48_83 w79 =>
  gstep (ρ2 7) true (fun w80 K => K v48_83 w80) w79 fun v49_84 w81 =>
  gstep v49_84 false (fun w82 K => K (ρ2 12) w82) w81 fun v50_85 w83 =>
  gstep v49_84 false (fun w84 K => X Try.prog (binOpG .eql 30 (.tmp 85) (.const (.int .i64 0)) v50_85 (.int .i64 0)) w84 K) w83 fun v51_86 w85 =>
  gstep v49_84 false (fun w86 K => K v51_86 w86) w85 fun v52_87 w87 =>
  gstep v52_87 true (fun w88 K => X Try.prog (Instr.loadAt 25 (ρ2 11)) w88 K) w87 fun v53_88 w89 =>
  gstep v52_87 true (fun w90 K => X Try.prog (Instr.loadAt 25 (ρ2 3)) w90 K) w89 fun v54_89 w91 =>
  gstep v52_87 true (fun w92 K => X Try.prog (binOpG .eql 25 (.tmp 88) (.tmp 89) v53_88 v54_89) w92 K) w91 fun v55_90 w93 =>
  gstep v52_87 true (fun w94 K => K v55_90 w94) w93 fun v56_91 w95 =>
  gstep v56_91 false (fun w96 K => X Try.prog (Instr.loadAt 25 (ρ2 11)) w96 K) w95 fun v57_92 w97 =>
  gstep v56_91 false (fun w98 K => X Try.prog (Instr.loadAt 25 (ρ2 4)) w98 K) w97 fun v58_93 w99 =>
  gstep v56_91 false (fun w100 K => X Try.prog (binOpG .eql 25 (.tmp 92) (.tmp 93) v57_92 v58_93) w100 K) w99 fun v59_94 w101 =>
  gstep v56_91 false (fun w102 K => K v59_94 w102) w101 fun v60_95 w103 =>
  gstep v60_95 true (fun w104 K => X Try.prog (Instr.fieldAt 25 (ρ2 4) 0) w104 K) w103 fun v61_96 w105 =>
  gstep v60_95 true (fun w106 K => X Try.prog (Instr.loadAt 22 v61_96) w106 K) w105 fun v62_97 w107 =>
  gstep v60_95 true (fun w108 K => X Try.prog (binOpG .neq 22 (.tmp 97) (.const (.int .u64 0)) v62_97 (.int .u64 0)) w108 K) w107 fun v63_98 w109 =>
  gstep v56_91 false (fun w110 K => X Try.prog (pickS v60_95 v63_98 (.bool false)) w110 K) w109 fun v64_99 w111 =>
  gstep v52_87 true (fun w112 K => X Try.prog (pickS v56_91 (.bool true) v64_99) w112 K) w111 fun v65_100 w113 =>
  gstep v49_84 false (fun w114 K => X Try.prog (pickS v52_87 v65_100 (.bool false)) w114 K) w113 fun v66_101 w115 =>
  gstep (ρ2 7) true (fun w116 K => X Try.prog (pickS v49_84 (.bool true) v66_101) w116 K) w115 fun v67_102 w117 =>
  X Try.prog (pickS (ρ2 7) v67_102 (.bool false)) w117 fun v68_103 w118 =>
  K v68_103 w118) fun J2 =>
  ∃ R, Frame? R ∧
  XP Try.prog (Instr.sliceAt 27 v17_34 none (some v25_45) none) (drewW w32) fun v69_50 w119 =>
  XP Try.prog (Instr.sliceAt 27 (ρ1 8) (some v25_45) none none) w119 fun v70_54 w120 =>
  (X Try.prog (Instr.buildSlice 27 0 #[]) w120 fun v71_47 w121 =>
  (X Try.prog (Builtin.append_ #[27, 27] 27 #[v71_47, v69_50]) w121 fun v72_51 w122 =>
  (X Try.prog (Builtin.append_ #[27, 27] 27 #[v72_51, v70_54]) w122 fun v73_55 w123 =>
  (CALL Try.prog 44 #[v73_55] w123 fun v74_56 w124 =>
  XP Try.prog (Instr.extract v74_56 0) w124 fun v75_57 w125 =>
  XP Try.prog (Instr.extract v74_56 1) w125 fun v76_58 w126 =>
  X Try.prog (Instr.alloc 25 true (.tuple #[])) w126 fun v77_11 w127 =>
  XU Try.prog (Instr.storeAt 25 v77_11 v75_57) w127 fun w128 =>
  J2 (upds ρ1 [(12, v76_58), (11, v77_11), (58, v76_58), (57, v75_57), (46, v74_56), (56, v74_56), (55, v73_55), (51, v72_51), (47, v71_47), (54, v70_54), (53, v25_45), (52, (ρ1 8)), (50, v69_50), (49, v25_45), (48, v17_34), (10, v25_45), (45, v25_45), (44, v24_44), (43, (ρ1 2)), (42, v23_42), (41, v22_41), (40, v21_40), (39, v20_39), (38, v19_37), (37, v19_37), (36, v18_36), (35, (ρ1 8)), (9, v17_34), (34, v17_34), (33, v16_33)]) w128) ∧
  (X Try.prog (Instr.alloc 25 true (.tuple #[])) w123 fun v78_11 w129 =>
  CALL Try.prog 44 #[v73_55] w129 fun v79_56 w130 =>
  XP Try.prog (Instr.extract v79_56 0) w130 fun v80_57 w131 =>
  XP Try.prog (Instr.extract v79_56 1) w131 fun v81_58 w132 =>
  XU Try.prog (Instr.storeAt 25 v78_11 v80_57) w132 fun w133 =>
  J2 (upds ρ1 [(12, v81_58), (58, v81_58), (57, v80_57), (46, v79_56), (56, v79_56), (11, v78_11), (55, v73_55), (51, v72_51), (47, v71_47), (54, v70_54), (53, v25_45), (52, (ρ1 8)), (50, v69_50), (49, v25_45), (48, v17_34), (10, v25_45), (45, v25_45), (44, v24_44), (43, (ρ1 2)), (42, v23_42), (41, v22_41), (40, v21_40), (39, v20_39), (38, v19_37), (37, v19_37), (36, v18_36), (35, (ρ1 8)), (9, v17_34), (34, v17_34), (33, v16_33)]) w133)) ∧
  (X Try.prog (Instr.alloc 25 true (.tuple #[])) w122 fun v82_11 w134 =>
  X Try.prog (Builtin.append_ #[27, 27] 27 #[v72_51, v70_54]) w134 fun v83_55 w135 =>
  CALL Try.prog 44 #[v83_55] w135 fun v84_56 w136 =>
  XP Try.prog (Instr.extract v84_56 0) w136 fun v85_57 w137 =>
  XP Try.prog (Instr.extract v84_56 1) w137 fun v86_58 w138 =>
  XU Try.prog (Instr.storeAt 25 v82_11 v85_57) w138 fun w139 =>
  J2 (upds ρ1 [(12, v86_58), (58, v86_58), (57, v85_57), (46, v84_56), (56, v84_56), (55, v83_55), (11, v82_11), (51, v72_51), (47, v71_47), (54, v70_54), (53, v25_45), (52, (ρ1 8)), (50, v69_50), (49, v25_45), (48, v17_34), (10, v25_45), (45, v25_45), (44, v24_44), (43, (ρ1 2)), (42, v23_42), (41, v22_41), (40, v21_40), (39, v20_39), (38, v19_37), (37, v19_37), (36, v18_36), (35, (ρ1 8)), (9, v17_34), (34, v17_34), (33, v16_33)]) w139)) ∧
  (X Try.prog (Instr.alloc 25 true (.tuple #[])) w121 fun v87_11 w140 =>
  X Try.prog (Builtin.append_ #[27, 27] 27 #[v71_47, v69_50]) w140 fun v88_51 w141 =>
  X Try.prog (Builtin.append_ #[27, 27] 27 #[v88_51, v70_54]) w141 fun v89_55 w142 =>
  CALL Try.prog 44 #[v89_55] w142 fun v90_56 w143 =>
  XP Try.prog (Instr.extract v90_56 0) w143 fun v91_57 w144 =>
  XP Try.prog (Instr.extract v90_56 1) w144 fun v92_58 w145 =>
  XU Try.prog (Instr.storeAt 25 v87_11 v91_57) w145 fun w146 =>
  J2 (upds ρ1 [(12, v92_58), (58, v92_58), (57, v91_57), (46, v90_56), (56, v90_56), (55, v89_55), (51, v88_51), (11, v87_11), (47, v71_47), (54, v70_54), (53, v25_45), (52, (ρ1 8)), (50, v69_50), (49, v25_45), (48, v17_34), (10, v25_45), (45, v25_45), (44, v24_44), (43, (ρ1 2)), (42, v23_42), (41, v22_41), (40, v21_40), (39, v20_39), (38, v19_37), (37, v19_37), (36, v18_36), (35, (ρ1 8)), (9, v17_34), (34, v17_34), (33, v16_33)]) w146)) ∧
  (X Try.prog (Instr.alloc 25 true (.tuple #[])) w120 fun v93_11 w147 =>
  X Try.prog (Instr.buildSlice 27 0 #[]) w147 fun v94_47 w148 =>
  X Try.prog (Builtin.append_ #[27, 27] 27 #[v94_47, v69_50]) w148 fun v95_51 w149 =>
  X Try.prog (Builtin.append_ #[27, 27] 27 #[v95_51, v70_54]) w149 fun v96_55 w150 =>
  CALL Try.prog 44 #[v96_55] w150 fun v97_56 w151 =>
  XP Try.prog (Instr.extract v97_56 0) w151 fun v98_57 w152 =>
  XP Try.prog (Instr.extract v97_56 1) w152 fun v99_58 w153 =>
  XU Try.prog (Instr.storeAt 25 v93_11 v98_57) w153 fun w154 =>
  J2 (upds ρ1 [(12, v99_58), (58, v99_58), (57, v98_57), (46, v97_56), (56, v97_56), (55, v96_55), (51, v95_51), (47, v94_47), (11, v93_11), (54, v70_54), (53, v25_45), (52, (ρ1 8)), (50, v69_50), (49, v25_45), (48, v17_34), (10, v25_45), (45, v25_45), (44, v24_44), (43, (ρ1 2)), (42, v23_42), (41, v22_41), (40, v21_40), (39, v20_39), (38, v19_37), (37, v19_37), (36, v18_36), (35, (ρ1 8)), (9, v17_34), (34, v17_34), (33, v16_33)]) w154))) fun J1 =>
  X Try.prog (Instr.fieldAt 25 v2_4 0) w18 fun v100_28 w155 =>
  X Try.prog (Instr.loadAt 22 v100_28) w155 fun v101_29 w156 =>
  X Try.prog (binOpG .neq 22 (.tmp 29) (.const (.int .u64 0)) v101_29 (.int .u64 0)) w156 fun v102_30 w157 =>
  condS v102_30 (
  X Try.prog (Instr.loadAt 25 v2_4) w157 fun v103_31 w158 =>
  CALL Try.prog 42 #[v103_31] w158 fun v104_32 w159 =>
  J1 (upds (env0 #[x0, x1, x2]) [(8, v104_32), (32, v104_32), (31, v103_31), (30, v102_30), (29, v101_29), (28, v100_28), (8, v15_27), (27, v15_27), (25, v14_25), (24, v13_24), (23, v12_23), (22, v11_22), (21, v10_20), (20, v10_20), (19, v9_19), (18, v8_18), (17, v7_17), (16, v6_16), (15, v5_15), (14, v4_14), (7, v3_13), (13, v3_13), (6, (.bool false)), (4, v2_4), (3, v1_3)]) w159) (
  J1 (upds (env0 #[x0, x1, x2]) [(30, v102_30), (29, v101_29), (28, v100_28), (8, v15_27), (27, v15_27), (25, v14_25), (24, v13_24), (23, v12_23), (22, v11_22), (21, v10_20), (20, v10_20), (19, v9_19), (18, v8_18), (17, v7_17), (16, v6_16), (15, v5_15), (14, v4_14), (7, v3_13), (13, v3_13), (6, (.bool false)), (4, v2_4), (3, v1_3)]) w157))

theorem eq_law10_SlotTorn (x0 x1 x2 : Value) (w : World) (K : Value → World → Prop) :
    sh Try.prog (Try.f6.body.getD .skip) (retS Try.prog Try.f6.results K) (env0 #[x0, x1, x2]) w = B_law10_SlotTorn x0 x1 x2 w K := by kernel_rfl

theorem call_law10_SlotTorn (x0 x1 x2 : Value) (w : World) (K : Value → World → Prop) (h : B_law10_SlotTorn x0 x1 x2 w K) : CALL Try.prog 6 #[x0, x1, x2] w K :=
  call_of_eq (c := Try.f6.body.getD .skip) mixed Try.func6 (by kernel_rfl) (by kernel_rfl) (by kernel_rfl) (Nat.le_of_ble_eq_true (by kernel_rfl)) (eq_law10_SlotTorn x0 x1 x2 w K) h

/-- cellarage/cellaragelaw10.SlotNewer -/
def B_law10_SlotNewer (x0 x1 : Value) (w : World) (K : Value → World → Prop) : Prop :=
  CALL Try.prog 48 #[x0, x1] w fun v1_14 w1 =>
  X Try.prog (Instr.extract v1_14 0) w1 fun v2_15 w2 =>
  X Try.prog (Instr.extract v1_14 1) w2 fun v3_16 w3 =>
  X Try.prog (Instr.extract v1_14 2) w3 fun v4_17 w4 =>
  X Try.prog (Instr.alloc 25 true (.tuple #[])) w4 fun v5_5 w5 =>
  XU Try.prog (Instr.storeAt 25 v5_5 v2_15) w5 fun w6 =>
  CALL Try.prog 49 #[x0, x1] w6 fun v6_21 w7 =>
  X Try.prog (Instr.extract v6_21 0) w7 fun v7_22 w8 =>
  X Try.prog (Instr.extract v6_21 1) w8 fun v8_23 w9 =>
  X Try.prog (Instr.extract v6_21 2) w9 fun v9_24 w10 =>
  X Try.prog (Instr.alloc 25 true (.tuple #[])) w10 fun v10_8 w11 =>
  XU Try.prog (Instr.storeAt 25 v10_8 v7_22) w11 fun w12 =>
  CALL Try.prog 41 #[] w12 fun v11_25 w13 =>
  gstep v11_25 true (fun w14 K => X Try.prog (Instr.loadAt 25 v5_5) w14 K) w13 fun v12_27 w15 =>
  gstep v11_25 true (fun w16 K => X Try.prog (Instr.loadAt 25 v10_8) w16 K) w15 fun v13_28 w17 =>
  gstep v11_25 true (fun w18 K => X Try.prog (binOpG .eql 25 (.tmp 27) (.tmp 28) v12_27 v13_28) w18 K) w17 fun v14_29 w19 =>
  X Try.prog (pickS v11_25 v14_29 (.bool false)) w19 fun v15_30 w20 =>
  gstep v15_30 true (fun w21 K => K v3_16 w21) w20 fun v16_32 w22 =>
  gstep v15_30 true (fun w23 K => K v8_23 w23) w22 fun v17_33 w24 =>
  gstep v15_30 true (fun w25 K => X Try.prog (binOpG .eql 3 (.tmp 32) (.tmp 33) v16_32 v17_33) w25 K) w24 fun v18_34 w26 =>
  X Try.prog (pickS v15_30 v18_34 (.bool false)) w26 fun v19_35 w27 =>
  gstep v19_35 true (fun w28 K => K v4_17 w28) w27 fun v20_37 w29 =>
  gstep v19_35 true (fun w30 K => K v9_24 w30) w29 fun v21_38 w31 =>
  gstep v19_35 true (fun w32 K => X Try.prog (binOpG .eql 30 (.tmp 37) (.tmp 38) v20_37 v21_38) w32 K) w31 fun v22_39 w33 =>
  X Try.prog (pickS v19_35 v22_39 (.bool false)) w33 fun v23_40 w34 =>
  K v23_40 w34

theorem eq_law10_SlotNewer (x0 x1 : Value) (w : World) (K : Value → World → Prop) :
    sh Try.prog (Try.f8.body.getD .skip) (retS Try.prog Try.f8.results K) (env0 #[x0, x1]) w = B_law10_SlotNewer x0 x1 w K := by kernel_rfl

theorem call_law10_SlotNewer (x0 x1 : Value) (w : World) (K : Value → World → Prop) (h : B_law10_SlotNewer x0 x1 w K) : CALL Try.prog 8 #[x0, x1] w K :=
  call_of_eq (c := Try.f8.body.getD .skip) mixed Try.func8 (by kernel_rfl) (by kernel_rfl) (by kernel_rfl) (Nat.le_of_ble_eq_true (by kernel_rfl)) (eq_law10_SlotNewer x0 x1 w K) h

/-- cellarage/cellaragelaw10.SlotCommits -/
def B_law10_SlotCommits (x0 x1 x2 : Value) (w : World) (K : Value → World → Prop) : Prop :=
  X Try.prog (Instr.box 25 x0) w fun v1_3 w1 =>
  X Try.prog (Instr.box 41 x1) w1 fun v2_4 w2 =>
  CALL Try.prog 41 #[] w2 fun v3_20 w3 =>
  X Try.prog (Instr.fieldAt 25 v1_3 0) w3 fun v4_21 w4 =>
  X Try.prog (Instr.loadAt 22 v4_21) w4 fun v5_22 w5 =>
  X Try.prog (binOp .lss 22 v5_22 (.int .u64 3)) w5 fun v6_23 w6 =>
  condS v6_23 (
  K v3_20 w6) (
  X Try.prog (Instr.fieldAt 25 v1_3 0) w6 fun v7_25 w7 =>
  X Try.prog (Instr.loadAt 22 v7_25) w7 fun v8_26 w8 =>
  X Try.prog (binOp .sub 22 v8_26 (.int .u64 2)) w8 fun v9_27 w9 =>
  X Try.prog (Instr.indexAt 41 v2_4 (.int .i64 0)) w9 fun v10_28 w10 =>
  X Try.prog (Instr.loadAt 5 v10_28) w10 fun v11_29 w11 =>
  X Try.prog (Instr.fieldAt 25 v1_3 3) w11 fun v12_30 w12 =>
  X Try.prog (Instr.loadAt 23 v12_30) w12 fun v13_31 w13 =>
  X Try.prog (Instr.build 25 #[(0, v9_27), (1, v11_29), (2, v13_31)]) w13 fun v14_32 w14 =>
  X Try.prog (Instr.alloc 25 true (.tuple #[])) w14 fun v15_8 w15 =>
  XU Try.prog (Instr.storeAt 25 v15_8 v14_32) w15 fun w16 =>
  X Try.prog (Instr.fieldAt 25 v1_3 0) w16 fun v16_33 w17 =>
  X Try.prog (Instr.loadAt 22 v16_33) w17 fun v17_34 w18 =>
  X Try.prog (binOp .sub 22 v17_34 (.int .u64 1)) w18 fun v18_35 w19 =>
  X Try.prog (Instr.indexAt 41 v2_4 (.int .i64 1)) w19 fun v19_36 w20 =>
  X Try.prog (Instr.loadAt 5 v19_36) w20 fun v20_37 w21 =>
  X Try.prog (Instr.fieldAt 25 v1_3 2) w21 fun v21_38 w22 =>
  X Try.prog (Instr.loadAt 23 v21_38) w22 fun v22_39 w23 =>
  X Try.prog (Instr.build 25 #[(0, v18_35), (1, v20_37), (3, v22_39)]) w23 fun v23_40 w24 =>
  X Try.prog (Instr.alloc 25 true (.tuple #[])) w24 fun v24_9 w25 =>
  XU Try.prog (Instr.storeAt 25 v24_9 v23_40) w25 fun w26 =>
  ∃ R, Frame? R ∧
  XR Try.prog R (Instr.loadAt 25 v1_3) (drewW w26) fun v25_41 w27 =>
  XR Try.prog R (Instr.loadAt 25 v15_8) w27 fun v26_43 w28 =>
  CALL Try.prog 42 #[v25_41] w28 fun v27_42 w29 =>
  R w28 w29 ∧
  CALL Try.prog 42 #[v26_43] w29 fun v28_44 w30 =>
  R w29 w30 ∧
  X Try.prog (Builtin.len_ #[27] 3 #[v27_42]) w30 fun v29_46 w31 =>
  X Try.prog (binOpG .neq 3 (.tmp 46) (.const (.int .i64 128)) v29_46 (.int .i64 128)) w31 fun v30_47 w32 =>
  gstep v30_47 false (fun w33 K => K v28_44 w33) w32 fun v31_49 w34 =>
  gstep v30_47 false (fun w35 K => X Try.prog (Builtin.len_ #[27] 3 #[v31_49]) w35 K) w34 fun v32_50 w36 =>
  gstep v30_47 false (fun w37 K => X Try.prog (binOpG .neq 3 (.tmp 50) (.const (.int .i64 128)) v32_50 (.int .i64 128)) w37 K) w36 fun v33_51 w38 =>
  X Try.prog (pickS v30_47 (.bool true) v33_51) w38 fun v34_52 w39 =>
  condS v34_52 (
  K (.bool false) w39) (
  X Try.prog (convert 5 3 x2) w39 fun v35_54 w40 =>
  X Try.prog (binOp .rem 3 v35_54 (.int .i64 129)) w40 fun v36_55 w41 =>
  ∃ R, Frame? R ∧
  XP Try.prog (Instr.sliceAt 27 v27_42 none (some v36_55) none) (drewW w41) fun v37_59 w42 =>
  XP Try.prog (Instr.sliceAt 27 v28_44 (some v36_55) none none) w42 fun v38_63 w43 =>
  X Try.prog (Instr.buildSlice 27 0 #[]) w43 fun v39_56 w44 =>
  X Try.prog (Builtin.append_ #[27, 27] 27 #[v39_56, v37_59]) w44 fun v40_60 w45 =>
  X Try.prog (Builtin.append_ #[27, 27] 27 #[v40_60, v38_63]) w45 fun v41_64 w46 =>
  X Try.prog (Instr.loadAt 25 v24_9) w46 fun v42_67 w47 =>
  CALL Try.prog 42 #[v42_67] w47 fun v43_68 w48 =>
  CALL Try.prog 48 #[v41_64, v43_68] w48 fun v44_69 w49 =>
  X Try.prog (Instr.extract v44_69 0) w49 fun v45_70 w50 =>
  X Try.prog (Instr.extract v44_69 1) w50 fun v46_71 w51 =>
  X Try.prog (Instr.extract v44_69 2) w51 fun v47_72 w52 =>
  X Try.prog (Instr.alloc 25 true (.tuple #[])) w52 fun v48_14 w53 =>
  XU Try.prog (Instr.storeAt 25 v48_14 v45_70) w53 fun w54 =>
  X Try.prog (Instr.loadAt 25 v24_9) w54 fun v49_74 w55 =>
  CALL Try.prog 42 #[v49_74] w55 fun v50_75 w56 =>
  CALL Try.prog 48 #[v50_75, v41_64] w56 fun v51_77 w57 =>
  X Try.prog (Instr.extract v51_77 0) w57 fun v52_78 w58 =>
  X Try.prog (Instr.extract v51_77 1) w58 fun v53_79 w59 =>
  X Try.prog (Instr.extract v51_77 2) w59 fun v54_80 w60 =>
  X Try.prog (Instr.alloc 25 true (.tuple #[])) w60 fun v55_17 w61 =>
  XU Try.prog (Instr.storeAt 25 v55_17 v52_78) w61 fun w62 =>
  X Try.prog (binOpG .neq 30 (.tmp 81) (.const (.int .i64 0)) v47_72 (.int .i64 0)) w62 fun v56_82 w63 =>
  gstep v56_82 false (fun w64 K => K v54_80 w64) w63 fun v57_84 w65 =>
  gstep v56_82 false (fun w66 K => X Try.prog (binOpG .neq 30 (.tmp 84) (.const (.int .i64 0)) v57_84 (.int .i64 0)) w66 K) w65 fun v58_85 w67 =>
  X Try.prog (pickS v56_82 (.bool true) v58_85) w67 fun v59_86 w68 =>
  gstep v59_86 false (fun w69 K => X Try.prog (Instr.loadAt 25 v48_14) w69 K) w68 fun v60_88 w70 =>
  gstep v59_86 false (fun w71 K => X Try.prog (Instr.loadAt 25 v55_17) w71 K) w70 fun v61_89 w72 =>
  gstep v59_86 false (fun w73 K => X Try.prog (binOpG .neq 25 (.tmp 88) (.tmp 89) v60_88 v61_89) w73 K) w72 fun v62_90 w74 =>
  X Try.prog (pickS v59_86 (.bool true) v62_90) w74 fun v63_91 w75 =>
  gstep v63_91 false (fun w76 K => K v46_71 w76) w75 fun v64_93 w77 =>
  gstep v63_91 false (fun w78 K => K v53_79 w78) w77 fun v65_94 w79 =>
  gstep v63_91 false (fun w80 K => X Try.prog (binOp .add 3 v64_93 v65_94) w80 K) w79 fun v66_95 w81 =>
  gstep v63_91 false (fun w82 K => X Try.prog (binOpG .neq 3 (.tmp 95) (.const (.int .i64 1)) v66_95 (.int .i64 1)) w82 K) w81 fun v67_96 w83 =>
  X Try.prog (pickS v63_91 (.bool true) v67_96) w83 fun v68_97 w84 =>
  condS v68_97 (
  K (.bool false) w84) (
  gstep v3_20 true (fun w85 K => X Try.prog (Instr.loadAt 25 v48_14) w85 K) w84 fun v69_100 w86 =>
  gstep v3_20 true (fun w87 K => X Try.prog (Instr.loadAt 25 v24_9) w87 K) w86 fun v70_101 w88 =>
  gstep v3_20 true (fun w89 K => X Try.prog (binOpG .eql 25 (.tmp 100) (.tmp 101) v69_100 v70_101) w89 K) w88 fun v71_102 w90 =>
  gstep v3_20 true (fun w91 K => K v71_102 w91) w90 fun v72_103 w92 =>
  gstep v72_103 true (fun w93 K => K v46_71 w93) w92 fun v73_104 w94 =>
  gstep v72_103 true (fun w95 K => X Try.prog (binOpG .eql 3 (.tmp 104) (.const (.int .i64 1)) v73_104 (.int .i64 1)) w95 K) w94 fun v74_105 w96 =>
  gstep v3_20 true (fun w97 K => X Try.prog (pickS v72_103 v74_105 (.bool false)) w97 K) w96 fun v75_106 w98 =>
  gstep v3_20 true (fun w99 K => K v75_106 w99) w98 fun v76_107 w100 =>
  gstep v76_107 true (fun w101 K => K v36_55 w101) w100 fun v77_108 w102 =>
  gstep v76_107 true (fun w103 K => X Try.prog (binOp .lss 3 v77_108 (.int .i64 128)) w103 K) w102 fun v78_109 w104 =>
  gstep v3_20 true (fun w105 K => X Try.prog (pickS v76_107 v78_109 (.bool false)) w105 K) w104 fun v79_110 w106 =>
  gstep v3_20 true (fun w107 K => K v79_110 w107) w106 fun v80_111 w108 =>
  gstep v80_111 false (fun w109 K => X Try.prog (Instr.loadAt 25 v48_14) w109 K) w108 fun v81_112 w110 =>
  gstep v80_111 false (fun w111 K => X Try.prog (Instr.loadAt 25 v1_3) w111 K) w110 fun v82_113 w112 =>
  gstep v80_111 false (fun w113 K => X Try.prog (binOpG .eql 25 (.tmp 112) (.tmp 113) v81_112 v82_113) w113 K) w112 fun v83_114 w114 =>
  gstep v80_111 false (fun w115 K => K v83_114 w115) w114 fun v84_115 w116 =>
  gstep v84_115 true (fun w117 K => K v46_71 w117) w116 fun v85_116 w118 =>
  gstep v84_115 true (fun w119 K => X Try.prog (binOpG .eql 3 (.tmp 116) (.const (.int .i64 0)) v85_116 (.int .i64 0)) w119 K) w118 fun v86_117 w120 =>
  gstep v80_111 false (fun w121 K => X Try.prog (pickS v84_115 v86_117 (.bool false)) w121 K) w120 fun v87_118 w122 =>
  gstep v3_20 true (fun w123 K => X Try.prog (pickS v80_111 (.bool true) v87_118) w123 K) w122 fun v88_119 w124 =>
  X Try.prog (pickS v3_20 v88_119 (.bool false)) w124 fun v89_120 w125 =>
  K v89_120 w125)))

theorem eq_law10_SlotCommits (x0 x1 x2 : Value) (w : World) (K : Value → World → Prop) :
    sh Try.prog (Try.f9.body.getD .skip) (retS Try.prog Try.f9.results K) (env0 #[x0, x1, x2]) w = B_law10_SlotCommits x0 x1 x2 w K := by kernel_rfl

theorem call_law10_SlotCommits (x0 x1 x2 : Value) (w : World) (K : Value → World → Prop) (h : B_law10_SlotCommits x0 x1 x2 w K) : CALL Try.prog 9 #[x0, x1, x2] w K :=
  call_of_eq (c := Try.f9.body.getD .skip) mixed Try.func9 (by kernel_rfl) (by kernel_rfl) (by kernel_rfl) (Nat.le_of_ble_eq_true (by kernel_rfl)) (eq_law10_SlotCommits x0 x1 x2 w K) h

end Go.Proofs.Ytggggfcgnkllgaa
end
section
/- The reference's Take of a slot, by contract; slots compared; what cellaragelaw10.shown computes: true. -/
set_option linter.unusedVariables false
set_option linter.unusedSimpArgs false
namespace Go.Proofs.Ytggggfcgnkllgaa
open Go Go.Sh Go.RowKit
attribute [local irreducible] X XU XP XR CALL loopS resC closS

theorem run_build_57 (a : Option Addr) (n c : Nat) (w : World) : (Instr.build 57 #[(0, .slice a n c)]).run Try.prog w = .ok (.agg #[.slice a n c, .int .i64 0, .int .i64 0]) w := by kernel_rfl
theorem run_build_25a (a : Int) (w : World) : (Instr.build 25 #[(0, .int .u64 a)]).run Try.prog w = .ok (.agg #[.int .u64 a, .int .u8 0, .int .u32 0, .int .u32 0]) w := by kernel_rfl
theorem getR_bound (x : List UInt8) (f mi : Int) (n k : Nat) (e : mi = (n : Int)) (hk : 256 ^ n = k) : (getR x f mi).1 < k := by
  have hp : 0 < k := by rw [← hk]; exact Nat.pow_pos (by decide)
  have h3 : mi.toNat = n := by omega
  unfold getR
  rw [h3]
  split
  · exact hp
  · split
    · exact hp
    · split
      · exact hp
      · exact num_bound x n k hk

theorem RTake_spec {v : Value} {bs : List UInt8} {w : World} {K : Value → World → Prop} (hb : Bts w v bs)
    (h0 : takeB bs = none → ∀ w1, Ext w w1 → K (.tuple #[nilSl.v, .int .i64 100]) w1)
    (h1 : ∀ s, takeB bs = some s → ∀ w1, Ext w w1 → K (.tuple #[s.v, .int .i64 0]) w1) : CALL Try.prog 45 #[v] w K := by
  obtain ⟨a, cp, e, hcp1, hcp2, hcell⟩ := id hb
  subst e
  apply call_ref10_Take
  unfold B_ref10_Take
  refine X_alloc zero_25 ?_
  have hb1 : (newB w nilSl.cs.toArray 25).heap[w.heap.size]? = some (.cells nilSl.cs.toArray 25 (0, 0)) := newB_get _ _ _
  have hx1 := newB_ext w nilSl.cs.toArray 25
  have hz1 := newB_size w nilSl.cs.toArray 25
  show X _ _ (newB w nilSl.cs.toArray 25) _
  generalize newB w nilSl.cs.toArray 25 = w1 at hb1 hx1 hz1 ⊢
  have bad : ∀ w5, Ext w1 w5 → takeB bs = none → X Try.prog (Instr.build 25 #[]) w5 fun v4_13 w4 =>
      XU Try.prog (Instr.storeAt 25 (.pointer (some ⟨w.heap.size, 0, none⟩)) v4_13) w4 fun w5 => resC Try.prog 25 (.pointer (some ⟨w.heap.size, 0, none⟩)) w5 fun r0 => K (.tuple #[r0, (.int .i64 100)]) w5 := by
    intro w5 hx5 hn
    refine X_of (run_build_25z _) ?_
    have hb5 := hx5.get hb1
    refine XU_storeAgg info_25 hb5 (by rw [sz_25]; rfl) (by rw [sz_25]; rfl) (Sl.one nilSl) ?_
    refine resC_agg Try.underlying25 agg_25 info_25 (setAt_same (lt_of_blk hb5)) (by rw [sz_25]; rfl) ?_
    exact h0 hn _ (Ext.seq (hx1.trans hx5) (setAt_keep _ _ _ _ _) (fun i hi => by omega))
  refine X_of (run_build_57 _ _ _ _) ?_
  refine X_alloc zero_57 ?_
  have hb2 : (newB w1 #[.slice none 0 0, .int .i64 0, .int .i64 0] 57).heap[w1.heap.size]? = some (.cells #[.slice none 0 0, .int .i64 0, .int .i64 0] 57 (0, 0)) := newB_get _ _ _
  have hx2 := newB_ext w1 #[.slice none 0 0, .int .i64 0, .int .i64 0] 57
  have hz2 := newB_size w1 #[.slice none 0 0, .int .i64 0, .int .i64 0] 57
  show XU _ _ (newB w1 #[.slice none 0 0, .int .i64 0, .int .i64 0] 57) _
  generalize newB w1 #[.slice none 0 0, .int .i64 0, .int .i64 0] 57 = w2 at hb2 hx2 hz2 ⊢
  refine XU_storeAgg (l := [.slice a bs.length cp, .int .i64 0, .int .i64 0]) info_57 hb2 (by rw [sz_57]; rfl) (by rw [sz_57]; rfl) (by intro v hv; simp at hv; rcases hv with rfl | rfl <;> rfl) ?_
  have hb3 : (setAt w2 w1.heap.size [.slice a bs.length cp, .int .i64 0, .int .i64 0].toArray 57 (0, 0)).heap[w1.heap.size]? = some (.cells #[.slice a bs.length cp, .int .i64 ((0 : Nat) : Int), .int .i64 0] 57 (0, 0)) := setAt_same (lt_of_blk hb2)
  have hx3 : Ext w1 (setAt w2 w1.heap.size [.slice a bs.length cp, .int .i64 0, .int .i64 0].toArray 57 (0, 0)) := Ext.seq hx2 (setAt_keep _ _ _ _ _) (fun i hi => by omega)
  generalize setAt w2 w1.heap.size [.slice a bs.length cp, .int .i64 0, .int .i64 0].toArray 57 (0, 0) = w3 at hb3 hx3 ⊢
  have hr3 : RdrR w3 0 w.heap.size w1.heap.size bs bs 0 := by
    refine ⟨_, 0, hb3, (hb.ext hx1).ext hx3, Nat.zero_le _, rfl, fun hp k hk => ?_⟩
    obtain ⟨ad, rfl, hcells⟩ := hcell hp
    have hk' : ad.block = k := by simpa [Value.ownBlock] using hk
    have h0' : w.cell? (ad.add 0) = some (.int .u8 (bs[0].toNat : Int)) := hcells 0 _ (List.getElem?_eq_getElem hp)
    have hlt := World.block_lt_of_cell? w _ h0'
    have : (ad.add 0).block = ad.block := by unfold Addr.add; split <;> rfl
    omega
  refine RGet_spec hr3 ?_
  intro w4 hk4 hr4
  generalize hg1 : getR bs 0 8 = r1 at hr4 ⊢
  refine X_of (run_build_25a _ _) ?_
  refine X_alloc zero_25 ?_
  have hb5 : (newB w4 nilSl.cs.toArray 25).heap[w4.heap.size]? = some (.cells nilSl.cs.toArray 25 (0, 0)) := newB_get _ _ _
  have hx5 := newB_ext w4 nilSl.cs.toArray 25
  have hz5 := newB_size w4 nilSl.cs.toArray 25
  show XU _ _ (newB w4 nilSl.cs.toArray 25) _
  generalize newB w4 nilSl.cs.toArray 25 = w5 at hb5 hx5 hz5 ⊢
  have hsz14 : w1.heap.size < w4.heap.size := hr4.lt
  have hx14 : Ext w1 w4 := Ext.seq hx3 hk4 (fun i hi => by omega)
  refine XU_storeAgg (l := [.int .u64 (r1.1 : Int), .int .u8 0, .int .u32 0, .int .u32 0]) info_25 hb5 (by rw [sz_25]; rfl) (by rw [sz_25]; rfl) (by intro v hv; simp at hv; rcases hv with rfl | rfl | rfl <;> rfl) ?_
  have hb6 : (setAt w5 w4.heap.size [.int .u64 (r1.1 : Int), .int .u8 0, .int .u32 0, .int .u32 0].toArray 25 (0, 0)).heap[w4.heap.size]? = some (.cells #[.int .u64 (r1.1 : Int), .int .u8 0, .int .u32 0, .int .u32 0] 25 (0, 0)) := setAt_same (lt_of_blk hb5)
  have hx6 : Ext w4 (setAt w5 w4.heap.size [.int .u64 (r1.1 : Int), .int .u8 0, .int .u32 0, .int .u32 0].toArray 25 (0, 0)) := Ext.seq hx5 (setAt_keep _ _ _ _ _) (fun i hi => by omega)
  generalize setAt w5 w4.heap.size [.int .u64 (r1.1 : Int), .int .u8 0, .int .u32 0, .int .u32 0].toArray 25 (0, 0) = w6 at hb6 hx6 ⊢
  have hne : w4.heap.size ≠ w1.heap.size := by omega
  have off : ∀ i, 0 ≤ i → i < w.heap.size → i ≠ w1.heap.size → ¬ i = w4.heap.size := fun i _ h _ => by omega
  refine RGet_spec (hr4.ext hx6) ?_
  intro w7 hk7 hr7
  generalize hg2 : getR r1.2.1 r1.2.2 1 = r2 at hr7 ⊢
  have bd2 : r2.1 < 256 := by rw [← hg2]; exact getR_bound _ _ _ 1 _ rfl rfl
  have hb7 := hk7.get hne hb6
  simp only [SS, ST]
  rw [w8u bd2]
  refine XU_store info_5 sz_5 rfl hb7 (by simp) (by decide) ?_
  have hb8 : (setAt w7 w4.heap.size #[.int .u64 (r1.1 : Int), .int .u8 (r2.1 : Int), .int .u32 0, .int .u32 0] 25 (0, 0)).heap[w4.heap.size]? = some (.cells #[.int .u64 (r1.1 : Int), .int .u8 (r2.1 : Int), .int .u32 0, .int .u32 0] 25 (0, 0)) := setAt_same (lt_of_blk hb7)
  have hk8 := setAt_keep w7 w4.heap.size #[.int .u64 (r1.1 : Int), .int .u8 (r2.1 : Int), .int .u32 0, .int .u32 0] 25 (0, 0)
  show CALL _ _ _ (setAt w7 w4.heap.size #[.int .u64 (r1.1 : Int), .int .u8 (r2.1 : Int), .int .u32 0, .int .u32 0] 25 (0, 0)) _
  generalize setAt w7 w4.heap.size #[.int .u64 (r1.1 : Int), .int .u8 (r2.1 : Int), .int .u32 0, .int .u32 0] 25 (0, 0) = w8 at hb8 hk8 ⊢
  refine RGet_spec (hr7.keep hk8 (fun h => hne h.symm) off) ?_
  intro w9 hk9 hr9
  generalize hg3 : getR r2.2.1 r2.2.2 4 = r3 at hr9 ⊢
  have bd3 : r3.1 < 4294967296 := by rw [← hg3]; exact getR_bound _ _ _ 4 _ rfl rfl
  have hb9 := hk9.get hne hb8
  simp only [SS, ST]
  rw [w32u bd3]
  refine XU_store info_23 sz_23 rfl hb9 (by simp) (by decide) ?_
  have hb10 : (setAt w9 w4.heap.size #[.int .u64 (r1.1 : Int), .int .u8 (r2.1 : Int), .int .u32 (r3.1 : Int), .int .u32 0] 25 (0, 0)).heap[w4.heap.size]? = some (.cells #[.int .u64 (r1.1 : Int), .int .u8 (r2.1 : Int), .int .u32 (r3.1 : Int), .int .u32 0] 25 (0, 0)) := setAt_same (lt_of_blk hb9)
  have hk10 := setAt_keep w9 w4.heap.size #[.int .u64 (r1.1 : Int), .int .u8 (r2.1 : Int), .int .u32 (r3.1 : Int), .int .u32 0] 25 (0, 0)
  show CALL _ _ _ (setAt w9 w4.heap.size #[.int .u64 (r1.1 : Int), .int .u8 (r2.1 : Int), .int .u32 (r3.1 : Int), .int .u32 0] 25 (0, 0)) _
  generalize setAt w9 w4.heap.size #[.int .u64 (r1.1 : Int), .int .u8 (r2.1 : Int), .int .u32 (r3.1 : Int), .int .u32 0] 25 (0, 0) = w10 at hb10 hk10 ⊢
  refine RGet_spec (hr9.keep hk10 (fun h => hne h.symm) off) ?_
  intro w11 hk11 hr11
  generalize hg4 : getR r3.2.1 r3.2.2 4 = r4 at hr11 ⊢
  have bd4 : r4.1 < 4294967296 := by rw [← hg4]; exact getR_bound _ _ _ 4 _ rfl rfl
  have hb11 := hk11.get hne hb10
  simp only [SS, ST]
  rw [w32u bd4]
  refine XU_store info_23 sz_23 rfl hb11 (by simp) (by decide) ?_
  obtain ⟨s, hs⟩ : ∃ s : Sl, s = ⟨r1.1, r2.1, r3.1, r4.1⟩ := ⟨_, rfl⟩
  have hb12 : (setAt w11 w4.heap.size s.cs.toArray 25 (0, 0)).heap[w4.heap.size]? = some (.cells s.cs.toArray 25 (0, 0)) := setAt_same (lt_of_blk hb11)
  have hk12 := setAt_keep w11 w4.heap.size s.cs.toArray 25 (0, 0)
  have es : setAt w11 w4.heap.size (#[.int .u64 (r1.1 : Int), .int .u8 (r2.1 : Int), .int .u32 (r3.1 : Int), .int .u32 0].setIfInBounds 3 (.int .u32 (r4.1 : Int))) 25 (0, 0) = setAt w11 w4.heap.size s.cs.toArray 25 (0, 0) := by rw [hs]; rfl
  rw [show (0 + 3 : Nat) = 3 from rfl, es]
  generalize setAt w11 w4.heap.size s.cs.toArray 25 (0, 0) = w12 at hb12 hk12 ⊢
  have bd1 : r1.1 < 18446744073709551616 := by rw [← hg1]; exact getR_bound _ _ _ 8 _ rfl rfl
  have hok : s.ok := by rw [hs]; exact ⟨bd1, bd2, bd3, bd4⟩
  have hx112 : Ext w1 w12 := by
    refine Ext.seq (Ext.seq (Ext.seq (Ext.seq (Ext.seq (Ext.seq (hx14.trans hx6) hk7 ?_) hk8 ?_) hk9 ?_) hk10 ?_) hk11 ?_) hk12 ?_
    all_goals (intro i hi; omega)
  have h128 : bs.length = 128 → s = slotOf bs := by
    intro hl
    have e1 := getR_at bs 8 8 rfl (by decide) (by omega)
    rw [hg1] at e1
    subst e1
    have e2 := getR_at (bs.drop 8) 1 1 rfl (by decide) (by simp; omega)
    rw [hg2] at e2
    subst e2
    have e3 := getR_at ((bs.drop 8).drop 1) 4 4 rfl (by decide) (by simp; omega)
    rw [hg3] at e3
    subst e3
    have e4 := getR_at (((bs.drop 8).drop 1).drop 4) 4 4 rfl (by decide) (by simp; omega)
    rw [hg4] at e4
    subst e4
    exact hs
  have hnone : (s.gen = 0 ∨ layB s ≠ bs) → takeB bs = none := by
    intro h
    unfold takeB
    rw [if_neg]
    rintro ⟨hl, h2, h3⟩
    rw [← h128 hl] at h2 h3
    rcases h with h | h
    · exact h2 h
    · exact h h3
  have hx12d : Ext w1 (drewW w12) := hx112.trans (Keep.drew _ w12)
  have hb12d : (drewW w12).heap[w4.heap.size]? = some (.cells s.cs.toArray 25 (0, 0)) := hb12
  refine ⟨Ext, Ext.frame, ?_⟩
  refine XR_loadL agg_22 hb12d rfl ?_
  by_cases hgen : s.gen = 0
  · have ed : decide ((s.gen : Int) = 0) = true := by simp [hgen]
    simp only [SS, ST, ed, Bool.true_eq_false, if_false, if_true]
    refine ⟨Ext.frame.refl _, ?_⟩
    exact bad _ hx12d (hnone (.inl hgen))
  · have ed : decide ((s.gen : Int) = 0) = false := by simp [hgen]
    simp only [SS, ST, ed, Bool.false_eq_true, if_false, if_true]
    refine XR_loadAgg Try.underlying25 agg_25 info_25 hb12d (by rw [sz_25]; rfl) ?_
    refine XR_str Try.underlying27 Try.underlying5 Try.underlying9 ((hb.ext hx1).ext hx12d) ?_
    refine RLay_spec hok ?_
    intro v13 w13 hx13 hv13
    refine ⟨hx13, ?_⟩
    refine XR_str Try.underlying27 Try.underlying5 Try.underlying9 hv13 ?_
    simp only [SS, ST, str_toList, l8_bne]
    by_cases heq : layB s = bs
    · have e9 : decide (layB s ≠ bs) = false := by simpa using heq
      simp only [e9, Bool.false_eq_true, if_false]
      refine X_loadAgg Try.underlying25 agg_25 info_25 (Ext.get hx13 hb12d) (by rw [sz_25]; rfl) ?_
      have hx19 := hx12d.trans hx13
      have hb9 := Ext.get hx19 hb1
      refine XU_storeAgg info_25 hb9 (by rw [sz_25]; rfl) (by rw [sz_25]; rfl) (Sl.one _) ?_
      refine resC_agg Try.underlying25 agg_25 info_25 (setAt_same (lt_of_blk hb9)) (by rw [sz_25]; rfl) ?_
      have hl : bs.length = 128 := by rw [← heq, layB_len]
      refine h1 s ?_ _ (Ext.seq (hx1.trans hx19) (setAt_keep _ _ _ _ _) (fun i hi => by omega))
      unfold takeB
      rw [← h128 hl, if_pos ⟨hl, hgen, heq⟩]
    · have e9 : decide (layB s ≠ bs) = true := by simpa using heq
      simp only [e9, if_true]
      exact bad _ (hx12d.trans hx13) (hnone (.inr heq))
end Go.Proofs.Ytggggfcgnkllgaa
end
section
/- Slots compared; and what cellaragelaw10.shown computes: true. -/
set_option linter.unusedVariables false
set_option linter.unusedSimpArgs false
namespace Go.Proofs.Ytggggfcgnkllgaa
open Go Go.Sh Go.RowKit
attribute [local irreducible] X XU XP XR CALL loopS resC closS

theorem fields25 : (Try.prog.fieldsOf 25).toList = [{ name := "Gen", type := 22, offset := 0, embedded := false, tag := "", pkgPath := "", byteOffset := 0 }, { name := "Area", type := 5, offset := 1, embedded := false, tag := "", pkgPath := "", byteOffset := 8 },
    { name := "Size", type := 23, offset := 2, embedded := false, tag := "", pkgPath := "", byteOffset := 12 }, { name := "Sum", type := 23, offset := 3, embedded := false, tag := "", pkgPath := "", byteOffset := 16 }] := by kernel_rfl
theorem struct25 : Try.prog.underlying 25 = some (.struct (Try.prog.fieldsOf 25)) := by kernel_rfl
theorem held25 : Try.prog.stoodInHeld 25 = false := by kernel_rfl
theorem guard25 : Try.prog.eqGuardType Try.prog.depth 25 = false := by kernel_rfl
theorem slot_equal (s t : Sl) (w : World) : (Op.equalIn 10000 25 (.agg s.cs.toArray) (.agg t.cs.toArray)).run Try.prog w = .ok (decide (s = t)) w := by
  rw [show (10000 : Nat) = 9999 + 1 from rfl, run_equalIn_struct w 9999 25 _ _ struct25 held25, fields25]
  have p0 : ∀ s : Sl, s.cs.toArray[0]? = some (.int .u64 (s.gen : Int)) := fun _ => rfl
  have p1 : ∀ s : Sl, s.cs.toArray[1]? = some (.int .u8 (s.area : Int)) := fun _ => rfl
  have p2 : ∀ s : Sl, s.cs.toArray[2]? = some (.int .u32 (s.size : Int)) := fun _ => rfl
  have p3 : ∀ s : Sl, s.cs.toArray[3]? = some (.int .u32 (s.sum : Int)) := fun _ => rfl
  have n1 : ("Gen" : String) ≠ "_" := by decide
  have n2 : ("Area" : String) ≠ "_" := by decide
  have n3 : ("Size" : String) ≠ "_" := by decide
  have n4 : ("Sum" : String) ≠ "_" := by decide
  have q22 : ∀ (a b : Int) (w : World), (Op.equalIn 9999 22 (.int .u64 a) (.int .u64 b)).run Try.prog w = .ok (a == b) w := fun a b w => run_equalIn_int w 9998 22 .u64 .u64 a b Try.underlying22
  have q5 : ∀ (a b : Int) (w : World), (Op.equalIn 9999 5 (.int .u8 a) (.int .u8 b)).run Try.prog w = .ok (a == b) w := fun a b w => run_equalIn_int w 9998 5 .u8 .u8 a b Try.underlying5
  have q23 : ∀ (a b : Int) (w : World), (Op.equalIn 9999 23 (.int .u32 a) (.int .u32 b)).run Try.prog w = .ok (a == b) w := fun a b w => run_equalIn_int w 9998 23 .u32 .u32 a b Try.underlying23
  have bz : ∀ a b : Nat, ((a : Int) == (b : Int)) = decide (a = b) := fun a b => by
    rw [Bool.eq_iff_iff]; simp; omega
  have hd : decide (s = t) = decide (s.gen = t.gen ∧ s.area = t.area ∧ s.size = t.size ∧ s.sum = t.sum) := decide_eq_decide.2 (Sl.eq_iff s t).symm
  rw [hd]
  by_cases h1 : s.gen = t.gen <;> by_cases h2 : s.area = t.area <;> by_cases h3 : s.size = t.size <;> by_cases h4 : s.sum = t.sum <;>
    simp [Op.eqFields, n1, n2, n3, n4, part_cell agg_22 (p0 _), part_cell agg_5 (p1 _), part_cell agg_23 (p2 _), part_cell agg_23 (p3 _), q22, q5, q23, bz, h1, h2, h3, h4]
theorem X_slot_eql (a b : Operand) (s t : Sl) (w : World) (K : Value → World → Prop) : X Try.prog (binOpG .eql 25 a b (.agg s.cs.toArray) (.agg t.cs.toArray)) w K = K (.bool (decide (s = t))) w :=
  X_ok (agg_eql guard25 a b (slot_equal s t w))
theorem X_slot_neq (a b : Operand) (s t : Sl) (w : World) (K : Value → World → Prop) : X Try.prog (binOpG .neq 25 a b (.agg s.cs.toArray) (.agg t.cs.toArray)) w K = K (.bool (!(decide (s = t)))) w :=
  X_ok (agg_neq guard25 a b (slot_equal s t w))
theorem XP_slot_eql (a b : Operand) (s t : Sl) (w : World) (K : Value → World → Prop) : XP Try.prog (binOpG .eql 25 a b (.agg s.cs.toArray) (.agg t.cs.toArray)) w K = K (.bool (decide (s = t))) w :=
  XP_ok (fun w => agg_eql guard25 a b (slot_equal s t w))
/-- A local that holds a slot: laid and written at once. -/
theorem X_slotVar {s : Sl} {w : World} {K : Value → World → Prop} (h : ∀ w1, Ext w w1 → w1.heap[w.heap.size]? = some (.cells s.cs.toArray 25 (0, 0)) → K (.pointer (some ⟨w.heap.size, 0, none⟩)) w1) :
    X Try.prog (Instr.alloc 25 true (.tuple #[])) w fun v5_5 w5 => XU Try.prog (Instr.storeAt 25 v5_5 (.agg s.cs.toArray)) w5 fun w6 => K v5_5 w6 := by
  refine X_alloc zero_25 ?_
  have hb5 : (newB w nilSl.cs.toArray 25).heap[w.heap.size]? = some (.cells nilSl.cs.toArray 25 (0, 0)) := newB_get _ _ _
  have hx5 := newB_ext w nilSl.cs.toArray 25
  show XU _ _ (newB w nilSl.cs.toArray 25) _
  generalize newB w nilSl.cs.toArray 25 = w5 at hb5 hx5 ⊢
  refine XU_storeAgg info_25 hb5 (by rw [sz_25]; rfl) (by rw [sz_25]; rfl) (Sl.one _) ?_
  exact h _ (Ext.seq hx5 (setAt_keep _ _ _ _ _) (fun i hi => by omega)) (setAt_same (lt_of_blk hb5))

theorem take_zero : takeB (List.replicate 128 0) = none := by decide +kernel
theorem lay_one : (layB ⟨1, 0, 0, 0⟩)[7]? = some 1 ∧ (layB ⟨1, 0, 0, 0⟩)[127]? = some 1 ∧ (layB ⟨1, 0, 0, 0⟩)[8]? = some 0 := by decide +kernel
theorem shown10 {w : World} {K : Value → World → Prop} (h : ∀ w1, Ext w w1 → K (.bool true) w1) : CALL Try.prog 41 #[] w K := by
  apply call_law10_shown
  unfold B_law10_shown
  refine X_make Try.underlying27 el_5 128 128 rfl rfl (Nat.le_refl _) (by decide) (by decide) ?_
  have hcells : madeCells (Value.int .u8 0).cells (128 * 1) = (B8 (List.replicate 128 0)).toArray := by
    apply Array.ext'
    have : (madeCells (Value.int .u8 0).cells (128 * 1)).toList = List.replicate (128 * 1) (.int .u8 0) := made_one _ _
    rw [this]
    simp [B8]
  rw [hcells]
  have hx0 := newB_ext w (B8 (List.replicate 128 0)).toArray 5
  have hb0 : Bts (newB w (B8 (List.replicate 128 0)).toArray 5) (.slice (some ⟨w.heap.size, 0, none⟩) (List.replicate 128 (0 : UInt8)).length (List.replicate 128 (0 : UInt8)).length) (List.replicate 128 0) := blk_bts (newB_get _ _ _) (by simp)
  have hrl : (List.replicate 128 (0 : UInt8)).length = 128 := by simp
  rw [hrl] at hb0
  generalize newB w (B8 (List.replicate 128 0)).toArray 5 = w0 at hx0 hb0 ⊢
  refine Take_spec hb0 ?_ (fun s hs => absurd hs (by rw [take_zero]; simp))
  intro _ w1 hx1
  simp only [SS, ST]
  refine X_slotVar (s := nilSl) ?_
  intro w2 hx2 hb2
  refine X_of (run_build_25a 1 _) ?_
  refine Lay_spec (s := ⟨1, 0, 0, 0⟩) (by refine ⟨?_, ?_, ?_, ?_⟩ <;> decide) ?_
  intro v3 w3 hx3 hv3
  obtain ⟨l7, l127, l8⟩ := lay_one
  have h7 := (List.getElem?_eq_some_iff.1 l7).2
  have h127 := (List.getElem?_eq_some_iff.1 l127).2
  have h8 := (List.getElem?_eq_some_iff.1 l8).2
  have hl := layB_len ⟨1, 0, 0, 0⟩
  obtain ⟨a7, i7, c7, _⟩ := at_bts Try.underlying27 info_5 sz_5 hv3 (k := .i64) 7 rfl (by omega)
  obtain ⟨a127, i127, c127, _⟩ := at_bts Try.underlying27 info_5 sz_5 hv3 (k := .i64) 127 rfl (by omega)
  obtain ⟨a8, i8, c8, _⟩ := at_bts Try.underlying27 info_5 sz_5 hv3 (k := .i64) 8 rfl (by omega)
  rw [h7] at c7
  rw [h127] at c127
  rw [h8] at c8
  obtain ⟨a, c, e⟩ := Bts.slice hv3
  rw [hl] at e
  subst e
  simp only [SS, ST, decide_true, if_true]
  have e128 : decide (((128 : Nat) : Int) = 128) = true := by decide
  simp only [e128, SS, ST, if_true]
  refine X_of (i7 _) ?_
  refine X_load agg_5 c7 ?_
  have e1 : decide ((((1 : UInt8).toNat : Nat) : Int) = 1) = true := by decide
  have e0 : decide ((((0 : UInt8).toNat : Nat) : Int) = 0) = true := by decide
  simp only [e1, SS, ST, if_true]
  refine X_of (i127 _) ?_
  refine X_load agg_5 c127 ?_
  simp only [e1, SS, ST, if_true]
  refine X_of (i8 _) ?_
  refine X_load agg_5 c8 ?_
  simp only [e0, SS, ST, if_true]
  exact h _ (hx0.trans (hx1.trans (hx2.trans hx3)))
end Go.Proofs.Ytggggfcgnkllgaa
end
section
/- A slot of this program as an argument. -/
set_option linter.unusedVariables false
namespace Go.Proofs.Ytggggfcgnkllgaa
open Go Go.Sh Go.RowKit Go.ChangeShapes Go.WideShapes Go.ChangeAt
attribute [local irreducible] Value.okWide
theorem arg_sl {H : Type} {enc : TypeId × Value → H} {W : World} {base : Nat} {v : Value} {d : DataW H} {p : List MemPlace}
    (ok : Value.okWide Try.prog W .any base 25 v) (h : DataW.Trod enc Try.prog W 0 (fun _ => true) true 25 v d p) : ∃ s : Sl, v = s.v ∧ s.ok := by
  obtain ⟨a, b, c, e, rfl, h1, h2, h3, h4⟩ := arg_slot Try.underlying25 (by kernel_rfl) rfl rfl rfl rfl Try.underlying22 Try.underlying5 Try.underlying23 Try.underlying23 (by kernel_rfl) (by kernel_rfl) (by kernel_rfl) (by kernel_rfl) ok h
  exact ⟨⟨a, b, c, e⟩, rfl, h1, h2, h3, h4⟩
end Go.Proofs.Ytggggfcgnkllgaa
end
section
/- Taking a slot, in one word for both ends. -/
set_option linter.unusedVariables false
namespace Go.Proofs.Ytggggfcgnkllgaa
open Go Go.Sh Go.RowKit
attribute [local irreducible] X XU XP XR CALL loopS resC closS
def takeP (bs : List UInt8) : Sl × Int :=
  match takeB bs with
  | none => (nilSl, 100)
  | some s => (s, 0)
theorem Take_all {v : Value} {bs : List UInt8} {w : World} {K : Value → World → Prop} (hb : Bts w v bs)
    (h : ∀ w1, Ext w w1 → K (.tuple #[.agg (takeP bs).1.cs.toArray, .int .i64 (takeP bs).2]) w1) : CALL Try.prog 44 #[v] w K := by
  refine Take_spec hb ?_ ?_
  · intro hn w1 hx
    have := h w1 hx
    rw [show takeP bs = (nilSl, 100) by unfold takeP; rw [hn]] at this
    exact this
  · intro s hs w1 hx
    have := h w1 hx
    rw [show takeP bs = (s, 0) by unfold takeP; rw [hs]] at this
    exact this
theorem RTake_all {v : Value} {bs : List UInt8} {w : World} {K : Value → World → Prop} (hb : Bts w v bs)
    (h : ∀ w1, Ext w w1 → K (.tuple #[.agg (takeP bs).1.cs.toArray, .int .i64 (takeP bs).2]) w1) : CALL Try.prog 45 #[v] w K := by
  refine RTake_spec hb ?_ ?_
  · intro hn w1 hx
    have := h w1 hx
    rw [show takeP bs = (nilSl, 100) by unfold takeP; rw [hn]] at this
    exact this
  · intro s hs w1 hx
    have := h w1 hx
    rw [show takeP bs = (s, 0) by unfold takeP; rw [hs]] at this
    exact this
/-- Laying, then taking, gives the slot back, unless its generation is nought. -/
theorem slotOf_lay {s : Sl} (hs : s.ok) : slotOf (layB s) = s := by
  obtain ⟨hg, ha, hz, hm⟩ := hs
  have e0 : layB s = be 8 s.gen ++ (be 1 s.area ++ (be 4 s.size ++ (be 4 s.sum ++ (List.replicate 103 0 ++ be 8 s.gen)))) := by simp [layB, headB, List.append_assoc]
  have d8 : (layB s).drop 8 = be 1 s.area ++ (be 4 s.size ++ (be 4 s.sum ++ (List.replicate 103 0 ++ be 8 s.gen))) := by
    rw [e0, List.drop_append_of_le_length (by simp), List.drop_eq_nil_of_le (by simp), List.nil_append]
  have d9 : ((layB s).drop 8).drop 1 = be 4 s.size ++ (be 4 s.sum ++ (List.replicate 103 0 ++ be 8 s.gen)) := by
    rw [d8, List.drop_append_of_le_length (by simp), List.drop_eq_nil_of_le (by simp), List.nil_append]
  have d13 : (((layB s).drop 8).drop 1).drop 4 = be 4 s.sum ++ (List.replicate 103 0 ++ be 8 s.gen) := by
    rw [d9, List.drop_append_of_le_length (by simp), List.drop_eq_nil_of_le (by simp), List.nil_append]
  have t8 : (layB s).take 8 = be 8 s.gen := by
    rw [e0, List.take_append_of_le_length (by simp), List.take_of_length_le (by simp)]
  unfold slotOf
  rw [d13, d9, d8, t8, List.take_append_of_le_length (by simp), List.take_append_of_le_length (by simp), List.take_append_of_le_length (by simp), List.take_of_length_le (by simp), List.take_of_length_le (by simp), List.take_of_length_le (by simp),
    num_be, num_be, num_be, num_be, Nat.mod_eq_of_lt (by simpa using hg), Nat.mod_eq_of_lt (by simpa using ha), Nat.mod_eq_of_lt (by simpa using hz), Nat.mod_eq_of_lt (by simpa using hm)]
theorem take_lay {s : Sl} (hs : s.ok) : takeB (layB s) = if s.gen = 0 then none else some s := by
  unfold takeB
  rw [slotOf_lay hs]
  by_cases h : s.gen = 0
  · simp [h]
  · simp [h, layB_len]
theorem take_some {bs : List UInt8} {s : Sl} (h : takeB bs = some s) : bs.length = 128 ∧ s.gen ≠ 0 ∧ layB s = bs ∧ s.ok := by
  unfold takeB at h
  split at h
  · rename_i h1
    obtain rfl := Option.some.inj h
    exact ⟨h1.1, h1.2.1, h1.2.2, slotOf_ok bs⟩
  · cases h
end Go.Proofs.Ytggggfcgnkllgaa
end
section
/- cellarage/slot's Newer and the reference's, by contract. -/
set_option linter.unusedVariables false
set_option linter.unusedSimpArgs false
namespace Go.Proofs.Ytggggfcgnkllgaa
open Go Go.Sh Go.RowKit
attribute [local irreducible] X XU XP XR CALL loopS resC closS

/-- One more row of bytes is looked at. -/
def chNext (c : Sl × Int) (i : Nat) (bs : List UInt8) : Sl × Int :=
  if (takeP bs).2 = 0 ∧ c.1.gen < (takeP bs).1.gen then ((takeP bs).1, (i : Int)) else c
def newerP (x y : List UInt8) : Sl × Int × Int :=
  let c := chNext (chNext (nilSl, 0) 0 x) 1 y
  if c.1.gen = 0 then (nilSl, 0, 100) else (c.1, c.2, 0)

theorem run_row70 (a : Option Addr) (n c : Nat) (a' : Option Addr) (n' c' : Nat) (w : World) : (Instr.buildSlice 70 2 #[(0, .slice a n c), (1, .slice a' n' c')]).run Try.prog w = .ok (.slice (some ⟨w.heap.size, 0, none⟩) 2 2) (newB w #[.slice a n c, .slice a' n' c'] 27) := by kernel_rfl

theorem Newer_spec {v0 v1 : Value} {xs ys : List UInt8} {w : World} {K : Value → World → Prop} (hb0 : Bts w v0 xs) (hb1 : Bts w v1 ys)
    (h : ∀ w1, Ext w w1 → K (.tuple #[.agg (newerP xs ys).1.cs.toArray, .int .i64 (newerP xs ys).2.1, .int .i64 (newerP xs ys).2.2]) w1) : CALL Try.prog 48 #[v0, v1] w K := by
  obtain ⟨a0, c0, e0⟩ := Bts.slice hb0
  obtain ⟨a1, c1, e1⟩ := Bts.slice hb1
  apply call_slot_Newer
  unfold B_slot_Newer
  refine X_alloc zero_25 ?_
  have hr : (newB w nilSl.cs.toArray 25).heap[w.heap.size]? = some (.cells nilSl.cs.toArray 25 (0, 0)) := newB_get _ _ _
  have hx1 := newB_ext w nilSl.cs.toArray 25
  have hz1 := newB_size w nilSl.cs.toArray 25
  show X _ _ (newB w nilSl.cs.toArray 25) _
  generalize newB w nilSl.cs.toArray 25 = w1 at hr hx1 hz1 ⊢
  refine X_alloc zero_25 ?_
  have hc : (newB w1 nilSl.cs.toArray 25).heap[w1.heap.size]? = some (.cells nilSl.cs.toArray 25 (0, 0)) := newB_get _ _ _
  have hx2 := newB_ext w1 nilSl.cs.toArray 25
  have hz2 := newB_size w1 nilSl.cs.toArray 25
  show X _ _ (newB w1 nilSl.cs.toArray 25) _
  generalize newB w1 nilSl.cs.toArray 25 = w2 at hc hx2 hz2 ⊢
  have hrow : ∃ w3, (Instr.buildSlice 70 2 #[(0, v0), (1, v1)]).run Try.prog w2 = .ok (.slice (some ⟨w2.heap.size, 0, none⟩) 2 2) w3 ∧ w3.heap[w2.heap.size]? = some (.cells [v0, v1].toArray 27 (0, 0)) ∧ Ext w2 w3 ∧ w3.heap.size = w2.heap.size + 1 := by
    rw [e0, e1]
    exact ⟨_, run_row70 _ _ _ _ _ _ _, newB_get _ _ _, newB_ext _ _ _, newB_size _ _ _⟩
  obtain ⟨w3, hrun, hrw, hx3, hz3⟩ := hrow
  refine X_of hrun ?_
  simp only [SS, ST]
  have hx13 : Ext w w3 := hx1.trans (hx2.trans hx3)
  refine loopS_of (fun ρ wr => ∃ (i : Nat) (c : Sl × Int), i ≤ 2 ∧ c = (match i with | 0 => (nilSl, 0) | 1 => chNext (nilSl, 0) 0 xs | _ => chNext (chNext (nilSl, 0) 0 xs) 1 ys) ∧ Ext w wr ∧ w3.heap.size ≤ wr.heap.size ∧
      wr.heap[w.heap.size]? = some (.cells nilSl.cs.toArray 25 (0, 0)) ∧ wr.heap[w1.heap.size]? = some (.cells c.1.cs.toArray 25 (0, 0)) ∧ wr.heap[w2.heap.size]? = some (.cells [v0, v1].toArray 27 (0, 0)) ∧
      ρ 17 = .int .i64 (i : Nat) ∧ ρ 16 = .int .i64 2 ∧ ρ 15 = .slice (some ⟨w2.heap.size, 0, none⟩) 2 2 ∧ ρ 7 = .pointer (some ⟨w1.heap.size, 0, none⟩) ∧ ρ 8 = .int .i64 c.2 ∧ ρ 4 = .pointer (some ⟨w.heap.size, 0, none⟩))
    (fun ρ wr => match ρ 17 with | .int _ s => (2 - s).toNat | _ => 0) ?_ ?_
  · exact ⟨0, _, by omega, rfl, hx13, Nat.le_refl _, hx3.get (hx2.get hr), hx3.get hc, hrw, rfl, rfl, rfl, rfl, rfl, rfl⟩
  · rintro ρ wr ⟨i, c, hi, hce, hxr, hsz, hr', hc', hrw', h17, h16, h15, h7, h8, h4⟩
    by_cases hin : i = 2
    · subst hin
      simp only [SS, ST, h17, h16, h15, h7, h8, h4]
      rw [if_neg (by simp)]
      simp only [upds_cons, upds_nil, Nat.reduceEqDiff, if_false, h7, h8, h4, SS, ST]
      refine X_loadL agg_22 hc' rfl ?_
      simp only [SS, ST]
      have hce' : c = chNext (chNext (nilSl, 0) 0 xs) 1 ys := hce
      by_cases hg : c.1.gen = 0
      · have ed : decide ((c.1.gen : Int) = 0) = true := by simp [hg]
        rw [if_pos ed]
        refine X_of (run_build_25z _) ?_
        refine XU_storeAgg info_25 hr' (by rw [sz_25]; rfl) (by rw [sz_25]; rfl) (Sl.one nilSl) ?_
        refine resC_agg Try.underlying25 agg_25 info_25 (setAt_same (lt_of_blk hr')) (by rw [sz_25]; rfl) ?_
        have := h _ (Ext.seq hxr (setAt_keep wr w.heap.size nilSl.cs.toArray 25 (0, 0)) (fun i hi => by omega))
        rw [show newerP xs ys = (nilSl, 0, 100) by unfold newerP; rw [← hce']; simp [hg]] at this
        exact this
      · have ed : decide ((c.1.gen : Int) = 0) = false := by simp [hg]
        rw [if_neg (by rw [ed]; decide)]
        refine X_loadAgg Try.underlying25 agg_25 info_25 hc' (by rw [sz_25]; rfl) ?_
        refine XU_storeAgg info_25 hr' (by rw [sz_25]; rfl) (by rw [sz_25]; rfl) (Sl.one _) ?_
        refine resC_agg Try.underlying25 agg_25 info_25 (setAt_same (lt_of_blk hr')) (by rw [sz_25]; rfl) ?_
        have := h _ (Ext.seq hxr (setAt_keep wr w.heap.size c.1.cs.toArray 25 (0, 0)) (fun i hi => by omega))
        rw [show newerP xs ys = (c.1, c.2, 0) by unfold newerP; rw [← hce']; simp [hg]] at this
        exact this
    · have hsel : ∃ vi bi, [v0, v1][i]? = some vi ∧ Bts w vi bi ∧ (match i + 1 with | 0 => (nilSl, 0) | 1 => chNext (nilSl, 0) 0 xs | _ => chNext (chNext (nilSl, 0) 0 xs) 1 ys) = chNext c i bi := by
        have hi2 : i = 0 ∨ i = 1 := by omega
        rcases hi2 with rfl | rfl
        · exact ⟨v0, xs, rfl, hb0, by rw [hce]; rfl⟩
        · exact ⟨v1, ys, rfl, hb1, by rw [hce]; rfl⟩
      obtain ⟨vi, bi, hvi, hbi, hnext⟩ := hsel
      simp only [SS, ST, h17, h16, h15, h7, h8, h4]
      rw [if_pos (by simp; omega)]
      refine X_of (ix Try.underlying70 info_27 i rfl (by omega) _) ?_
      have ea : (⟨w2.heap.size, 0, none⟩ : Addr).add (i * szT Try.prog 27) = ⟨w2.heap.size, i, none⟩ := by
        rw [sz_27, Nat.mul_one]; unfold Addr.add; split <;> simp_all
      rw [ea]
      refine X_loadL agg_27 hrw' hvi ?_
      refine Take_all (hbi.ext hxr) ?_
      intro w4 hx4
      simp only [SS, ST]
      refine X_slotVar (s := (takeP bi).1) ?_
      intro w5 hx5 hb5
      have hx45 := hx4.trans hx5
      have hr5 := Ext.get hx45 hr'
      have hc5 := Ext.get hx45 hc'
      have hrw5 := Ext.get hx45 hrw'
      have hxr5 : Ext w w5 := hxr.trans hx45
      have hs4 := hx4.size
      have hs5 := hx5.size
      by_cases herr : (takeP bi).2 = 0
      · have ee : decide ((takeP bi).2 = 0) = true := by simpa using herr
        simp only [SS, ST, ee, if_true]
        refine X_loadL agg_22 hb5 rfl ?_
        refine X_loadL agg_22 hc5 rfl ?_
        simp only [SS, ST]
        by_cases hgt : c.1.gen < (takeP bi).1.gen
        · have eg : decide (((takeP bi).1.gen : Int) > (c.1.gen : Int)) = true := by simp; omega
          rw [if_pos eg]
          refine X_loadAgg Try.underlying25 agg_25 info_25 hb5 (by rw [sz_25]; rfl) ?_
          refine XU_storeAgg info_25 hc5 (by rw [sz_25]; rfl) (by rw [sz_25]; rfl) (Sl.one _) ?_
          simp only [upds_cons, upds_nil, Nat.reduceEqDiff, if_false, if_true, h17, SS, ST]
          show _ ∧ _
          have hk := setAt_keep w5 w1.heap.size (takeP bi).1.cs.toArray 25 (0, 0)
          refine ⟨⟨i + 1, chNext c i bi, by omega, hnext.symm, Ext.seq hxr5 hk (fun j hj => by omega), ?_, hk.get (by omega) hr5, ?_, hk.get (by omega) hrw5, next64 (n := 2) (by decide) hi, h16, h15, h7, ?_, h4⟩, ?_⟩
          · rw [setAt_size]; omega
          · rw [show (chNext c i bi).1 = (takeP bi).1 by unfold chNext; rw [if_pos ⟨herr, hgt⟩]]
            exact setAt_same (lt_of_blk hc5)
          · rw [show (chNext c i bi).2 = (i : Int) by unfold chNext; rw [if_pos ⟨herr, hgt⟩]]
          · show (_ - IntKind.i64.wrap _).toNat < _
            rw [w64 (by omega) (by omega)]
            omega
        · have eg : decide (((takeP bi).1.gen : Int) > (c.1.gen : Int)) = false := by simp; omega
          rw [if_neg (by rw [eg]; decide)]
          simp only [upds_cons, upds_nil, Nat.reduceEqDiff, if_false, if_true, h17, SS, ST]
          show _ ∧ _
          have ecn : chNext c i bi = c := by unfold chNext; rw [if_neg (fun hh => hgt hh.2)]
          refine ⟨⟨i + 1, c, by omega, by rw [← ecn, ← hnext], hxr5, by omega, hr5, hc5, hrw5, next64 (n := 2) (by decide) hi, h16, h15, h7, h8, h4⟩, ?_⟩
          · show (_ - IntKind.i64.wrap _).toNat < _
            rw [w64 (by omega) (by omega)]
            omega
      · have ee : decide ((takeP bi).2 = 0) = false := by simpa using herr
        simp only [SS, ST, ee, Bool.false_eq_true, if_false]
        simp only [upds_cons, upds_nil, Nat.reduceEqDiff, if_false, if_true, h17, SS, ST]
        show _ ∧ _
        have ecn : chNext c i bi = c := by unfold chNext; rw [if_neg (fun hh => herr hh.1)]
        refine ⟨⟨i + 1, c, by omega, by rw [← ecn, ← hnext], hxr5, by omega, hr5, hc5, hrw5, next64 (n := 2) (by decide) hi, h16, h15, h7, h8, h4⟩, ?_⟩
        · show (_ - IntKind.i64.wrap _).toNat < _
          rw [w64 (by omega) (by omega)]
          omega
end Go.Proofs.Ytggggfcgnkllgaa
end
section
/- The reference's Newer, by contract. -/
set_option linter.unusedVariables false
set_option linter.unusedSimpArgs false
namespace Go.Proofs.Ytggggfcgnkllgaa
open Go Go.Sh Go.RowKit
attribute [local irreducible] X XU XP XR CALL loopS resC closS

theorem takeP_cases (bs : List UInt8) : (takeB bs = none ∧ takeP bs = (nilSl, 100)) ∨ ∃ s : Sl, takeB bs = some s ∧ s.gen ≠ 0 ∧ takeP bs = (s, 0) := by
  cases h : takeB bs with
  | none => exact .inl ⟨rfl, by unfold takeP; rw [h]⟩
  | some s => exact .inr ⟨s, rfl, (take_some h).2.1, by unfold takeP; rw [h]⟩
theorem newer_nn {x y : List UInt8} (hx : takeP x = (nilSl, 100)) (hy : takeP y = (nilSl, 100)) : newerP x y = (nilSl, 0, 100) := by
  simp [newerP, chNext, hx, hy, nilSl]
theorem newer_sn {x y : List UInt8} {s : Sl} (hs : s.gen ≠ 0) (hx : takeP x = (s, 0)) (hy : takeP y = (nilSl, 100)) : newerP x y = (s, 0, 0) := by
  have : 0 < s.gen := by omega
  simp [newerP, chNext, hx, hy, nilSl, this, hs]
theorem newer_ns {x y : List UInt8} {s : Sl} (hs : s.gen ≠ 0) (hx : takeP x = (nilSl, 100)) (hy : takeP y = (s, 0)) : newerP x y = (s, 1, 0) := by
  have : 0 < s.gen := by omega
  simp [newerP, chNext, hx, hy, nilSl, this, hs]
theorem newer_ss {x y : List UInt8} {s t : Sl} (hs : s.gen ≠ 0) (ht : t.gen ≠ 0) (hx : takeP x = (s, 0)) (hy : takeP y = (t, 0)) : newerP x y = if s.gen < t.gen then (t, 1, 0) else (s, 0, 0) := by
  have h1 : 0 < s.gen := by omega
  by_cases h : s.gen < t.gen
  · simp [newerP, chNext, hx, hy, nilSl, h1, h, hs, ht]
  · simp [newerP, chNext, hx, hy, nilSl, h1, h, hs, ht]

theorem RNewer_spec {v0 v1 : Value} {xs ys : List UInt8} {w : World} {K : Value → World → Prop} (hb0 : Bts w v0 xs) (hb1 : Bts w v1 ys)
    (h : ∀ w1, Ext w w1 → K (.tuple #[.agg (newerP xs ys).1.cs.toArray, .int .i64 (newerP xs ys).2.1, .int .i64 (newerP xs ys).2.2]) w1) : CALL Try.prog 49 #[v0, v1] w K := by
  apply call_ref10_Newer
  unfold B_ref10_Newer
  refine X_alloc zero_25 ?_
  have hr : (newB w nilSl.cs.toArray 25).heap[w.heap.size]? = some (.cells nilSl.cs.toArray 25 (0, 0)) := newB_get _ _ _
  have hx1 := newB_ext w nilSl.cs.toArray 25
  have hz1 := newB_size w nilSl.cs.toArray 25
  show CALL _ _ _ (newB w nilSl.cs.toArray 25) _
  generalize newB w nilSl.cs.toArray 25 = w1 at hr hx1 hz1 ⊢
  refine RTake_all (hb0.ext hx1) ?_
  intro w2 hx2
  simp only [SS, ST]
  refine X_slotVar ?_
  intro w3 hx3 hb3
  have hx13 := hx1.trans (hx2.trans hx3)
  refine RTake_all (hb1.ext hx13) ?_
  intro w4 hx4
  simp only [SS, ST]
  refine X_slotVar ?_
  intro w5 hx5 hb5
  have hx15 : Ext w1 w5 := hx2.trans (hx3.trans (hx4.trans hx5))
  have hr5 := Ext.get hx15 hr
  have hb35 := Ext.get (hx4.trans hx5) hb3
  have put : ∀ (s : Sl) (i e : Int), newerP xs ys = (s, i, e) → XU Try.prog (Instr.storeAt 25 (.pointer (some ⟨w.heap.size, 0, none⟩)) (.agg s.cs.toArray)) w5 fun w41 =>
      resC Try.prog 25 (.pointer (some ⟨w.heap.size, 0, none⟩)) w41 fun r0 => K (.tuple #[r0, (.int .i64 i), (.int .i64 e)]) w41 := by
    intro s i e hn
    refine XU_storeAgg info_25 hr5 (by rw [sz_25]; rfl) (by rw [sz_25]; rfl) (Sl.one _) ?_
    refine resC_agg Try.underlying25 agg_25 info_25 (setAt_same (lt_of_blk hr5)) (by rw [sz_25]; rfl) ?_
    have := h _ (Ext.seq (hx1.trans hx15) (setAt_keep w5 w.heap.size s.cs.toArray 25 (0, 0)) (fun i hi => by omega))
    rw [hn] at this
    exact this
  have d0 : decide ((0 : Int) ≠ 0) = false := by decide
  have d1 : decide ((100 : Int) ≠ 0) = true := by decide
  have d2 : decide ((100 : Int) = 0) = false := by decide
  rcases takeP_cases xs with ⟨_, hA⟩ | ⟨s, _, hs, hA⟩
  · rcases takeP_cases ys with ⟨_, hB⟩ | ⟨t, _, ht, hB⟩
    · simp only [hA, hB, SS, ST, d0, d1, d2, if_true, Bool.false_eq_true, if_false]
      refine X_of (run_build_25z _) ?_
      exact put nilSl 0 100 (newer_nn hA hB)
    · simp only [hA, hB, SS, ST, d0, d1, d2, if_true, Bool.false_eq_true, if_false, Bool.true_eq_false]
      rw [hB] at hb5
      refine X_loadAgg Try.underlying25 agg_25 info_25 hb5 (by rw [sz_25]; rfl) ?_
      exact put t 1 0 (newer_ns ht hA hB)
  · rcases takeP_cases ys with ⟨_, hB⟩ | ⟨t, _, ht, hB⟩
    · simp only [hA, hB, SS, ST, d0, d1, d2, if_true, Bool.false_eq_true, if_false, Bool.true_eq_false]
      rw [hA] at hb35
      refine X_loadAgg Try.underlying25 agg_25 info_25 hb35 (by rw [sz_25]; rfl) ?_
      exact put s 0 0 (newer_sn hs hA hB)
    · simp only [hA, hB, SS, ST, d0, d1, d2, if_true, Bool.false_eq_true, if_false, Bool.true_eq_false, decide_true]
      rw [hA] at hb35
      rw [hB] at hb5
      refine X_loadL agg_22 hb5 rfl ?_
      refine X_loadL agg_22 hb35 rfl ?_
      simp only [SS, ST]
      have hn := newer_ss hs ht hA hB
      by_cases hgt : s.gen < t.gen
      · have eg : decide ((t.gen : Int) > (s.gen : Int)) = true := by simp; omega
        rw [if_pos eg]
        rw [if_pos hgt] at hn
        refine X_loadAgg Try.underlying25 agg_25 info_25 hb5 (by rw [sz_25]; rfl) ?_
        exact put t 1 0 hn
      · have eg : decide ((t.gen : Int) > (s.gen : Int)) = false := by simp; omega
        rw [if_neg (by rw [eg]; decide)]
        rw [if_neg hgt] at hn
        refine X_loadAgg Try.underlying25 agg_25 info_25 hb35 (by rw [sz_25]; rfl) ?_
        exact put s 0 0 hn
end Go.Proofs.Ytggggfcgnkllgaa
end
section
/- What a home is, plain Lean: two slots and two areas of a disk. -/
set_option linter.unusedSimpArgs false
set_option linter.unusedVariables false
namespace Go.Proofs.Ytggggfcgnkllgaa
open Go Go.Sh
def hnewer (d : Dk) : Sl × Int × Int := newerP (d.now.getD 0 []) (d.now.getD 1 [])
def hbytes (d : Dk) (at_ n : Nat) : List UInt8 := ((d.now.drop at_).flatten).take n
structure HL where
  bs : List UInt8
  s : Sl
  pos : Int
  err : Int
def hload (each : Nat) (d : Dk) : HL :=
  if d.dead = true then ⟨[], nilSl, 0, 6⟩
  else if (hnewer d).2.2 ≠ 0 then ⟨[], nilSl, 0, 0⟩
  else if 1 < (hnewer d).1.area ∨ each * 128 < (hnewer d).1.size then ⟨[], nilSl, 0, 200⟩
  else if (crc (hbytes d (2 + (hnewer d).1.area * each) (hnewer d).1.size)).toNat ≠ (hnewer d).1.sum then ⟨[], nilSl, 0, 200⟩
  else ⟨hbytes d (2 + (hnewer d).1.area * each) (hnewer d).1.size, (hnewer d).1, (hnewer d).2.1, 0⟩
/-- Bytes are written, and made safe. -/
def hwrite (d : Dk) (at_ : Nat) (x : List UInt8) : Dk × Int := if (layAll d at_ x).2 ≠ 0 then layAll d at_ x else (layAll d at_ x).1.flush
def harea (h : HL) : Nat := if h.s.gen = 0 then 0 else 1 - h.s.area
def hpos (h : HL) : Nat := if h.s.gen = 0 then 1 else (1 - h.pos).toNat
def hnext (h : HL) (bs : List UInt8) : Sl := ⟨h.s.gen + 1, harea h, bs.length, (crc bs).toNat⟩
def hsave (each : Nat) (d : Dk) (bs : List UInt8) : Dk × Int :=
  if each * 128 < bs.length then (d, 4)
  else if (hload each d).err ≠ 0 then (d, (hload each d).err)
  else if (hload each d).s.gen = 18446744073709551615 then (d, 4)
  else if (hwrite d (2 + harea (hload each d) * each) bs).2 ≠ 0 then hwrite d (2 + harea (hload each d) * each) bs
  else hwrite (hwrite d (2 + harea (hload each d) * each) bs).1 (hpos (hload each d)) (layB (hnext (hload each d) bs))
def hok (each size : Nat) : Prop := 1 ≤ each ∧ each ≤ 16384 ∧ 2 + 2 * each ≤ size ∧ size ≤ 16384
theorem takeP_ok (bs : List UInt8) : (takeP bs).1.ok := by
  rcases takeP_cases bs with ⟨_, h⟩ | ⟨s, h1, _, h⟩
  · rw [h]; exact ⟨by decide, by decide, by decide, by decide⟩
  · rw [h]; exact (take_some h1).2.2.2
theorem chNext_ok {c : Sl × Int} (h : c.1.ok) (i : Nat) (bs : List UInt8) : (chNext c i bs).1.ok := by
  unfold chNext
  split
  · exact takeP_ok bs
  · exact h
theorem nilSl_ok : nilSl.ok := ⟨by decide, by decide, by decide, by decide⟩
theorem newerP_ok (x y : List UInt8) : (newerP x y).1.ok := by
  unfold newerP
  simp only
  split
  · exact nilSl_ok
  · exact chNext_ok (chNext_ok nilSl_ok _ _) _ _
theorem chNext_at {c : Sl × Int} (h : c.2 = 0 ∨ c.2 = 1) {i : Nat} (hi : i = 0 ∨ i = 1) (bs : List UInt8) : (chNext c i bs).2 = 0 ∨ (chNext c i bs).2 = 1 := by
  unfold chNext
  split
  · show (i : Int) = 0 ∨ (i : Int) = 1; omega
  · exact h
theorem newerP_at (x y : List UInt8) : (newerP x y).2.1 = 0 ∨ (newerP x y).2.1 = 1 := by
  unfold newerP
  simp only
  split
  · exact .inl rfl
  · exact chNext_at (chNext_at (.inl rfl) (.inl rfl) _) (.inr rfl) _
/-- There is a slot just where its number is none but 0. -/
theorem newerP_err (x y : List UInt8) : (newerP x y).2.2 = 0 ∧ (newerP x y).1.gen ≠ 0 ∨ (newerP x y).2.2 = 100 ∧ (newerP x y).1 = nilSl := by
  unfold newerP
  simp only
  split
  · exact .inr ⟨rfl, rfl⟩
  · rename_i h; exact .inl ⟨rfl, h⟩
theorem layAll_ws3 (d : Dk) (t : Nat) (x : List UInt8) : (layAll d t x).1.ws.length ≤ d.ws.length + (x.length + 127) / 128 := by
  refine layAll_ind (P := fun d t x => (layAll d t x).1.ws.length ≤ d.ws.length + (x.length + 127) / 128) ?_ ?_ ?_ d t x
  · intro d t; rw [layAll_nil]; show d.ws.length ≤ _; omega
  · intro d t x hx he
    rw [layAll_cons d t hx, if_pos he]
    have := Dk.write_ws d (t : Int) (x.take 128)
    have hp : 0 < x.length := List.length_pos_iff.2 hx
    omega
  · intro d t x hx he ih
    rw [layAll_cons d t hx, if_neg (by simpa using he)]
    have := Dk.write_ws d (t : Int) (x.take 128)
    have hp : 0 < x.length := List.length_pos_iff.2 hx
    rw [List.length_drop] at ih
    omega
theorem hwrite_ok {d : Dk} (h : d.ok) (at_ : Nat) (x : List UInt8) : (hwrite d at_ x).1.ok := by
  unfold hwrite
  split
  · exact layAll_ok h _ _
  · exact Dk.flush_ok (layAll_ok h _ _)
theorem hwrite_size (d : Dk) (at_ : Nat) (x : List UInt8) : (hwrite d at_ x).1.safe.length = d.safe.length := by
  unfold hwrite
  split
  · exact layAll_size _ _ _
  · rw [Dk.flush_size, layAll_size]
theorem hwrite_ws (d : Dk) (at_ : Nat) (x : List UInt8) : (hwrite d at_ x).1.ws.length ≤ d.ws.length + x.length := by
  have h := layAll_ws d at_ x
  unfold hwrite
  split
  · exact h
  · have := Dk.flush_ws (layAll d at_ x).1
    omega
theorem hsave_ok {d : Dk} (h : d.ok) (each : Nat) (bs : List UInt8) : (hsave each d bs).1.ok := by
  unfold hsave
  repeat' split
  all_goals first | exact h | exact hwrite_ok h _ _ | exact hwrite_ok (hwrite_ok h _ _) _ _
theorem hsave_size (each : Nat) (d : Dk) (bs : List UInt8) : (hsave each d bs).1.safe.length = d.safe.length := by
  unfold hsave
  repeat' split
  all_goals first | rfl | exact hwrite_size _ _ _ | exact (hwrite_size _ _ _).trans (hwrite_size _ _ _)
theorem hload_cases (each : Nat) (d : Dk) : (hload each d).err ≠ 0 ∧ (hload each d).bs = [] ∧ (hload each d).s = nilSl ∧ (hload each d).pos = 0 ∨
    (hload each d).err = 0 ∧ d.dead = false ∧ ((hload each d).bs = [] ∧ (hload each d).s = nilSl ∧ (hload each d).pos = 0 ∧ (hnewer d).2.2 ≠ 0 ∨
      (hnewer d).2.2 = 0 ∧ (hload each d).s = (hnewer d).1 ∧ (hload each d).pos = (hnewer d).2.1 ∧ (hnewer d).1.area ≤ 1 ∧ (hnewer d).1.size ≤ each * 128 ∧ (hnewer d).1.gen ≠ 0) := by
  unfold hload
  split
  · exact .inl ⟨by decide, rfl, rfl, rfl⟩
  · rename_i h0
    have h0' : d.dead = false := by simpa using h0
    split
    · rename_i h1; exact .inr ⟨rfl, h0', .inl ⟨rfl, rfl, rfl, h1⟩⟩
    · rename_i h1
      have h1' : (hnewer d).2.2 = 0 := Decidable.not_not.1 h1
      split
      · exact .inl ⟨by decide, rfl, rfl, rfl⟩
      · rename_i h2
        split
        · exact .inl ⟨by decide, rfl, rfl, rfl⟩
        · rcases newerP_err (d.now.getD 0 []) (d.now.getD 1 []) with ⟨_, hg⟩ | ⟨hg, _⟩
          · exact .inr ⟨rfl, h0', .inr ⟨h1', rfl, rfl, by omega, by omega, hg⟩⟩
          · have : (hnewer d).2.2 = 100 := hg
            omega
end Go.Proofs.Ytggggfcgnkllgaa
end
section
set_option linter.unusedVariables false
namespace Go.Proofs.Ytggggfcgnkllgaa
open Go Go.Sh
attribute [local irreducible] X XU XP XR CALL loopS resC closS
/-- (*cellarage/home.Home).Load -/
def B_home_Home_Load (x0 : Value) (w : World) (K : Value → World → Prop) : Prop :=
  X Try.prog (binOpG .eql 150 (.tmp 9) (.const (.pointer none)) x0 (.pointer none)) w fun v1_10 w1 =>
  condS v1_10 (
  K (.tuple #[(.slice none 0 0), (.int .u64 0), (.int .i64 2)]) w1) (
  CALL Try.prog 145 #[x0] w1 fun v2_13 w2 =>
  X Try.prog (Instr.extract v2_13 0) w2 fun v3_14 w3 =>
  X Try.prog (Instr.extract v2_13 1) w3 fun v4_15 w4 =>
  X Try.prog (Instr.extract v2_13 2) w4 fun v5_16 w5 =>
  X Try.prog (Instr.extract v2_13 3) w5 fun v6_17 w6 =>
  X Try.prog (Instr.alloc 25 true (.tuple #[])) w6 fun v7_6 w7 =>
  XU Try.prog (Instr.storeAt 25 v7_6 v4_15) w7 fun w8 =>
  ∃ R, Frame? R ∧
  XP Try.prog (Instr.fieldAt 25 v7_6 0) (drewW w8) fun v8_19 w9 =>
  XR Try.prog R (Instr.loadAt 22 v8_19) w9 fun v9_20 w10 =>
  K (.tuple #[v3_14, v9_20, v6_17]) w10)

theorem eq_home_Home_Load (x0 : Value) (w : World) (K : Value → World → Prop) :
    sh Try.prog (Try.f115.body.getD .skip) (retS Try.prog Try.f115.results K) (env0 #[x0]) w = B_home_Home_Load x0 w K := by kernel_rfl

theorem call_home_Home_Load (x0 : Value) (w : World) (K : Value → World → Prop) (h : B_home_Home_Load x0 w K) : CALL Try.prog 115 #[x0] w K :=
  call_of_eq (c := Try.f115.body.getD .skip) mixed Try.func115 (by kernel_rfl) (by kernel_rfl) (by kernel_rfl) (Nat.le_of_ble_eq_true (by kernel_rfl)) (eq_home_Home_Load x0 w K) h

/-- cellarage/home.New -/
def B_home_New (x0 x1 : Value) (w : World) (K : Value → World → Prop) : Prop :=
  X Try.prog (binOpG .eql 74 (.tmp 6) (.const (.pointer none)) x0 (.pointer none)) w fun v1_7 w1 =>
  condS v1_7 (
  K (.tuple #[(.pointer none), (.int .i64 2)]) w1) (
  X Try.prog (binOp .lss 3 x1 (.int .i64 1)) w1 fun v2_9 w2 =>
  gstep v2_9 false (fun w3 K => K x1 w3) w2 fun v3_11 w4 =>
  gstep v2_9 false (fun w5 K => X Try.prog (binOp .gtr 3 v3_11 (.int .i64 16384)) w5 K) w4 fun v4_12 w6 =>
  X Try.prog (pickS v2_9 (.bool true) v4_12) w6 fun v5_13 w7 =>
  gstep v5_13 false (fun w8 K => K x0 w8) w7 fun v6_15 w9 =>
  gstep v5_13 false (fun w10 K => CALL Try.prog 84 #[v6_15] w10 K) w9 fun v7_16 w11 =>
  gstep v5_13 false (fun w12 K => K x1 w12) w11 fun v8_17 w13 =>
  gstep v5_13 false (fun w14 K => X Try.prog (binOp .mul 3 (.int .i64 2) v8_17) w14 K) w13 fun v9_18 w15 =>
  gstep v5_13 false (fun w16 K => X Try.prog (binOp .add 3 (.int .i64 2) v9_18) w16 K) w15 fun v10_19 w17 =>
  gstep v5_13 false (fun w18 K => X Try.prog (binOp .lss 3 v7_16 v10_19) w18 K) w17 fun v11_20 w19 =>
  X Try.prog (pickS v5_13 (.bool true) v11_20) w19 fun v12_21 w20 =>
  condS v12_21 (
  K (.tuple #[(.pointer none), (.int .i64 1)]) w20) (
  X Try.prog (Instr.build 204 #[(0, x0), (1, x1)]) w20 fun v13_24 w21 =>
  X Try.prog (Instr.box 204 v13_24) w21 fun v14_25 w22 =>
  K (.tuple #[v14_25, (.int .i64 0)]) w22))

theorem eq_home_New (x0 x1 : Value) (w : World) (K : Value → World → Prop) :
    sh Try.prog (Try.f116.body.getD .skip) (retS Try.prog Try.f116.results K) (env0 #[x0, x1]) w = B_home_New x0 x1 w K := by kernel_rfl

theorem call_home_New (x0 x1 : Value) (w : World) (K : Value → World → Prop) (h : B_home_New x0 x1 w K) : CALL Try.prog 116 #[x0, x1] w K :=
  call_of_eq (c := Try.f116.body.getD .skip) mixed Try.func116 (by kernel_rfl) (by kernel_rfl) (by kernel_rfl) (Nat.le_of_ble_eq_true (by kernel_rfl)) (eq_home_New x0 x1 w K) h

/-- (*cellarage/home.Home).Save -/
def B_home_Home_Save (x0 x1 : Value) (w : World) (K : Value → World → Prop) : Prop :=
  X Try.prog (binOpG .eql 150 (.tmp 12) (.const (.pointer none)) x0 (.pointer none)) w fun v1_13 w1 =>
  condS v1_13 (
  K (.int .i64 2) w1) (
  X Try.prog (Builtin.len_ #[27] 3 #[x1]) w1 fun v2_16 w2 =>
  CALL Try.prog 118 #[x0] w2 fun v3_18 w3 =>
  X Try.prog (binOp .gtr 3 v2_16 v3_18) w3 fun v4_19 w4 =>
  condS v4_19 (
  K (.int .i64 4) w4) (
  CALL Try.prog 145 #[x0] w4 fun v5_22 w5 =>
  X Try.prog (Instr.extract v5_22 0) w5 fun v6_23 w6 =>
  X Try.prog (Instr.extract v5_22 1) w6 fun v7_24 w7 =>
  X Try.prog (Instr.extract v5_22 2) w7 fun v8_25 w8 =>
  X Try.prog (Instr.extract v5_22 3) w8 fun v9_26 w9 =>
  X Try.prog (Instr.alloc 25 true (.tuple #[])) w9 fun v10_6 w10 =>
  XU Try.prog (Instr.storeAt 25 v10_6 v7_24) w10 fun w11 =>
  X Try.prog (binOpG .neq 30 (.tmp 27) (.const (.int .i64 0)) v9_26 (.int .i64 0)) w11 fun v11_28 w12 =>
  condS v11_28 (
  K v9_26 w12) (
  joinS (fun ρ1 w13 =>
  joinS (fun ρ2 w14 =>
  X Try.prog (Instr.fieldAt 25 (ρ2 9) 1) w14 fun v12_53 w15 =>
  X Try.prog (Instr.loadAt 5 v12_53) w15 fun v13_54 w16 =>
  CALL Try.prog 147 #[(ρ2 0), v13_54] w16 fun v14_55 w17 =>
  CALL Try.prog 146 #[(ρ2 0), v14_55, (ρ2 1)] w17 fun v15_57 w18 =>
  X Try.prog (binOpG .neq 30 (.tmp 58) (.const (.int .i64 0)) v15_57 (.int .i64 0)) w18 fun v16_59 w19 =>
  condS v16_59 (
  K v15_57 w19) (
  X Try.prog (binOp .sub 3 (.int .i64 1) (ρ2 7)) w19 fun v17_63 w20 =>
  X Try.prog (Instr.loadAt 25 (ρ2 9)) w20 fun v18_64 w21 =>
  CALL Try.prog 42 #[v18_64] w21 fun v19_65 w22 =>
  CALL Try.prog 146 #[(ρ2 0), v17_63, v19_65] w22 fun v20_66 w23 =>
  K v20_66 w23)) fun J2 =>
  X Try.prog (Instr.fieldAt 25 (ρ1 9) 0) w13 fun v21_44 w24 =>
  X Try.prog (Instr.loadAt 22 v21_44) w24 fun v22_45 w25 =>
  X Try.prog (binOpG .eql 22 (.tmp 45) (.const (.int .u64 0)) v22_45 (.int .u64 0)) w25 fun v23_46 w26 =>
  condS v23_46 (
  K (.int .i64 4) w26) (
  X Try.prog (Instr.fieldAt 25 (ρ1 6) 0) w26 fun v24_48 w27 =>
  X Try.prog (Instr.loadAt 22 v24_48) w27 fun v25_49 w28 =>
  X Try.prog (binOpG .eql 22 (.tmp 49) (.const (.int .u64 0)) v25_49 (.int .u64 0)) w28 fun v26_50 w29 =>
  condS v26_50 (
  J2 (upds ρ1 [(7, (.int .i64 0)), (47, v26_50), (50, v26_50), (49, v25_49), (48, v24_48), (43, v23_46), (46, v23_46), (45, v22_45), (44, v21_44)]) w29) (
  X Try.prog (Instr.fieldAt 25 (ρ1 6) 1) w29 fun v27_39 w30 =>
  X Try.prog (Instr.loadAt 5 v27_39) w30 fun v28_40 w31 =>
  X Try.prog (binOp .sub 5 (.int .u8 1) v28_40) w31 fun v29_41 w32 =>
  X Try.prog (Instr.fieldAt 25 (ρ1 9) 1) w32 fun v30_42 w33 =>
  XU Try.prog (Instr.storeAt 5 v30_42 v29_41) w33 fun w34 =>
  J2 (upds ρ1 [(42, v30_42), (41, v29_41), (40, v28_40), (39, v27_39), (47, v26_50), (50, v26_50), (49, v25_49), (48, v24_48), (43, v23_46), (46, v23_46), (45, v22_45), (44, v21_44)]) w34))) fun J1 =>
  ∃ R, Frame? R ∧
  XP Try.prog (Instr.fieldAt 25 v10_6 0) (drewW w12) fun v31_30 w35 =>
  XR Try.prog R (Instr.loadAt 22 v31_30) w35 fun v32_31 w36 =>
  XP Try.prog (binOp .add 22 v32_31 (.int .u64 1)) w36 fun v33_32 w37 =>
  XP Try.prog (Builtin.len_ #[27] 3 #[x1]) w37 fun v34_34 w38 =>
  XR Try.prog R (convert 3 23 v34_34) w38 fun v35_35 w39 =>
  (CALL Try.prog 51 #[x1] w39 fun v36_37 w40 =>
  R w39 w40 ∧
  XP Try.prog (Instr.build 25 #[(0, v33_32), (2, v35_35), (3, v36_37)]) w40 fun v37_38 w41 =>
  X Try.prog (Instr.alloc 25 true (.tuple #[])) w41 fun v38_9 w42 =>
  R w41 w42 ∧
  XU Try.prog (Instr.storeAt 25 v38_9 v37_38) w42 fun w43 =>
  J1 (upds (env0 #[x0, x1]) [(9, v38_9), (38, v37_38), (37, v36_37), (36, x1), (35, v35_35), (34, v34_34), (33, x1), (32, v33_32), (31, v32_31), (30, v31_30), (28, v11_28), (27, v9_26), (8, v9_26), (7, v8_25), (5, v6_23), (6, v10_6), (26, v9_26), (25, v8_25), (24, v7_24), (23, v6_23), (20, v5_22), (22, v5_22), (21, x0), (14, v4_19), (19, v4_19), (18, v3_18), (17, x0), (16, v2_16), (15, x1), (11, v1_13), (13, v1_13), (12, x0), (4, (.int .i64 0))]) w43) ∧
  (X Try.prog (Instr.alloc 25 true (.tuple #[])) w39 fun v39_9 w44 =>
  R w39 w44 ∧
  CALL Try.prog 51 #[x1] w44 fun v40_37 w45 =>
  R w44 w45 ∧
  XP Try.prog (Instr.build 25 #[(0, v33_32), (2, v35_35), (3, v40_37)]) w45 fun v41_38 w46 =>
  XU Try.prog (Instr.storeAt 25 v39_9 v41_38) w46 fun w47 =>
  J1 (upds (env0 #[x0, x1]) [(38, v41_38), (37, v40_37), (9, v39_9), (36, x1), (35, v35_35), (34, v34_34), (33, x1), (32, v33_32), (31, v32_31), (30, v31_30), (28, v11_28), (27, v9_26), (8, v9_26), (7, v8_25), (5, v6_23), (6, v10_6), (26, v9_26), (25, v8_25), (24, v7_24), (23, v6_23), (20, v5_22), (22, v5_22), (21, x0), (14, v4_19), (19, v4_19), (18, v3_18), (17, x0), (16, v2_16), (15, x1), (11, v1_13), (13, v1_13), (12, x0), (4, (.int .i64 0))]) w47))))

theorem eq_home_Home_Save (x0 x1 : Value) (w : World) (K : Value → World → Prop) :
    sh Try.prog (Try.f117.body.getD .skip) (retS Try.prog Try.f117.results K) (env0 #[x0, x1]) w = B_home_Home_Save x0 x1 w K := by kernel_rfl

theorem call_home_Home_Save (x0 x1 : Value) (w : World) (K : Value → World → Prop) (h : B_home_Home_Save x0 x1 w K) : CALL Try.prog 117 #[x0, x1] w K :=
  call_of_eq (c := Try.f117.body.getD .skip) mixed Try.func117 (by kernel_rfl) (by kernel_rfl) (by kernel_rfl) (Nat.le_of_ble_eq_true (by kernel_rfl)) (eq_home_Home_Save x0 x1 w K) h

/-- (*cellarage/home.Home).Room -/
def B_home_Home_Room (x0 : Value) (w : World) (K : Value → World → Prop) : Prop :=
  X Try.prog (binOpG .eql 150 (.tmp 3) (.const (.pointer none)) x0 (.pointer none)) w fun v1_4 w1 =>
  condS v1_4 (
  K (.int .i64 0) w1) (
  X Try.prog (nilS x0) w1 fun v2_6 w2 =>
  X Try.prog (Instr.fieldAt 204 v2_6 1) w2 fun v3_7 w3 =>
  X Try.prog (Instr.loadAt 3 v3_7) w3 fun v4_8 w4 =>
  X Try.prog (binOp .mul 3 v4_8 (.int .i64 128)) w4 fun v5_9 w5 =>
  K v5_9 w5)

theorem eq_home_Home_Room (x0 : Value) (w : World) (K : Value → World → Prop) :
    sh Try.prog (Try.f118.body.getD .skip) (retS Try.prog Try.f118.results K) (env0 #[x0]) w = B_home_Home_Room x0 w K := by kernel_rfl

theorem call_home_Home_Room (x0 : Value) (w : World) (K : Value → World → Prop) (h : B_home_Home_Room x0 w K) : CALL Try.prog 118 #[x0] w K :=
  call_of_eq (c := Try.f118.body.getD .skip) mixed Try.func118 (by kernel_rfl) (by kernel_rfl) (by kernel_rfl) (Nat.le_of_ble_eq_true (by kernel_rfl)) (eq_home_Home_Room x0 w K) h

/-- (*cellarage/home.Home).Rest -/
def B_home_Home_Rest (x0 : Value) (w : World) (K : Value → World → Prop) : Prop :=
  X Try.prog (binOpG .eql 150 (.tmp 3) (.const (.pointer none)) x0 (.pointer none)) w fun v1_4 w1 =>
  condS v1_4 (
  K (.int .i64 0) w1) (
  X Try.prog (nilS x0) w1 fun v2_6 w2 =>
  X Try.prog (Instr.fieldAt 204 v2_6 1) w2 fun v3_7 w3 =>
  X Try.prog (Instr.loadAt 3 v3_7) w3 fun v4_8 w4 =>
  X Try.prog (binOp .mul 3 (.int .i64 2) v4_8) w4 fun v5_9 w5 =>
  X Try.prog (binOp .add 3 (.int .i64 2) v5_9) w5 fun v6_10 w6 =>
  K v6_10 w6)

theorem eq_home_Home_Rest (x0 : Value) (w : World) (K : Value → World → Prop) :
    sh Try.prog (Try.f119.body.getD .skip) (retS Try.prog Try.f119.results K) (env0 #[x0]) w = B_home_Home_Rest x0 w K := by kernel_rfl

theorem call_home_Home_Rest (x0 : Value) (w : World) (K : Value → World → Prop) (h : B_home_Home_Rest x0 w K) : CALL Try.prog 119 #[x0] w K :=
  call_of_eq (c := Try.f119.body.getD .skip) mixed Try.func119 (by kernel_rfl) (by kernel_rfl) (by kernel_rfl) (Nat.le_of_ble_eq_true (by kernel_rfl)) (eq_home_Home_Rest x0 w K) h

/-- (*cellarage/home.Home).load -/
def B_home_Home_load (x0 : Value) (w : World) (K : Value → World → Prop) : Prop :=
  X Try.prog (Instr.alloc 25 true (.tuple #[])) w fun v1_3 w1 =>
  CALL Try.prog 151 #[x0, (.int .i64 0), (.int .i64 256)] w1 fun v2_13 w2 =>
  X Try.prog (Instr.extract v2_13 0) w2 fun v3_14 w3 =>
  X Try.prog (Instr.extract v2_13 1) w3 fun v4_15 w4 =>
  X Try.prog (binOpG .neq 30 (.tmp 16) (.const (.int .i64 0)) v4_15 (.int .i64 0)) w4 fun v5_17 w5 =>
  condS v5_17 (
  X Try.prog (Instr.build 25 #[]) w5 fun v6_18 w6 =>
  XU Try.prog (Instr.storeAt 25 v1_3 v6_18) w6 fun w7 =>
  resC Try.prog 25 v1_3 w7 fun r1 =>
  K (.tuple #[(.slice none 0 0), r1, (.int .i64 0), v4_15]) w7) (
  joinS (fun ρ1 w8 =>
  X Try.prog (binOpG .neq 30 (.tmp 29) (.const (.int .i64 0)) (ρ1 7) (.int .i64 0)) w8 fun v7_30 w9 =>
  condS v7_30 (
  X Try.prog (Instr.build 25 #[]) w9 fun v8_31 w10 =>
  XU Try.prog (Instr.storeAt 25 (ρ1 3) v8_31) w10 fun w11 =>
  resC Try.prog 25 (ρ1 3) w11 fun r1 =>
  K (.tuple #[(.slice none 0 0), r1, (.int .i64 0), (.int .i64 0)]) w11) (
  ∃ R, Frame? R ∧
  XP Try.prog (Instr.fieldAt 25 (ρ1 8) 1) (drewW w9) fun v9_32 w12 =>
  XR Try.prog R (Instr.loadAt 5 v9_32) w12 fun v10_33 w13 =>
  XP Try.prog (binOp .gtr 5 v10_33 (.int .u8 1)) w13 fun v11_34 w14 =>
  gstep v11_34 false (fun w15 K => XP Try.prog (Instr.fieldAt 25 (ρ1 8) 2) w15 K) w14 fun v12_36 w16 =>
  gstep v11_34 false (fun w17 K => XR Try.prog R (Instr.loadAt 23 v12_36) w17 K) w16 fun v13_37 w18 =>
  gstep v11_34 false (fun w19 K => XR Try.prog R (convert 23 22 v13_37) w19 K) w18 fun v14_38 w20 =>
  gstep v11_34 false (fun w21 K => K (ρ1 0) w21) w20 fun v15_39 w22 =>
  gstep v11_34 false (fun w23 K => CALL Try.prog 118 #[v15_39] w23 K) w22 fun v16_40 w24 =>
  R w22 w24 ∧
  gstep v11_34 false (fun w25 K => XR Try.prog R (convert 3 22 v16_40) w25 K) w24 fun v17_41 w26 =>
  gstep v11_34 false (fun w27 K => XP Try.prog (binOp .gtr 22 v14_38 v17_41) w27 K) w26 fun v18_42 w28 =>
  XP Try.prog (pickS v11_34 (.bool true) v18_42) w28 fun v19_43 w29 =>
  condS v19_43 (
  X Try.prog (Instr.build 25 #[]) w29 fun v20_44 w30 =>
  XU Try.prog (Instr.storeAt 25 (ρ1 3) v20_44) w30 fun w31 =>
  resC Try.prog 25 (ρ1 3) w31 fun r1 =>
  K (.tuple #[(.slice none 0 0), r1, (.int .i64 0), (.int .i64 200)]) w31) (
  ∃ R, Frame? R ∧
  XP Try.prog (Instr.fieldAt 25 (ρ1 8) 1) (drewW w29) fun v21_48 w32 =>
  XR Try.prog R (Instr.loadAt 5 v21_48) w32 fun v22_49 w33 =>
  XP Try.prog (Instr.fieldAt 25 (ρ1 8) 2) w33 fun v23_51 w34 =>
  XR Try.prog R (Instr.loadAt 23 v23_51) w34 fun v24_52 w35 =>
  XR Try.prog R (convert 23 3 v24_52) w35 fun v25_53 w36 =>
  CALL Try.prog 147 #[(ρ1 0), v22_49] w36 fun v26_50 w37 =>
  R w36 w37 ∧
  CALL Try.prog 151 #[(ρ1 0), v26_50, v25_53] w37 fun v27_54 w38 =>
  R w37 w38 ∧
  XP Try.prog (Instr.extract v27_54 0) w38 fun v28_55 w39 =>
  XP Try.prog (Instr.extract v27_54 1) w39 fun v29_56 w40 =>
  X Try.prog (binOpG .neq 30 (.tmp 57) (.const (.int .i64 0)) v29_56 (.int .i64 0)) w40 fun v30_58 w41 =>
  condS v30_58 (
  X Try.prog (Instr.build 25 #[]) w41 fun v31_59 w42 =>
  XU Try.prog (Instr.storeAt 25 (ρ1 3) v31_59) w42 fun w43 =>
  resC Try.prog 25 (ρ1 3) w43 fun r1 =>
  K (.tuple #[(.slice none 0 0), r1, (.int .i64 0), v29_56]) w43) (
  ∃ R, Frame? R ∧
  XP Try.prog (Instr.fieldAt 25 (ρ1 8) 3) (drewW w41) fun v32_63 w44 =>
  XR Try.prog R (Instr.loadAt 23 v32_63) w44 fun v33_64 w45 =>
  CALL Try.prog 51 #[v28_55] w45 fun v34_62 w46 =>
  R w45 w46 ∧
  XP Try.prog (binOpG .neq 23 (.tmp 62) (.tmp 64) v34_62 v33_64) w46 fun v35_65 w47 =>
  condS v35_65 (
  X Try.prog (Instr.build 25 #[]) w47 fun v36_66 w48 =>
  XU Try.prog (Instr.storeAt 25 (ρ1 3) v36_66) w48 fun w49 =>
  resC Try.prog 25 (ρ1 3) w49 fun r1 =>
  K (.tuple #[(.slice none 0 0), r1, (.int .i64 0), (.int .i64 200)]) w49) (
  ∃ R, Frame? R ∧
  XR Try.prog R (Instr.loadAt 25 (ρ1 8)) (drewW w47) fun v37_68 w50 =>
  XU Try.prog (Instr.storeAt 25 (ρ1 3) v37_68) w50 fun w51 =>
  resC Try.prog 25 (ρ1 3) w51 fun r1 =>
  K (.tuple #[v28_55, r1, (ρ1 9), (.int .i64 0)]) w51))))) fun J1 =>
  ∃ R, Frame? R ∧
  XP Try.prog (Instr.sliceAt 27 v3_14 none (some (.int .i64 128)) none) (drewW w5) fun v38_22 w52 =>
  XP Try.prog (Instr.sliceAt 27 v3_14 (some (.int .i64 128)) none none) w52 fun v39_24 w53 =>
  (CALL Try.prog 48 #[v38_22, v39_24] w53 fun v40_25 w54 =>
  XP Try.prog (Instr.extract v40_25 0) w54 fun v41_26 w55 =>
  XP Try.prog (Instr.extract v40_25 1) w55 fun v42_27 w56 =>
  XP Try.prog (Instr.extract v40_25 2) w56 fun v43_28 w57 =>
  X Try.prog (Instr.alloc 25 true (.tuple #[])) w57 fun v44_8 w58 =>
  XU Try.prog (Instr.storeAt 25 v44_8 v41_26) w58 fun w59 =>
  J1 (upds (env0 #[x0]) [(7, v43_28), (9, v42_27), (8, v44_8), (28, v43_28), (27, v42_27), (26, v41_26), (20, v40_25), (25, v40_25), (24, v39_24), (23, v3_14), (22, v38_22), (21, v3_14), (17, v5_17), (16, v4_15), (7, v4_15), (6, v3_14), (15, v4_15), (14, v3_14), (11, v2_13), (13, v2_13), (12, x0), (5, (.int .i64 0)), (4, (.int .i64 0)), (3, v1_3), (2, (.slice none 0 0))]) w59) ∧
  (X Try.prog (Instr.alloc 25 true (.tuple #[])) w53 fun v45_8 w60 =>
  CALL Try.prog 48 #[v38_22, v39_24] w60 fun v46_25 w61 =>
  XP Try.prog (Instr.extract v46_25 0) w61 fun v47_26 w62 =>
  XP Try.prog (Instr.extract v46_25 1) w62 fun v48_27 w63 =>
  XP Try.prog (Instr.extract v46_25 2) w63 fun v49_28 w64 =>
  XU Try.prog (Instr.storeAt 25 v45_8 v47_26) w64 fun w65 =>
  J1 (upds (env0 #[x0]) [(7, v49_28), (9, v48_27), (28, v49_28), (27, v48_27), (26, v47_26), (20, v46_25), (25, v46_25), (8, v45_8), (24, v39_24), (23, v3_14), (22, v38_22), (21, v3_14), (17, v5_17), (16, v4_15), (7, v4_15), (6, v3_14), (15, v4_15), (14, v3_14), (11, v2_13), (13, v2_13), (12, x0), (5, (.int .i64 0)), (4, (.int .i64 0)), (3, v1_3), (2, (.slice none 0 0))]) w65))

theorem eq_home_Home_load (x0 : Value) (w : World) (K : Value → World → Prop) :
    sh Try.prog (Try.f145.body.getD .skip) (retS Try.prog Try.f145.results K) (env0 #[x0]) w = B_home_Home_load x0 w K := by kernel_rfl

theorem call_home_Home_load (x0 : Value) (w : World) (K : Value → World → Prop) (h : B_home_Home_load x0 w K) : CALL Try.prog 145 #[x0] w K :=
  call_of_eq (c := Try.f145.body.getD .skip) mixed Try.func145 (by kernel_rfl) (by kernel_rfl) (by kernel_rfl) (Nat.le_of_ble_eq_true (by kernel_rfl)) (eq_home_Home_load x0 w K) h

/-- (*cellarage/home.Home).write -/
def B_home_Home_write (x0 x1 x2 : Value) (w : World) (K : Value → World → Prop) : Prop :=
  loopS (fun Q1 ρ1 w1 =>
  X Try.prog (Builtin.len_ #[27] 3 #[(ρ1 2)]) w1 fun v1_10 w2 =>
  X Try.prog (binOp .gtr 3 v1_10 (.int .i64 0)) w2 fun v2_11 w3 =>
  condS v2_11 (
  X Try.prog (Builtin.len_ #[27] 3 #[(ρ1 2)]) w3 fun v3_15 w4 =>
  X Try.prog (Builtin.min_ #[3, 3] 3 #[v3_15, (.int .i64 128)]) w4 fun v4_16 w5 =>
  ∃ R, Frame? R ∧
  XP Try.prog (nilS (ρ1 0)) (drewW w5) fun v5_18 w6 =>
  XP Try.prog (Instr.fieldAt 204 v5_18 0) w6 fun v6_19 w7 =>
  XR Try.prog R (Instr.loadAt 74 v6_19) w7 fun v7_20 w8 =>
  XP Try.prog (Instr.sliceAt 27 (ρ1 2) none (some v4_16) none) w8 fun v8_24 w9 =>
  CALL Try.prog 70 #[v7_20, (ρ1 1), v8_24] w9 fun v9_25 w10 =>
  X Try.prog (binOpG .neq 30 (.tmp 26) (.const (.int .i64 0)) v9_25 (.int .i64 0)) w10 fun v10_27 w11 =>
  condS v10_27 (
  Q1 .ret (upds ρ1 [(6, v9_25), (28, v9_25), (27, v10_27), (26, v9_25), (8, v9_25), (25, v9_25), (24, v8_24), (23, v4_16), (22, (ρ1 2)), (21, (ρ1 1)), (20, v7_20), (19, v6_19), (18, v5_18), (17, (ρ1 0)), (7, v4_16), (16, v4_16), (15, v3_15), (14, (ρ1 2)), (11, v2_11), (10, v1_10), (9, (ρ1 2))]) w11) (
  X Try.prog (Instr.sliceAt 27 (ρ1 2) (some v4_16) none none) w11 fun v11_31 w12 =>
  X Try.prog (binOp .add 3 (ρ1 1) (.int .i64 1)) w12 fun v12_13 w13 =>
  Q1 .normal (upds ρ1 [(1, v12_13), (13, v12_13), (12, (ρ1 1)), (2, v11_31), (31, v11_31), (30, v4_16), (29, (ρ1 2)), (27, v10_27), (26, v9_25), (8, v9_25), (25, v9_25), (24, v8_24), (23, v4_16), (22, (ρ1 2)), (21, (ρ1 1)), (20, v7_20), (19, v6_19), (18, v5_18), (17, (ρ1 0)), (7, v4_16), (16, v4_16), (15, v3_15), (14, (ρ1 2)), (11, v2_11), (10, v1_10), (9, (ρ1 2))]) w13)) (
  Q1 (.exit 0) (upds ρ1 [(11, v2_11), (10, v1_10), (9, (ρ1 2))]) w3)) (inBlockS 0 (thenS (fun ρ2 w14 =>
  X Try.prog (nilS (ρ2 0)) w14 fun v13_33 w15 =>
  X Try.prog (Instr.fieldAt 204 v13_33 0) w15 fun v14_34 w16 =>
  X Try.prog (Instr.loadAt 74 v14_34) w16 fun v15_35 w17 =>
  CALL Try.prog 71 #[v15_35] w17 fun v16_36 w18 =>
  K v16_36 w18) (retS Try.prog (Try.f146).results K))) (upds (env0 #[x0, x1, x2]) [(6, (.int .i64 0))]) w

theorem eq_home_Home_write (x0 x1 x2 : Value) (w : World) (K : Value → World → Prop) :
    sh Try.prog (Try.f146.body.getD .skip) (retS Try.prog Try.f146.results K) (env0 #[x0, x1, x2]) w = B_home_Home_write x0 x1 x2 w K := by kernel_rfl

theorem call_home_Home_write (x0 x1 x2 : Value) (w : World) (K : Value → World → Prop) (h : B_home_Home_write x0 x1 x2 w K) : CALL Try.prog 146 #[x0, x1, x2] w K :=
  call_of_eq (c := Try.f146.body.getD .skip) mixed Try.func146 (by kernel_rfl) (by kernel_rfl) (by kernel_rfl) (Nat.le_of_ble_eq_true (by kernel_rfl)) (eq_home_Home_write x0 x1 x2 w K) h

/-- (*cellarage/home.Home).area -/
def B_home_Home_area (x0 x1 : Value) (w : World) (K : Value → World → Prop) : Prop :=
  X Try.prog (convert 5 3 x1) w fun v1_6 w1 =>
  X Try.prog (nilS x0) w1 fun v2_8 w2 =>
  X Try.prog (Instr.fieldAt 204 v2_8 1) w2 fun v3_9 w3 =>
  X Try.prog (Instr.loadAt 3 v3_9) w3 fun v4_10 w4 =>
  X Try.prog (binOp .mul 3 v1_6 v4_10) w4 fun v5_11 w5 =>
  X Try.prog (binOp .add 3 (.int .i64 2) v5_11) w5 fun v6_12 w6 =>
  K v6_12 w6

theorem eq_home_Home_area (x0 x1 : Value) (w : World) (K : Value → World → Prop) :
    sh Try.prog (Try.f147.body.getD .skip) (retS Try.prog Try.f147.results K) (env0 #[x0, x1]) w = B_home_Home_area x0 x1 w K := by kernel_rfl

theorem call_home_Home_area (x0 x1 : Value) (w : World) (K : Value → World → Prop) (h : B_home_Home_area x0 x1 w K) : CALL Try.prog 147 #[x0, x1] w K :=
  call_of_eq (c := Try.f147.body.getD .skip) mixed Try.func147 (by kernel_rfl) (by kernel_rfl) (by kernel_rfl) (Nat.le_of_ble_eq_true (by kernel_rfl)) (eq_home_Home_area x0 x1 w K) h

/-- (*cellarage/home.Home).read -/
def B_home_Home_read (x0 x1 x2 : Value) (w : World) (K : Value → World → Prop) : Prop :=
  loopS (fun Q1 ρ1 w1 =>
  X Try.prog (Builtin.len_ #[27] 3 #[(ρ1 8)]) w1 fun v1_12 w2 =>
  X Try.prog (binOp .lss 3 v1_12 (ρ1 2)) w2 fun v2_14 w3 =>
  condS v2_14 (
  X Try.prog (nilS (ρ1 0)) w3 fun v3_19 w4 =>
  X Try.prog (Instr.fieldAt 204 v3_19 0) w4 fun v4_20 w5 =>
  X Try.prog (Instr.loadAt 74 v4_20) w5 fun v5_21 w6 =>
  CALL Try.prog 73 #[v5_21, (ρ1 1)] w6 fun v6_23 w7 =>
  X Try.prog (Instr.extract v6_23 0) w7 fun v7_24 w8 =>
  X Try.prog (Instr.extract v6_23 1) w8 fun v8_25 w9 =>
  X Try.prog (binOpG .neq 30 (.tmp 26) (.const (.int .i64 0)) v8_25 (.int .i64 0)) w9 fun v9_27 w10 =>
  condS v9_27 (
  Q1 .ret (upds ρ1 [(7, v8_25), (6, (.slice none 0 0)), (28, v8_25), (27, v9_27), (26, v8_25), (10, v8_25), (9, v7_24), (25, v8_25), (24, v7_24), (17, v6_23), (23, v6_23), (22, (ρ1 1)), (21, v5_21), (20, v4_20), (19, v3_19), (18, (ρ1 0)), (14, v2_14), (13, (ρ1 2)), (12, v1_12), (11, (ρ1 8))]) w10) (
  X Try.prog (Builtin.append_ #[27, 27] 27 #[(ρ1 8), v7_24]) w10 fun v10_31 w11 =>
  X Try.prog (binOp .add 3 (ρ1 1) (.int .i64 1)) w11 fun v11_16 w12 =>
  Q1 .normal (upds ρ1 [(1, v11_16), (16, v11_16), (15, (ρ1 1)), (8, v10_31), (31, v10_31), (30, v7_24), (29, (ρ1 8)), (27, v9_27), (26, v8_25), (10, v8_25), (9, v7_24), (25, v8_25), (24, v7_24), (17, v6_23), (23, v6_23), (22, (ρ1 1)), (21, v5_21), (20, v4_20), (19, v3_19), (18, (ρ1 0)), (14, v2_14), (13, (ρ1 2)), (12, v1_12), (11, (ρ1 8))]) w12)) (
  Q1 (.exit 0) (upds ρ1 [(14, v2_14), (13, (ρ1 2)), (12, v1_12), (11, (ρ1 8))]) w3)) (inBlockS 0 (thenS (fun ρ2 w13 =>
  X Try.prog (Instr.sliceAt 27 (ρ2 8) none (some (ρ2 2)) none) w13 fun v12_34 w14 =>
  K (.tuple #[v12_34, (.int .i64 0)]) w14) (retS Try.prog (Try.f151).results K))) (upds (env0 #[x0, x1, x2]) [(8, (.slice none 0 0)), (7, (.int .i64 0)), (6, (.slice none 0 0))]) w

theorem eq_home_Home_read (x0 x1 x2 : Value) (w : World) (K : Value → World → Prop) :
    sh Try.prog (Try.f151.body.getD .skip) (retS Try.prog Try.f151.results K) (env0 #[x0, x1, x2]) w = B_home_Home_read x0 x1 x2 w K := by kernel_rfl

theorem call_home_Home_read (x0 x1 x2 : Value) (w : World) (K : Value → World → Prop) (h : B_home_Home_read x0 x1 x2 w K) : CALL Try.prog 151 #[x0, x1, x2] w K :=
  call_of_eq (c := Try.f151.body.getD .skip) mixed Try.func151 (by kernel_rfl) (by kernel_rfl) (by kernel_rfl) (Nat.le_of_ble_eq_true (by kernel_rfl)) (eq_home_Home_read x0 x1 x2 w K) h

end Go.Proofs.Ytggggfcgnkllgaa
end
section
/- The home's functions: read, load, write, save. -/
set_option linter.unusedSimpArgs false
set_option linter.unusedVariables false
namespace Go.Proofs.Ytggggfcgnkllgaa
open Go Go.Sh Go.RowKit
attribute [local irreducible] X XU XP XR CALL loopS resC closS
def HomeAt (w : World) (bh b each : Nat) : Prop := w.heap[bh]? = some (.cells #[ptr b, .int .i64 (each : Int)] 204 (0, 0))
theorem run_build_204 (p : Option Addr) (x : Int) (w : World) : (Instr.build 204 #[(0, .pointer p), (1, .int .i64 x)]).run Try.prog w = .ok (.agg #[.pointer p, .int .i64 x]) w := by kernel_rfl
theorem getD_128 {d : Dk} (h : d.ok) {i : Nat} (hi : i < d.safe.length) : (d.now.getD i []).length = 128 := by
  rw [List.getD_eq_getElem?_getD, List.getElem?_eq_getElem (by rw [Dk.now_length]; exact hi)]
  exact Dk.now_128 h _ (List.getElem_mem _)
/-- The first ones of a row of the call's own. -/
theorem own_cut {P : Program} {T : TypeId} (hT : P.underlying T = some (.slice 5)) (hi : infoB P 5 = true) {v : Value} {bs : List UInt8} {w0 : World} {base m : Nat} (ho : w0.ownsRow base 5 1 v m (B8 bs)) (n : Nat) (h1 : n ≤ bs.length) :
    ∃ u, (∀ w, (Instr.sliceAt T v none (some (.int .i64 (n : Int))) none).run P w = .ok u w) ∧ w0.ownsRow base 5 1 u (bs.take n).length (B8 (bs.take n)) := by
  have hl : bs.length = m := by have := ho.1; simpa using this
  have hn : (bs.take n).length = n := by rw [List.length_take]; omega
  rcases id ho.2 with ⟨rfl, h0⟩ | ⟨g, cap, cur, rfl, hg, hh, hm, hmx, hs, ht⟩
  · have hn0 : n = 0 := by omega
    subst hn0
    refine ⟨_, fun w => sl_hi hT hi 0 rfl (Nat.le_refl _) w, ?_⟩
    rw [List.take_zero]
    exact World.ownsRow_nil w0 base 5 1
  · refine ⟨_, fun w => sl_hi hT hi n rfl (by omega) w, ?_⟩
    refine ⟨by simp, .inr ⟨g, cap, cur, ?_, hg, hh, by omega, hmx, hs, ?_⟩⟩
    · rw [hn]
    · rw [hn, Nat.mul_one]
      rw [Nat.mul_one] at ht
      have := congrArg (List.take n) ht
      rw [List.take_take, Nat.min_eq_left (by omega)] at this
      rw [this]
      unfold B8
      rw [List.map_take]
theorem hbytes_of {d : Dk} (h : d.ok) {at_ n j : Nat} (hj : n ≤ j * 128) (hs : at_ + j ≤ d.safe.length) : (((d.now.drop at_).take j).flatten).take n = hbytes d at_ n := by
  unfold hbytes
  have hl := Dk.now_length d
  have := take_flat d.now (Dk.now_128 h) at_ j (d.now.length - at_) n (by omega) (by omega) hj
  rw [List.take_of_length_le (l := d.now.drop at_) (by simp)] at this
  exact this.symm
theorem hbytes_len {d : Dk} (h : d.ok) {at_ n j : Nat} (hj : n ≤ j * 128) (hs : at_ + j ≤ d.safe.length) : (hbytes d at_ n).length = n := by
  rw [← hbytes_of h hj hs, List.length_take, flat_take_drop d.now (Dk.now_128 h) at_ j (by rw [Dk.now_length]; exact hs)]
  omega
section
variable {w : World} {b bh each : Nat} {d : Dk} {K : Value → World → Prop}
theorem HRoom_spec (hv : HomeAt w bh b each) (h : each ≤ 16384) (hK : K (i64v ((each * 128 : Nat) : Int)) w) : CALL Try.prog 118 #[ptr bh] w K := by
  apply call_home_Home_Room
  unfold B_home_Home_Room
  simp only [X_eql_nil_150, Option.isNone_some, GS, X_nilS, X_field_204_1]
  refine X_loadL agg_3 hv (v := .int .i64 (each : Int)) rfl ?_
  rw [X_mul, w64 (by omega) (by omega)]
  have e : (each : Int) * 128 = ((each * 128 : Nat) : Int) := by omega
  rw [e]
  exact hK
theorem HRoom_nil (hK : K (i64v 0) w) : CALL Try.prog 118 #[.pointer none] w K := by
  apply call_home_Home_Room
  unfold B_home_Home_Room
  simp only [X_eql_nil_150, Option.isNone_none, GS]
  exact hK
theorem HRest_spec (hv : HomeAt w bh b each) (h : each ≤ 16384) (hK : K (i64v ((2 + 2 * each : Nat) : Int)) w) : CALL Try.prog 119 #[ptr bh] w K := by
  apply call_home_Home_Rest
  unfold B_home_Home_Rest
  simp only [X_eql_nil_150, Option.isNone_some, GS, X_nilS, X_field_204_1]
  refine X_loadL agg_3 hv (v := .int .i64 (each : Int)) rfl ?_
  rw [X_mul, w64 (by omega) (by omega), X_add, w64 (by omega) (by omega)]
  have e : 2 + 2 * (each : Int) = ((2 + 2 * each : Nat) : Int) := by omega
  rw [e]
  exact hK
theorem HRest_nil (hK : K (i64v 0) w) : CALL Try.prog 119 #[.pointer none] w K := by
  apply call_home_Home_Rest
  unfold B_home_Home_Rest
  simp only [X_eql_nil_150, Option.isNone_none, GS]
  exact hK
theorem area_spec {a : Nat} (hv : HomeAt w bh b each) (h : each ≤ 16384) (ha : a < 256) (hK : K (i64v ((2 + a * each : Nat) : Int)) w) : CALL Try.prog 147 #[ptr bh, .int .u8 (a : Int)] w K := by
  apply call_home_Home_area
  unfold B_home_Home_area
  rw [X_conv_5_3, w64 (by omega) (by omega)]
  simp only [X_nilS, X_field_204_1]
  refine X_loadL agg_3 hv (v := .int .i64 (each : Int)) rfl ?_
  have hle : a * each ≤ 256 * 16384 := Nat.mul_le_mul (by omega) h
  have em : ((a : Nat) : Int) * (each : Int) = ((a * each : Nat) : Int) := (Int.natCast_mul _ _).symm
  rw [X_mul, em, w64 (by omega) (by omega), X_add, w64 (by omega) (by omega)]
  have e : 2 + ((a * each : Nat) : Int) = ((2 + a * each : Nat) : Int) := by omega
  rw [e]
  exact hK
theorem HNew_spec {each : Int} (hd : DiskAt w b d)
    (h0 : each < 1 ∨ 16384 < each ∨ (d.safe.length : Int) < 2 + 2 * each → K (.tuple #[.pointer none, i64v 1]) w)
    (h1 : ∀ e : Nat, each = (e : Int) → hok e d.safe.length → ∀ bh w1, Ext w w1 → w.heap.size ≤ bh → HomeAt w1 bh b e → K (.tuple #[ptr bh, i64v 0]) w1) : CALL Try.prog 116 #[ptr b, i64v each] w K := by
  apply call_home_New
  unfold B_home_New
  have hsz := hd.1.2.2.1
  simp only [X_eql_nil_74, Option.isNone_some, GS, X_lss]
  by_cases c1 : each < 1
  · have e1 : decide (each < 1) = true := by simpa using c1
    simp only [e1, GS]
    exact h0 (.inl c1)
  have e1 : decide (each < 1) = false := by simpa using c1
  simp only [e1, GS, X_gtr]
  by_cases c2 : 16384 < each
  · have e2 : decide (each > 16384) = true := by simpa using c2
    simp only [e2, GS]
    exact h0 (.inr (.inl c2))
  have e2 : decide (each > 16384) = false := by simpa using c2
  simp only [e2, GS]
  refine Size_spec hd ?_
  rw [X_mul, w64 (by omega) (by omega), X_add, w64 (by omega) (by omega)]
  simp only [X_lss]
  by_cases c3 : (d.safe.length : Int) < 2 + 2 * each
  · have e3 : decide ((d.safe.length : Int) < 2 + 2 * each) = true := by simpa using c3
    simp only [e3, GS]
    exact h0 (.inr (.inr c3))
  have e3 : decide ((d.safe.length : Int) < 2 + 2 * each) = false := by simpa using c3
  simp only [e3, GS]
  refine X_of (run_build_204 _ _ _) ?_
  refine X_box ?_
  obtain ⟨e, rfl⟩ : ∃ e : Nat, each = (e : Int) := ⟨each.toNat, by omega⟩
  exact h1 e rfl ⟨by omega, by omega, by omega, by omega⟩ _ _ (newB_ext _ _ _) (Nat.le_refl _) (newB_get _ _ _)
theorem HNew_nil {x : Value} (hK : K (.tuple #[.pointer none, i64v 2]) w) : CALL Try.prog 116 #[.pointer none, x] w K := by
  apply call_home_New
  unfold B_home_New
  simp only [X_eql_nil_74, Option.isNone_none, GS]
  exact hK
/-- Bytes from a sector on. -/
theorem read_spec {at_ n : Nat} (hv : HomeAt w bh b each) (hd : DiskAt w b d) (hn : at_ + (n + 127) / 128 ≤ d.safe.length)
    (h0 : 0 < n → d.dead = true → ∀ w1, Ext w w1 → K (.tuple #[.slice none 0 0, i64v 6]) w1)
    (h1 : n = 0 ∨ d.dead = false → ∀ u w1, Ext w w1 → w1.ownsRow w.heap.size 5 1 u (hbytes d at_ n).length (B8 (hbytes d at_ n)) → K (.tuple #[u, i64v 0]) w1) : CALL Try.prog 151 #[ptr bh, i64v (at_ : Int), i64v (n : Int)] w K := by
  have e0 : decide ((0 : Int) ≠ 0) = false := by decide
  have e6 : decide ((6 : Int) ≠ 0) = true := by decide
  have hsz := hd.1.2.2.1
  have n128 := Dk.now_128 hd.1
  have nlen := Dk.now_length d
  apply call_home_Home_read
  unfold B_home_Home_read
  refine loopE (fun ρ wr => ∃ (j : Nat) (va : Value), j ≤ (n + 127) / 128 ∧ (0 < j → d.dead = false) ∧ Ext w wr ∧ wr.ownsRow w.heap.size 5 1 va (((d.now.drop at_).take j).flatten).length (B8 ((d.now.drop at_).take j).flatten) ∧ ρ 8 = va ∧ ρ 2 = .int .i64 (n : Int) ∧ ρ 1 = .int .i64 ((at_ + j : Nat) : Int) ∧ ρ 0 = ptr bh)
    (fun ρ wr => match ρ 1 with | .int _ s => (at_ + 20000 - s).toNat | _ => 0)
    (fun ρ wr => ∃ (j : Nat) (va : Value), j ≤ (n + 127) / 128 ∧ n ≤ j * 128 ∧ (0 < j → d.dead = false) ∧ Ext w wr ∧ wr.ownsRow w.heap.size 5 1 va (((d.now.drop at_).take j).flatten).length (B8 ((d.now.drop at_).take j).flatten) ∧ ρ 8 = va ∧ ρ 2 = .int .i64 (n : Int)) ?_ ?_ ?_
  · exact ⟨0, _, Nat.zero_le _, fun h => absurd h (by omega), Keep.refl _ _, World.ownsRow_nil w _ 5 1, rfl, rfl, rfl, rfl⟩
  · rintro J hJ ρ wr ⟨j, va, hj, hjd, hxr, hor, r8, r2, r1, r0⟩
    have hlj := flat_take_drop d.now n128 at_ j (by omega)
    obtain ⟨aa, ca, ea⟩ := own_sl hor
    rw [r8, r2, ea, X_len_27, X_lss, condS_bool, ← ea, hlj]
    by_cases hlt : j * 128 < n
    case neg =>
      rw [if_neg (by simp; omega)]
      exact hJ _ _ ⟨j, va, hj, by omega, hjd, hxr, hor, r8, r2⟩
    rw [if_pos (by simp; omega)]
    have hvr : HomeAt wr bh b each := hxr.get hv
    rw [r0, r1]
    simp only [X_nilS, X_field_204_0]
    refine X_loadL agg_74 hvr (v := ptr b) rfl ?_
    have hdr := hd.ext hxr
    refine Read_spec hdr ?_
    intro v5 w5 hx5 ho5
    rw [read_at (d := d) (i := at_ + j) (by omega)] at ho5 ⊢
    by_cases hdead : d.dead = true
    · rw [if_pos hdead] at ho5 ⊢
      simp only [X_extract0, X_extract1, X_neq, e6, GS]
      exact h0 (by omega) hdead _ (hxr.trans hx5)
    rw [if_neg hdead] at ho5 ⊢
    have hdead' : d.dead = false := by simpa using hdead
    simp only [X_extract0, X_extract1, X_neq, e0, GS]
    have hor5 := own_extD hor hx5
    have hnl5 := getD_128 hd.1 (i := at_ + j) (by omega)
    refine X_append_bts (base := w.heap.size) Try.underlying27 el_5 hor5 (own_bts ho5).1 (by show _ + (d.now.getD (at_ + j) []).length ≤ _; omega) (by have := hxr.size; have := hx5.size; omega) ?_
    intro v6 w6 ho6 hk6
    rw [X_add, w64 (by omega) (by omega)]
    have es := flat_succ d.now at_ j (by omega)
    rw [← es] at ho6
    show _ ∧ _
    refine ⟨⟨j + 1, v6, by omega, fun _ => hdead', Ext.seq (hxr.trans hx5) hk6 (fun q hq => (hor.lt q hq.symm).1), ?_, rfl, r2, ?_, r0⟩, ?_⟩
    · have el : ((d.now.drop at_).take (j + 1)).flatten.length = ((d.now.drop at_).take j).flatten.length + (d.now.getD (at_ + j) []).length := by rw [es, List.length_append]
      rw [el]
      exact ho6
    · show Value.int .i64 (((at_ + j : Nat) : Int) + 1) = _
      congr 1
    · show ((at_ : Int) + 20000 - (((at_ + j : Nat) : Int) + 1)).toNat < _
      first | omega | (show _ < (_ : Int).toNat; omega)
  · rintro ρ wr ⟨j, va, hj, hjn, hjd, hxr, hor, r8, r2⟩
    have hlj := flat_take_drop d.now n128 at_ j (by omega)
    rw [r8, r2]
    obtain ⟨u, hu, hub⟩ := own_cut Try.underlying27 info_5 hor n (by omega)
    refine X_of (hu _) ?_
    rw [hbytes_of hd.1 hjn (by omega)] at hub
    refine h1 ?_ u wr hxr hub
    rcases Nat.eq_zero_or_pos j with h | h
    · left; omega
    · exact .inr (hjd h)
end
end Go.Proofs.Ytggggfcgnkllgaa
end
section
/- A torn sector: plain Lean. And a row of two bytes as an argument. -/
set_option linter.unusedVariables false
set_option linter.unusedSimpArgs false
namespace Go.Proofs.Ytggggfcgnkllgaa
open Go Go.Sh Go.RowKit Go.ChangeShapes Go.WideShapes Go.ChangeAt

theorem lay_take8 (s : Sl) : (layB s).take 8 = be 8 s.gen := by
  unfold layB headB
  simp only [List.append_assoc]
  rw [List.take_append_of_le_length (by simp), List.take_of_length_le (by simp)]
theorem lay_drop120 (s : Sl) : (layB s).drop 120 = be 8 s.gen := by
  unfold layB
  have h : (headB s ++ List.replicate 103 0).length = 120 := by simp [headB_len]
  rw [List.drop_append_of_le_length (by omega), List.drop_eq_nil_of_le (by omega), List.nil_append]
/-- A mix of two sectors, whose ends agree each, and whose ends differ, is no sector unless it is one of the two. -/
theorem torn_is {a b : List UInt8} {k : Nat} (ha : a.length = 128) (hb : b.length = 128) (ea : a.take 8 = a.drop 120) (eb : b.take 8 = b.drop 120) (hne : a.take 8 ≠ b.take 8) {u : Sl} (h : takeB (a.take k ++ b.drop k) = some u) (hk : k ≤ 128) :
    a.take k ++ b.drop k = a ∨ a.take k ++ b.drop k = b := by
  obtain ⟨hl, hg, hlay, hok⟩ := take_some h
  obtain ⟨t, ht⟩ : ∃ t, t = a.take k ++ b.drop k := ⟨_, rfl⟩
  rw [← ht] at hlay ⊢
  have e8 : t.take 8 = t.drop 120 := by rw [← hlay, lay_take8, lay_drop120]
  rcases Nat.lt_or_ge k 121 with h1 | h1
  · have d : t.drop 120 = b.drop 120 := by
      rw [ht, List.drop_append, List.drop_eq_nil_of_le (by simp; omega), List.nil_append, List.drop_drop]
      congr 1
      simp
      omega
    rcases Nat.lt_or_ge k 9 with h2 | h2
    · right
      have hp : t.take k = b.take k := by
        have := congrArg (List.take k) (e8.trans (d.trans eb.symm))
        rw [List.take_take, List.take_take, Nat.min_eq_left (by omega)] at this
        exact this
      have ht2 : t.take k = a.take k := by
        rw [ht, List.take_append_of_le_length (by simp; omega), List.take_take, Nat.min_self]
      rw [ht, ← ht2, hp, List.take_append_drop]
    · exfalso
      have ht2 : t.take 8 = a.take 8 := by
        rw [ht, List.take_append_of_le_length (by simp; omega), List.take_take, Nat.min_eq_left (by omega)]
      exact hne (ht2.symm.trans (e8.trans (d.trans eb.symm)))
  · left
    have ht2 : t.take 8 = a.take 8 := by
      rw [ht, List.take_append_of_le_length (by simp; omega), List.take_take, Nat.min_eq_left (by omega)]
    have hd : t.drop 120 = a.drop 120 := by rw [← e8, ht2, ea]
    have hp : t.take 120 = a.take 120 := by
      rw [ht, List.take_append_of_le_length (by simp; omega), List.take_take, Nat.min_eq_left (by omega)]
    rw [← List.take_append_drop 120 t, hp, hd, List.take_append_drop]
theorem takeP_lay {s : Sl} (hs : s.ok) (hg : s.gen ≠ 0) : takeP (layB s) = (s, 0) := by
  unfold takeP; rw [take_lay hs, if_neg hg]
theorem lay_ne {s t : Sl} (hs : s.ok) (ht : t.ok) (h : s.gen ≠ t.gen) : (layB s).take 8 ≠ (layB t).take 8 := by
  rw [lay_take8, lay_take8]
  intro e
  exact h (be_inj (by have := hs.1; simpa using this) (by have := ht.1; simpa using this) e)

/-- Which slot two sectors leave, one of them torn: the whole new one, or the one that stood. -/
theorem commits {s t1 t2 : Sl} (hs : s.ok) (h1 : t1.ok) (h2 : t2.ok) (g1 : t1.gen ≠ 0) (g12 : t1.gen < t2.gen) (g2s : t2.gen < s.gen) {k : Nat} (hk : k ≤ 128) :
    ∃ (got : Sl) (i : Int), newerP ((layB s).take k ++ (layB t1).drop k) (layB t2) = (got, i, 0) ∧ newerP (layB t2) ((layB s).take k ++ (layB t1).drop k) = (got, 1 - i, 0) ∧ ((got = t2 ∧ i = 1 ∧ k < 128) ∨ (got = s ∧ i = 0)) := by
  have hP2 : takeP (layB t2) = (t2, 0) := takeP_lay h2 (by omega)
  have full : k = 128 → (layB s).take k ++ (layB t1).drop k = layB s := by
    rintro rfl
    rw [List.take_of_length_le (by rw [layB_len]; omega), List.drop_eq_nil_of_le (by rw [layB_len]; omega), List.append_nil]
  cases hT : takeB ((layB s).take k ++ (layB t1).drop k) with
  | none =>
    have hP : takeP ((layB s).take k ++ (layB t1).drop k) = (nilSl, 100) := by unfold takeP; rw [hT]
    refine ⟨t2, 1, newer_ns (by omega) hP hP2, newer_sn (by omega) hP2 hP, .inl ⟨rfl, rfl, ?_⟩⟩
    rcases Nat.lt_or_ge k 128 with h | h
    · exact h
    · exfalso
      have := full (by omega)
      rw [this, take_lay hs, if_neg (by omega)] at hT
      cases hT
  | some u =>
    rcases torn_is (layB_len s) (layB_len t1) (by rw [lay_take8, lay_drop120]) (by rw [lay_take8, lay_drop120]) (lay_ne hs h1 (by omega)) hT hk with e | e
    · have hP : takeP ((layB s).take k ++ (layB t1).drop k) = (s, 0) := by rw [e]; exact takeP_lay hs (by omega)
      refine ⟨s, 0, ?_, ?_, .inr ⟨rfl, rfl⟩⟩
      · rw [newer_ss (by omega) (by omega) hP hP2, if_neg (by omega)]
      · rw [newer_ss (by omega) (by omega) hP2 hP, if_pos (by omega)]
        rfl
    · have hP : takeP ((layB s).take k ++ (layB t1).drop k) = (t1, 0) := by rw [e]; exact takeP_lay h1 g1
      refine ⟨t2, 1, ?_, ?_, .inl ⟨rfl, rfl, ?_⟩⟩
      · rw [newer_ss g1 (by omega) hP hP2, if_pos g12]
      · rw [newer_ss (by omega) g1 hP2 hP, if_neg (by omega)]
        rfl
      · rcases Nat.lt_or_ge k 128 with h | h
        · exact h
        · exfalso
          rw [full (by omega)] at e
          have := congrArg (List.take 8) e
          exact lay_ne hs h1 (by omega) this
end Go.Proofs.Ytggggfcgnkllgaa
namespace Go.Sh
open Go Go.RowKit Go.ChangeShapes Go.WideShapes Go.ChangeAt
theorem arg_two {P : Program} {H : Type} {enc : TypeId × Value → H} {W : World} {base : Nat} {v : Value} {d : DataW H} {p : List MemPlace} {t e : TypeId} (ht : P.underlying t = some (.array 2 e)) (hc : P.cellsOf t = 2) (he : P.underlying e = some (.int .u8)) (hce : P.cellsOf e = 1)
    (ok : Value.okWide P W .any base t v) (h : DataW.Trod enc P W 0 (fun _ => true) true t v d p) : ∃ a b : Nat, v = .agg #[.int .u8 (a : Int), .int .u8 (b : Int)] ∧ a < 256 ∧ b < 256 := by
  have hs : ∃ cs, v = .agg cs ∧ cs.size = P.cellsOf t := by
    simp only [Value.okWide, ht] at ok
    obtain ⟨cs, h1, h2, _⟩ := ok
    exact ⟨cs, h1, h2⟩
  obtain ⟨cs, rfl, hcs⟩ := hs
  rw [hc] at hcs
  obtain ⟨hl, hf⟩ := (TrC.of h).array ht
  match cs, hcs with
  | ⟨[x0, x1]⟩, _ =>
    have g0 := hf 0 (by decide)
    have g1 := hf 1 (by decide)
    rw [hce] at g0 g1
    obtain ⟨n0, e0, w0⟩ := TrC.int he g0
    obtain ⟨n1, e1, w1⟩ := TrC.int he g1
    simp [Value.cells] at e0 e1
    subst e0; subst e1
    obtain ⟨a, rfl, ha⟩ := wf_nat rfl (m := 256) (by decide) w0
    obtain ⟨b, rfl, hb⟩ := wf_nat rfl (m := 256) (by decide) w1
    exact ⟨a, b, rfl, ha, hb⟩
end Go.Sh
end
section
/- What a home keeps, whatever the power does: plain Lean. -/
set_option linter.unusedSimpArgs false
set_option linter.unusedVariables false
namespace Go.Proofs.Ytggggfcgnkllgaa
open Go Go.Sh
/-- The sectors that bytes make. -/
def secs (t : Nat) (x : List UInt8) : List (Nat × List UInt8) :=
  (List.range ((x.length + 127) / 128)).map fun j => (t + j, padB ((x.drop (128 * j)).take 128))
theorem secs_nil (t : Nat) : secs t [] = [] := rfl
theorem secs_cons (t : Nat) {x : List UInt8} (h : x ≠ []) : secs t x = (t, padB (x.take 128)) :: secs (t + 1) (x.drop 128) := by
  have hp : 0 < x.length := List.length_pos_iff.2 h
  unfold secs
  have e : (x.length + 127) / 128 = ((x.drop 128).length + 127) / 128 + 1 := by rw [List.length_drop]; omega
  rw [e, List.range_succ_eq_map, List.map_cons, List.map_map]
  congr 1
  apply List.map_congr_left
  intro j _
  show (t + (j + 1), padB ((x.drop (128 * (j + 1))).take 128)) = (t + 1 + j, padB (((x.drop 128).drop (128 * j)).take 128))
  rw [List.drop_drop]
  congr 1
  · omega
  · rw [show 128 + 128 * j = 128 * (j + 1) by omega]
theorem putAll_get (ws : List (Nat × List UInt8)) : ∀ (l : List (List UInt8)) (s : Nat), (∀ p ∈ ws, p.1 ≠ s) → (putAll l ws)[s]? = l[s]? := by
  induction ws with
  | nil => intro l s _; rfl
  | cons p ws ih =>
    intro l s h
    show (putAll (l.set p.1 p.2) ws)[s]? = _
    rw [ih _ s (fun q hq => h q (List.mem_cons_of_mem _ hq)), List.getElem?_set_ne (h p (List.mem_cons_self ..))]
theorem secs_pos {t : Nat} {x : List UInt8} {p : Nat × List UInt8} (h : p ∈ secs t x) : t ≤ p.1 ∧ p.1 < t + (x.length + 127) / 128 := by
  unfold secs at h
  obtain ⟨j, hj, rfl⟩ := List.mem_map.1 h
  have := List.mem_range.1 hj
  show t ≤ t + j ∧ t + j < _
  omega
theorem putAll_secs (n : Nat) : ∀ (t : Nat) (x : List UInt8) (l : List (List UInt8)), x.length ≤ n → t + (x.length + 127) / 128 ≤ l.length → ∀ j, j < (x.length + 127) / 128 → (putAll l (secs t x))[t + j]? = some (padB ((x.drop (128 * j)).take 128)) := by
  induction n with
  | zero =>
    intro t x l hx _ j hj
    omega
  | succ n ih =>
    intro t x l hx hl j hj
    by_cases hn : x = []
    · subst hn; simp at hj
    have hp : 0 < x.length := List.length_pos_iff.2 hn
    rw [secs_cons t hn]
    show (putAll (l.set t (padB (x.take 128))) (secs (t + 1) (x.drop 128)))[t + j]? = _
    cases j with
    | zero =>
      rw [putAll_get _ _ _ (fun p hp => by have := secs_pos hp; omega), Nat.add_zero, List.getElem?_set_self (by omega)]
      rfl
    | succ j =>
      have := ih (t + 1) (x.drop 128) (l.set t (padB (x.take 128))) (by rw [List.length_drop]; omega) (by rw [List.length_drop, List.length_set]; omega) j (by rw [List.length_drop]; omega)
      rw [show t + 1 + j = t + (j + 1) by omega] at this
      rw [this, List.drop_drop, show 128 + 128 * j = 128 * (j + 1) by omega]
/-- What one write does. -/
theorem write_cases {d : Dk} (hd : d.ok) (hal : d.dead = false) {t : Nat} {b : List UInt8} (ht : t < d.safe.length) (hb : b.length ≤ 128) :
    ((d.write (t : Int) b).2 = 0 ∧ (d.write (t : Int) b).1.dead = false ∧ (d.write (t : Int) b).1.safe = d.safe ∧ (d.write (t : Int) b).1.ws = d.ws ++ [(t, padB b)] ∧ (d.write (t : Int) b).1.done = IntKind.i64.wrap (d.done + 1) ∧ (d.fuse = -1 → (d.write (t : Int) b).1.fuse = -1)) ∨
    ((d.write (t : Int) b).2 = 6 ∧ (d.write (t : Int) b).1.dead = true ∧ (d.write (t : Int) b).1.safe = d.safe ∧ (d.write (t : Int) b).1.ws = d.ws ∧ d.fuse ≠ -1) := by
  unfold Dk.write
  rw [if_neg (by omega)]
  unfold Dk.trip
  by_cases hf : d.fuse = 0
  · rw [if_pos hf, if_pos rfl]
    exact .inr ⟨rfl, rfl, rfl, rfl, by omega⟩
  · rw [if_neg hf, if_neg (by rw [hal]; decide)]
    refine .inl ⟨rfl, hal, rfl, ?_, rfl, fun h => ?_⟩
    · show d.ws ++ [((t : Int).toNat, padB b)] = _
      rw [Int.toNat_natCast]
    · show (if 0 < d.fuse then d.fuse - 1 else d.fuse) = -1
      rw [h]; rfl
theorem flush_cases {d : Dk} (hal : d.dead = false) :
    (d.flush.2 = 0 ∧ d.flush.1.dead = false ∧ d.flush.1.safe = d.now ∧ d.flush.1.ws = [] ∧ d.flush.1.done = IntKind.i64.wrap (d.done + 1) ∧ (d.fuse = -1 → d.flush.1.fuse = -1)) ∨
    (d.flush.2 = 6 ∧ d.flush.1.dead = true ∧ d.flush.1.safe = d.safe ∧ d.flush.1.ws = d.ws ∧ d.fuse ≠ -1) := by
  unfold Dk.flush Dk.trip
  by_cases hf : d.fuse = 0
  · rw [if_pos hf, if_pos rfl]
    exact .inr ⟨rfl, rfl, rfl, rfl, by omega⟩
  · rw [if_neg hf, if_neg (by rw [hal]; decide)]
    refine .inl ⟨rfl, hal, rfl, rfl, rfl, fun h => ?_⟩
    show (if 0 < d.fuse then d.fuse - 1 else d.fuse) = -1
    rw [h]; rfl
/-- What laying bytes does, whatever the power does. -/
theorem lay_any (d : Dk) (t : Nat) (x : List UInt8) : d.ok → d.dead = false → t + (x.length + 127) / 128 ≤ d.safe.length →
    ((layAll d t x).2 = 0 ∧ (layAll d t x).1.dead = false ∧ (layAll d t x).1.safe = d.safe ∧ (layAll d t x).1.ws = d.ws ++ secs t x ∧ (0 ≤ d.done → d.done + (x.length + 127) / 128 ≤ 9223372036854775807 → (layAll d t x).1.done = d.done + ((x.length + 127) / 128 : Nat)) ∧ (d.fuse = -1 → (layAll d t x).1.fuse = -1)) ∨
    ((layAll d t x).2 = 6 ∧ (layAll d t x).1.dead = true ∧ (layAll d t x).1.safe = d.safe ∧ (∃ ws', (layAll d t x).1.ws = d.ws ++ ws' ∧ ∀ p ∈ ws', t ≤ p.1 ∧ p.1 < t + (x.length + 127) / 128) ∧ d.fuse ≠ -1) := by
  refine layAll_ind (P := fun d t x => d.ok → d.dead = false → t + (x.length + 127) / 128 ≤ d.safe.length →
    ((layAll d t x).2 = 0 ∧ (layAll d t x).1.dead = false ∧ (layAll d t x).1.safe = d.safe ∧ (layAll d t x).1.ws = d.ws ++ secs t x ∧ (0 ≤ d.done → d.done + (x.length + 127) / 128 ≤ 9223372036854775807 → (layAll d t x).1.done = d.done + ((x.length + 127) / 128 : Nat)) ∧ (d.fuse = -1 → (layAll d t x).1.fuse = -1)) ∨
    ((layAll d t x).2 = 6 ∧ (layAll d t x).1.dead = true ∧ (layAll d t x).1.safe = d.safe ∧ (∃ ws', (layAll d t x).1.ws = d.ws ++ ws' ∧ ∀ p ∈ ws', t ≤ p.1 ∧ p.1 < t + (x.length + 127) / 128) ∧ d.fuse ≠ -1)) ?_ ?_ ?_ d t x
  · intro d t hd hal ht
    rw [layAll_nil, secs_nil, List.append_nil]
    exact .inl ⟨rfl, hal, rfl, rfl, fun _ _ => by show d.done = d.done + ((0 : Nat) : Int); omega, fun h => h⟩
  · intro d t x hx he hd hal ht
    have hp : 0 < x.length := List.length_pos_iff.2 hx
    rw [layAll_cons d t hx, if_pos he]
    rcases write_cases hd hal (t := t) (b := x.take 128) (by omega) (by simp; omega) with ⟨h, _⟩ | ⟨a1, a2, a3, a4, a5⟩
    · exact absurd h he
    · exact .inr ⟨a1, a2, a3, ⟨[], by rw [a4, List.append_nil], fun p hp => by cases hp⟩, a5⟩
  · intro d t x hx he ih hd hal ht
    have hp : 0 < x.length := List.length_pos_iff.2 hx
    have hn : (x.length + 127) / 128 = ((x.drop 128).length + 127) / 128 + 1 := by rw [List.length_drop]; omega
    rw [layAll_cons d t hx, if_neg (by simpa using he)]
    rcases write_cases hd hal (t := t) (b := x.take 128) (by omega) (by simp; omega) with ⟨a1, a2, a3, a4, a5, a6⟩ | ⟨h, _⟩
    · have ih' := ih (Dk.write_ok hd _ _) a2 (by rw [a3]; omega)
      rcases ih' with ⟨b1, b2, b3, b4, b5, b6⟩ | ⟨b1, b2, b3, ⟨ws', b4, b5⟩, b6⟩
      · refine .inl ⟨b1, b2, b3.trans a3, ?_, fun h0 h1 => by
          rw [w64 (by omega) (by omega)] at a5
          rw [b5 (by omega) (by omega), a5, hn]; omega, fun h => b6 (a6 h)⟩
        rw [b4, a4, secs_cons t hx, List.append_assoc]
        rfl
      · refine .inr ⟨b1, b2, b3.trans a3, ⟨(t, padB (x.take 128)) :: ws', ?_, ?_⟩, fun h => b6 (a6 h)⟩
        · rw [b4, a4, List.append_assoc]; rfl
        · intro p hp'
          rcases List.mem_cons.1 hp' with rfl | hp'
          · show t ≤ t ∧ t < _
            omega
          · have := b5 p hp'
            omega
    · rw [he] at h; cases h
/-- What is not written stays, whatever is torn. -/
theorem tears_get (fates : List Int) (ws : List (Nat × List UInt8)) : ∀ (i : Nat) (l : List (List UInt8)) (s : Nat), (∀ p ∈ ws, p.1 ≠ s) → (tears fates i l ws)[s]? = l[s]? := by
  induction ws with
  | nil => intro i l s _; rfl
  | cons p ws ih =>
    intro i l s h
    show (tears fates (i + 1) (tearAt l p _) ws)[s]? = _
    rw [ih _ _ s (fun q hq => h q (List.mem_cons_of_mem _ hq))]
    unfold tearAt
    rw [List.getElem?_set_ne (h p (List.mem_cons_self ..))]
/-! ### What is kept -/
def Sec (g : Nat) (Z : List UInt8) : Prop := Z.length = 128 ∧ Z.take 7 = List.replicate 7 0 ∧ ∃ t, t ≤ g ∧ Z.drop 120 = be 8 t
/-- The area a and the slot pos are free; the other ones say what is kept. -/
def Cur (each : Nat) (S : List (List UInt8)) (l : List UInt8) (g a pos : Nat) : Prop :=
  a ≤ 1 ∧ pos ≤ 1 ∧ ((g = 0 ∧ l = [] ∧ takeB (S.getD 0 []) = none ∧ takeB (S.getD 1 []) = none ∧ a = 0 ∧ pos = 1) ∨
    ∃ s : Sl, takeB (S.getD (1 - pos) []) = some s ∧ (∀ t, takeB (S.getD pos []) = some t → t.gen < s.gen) ∧ s.gen = g ∧ s.area + a = 1 ∧ s.size = l.length ∧ l.length ≤ each * 128 ∧ s.sum = (crc l).toNat ∧ ((S.drop (2 + s.area * each)).flatten).take l.length = l)
structure Kept (each : Nat) (S : List (List UInt8)) (l : List UInt8) (g : Nat) : Prop where
  g200 : g < 256
  s0 : Sec g (S.getD 0 [])
  s1 : Sec g (S.getD 1 [])
  is : ∃ a pos, Cur each S l g a pos
theorem takeP_none {x : List UInt8} (h : takeB x = none) : takeP x = (nilSl, 100) := by unfold takeP; rw [h]
theorem takeP_some {x : List UInt8} {s : Sl} (h : takeB x = some s) : takeP x = (s, 0) := by unfold takeP; rw [h]
theorem newer_left {x y : List UInt8} {s : Sl} (h : takeB x = some s) (ho : ∀ t, takeB y = some t → t.gen < s.gen) : newerP x y = (s, 0, 0) := by
  have hg := (take_some h).2.1
  cases hy : takeB y with
  | none => exact newer_sn hg (takeP_some h) (takeP_none hy)
  | some t =>
    have := ho t hy
    rw [newer_ss hg (take_some hy).2.1 (takeP_some h) (takeP_some hy), if_neg (by omega)]
theorem newer_right {x y : List UInt8} {s : Sl} (h : takeB y = some s) (ho : ∀ t, takeB x = some t → t.gen < s.gen) : newerP x y = (s, 1, 0) := by
  have hg := (take_some h).2.1
  cases hy : takeB x with
  | none => exact newer_ns hg (takeP_none hy) (takeP_some h)
  | some t =>
    have := ho t hy
    rw [newer_ss (take_some hy).2.1 hg (takeP_some hy) (takeP_some h), if_pos this]
theorem newer_at {S : List (List UInt8)} {p : Nat} {s : Sl} (hp : p ≤ 1) (h : takeB (S.getD p []) = some s) (ho : ∀ t, takeB (S.getD (1 - p) []) = some t → t.gen < s.gen) : newerP (S.getD 0 []) (S.getD 1 []) = (s, (p : Int), 0) := by
  have : p = 0 ∨ p = 1 := by omega
  rcases this with rfl | rfl
  · exact newer_left h ho
  · exact newer_right h ho
/-- What is kept is loaded. -/
theorem cur_load {each : Nat} {d : Dk} {l : List UInt8} {g a pos : Nat} (hal : d.dead = false) (k : Cur each d.now l g a pos) :
    (hload each d).err = 0 ∧ (hload each d).bs = l ∧ (hload each d).s.gen = g ∧ harea (hload each d) = a ∧ hpos (hload each d) = pos := by
  obtain ⟨ka, kp, ⟨h1, h2, h3, h4, h5, h6⟩ | ⟨s, h2, h3, h4, h5, h6, h7, h8, h9⟩⟩ := k
  · have e : hload each d = ⟨[], nilSl, 0, 0⟩ := by
      unfold hload hnewer
      rw [if_neg (by rw [hal]; decide), newer_nn (takeP_none h3) (takeP_none h4), if_pos (by decide)]
    rw [e]
    exact ⟨rfl, h2.symm, h1.symm, h5.symm, h6.symm⟩
  · have hn : hnewer d = (s, ((1 - pos : Nat) : Int), 0) := newer_at (p := 1 - pos) (by omega) h2 (by rw [show 1 - (1 - pos) = pos by omega]; exact h3)
    have e : hload each d = ⟨l, s, ((1 - pos : Nat) : Int), 0⟩ := by
      have hb : hbytes d (2 + s.area * each) s.size = l := by
        unfold hbytes
        rw [h6]; exact h9
      unfold hload
      rw [if_neg (by rw [hal]; decide), hn, if_neg (by show ¬ (0 : Int) ≠ 0; decide), if_neg (by show ¬ (1 < s.area ∨ each * 128 < s.size); omega)]
      show (if (crc (hbytes d (2 + s.area * each) s.size)).toNat ≠ s.sum then _ else HL.mk (hbytes d (2 + s.area * each) s.size) s ((1 - pos : Nat) : Int) 0) = _
      rw [hb, if_neg (by rw [h8]; simp)]
    have hg := (take_some h2).2.1
    rw [e]
    refine ⟨rfl, rfl, h4, ?_, ?_⟩
    · unfold harea
      rw [if_neg hg]
      show 1 - s.area = a
      omega
    · unfold hpos
      rw [if_neg hg]
      show (1 - ((1 - pos : Nat) : Int)).toNat = pos
      omega
theorem be8_small {t : Nat} (h : t < 256) : be 8 t = List.replicate 7 0 ++ [UInt8.ofNat t] := by
  have e : ∀ m, 1 ≤ m → t / 256 ^ m = 0 := fun m hm => Nat.div_eq_of_lt (Nat.lt_of_lt_of_le h (by
    calc 256 = 256 ^ 1 := rfl
      _ ≤ 256 ^ m := Nat.pow_le_pow_right (by decide) hm))
  show UInt8.ofNat (t / 256 ^ 7) :: UInt8.ofNat (t / 256 ^ 6) :: UInt8.ofNat (t / 256 ^ 5) :: UInt8.ofNat (t / 256 ^ 4) :: UInt8.ofNat (t / 256 ^ 3) :: UInt8.ofNat (t / 256 ^ 2) :: UInt8.ofNat (t / 256 ^ 1) :: UInt8.ofNat (t / 256 ^ 0) :: [] = _
  rw [e 7 (by decide), e 6 (by decide), e 5 (by decide), e 4 (by decide), e 3 (by decide), e 2 (by decide), e 1 (by decide), Nat.pow_zero, Nat.div_one]
  rfl
theorem sec_lay {s : Sl} {g : Nat} (h : s.gen ≤ g) (hg : g < 256) : Sec g (layB s) := by
  refine ⟨layB_len s, ?_, s.gen, h, lay_drop120 s⟩
  have := congrArg (List.take 7) (lay_take8 s)
  rw [List.take_take, show min 7 8 = 7 from rfl] at this
  rw [this, be8_small (by omega), List.take_append_of_le_length (by simp), List.take_of_length_le (by simp)]
theorem Sec.mono {g g' : Nat} {Z : List UInt8} (h : Sec g Z) (hg : g ≤ g') : Sec g' Z := by
  obtain ⟨h1, h2, t, h3, h4⟩ := h
  exact ⟨h1, h2, t, Nat.le_trans h3 hg, h4⟩
/-- A sector that is torn while a newer slot is laid is as it was, or none. -/
theorem torn_sec {s : Sl} {g n : Nat} {Z : List UInt8} (hs : s.gen = g + 1) (hg : g + 1 < 256) (hz : Sec g Z) (hn : n < 128) :
    Sec g ((layB s).take n ++ Z.drop n) ∧ ((layB s).take n ++ Z.drop n = Z ∨ takeB ((layB s).take n ++ Z.drop n) = none) := by
  obtain ⟨h1, h2, t, h3, h4⟩ := id hz
  have hN := sec_lay (s := s) (g := g + 1) (by omega) hg
  obtain ⟨n1, n2, _⟩ := hN
  by_cases h7 : n ≤ 7
  · have e : (layB s).take n = Z.take n := by
      have a := congrArg (List.take n) n2
      have b := congrArg (List.take n) h2
      rw [List.take_take, Nat.min_eq_left h7] at a b
      rw [a, b]
    have eZ : (layB s).take n ++ Z.drop n = Z := by rw [e, List.take_append_drop]
    rw [eZ]
    exact ⟨hz, .inl rfl⟩
  have hl : ((layB s).take n ++ Z.drop n).length = 128 := by
    rw [List.length_append, List.length_take, List.length_drop, n1, h1]; omega
  have t8 : ((layB s).take n ++ Z.drop n).take 8 = be 8 (g + 1) := by
    rw [List.take_append_of_le_length (by rw [List.length_take, n1]; omega), List.take_take, Nat.min_eq_left (by omega), lay_take8, hs]
  have t7 : ((layB s).take n ++ Z.drop n).take 7 = List.replicate 7 0 := by
    rw [List.take_append_of_le_length (by rw [List.length_take, n1]; omega), List.take_take, Nat.min_eq_left (by omega), n2]
  have d120 : ((layB s).take n ++ Z.drop n).drop 120 = be 8 t := by
    rcases Nat.le_total n 120 with hle | hle
    · rw [List.drop_append, List.drop_eq_nil_of_le (by rw [List.length_take]; omega), List.nil_append, List.drop_drop, List.length_take, n1, ← h4]
      congr 1
      omega
    · rw [List.drop_append_of_le_length (by rw [List.length_take, n1]; omega), List.drop_take, lay_drop120, hs]
      have ez : Z.drop n = (be 8 t).drop (n - 120) := by rw [← h4, List.drop_drop, show 120 + (n - 120) = n by omega]
      have e1 : (be 8 (g + 1)).take (n - 120) = (be 8 t).take (n - 120) := by
        rw [be8_small (by omega), be8_small (by omega), List.take_append_of_le_length (by simp; omega), List.take_append_of_le_length (by simp; omega)]
      rw [ez, e1, List.take_append_drop]
  refine ⟨⟨hl, t7, t, h3, d120⟩, .inr ?_⟩
  cases hk : takeB ((layB s).take n ++ Z.drop n) with
  | none => rfl
  | some u =>
    exfalso
    obtain ⟨_, _, hlay, _⟩ := take_some hk
    have a := lay_take8 u
    have b := lay_drop120 u
    rw [hlay, t8] at a
    rw [hlay, d120] at b
    have := be_inj (m := 8) (x := g + 1) (y := t) (Nat.lt_of_lt_of_le hg (Nat.le_of_ble_eq_true rfl)) (Nat.lt_of_lt_of_le (by omega : t < 256) (Nat.le_of_ble_eq_true rfl)) (a.trans b.symm)
    omega
end Go.Proofs.Ytggggfcgnkllgaa
end
section
/- Shelves that are put and got, plain Lean. -/
set_option linter.unusedSimpArgs false
set_option linter.unusedVariables false
namespace Go.Proofs.Ytggggfcgnkllgaa
open Go Go.Sh
/-- The power is on, and stays. -/
def Live (d : Dk) : Prop := d.dead = false ∧ d.fuse = -1
theorem live_trip {d : Dk} (h : Live d) : d.trip = d := by
  unfold Dk.trip
  rw [if_neg (by rw [h.2]; decide)]
theorem live_write {d : Dk} (h : Live d) {t : Nat} {b : List UInt8} (ht : t < d.safe.length) (hb : b.length ≤ 128) :
    (d.write (t : Int) b).2 = 0 ∧ Live (d.write (t : Int) b).1 ∧ (d.write (t : Int) b).1.now = d.now.set t (padB b) ∧ (d.write (t : Int) b).1.done = IntKind.i64.wrap (d.done + 1) := by
  have e : d.write (t : Int) b = ({ d.tick with ws := d.ws ++ [(t, padB b)] }, 0) := by
    unfold Dk.write
    rw [if_neg (by omega), live_trip h, if_neg (by rw [h.1]; decide)]
    simp
  rw [e]
  refine ⟨rfl, ⟨h.1, ?_⟩, ?_, rfl⟩
  · show (if 0 < d.fuse then d.fuse - 1 else d.fuse) = -1
    rw [h.2]; decide
  · show putAll d.safe (d.ws ++ [(t, padB b)]) = _
    rw [putAll_append]
    rfl
def nsec (x : List UInt8) : Nat := (x.length + 127) / 128
/-- What laying bytes does to a disk that is on. -/
theorem lay_live (d : Dk) (t : Nat) (x : List UInt8) : Live d → t + nsec x ≤ d.safe.length → 0 ≤ d.done → d.done + nsec x ≤ 9223372036854775807 →
    (layAll d t x).2 = 0 ∧ Live (layAll d t x).1 ∧ (layAll d t x).1.done = d.done + nsec x ∧ (∀ s, s < t ∨ t + nsec x ≤ s → (layAll d t x).1.now[s]? = d.now[s]?) ∧
      (∀ j, j < nsec x → (layAll d t x).1.now[t + j]? = some (padB ((x.drop (128 * j)).take 128))) := by
  refine layAll_ind (P := fun d t x => Live d → t + nsec x ≤ d.safe.length → 0 ≤ d.done → d.done + nsec x ≤ 9223372036854775807 →
    (layAll d t x).2 = 0 ∧ Live (layAll d t x).1 ∧ (layAll d t x).1.done = d.done + nsec x ∧ (∀ s, s < t ∨ t + nsec x ≤ s → (layAll d t x).1.now[s]? = d.now[s]?) ∧
      (∀ j, j < nsec x → (layAll d t x).1.now[t + j]? = some (padB ((x.drop (128 * j)).take 128)))) ?_ ?_ ?_ d t x
  · intro d t hl ht h0 hd
    rw [layAll_nil]
    have e : nsec [] = 0 := rfl
    rw [e]
    exact ⟨rfl, hl, by simp, fun s _ => rfl, fun j hj => absurd hj (by omega)⟩
  · intro d t x hx he hl ht h0 hd
    have hp : 0 < x.length := List.length_pos_iff.2 hx
    have hn : 1 ≤ nsec x := by unfold nsec; omega
    obtain ⟨h1, _⟩ := live_write hl (t := t) (b := x.take 128) (by omega) (by simp; omega)
    exact absurd h1 he
  · intro d t x hx he ih hl ht h0 hd
    have hp : 0 < x.length := List.length_pos_iff.2 hx
    have hn : nsec x = 1 + nsec (x.drop 128) := by unfold nsec; rw [List.length_drop]; omega
    obtain ⟨h1, h2, h3, h4⟩ := live_write hl (t := t) (b := x.take 128) (by omega) (by simp; omega)
    rw [w64 (by omega) (by omega)] at h4
    have ih' := ih h2 (by rw [Dk.write_size]; omega) (by omega) (by omega)
    rw [layAll_cons d t hx, if_neg (by rw [h1]; decide)]
    have hlen : t < d.now.length := by rw [Dk.now_length]; omega
    obtain ⟨i1, i2, i3, i4, i5⟩ := ih'
    refine ⟨i1, i2, by rw [i3, h4, hn]; omega, ?_, ?_⟩
    · intro s hs
      rw [i4 s (by omega), h3, List.getElem?_set_ne (by omega)]
    · intro j hj
      cases j with
      | zero =>
        refine (i4 t (by omega)).trans ?_
        rw [h3, List.getElem?_set_self hlen]
        rfl
      | succ j =>
        have := i5 j (by omega)
        rw [show t + (j + 1) = t + 1 + j by omega, this, List.drop_drop]
        congr 4
        omega
theorem flat_get {l : List (List UInt8)} (h : ∀ s ∈ l, s.length = 128) (p : Nat) : l.flatten[p]? = (l[p / 128]?).bind (fun s => s[p % 128]?) := by
  have e : p = p / 128 * 128 + p % 128 := by omega
  have h1 : l.flatten[p]? = (l.flatten.drop (p / 128 * 128))[p % 128]? := by rw [List.getElem?_drop, ← e]
  rw [h1, flat_drop h]
  by_cases hq : p / 128 < l.length
  · rw [List.drop_eq_getElem_cons hq, List.flatten_cons, List.getElem?_append_left (by rw [h _ (List.getElem_mem hq)]; omega), List.getElem?_eq_getElem hq]
    rfl
  · rw [List.drop_eq_nil_of_le (by omega), List.getElem?_eq_none (l := l) (by omega)]
    rfl
theorem vall_get {v : Vt} {d : Dk} (hd : d.ok) (at_ p : Nat) (hp : p < v.each * 128) : (vall v d at_)[p]? = (d.now[v.fm + at_ * v.each + p / 128]?).bind (fun s => s[p % 128]?) := by
  unfold vall
  rw [flat_get (fun s hs => Dk.now_128 hd s (List.mem_of_mem_drop (List.mem_of_mem_take hs)))]
  rw [List.getElem?_take, if_pos (by omega), List.getElem?_drop]
theorem vall_len {v : Vt} {d : Dk} (hd : d.ok) (ok : v.ok d.safe.length) {at_ : Nat} (ha : at_ < v.n) : (vall v d at_).length = v.each * 128 := by
  have := Vt.at_le ok ha
  unfold vall
  exact flat_take_drop d.now (Dk.now_128 hd) _ _ (by rw [Dk.now_length]; omega)
theorem vput_long {v : Vt} {d : Dk} {at_ : Nat} (ha : at_ < v.n) {bs : List UInt8} (h : v.room < bs.length) : vput v d (at_ : Int) bs = (d, 4) := by
  unfold vput
  rw [if_neg (by omega), if_pos h]
theorem vput_good {v : Vt} {d : Dk} (hd : d.ok) (ok : v.ok d.safe.length) (hl : Live d) {at_ : Nat} (ha : at_ < v.n) {bs : List UInt8} (h : bs.length ≤ v.room) (h0 : 0 ≤ d.done) (h1 : d.done ≤ 9000000000000000000) :
    (vput v d (at_ : Int) bs).2 = 0 ∧ Live (vput v d (at_ : Int) bs).1 ∧ (vput v d (at_ : Int) bs).1.done = d.done + ((bs.length + 4 + 127) / 128 : Nat) ∧ vget v (vput v d (at_ : Int) bs).1 (at_ : Int) = (bs, 0) ∧
      (∀ k, k < v.n → k ≠ at_ → vget v (vput v d (at_ : Int) bs).1 (k : Int) = vget v d (k : Int)) ∧ (∀ s, s < v.fm ∨ v.fm + v.n * v.each ≤ s → (vput v d (at_ : Int) bs).1.now[s]? = d.now[s]?) := by
  obtain ⟨o1, o2, o3, o4⟩ := id ok
  have hle := Vt.at_le ok ha
  have e : vput v d (at_ : Int) bs = layAll d (v.fm + at_ * v.each) (be 4 bs.length ++ bs) := by
    unfold vput
    rw [if_neg (by omega), if_neg (by omega)]
    rfl
  have hdo := vput_ok (v := v) hd (at_ : Int) bs
  have hds := vput_size v d (at_ : Int) bs
  rw [e] at hdo hds ⊢
  obtain ⟨x, hx⟩ : ∃ x, x = be 4 bs.length ++ bs := ⟨_, rfl⟩
  have hxl : x.length = 4 + bs.length := by rw [hx]; simp
  rw [← hx] at hdo hds ⊢
  have hroom : bs.length + 4 ≤ v.each * 128 := by unfold Vt.room at h; omega
  have hns : nsec x = (bs.length + 4 + 127) / 128 := by unfold nsec; rw [hxl]; congr 1; omega
  have hns' : nsec x ≤ v.each := by rw [hns]; omega
  obtain ⟨l1, l2, l3, l4, l5⟩ := lay_live d (v.fm + at_ * v.each) x hl (by omega) h0 (by omega)
  rw [← hns]
  generalize layAll d (v.fm + at_ * v.each) x = r at hdo hds l1 l2 l3 l4 l5
  have same : ∀ k, k < v.n → k ≠ at_ → vall v r.1 k = vall v d k := by
    intro k hk hne
    have hkle := Vt.at_le ok hk
    apply List.ext_getElem?
    intro p
    by_cases hp : p < v.each * 128
    · rw [vall_get hdo k p hp, vall_get hd k p hp, l4]
      rcases Nat.lt_or_gt_of_ne hne with hlt | hlt
      · left
        have : (k + 1) * v.each ≤ at_ * v.each := Nat.mul_le_mul_right _ hlt
        rw [Nat.succ_mul] at this
        omega
      · right
        have : (at_ + 1) * v.each ≤ k * v.each := Nat.mul_le_mul_right _ hlt
        rw [Nat.succ_mul] at this
        omega
    · have hl1 := vall_len hdo (by rw [hds]; exact ok) hk
      have hl2 := vall_len hd ok hk
      rw [List.getElem?_eq_none (by omega), List.getElem?_eq_none (by omega)]
  have own : (vall v r.1 at_).take x.length = x := by
    have hl1 := vall_len hdo (by rw [hds]; exact ok) ha
    apply List.ext_getElem?
    intro p
    rw [List.getElem?_take]
    by_cases hp : p < x.length
    · rw [if_pos hp, vall_get hdo at_ p (by omega), l5 (p / 128) (by unfold nsec; omega)]
      show (padB ((x.drop (128 * (p / 128))).take 128))[p % 128]? = x[p]?
      unfold padB
      rw [List.getElem?_append_left (by simp; omega), List.getElem?_take, if_pos (by omega), List.getElem?_drop]
      congr 1
      omega
    · rw [if_neg hp, List.getElem?_eq_none (by omega)]
  have h4 : (vall v r.1 at_).take 4 = be 4 bs.length := by
    have := congrArg (List.take 4) own
    rw [List.take_take, Nat.min_eq_left (by omega)] at this
    rw [this, hx, List.take_append_of_le_length (by simp), List.take_of_length_le (by simp)]
  have hnum : num ((vall v r.1 at_).take 4) = bs.length := by
    rw [h4, num_be]
    exact Nat.mod_eq_of_lt (by have : bs.length < 256 ^ 4 := by omega
                               exact this)
  refine ⟨l1, l2, l3, ?_, ?_, ?_⟩
  · unfold vget
    rw [if_neg (by omega), if_neg (by rw [l2.1]; decide), Int.toNat_natCast, hnum, if_neg (by omega)]
    have e3 : ((vall v r.1 at_).drop 4).take bs.length = bs := by
      have := congrArg (List.drop 4) own
      rw [List.drop_take, hxl, show 4 + bs.length - 4 = bs.length by omega] at this
      rw [this, hx, List.drop_append_of_le_length (by simp), List.drop_eq_nil_of_le (by simp), List.nil_append]
    rw [e3]
  · intro k hk hne
    unfold vget
    have c1 : ¬ ((k : Int) < 0 ∨ (v.n : Int) ≤ (k : Int)) := by omega
    have c2 : ¬ r.1.dead = true := by rw [l2.1]; decide
    have c3 : ¬ d.dead = true := by rw [hl.1]; decide
    rw [if_neg c1, if_neg c1, if_neg c2, if_neg c3, Int.toNat_natCast, same k hk hne]
  · intro s hs
    refine l4 s ?_
    rcases hs with hs | hs
    · left; omega
    · right
      have : (at_ + 1) * v.each ≤ v.n * v.each := Nat.mul_le_mul_right _ ha
      rw [Nat.succ_mul] at this
      omega
theorem new_now (N s : Nat) (h : s < N) : (Dk.new N).now[s]? = some (List.replicate 128 0) := by
  show (List.replicate N (List.replicate 128 (0 : UInt8)))[s]? = _
  rw [List.getElem?_replicate, if_pos h]
theorem new_get {v : Vt} {N : Nat} (hN : N ≤ 16384) (ok : v.ok N) {k : Nat} (hk : k < v.n) : vget v (Dk.new N) (k : Int) = ([], 0) := by
  have hd := Dk.new_ok hN
  have hs : (Dk.new N).safe.length = N := by simp [Dk.new]
  obtain ⟨o1, o2, o3, o4⟩ := id ok
  have hle := Vt.at_le ok hk
  have hl := vall_len (v := v) hd (by rw [hs]; exact ok) hk
  have e4 : (vall v (Dk.new N) k).take 4 = [0, 0, 0, 0] := by
    apply List.ext_getElem?
    intro p
    rw [List.getElem?_take]
    by_cases hp : p < 4
    · rw [if_pos hp, vall_get hd k p (by omega), new_now N _ (by omega)]
      have : p = 0 ∨ p = 1 ∨ p = 2 ∨ p = 3 := by omega
      rcases this with rfl | rfl | rfl | rfl <;> rfl
    · rw [if_neg hp, List.getElem?_eq_none (by simp; omega)]
  unfold vget
  rw [if_neg (by omega), if_neg (by show ¬ false = true; decide), Int.toNat_natCast, e4]
  have : num [0, 0, 0, 0] = 0 := by decide
  rw [this, if_neg (by omega), List.take_zero]
end Go.Proofs.Ytggggfcgnkllgaa
end
