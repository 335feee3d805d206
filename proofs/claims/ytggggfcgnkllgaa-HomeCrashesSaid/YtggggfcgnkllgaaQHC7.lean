/- Part 7 of what the law is proved with: T6 Crc3 Shown02 Alike T14 Acts20 Agg T3 Slot Slot2 Slot3. -/
import Derived.Lib.SlBytesConst
import Derived.ChangeKeysEq
import Derived.Laws.StructEq
import Derived.Test.YtggggfcgnkllgaaQHC6
section
set_option linter.unusedVariables false
namespace Go.Proofs.Ytggggfcgnkllgaa
open Go Go.Sh
attribute [local irreducible] X XU XP XR CALL loopS resC closS
/-- cellarage/cellaragelaw02.shown -/
def B_law02_shown (w : World) (K : Value → World → Prop) : Prop :=
  X Try.prog (Instr.buildSlice 27 3 #[(0, (.int .u8 1)), (1, (.int .u8 2)), (2, (.int .u8 3))]) w fun v1_4 w1 =>
  CALL Try.prog 54 #[v1_4] w1 fun v2_5 w2 =>
  X Try.prog (Instr.extract v2_5 0) w2 fun v3_6 w3 =>
  X Try.prog (Instr.extract v2_5 1) w3 fun v4_7 w4 =>
  CALL Try.prog 51 #[(.slice none 0 0)] w4 fun v5_8 w5 =>
  X Try.prog (binOpG .eql 23 (.tmp 8) (.const (.int .u32 0)) v5_8 (.int .u32 0)) w5 fun v6_9 w6 =>
  gstep v6_9 true (fun w7 K => X Try.prog (Instr.buildSlice 27 9 #[(0, (.int .u8 49)), (1, (.int .u8 50)), (2, (.int .u8 51)), (3, (.int .u8 52)), (4, (.int .u8 53)), (5, (.int .u8 54)), (6, (.int .u8 55)), (7, (.int .u8 56)), (8, (.int .u8 57))]) w7 K) w6 fun v7_11 w8 =>
  gstep v6_9 true (fun w9 K => X Try.prog (convert 27 27 v7_11) w9 K) w8 fun v8_12 w10 =>
  gstep v6_9 true (fun w11 K => CALL Try.prog 51 #[v8_12] w11 K) w10 fun v9_13 w12 =>
  gstep v6_9 true (fun w13 K => X Try.prog (binOpG .eql 23 (.tmp 13) (.const (.int .u32 4236843288)) v9_13 (.int .u32 4236843288)) w13 K) w12 fun v10_14 w14 =>
  X Try.prog (pickS v6_9 v10_14 (.bool false)) w14 fun v11_15 w15 =>
  gstep v11_15 true (fun w16 K => CALL Try.prog 56 #[(.slice none 0 0)] w16 K) w15 fun v12_17 w17 =>
  gstep v11_15 true (fun w18 K => X Try.prog (convert 27 9 v12_17) w18 K) w17 fun v13_18 w19 =>
  gstep v11_15 true (fun w20 K => X Try.prog (binOpG .eql 9 (.tmp 18) (.const (.string { data := #[0, 0, 0, 0] })) v13_18 (.string { data := #[0, 0, 0, 0] })) w20 K) w19 fun v14_19 w21 =>
  X Try.prog (pickS v11_15 v14_19 (.bool false)) w21 fun v15_20 w22 =>
  gstep v15_20 true (fun w23 K => K v4_7 w23) w22 fun v16_22 w24 =>
  gstep v15_20 true (fun w25 K => X Try.prog (Op.unary .not v16_22) w25 K) w24 fun v17_23 w26 =>
  X Try.prog (pickS v15_20 v17_23 (.bool false)) w26 fun v18_24 w27 =>
  K v18_24 w27

theorem eq_law02_shown (w : World) (K : Value → World → Prop) :
    sh Try.prog (Try.f50.body.getD .skip) (retS Try.prog Try.f50.results K) (env0 #[]) w = B_law02_shown  w K := by kernel_rfl

theorem call_law02_shown (w : World) (K : Value → World → Prop) (h : B_law02_shown  w K) : CALL Try.prog 50 #[] w K :=
  call_of_eq (c := Try.f50.body.getD .skip) mixed Try.func50 (by kernel_rfl) (by kernel_rfl) (by kernel_rfl) (Nat.le_of_ble_eq_true (by kernel_rfl)) (eq_law02_shown  w K) h

/-- cellarage/cellaragelaw01.CodecOrder -/
def B_law01_CodecOrder (x0 x1 : Value) (w : World) (K : Value → World → Prop) : Prop :=
  ∃ R, Frame? R ∧
  CALL Try.prog 46 #[(.slice none 0 0), x0, (.int .i64 8)] (drewW w) fun v1_8 w1 =>
  XR Try.prog R (convert 27 9 v1_8) w1 fun v2_9 w2 =>
  CALL Try.prog 46 #[(.slice none 0 0), x1, (.int .i64 8)] w2 fun v3_11 w3 =>
  R w2 w3 ∧
  XR Try.prog R (convert 27 9 v3_11) w3 fun v4_12 w4 =>
  CALL Try.prog 47 #[] w4 fun v5_13 w5 =>
  gstep v5_13 true (fun w6 K => K v2_9 w6) w5 fun v6_15 w7 =>
  gstep v5_13 true (fun w8 K => X Try.prog (Builtin.len_ #[9] 3 #[v6_15]) w8 K) w7 fun v7_16 w9 =>
  gstep v5_13 true (fun w10 K => X Try.prog (binOpG .eql 3 (.tmp 16) (.const (.int .i64 8)) v7_16 (.int .i64 8)) w10 K) w9 fun v8_17 w11 =>
  X Try.prog (pickS v5_13 v8_17 (.bool false)) w11 fun v9_18 w12 =>
  gstep v9_18 true (fun w13 K => K v4_12 w13) w12 fun v10_20 w14 =>
  gstep v9_18 true (fun w15 K => X Try.prog (Builtin.len_ #[9] 3 #[v10_20]) w15 K) w14 fun v11_21 w16 =>
  gstep v9_18 true (fun w17 K => X Try.prog (binOpG .eql 3 (.tmp 21) (.const (.int .i64 8)) v11_21 (.int .i64 8)) w17 K) w16 fun v12_22 w18 =>
  X Try.prog (pickS v9_18 v12_22 (.bool false)) w18 fun v13_23 w19 =>
  gstep v13_23 true (fun w20 K => K v2_9 w20) w19 fun v14_25 w21 =>
  gstep v13_23 true (fun w22 K => K v4_12 w22) w21 fun v15_26 w23 =>
  gstep v13_23 true (fun w24 K => X Try.prog (binOp .lss 9 v14_25 v15_26) w24 K) w23 fun v16_27 w25 =>
  gstep v13_23 true (fun w26 K => K x0 w26) w25 fun v17_28 w27 =>
  gstep v13_23 true (fun w28 K => K x1 w28) w27 fun v18_29 w29 =>
  gstep v13_23 true (fun w30 K => X Try.prog (binOp .lss 22 v17_28 v18_29) w30 K) w29 fun v19_30 w31 =>
  gstep v13_23 true (fun w32 K => X Try.prog (binOpG .eql 4 (.tmp 27) (.tmp 30) v16_27 v19_30) w32 K) w31 fun v20_31 w33 =>
  X Try.prog (pickS v13_23 v20_31 (.bool false)) w33 fun v21_32 w34 =>
  K v21_32 w34

theorem eq_law01_CodecOrder (x0 x1 : Value) (w : World) (K : Value → World → Prop) :
    sh Try.prog (Try.f7.body.getD .skip) (retS Try.prog Try.f7.results K) (env0 #[x0, x1]) w = B_law01_CodecOrder x0 x1 w K := by kernel_rfl

theorem call_law01_CodecOrder (x0 x1 : Value) (w : World) (K : Value → World → Prop) (h : B_law01_CodecOrder x0 x1 w K) : CALL Try.prog 7 #[x0, x1] w K :=
  call_of_eq (c := Try.f7.body.getD .skip) mixed Try.func7 (by kernel_rfl) (by kernel_rfl) (by kernel_rfl) (Nat.le_of_ble_eq_true (by kernel_rfl)) (eq_law01_CodecOrder x0 x1 w K) h

/-- cellarage/cellaragelaw01.CodecTakes -/
def B_law01_CodecTakes (x0 x1 : Value) (w : World) (K : Value → World → Prop) : Prop :=
  CALL Try.prog 47 #[] w fun v1_12 w1 =>
  X Try.prog (Builtin.len_ #[27] 3 #[x0]) w1 fun v2_14 w2 =>
  X Try.prog (binOp .gtr 3 v2_14 (.int .i64 100000)) w2 fun v3_15 w3 =>
  condS v3_15 (
  K v1_12 w3) (
  X Try.prog (Instr.buildSlice 27 0 #[]) w3 fun v4_17 w4 =>
  X Try.prog (Builtin.append_ #[27, 27] 27 #[v4_17, x0]) w4 fun v5_19 w5 =>
  CALL Try.prog 58 #[v5_19] w5 fun v6_21 w6 =>
  X Try.prog (binOpG .eql 54 (.tmp 22) (.const (.pointer none)) v6_21 (.pointer none)) w6 fun v7_23 w7 =>
  condS v7_23 (
  K (.bool false) w7) (
  X Try.prog (Instr.build 57 #[(0, x0)]) w7 fun v8_25 w8 =>
  X Try.prog (Instr.alloc 57 true (.tuple #[])) w8 fun v9_8 w9 =>
  XU Try.prog (Instr.storeAt 57 v9_8 v8_25) w9 fun w10 =>
  X Try.prog (Builtin.len_ #[27] 3 #[v5_19]) w10 fun v10_27 w11 =>
  loopS (fun Q1 ρ1 w12 =>
  X Try.prog (binOp .lss 3 (ρ1 28) (ρ1 27)) w12 fun v11_29 w13 =>
  condS v11_29 (
  X Try.prog (Instr.indexAt 27 (ρ1 6) (ρ1 28)) w13 fun v12_33 w14 =>
  X Try.prog (Instr.loadAt 5 v12_33) w14 fun v13_34 w15 =>
  X Try.prog (binOp .xor 5 v13_34 (.int .u8 85)) w15 fun v14_35 w16 =>
  X Try.prog (Instr.indexAt 27 (ρ1 6) (ρ1 28)) w16 fun v15_36 w17 =>
  XU Try.prog (Instr.storeAt 5 v15_36 v14_35) w17 fun w18 =>
  X Try.prog (binOp .add 3 (ρ1 28) (.int .i64 1)) w18 fun v16_37 w19 =>
  Q1 .normal (upds ρ1 [(28, v16_37), (37, v16_37), (36, v15_36), (35, v14_35), (34, v13_34), (33, v12_33), (32, (ρ1 28)), (31, (ρ1 6)), (9, (ρ1 28)), (30, (ρ1 28)), (29, v11_29)]) w19) (
  Q1 (.exit 0) (upds ρ1 [(29, v11_29)]) w13)) (inBlockS 0 (thenS (fun ρ2 w20 =>
  X Try.prog (Builtin.len_ #[53] 3 #[(ρ2 1)]) w20 fun v17_39 w21 =>
  loopS (fun Q3 ρ3 w22 =>
  X Try.prog (binOp .lss 3 (ρ3 40) (ρ3 39)) w22 fun v18_41 w23 =>
  condS v18_41 (
  X Try.prog (binOp .geq 3 (ρ3 40) (.int .i64 1000)) w23 fun v19_44 w24 =>
  condS v19_44 (
  Q3 (.exit 2) (upds ρ3 [(44, v19_44), (43, (ρ3 40)), (10, (ρ3 40)), (42, (ρ3 40)), (41, v18_41)]) w24) (
  joinS (fun ρ4 w25 =>
  ∃ R, Frame? R ∧
  XP Try.prog (Op.unary .not (ρ4 11)) (drewW w25) fun v20_79 w26 =>
  gstep v20_79 false (fun w27 K => K (ρ4 7) w27) w26 fun v21_81 w28 =>
  gstep v20_79 false (fun w29 K => K (ρ4 0) w29) w28 fun v22_83 w30 =>
  gstep v20_79 false (fun w31 K => XP Try.prog (Builtin.len_ #[27] 3 #[v22_83]) w31 K) w30 fun v23_84 w32 =>
  gstep v20_79 false (fun w33 K => XP Try.prog (Instr.fieldAt 57 (ρ4 8) 1) w33 K) w32 fun v24_85 w34 =>
  gstep v20_79 false (fun w35 K => XR Try.prog R (Instr.loadAt 3 v24_85) w35 K) w34 fun v25_86 w36 =>
  gstep v20_79 false (fun w37 K => XP Try.prog (binOp .sub 3 v23_84 v25_86) w37 K) w36 fun v26_87 w38 =>
  gstep v20_79 false (fun w39 K => CALL Try.prog 63 #[v21_81] w39 K) w38 fun v27_82 w40 =>
  R w38 w40 ∧
  gstep v20_79 false (fun w41 K => XP Try.prog (binOpG .neq 3 (.tmp 82) (.tmp 87) v27_82 v26_87) w41 K) w40 fun v28_88 w42 =>
  XP Try.prog (pickS v20_79 (.bool true) v28_88) w42 fun v29_89 w43 =>
  gstep v29_89 false (fun w44 K => K (ρ4 7) w44) w43 fun v30_91 w45 =>
  gstep v29_89 false (fun w46 K => XP Try.prog (Instr.fieldAt 57 (ρ4 8) 2) w46 K) w45 fun v31_93 w47 =>
  gstep v29_89 false (fun w48 K => XR Try.prog R (Instr.loadAt 30 v31_93) w48 K) w47 fun v32_94 w49 =>
  gstep v29_89 false (fun w50 K => CALL Try.prog 64 #[v30_91] w50 K) w49 fun v33_92 w51 =>
  R w49 w51 ∧
  gstep v29_89 false (fun w52 K => XP Try.prog (binOpG .neq 30 (.tmp 92) (.tmp 94) v33_92 v32_94) w52 K) w51 fun v34_95 w53 =>
  XP Try.prog (pickS v29_89 (.bool true) v34_95) w53 fun v35_96 w54 =>
  gstep v35_96 false (fun w55 K => K (ρ4 7) w55) w54 fun v36_98 w56 =>
  gstep v35_96 false (fun w57 K => CALL Try.prog 65 #[v36_98] w57 K) w56 fun v37_99 w58 =>
  R w56 w58 ∧
  gstep v35_96 false (fun w59 K => CALL Try.prog 66 #[(ρ4 8)] w59 K) w58 fun v38_100 w60 =>
  R w58 w60 ∧
  gstep v35_96 false (fun w61 K => XP Try.prog (binOpG .neq 30 (.tmp 99) (.tmp 100) v37_99 v38_100) w61 K) w60 fun v39_101 w62 =>
  XP Try.prog (pickS v35_96 (.bool true) v39_101) w62 fun v40_102 w63 =>
  condS v40_102 (
  Q3 .ret (upds ρ4 [(4, (.bool false)), (102, v40_102), (101, v39_101), (100, v38_100), (99, v37_99), (98, v36_98), (97, v35_96), (96, v35_96), (95, v34_95), (92, v33_92), (94, v32_94), (93, v31_93), (91, v30_91), (90, v29_89), (89, v29_89), (88, v28_88), (82, v27_82), (87, v26_87), (86, v25_86), (85, v24_85), (84, v23_84), (83, v22_83), (81, v21_81), (80, v20_79), (79, v20_79), (78, (ρ4 11))]) w63) (
  X Try.prog (binOp .add 3 (ρ4 40) (.int .i64 1)) w63 fun v41_103 w64 =>
  Q3 .normal (upds ρ4 [(40, v41_103), (103, v41_103), (102, v40_102), (101, v39_101), (100, v38_100), (99, v37_99), (98, v36_98), (97, v35_96), (96, v35_96), (95, v34_95), (92, v33_92), (94, v32_94), (93, v31_93), (91, v30_91), (90, v29_89), (89, v29_89), (88, v28_88), (82, v27_82), (87, v26_87), (86, v25_86), (85, v24_85), (84, v23_84), (83, v22_83), (81, v21_81), (80, v20_79), (79, v20_79), (78, (ρ4 11))]) w64)) fun J4 =>
  X Try.prog (Instr.indexAt 53 (ρ3 1) (ρ3 40)) w24 fun v42_47 w65 =>
  X Try.prog (Instr.fieldAt 59 v42_47 0) w65 fun v43_48 w66 =>
  X Try.prog (Instr.loadAt 4 v43_48) w66 fun v44_49 w67 =>
  condS v44_49 (
  ∃ R, Frame? R ∧
  XP Try.prog (Instr.indexAt 53 (ρ3 1) (ρ3 40)) (drewW w67) fun v45_53 w68 =>
  XP Try.prog (Instr.fieldAt 59 v45_53 1) w68 fun v46_54 w69 =>
  XR Try.prog R (Instr.loadAt 3 v46_54) w69 fun v47_55 w70 =>
  XP Try.prog (Instr.indexAt 53 (ρ3 1) (ρ3 40)) w70 fun v48_59 w71 =>
  XP Try.prog (Instr.fieldAt 59 v48_59 1) w71 fun v49_60 w72 =>
  XR Try.prog R (Instr.loadAt 3 v49_60) w72 fun v50_61 w73 =>
  CALL Try.prog 59 #[(ρ3 7), v47_55] w73 fun v51_56 w74 =>
  R w73 w74 ∧
  CALL Try.prog 60 #[(ρ3 8), v50_61] w74 fun v52_62 w75 =>
  R w74 w75 ∧
  XP Try.prog (binOpG .eql 9 (.tmp 56) (.tmp 62) v51_56 v52_62) w75 fun v53_63 w76 =>
  J4 (upds ρ3 [(11, v53_63), (63, v53_63), (62, v52_62), (56, v51_56), (61, v50_61), (60, v49_60), (59, v48_59), (58, (ρ3 40)), (57, (ρ3 1)), (55, v47_55), (54, v46_54), (53, v45_53), (52, (ρ3 40)), (51, (ρ3 1)), (50, (ρ3 7)), (49, v44_49), (48, v43_48), (47, v42_47), (46, (ρ3 40)), (45, (ρ3 1)), (11, (.bool true)), (44, v19_44), (43, (ρ3 40)), (10, (ρ3 40)), (42, (ρ3 40)), (41, v18_41)]) w76) (
  ∃ R, Frame? R ∧
  XP Try.prog (Instr.indexAt 53 (ρ3 1) (ρ3 40)) (drewW w67) fun v54_67 w77 =>
  XP Try.prog (Instr.fieldAt 59 v54_67 1) w77 fun v55_68 w78 =>
  XR Try.prog R (Instr.loadAt 3 v55_68) w78 fun v56_69 w79 =>
  XP Try.prog (Instr.indexAt 53 (ρ3 1) (ρ3 40)) w79 fun v57_73 w80 =>
  XP Try.prog (Instr.fieldAt 59 v57_73 1) w80 fun v58_74 w81 =>
  XR Try.prog R (Instr.loadAt 3 v58_74) w81 fun v59_75 w82 =>
  CALL Try.prog 61 #[(ρ3 7), v56_69] w82 fun v60_70 w83 =>
  R w82 w83 ∧
  CALL Try.prog 62 #[(ρ3 8), v59_75] w83 fun v61_76 w84 =>
  R w83 w84 ∧
  XP Try.prog (binOpG .eql 22 (.tmp 70) (.tmp 76) v60_70 v61_76) w84 fun v62_77 w85 =>
  J4 (upds ρ3 [(11, v62_77), (77, v62_77), (76, v61_76), (70, v60_70), (75, v59_75), (74, v58_74), (73, v57_73), (72, (ρ3 40)), (71, (ρ3 1)), (69, v56_69), (68, v55_68), (67, v54_67), (66, (ρ3 40)), (65, (ρ3 1)), (64, (ρ3 7)), (49, v44_49), (48, v43_48), (47, v42_47), (46, (ρ3 40)), (45, (ρ3 1)), (11, (.bool true)), (44, v19_44), (43, (ρ3 40)), (10, (ρ3 40)), (42, (ρ3 40)), (41, v18_41)]) w85))) (
  Q3 (.exit 2) (upds ρ3 [(41, v18_41)]) w23)) (inBlockS 2 (thenS (fun ρ5 w86 =>
  K (ρ5 5) w86) (retS Try.prog (Try.f16).results K))) (upds ρ2 [(40, (.int .i64 0)), (39, v17_39), (38, (ρ2 1))]) w21) (retS Try.prog (Try.f16).results K))) (upds (env0 #[x0, x1]) [(28, (.int .i64 0)), (27, v10_27), (26, v5_19), (8, v9_8), (25, v8_25), (24, x0), (23, v7_23), (22, v6_21), (7, v6_21), (21, v6_21), (20, v5_19), (6, v5_19), (19, v5_19), (18, x0), (17, v4_17), (15, v3_15), (14, v2_14), (13, x0), (5, v1_12), (12, v1_12), (4, (.bool false))]) w11))

theorem eq_law01_CodecTakes (x0 x1 : Value) (w : World) (K : Value → World → Prop) :
    sh Try.prog (Try.f16.body.getD .skip) (retS Try.prog Try.f16.results K) (env0 #[x0, x1]) w = B_law01_CodecTakes x0 x1 w K := by kernel_rfl

theorem call_law01_CodecTakes (x0 x1 : Value) (w : World) (K : Value → World → Prop) (h : B_law01_CodecTakes x0 x1 w K) : CALL Try.prog 16 #[x0, x1] w K :=
  call_of_eq (c := Try.f16.body.getD .skip) mixed Try.func16 (by kernel_rfl) (by kernel_rfl) (by kernel_rfl) (Nat.le_of_ble_eq_true (by kernel_rfl)) (eq_law01_CodecTakes x0 x1 w K) h

/-- cellarage/cellaragelaw01.CodecBack -/
def B_law01_CodecBack (x0 x1 x2 : Value) (w : World) (K : Value → World → Prop) : Prop :=
  CALL Try.prog 47 #[] w fun v1_18 w1 =>
  ∃ R, Frame? R ∧
  XP Try.prog (Builtin.len_ #[65] 3 #[x0]) (drewW w1) fun v2_21 w2 =>
  XP Try.prog (Builtin.min_ #[3, 3] 3 #[v2_21, (.int .i64 100)]) w2 fun v3_22 w3 =>
  XP Try.prog (Instr.sliceAt 65 x0 none (some v3_22) none) w3 fun v4_23 w4 =>
  XP Try.prog (Builtin.len_ #[66] 3 #[x1]) w4 fun v5_26 w5 =>
  XP Try.prog (Builtin.min_ #[3, 3] 3 #[v5_26, (.int .i64 100)]) w5 fun v6_27 w6 =>
  XP Try.prog (Instr.sliceAt 66 x1 none (some v6_27) none) w6 fun v7_28 w7 =>
  X Try.prog (Builtin.len_ #[65] 3 #[v4_23]) w7 fun v8_30 w8 =>
  loopS (fun Q1 ρ1 w9 =>
  X Try.prog (binOp .lss 3 (ρ1 31) (ρ1 30)) w9 fun v9_32 w10 =>
  condS v9_32 (
  X Try.prog (Instr.indexAt 65 (ρ1 8) (ρ1 31)) w10 fun v10_37 w11 =>
  X Try.prog (Instr.loadAt 22 v10_37) w11 fun v11_38 w12 =>
  CALL Try.prog 46 #[(ρ1 10), v11_38, (.int .i64 8)] w12 fun v12_39 w13 =>
  X Try.prog (binOp .add 3 (ρ1 31) (.int .i64 1)) w13 fun v13_40 w14 =>
  Q1 .normal (upds ρ1 [(31, v13_40), (40, v13_40), (10, v12_39), (39, v12_39), (38, v11_38), (37, v10_37), (36, (ρ1 31)), (35, (ρ1 8)), (34, (ρ1 10)), (11, (ρ1 31)), (33, (ρ1 31)), (32, v9_32)]) w14) (
  Q1 (.exit 0) (upds ρ1 [(32, v9_32)]) w10)) (inBlockS 0 (thenS (fun ρ2 w15 =>
  X Try.prog (Builtin.len_ #[66] 3 #[(ρ2 9)]) w15 fun v14_42 w16 =>
  loopS (fun Q3 ρ3 w17 =>
  X Try.prog (binOp .lss 3 (ρ3 43) (ρ3 42)) w17 fun v15_44 w18 =>
  condS v15_44 (
  X Try.prog (Instr.indexAt 66 (ρ3 9) (ρ3 43)) w18 fun v16_48 w19 =>
  X Try.prog (Instr.loadAt 9 v16_48) w19 fun v17_49 w20 =>
  X Try.prog (Builtin.len_ #[9] 3 #[v17_49]) w20 fun v18_50 w21 =>
  X Try.prog (binOp .gtr 3 v18_50 (.int .i64 10000)) w21 fun v19_51 w22 =>
  condS v19_51 (
  Q3 .ret (upds ρ3 [(6, (ρ3 7)), (52, (ρ3 7)), (51, v19_51), (50, v18_50), (49, v17_49), (48, v16_48), (47, (ρ3 43)), (46, (ρ3 9)), (12, (ρ3 43)), (45, (ρ3 43)), (44, v15_44)]) w22) (
  X Try.prog (Instr.indexAt 66 (ρ3 9) (ρ3 43)) w22 fun v20_56 w23 =>
  X Try.prog (Instr.loadAt 9 v20_56) w23 fun v21_57 w24 =>
  CALL Try.prog 67 #[(ρ3 10), v21_57] w24 fun v22_58 w25 =>
  X Try.prog (binOp .add 3 (ρ3 43) (.int .i64 1)) w25 fun v23_59 w26 =>
  Q3 .normal (upds ρ3 [(43, v23_59), (59, v23_59), (10, v22_58), (58, v22_58), (57, v21_57), (56, v20_56), (55, (ρ3 43)), (54, (ρ3 9)), (53, (ρ3 10)), (51, v19_51), (50, v18_50), (49, v17_49), (48, v16_48), (47, (ρ3 43)), (46, (ρ3 9)), (12, (ρ3 43)), (45, (ρ3 43)), (44, v15_44)]) w26)) (
  Q3 (.exit 2) (upds ρ3 [(44, v15_44)]) w18)) (inBlockS 2 (thenS (fun ρ4 w27 =>
  X Try.prog (binOp .rem 5 (ρ4 2) (.int .u8 9)) w27 fun v24_61 w28 =>
  X Try.prog (convert 5 3 v24_61) w28 fun v25_62 w29 =>
  CALL Try.prog 46 #[(ρ4 10), (.int .u64 9223372036854775813), v25_62] w29 fun v26_65 w30 =>
  CALL Try.prog 58 #[v26_65] w30 fun v27_67 w31 =>
  X Try.prog (binOpG .eql 54 (.tmp 68) (.const (.pointer none)) v27_67 (.pointer none)) w31 fun v28_69 w32 =>
  condS v28_69 (
  K (.bool false) w32) (
  X Try.prog (Builtin.len_ #[65] 3 #[(ρ4 8)]) w32 fun v29_71 w33 =>
  loopS (fun Q5 ρ5 w34 =>
  X Try.prog (binOp .lss 3 (ρ5 72) (ρ5 71)) w34 fun v30_73 w35 =>
  condS v30_73 (
  ∃ R, Frame? R ∧
  XP Try.prog (Instr.indexAt 65 (ρ5 8) (ρ5 72)) (drewW w35) fun v31_79 w36 =>
  XR Try.prog R (Instr.loadAt 22 v31_79) w36 fun v32_80 w37 =>
  CALL Try.prog 61 #[(ρ5 14), (.int .i64 8)] w37 fun v33_76 w38 =>
  R w37 w38 ∧
  XP Try.prog (binOpG .neq 22 (.tmp 76) (.tmp 80) v33_76 v32_80) w38 fun v34_81 w39 =>
  condS v34_81 (
  Q5 .ret (upds ρ5 [(6, (.bool false)), (81, v34_81), (76, v33_76), (80, v32_80), (79, v31_79), (78, (ρ5 72)), (77, (ρ5 8)), (75, (ρ5 14)), (15, (ρ5 72)), (74, (ρ5 72)), (73, v30_73)]) w39) (
  X Try.prog (binOp .add 3 (ρ5 72) (.int .i64 1)) w39 fun v35_82 w40 =>
  Q5 .normal (upds ρ5 [(72, v35_82), (82, v35_82), (81, v34_81), (76, v33_76), (80, v32_80), (79, v31_79), (78, (ρ5 72)), (77, (ρ5 8)), (75, (ρ5 14)), (15, (ρ5 72)), (74, (ρ5 72)), (73, v30_73)]) w40)) (
  Q5 (.exit 4) (upds ρ5 [(73, v30_73)]) w35)) (inBlockS 4 (thenS (fun ρ6 w41 =>
  X Try.prog (Builtin.len_ #[66] 3 #[(ρ6 9)]) w41 fun v36_84 w42 =>
  loopS (fun Q7 ρ7 w43 =>
  X Try.prog (binOp .lss 3 (ρ7 85) (ρ7 84)) w43 fun v37_86 w44 =>
  condS v37_86 (
  ∃ R, Frame? R ∧
  XP Try.prog (Instr.indexAt 66 (ρ7 9) (ρ7 85)) (drewW w44) fun v38_91 w45 =>
  XR Try.prog R (Instr.loadAt 9 v38_91) w45 fun v39_92 w46 =>
  XP Try.prog (Builtin.len_ #[9] 3 #[v39_92]) w46 fun v40_93 w47 =>
  XP Try.prog (Instr.indexAt 66 (ρ7 9) (ρ7 85)) w47 fun v41_97 w48 =>
  XR Try.prog R (Instr.loadAt 9 v41_97) w48 fun v42_98 w49 =>
  CALL Try.prog 59 #[(ρ7 14), v40_93] w49 fun v43_94 w50 =>
  R w49 w50 ∧
  XP Try.prog (binOpG .neq 9 (.tmp 94) (.tmp 98) v43_94 v42_98) w50 fun v44_99 w51 =>
  condS v44_99 (
  Q7 .ret (upds ρ7 [(6, (.bool false)), (99, v44_99), (94, v43_94), (98, v42_98), (97, v41_97), (96, (ρ7 85)), (95, (ρ7 9)), (93, v40_93), (92, v39_92), (91, v38_91), (90, (ρ7 85)), (89, (ρ7 9)), (88, (ρ7 14)), (16, (ρ7 85)), (87, (ρ7 85)), (86, v37_86)]) w51) (
  X Try.prog (binOp .add 3 (ρ7 85) (.int .i64 1)) w51 fun v45_100 w52 =>
  Q7 .normal (upds ρ7 [(85, v45_100), (100, v45_100), (99, v44_99), (94, v43_94), (98, v42_98), (97, v41_97), (96, (ρ7 85)), (95, (ρ7 9)), (93, v40_93), (92, v39_92), (91, v38_91), (90, (ρ7 85)), (89, (ρ7 9)), (88, (ρ7 14)), (16, (ρ7 85)), (87, (ρ7 85)), (86, v37_86)]) w52)) (
  Q7 (.exit 6) (upds ρ7 [(86, v37_86)]) w44)) (inBlockS 6 (thenS (fun ρ8 w53 =>
  CALL Try.prog 61 #[(ρ8 14), (ρ8 13)] w53 fun v46_103 w54 =>
  gstep (ρ8 7) true (fun w55 K => K (ρ8 14) w55) w54 fun v47_106 w56 =>
  gstep (ρ8 7) true (fun w57 K => CALL Try.prog 65 #[v47_106] w57 K) w56 fun v48_107 w58 =>
  gstep (ρ8 7) true (fun w59 K => X Try.prog (binOpG .eql 30 (.tmp 107) (.const (.int .i64 0)) v48_107 (.int .i64 0)) w59 K) w58 fun v49_108 w60 =>
  X Try.prog (pickS (ρ8 7) v49_108 (.bool false)) w60 fun v50_109 w61 =>
  gstep v50_109 true (fun w62 K => K (ρ8 13) w62) w61 fun v51_111 w63 =>
  gstep v50_109 true (fun w64 K => X Try.prog (binOpG .eql 3 (.tmp 111) (.const (.int .i64 0)) v51_111 (.int .i64 0)) w64 K) w63 fun v52_112 w65 =>
  gstep v50_109 true (fun w66 K => K v46_103 w66) w65 fun v53_113 w67 =>
  gstep v50_109 true (fun w68 K => X Try.prog (binOpG .eql 22 (.tmp 113) (.const (.int .u64 0)) v53_113 (.int .u64 0)) w68 K) w67 fun v54_114 w69 =>
  gstep v50_109 true (fun w70 K => X Try.prog (binOpG .eql 4 (.tmp 112) (.tmp 114) v52_112 v54_114) w70 K) w69 fun v55_115 w71 =>
  X Try.prog (pickS v50_109 v55_115 (.bool false)) w71 fun v56_116 w72 =>
  K v56_116 w72) (retS Try.prog (Try.f17).results K))) (upds ρ6 [(85, (.int .i64 0)), (84, v36_84), (83, (ρ6 9))]) w42) (retS Try.prog (Try.f17).results K))) (upds ρ4 [(72, (.int .i64 0)), (71, v29_71), (70, (ρ4 8)), (69, v28_69), (68, v27_67), (14, v27_67), (67, v27_67), (66, v26_65), (10, v26_65), (65, v26_65), (64, v25_62), (63, (ρ4 10)), (13, v25_62), (62, v25_62), (61, v24_61), (60, (ρ4 2))]) w33)) (retS Try.prog (Try.f17).results K))) (upds ρ2 [(43, (.int .i64 0)), (42, v14_42), (41, (ρ2 9))]) w16) (retS Try.prog (Try.f17).results K))) (upds (env0 #[x0, x1, x2]) [(31, (.int .i64 0)), (30, v8_30), (29, v4_23), (10, (.slice none 0 0)), (9, v7_28), (8, v4_23), (28, v7_28), (27, v6_27), (26, v5_26), (25, x1), (24, x1), (23, v4_23), (22, v3_22), (21, v2_21), (20, x0), (19, x0), (7, v1_18), (18, v1_18), (6, (.bool false))]) w8

theorem eq_law01_CodecBack (x0 x1 x2 : Value) (w : World) (K : Value → World → Prop) :
    sh Try.prog (Try.f17.body.getD .skip) (retS Try.prog Try.f17.results K) (env0 #[x0, x1, x2]) w = B_law01_CodecBack x0 x1 x2 w K := by kernel_rfl

theorem call_law01_CodecBack (x0 x1 x2 : Value) (w : World) (K : Value → World → Prop) (h : B_law01_CodecBack x0 x1 x2 w K) : CALL Try.prog 17 #[x0, x1, x2] w K :=
  call_of_eq (c := Try.f17.body.getD .skip) mixed Try.func17 (by kernel_rfl) (by kernel_rfl) (by kernel_rfl) (Nat.le_of_ble_eq_true (by kernel_rfl)) (eq_law01_CodecBack x0 x1 x2 w K) h

/-- cellarage/cellaragelaw01.CodecShort -/
def B_law01_CodecShort (x0 x1 x2 : Value) (w : World) (K : Value → World → Prop) : Prop :=
  CALL Try.prog 47 #[] w fun v1_13 w1 =>
  X Try.prog (Builtin.len_ #[9] 3 #[x1]) w1 fun v2_15 w2 =>
  X Try.prog (binOp .gtr 3 v2_15 (.int .i64 100000)) w2 fun v3_16 w3 =>
  condS v3_16 (
  K v1_13 w3) (
  CALL Try.prog 46 #[(.slice none 0 0), x0, (.int .i64 8)] w3 fun v4_19 w4 =>
  CALL Try.prog 67 #[(.slice none 0 0), x1] w4 fun v5_21 w5 =>
  X Try.prog (Instr.buildSlice 70 2 #[(0, v4_19), (1, v5_21)]) w5 fun v6_22 w6 =>
  X Try.prog (Builtin.len_ #[70] 3 #[v6_22]) w6 fun v7_23 w7 =>
  loopS (fun Q1 ρ1 w8 =>
  X Try.prog (binOp .lss 3 (ρ1 24) (ρ1 23)) w8 fun v8_25 w9 =>
  condS v8_25 (
  X Try.prog (Instr.indexAt 70 (ρ1 22) (ρ1 24)) w9 fun v9_27 w10 =>
  X Try.prog (Instr.loadAt 27 v9_27) w10 fun v10_28 w11 =>
  X Try.prog (Builtin.len_ #[27] 3 #[v10_28]) w11 fun v11_30 w12 =>
  X Try.prog (binOpG .eql 3 (.tmp 30) (.const (.int .i64 0)) v11_30 (.int .i64 0)) w12 fun v12_31 w13 =>
  condS v12_31 (
  Q1 .ret (upds ρ1 [(6, (.bool false)), (31, v12_31), (30, v11_30), (29, v10_28), (9, v10_28), (8, (ρ1 24)), (28, v10_28), (27, v9_27), (26, (ρ1 24)), (25, v8_25)]) w13) (
  X Try.prog (convert 69 3 (ρ1 2)) w13 fun v13_33 w14 =>
  X Try.prog (Builtin.len_ #[27] 3 #[v10_28]) w14 fun v14_35 w15 =>
  X Try.prog (binOp .rem 3 v13_33 v14_35) w15 fun v15_36 w16 =>
  X Try.prog (Instr.sliceAt 27 v10_28 none (some v15_36) none) w16 fun v16_39 w17 =>
  CALL Try.prog 58 #[v16_39] w17 fun v17_40 w18 =>
  X Try.prog (binOpG .eql 54 (.tmp 41) (.const (.pointer none)) v17_40 (.pointer none)) w18 fun v18_42 w19 =>
  condS v18_42 (
  Q1 .ret (upds ρ1 [(6, (.bool false)), (42, v18_42), (41, v17_40), (11, v17_40), (40, v17_40), (39, v16_39), (38, v15_36), (37, v10_28), (10, v15_36), (36, v15_36), (35, v14_35), (34, v10_28), (33, v13_33), (32, (ρ1 2)), (31, v12_31), (30, v11_30), (29, v10_28), (9, v10_28), (8, (ρ1 24)), (28, v10_28), (27, v9_27), (26, (ρ1 24)), (25, v8_25)]) w19) (
  joinS (fun ρ2 w20 =>
  X Try.prog (Op.unary .not (ρ2 12)) w20 fun v19_54 w21 =>
  gstep v19_54 false (fun w22 K => K (ρ2 11) w22) w21 fun v20_56 w23 =>
  gstep v19_54 false (fun w24 K => CALL Try.prog 64 #[v20_56] w24 K) w23 fun v21_57 w25 =>
  gstep v19_54 false (fun w26 K => X Try.prog (binOpG .neq 30 (.tmp 57) (.const (.int .i64 10)) v21_57 (.int .i64 10)) w26 K) w25 fun v22_58 w27 =>
  X Try.prog (pickS v19_54 (.bool true) v22_58) w27 fun v23_59 w28 =>
  gstep v23_59 false (fun w29 K => K (ρ2 11) w29) w28 fun v24_61 w30 =>
  gstep v23_59 false (fun w31 K => CALL Try.prog 63 #[v24_61] w31 K) w30 fun v25_62 w32 =>
  gstep v23_59 false (fun w33 K => K (ρ2 10) w33) w32 fun v26_63 w34 =>
  gstep v23_59 false (fun w35 K => X Try.prog (binOpG .neq 3 (.tmp 62) (.tmp 63) v25_62 v26_63) w35 K) w34 fun v27_64 w36 =>
  X Try.prog (pickS v23_59 (.bool true) v27_64) w36 fun v28_65 w37 =>
  gstep v28_65 false (fun w38 K => K (ρ2 11) w38) w37 fun v29_67 w39 =>
  gstep v28_65 false (fun w40 K => CALL Try.prog 61 #[v29_67, (.int .i64 0)] w40 K) w39 fun v30_68 w41 =>
  gstep v28_65 false (fun w42 K => X Try.prog (binOpG .neq 22 (.tmp 68) (.const (.int .u64 0)) v30_68 (.int .u64 0)) w42 K) w41 fun v31_69 w43 =>
  X Try.prog (pickS v28_65 (.bool true) v31_69) w43 fun v32_70 w44 =>
  gstep v32_70 false (fun w45 K => K (ρ2 11) w45) w44 fun v33_72 w46 =>
  gstep v32_70 false (fun w47 K => CALL Try.prog 59 #[v33_72, (.int .i64 9)] w47 K) w46 fun v34_73 w48 =>
  gstep v32_70 false (fun w49 K => X Try.prog (binOpG .neq 9 (.tmp 73) (.const (.string { data := #[] })) v34_73 (.string { data := #[] })) w49 K) w48 fun v35_74 w50 =>
  X Try.prog (pickS v32_70 (.bool true) v35_74) w50 fun v36_75 w51 =>
  gstep v36_75 false (fun w52 K => K (ρ2 11) w52) w51 fun v37_77 w53 =>
  gstep v36_75 false (fun w54 K => CALL Try.prog 65 #[v37_77] w54 K) w53 fun v38_78 w55 =>
  gstep v36_75 false (fun w56 K => X Try.prog (binOpG .neq 30 (.tmp 78) (.const (.int .i64 10)) v38_78 (.int .i64 10)) w56 K) w55 fun v39_79 w57 =>
  X Try.prog (pickS v36_75 (.bool true) v39_79) w57 fun v40_80 w58 =>
  condS v40_80 (
  Q1 .ret (upds ρ2 [(6, (.bool false)), (80, v40_80), (79, v39_79), (78, v38_78), (77, v37_77), (76, v36_75), (75, v36_75), (74, v35_74), (73, v34_73), (72, v33_72), (71, v32_70), (70, v32_70), (69, v31_69), (68, v30_68), (67, v29_67), (66, v28_65), (65, v28_65), (64, v27_64), (63, v26_63), (62, v25_62), (61, v24_61), (60, v23_59), (59, v23_59), (58, v22_58), (57, v21_57), (56, v20_56), (55, v19_54), (54, v19_54), (53, (ρ2 12))]) w58) (
  X Try.prog (binOp .add 3 (ρ2 24) (.int .i64 1)) w58 fun v41_81 w59 =>
  Q1 .normal (upds ρ2 [(24, v41_81), (81, v41_81), (80, v40_80), (79, v39_79), (78, v38_78), (77, v37_77), (76, v36_75), (75, v36_75), (74, v35_74), (73, v34_73), (72, v33_72), (71, v32_70), (70, v32_70), (69, v31_69), (68, v30_68), (67, v29_67), (66, v28_65), (65, v28_65), (64, v27_64), (63, v26_63), (62, v25_62), (61, v24_61), (60, v23_59), (59, v23_59), (58, v22_58), (57, v21_57), (56, v20_56), (55, v19_54), (54, v19_54), (53, (ρ2 12))]) w59)) fun J2 =>
  X Try.prog (binOpG .eql 3 (.tmp 43) (.const (.int .i64 0)) (ρ1 24) (.int .i64 0)) w19 fun v42_44 w60 =>
  condS v42_44 (
  CALL Try.prog 61 #[v17_40, (.int .i64 8)] w60 fun v43_46 w61 =>
  X Try.prog (binOpG .eql 22 (.tmp 46) (.const (.int .u64 0)) v43_46 (.int .u64 0)) w61 fun v44_47 w62 =>
  J2 (upds ρ1 [(12, v44_47), (47, v44_47), (46, v43_46), (45, v17_40), (44, v42_44), (43, (ρ1 24)), (12, (.bool true)), (42, v18_42), (41, v17_40), (11, v17_40), (40, v17_40), (39, v16_39), (38, v15_36), (37, v10_28), (10, v15_36), (36, v15_36), (35, v14_35), (34, v10_28), (33, v13_33), (32, (ρ1 2)), (31, v12_31), (30, v11_30), (29, v10_28), (9, v10_28), (8, (ρ1 24)), (28, v10_28), (27, v9_27), (26, (ρ1 24)), (25, v8_25)]) w62) (
  X Try.prog (Builtin.len_ #[9] 3 #[(ρ1 1)]) w60 fun v45_50 w63 =>
  CALL Try.prog 59 #[v17_40, v45_50] w63 fun v46_51 w64 =>
  X Try.prog (binOpG .eql 9 (.tmp 51) (.const (.string { data := #[] })) v46_51 (.string { data := #[] })) w64 fun v47_52 w65 =>
  J2 (upds ρ1 [(12, v47_52), (52, v47_52), (51, v46_51), (50, v45_50), (49, (ρ1 1)), (48, v17_40), (44, v42_44), (43, (ρ1 24)), (12, (.bool true)), (42, v18_42), (41, v17_40), (11, v17_40), (40, v17_40), (39, v16_39), (38, v15_36), (37, v10_28), (10, v15_36), (36, v15_36), (35, v14_35), (34, v10_28), (33, v13_33), (32, (ρ1 2)), (31, v12_31), (30, v11_30), (29, v10_28), (9, v10_28), (8, (ρ1 24)), (28, v10_28), (27, v9_27), (26, (ρ1 24)), (25, v8_25)]) w65)))) (
  Q1 (.exit 0) (upds ρ1 [(25, v8_25)]) w9)) (inBlockS 0 (thenS (fun ρ3 w66 =>
  K (ρ3 7) w66) (retS Try.prog (Try.f18).results K))) (upds (env0 #[x0, x1, x2]) [(24, (.int .i64 0)), (23, v7_23), (22, v6_22), (21, v5_21), (20, x1), (19, v4_19), (18, x0), (16, v3_16), (15, v2_15), (14, x1), (7, v1_13), (13, v1_13), (6, (.bool false))]) w7)

theorem eq_law01_CodecShort (x0 x1 x2 : Value) (w : World) (K : Value → World → Prop) :
    sh Try.prog (Try.f18.body.getD .skip) (retS Try.prog Try.f18.results K) (env0 #[x0, x1, x2]) w = B_law01_CodecShort x0 x1 x2 w K := by kernel_rfl

theorem call_law01_CodecShort (x0 x1 x2 : Value) (w : World) (K : Value → World → Prop) (h : B_law01_CodecShort x0 x1 x2 w K) : CALL Try.prog 18 #[x0, x1, x2] w K :=
  call_of_eq (c := Try.f18.body.getD .skip) mixed Try.func18 (by kernel_rfl) (by kernel_rfl) (by kernel_rfl) (Nat.le_of_ble_eq_true (by kernel_rfl)) (eq_law01_CodecShort x0 x1 x2 w K) h

/-- cellarage/cellaragelaw01.CodecNil -/
def B_law01_CodecNil (x0 : Value) (w : World) (K : Value → World → Prop) : Prop :=
  CALL Try.prog 47 #[] w fun v1_4 w1 =>
  gstep v1_4 true (fun w2 K => K (.pointer none) w2) w1 fun v2_6 w3 =>
  gstep v1_4 true (fun w4 K => K x0 w4) w3 fun v3_7 w5 =>
  gstep v1_4 true (fun w6 K => CALL Try.prog 61 #[v2_6, v3_7] w6 K) w5 fun v4_8 w7 =>
  gstep v1_4 true (fun w8 K => X Try.prog (binOpG .eql 22 (.tmp 8) (.const (.int .u64 0)) v4_8 (.int .u64 0)) w8 K) w7 fun v5_9 w9 =>
  X Try.prog (pickS v1_4 v5_9 (.bool false)) w9 fun v6_10 w10 =>
  gstep v6_10 true (fun w11 K => K (.pointer none) w11) w10 fun v7_12 w12 =>
  gstep v6_10 true (fun w13 K => K x0 w13) w12 fun v8_13 w14 =>
  gstep v6_10 true (fun w15 K => CALL Try.prog 59 #[v7_12, v8_13] w15 K) w14 fun v9_14 w16 =>
  gstep v6_10 true (fun w17 K => X Try.prog (binOpG .eql 9 (.tmp 14) (.const (.string { data := #[] })) v9_14 (.string { data := #[] })) w17 K) w16 fun v10_15 w18 =>
  X Try.prog (pickS v6_10 v10_15 (.bool false)) w18 fun v11_16 w19 =>
  gstep v11_16 true (fun w20 K => K (.pointer none) w20) w19 fun v12_18 w21 =>
  gstep v11_16 true (fun w22 K => CALL Try.prog 63 #[v12_18] w22 K) w21 fun v13_19 w23 =>
  gstep v11_16 true (fun w24 K => X Try.prog (binOpG .eql 3 (.tmp 19) (.const (.int .i64 0)) v13_19 (.int .i64 0)) w24 K) w23 fun v14_20 w25 =>
  X Try.prog (pickS v11_16 v14_20 (.bool false)) w25 fun v15_21 w26 =>
  gstep v15_21 true (fun w27 K => K (.pointer none) w27) w26 fun v16_23 w28 =>
  gstep v15_21 true (fun w29 K => CALL Try.prog 64 #[v16_23] w29 K) w28 fun v17_24 w30 =>
  gstep v15_21 true (fun w31 K => X Try.prog (binOpG .eql 30 (.tmp 24) (.const (.int .i64 0)) v17_24 (.int .i64 0)) w31 K) w30 fun v18_25 w32 =>
  X Try.prog (pickS v15_21 v18_25 (.bool false)) w32 fun v19_26 w33 =>
  gstep v19_26 true (fun w34 K => K (.pointer none) w34) w33 fun v20_28 w35 =>
  gstep v19_26 true (fun w36 K => CALL Try.prog 65 #[v20_28] w36 K) w35 fun v21_29 w37 =>
  gstep v19_26 true (fun w38 K => X Try.prog (binOpG .eql 30 (.tmp 29) (.const (.int .i64 0)) v21_29 (.int .i64 0)) w38 K) w37 fun v22_30 w39 =>
  X Try.prog (pickS v19_26 v22_30 (.bool false)) w39 fun v23_31 w40 =>
  K v23_31 w40

theorem eq_law01_CodecNil (x0 : Value) (w : World) (K : Value → World → Prop) :
    sh Try.prog (Try.f19.body.getD .skip) (retS Try.prog Try.f19.results K) (env0 #[x0]) w = B_law01_CodecNil x0 w K := by kernel_rfl

theorem call_law01_CodecNil (x0 : Value) (w : World) (K : Value → World → Prop) (h : B_law01_CodecNil x0 w K) : CALL Try.prog 19 #[x0] w K :=
  call_of_eq (c := Try.f19.body.getD .skip) mixed Try.func19 (by kernel_rfl) (by kernel_rfl) (by kernel_rfl) (Nat.le_of_ble_eq_true (by kernel_rfl)) (eq_law01_CodecNil x0 w K) h

end Go.Proofs.Ytggggfcgnkllgaa
end
section
/- The reference's check sums, by contract; and what cellaragelaw02.shown computes: true. -/
set_option linter.unusedVariables false
set_option linter.unusedSimpArgs false
namespace Go.Proofs.Ytggggfcgnkllgaa
open Go Go.Sh Go.RowKit
attribute [local irreducible] X XU XP XR CALL loopS resC closS

theorem bit1_eq (c : W32) : bit1 c = if c.msb = true then (c <<< 1) ^^^ poly else c <<< 1 := by
  unfold bit1
  cases c.msb <;> simp

theorem RMore_spec {c : W32} {v : Value} {bs : List UInt8} {w : World} {K : Value → World → Prop} (hb : Bts w v bs) (h : K (U32 (more c bs)) w) : CALL Try.prog 52 #[U32 c, v] w K := by
  obtain ⟨a, cp, e, h1, h2, h3⟩ := id hb
  subst e
  apply call_ref02_More
  unfold B_ref02_More
  refine X_of (u32_comp 23 c w) ?_
  refine loopS_of (fun ρ wr => ∃ i : Nat, i ≤ bs.length ∧ wr = w ∧ ρ 6 = .int .i64 (i : Nat) ∧ ρ 1 = .slice a bs.length cp ∧ ρ 5 = U32 (fold (~~~c) (bs.take i)))
    (fun ρ wr => match ρ 6 with | .int _ s => (bs.length - s).toNat | _ => 0) ?_ ?_
  · exact ⟨0, by omega, rfl, rfl, rfl, rfl⟩
  · rintro ρ wr ⟨i, hi, rfl, h6, h1', h5⟩
    simp only [SS, ST, h6, h1', h5]
    by_cases hin : i = bs.length
    · subst hin
      rw [if_neg (by simp)]
      simp only [upds_cons, upds_nil, Nat.reduceEqDiff, if_false, h5]
      refine X_of (u32_comp 23 _ _) ?_
      rw [List.take_length]
      exact h
    · rw [if_pos (by simp; omega)]
      obtain ⟨ad, hix, hcell, _⟩ := at_bts Try.underlying27 info_5 sz_5 hb (k := .i64) i rfl (by omega)
      refine X_of (hix _) ?_
      refine X_load agg_5 hcell ?_
      refine X_of (u32_of_u8 Try.underlying5 Try.underlying23 _ _) ?_
      refine X_of (u32_topmul 23 _ _) ?_
      refine X_of (u32_xor 23 _ _ _) ?_
      refine loopS_of (fun ρ' wr' => ∃ j : Nat, j ≤ 8 ∧ wr' = wr ∧ ρ' 7 = .int .i64 (j : Nat) ∧ ρ' 6 = .int .i64 (i : Nat) ∧ ρ' 1 = .slice a bs.length cp ∧ ρ' 5 = U32 (iter j (fold (~~~c) (bs.take i) ^^^ top bs[i])))
        (fun ρ wr => match ρ 7 with | .int _ s => (8 - s).toNat | _ => 0) ?_ ?_
      · exact ⟨0, by omega, rfl, rfl, h6, h1', rfl⟩
      · rintro ρ' wr' ⟨j, hj, rfl, h7, h6', h1'', h5'⟩
        simp only [SS, ST, h7, h6', h1'', h5']
        by_cases hjn : j = 8
        · subst hjn
          rw [if_neg (by simp)]
          simp only [upds_cons, upds_nil, Nat.reduceEqDiff, if_false, h6', SS, ST]
          show _ ∧ _
          refine ⟨⟨i + 1, by omega, trivial, next64 (n := bs.length - 1) (by omega) (by omega), h1'', ?_⟩, ?_⟩
          · rw [fold_take_succ (~~~c) bs i (by omega)]
            exact h5'
          · show (_ - IntKind.i64.wrap _).toNat < _
            rw [w64 (by omega) (by omega)]
            omega
        · rw [if_pos (by simp; omega)]
          refine X_of (u32_top2 23 _ _) ?_
          refine X_of (u32_dbl 23 _ _) ?_
          simp only [SS, ST]
          have key : iter (j + 1) (fold (~~~c) (bs.take i) ^^^ top bs[i]) = bit1 (iter j (fold (~~~c) (bs.take i) ^^^ top bs[i])) := iter_succ _ _
          rw [bit1_eq] at key
          cases hm : (iter j (fold (~~~c) (bs.take i) ^^^ top bs[i])).msb with
          | true =>
            rw [if_pos (by simp)]
            rw [hm, if_pos rfl] at key
            refine X_of (u32_xor 23 _ poly _) ?_
            simp only [upds_cons, upds_nil, Nat.reduceEqDiff, if_false, h7, SS, ST]
            show _ ∧ _
            refine ⟨⟨j + 1, by omega, trivial, next64 (n := 8) (by decide) hj, h6', h1'', ?_⟩, ?_⟩
            · rw [key]; rfl
            · show (_ - IntKind.i64.wrap _).toNat < _
              rw [w64 (by omega) (by omega)]
              omega
          | false =>
            rw [if_neg (by simp)]
            rw [hm, if_neg (by decide)] at key
            simp only [upds_cons, upds_nil, Nat.reduceEqDiff, if_false, h7, SS, ST]
            show _ ∧ _
            refine ⟨⟨j + 1, by omega, trivial, next64 (n := 8) (by decide) hj, h6', h1'', ?_⟩, ?_⟩
            · rw [key]; rfl
            · show (_ - IntKind.i64.wrap _).toNat < _
              rw [w64 (by omega) (by omega)]
              omega

theorem RSeal_spec {v : Value} {bs : List UInt8} {w : World} {K : Value → World → Prop} (hb : Bts w v bs) (hl : bs.length ≤ 140737488351232)
    (h : ∀ v' w1, Ext w w1 → w1.ownsRow w.heap.size 5 1 v' (sealB bs).length (B8 (sealB bs)) → K v' w1) : CALL Try.prog 57 #[v] w K := by
  apply call_ref02_Seal
  unfold B_ref02_Seal
  refine X_append_bts Try.underlying27 el_5 (xs := []) (World.ownsRow_nil w w.heap.size 5 1) hb (by omega) (Nat.le_refl _) ?_
  intro v1 w1 ho hk
  have hx : Ext w w1 := hk.mono (fun i _ h => by cases h)
  refine RMore_spec (c := 0#32) (hb.ext hx) ?_
  refine X_of (u64_of_u32 _ _) ?_
  have := (crc bs).isLt
  refine RPut_spec (by show (crc bs).toNat < _; omega) ?_
  intro v2 w2 hx2 ho2
  rw [putB_4] at ho2
  have ho1 : w2.ownsRow w.heap.size 5 1 v1 (0 + bs.length) (B8 ([] ++ bs)) := by
    refine ho.kept ⟨hx2.os, hx2.tape, hx2.output, hx2.size, fun k hk _ => hx2.block k hk (fun h => h)⟩ (row := none) ?_
    cases v1.ownBlock <;> simp
  refine X_append_bts Try.underlying27 el_5 ho1 (own_bts ho2).1 (by simp; omega) (Nat.le_trans hx.size hx2.size) ?_
  intro v3 w3 ho3 hk3
  refine h v3 w3 (Ext.seq (hx.trans hx2) hk3 (fun i hi => (ho1.lt i hi.symm).1)) ?_
  have e : 0 + bs.length + (be 4 (more 0#32 bs).toNat).length = (sealB bs).length := by simp [sealB]
  rw [e] at ho3
  exact ho3

theorem ROpen_spec {v : Value} {bs : List UInt8} {w : World} {K : Value → World → Prop} (hb : Bts w v bs) (hl : bs.length ≤ 140737488351232)
    (h0 : openB bs = none → ∀ w1, Ext w w1 → K (.tuple #[.slice none 0 0, .bool false]) w1)
    (h1 : ∀ cs v' w1, openB bs = some cs → Ext w w1 → Bts w1 v' cs → K (.tuple #[v', .bool true]) w1) : CALL Try.prog 55 #[v] w K := by
  obtain ⟨a, cp, e, _, _, _⟩ := id hb
  subst e
  apply call_ref02_Open
  unfold B_ref02_Open
  simp only [SS, ST]
  refine ⟨Ext, Ext.frame, ?_⟩
  by_cases h4 : bs.length < 4
  · have e1 : decide (IntKind.i64.wrap ((bs.length : Int) - 4) < 0) = true := by rw [w64 (by omega) (by omega)]; simp only [decide_eq_true_eq]; omega
    simp only [SS, ST, e1, if_true, Bool.true_eq_false, if_false]
    refine ⟨Ext.frame.refl _, ?_⟩
    exact h0 (by simp [openB, h4]) _ (Keep.drew _ w)
  · have e0 : IntKind.i64.wrap ((bs.length : Int) - 4) = ((bs.length - 4 : Nat) : Int) := by rw [w64 (by omega) (by omega)]; omega
    have e1 : decide (((bs.length - 4 : Nat) : Int) < 0) = false := by simp only [decide_eq_false_iff_not]; omega
    simp only [e0, SS, ST, e1, if_true, Bool.false_eq_true, if_false]
    have hbd := hb.drew
    obtain ⟨u2, hu2, hub2, huo2⟩ := cut_hi Try.underlying27 info_5 hbd (kh := .i64) (bs.length - 4) rfl (by omega)
    refine XP_of hu2 ?_
    refine XR_str Try.underlying27 Try.underlying5 Try.underlying9 hbd ?_
    refine RSeal_spec hub2 (by simp; omega) ?_
    intro v1 w1 hx1 ho1
    refine ⟨hx1, ?_⟩
    refine XR_str Try.underlying27 Try.underlying5 Try.underlying9 (own_bts ho1).1 ?_
    have hx : Ext w w1 := (Keep.drew _ w).trans hx1
    have hiff : sealB (bs.take (bs.length - 4)) = bs ↔ num (bs.drop (bs.length - 4)) = (crc (bs.take (bs.length - 4))).toNat := by
      unfold sealB
      have hlt : (crc (bs.take (bs.length - 4))).toNat < 256 ^ 4 := (crc (bs.take (bs.length - 4))).isLt
      constructor
      · intro h
        have := congrArg (List.drop (bs.length - 4)) h
        rw [List.drop_append_of_le_length (by simp), List.drop_eq_nil_of_le (by simp), List.nil_append] at this
        rw [← this, num_be, Nat.mod_eq_of_lt hlt]
      · intro h
        rw [← h]
        have hb4 := be_num (bs.drop (bs.length - 4))
        have hl4 : (bs.drop (bs.length - 4)).length = 4 := by simp; omega
        rw [hl4] at hb4
        rw [hb4, List.take_append_drop]
    simp only [str_toList, SS, ST, l8_bne]
    by_cases heq : num (bs.drop (bs.length - 4)) = (crc (bs.take (bs.length - 4))).toNat
    · have ed : decide (sealB (bs.take (bs.length - 4)) ≠ bs) = false := by simp only [ne_eq, decide_not, hiff.2 heq, decide_true, Bool.not_true]
      simp only [ed, Bool.false_eq_true, if_false]
      obtain ⟨u3, hu3, hub3, huo3⟩ := cut_hi Try.underlying27 info_5 (hb.ext hx) (kh := .i64) (bs.length - 4) rfl (by omega)
      refine X_of (hu3 _) ?_
      exact h1 (bs.take (bs.length - 4)) u3 w1 (by simp [openB, h4, heq]) hx hub3
    · have ed : decide (sealB (bs.take (bs.length - 4)) ≠ bs) = true := by simp only [ne_eq, decide_eq_true_eq]; exact fun h => heq (hiff.1 h)
      simp only [ed, if_true]
      exact h0 (by simp [openB, h4, heq]) _ hx
end Go.Proofs.Ytggggfcgnkllgaa
end
section
/- What cellaragelaw02.shown computes: true. -/
set_option linter.unusedVariables false
set_option linter.unusedSimpArgs false
namespace Go.Proofs.Ytggggfcgnkllgaa
open Go Go.Sh Go.RowKit
attribute [local irreducible] X XU XP XR CALL loopS resC closS

theorem lit_bts {w : World} (l : List UInt8) (hl : l.length ≤ 9223372036854775807) (T : TypeId) : Bts (newB w (B8 l).toArray T) (.slice (some ⟨w.heap.size, 0, none⟩) l.length l.length) l :=
  ⟨_, _, rfl, Nat.le_refl _, hl, fun _ => ⟨_, rfl, fun j u hj => by
    rw [add_plain, cell_blk (newB_get _ _ _), Nat.zero_add]
    simp [B8_getElem?, hj]⟩⟩
theorem lit3 (w : World) : (Instr.buildSlice 27 3 #[(0, (.int .u8 1)), (1, (.int .u8 2)), (2, (.int .u8 3))]).run Try.prog w = .ok (.slice (some ⟨w.heap.size, 0, none⟩) 3 3) (newB w (B8 [1, 2, 3]).toArray 5) := by kernel_rfl
theorem lit9 (w : World) : (Instr.buildSlice 27 9 #[(0, (.int .u8 49)), (1, (.int .u8 50)), (2, (.int .u8 51)), (3, (.int .u8 52)), (4, (.int .u8 53)), (5, (.int .u8 54)), (6, (.int .u8 55)), (7, (.int .u8 56)), (8, (.int .u8 57))]).run Try.prog w =
    .ok (.slice (some ⟨w.heap.size, 0, none⟩) 9 9) (newB w (B8 [49, 50, 51, 52, 53, 54, 55, 56, 57]).toArray 5) := by kernel_rfl
theorem alloc_ext (w : World) (o : Obj) : Ext w (w.alloc o) :=
  ⟨rfl, rfl, rfl, by show _ ≤ (w.heap.push _).size; rw [Array.size_push]; omega, fun i hi _ => by
    show (w.heap.push _)[i]? = _
    exact Array.getElem?_push_lt hi |>.trans (Array.getElem?_eq_getElem hi).symm⟩
theorem mark_bts {w : World} (l : List UInt8) (hl : l.length ≤ 9223372036854775807) (T : TypeId) (fr : Nat × Nat) : Bts (w.alloc (.cells (B8 l).toArray T fr)) (.slice (some ⟨w.heap.size, 0, none⟩) l.length l.length) l :=
  ⟨_, _, rfl, Nat.le_refl _, hl, fun _ => ⟨_, rfl, fun j u hj => by
    rw [add_plain, Nat.zero_add]
    have hg : (w.alloc (.cells (B8 l).toArray T fr)).heap[w.heap.size]? = some (.cells (B8 l).toArray T fr) := by
      show (w.heap.push _)[w.heap.size]? = _
      exact Array.getElem?_push_size
    rw [cell_blk hg]
    simp [B8_getElem?, hj]⟩⟩
theorem crc_nil' : (crc []).toNat = 0 := by decide +kernel
theorem crc_nine' : (crc [49, 50, 51, 52, 53, 54, 55, 56, 57]).toNat = 4236843288 := by decide +kernel
theorem crc_nil : U32 (crc []) = .int .u32 0 := by unfold U32; rw [crc_nil']; rfl
theorem crc_nine : U32 (crc [49, 50, 51, 52, 53, 54, 55, 56, 57]) = .int .u32 4236843288 := by unfold U32; rw [crc_nine']; rfl
theorem str_lit2 (l : List UInt8) : ({ data := l.toArray } : ByteArray) = str l := rfl

theorem shown02 {w : World} {K : Value → World → Prop} (h : ∀ w1, Ext w w1 → K (.bool true) w1) : CALL Try.prog 50 #[] w K := by
  apply call_law02_shown
  unfold B_law02_shown
  refine X_of (lit3 w) ?_
  have hx0 := newB_ext w (B8 [1, 2, 3]).toArray 5
  have hb0 := lit_bts (w := w) [1, 2, 3] (by decide) 5
  refine Open_spec hb0 (by decide) ?_ (fun cs v' w1 hc => absurd hc (by simp [openB]))
  intro _ w1 hx1
  simp only [SS, ST]
  refine Sum_spec (Bts.nil _) ?_
  intro w2 hx2
  simp only [crc_nil, SS, ST, decide_true, if_true]
  refine X_of (lit9 _) ?_
  have hx3 := alloc_ext w2 (.cells (B8 [49, 50, 51, 52, 53, 54, 55, 56, 57]).toArray 5 ((B8 [49, 50, 51, 52, 53, 54, 55, 56, 57]).toArray.size, (B8 [49, 50, 51, 52, 53, 54, 55, 56, 57]).toArray.size + 1))
  have hb3 := mark_bts (w := w2) [49, 50, 51, 52, 53, 54, 55, 56, 57] (by decide) 5 ((B8 [49, 50, 51, 52, 53, 54, 55, 56, 57]).toArray.size, (B8 [49, 50, 51, 52, 53, 54, 55, 56, 57]).toArray.size + 1)
  refine X_of (Lib.run_convert_bytes_const w2 27 5 (B8 [49, 50, 51, 52, 53, 54, 55, 56, 57]).toArray 9 9 Try.underlying27 Try.underlying5) ?_
  refine Sum_spec hb3 ?_
  intro w4 hx4
  simp only [crc_nine, SS, ST, decide_true, if_true]
  refine Seal_spec (Bts.nil _) (by decide) ?_
  intro v5 w5 hx5 ho5
  refine X_str Try.underlying27 Try.underlying5 Try.underlying9 (own_bts ho5).1 ?_
  have es : decide (sealB [] = ([0, 0, 0, 0] : List UInt8)) = true := by decide +kernel
  simp only [str_lit2, str_toList, l8_beq, es, SS, ST, if_true, Bool.not_false]
  exact h _ (hx0.trans (hx1.trans (hx2.trans (hx3.trans (hx4.trans hx5)))))
end Go.Proofs.Ytggggfcgnkllgaa
end
section
/- cellaragelaw08.alike: two disks, alike. -/
set_option linter.unusedVariables false
set_option linter.unusedSimpArgs false
namespace Go.Proofs.Ytggggfcgnkllgaa
open Go Go.Sh Go.RowKit
attribute [local irreducible] X XU XP XR CALL loopS resC closS
section
variable {w : World} {b : Nat} {d : Dk} {K : Value → World → Prop}
theorem alike_spec {b' : Nat} (h : DiskAt w b d) (h' : RefAt w b' d) (hw : d.ws.length ≤ 1000000) (hK : ∀ w1, Ext w w1 → K (.bool true) w1) : CALL Try.prog 83 #[ptr b, ptr b'] w K := by
  have h'0 := h'
  obtain ⟨ok, sv, pv, hr⟩ := h'
  have hsl : d.safe.length ≤ 16384 := ok.2.2.1
  obtain ⟨a1, c1, es⟩ := own_sl hr.safe
  obtain ⟨a2, c2, ep⟩ := own_sl hr.ws
  subst es
  subst ep
  apply call_law08_alike
  unfold B_law08_alike
  refine ⟨Ext, Ext.frame, ?_⟩
  have hxd := Keep.drew (fun _ => False) w
  have hd := h.ext hxd
  have hrd := hr.ext hxd
  have en : decide ((d.safe.length : Int) ≠ (d.safe.length : Int)) = false := by simp
  have ew : decide ((d.ws.length : Int) ≠ (d.ws.length : Int)) = false := by simp
  have edn : decide (d.done ≠ d.done) = false := by simp
  have ed : (d.dead != d.dead) = false := by simp
  simp only [XP_nilS, XP_field_148_0]
  refine XR_ok Ext.frame (fun w' k => run_loadAt agg_66 (blk_get (k.get hrd.blk) (v := .slice a1 d.safe.length c1) rfl)) ?_
  rw [XP_len_66]
  refine Size_spec hd ?_
  refine ⟨Keep.refl _ _, ?_⟩
  simp only [XP_neq, en, XP_nilS, XP_field_148_1, decide_true, decide_false, GS]
  refine XR_ok Ext.frame (fun w' k => run_loadAt agg_146 (blk_get (k.get hrd.blk) (v := .slice a2 d.ws.length c2) rfl)) ?_
  rw [XP_len_146]
  refine Pending_spec hd ?_
  refine ⟨Keep.refl _ _, ?_⟩
  simp only [XP_neq, ew, XP_nilS, XP_field_148_2, decide_true, decide_false, GS]
  refine XR_ok Ext.frame (fun w' k => run_loadAt agg_4 (blk_get (k.get hrd.blk) (v := .bool d.dead) rfl)) ?_
  refine Dead_spec hd ?_
  refine ⟨Keep.refl _ _, ?_⟩
  refine XP_of (fun w => Go.Sh.run_neq_bool Try.underlying4 _ _ _ _ w) ?_
  simp only [ed, XP_nilS, XP_field_148_4, decide_true, decide_false, GS]
  refine XR_ok Ext.frame (fun w' k => run_loadAt agg_3 (blk_get (k.get hrd.blk) (v := .int .i64 d.done) rfl)) ?_
  refine Done_spec hd ?_
  refine ⟨Keep.refl _ _, ?_⟩
  simp only [XP_neq, edn, decide_true, decide_false, GS]
  refine loopE (fun ρ wr => ∃ i : Nat, i ≤ min 40 d.safe.length + 2 ∧ Ext w wr ∧ ρ 5 = .int .i64 ((i : Int) - 1) ∧ ρ 0 = ptr b ∧ ρ 1 = ptr b')
    (fun ρ wr => match ρ 5 with | .int _ s => (100 - s).toNat | _ => 0)
    (fun ρ wr => Ext w wr) ?_ ?_ ?_
  · exact ⟨0, by omega, hxd, rfl, rfl, rfl⟩
  · rintro JE hJE ρ wr ⟨i, hi, hxr, h5, h0, h1⟩
    have hdr := h.ext hxr
    have hrr := hr.ext hxr
    have hrr0 := h'0.ext hxr
    rw [h5, h0, h1]
    simp only [X_nilS, X_field_148_0]
    refine X_loadL agg_66 hrr.blk rfl ?_
    simp only [X_len_66, X_min, X_leq, condS_bool]
    by_cases hin : (i : Int) - 1 ≤ min 40 (d.safe.length : Int)
    case neg =>
      rw [if_neg (by simpa using hin)]
      exact hJE _ _ hxr
    rw [if_pos (by simpa using hin)]
    refine Read_spec hdr ?_
    intro v1 w1 hx1 ho1
    simp only [X_extract0, X_extract1]
    refine RRead_spec (hrr0.ext hx1) hw ?_
    simp only [X_extract0, X_extract1]
    have hb1 := (own_bts ho1).1
    refine X_str Try.underlying27 Try.underlying5 Try.underlying9 hb1 ?_
    have e1 : decide ((d.read ((i : Int) - 1)).1 ≠ (d.read ((i : Int) - 1)).1) = false := by simp
    have e2 : decide ((d.read ((i : Int) - 1)).2 ≠ (d.read ((i : Int) - 1)).2) = false := by simp
    simp only [X_str_neq, str_toList, l8_bne, e1, e2, X_neq, decide_true, decide_false, GS]
    obtain ⟨av, cv, ev⟩ := own_sl ho1
    rw [ev, X_len_27, ← ev]
    generalize hrb : (d.read ((i : Int) - 1)).1 = rb at ho1 hb1 ev ⊢
    have hrl : rb.length ≤ 9223372036854775807 := own_max ho1
    refine loopG 2 (fun ρ' w' => ∃ (j : Nat) (l : List UInt8), j ≤ rb.length ∧ l.length = rb.length ∧ Ext w w' ∧ w'.ownsRow wr.heap.size 5 1 v1 rb.length (B8 l) ∧ ρ' 80 = .int .i64 (j : Nat) ∧ ρ' 79 = .int .i64 (rb.length : Nat) ∧ ρ' 6 = v1 ∧ ρ' 5 = .int .i64 ((i : Int) - 1) ∧ ρ' 0 = ptr b ∧ ρ' 1 = ptr b')
      (fun ρ wr => match ρ 80 with | .int _ s => (rb.length - s).toNat | _ => 0)
      (fun ρ' w' => Ext w w' ∧ ρ' 5 = .int .i64 ((i : Int) - 1) ∧ ρ' 0 = ptr b ∧ ρ' 1 = ptr b') ?_ ?_ ?_
    · exact ⟨0, rb, by omega, rfl, hxr.trans hx1, ho1, rfl, rfl, rfl, h5, h0, h1⟩
    · rintro J hJ ρ' w' ⟨j, l, hj, hl, hx', ho', g80, g79, g6, g5, g0, g1⟩
      rw [g80, g79, X_lss, condS_bool]
      by_cases hjn : j = rb.length
      · rw [if_neg (by simp; omega)]
        exact hJ _ _ ⟨hx', g5, g0, g1⟩
      rw [if_pos (by simp; omega)]
      obtain ⟨g, cap, cur, ev', hg, hh, hjc, hcj, hjl, hput⟩ := own_put ho' (j := j) (by omega) (l[j]'(by omega) ^^^ 255)
      have hixj : ∀ w, (Instr.indexAt 27 v1 (.int .i64 (j : Int))).run Try.prog w = .ok (.pointer (some ⟨g, j, none⟩)) w := fun w => by
        rw [ev', ix Try.underlying27 info_5 j rfl hjl w, sz_5, Nat.mul_one, add_plain, Nat.zero_add]
      rw [g6]
      refine X_of (hixj _) ?_
      refine X_loadB agg_5 hh hcj ?_
      have e255 : (Value.int .u8 255) = .int .u8 (((255 : UInt8).toNat : Nat) : Int) := rfl
      rw [e255]
      refine X_of (u8_xor 5 _ _ _) ?_
      refine X_of (hixj _) ?_
      refine XU_store info_5 sz_5 rfl hh hjc (by show ¬ ((0 : Nat) ≤ j ∧ j < 0); omega) ?_
      rw [X_add]
      show _ ∧ _
      have hws : w.heap.size ≤ wr.heap.size := hxr.size
      refine ⟨⟨j + 1, l.set j (l[j]'(by omega) ^^^ 255), by omega, by rw [List.length_set]; exact hl, Ext.seq hx' (setAt_keep _ _ _ _ _) (fun k hk => by omega), hput, next64 (n := rb.length - 1) (by omega) (by omega), g79, g6, g5, g0, g1⟩, ?_⟩
      show (_ - IntKind.i64.wrap _).toNat < _
      rw [w64 (by omega) (by omega)]
      first | omega | (show _ < (_ : Int).toNat; omega)
    · rintro ρ' w' ⟨hx', g5, g0, g1⟩
      simp only [inBlockS_same, inBlockS_normal, thenS_normal]
      rw [g5, X_add, w64 (by omega) (by omega)]
      show _ ∧ _
      refine ⟨⟨i + 1, by omega, hx', ?_, g0, g1⟩, ?_⟩
      · show Value.int .i64 _ = _
        congr 1
        omega
      · show (100 - ((i : Int) - 1 + 1)).toNat < _
        omega
  · rintro ρ wr hx
    exact hK wr hx
/-- The document's examples. -/
theorem lit_xyz (w : World) : (Instr.buildSlice 27 3 #[(0, (.int .u8 120)), (1, (.int .u8 121)), (2, (.int .u8 122))]).run Try.prog w = .ok (.slice (some ⟨w.heap.size, 0, none⟩) 3 3) (newB w (B8 [120, 121, 122]).toArray 5) := by kernel_rfl
theorem bts_conv {w : World} {K : Value → World → Prop} (l : List UInt8) (n : Nat) (hn : l.length = n) (hn' : n ≤ 9223372036854775807) (h : ∀ v w1, Ext w w1 → Bts w1 v l → (∀ k, v.ownBlock = some k → w.heap.size ≤ k ∧ k < w1.heap.size) → K v w1) :
    X Try.prog (convert 27 27 (.slice (some ⟨w.heap.size, 0, none⟩) n n)) (newB w (B8 l).toArray 5) K := by
  subst hn
  refine X_of (Lib.run_convert_bytes_const w 27 5 (B8 l).toArray l.length l.length Try.underlying27 Try.underlying5) ?_
  refine h _ _ (alloc_ext w _) (mark_bts l hn' 5 _) (fun k hk => ?_)
  injection hk with hk
  have hs : (w.alloc (.cells (B8 l).toArray 5 ((B8 l).toArray.size, (B8 l).toArray.size + 1))).heap.size = w.heap.size + 1 := Array.size_push _
  rw [hs]
  have : w.heap.size = k := hk
  omega
theorem row_none {α : Type} (f : α → Value) (w : World) : Row f w (.slice none 0 0) [] := ⟨none, 0, rfl, Nat.le_refl _, by omega, fun h => absurd h (by simp)⟩
theorem run_lit79 (n : Int) (w : World) : (Instr.buildSlice 79 1 #[(0, .int .i64 n)]).run Try.prog w = .ok (.slice (some ⟨w.heap.size, 0, none⟩) 1 1) (newB w #[.int .i64 n] 3) := by kernel_rfl
theorem row_lit79 (n : Int) (w : World) : Row fI (newB w #[.int .i64 n] 3) (.slice (some ⟨w.heap.size, 0, none⟩) 1 1) [n] := by
  refine ⟨_, _, rfl, Nat.le_refl _, by omega, fun _ => ⟨_, rfl, fun j x hj => ?_⟩⟩
  have hj0 : j = 0 := by
    have := (List.getElem?_eq_some_iff.1 hj).1
    simp at this
    exact this
  subst hj0
  simp at hj
  subst hj
  rw [Addr.add_zero', cell_blk (newB_get _ _ _)]
  rfl
theorem shown08 (hK : ∀ w1, Ext w w1 → K (.bool true) w1) : CALL Try.prog 68 #[] w K := by
  apply call_law08_shown
  unfold B_law08_shown
  refine New_disk (fun h => absurd h (by omega)) ?_
  intro m hm _ b w1 hx1 hlow hd1
  obtain rfl : m = 2 := by omega
  have e0 : decide ((0 : Int) ≠ 0) = false := by decide
  simp only [X_extract0, X_extract1, X_eql_nil_74, Option.isNone_some, X_neq, e0, decide_true, decide_false, GS]
  refine X_of (lit_xyz _) ?_
  refine bts_conv [120, 121, 122] 3 rfl (by decide) ?_
  intro v2 w2 hx2 hb2 hk2
  have hd2 := hd1.ext hx2
  have ws0 : (Dk.new 2).ws.length ≤ 1000000 := by decide
  have out2 : Outs w2 b v2 := fun k hk => ⟨fun hf => by
    have := hd1.lt k ((foot_same (hx2.block b (hd1.lt b (foot_self _ b)) (fun h => h))).1 hf)
    have := (hk2 k hk).1
    omega, (hk2 k hk).2⟩
  refine Write_spec hd2 ws0 hb2 (fun _ k hk => (out2 k hk).1) ?_
  intro w3 hd3 s3
  have r3 : ((Dk.new 2).write 1 [120, 121, 122]).2 = 0 := by decide +kernel
  simp only [r3, X_neq, e0, decide_true, decide_false, GS]
  refine Crash_spec hd3 (row_none _ _) (fun h => absurd h (by simp)) ?_
  intro w4 hd4 s4
  refine Read_spec hd4 ?_
  intro v5 w5 hx5 ho5
  have r5 : (((Dk.new 2).write 1 [120, 121, 122]).1.crash []).read 1 = (List.replicate 128 0, 0) := by decide +kernel
  rw [r5] at ho5
  rw [r5]
  simp only [X_extract0, X_extract1]
  have out5 : Outs w5 b v5 := outs_own ho5 hx5 hd4.lt (Nat.le_refl _)
  have hb5 := (own_bts ho5).1
  have hd5 := hd4.ext hx5
  refine X_of (lit_xyz _) ?_
  refine bts_conv [120, 121, 122] 3 rfl (by decide) ?_
  intro v6 w6 hx6 hb6 hk6
  have hd6 := hd5.ext hx6
  have out6 : Outs w6 b v6 := fun k hk => ⟨fun hf => by
    have := hd5.lt k ((foot_same (hx6.block b (hd5.lt b (foot_self _ b)) (fun h => h))).1 hf)
    have := (hk6 k hk).1
    omega, (hk6 k hk).2⟩
  have out5' := out5.ext (hd5.lt b (foot_self _ b)) hx6
  have hb5' := hb5.ext hx6
  refine Write_spec hd6 (by decide +kernel) hb6 (fun _ k hk => (out6 k hk).1) ?_
  intro w7 hd7 s7
  have r7 : ((((Dk.new 2).write 1 [120, 121, 122]).1.crash []).write 1 [120, 121, 122]).2 = 0 := by decide +kernel
  have out7 := out5'.step s7
  have hb7 := hb5'.step out5' s7
  refine X_of (run_lit79 _ _) ?_
  have hx8 := newB_ext w7 #[.int .i64 2] 3
  have hr8 := row_lit79 2 w7
  have hs8 := newB_size w7 #[.int .i64 2] 3
  have hlt7 := hd7.lt
  have hd8 := hd7.ext hx8
  have out8 := out7.ext (hd7.lt b (foot_self _ b)) hx8
  have hb8 := hb7.ext hx8
  refine Crash_spec hd8 hr8 (fun _ k hk hf => ?_) ?_
  · have e1 : w7.heap.size = k := by injection hk
    have := hlt7 k ((foot_same (hx8.block b (hd7.lt b (foot_self _ b)) (fun h => h))).1 hf)
    omega
  intro w9 hd9 s9
  have out9 := out8.step s9
  have hb9 := hb8.step out8 s9
  refine Read_spec hd9 ?_
  intro v10 w10 hx10 ho10
  have r10 : (((((Dk.new 2).write 1 [120, 121, 122]).1.crash []).write 1 [120, 121, 122]).1.crash [2]).read 1 = ([120, 121] ++ List.replicate 126 0, 0) := by decide +kernel
  rw [r10] at ho10
  rw [r10]
  simp only [X_extract0, X_extract1]
  have out10 := out9.ext (hd9.lt b (foot_self _ b)) hx10
  have hb10 := hb9.ext hx10
  have outB : Outs w10 b v10 := outs_own ho10 hx10 hd9.lt (Nat.le_refl _)
  have hbB := (own_bts ho10).1
  have hd10 := hd9.ext hx10
  have hxd := Keep.drew (fun _ => False) w10
  refine ⟨Keep (foot w10 b), Keep.frame _, ?_⟩
  obtain ⟨a5, c5, ev5⟩ := Bts.slice hb10
  obtain ⟨a10, c10, ev10⟩ := Bts.slice hbB
  have hb10d := hb10.ext hxd
  have hbBd := hbB.ext hxd
  have e128 : decide (((List.replicate 128 (0 : UInt8)).length : Int) = 128) = true := by decide +kernel
  have e128' : decide ((([120, 121] ++ List.replicate 126 (0 : UInt8) : List UInt8).length : Int) = 128) = true := by decide +kernel
  rw [ev5, XP_len_27, XP_eql, ← ev5]
  simp only [e128, decide_true, decide_false, GS]
  refine XR_ok (Keep.frame _) (fun w' k => run_str Try.underlying27 Try.underlying5 Try.underlying9 (hb10d.keep k (fun i hi => (out10 i hi).1))) ?_
  refine X_make Try.underlying27 el_5 128 128 rfl rfl (Nat.le_refl _) (by decide) (by decide) ?_
  have hcells : madeCells (Value.int .u8 0).cells (128 * 1) = (B8 (List.replicate 128 0)).toArray := by
    apply Array.ext'
    have : (madeCells (Value.int .u8 0).cells 128).toList = List.replicate 128 (.int .u8 0) := made_one _ _
    rw [Nat.mul_one, this]
    simp [B8]
  rw [hcells]
  have hx11 := newB_ext (drewW w10) (B8 (List.replicate 128 0)).toArray 5
  have hb11 := lit_bts (w := drewW w10) (List.replicate 128 0) (by simp) 5
  have hl128 : (List.replicate 128 (0 : UInt8)).length = 128 := List.length_replicate
  rw [hl128] at hb11
  refine ⟨hx11.ext, ?_⟩
  generalize newB (drewW w10) (B8 (List.replicate 128 0)).toArray 5 = w11 at hx11 hb11 ⊢
  refine XR_ok (Keep.frame _) (fun w' k => run_str Try.underlying27 Try.underlying5 Try.underlying9 (hb11.keep k (fun i hi hf => by
    have h1 : (drewW w10).heap.size = i := by injection hi
    have h2 := hd10.lt i hf
    have h3 : (drewW w10).heap.size = w10.heap.size := rfl
    omega))) ?_
  simp only [XP_str_eql, str_toList, l8_beq, decide_true, decide_false, GS]
  have hbB11 := hbBd.ext hx11
  rw [ev10, XP_len_27, XP_eql, ← ev10]
  simp only [e128', decide_true, decide_false, GS]
  obtain ⟨u, hu, hub, hblk⟩ := cut_hi Try.underlying27 info_5 hbB11 (kh := .i64) (hj := 3) 3 rfl (by simp)
  refine XP_of hu ?_
  refine XR_ok (Keep.frame _) (fun w' k => run_str Try.underlying27 Try.underlying5 Try.underlying9 (hub.keep k (fun i hi => (outB i (by rw [← hblk]; exact hi)).1))) ?_
  have e3 : decide (([120, 121] ++ List.replicate 126 (0 : UInt8) : List UInt8).take 3 = [120, 121, 0]) = true := by decide +kernel
  have e00 : decide ((0 : Int) = 0) = true := by decide
  simp only [str_lit2, XP_str_eql, str_toList, l8_beq, e3, XP_eql, e00, r7, decide_true, decide_false, GS]
  have hd11 := (hd10.ext hxd).ext hx11
  refine Write_spec hd11 (by decide +kernel) (Bts.nil _) (fun h => absurd h (by simp)) ?_
  intro w12 hd12 s12
  have hf11 : ∀ k, foot w11 b k ↔ foot w10 b k := fun k => foot_same ((hxd.trans hx11).block b (hd10.lt b (foot_self _ b)) (fun h => h))
  refine ⟨s12.keep.mono (fun i _ hf => (hf11 i).1 hf), ?_⟩
  have r12 : ((((((Dk.new 2).write 1 [120, 121, 122]).1.crash []).write 1 [120, 121, 122]).1.crash [2]).write 2 []).2 = 1 := by decide +kernel
  have e11 : decide ((1 : Int) = 1) = true := by decide
  simp only [r12, XP_eql, e11, decide_true, decide_false, GS]
  have low2 := (Step.ext hx2 (hd1.lt b (foot_self _ b))).low hx1.size hlow
  have x3 := s3.out (hx1.trans hx2) low2
  have low3 := s3.low (hx1.trans hx2).size low2
  have x4 := s4.out x3 low3
  have low4 := s4.low x3.size low3
  have low6 := (Step.ext (hx5.trans hx6) (hd4.lt b (foot_self _ b))).low x4.size low4
  have x7 := s7.out (x4.trans (hx5.trans hx6)) low6
  have low7 := s7.low (x4.trans (hx5.trans hx6)).size low6
  have low8 := (Step.ext hx8 (hd7.lt b (foot_self _ b))).low x7.size low7
  have x9 := s9.out (x7.trans hx8) low8
  have low9 := s9.low (x7.trans hx8).size low8
  have low11 := (Step.ext (hx10.trans (hxd.trans hx11)) (hd9.lt b (foot_self _ b))).low x9.size low9
  exact hK w12 (s12.out (x9.trans (hx10.trans (hxd.trans hx11))) low11)
end
end Go.Proofs.Ytggggfcgnkllgaa
end
section
set_option linter.unusedVariables false
namespace Go.Proofs.Ytggggfcgnkllgaa
open Go Go.Sh
attribute [local irreducible] X XU XP XR CALL loopS resC closS
/-- cellarage/cellarageref20.New -/
def B_ref20_New (x0 x1 : Value) (w : World) (K : Value → World → Prop) : Prop :=
  X Try.prog (Instr.alloc 162 true (.tuple #[])) w fun v1_4 w1 =>
  X Try.prog (binOp .lss 3 x1 (.int .i64 1)) w1 fun v2_7 w2 =>
  gstep v2_7 false (fun w3 K => K x1 w3) w2 fun v3_9 w4 =>
  gstep v2_7 false (fun w5 K => X Try.prog (binOp .gtr 3 v3_9 (.int .i64 16384)) w5 K) w4 fun v4_10 w6 =>
  X Try.prog (pickS v2_7 (.bool true) v4_10) w6 fun v5_11 w7 =>
  gstep v5_11 false (fun w8 K => K x0 w8) w7 fun v6_13 w9 =>
  gstep v5_11 false (fun w10 K => X Try.prog (nilS v6_13) w10 K) w9 fun v7_14 w11 =>
  gstep v5_11 false (fun w12 K => X Try.prog (Instr.fieldAt 148 v7_14 0) w12 K) w11 fun v8_15 w13 =>
  gstep v5_11 false (fun w14 K => X Try.prog (Instr.loadAt 66 v8_15) w14 K) w13 fun v9_16 w15 =>
  gstep v5_11 false (fun w16 K => X Try.prog (Builtin.len_ #[66] 3 #[v9_16]) w16 K) w15 fun v10_17 w17 =>
  gstep v5_11 false (fun w18 K => K x1 w18) w17 fun v11_18 w19 =>
  gstep v5_11 false (fun w20 K => X Try.prog (binOp .mul 3 (.int .i64 2) v11_18) w20 K) w19 fun v12_19 w21 =>
  gstep v5_11 false (fun w22 K => X Try.prog (binOp .add 3 (.int .i64 2) v12_19) w22 K) w21 fun v13_20 w23 =>
  gstep v5_11 false (fun w24 K => X Try.prog (binOp .lss 3 v10_17 v13_20) w24 K) w23 fun v14_21 w25 =>
  X Try.prog (pickS v5_11 (.bool true) v14_21) w25 fun v15_22 w26 =>
  condS v15_22 (
  X Try.prog (Instr.build 162 #[]) w26 fun v16_23 w27 =>
  XU Try.prog (Instr.storeAt 162 v1_4 v16_23) w27 fun w28 =>
  resC Try.prog 162 v1_4 w28 fun r0 =>
  K (.tuple #[r0, (.int .i64 1)]) w28) (
  X Try.prog (Instr.build 162 #[(0, x0), (1, x1)]) w26 fun v17_26 w29 =>
  XU Try.prog (Instr.storeAt 162 v1_4 v17_26) w29 fun w30 =>
  resC Try.prog 162 v1_4 w30 fun r0 =>
  K (.tuple #[r0, (.int .i64 0)]) w30)

theorem eq_ref20_New (x0 x1 : Value) (w : World) (K : Value → World → Prop) :
    sh Try.prog (Try.f121.body.getD .skip) (retS Try.prog Try.f121.results K) (env0 #[x0, x1]) w = B_ref20_New x0 x1 w K := by kernel_rfl

theorem call_ref20_New (x0 x1 : Value) (w : World) (K : Value → World → Prop) (h : B_ref20_New x0 x1 w K) : CALL Try.prog 121 #[x0, x1] w K :=
  call_of_eq (c := Try.f121.body.getD .skip) mixed Try.func121 (by kernel_rfl) (by kernel_rfl) (by kernel_rfl) (Nat.le_of_ble_eq_true (by kernel_rfl)) (eq_ref20_New x0 x1 w K) h

/-- (cellarage/cellarageref20.Home).Save -/
def B_ref20_Home_Save (x0 x1 : Value) (w : World) (K : Value → World → Prop) : Prop :=
  X Try.prog (Instr.box 162 x0) w fun v1_2 w1 =>
  X Try.prog (Builtin.len_ #[9] 3 #[x1]) w1 fun v2_17 w2 =>
  X Try.prog (Instr.fieldAt 162 v1_2 1) w2 fun v3_18 w3 =>
  X Try.prog (Instr.loadAt 3 v3_18) w3 fun v4_19 w4 =>
  X Try.prog (binOp .mul 3 (.int .i64 128) v4_19) w4 fun v5_20 w5 =>
  X Try.prog (binOp .gtr 3 v2_17 v5_20) w5 fun v6_21 w6 =>
  condS v6_21 (
  K (.int .i64 4) w6) (
  X Try.prog (Instr.loadAt 162 v1_2) w6 fun v7_23 w7 =>
  CALL Try.prog 123 #[v7_23] w7 fun v8_24 w8 =>
  X Try.prog (Instr.extract v8_24 0) w8 fun v9_25 w9 =>
  X Try.prog (Instr.extract v8_24 1) w9 fun v10_26 w10 =>
  X Try.prog (Instr.extract v8_24 2) w10 fun v11_27 w11 =>
  X Try.prog (binOpG .neq 30 (.tmp 28) (.const (.int .i64 0)) v11_27 (.int .i64 0)) w11 fun v12_29 w12 =>
  condS v12_29 (
  K v11_27 w12) (
  X Try.prog (binOpG .eql 22 (.tmp 31) (.const (.int .u64 18446744073709551615)) v10_26 (.int .u64 18446744073709551615)) w12 fun v13_32 w13 =>
  condS v13_32 (
  K (.int .i64 4) w13) (
  X Try.prog (Instr.loadAt 162 v1_2) w13 fun v14_34 w14 =>
  CALL Try.prog 148 #[v14_34] w14 fun v15_35 w15 =>
  X Try.prog (Instr.extract v15_35 0) w15 fun v16_36 w16 =>
  X Try.prog (Instr.extract v15_35 1) w16 fun v17_37 w17 =>
  X Try.prog (Instr.extract v15_35 2) w17 fun v18_38 w18 =>
  X Try.prog (Instr.extract v15_35 3) w18 fun v19_39 w19 =>
  X Try.prog (Instr.alloc 25 true (.tuple #[])) w19 fun v20_8 w20 =>
  XU Try.prog (Instr.storeAt 25 v20_8 v16_36) w20 fun w21 =>
  joinS (fun ρ1 w22 =>
  loopS (fun Q2 ρ2 w23 =>
  X Try.prog (Builtin.len_ #[9] 3 #[(ρ2 1)]) w23 fun v21_49 w24 =>
  X Try.prog (binOp .lss 3 (ρ2 14) v21_49) w24 fun v22_50 w25 =>
  condS v22_50 (
  ∃ R, Frame? R ∧
  XP Try.prog (Instr.fieldAt 162 (ρ2 2) 0) (drewW w25) fun v23_53 w26 =>
  XR Try.prog R (Instr.loadAt 92 v23_53) w26 fun v24_54 w27 =>
  XP Try.prog (Instr.fieldAt 162 (ρ2 2) 1) w27 fun v25_56 w28 =>
  XR Try.prog R (Instr.loadAt 3 v25_56) w28 fun v26_57 w29 =>
  XP Try.prog (binOp .mul 3 (ρ2 12) v26_57) w29 fun v27_58 w30 =>
  XP Try.prog (binOp .add 3 (.int .i64 2) v27_58) w30 fun v28_59 w31 =>
  XP Try.prog (binOp .quo 3 (ρ2 14) (.int .i64 128)) w31 fun v29_61 w32 =>
  XP Try.prog (binOp .add 3 v28_59 v29_61) w32 fun v30_62 w33 =>
  XP Try.prog (Builtin.len_ #[9] 3 #[(ρ2 1)]) w33 fun v31_66 w34 =>
  XP Try.prog (binOp .add 3 (ρ2 14) (.int .i64 128)) w34 fun v32_68 w35 =>
  XP Try.prog (Builtin.min_ #[3, 3] 3 #[v31_66, v32_68]) w35 fun v33_69 w36 =>
  XP Try.prog (Instr.sliceAt 9 (ρ2 1) (some (ρ2 14)) (some v33_69) none) w36 fun v34_70 w37 =>
  CALL Try.prog 109 #[v24_54, v30_62, v34_70] w37 fun v35_71 w38 =>
  R w37 w38 ∧
  X Try.prog (binOpG .neq 30 (.tmp 72) (.const (.int .i64 0)) v35_71 (.int .i64 0)) w38 fun v36_73 w39 =>
  condS v36_73 (
  Q2 .ret (upds ρ2 [(4, v35_71), (74, v35_71), (73, v36_73), (72, v35_71), (7, v35_71), (71, v35_71), (70, v34_70), (69, v33_69), (68, v32_68), (67, (ρ2 14)), (66, v31_66), (65, (ρ2 1)), (64, (ρ2 14)), (63, (ρ2 1)), (62, v30_62), (61, v29_61), (60, (ρ2 14)), (59, v28_59), (58, v27_58), (57, v26_57), (56, v25_56), (55, (ρ2 12)), (54, v24_54), (53, v23_53), (50, v22_50), (49, v21_49), (48, (ρ2 1)), (47, (ρ2 14))]) w39) (
  X Try.prog (binOp .add 3 (ρ2 14) (.int .i64 128)) w39 fun v37_52 w40 =>
  Q2 .normal (upds ρ2 [(14, v37_52), (52, v37_52), (51, (ρ2 14)), (73, v36_73), (72, v35_71), (7, v35_71), (71, v35_71), (70, v34_70), (69, v33_69), (68, v32_68), (67, (ρ2 14)), (66, v31_66), (65, (ρ2 1)), (64, (ρ2 14)), (63, (ρ2 1)), (62, v30_62), (61, v29_61), (60, (ρ2 14)), (59, v28_59), (58, v27_58), (57, v26_57), (56, v25_56), (55, (ρ2 12)), (54, v24_54), (53, v23_53), (50, v22_50), (49, v21_49), (48, (ρ2 1)), (47, (ρ2 14))]) w40)) (
  Q2 (.exit 0) (upds ρ2 [(50, v22_50), (49, v21_49), (48, (ρ2 1)), (47, (ρ2 14))]) w25)) (inBlockS 0 (thenS (fun ρ3 w41 =>
  X Try.prog (Instr.fieldAt 162 (ρ3 2) 0) w41 fun v38_75 w42 =>
  X Try.prog (Instr.loadAt 92 v38_75) w42 fun v39_76 w43 =>
  CALL Try.prog 110 #[v39_76] w43 fun v40_77 w44 =>
  X Try.prog (binOpG .neq 30 (.tmp 78) (.const (.int .i64 0)) v40_77 (.int .i64 0)) w44 fun v41_79 w45 =>
  condS v41_79 (
  K v40_77 w45) (
  X Try.prog (binOp .add 22 (ρ3 6) (.int .u64 1)) w45 fun v42_82 w46 =>
  X Try.prog (convert 3 5 (ρ3 12)) w46 fun v43_84 w47 =>
  X Try.prog (Builtin.len_ #[9] 3 #[(ρ3 1)]) w47 fun v44_86 w48 =>
  X Try.prog (convert 3 23 v44_86) w48 fun v45_87 w49 =>
  X Try.prog (convert 9 27 (ρ3 1)) w49 fun v46_89 w50 =>
  CALL Try.prog 52 #[(.int .u32 0), v46_89] w50 fun v47_90 w51 =>
  X Try.prog (Instr.build 25 #[(0, v42_82), (1, v43_84), (2, v45_87), (3, v47_90)]) w51 fun v48_91 w52 =>
  X Try.prog (Instr.alloc 25 true (.tuple #[])) w52 fun v49_15 w53 =>
  XU Try.prog (Instr.storeAt 25 v49_15 v48_91) w53 fun w54 =>
  ∃ R, Frame? R ∧
  XP Try.prog (Instr.fieldAt 162 (ρ3 2) 0) (drewW w54) fun v50_92 w55 =>
  XR Try.prog R (Instr.loadAt 92 v50_92) w55 fun v51_93 w56 =>
  XR Try.prog R (Instr.loadAt 25 v49_15) w56 fun v52_95 w57 =>
  CALL Try.prog 43 #[v52_95] w57 fun v53_96 w58 =>
  R w57 w58 ∧
  XR Try.prog R (convert 27 9 v53_96) w58 fun v54_97 w59 =>
  CALL Try.prog 109 #[v51_93, (ρ3 13), v54_97] w59 fun v55_98 w60 =>
  R w59 w60 ∧
  X Try.prog (binOpG .neq 30 (.tmp 99) (.const (.int .i64 0)) v55_98 (.int .i64 0)) w60 fun v56_100 w61 =>
  condS v56_100 (
  K v55_98 w61) (
  X Try.prog (Instr.fieldAt 162 (ρ3 2) 0) w61 fun v57_102 w62 =>
  X Try.prog (Instr.loadAt 92 v57_102) w62 fun v58_103 w63 =>
  CALL Try.prog 110 #[v58_103] w63 fun v59_104 w64 =>
  K v59_104 w64))) (retS Try.prog (Try.f122).results K))) (upds ρ1 [(14, (.int .i64 0))]) w22) fun J1 =>
  condS v18_38 (
  X Try.prog (Instr.fieldAt 25 v20_8 1) w21 fun v60_41 w65 =>
  X Try.prog (Instr.loadAt 5 v60_41) w65 fun v61_42 w66 =>
  X Try.prog (convert 5 3 v61_42) w66 fun v62_43 w67 =>
  X Try.prog (binOp .sub 3 (.int .i64 1) v62_43) w67 fun v63_44 w68 =>
  X Try.prog (binOp .sub 3 (.int .i64 1) v17_37) w68 fun v64_46 w69 =>
  J1 (upds (env0 #[x0, x1]) [(13, v64_46), (46, v64_46), (45, v17_37), (12, v63_44), (44, v63_44), (43, v62_43), (42, v61_42), (41, v60_41), (40, v18_38), (13, (.int .i64 1)), (12, (.int .i64 0)), (11, v19_39), (10, v18_38), (9, v17_37), (8, v20_8), (39, v19_39), (38, v18_38), (37, v17_37), (36, v16_36), (33, v15_35), (35, v15_35), (34, v14_34), (32, v13_32), (31, v10_26), (29, v12_29), (28, v11_27), (7, v11_27), (6, v10_26), (5, v9_25), (27, v11_27), (26, v10_26), (25, v9_25), (22, v8_24), (24, v8_24), (23, v7_23), (21, v6_21), (20, v5_20), (19, v4_19), (18, v3_18), (17, v2_17), (16, x1), (4, (.int .i64 0)), (2, v1_2)]) w69) (
  J1 (upds (env0 #[x0, x1]) [(40, v18_38), (13, (.int .i64 1)), (12, (.int .i64 0)), (11, v19_39), (10, v18_38), (9, v17_37), (8, v20_8), (39, v19_39), (38, v18_38), (37, v17_37), (36, v16_36), (33, v15_35), (35, v15_35), (34, v14_34), (32, v13_32), (31, v10_26), (29, v12_29), (28, v11_27), (7, v11_27), (6, v10_26), (5, v9_25), (27, v11_27), (26, v10_26), (25, v9_25), (22, v8_24), (24, v8_24), (23, v7_23), (21, v6_21), (20, v5_20), (19, v4_19), (18, v3_18), (17, v2_17), (16, x1), (4, (.int .i64 0)), (2, v1_2)]) w21))))

theorem eq_ref20_Home_Save (x0 x1 : Value) (w : World) (K : Value → World → Prop) :
    sh Try.prog (Try.f122.body.getD .skip) (retS Try.prog Try.f122.results K) (env0 #[x0, x1]) w = B_ref20_Home_Save x0 x1 w K := by kernel_rfl

theorem call_ref20_Home_Save (x0 x1 : Value) (w : World) (K : Value → World → Prop) (h : B_ref20_Home_Save x0 x1 w K) : CALL Try.prog 122 #[x0, x1] w K :=
  call_of_eq (c := Try.f122.body.getD .skip) mixed Try.func122 (by kernel_rfl) (by kernel_rfl) (by kernel_rfl) (Nat.le_of_ble_eq_true (by kernel_rfl)) (eq_ref20_Home_Save x0 x1 w K) h

/-- (cellarage/cellarageref20.Home).Load -/
def B_ref20_Home_Load (x0 : Value) (w : World) (K : Value → World → Prop) : Prop :=
  X Try.prog (Instr.box 162 x0) w fun v1_1 w1 =>
  X Try.prog (Instr.loadAt 162 v1_1) w1 fun v2_11 w2 =>
  CALL Try.prog 148 #[v2_11] w2 fun v3_12 w3 =>
  X Try.prog (Instr.extract v3_12 0) w3 fun v4_13 w4 =>
  X Try.prog (Instr.extract v3_12 1) w4 fun v5_14 w5 =>
  X Try.prog (Instr.extract v3_12 2) w5 fun v6_15 w6 =>
  X Try.prog (Instr.extract v3_12 3) w6 fun v7_16 w7 =>
  X Try.prog (Instr.alloc 25 true (.tuple #[])) w7 fun v8_5 w8 =>
  XU Try.prog (Instr.storeAt 25 v8_5 v4_13) w8 fun w9 =>
  X Try.prog (binOpG .neq 30 (.tmp 17) (.const (.int .i64 0)) v7_16 (.int .i64 0)) w9 fun v9_18 w10 =>
  condS v9_18 (
  K (.tuple #[(.string { data := #[] }), (.int .u64 0), v7_16]) w10) (
  X Try.prog (Op.unary .not v6_15) w10 fun v10_21 w11 =>
  condS v10_21 (
  K (.tuple #[(.string { data := #[] }), (.int .u64 0), (.int .i64 0)]) w11) (
  X Try.prog (Instr.fieldAt 25 v8_5 1) w11 fun v11_22 w12 =>
  X Try.prog (Instr.loadAt 5 v11_22) w12 fun v12_23 w13 =>
  X Try.prog (binOp .gtr 5 v12_23 (.int .u8 1)) w13 fun v13_24 w14 =>
  gstep v13_24 false (fun w15 K => X Try.prog (Instr.fieldAt 25 v8_5 2) w15 K) w14 fun v14_26 w16 =>
  gstep v13_24 false (fun w17 K => X Try.prog (Instr.loadAt 23 v14_26) w17 K) w16 fun v15_27 w18 =>
  gstep v13_24 false (fun w19 K => X Try.prog (convert 23 22 v15_27) w19 K) w18 fun v16_28 w20 =>
  gstep v13_24 false (fun w21 K => X Try.prog (Instr.fieldAt 162 v1_1 1) w21 K) w20 fun v17_29 w22 =>
  gstep v13_24 false (fun w23 K => X Try.prog (Instr.loadAt 3 v17_29) w23 K) w22 fun v18_30 w24 =>
  gstep v13_24 false (fun w25 K => X Try.prog (binOp .mul 3 (.int .i64 128) v18_30) w25 K) w24 fun v19_31 w26 =>
  gstep v13_24 false (fun w27 K => X Try.prog (convert 3 22 v19_31) w27 K) w26 fun v20_32 w28 =>
  gstep v13_24 false (fun w29 K => X Try.prog (binOp .gtr 22 v16_28 v20_32) w29 K) w28 fun v21_33 w30 =>
  X Try.prog (pickS v13_24 (.bool true) v21_33) w30 fun v22_34 w31 =>
  condS v22_34 (
  K (.tuple #[(.string { data := #[] }), (.int .u64 0), (.int .i64 200)]) w31) (
  X Try.prog (Instr.loadAt 162 v1_1) w31 fun v23_35 w32 =>
  X Try.prog (Instr.fieldAt 25 v8_5 1) w32 fun v24_36 w33 =>
  X Try.prog (Instr.loadAt 5 v24_36) w33 fun v25_37 w34 =>
  X Try.prog (convert 5 3 v25_37) w34 fun v26_38 w35 =>
  X Try.prog (Instr.fieldAt 25 v8_5 2) w35 fun v27_39 w36 =>
  X Try.prog (Instr.loadAt 23 v27_39) w36 fun v28_40 w37 =>
  X Try.prog (convert 23 3 v28_40) w37 fun v29_41 w38 =>
  CALL Try.prog 149 #[v23_35, v26_38, v29_41] w38 fun v30_42 w39 =>
  ∃ R, Frame? R ∧
  XP Try.prog (Instr.fieldAt 25 v8_5 3) (drewW w39) fun v31_46 w40 =>
  XR Try.prog R (Instr.loadAt 23 v31_46) w40 fun v32_47 w41 =>
  X Try.prog (convert 9 27 v30_42) w41 fun v33_44 w42 =>
  R w41 w42 ∧
  CALL Try.prog 52 #[(.int .u32 0), v33_44] w42 fun v34_45 w43 =>
  R w42 w43 ∧
  XP Try.prog (binOpG .neq 23 (.tmp 45) (.tmp 47) v34_45 v32_47) w43 fun v35_48 w44 =>
  condS v35_48 (
  K (.tuple #[(.string { data := #[] }), (.int .u64 0), (.int .i64 200)]) w44) (
  ∃ R, Frame? R ∧
  XP Try.prog (Instr.fieldAt 25 v8_5 0) (drewW w44) fun v36_50 w45 =>
  XR Try.prog R (Instr.loadAt 22 v36_50) w45 fun v37_51 w46 =>
  K (.tuple #[v30_42, v37_51, (.int .i64 0)]) w46))))

theorem eq_ref20_Home_Load (x0 : Value) (w : World) (K : Value → World → Prop) :
    sh Try.prog (Try.f123.body.getD .skip) (retS Try.prog Try.f123.results K) (env0 #[x0]) w = B_ref20_Home_Load x0 w K := by kernel_rfl

theorem call_ref20_Home_Load (x0 : Value) (w : World) (K : Value → World → Prop) (h : B_ref20_Home_Load x0 w K) : CALL Try.prog 123 #[x0] w K :=
  call_of_eq (c := Try.f123.body.getD .skip) mixed Try.func123 (by kernel_rfl) (by kernel_rfl) (by kernel_rfl) (Nat.le_of_ble_eq_true (by kernel_rfl)) (eq_ref20_Home_Load x0 w K) h

/-- (cellarage/cellarageref20.Home).newer -/
def B_ref20_Home_newer (x0 : Value) (w : World) (K : Value → World → Prop) : Prop :=
  X Try.prog (Instr.box 162 x0) w fun v1_1 w1 =>
  X Try.prog (Instr.alloc 25 true (.tuple #[])) w1 fun v2_2 w2 =>
  X Try.prog (Instr.fieldAt 162 v1_1 0) w2 fun v3_14 w3 =>
  X Try.prog (Instr.loadAt 92 v3_14) w3 fun v4_15 w4 =>
  CALL Try.prog 113 #[v4_15, (.int .i64 0)] w4 fun v5_16 w5 =>
  X Try.prog (Instr.extract v5_16 0) w5 fun v6_17 w6 =>
  X Try.prog (Instr.extract v5_16 1) w6 fun v7_18 w7 =>
  X Try.prog (binOpG .neq 30 (.tmp 19) (.const (.int .i64 0)) v7_18 (.int .i64 0)) w7 fun v8_20 w8 =>
  condS v8_20 (
  X Try.prog (Instr.build 25 #[]) w8 fun v9_21 w9 =>
  XU Try.prog (Instr.storeAt 25 v2_2 v9_21) w9 fun w10 =>
  resC Try.prog 25 v2_2 w10 fun r0 =>
  K (.tuple #[r0, (.int .i64 0), (.bool false), v7_18]) w10) (
  X Try.prog (Instr.fieldAt 162 v1_1 0) w8 fun v10_24 w11 =>
  X Try.prog (Instr.loadAt 92 v10_24) w11 fun v11_25 w12 =>
  CALL Try.prog 113 #[v11_25, (.int .i64 1)] w12 fun v12_26 w13 =>
  X Try.prog (Instr.extract v12_26 0) w13 fun v13_27 w14 =>
  X Try.prog (Instr.extract v12_26 1) w14 fun v14_28 w15 =>
  X Try.prog (convert 9 27 v6_17) w15 fun v15_31 w16 =>
  X Try.prog (convert 9 27 v13_27) w16 fun v16_33 w17 =>
  CALL Try.prog 49 #[v15_31, v16_33] w17 fun v17_34 w18 =>
  X Try.prog (Instr.extract v17_34 0) w18 fun v18_35 w19 =>
  X Try.prog (Instr.extract v17_34 1) w19 fun v19_36 w20 =>
  X Try.prog (Instr.extract v17_34 2) w20 fun v20_37 w21 =>
  X Try.prog (Instr.alloc 25 true (.tuple #[])) w21 fun v21_10 w22 =>
  XU Try.prog (Instr.storeAt 25 v21_10 v18_35) w22 fun w23 =>
  X Try.prog (Instr.loadAt 25 v21_10) w23 fun v22_38 w24 =>
  X Try.prog (binOpG .eql 30 (.tmp 40) (.const (.int .i64 0)) v20_37 (.int .i64 0)) w24 fun v23_41 w25 =>
  XU Try.prog (Instr.storeAt 25 v2_2 v22_38) w25 fun w26 =>
  resC Try.prog 25 v2_2 w26 fun r0 =>
  K (.tuple #[r0, v19_36, v23_41, (.int .i64 0)]) w26)

theorem eq_ref20_Home_newer (x0 : Value) (w : World) (K : Value → World → Prop) :
    sh Try.prog (Try.f148.body.getD .skip) (retS Try.prog Try.f148.results K) (env0 #[x0]) w = B_ref20_Home_newer x0 w K := by kernel_rfl

theorem call_ref20_Home_newer (x0 : Value) (w : World) (K : Value → World → Prop) (h : B_ref20_Home_newer x0 w K) : CALL Try.prog 148 #[x0] w K :=
  call_of_eq (c := Try.f148.body.getD .skip) mixed Try.func148 (by kernel_rfl) (by kernel_rfl) (by kernel_rfl) (Nat.le_of_ble_eq_true (by kernel_rfl)) (eq_ref20_Home_newer x0 w K) h

/-- (cellarage/cellarageref20.Home).bytes -/
def B_ref20_Home_bytes (x0 x1 x2 : Value) (w : World) (K : Value → World → Prop) : Prop :=
  X Try.prog (Instr.box 162 x0) w fun v1_3 w1 =>
  loopS (fun Q1 ρ1 w2 =>
  X Try.prog (Instr.fieldAt 162 (ρ1 3) 1) w2 fun v2_12 w3 =>
  X Try.prog (Instr.loadAt 3 v2_12) w3 fun v3_13 w4 =>
  X Try.prog (binOp .lss 3 (ρ1 8) v3_13) w4 fun v4_14 w5 =>
  gstep v4_14 true (fun w6 K => K (ρ1 7) w6) w5 fun v5_16 w7 =>
  gstep v4_14 true (fun w8 K => X Try.prog (Builtin.len_ #[9] 3 #[v5_16]) w8 K) w7 fun v6_17 w9 =>
  gstep v4_14 true (fun w10 K => K (ρ1 2) w10) w9 fun v7_18 w11 =>
  gstep v4_14 true (fun w12 K => X Try.prog (binOp .lss 3 v6_17 v7_18) w12 K) w11 fun v8_19 w13 =>
  X Try.prog (pickS v4_14 v8_19 (.bool false)) w13 fun v9_20 w14 =>
  condS v9_20 (
  X Try.prog (Instr.fieldAt 162 (ρ1 3) 0) w14 fun v10_24 w15 =>
  X Try.prog (Instr.loadAt 92 v10_24) w15 fun v11_25 w16 =>
  X Try.prog (Instr.fieldAt 162 (ρ1 3) 1) w16 fun v12_27 w17 =>
  X Try.prog (Instr.loadAt 3 v12_27) w17 fun v13_28 w18 =>
  X Try.prog (binOp .mul 3 (ρ1 1) v13_28) w18 fun v14_29 w19 =>
  X Try.prog (binOp .add 3 (.int .i64 2) v14_29) w19 fun v15_30 w20 =>
  X Try.prog (binOp .add 3 v15_30 (ρ1 8)) w20 fun v16_32 w21 =>
  CALL Try.prog 113 #[v11_25, v16_32] w21 fun v17_33 w22 =>
  X Try.prog (Instr.extract v17_33 0) w22 fun v18_34 w23 =>
  X Try.prog (Instr.extract v17_33 1) w23 fun v19_35 w24 =>
  X Try.prog (binOp .add 9 (ρ1 7) v18_34) w24 fun v20_38 w25 =>
  X Try.prog (binOp .add 3 (ρ1 8) (.int .i64 1)) w25 fun v21_22 w26 =>
  Q1 .normal (upds ρ1 [(8, v21_22), (22, v21_22), (21, (ρ1 8)), (7, v20_38), (38, v20_38), (37, v18_34), (36, (ρ1 7)), (10, v19_35), (9, v18_34), (35, v19_35), (34, v18_34), (23, v17_33), (33, v17_33), (32, v16_32), (31, (ρ1 8)), (30, v15_30), (29, v14_29), (28, v13_28), (27, v12_27), (26, (ρ1 1)), (25, v11_25), (24, v10_24), (20, v9_20), (19, v8_19), (18, v7_18), (17, v6_17), (16, v5_16), (15, v4_14), (14, v4_14), (13, v3_13), (12, v2_12), (11, (ρ1 8))]) w26) (
  Q1 (.exit 0) (upds ρ1 [(20, v9_20), (19, v8_19), (18, v7_18), (17, v6_17), (16, v5_16), (15, v4_14), (14, v4_14), (13, v3_13), (12, v2_12), (11, (ρ1 8))]) w14)) (inBlockS 0 (thenS (fun ρ2 w27 =>
  X Try.prog (Instr.sliceAt 9 (ρ2 7) none (some (ρ2 2)) none) w27 fun v22_41 w28 =>
  K v22_41 w28) (retS Try.prog (Try.f149).results K))) (upds (env0 #[x0, x1, x2]) [(8, (.int .i64 0)), (7, (.string { data := #[] })), (6, (.string { data := #[] })), (3, v1_3)]) w1

theorem eq_ref20_Home_bytes (x0 x1 x2 : Value) (w : World) (K : Value → World → Prop) :
    sh Try.prog (Try.f149.body.getD .skip) (retS Try.prog Try.f149.results K) (env0 #[x0, x1, x2]) w = B_ref20_Home_bytes x0 x1 x2 w K := by kernel_rfl

theorem call_ref20_Home_bytes (x0 x1 x2 : Value) (w : World) (K : Value → World → Prop) (h : B_ref20_Home_bytes x0 x1 x2 w K) : CALL Try.prog 149 #[x0, x1, x2] w K :=
  call_of_eq (c := Try.f149.body.getD .skip) mixed Try.func149 (by kernel_rfl) (by kernel_rfl) (by kernel_rfl) (Nat.le_of_ble_eq_true (by kernel_rfl)) (eq_ref20_Home_bytes x0 x1 x2 w K) h

/-- cellarage/cellaragelaw20.shown -/
def B_law20_shown (w : World) (K : Value → World → Prop) : Prop :=
  CALL Try.prog 69 #[(.int .i64 10)] w fun v1_15 w1 =>
  X Try.prog (Instr.extract v1_15 0) w1 fun v2_16 w2 =>
  X Try.prog (Instr.extract v1_15 1) w2 fun v3_17 w3 =>
  CALL Try.prog 116 #[v2_16, (.int .i64 2)] w3 fun v4_20 w4 =>
  X Try.prog (Instr.extract v4_20 0) w4 fun v5_21 w5 =>
  X Try.prog (Instr.extract v4_20 1) w5 fun v6_22 w6 =>
  X Try.prog (binOpG .eql 150 (.tmp 23) (.const (.pointer none)) v5_21 (.pointer none)) w6 fun v7_24 w7 =>
  gstep v7_24 false (fun w8 K => K v6_22 w8) w7 fun v8_26 w9 =>
  gstep v7_24 false (fun w10 K => X Try.prog (binOpG .neq 30 (.tmp 26) (.const (.int .i64 0)) v8_26 (.int .i64 0)) w10 K) w9 fun v9_27 w11 =>
  X Try.prog (pickS v7_24 (.bool true) v9_27) w11 fun v10_28 w12 =>
  gstep v10_28 false (fun w13 K => K v5_21 w13) w12 fun v11_30 w14 =>
  gstep v10_28 false (fun w15 K => CALL Try.prog 118 #[v11_30] w15 K) w14 fun v12_31 w16 =>
  gstep v10_28 false (fun w17 K => X Try.prog (binOpG .neq 3 (.tmp 31) (.const (.int .i64 256)) v12_31 (.int .i64 256)) w17 K) w16 fun v13_32 w18 =>
  X Try.prog (pickS v10_28 (.bool true) v13_32) w18 fun v14_33 w19 =>
  gstep v14_33 false (fun w20 K => K v5_21 w20) w19 fun v15_35 w21 =>
  gstep v14_33 false (fun w22 K => CALL Try.prog 119 #[v15_35] w22 K) w21 fun v16_36 w23 =>
  gstep v14_33 false (fun w24 K => X Try.prog (binOpG .neq 3 (.tmp 36) (.const (.int .i64 6)) v16_36 (.int .i64 6)) w24 K) w23 fun v17_37 w25 =>
  X Try.prog (pickS v14_33 (.bool true) v17_37) w25 fun v18_38 w26 =>
  condS v18_38 (
  K (.bool false) w26) (
  CALL Try.prog 115 #[v5_21] w26 fun v19_41 w27 =>
  X Try.prog (Instr.extract v19_41 0) w27 fun v20_42 w28 =>
  X Try.prog (Instr.extract v19_41 1) w28 fun v21_43 w29 =>
  X Try.prog (Instr.extract v19_41 2) w29 fun v22_44 w30 =>
  X Try.prog (Instr.buildSlice 27 3 #[(0, (.int .u8 97)), (1, (.int .u8 98)), (2, (.int .u8 99))]) w30 fun v23_46 w31 =>
  X Try.prog (convert 27 27 v23_46) w31 fun v24_47 w32 =>
  CALL Try.prog 117 #[v5_21, v24_47] w32 fun v25_48 w33 =>
  CALL Try.prog 73 #[v2_16, (.int .i64 2)] w33 fun v26_51 w34 =>
  X Try.prog (Instr.extract v26_51 0) w34 fun v27_52 w35 =>
  X Try.prog (Instr.extract v26_51 1) w35 fun v28_53 w36 =>
  CALL Try.prog 115 #[v5_21] w36 fun v29_56 w37 =>
  X Try.prog (Instr.extract v29_56 0) w37 fun v30_57 w38 =>
  X Try.prog (Instr.extract v29_56 1) w38 fun v31_58 w39 =>
  X Try.prog (Instr.extract v29_56 2) w39 fun v32_59 w40 =>
  X Try.prog (Builtin.len_ #[27] 3 #[v20_42]) w40 fun v33_61 w41 =>
  X Try.prog (binOpG .eql 3 (.tmp 61) (.const (.int .i64 0)) v33_61 (.int .i64 0)) w41 fun v34_62 w42 =>
  gstep v34_62 true (fun w43 K => K v21_43 w43) w42 fun v35_64 w44 =>
  gstep v34_62 true (fun w45 K => X Try.prog (binOpG .eql 22 (.tmp 64) (.const (.int .u64 0)) v35_64 (.int .u64 0)) w45 K) w44 fun v36_65 w46 =>
  X Try.prog (pickS v34_62 v36_65 (.bool false)) w46 fun v37_66 w47 =>
  gstep v37_66 true (fun w48 K => K v22_44 w48) w47 fun v38_68 w49 =>
  gstep v37_66 true (fun w50 K => X Try.prog (binOpG .eql 30 (.tmp 68) (.const (.int .i64 0)) v38_68 (.int .i64 0)) w50 K) w49 fun v39_69 w51 =>
  X Try.prog (pickS v37_66 v39_69 (.bool false)) w51 fun v40_70 w52 =>
  gstep v40_70 true (fun w53 K => K v25_48 w53) w52 fun v41_72 w54 =>
  gstep v40_70 true (fun w55 K => X Try.prog (binOpG .eql 30 (.tmp 72) (.const (.int .i64 0)) v41_72 (.int .i64 0)) w55 K) w54 fun v42_73 w56 =>
  X Try.prog (pickS v40_70 v42_73 (.bool false)) w56 fun v43_74 w57 =>
  gstep v43_74 true (fun w58 K => K v27_52 w58) w57 fun v44_76 w59 =>
  gstep v43_74 true (fun w60 K => X Try.prog (Builtin.len_ #[27] 3 #[v44_76]) w60 K) w59 fun v45_77 w61 =>
  gstep v43_74 true (fun w62 K => X Try.prog (binOpG .eql 3 (.tmp 77) (.const (.int .i64 128)) v45_77 (.int .i64 128)) w62 K) w61 fun v46_78 w63 =>
  X Try.prog (pickS v43_74 v46_78 (.bool false)) w63 fun v47_79 w64 =>
  gstep v47_79 true (fun w65 K => K v27_52 w65) w64 fun v48_81 w66 =>
  gstep v47_79 true (fun w67 K => X Try.prog (Instr.sliceAt 27 v48_81 none (some (.int .i64 4)) none) w67 K) w66 fun v49_82 w68 =>
  gstep v47_79 true (fun w69 K => X Try.prog (convert 27 9 v49_82) w69 K) w68 fun v50_83 w70 =>
  gstep v47_79 true (fun w71 K => X Try.prog (binOpG .eql 9 (.tmp 83) (.const (.string { data := #[97, 98, 99, 0] })) v50_83 (.string { data := #[97, 98, 99, 0] })) w71 K) w70 fun v51_84 w72 =>
  X Try.prog (pickS v47_79 v51_84 (.bool false)) w72 fun v52_85 w73 =>
  gstep v52_85 true (fun w74 K => K v30_57 w74) w73 fun v53_87 w75 =>
  gstep v52_85 true (fun w76 K => X Try.prog (convert 27 9 v53_87) w76 K) w75 fun v54_88 w77 =>
  gstep v52_85 true (fun w78 K => X Try.prog (binOpG .eql 9 (.tmp 88) (.const (.string { data := #[97, 98, 99] })) v54_88 (.string { data := #[97, 98, 99] })) w78 K) w77 fun v55_89 w79 =>
  X Try.prog (pickS v52_85 v55_89 (.bool false)) w79 fun v56_90 w80 =>
  gstep v56_90 true (fun w81 K => K v31_58 w81) w80 fun v57_92 w82 =>
  gstep v56_90 true (fun w83 K => X Try.prog (binOpG .eql 22 (.tmp 92) (.const (.int .u64 1)) v57_92 (.int .u64 1)) w83 K) w82 fun v58_93 w84 =>
  X Try.prog (pickS v56_90 v58_93 (.bool false)) w84 fun v59_94 w85 =>
  gstep v59_94 true (fun w86 K => K v32_59 w86) w85 fun v60_96 w87 =>
  gstep v59_94 true (fun w88 K => X Try.prog (binOpG .eql 30 (.tmp 96) (.const (.int .i64 0)) v60_96 (.int .i64 0)) w88 K) w87 fun v61_97 w89 =>
  X Try.prog (pickS v59_94 v61_97 (.bool false)) w89 fun v62_98 w90 =>
  K v62_98 w90)

theorem eq_law20_shown (w : World) (K : Value → World → Prop) :
    sh Try.prog (Try.f114.body.getD .skip) (retS Try.prog Try.f114.results K) (env0 #[]) w = B_law20_shown  w K := by kernel_rfl

theorem call_law20_shown (w : World) (K : Value → World → Prop) (h : B_law20_shown  w K) : CALL Try.prog 114 #[] w K :=
  call_of_eq (c := Try.f114.body.getD .skip) mixed Try.func114 (by kernel_rfl) (by kernel_rfl) (by kernel_rfl) (Nat.le_of_ble_eq_true (by kernel_rfl)) (eq_law20_shown  w K) h

/-- cellarage/cellaragelaw20.few -/
def B_law20_few (x0 : Value) (w : World) (K : Value → World → Prop) : Prop :=
  X Try.prog (Builtin.len_ #[157] 3 #[x0]) w fun v1_6 w1 =>
  loopS (fun Q1 ρ1 w2 =>
  X Try.prog (binOp .lss 3 (ρ1 7) (ρ1 6)) w2 fun v2_8 w3 =>
  condS v2_8 (
  X Try.prog (binOp .geq 3 (ρ1 7) (.int .i64 50)) w3 fun v3_11 w4 =>
  gstep v3_11 false (fun w5 K => K (ρ1 0) w5) w4 fun v4_13 w6 =>
  gstep v3_11 false (fun w7 K => K (ρ1 7) w7) w6 fun v5_14 w8 =>
  gstep v3_11 false (fun w9 K => X Try.prog (Instr.indexAt 157 v4_13 v5_14) w9 K) w8 fun v6_15 w10 =>
  gstep v3_11 false (fun w11 K => X Try.prog (Instr.fieldAt 159 v6_15 3) w11 K) w10 fun v7_16 w12 =>
  gstep v3_11 false (fun w13 K => X Try.prog (Instr.loadAt 27 v7_16) w13 K) w12 fun v8_17 w14 =>
  gstep v3_11 false (fun w15 K => X Try.prog (Builtin.len_ #[27] 3 #[v8_17]) w15 K) w14 fun v9_18 w16 =>
  gstep v3_11 false (fun w17 K => K (ρ1 3) w17) w16 fun v10_19 w18 =>
  gstep v3_11 false (fun w19 K => X Try.prog (binOp .gtr 3 v9_18 v10_19) w19 K) w18 fun v11_20 w20 =>
  X Try.prog (pickS v3_11 (.bool true) v11_20) w20 fun v12_21 w21 =>
  condS v12_21 (
  X Try.prog (Instr.sliceAt 157 (ρ1 0) none (some (ρ1 7)) none) w21 fun v13_24 w22 =>
  Q1 .ret (upds ρ1 [(2, v13_24), (24, v13_24), (23, (ρ1 7)), (22, (ρ1 0)), (21, v12_21), (20, v11_20), (19, v10_19), (18, v9_18), (17, v8_17), (16, v7_16), (15, v6_15), (14, v5_14), (13, v4_13), (12, v3_11), (11, v3_11), (10, (ρ1 7)), (4, (ρ1 7)), (9, (ρ1 7)), (8, v2_8)]) w22) (
  X Try.prog (Instr.indexAt 157 (ρ1 0) (ρ1 7)) w21 fun v14_28 w23 =>
  X Try.prog (Instr.fieldAt 159 v14_28 3) w23 fun v15_29 w24 =>
  X Try.prog (Instr.loadAt 27 v15_29) w24 fun v16_30 w25 =>
  X Try.prog (Builtin.len_ #[27] 3 #[v16_30]) w25 fun v17_31 w26 =>
  X Try.prog (binOp .sub 3 (ρ1 3) v17_31) w26 fun v18_32 w27 =>
  X Try.prog (binOp .add 3 (ρ1 7) (.int .i64 1)) w27 fun v19_33 w28 =>
  Q1 .normal (upds ρ1 [(7, v19_33), (33, v19_33), (3, v18_32), (32, v18_32), (31, v17_31), (30, v16_30), (29, v15_29), (28, v14_28), (27, (ρ1 7)), (26, (ρ1 0)), (25, (ρ1 3)), (21, v12_21), (20, v11_20), (19, v10_19), (18, v9_18), (17, v8_17), (16, v7_16), (15, v6_15), (14, v5_14), (13, v4_13), (12, v3_11), (11, v3_11), (10, (ρ1 7)), (4, (ρ1 7)), (9, (ρ1 7)), (8, v2_8)]) w28)) (
  Q1 (.exit 0) (upds ρ1 [(8, v2_8)]) w3)) (inBlockS 0 (thenS (fun ρ2 w29 =>
  K (ρ2 0) w29) (retS Try.prog (Try.f120).results K))) (upds (env0 #[x0]) [(7, (.int .i64 0)), (6, v1_6), (5, x0), (3, (.int .i64 20000)), (2, (.slice none 0 0))]) w1

theorem eq_law20_few (x0 : Value) (w : World) (K : Value → World → Prop) :
    sh Try.prog (Try.f120.body.getD .skip) (retS Try.prog Try.f120.results K) (env0 #[x0]) w = B_law20_few x0 w K := by kernel_rfl

theorem call_law20_few (x0 : Value) (w : World) (K : Value → World → Prop) (h : B_law20_few x0 w K) : CALL Try.prog 120 #[x0] w K :=
  call_of_eq (c := Try.f120.body.getD .skip) mixed Try.func120 (by kernel_rfl) (by kernel_rfl) (by kernel_rfl) (Nat.le_of_ble_eq_true (by kernel_rfl)) (eq_law20_few x0 w K) h

end Go.Proofs.Ytggggfcgnkllgaa
end
section
/- cellaragelaw20: acts, few, shown. -/
set_option linter.unusedVariables false
set_option linter.unusedSimpArgs false
namespace Go.Proofs.Ytggggfcgnkllgaa
open Go Go.Sh Go.RowKit Go.ChangeShapes Go.WideShapes Go.ChangeAt
attribute [local irreducible] X XU XP XR CALL loopS resC closS Value.okWide
theorem trc_act20 {H : Type} {enc : TypeId × Value → H} {W : World} {es : List Value} (h : TrC enc Try.prog W 159 es) : ∃ a : DAct, es = a.cs ∧ a.In W := by
  obtain ⟨x0, x1, x2, x3, x4, rfl, g0, g1, g2, g3, g4⟩ := trc_five Try.underlying159 (by kernel_rfl) rfl rfl rfl rfl rfl (by kernel_rfl) (by kernel_rfl) (by kernel_rfl) (by kernel_rfl) (by kernel_rfl) h
  obtain ⟨n0, e0, w0⟩ := TrC.int Try.underlying5 g0
  obtain ⟨n1, e1, w1⟩ := TrC.int Try.underlying3 g1
  obtain ⟨n2, e2, w2⟩ := TrC.int Try.underlying3 g2
  obtain ⟨bs, hbs⟩ := TrC.bytes Try.underlying27 Try.underlying5 (by kernel_rfl) g3
  obtain ⟨fates, hfs, _⟩ := TrC.row (f := fI) (Good := fun _ => True) Try.underlying79 (by kernel_rfl) (fun es hes => by
    obtain ⟨n, rfl, _⟩ := hes.int Try.underlying3
    exact ⟨n, rfl, trivial⟩) g4
  simp at e0 e1 e2
  subst e0; subst e1; subst e2
  simp [Lit.wf, IntKind.min, IntKind.max, IntKind.signed, IntKind.bits] at w0 w1 w2
  refine ⟨⟨n0.toNat, n1, n2, bs, fates, x3, x4⟩, ?_, by show n0.toNat < 256; omega, by show n2 ≤ _; omega, hbs, hfs⟩
  show _ = [Value.int .u8 ((n0.toNat : Nat) : Int), .int .i64 n1, .int .i64 n2, x3, x4]
  rw [Int.toNat_of_nonneg w0.1]
theorem arg_acts20 {H : Type} {enc : TypeId × Value → H} {W : World} {base : Nat} {v : Value} {d : DataW H} {p : List MemPlace}
    (ok : Value.okWide Try.prog W .any base 157 v) (h : DataW.Trod enc Try.prog W 0 (fun _ => true) true 157 v d p) : ∃ l : List DAct, RowK 5 DAct.cs W v l ∧ ∀ a ∈ l, a.In W := by
  obtain ⟨a, n, c, rfl⟩ := okWide_slice Try.underlying157 ok
  exact TrC.rowK Try.underlying157 (by kernel_rfl) (fun es hes => trc_act20 hes) (TrC.of h)
/-- An act is copied from its list. -/
theorem X_takeAct20 {w : World} {v : Value} {l : List DAct} {i : Nat} {K : Value → Value → Value → World → Prop} (hl : RowK 5 DAct.cs w v l) (hi : i < l.length) (ha : l[i].In w)
    (hK : ∀ v1 v2 q w1, Ext w w1 → w.heap.size ≤ q → w1.heap[q]? = some (.cells l[i].cs.toArray 159 (0, 0)) → K v1 v2 (ptr q) w1) :
    X Try.prog (Instr.indexAt 157 v (.int .i64 (i : Int))) w fun v1 w1 => X Try.prog (Instr.loadAt 159 v1) w1 fun v2 w2 => X Try.prog (Instr.alloc 159 true (.tuple #[])) w2 fun v3 w3 => XU Try.prog (Instr.storeAt 159 v3 v2) w3 fun w4 => K v1 v2 v3 w4 := by
  obtain ⟨ad, hix, hcs⟩ := hl.at Try.underlying157 info_159 sz_159 (kd := .i64) i rfl hi
  refine X_of (hix _) ?_
  refine X_of (load_cells Try.underlying159 agg_159 info_159 (l := l[i].cs) (by rw [sz_159]; rfl) hcs) ?_
  refine X_alloc zero_159 ?_
  have hq := newB_get w #[(.int .u8 0), (.int .i64 0), (.int .i64 0), (.slice none 0 0), (.slice none 0 0)] 159
  have hxq := newB_ext w #[(.int .u8 0), (.int .i64 0), (.int .i64 0), (.slice none 0 0), (.slice none 0 0)] 159
  show XU _ _ (newB w #[(.int .u8 0), (.int .i64 0), (.int .i64 0), (.slice none 0 0), (.slice none 0 0)] 159) _
  generalize newB w #[(.int .u8 0), (.int .i64 0), (.int .i64 0), (.slice none 0 0), (.slice none 0 0)] 159 = w2 at hq hxq ⊢
  refine XU_storeAgg info_159 hq (by rw [sz_159]; rfl) (by rw [sz_159]; rfl) (DAct.one ha) ?_
  exact hK _ _ _ _ (Ext.seq hxq (setAt_keep _ _ _ _ _) (fun j hj => by omega)) (Nat.le_refl _) (setAt_same (lt_of_blk hq))

section
variable {w : World} {K : Value → World → Prop}
/-- The first acts. -/
theorem few20_spec {l : List DAct} {v : Value} (hl : RowK 5 DAct.cs w v l) (hin : ∀ a ∈ l, a.In w) 
    (hK : ∀ m v1, m ≤ 50 → m ≤ l.length → (∀ W, RowK 5 DAct.cs W v l → RowK 5 DAct.cs W v1 (l.take m)) → (∀ a ∈ l.take m, a.bs.length ≤ 20000) → K v1 w) : CALL Try.prog 120 #[v] w K := by
  obtain ⟨a0, c0, e0⟩ := hl.slice
  have hn : l.length ≤ 9223372036854775807 := by
    obtain ⟨_, c, _, h1, h2, _⟩ := hl
    omega
  apply call_law20_few
  unfold B_law20_few
  rw [e0, X_len_157, ← e0]
  refine loopE (fun ρ wr => wr = w ∧ ∃ i left : Nat, i ≤ l.length ∧ i ≤ 50 ∧ left ≤ 20000 ∧ (∀ a ∈ l.take i, a.bs.length ≤ 20000) ∧ ρ 7 = .int .i64 (i : Nat) ∧ ρ 6 = .int .i64 (l.length : Nat) ∧ ρ 0 = v ∧ ρ 3 = .int .i64 (left : Nat))
    (fun ρ wr => match ρ 7 with | .int _ s => (l.length - s).toNat | _ => 0)
    (fun ρ wr => wr = w ∧ l.length ≤ 50 ∧ (∀ a ∈ l, a.bs.length ≤ 20000) ∧ ρ 0 = v) ?_ ?_ ?_
  · exact ⟨rfl, 0, 20000, by omega, by omega, by omega, by simp, rfl, rfl, rfl, rfl⟩
  · rintro J hJ ρ wr ⟨rfl, i, left, hi, hi50, hleft, hall, h7, h6, h0, h3⟩
    rw [h7, h6, X_lss, condS_bool]
    by_cases hin' : i = l.length
    · rw [if_neg (by simp; omega)]
      refine hJ _ _ ⟨rfl, by omega, ?_, h0⟩
      rw [hin', List.take_length] at hall
      exact hall
    rw [if_pos (by simp; omega)]
    have hlt : i < l.length := by omega
    have stop : Go.Sh.X Try.prog (Instr.sliceAt 157 v none (some (.int .i64 (i : Int))) none) wr fun v13 w22 => K v13 w22 := by
      obtain ⟨u, hu, hru⟩ := hl.cut Try.underlying157 info_159 (kh := .i64) (hj := (i : Int)) i rfl hi
      refine X_of (hu _) (hK i u hi50 hi (fun W hW => ?_) hall)
      obtain ⟨u', hu', hru'⟩ := hW.cut Try.underlying157 info_159 (kh := .i64) (hj := (i : Int)) i rfl hi
      have := (hu wr).symm.trans (hu' wr)
      injection this with this
      rw [this]
      exact hru'
    obtain ⟨ad, hix, hcs⟩ := hl.at Try.underlying157 info_159 sz_159 (kd := .i64) i rfl hlt
    have hini := hin _ (List.getElem_mem hlt)
    obtain ⟨ab, cb, eb⟩ := Bts.slice hini.bts
    have hfield : (Instr.fieldAt 159 (.pointer (some ad)) 3).run Try.prog wr = .ok (.pointer (some (ad.add 3))) wr := by kernel_rfl
    have hld : (Instr.loadAt 27 (.pointer (some (ad.add 3)))).run Try.prog wr = .ok l[i].bv wr := run_loadAt agg_27 (hcs 3 _ rfl)
    rw [h0, h3]
    rw [X_geq]
    by_cases h50 : i = 50
    · have e1 : decide ((i : Int) ≥ 50) = true := by simp; omega
      simp only [e1, GS]
      exact stop
    have e1 : decide ((i : Int) ≥ 50) = false := by simp; omega
    simp only [e1, GS]
    refine X_of (hix _) ?_
    refine X_of hfield ?_
    refine X_of hld ?_
    rw [eb]
    simp only [X_len_27, X_gtr, GS]
    rw [condS_bool]
    by_cases hbig : left < l[i].bs.length
    · rw [if_pos (by simp; omega)]
      exact stop
    rw [if_neg (by simp; omega)]
    refine X_of (hix _) ?_
    refine X_of hfield ?_
    refine X_of hld ?_
    rw [eb]
    simp only [X_len_27, X_sub, X_add]
    show _ ∧ _
    refine ⟨⟨rfl, i + 1, left - l[i].bs.length, by omega, by omega, by omega, ?_, next64 (n := 50) (by decide) (by omega), h6, h0, ?_⟩, ?_⟩
    · intro a ha
      rw [List.take_succ_eq_append_getElem hlt] at ha
      rcases List.mem_append.1 ha with ha | ha
      · exact hall a ha
      · rw [List.mem_singleton.1 ha]; omega
    · show Value.int .i64 (IntKind.i64.wrap ((left : Int) - (l[i].bs.length : Int))) = _
      have e : (left : Int) - (l[i].bs.length : Int) = ((left - l[i].bs.length : Nat) : Int) := by omega
      rw [w64 (by omega) (by omega), e]
    · show (_ - IntKind.i64.wrap _).toNat < _
      rw [w64 (by omega) (by omega)]
      first | omega | (show _ < (_ : Int).toNat; omega)
  · rintro ρ wr ⟨rfl, h50, hall, h0⟩
    rw [h0]
    exact hK l.length v h50 (Nat.le_refl _) (fun W hW => by rw [List.take_length]; exact hW) (by rw [List.take_length]; exact hall)

end
end Go.Proofs.Ytggggfcgnkllgaa
end
section
/- Structs and arrays compared; arrays read from wherever they lie. -/
set_option linter.unusedSimpArgs false
set_option linter.unusedVariables false
namespace Go.Sh
open Go Go.RowKit
section
variable {P : Program}

theorem guard_eql {t : TypeId} (hg : P.eqGuardType P.depth t = false) (a b : Operand) (xs ys : Array Value) (w : World) : (eqGuard .eql t a b (.agg xs) (.agg ys)).run P w = .ok () w := by
  simp [eqGuard, hg]
theorem guard_neq {t : TypeId} (hg : P.eqGuardType P.depth t = false) (a b : Operand) (xs ys : Array Value) (w : World) : (eqGuard .neq t a b (.agg xs) (.agg ys)).run P w = .ok () w := by
  simp [eqGuard, hg]
theorem agg_eql {t : TypeId} (hg : P.eqGuardType P.depth t = false) (a b : Operand) {xs ys : Array Value} {w : World} {r : Bool} (h : (Op.equalIn 10000 t (.agg xs) (.agg ys)).run P w = .ok r w) : (binOpG .eql t a b (.agg xs) (.agg ys)).run P w = .ok (.bool r) w := by
  unfold binOpG
  simp only [Sem.run_bind, guard_eql hg, Result.andThen_ok, run_eql_struct, h]
theorem agg_neq {t : TypeId} (hg : P.eqGuardType P.depth t = false) (a b : Operand) {xs ys : Array Value} {w : World} {r : Bool} (h : (Op.equalIn 10000 t (.agg xs) (.agg ys)).run P w = .ok r w) : (binOpG .neq t a b (.agg xs) (.agg ys)).run P w = .ok (.bool (!r)) w := by
  unfold binOpG
  simp only [Sem.run_bind, guard_neq hg, Result.andThen_ok, run_neq_struct, h]

theorem part_cell {e : TypeId} (ha : aggB P e = false) {cs : Array Value} {i : Nat} {v : Value} (h : cs[i]? = some v) (w : World) : (part e cs i).run P w = .ok v w := by
  simp [part, isAgg_run ha, h]
theorem eqItems_bytes (d : Nat) {e : TypeId} (he : P.underlying e = some (.int .u8)) (ha : aggB P e = false) (xs ys : List UInt8) (hl : xs.length = ys.length) (w : World) :
    ∀ (m k : Nat), k + m = xs.length → (Op.eqItems (d + 1) e 1 (B8 xs).toArray (B8 ys).toArray (List.range' k m)).run P w = .ok (decide (xs.drop k = ys.drop k)) w
  | 0, k, h => by
    have h1 : xs.drop k = [] := List.drop_eq_nil_of_le (by omega)
    have h2 : ys.drop k = [] := List.drop_eq_nil_of_le (by omega)
    simp [Op.eqItems, h1, h2]
  | m + 1, k, h => by
    have hx : k < xs.length := by omega
    have hy : k < ys.length := by omega
    have e1 : (B8 xs).toArray[k * 1]? = some (.int .u8 (xs[k].toNat : Int)) := by simp [B8_getElem?, List.getElem?_eq_getElem hx]
    have e2 : (B8 ys).toArray[k * 1]? = some (.int .u8 (ys[k].toNat : Int)) := by simp [B8_getElem?, List.getElem?_eq_getElem hy]
    rw [List.range'_succ]
    simp only [Op.eqItems, Sem.run_bind, part_cell ha e1, part_cell ha e2, Result.andThen_ok, run_equalIn_int w d e .u8 .u8 _ _ he]
    have hdx := List.drop_eq_getElem_cons hx
    have hdy := List.drop_eq_getElem_cons hy
    by_cases hxy : xs[k] = ys[k]
    · have : ((xs[k].toNat : Int) == (ys[k].toNat : Int)) = true := by simp [hxy]
      rw [this]
      simp only [Bool.not_true, Bool.false_eq_true, if_false]
      rw [eqItems_bytes d he ha xs ys hl w m (k + 1) (by omega)]
      have hi : (xs.drop k = ys.drop k) ↔ (xs.drop (k + 1) = ys.drop (k + 1)) := by
        rw [hdx, hdy, hxy]
        constructor
        · intro h; injection h
        · intro h; rw [h]
      rw [decide_eq_decide.2 hi]
    · have : ((xs[k].toNat : Int) == (ys[k].toNat : Int)) = false := by
        simp only [beq_eq_false_iff_ne, ne_eq]
        intro h
        exact hxy (UInt8.toNat_inj.1 (by omega))
      rw [this]
      have hi : ¬ (xs.drop k = ys.drop k) := by
        rw [hdx, hdy]
        intro h
        injection h with h _
        exact hxy h
      simp only [Bool.not_false, if_true, Sem.run_pure, hi, decide_false]
/-- Two arrays of bytes are the same. -/
theorem arr_equal {t e n : Nat} (hu : P.underlying t = some (.array n e)) (he : P.underlying e = some (.int .u8)) (ha : aggB P e = false) {i : TypeInfo} (hi : P.info? e = some i) (hc : P.cellsOf e = 1) (xs ys : List UInt8) (hx : xs.length = n) (hy : ys.length = n) (w : World) :
    (Op.equalIn 10000 t (.agg (B8 xs).toArray) (.agg (B8 ys).toArray)).run P w = .ok (decide (xs = ys)) w := by
  rw [show (10000 : Nat) = 9999 + 1 from rfl, run_equalIn_array w 9999 _ _ hu hi, hc, List.range_eq_range']
  have := eqItems_bytes (P := P) 9998 he ha xs ys (by omega) w n 0 (by omega)
  simpa using this
/-- An array of bytes, read through a slice's own address. -/
theorem run_loadBytes {t : TypeId} {d : TypeDesc} (hu : P.underlying t = some d) (ha : aggB P t = true) (hi : infoB P t = true) {a : Addr} {l : List UInt8} {w : World} (hn : l.length = szT P t)
    (hc : ∀ j u, l[j]? = some u → w.cell? (a.add j) = some (.int .u8 (u.toNat : Int))) : (Instr.loadAt t (.pointer (some a))).run P w = .ok (.agg (B8 l).toArray) w := by
  have hload : (loadCells a (B8 l).length).run P w = .ok (B8 l).toArray w := by
    refine run_loadCells_list w _ (B8 l) fun j v hj => ?_
    rw [B8_getElem?] at hj
    obtain ⟨u, hu, rfl⟩ := Option.map_eq_some_iff.1 hj
    exact hc j u hu
  rw [B8_length, hn] at hload
  simp [Instr.loadAt, Instr.sureAddr, loadVar, isAgg_run' hu ha, sizeOf_run hi, hload]
end
end Go.Sh
end
section
set_option linter.unusedVariables false
namespace Go.Proofs.Ytggggfcgnkllgaa
open Go Go.Sh
attribute [local irreducible] X XU XP XR CALL loopS resC closS
/-- cellarage/slot.lay -/
def B_slot_lay (x0 : Value) (w : World) (K : Value → World → Prop) : Prop :=
  X Try.prog (Instr.box 25 x0) w fun v1_1 w1 =>
  X Try.prog (Instr.alloc 169 true (.tuple #[])) w1 fun v2_2 w2 =>
  X Try.prog (Instr.alloc 169 true (.tuple #[])) w2 fun v3_3 w3 =>
  ∃ R, Frame? R ∧
  XP Try.prog (Instr.fieldAt 25 v1_1 0) (drewW w3) fun v4_5 w4 =>
  XR Try.prog R (Instr.loadAt 22 v4_5) w4 fun v5_6 w5 =>
  XP Try.prog (Instr.fieldAt 25 v1_1 1) w5 fun v6_8 w6 =>
  XR Try.prog R (Instr.loadAt 5 v6_8) w6 fun v7_9 w7 =>
  XR Try.prog R (convert 5 22 v7_9) w7 fun v8_10 w8 =>
  XP Try.prog (Instr.fieldAt 25 v1_1 2) w8 fun v9_12 w9 =>
  XR Try.prog R (Instr.loadAt 23 v9_12) w9 fun v10_13 w10 =>
  XR Try.prog R (convert 23 22 v10_13) w10 fun v11_14 w11 =>
  XP Try.prog (Instr.fieldAt 25 v1_1 3) w11 fun v12_16 w12 =>
  XR Try.prog R (Instr.loadAt 23 v12_16) w12 fun v13_17 w13 =>
  XR Try.prog R (convert 23 22 v13_17) w13 fun v14_18 w14 =>
  CALL Try.prog 46 #[(.slice none 0 0), v5_6, (.int .i64 8)] w14 fun v15_7 w15 =>
  R w14 w15 ∧
  CALL Try.prog 46 #[v15_7, v8_10, (.int .i64 1)] w15 fun v16_11 w16 =>
  R w15 w16 ∧
  CALL Try.prog 46 #[v16_11, v11_14, (.int .i64 4)] w16 fun v17_15 w17 =>
  R w16 w17 ∧
  CALL Try.prog 46 #[v17_15, v14_18, (.int .i64 4)] w17 fun v18_19 w18 =>
  R w17 w18 ∧
  X Try.prog (Instr.sliceAt 169 v3_3 none none none) w18 fun v19_20 w19 =>
  X Try.prog (Builtin.copy_ #[27, 27] 3 #[v19_20, v18_19]) w19 fun v20_22 w20 =>
  ∃ R, Frame? R ∧
  XP Try.prog (Instr.sliceAt 169 v3_3 (some (.int .i64 120)) none none) (drewW w20) fun v21_23 w21 =>
  XP Try.prog (Instr.sliceAt 27 v18_19 none (some (.int .i64 8)) none) w21 fun v22_25 w22 =>
  X Try.prog (Builtin.copy_ #[27, 27] 3 #[v21_23, v22_25]) w22 fun v23_26 w23 =>
  X Try.prog (Instr.loadAt 169 v3_3) w23 fun v24_27 w24 =>
  XU Try.prog (Instr.storeAt 169 v2_2 v24_27) w24 fun w25 =>
  resC Try.prog 169 v2_2 w25 fun r0 =>
  K r0 w25

theorem eq_slot_lay (x0 : Value) (w : World) (K : Value → World → Prop) :
    sh Try.prog (Try.f124.body.getD .skip) (retS Try.prog Try.f124.results K) (env0 #[x0]) w = B_slot_lay x0 w K := by kernel_rfl

theorem call_slot_lay (x0 : Value) (w : World) (K : Value → World → Prop) (h : B_slot_lay x0 w K) : CALL Try.prog 124 #[x0] w K :=
  call_of_eq (c := Try.f124.body.getD .skip) mixed Try.func124 (by kernel_rfl) (by kernel_rfl) (by kernel_rfl) (Nat.le_of_ble_eq_true (by kernel_rfl)) (eq_slot_lay x0 w K) h

/-- cellarage/slot.Lay -/
def B_slot_Lay (x0 : Value) (w : World) (K : Value → World → Prop) : Prop :=
  X Try.prog (Instr.box 25 x0) w fun v1_1 w1 =>
  X Try.prog (Instr.loadAt 25 v1_1) w1 fun v2_4 w2 =>
  CALL Try.prog 124 #[v2_4] w2 fun v3_5 w3 =>
  X Try.prog (Instr.alloc 169 true (.tuple #[])) w3 fun v4_3 w4 =>
  XU Try.prog (Instr.storeAt 169 v4_3 v3_5) w4 fun w5 =>
  X Try.prog (Instr.sliceAt 169 v4_3 none none none) w5 fun v5_6 w6 =>
  K v5_6 w6

theorem eq_slot_Lay (x0 : Value) (w : World) (K : Value → World → Prop) :
    sh Try.prog (Try.f42.body.getD .skip) (retS Try.prog Try.f42.results K) (env0 #[x0]) w = B_slot_Lay x0 w K := by kernel_rfl

theorem call_slot_Lay (x0 : Value) (w : World) (K : Value → World → Prop) (h : B_slot_Lay x0 w K) : CALL Try.prog 42 #[x0] w K :=
  call_of_eq (c := Try.f42.body.getD .skip) mixed Try.func42 (by kernel_rfl) (by kernel_rfl) (by kernel_rfl) (Nat.le_of_ble_eq_true (by kernel_rfl)) (eq_slot_Lay x0 w K) h

/-- cellarage/slot.Take -/
def B_slot_Take (x0 : Value) (w : World) (K : Value → World → Prop) : Prop :=
  X Try.prog (Instr.alloc 25 true (.tuple #[])) w fun v1_2 w1 =>
  X Try.prog (Builtin.len_ #[27] 3 #[x0]) w1 fun v2_11 w2 =>
  X Try.prog (binOpG .neq 3 (.tmp 11) (.const (.int .i64 128)) v2_11 (.int .i64 128)) w2 fun v3_12 w3 =>
  condS v3_12 (
  X Try.prog (Instr.build 25 #[]) w3 fun v4_13 w4 =>
  XU Try.prog (Instr.storeAt 25 v1_2 v4_13) w4 fun w5 =>
  resC Try.prog 25 v1_2 w5 fun r0 =>
  K (.tuple #[r0, (.int .i64 100)]) w5) (
  CALL Try.prog 58 #[x0] w3 fun v5_15 w6 =>
  CALL Try.prog 61 #[v5_15, (.int .i64 8)] w6 fun v6_17 w7 =>
  CALL Try.prog 61 #[v5_15, (.int .i64 1)] w7 fun v7_19 w8 =>
  CALL Try.prog 61 #[v5_15, (.int .i64 4)] w8 fun v8_21 w9 =>
  CALL Try.prog 61 #[v5_15, (.int .i64 4)] w9 fun v9_23 w10 =>
  X Try.prog (convert 22 5 v7_19) w10 fun v10_26 w11 =>
  X Try.prog (convert 22 23 v8_21) w11 fun v11_28 w12 =>
  X Try.prog (convert 22 23 v9_23) w12 fun v12_30 w13 =>
  X Try.prog (Instr.build 25 #[(0, v6_17), (1, v10_26), (2, v11_28), (3, v12_30)]) w13 fun v13_31 w14 =>
  X Try.prog (Instr.alloc 25 true (.tuple #[])) w14 fun v14_9 w15 =>
  XU Try.prog (Instr.storeAt 25 v14_9 v13_31) w15 fun w16 =>
  ∃ R, Frame? R ∧
  XP Try.prog (binOpG .eql 22 (.tmp 32) (.const (.int .u64 0)) v6_17 (.int .u64 0)) (drewW w16) fun v15_33 w17 =>
  gstep v15_33 false (fun w18 K => XR Try.prog R (Instr.loadAt 25 v14_9) w18 K) w17 fun v16_35 w19 =>
  gstep v15_33 false (fun w20 K => K x0 w20) w19 fun v17_37 w21 =>
  gstep v15_33 false (fun w22 K => XP Try.prog (Instr.arrayAt 169 v17_37) w22 K) w21 fun v18_38 w23 =>
  gstep v15_33 false (fun w24 K => XR Try.prog R (Instr.loadAt 169 v18_38) w24 K) w23 fun v19_39 w25 =>
  gstep v15_33 false (fun w26 K => CALL Try.prog 124 #[v16_35] w26 K) w25 fun v20_36 w27 =>
  R w25 w27 ∧
  gstep v15_33 false (fun w28 K => XP Try.prog (binOpG .neq 169 (.tmp 36) (.tmp 39) v20_36 v19_39) w28 K) w27 fun v21_40 w29 =>
  XP Try.prog (pickS v15_33 (.bool true) v21_40) w29 fun v22_41 w30 =>
  condS v22_41 (
  X Try.prog (Instr.build 25 #[]) w30 fun v23_42 w31 =>
  XU Try.prog (Instr.storeAt 25 v1_2 v23_42) w31 fun w32 =>
  resC Try.prog 25 v1_2 w32 fun r0 =>
  K (.tuple #[r0, (.int .i64 100)]) w32) (
  X Try.prog (Instr.loadAt 25 v14_9) w30 fun v24_43 w33 =>
  XU Try.prog (Instr.storeAt 25 v1_2 v24_43) w33 fun w34 =>
  resC Try.prog 25 v1_2 w34 fun r0 =>
  K (.tuple #[r0, (.int .i64 0)]) w34))

theorem eq_slot_Take (x0 : Value) (w : World) (K : Value → World → Prop) :
    sh Try.prog (Try.f44.body.getD .skip) (retS Try.prog Try.f44.results K) (env0 #[x0]) w = B_slot_Take x0 w K := by kernel_rfl

theorem call_slot_Take (x0 : Value) (w : World) (K : Value → World → Prop) (h : B_slot_Take x0 w K) : CALL Try.prog 44 #[x0] w K :=
  call_of_eq (c := Try.f44.body.getD .skip) mixed Try.func44 (by kernel_rfl) (by kernel_rfl) (by kernel_rfl) (Nat.le_of_ble_eq_true (by kernel_rfl)) (eq_slot_Take x0 w K) h

/-- cellarage/slot.Newer -/
def B_slot_Newer (x0 x1 : Value) (w : World) (K : Value → World → Prop) : Prop :=
  X Try.prog (Instr.alloc 25 true (.tuple #[])) w fun v1_4 w1 =>
  X Try.prog (Instr.alloc 25 true (.tuple #[])) w1 fun v2_7 w2 =>
  X Try.prog (Instr.buildSlice 70 2 #[(0, x0), (1, x1)]) w2 fun v3_15 w3 =>
  X Try.prog (Builtin.len_ #[70] 3 #[v3_15]) w3 fun v4_16 w4 =>
  loopS (fun Q1 ρ1 w5 =>
  X Try.prog (binOp .lss 3 (ρ1 17) (ρ1 16)) w5 fun v5_18 w6 =>
  condS v5_18 (
  joinS (fun ρ2 w7 =>
  X Try.prog (binOp .add 3 (ρ2 17) (.int .i64 1)) w7 fun v6_38 w8 =>
  Q1 .normal (upds ρ2 [(17, v6_38), (38, v6_38)]) w8) fun J2 =>
  X Try.prog (Instr.indexAt 70 (ρ1 15) (ρ1 17)) w6 fun v7_20 w9 =>
  X Try.prog (Instr.loadAt 27 v7_20) w9 fun v8_21 w10 =>
  CALL Try.prog 44 #[v8_21] w10 fun v9_24 w11 =>
  X Try.prog (Instr.extract v9_24 0) w11 fun v10_25 w12 =>
  X Try.prog (Instr.extract v9_24 1) w12 fun v11_26 w13 =>
  X Try.prog (Instr.alloc 25 true (.tuple #[])) w13 fun v12_11 w14 =>
  XU Try.prog (Instr.storeAt 25 v12_11 v10_25) w14 fun w15 =>
  X Try.prog (binOpG .eql 30 (.tmp 27) (.const (.int .i64 0)) v11_26 (.int .i64 0)) w15 fun v13_28 w16 =>
  gstep v13_28 true (fun w17 K => X Try.prog (Instr.fieldAt 25 v12_11 0) w17 K) w16 fun v14_30 w18 =>
  gstep v13_28 true (fun w19 K => X Try.prog (Instr.loadAt 22 v14_30) w19 K) w18 fun v15_31 w20 =>
  gstep v13_28 true (fun w21 K => X Try.prog (Instr.fieldAt 25 (ρ1 7) 0) w21 K) w20 fun v16_32 w22 =>
  gstep v13_28 true (fun w23 K => X Try.prog (Instr.loadAt 22 v16_32) w23 K) w22 fun v17_33 w24 =>
  gstep v13_28 true (fun w25 K => X Try.prog (binOp .gtr 22 v15_31 v17_33) w25 K) w24 fun v18_34 w26 =>
  X Try.prog (pickS v13_28 v18_34 (.bool false)) w26 fun v19_35 w27 =>
  condS v19_35 (
  X Try.prog (Instr.loadAt 25 v12_11) w27 fun v20_36 w28 =>
  XU Try.prog (Instr.storeAt 25 (ρ1 7) v20_36) w28 fun w29 =>
  J2 (upds ρ1 [(8, (ρ1 17)), (37, (ρ1 17)), (36, v20_36), (35, v19_35), (34, v18_34), (33, v17_33), (32, v16_32), (31, v15_31), (30, v14_30), (29, v13_28), (28, v13_28), (27, v11_26), (12, v11_26), (11, v12_11), (26, v11_26), (25, v10_25), (22, v9_24), (24, v9_24), (23, v8_21), (10, v8_21), (9, (ρ1 17)), (21, v8_21), (20, v7_20), (19, (ρ1 17)), (18, v5_18)]) w29) (
  J2 (upds ρ1 [(35, v19_35), (34, v18_34), (33, v17_33), (32, v16_32), (31, v15_31), (30, v14_30), (29, v13_28), (28, v13_28), (27, v11_26), (12, v11_26), (11, v12_11), (26, v11_26), (25, v10_25), (22, v9_24), (24, v9_24), (23, v8_21), (10, v8_21), (9, (ρ1 17)), (21, v8_21), (20, v7_20), (19, (ρ1 17)), (18, v5_18)]) w27)) (
  Q1 (.exit 0) (upds ρ1 [(18, v5_18)]) w6)) (inBlockS 0 (thenS (fun ρ3 w30 =>
  X Try.prog (Instr.fieldAt 25 (ρ3 7) 0) w30 fun v21_39 w31 =>
  X Try.prog (Instr.loadAt 22 v21_39) w31 fun v22_40 w32 =>
  X Try.prog (binOpG .eql 22 (.tmp 40) (.const (.int .u64 0)) v22_40 (.int .u64 0)) w32 fun v23_41 w33 =>
  condS v23_41 (
  X Try.prog (Instr.build 25 #[]) w33 fun v24_42 w34 =>
  XU Try.prog (Instr.storeAt 25 (ρ3 4) v24_42) w34 fun w35 =>
  resC Try.prog 25 (ρ3 4) w35 fun r0 =>
  K (.tuple #[r0, (.int .i64 0), (.int .i64 100)]) w35) (
  X Try.prog (Instr.loadAt 25 (ρ3 7)) w33 fun v25_43 w36 =>
  XU Try.prog (Instr.storeAt 25 (ρ3 4) v25_43) w36 fun w37 =>
  resC Try.prog 25 (ρ3 4) w37 fun r0 =>
  K (.tuple #[r0, (ρ3 8), (.int .i64 0)]) w37)) (retS Try.prog (Try.f48).results K))) (upds (env0 #[x0, x1]) [(17, (.int .i64 0)), (16, v4_16), (15, v3_15), (14, x1), (13, x0), (8, (.int .i64 0)), (7, v2_7), (6, (.int .i64 0)), (5, (.int .i64 0)), (4, v1_4)]) w4

theorem eq_slot_Newer (x0 x1 : Value) (w : World) (K : Value → World → Prop) :
    sh Try.prog (Try.f48.body.getD .skip) (retS Try.prog Try.f48.results K) (env0 #[x0, x1]) w = B_slot_Newer x0 x1 w K := by kernel_rfl

theorem call_slot_Newer (x0 x1 : Value) (w : World) (K : Value → World → Prop) (h : B_slot_Newer x0 x1 w K) : CALL Try.prog 48 #[x0, x1] w K :=
  call_of_eq (c := Try.f48.body.getD .skip) mixed Try.func48 (by kernel_rfl) (by kernel_rfl) (by kernel_rfl) (Nat.le_of_ble_eq_true (by kernel_rfl)) (eq_slot_Newer x0 x1 w K) h

/-- cellarage/cellarageref10.Lay -/
def B_ref10_Lay (x0 : Value) (w : World) (K : Value → World → Prop) : Prop :=
  X Try.prog (Instr.box 25 x0) w fun v1_1 w1 =>
  X Try.prog (Instr.fieldAt 25 v1_1 0) w1 fun v2_4 w2 =>
  X Try.prog (Instr.loadAt 22 v2_4) w2 fun v3_5 w3 =>
  CALL Try.prog 125 #[v3_5, (.int .i64 8)] w3 fun v4_6 w4 =>
  X Try.prog (Instr.fieldAt 25 v1_1 1) w4 fun v5_8 w5 =>
  X Try.prog (Instr.loadAt 5 v5_8) w5 fun v6_9 w6 =>
  X Try.prog (Instr.buildSlice 27 1 #[(0, v6_9)]) w6 fun v7_10 w7 =>
  X Try.prog (Builtin.append_ #[27, 27] 27 #[v4_6, v7_10]) w7 fun v8_11 w8 =>
  X Try.prog (Instr.fieldAt 25 v1_1 2) w8 fun v9_13 w9 =>
  X Try.prog (Instr.loadAt 23 v9_13) w9 fun v10_14 w10 =>
  X Try.prog (convert 23 22 v10_14) w10 fun v11_15 w11 =>
  CALL Try.prog 125 #[v11_15, (.int .i64 4)] w11 fun v12_16 w12 =>
  X Try.prog (Builtin.append_ #[27, 27] 27 #[v8_11, v12_16]) w12 fun v13_17 w13 =>
  X Try.prog (Instr.fieldAt 25 v1_1 3) w13 fun v14_19 w14 =>
  X Try.prog (Instr.loadAt 23 v14_19) w14 fun v15_20 w15 =>
  X Try.prog (convert 23 22 v15_20) w15 fun v16_21 w16 =>
  CALL Try.prog 125 #[v16_21, (.int .i64 4)] w16 fun v17_22 w17 =>
  X Try.prog (Builtin.append_ #[27, 27] 27 #[v13_17, v17_22]) w17 fun v18_23 w18 =>
  loopS (fun Q1 ρ1 w19 =>
  X Try.prog (Builtin.len_ #[27] 3 #[(ρ1 3)]) w19 fun v19_25 w20 =>
  X Try.prog (binOp .lss 3 v19_25 (.int .i64 120)) w20 fun v20_26 w21 =>
  condS v20_26 (
  X Try.prog (Instr.buildSlice 27 1 #[(0, (.int .u8 0))]) w21 fun v21_28 w22 =>
  X Try.prog (Builtin.append_ #[27, 27] 27 #[(ρ1 3), v21_28]) w22 fun v22_29 w23 =>
  Q1 .normal (upds ρ1 [(3, v22_29), (29, v22_29), (28, v21_28), (27, (ρ1 3)), (26, v20_26), (25, v19_25), (24, (ρ1 3))]) w23) (
  Q1 (.exit 0) (upds ρ1 [(26, v20_26), (25, v19_25), (24, (ρ1 3))]) w21)) (inBlockS 0 (thenS (fun ρ2 w24 =>
  X Try.prog (Instr.fieldAt 25 (ρ2 1) 0) w24 fun v23_31 w25 =>
  X Try.prog (Instr.loadAt 22 v23_31) w25 fun v24_32 w26 =>
  CALL Try.prog 125 #[v24_32, (.int .i64 8)] w26 fun v25_33 w27 =>
  X Try.prog (Builtin.append_ #[27, 27] 27 #[(ρ2 3), v25_33]) w27 fun v26_34 w28 =>
  K v26_34 w28) (retS Try.prog (Try.f43).results K))) (upds (env0 #[x0]) [(3, v18_23), (23, v18_23), (22, v17_22), (21, v16_21), (20, v15_20), (19, v14_19), (18, v13_17), (3, v13_17), (17, v13_17), (16, v12_16), (15, v11_15), (14, v10_14), (13, v9_13), (12, v8_11), (3, v8_11), (11, v8_11), (10, v7_10), (9, v6_9), (8, v5_8), (7, v4_6), (3, v4_6), (6, v4_6), (5, v3_5), (4, v2_4), (2, (.slice none 0 0)), (1, v1_1)]) w18

theorem eq_ref10_Lay (x0 : Value) (w : World) (K : Value → World → Prop) :
    sh Try.prog (Try.f43.body.getD .skip) (retS Try.prog Try.f43.results K) (env0 #[x0]) w = B_ref10_Lay x0 w K := by kernel_rfl

theorem call_ref10_Lay (x0 : Value) (w : World) (K : Value → World → Prop) (h : B_ref10_Lay x0 w K) : CALL Try.prog 43 #[x0] w K :=
  call_of_eq (c := Try.f43.body.getD .skip) mixed Try.func43 (by kernel_rfl) (by kernel_rfl) (by kernel_rfl) (Nat.le_of_ble_eq_true (by kernel_rfl)) (eq_ref10_Lay x0 w K) h

/-- cellarage/cellarageref10.Take -/
def B_ref10_Take (x0 : Value) (w : World) (K : Value → World → Prop) : Prop :=
  X Try.prog (Instr.alloc 25 true (.tuple #[])) w fun v1_2 w1 =>
  X Try.prog (Instr.build 57 #[(0, x0)]) w1 fun v2_7 w2 =>
  X Try.prog (Instr.alloc 57 true (.tuple #[])) w2 fun v3_4 w3 =>
  XU Try.prog (Instr.storeAt 57 v3_4 v2_7) w3 fun w4 =>
  CALL Try.prog 62 #[v3_4, (.int .i64 8)] w4 fun v4_8 w5 =>
  X Try.prog (Instr.build 25 #[(0, v4_8)]) w5 fun v5_9 w6 =>
  X Try.prog (Instr.alloc 25 true (.tuple #[])) w6 fun v6_5 w7 =>
  XU Try.prog (Instr.storeAt 25 v6_5 v5_9) w7 fun w8 =>
  CALL Try.prog 62 #[v3_4, (.int .i64 1)] w8 fun v7_10 w9 =>
  X Try.prog (convert 22 5 v7_10) w9 fun v8_11 w10 =>
  X Try.prog (Instr.fieldAt 25 v6_5 1) w10 fun v9_12 w11 =>
  XU Try.prog (Instr.storeAt 5 v9_12 v8_11) w11 fun w12 =>
  CALL Try.prog 62 #[v3_4, (.int .i64 4)] w12 fun v10_13 w13 =>
  X Try.prog (convert 22 23 v10_13) w13 fun v11_14 w14 =>
  X Try.prog (Instr.fieldAt 25 v6_5 2) w14 fun v12_15 w15 =>
  XU Try.prog (Instr.storeAt 23 v12_15 v11_14) w15 fun w16 =>
  CALL Try.prog 62 #[v3_4, (.int .i64 4)] w16 fun v13_16 w17 =>
  X Try.prog (convert 22 23 v13_16) w17 fun v14_17 w18 =>
  X Try.prog (Instr.fieldAt 25 v6_5 3) w18 fun v15_18 w19 =>
  XU Try.prog (Instr.storeAt 23 v15_18 v14_17) w19 fun w20 =>
  ∃ R, Frame? R ∧
  XP Try.prog (Instr.fieldAt 25 v6_5 0) (drewW w20) fun v16_19 w21 =>
  XR Try.prog R (Instr.loadAt 22 v16_19) w21 fun v17_20 w22 =>
  XP Try.prog (binOpG .eql 22 (.tmp 20) (.const (.int .u64 0)) v17_20 (.int .u64 0)) w22 fun v18_21 w23 =>
  gstep v18_21 false (fun w24 K => XR Try.prog R (Instr.loadAt 25 v6_5) w24 K) w23 fun v19_23 w25 =>
  gstep v18_21 false (fun w26 K => K x0 w26) w25 fun v20_26 w27 =>
  gstep v18_21 false (fun w28 K => XR Try.prog R (convert 27 9 v20_26) w28 K) w27 fun v21_27 w29 =>
  gstep v18_21 false (fun w30 K => CALL Try.prog 43 #[v19_23] w30 K) w29 fun v22_24 w31 =>
  R w29 w31 ∧
  gstep v18_21 false (fun w32 K => XR Try.prog R (convert 27 9 v22_24) w32 K) w31 fun v23_25 w33 =>
  gstep v18_21 false (fun w34 K => XP Try.prog (binOpG .neq 9 (.tmp 25) (.tmp 27) v23_25 v21_27) w34 K) w33 fun v24_28 w35 =>
  XP Try.prog (pickS v18_21 (.bool true) v24_28) w35 fun v25_29 w36 =>
  condS v25_29 (
  X Try.prog (Instr.build 25 #[]) w36 fun v26_30 w37 =>
  XU Try.prog (Instr.storeAt 25 v1_2 v26_30) w37 fun w38 =>
  resC Try.prog 25 v1_2 w38 fun r0 =>
  K (.tuple #[r0, (.int .i64 100)]) w38) (
  X Try.prog (Instr.loadAt 25 v6_5) w36 fun v27_31 w39 =>
  XU Try.prog (Instr.storeAt 25 v1_2 v27_31) w39 fun w40 =>
  resC Try.prog 25 v1_2 w40 fun r0 =>
  K (.tuple #[r0, (.int .i64 0)]) w40)

theorem eq_ref10_Take (x0 : Value) (w : World) (K : Value → World → Prop) :
    sh Try.prog (Try.f45.body.getD .skip) (retS Try.prog Try.f45.results K) (env0 #[x0]) w = B_ref10_Take x0 w K := by kernel_rfl

theorem call_ref10_Take (x0 : Value) (w : World) (K : Value → World → Prop) (h : B_ref10_Take x0 w K) : CALL Try.prog 45 #[x0] w K :=
  call_of_eq (c := Try.f45.body.getD .skip) mixed Try.func45 (by kernel_rfl) (by kernel_rfl) (by kernel_rfl) (Nat.le_of_ble_eq_true (by kernel_rfl)) (eq_ref10_Take x0 w K) h

/-- cellarage/cellarageref10.Newer -/
def B_ref10_Newer (x0 x1 : Value) (w : World) (K : Value → World → Prop) : Prop :=
  X Try.prog (Instr.alloc 25 true (.tuple #[])) w fun v1_4 w1 =>
  CALL Try.prog 45 #[x0] w1 fun v2_13 w2 =>
  X Try.prog (Instr.extract v2_13 0) w2 fun v3_14 w3 =>
  X Try.prog (Instr.extract v2_13 1) w3 fun v4_15 w4 =>
  X Try.prog (Instr.alloc 25 true (.tuple #[])) w4 fun v5_7 w5 =>
  XU Try.prog (Instr.storeAt 25 v5_7 v3_14) w5 fun w6 =>
  CALL Try.prog 45 #[x1] w6 fun v6_18 w7 =>
  X Try.prog (Instr.extract v6_18 0) w7 fun v7_19 w8 =>
  X Try.prog (Instr.extract v6_18 1) w8 fun v8_20 w9 =>
  X Try.prog (Instr.alloc 25 true (.tuple #[])) w9 fun v9_9 w10 =>
  XU Try.prog (Instr.storeAt 25 v9_9 v7_19) w10 fun w11 =>
  X Try.prog (binOpG .neq 30 (.tmp 21) (.const (.int .i64 0)) v4_15 (.int .i64 0)) w11 fun v10_22 w12 =>
  gstep v10_22 true (fun w13 K => K v8_20 w13) w12 fun v11_24 w14 =>
  gstep v10_22 true (fun w15 K => X Try.prog (binOpG .neq 30 (.tmp 24) (.const (.int .i64 0)) v11_24 (.int .i64 0)) w15 K) w14 fun v12_25 w16 =>
  X Try.prog (pickS v10_22 v12_25 (.bool false)) w16 fun v13_26 w17 =>
  condS v13_26 (
  X Try.prog (Instr.build 25 #[]) w17 fun v14_27 w18 =>
  XU Try.prog (Instr.storeAt 25 v1_4 v14_27) w18 fun w19 =>
  resC Try.prog 25 v1_4 w19 fun r0 =>
  K (.tuple #[r0, (.int .i64 0), (.int .i64 100)]) w19) (
  X Try.prog (binOpG .neq 30 (.tmp 28) (.const (.int .i64 0)) v4_15 (.int .i64 0)) w17 fun v15_29 w20 =>
  gstep v15_29 false (fun w21 K => K v8_20 w21) w20 fun v16_31 w22 =>
  gstep v15_29 false (fun w23 K => X Try.prog (binOpG .eql 30 (.tmp 31) (.const (.int .i64 0)) v16_31 (.int .i64 0)) w23 K) w22 fun v17_32 w24 =>
  gstep v15_29 false (fun w25 K => K v17_32 w25) w24 fun v18_33 w26 =>
  gstep v18_33 true (fun w27 K => X Try.prog (Instr.fieldAt 25 v9_9 0) w27 K) w26 fun v19_34 w28 =>
  gstep v18_33 true (fun w29 K => X Try.prog (Instr.loadAt 22 v19_34) w29 K) w28 fun v20_35 w30 =>
  gstep v18_33 true (fun w31 K => X Try.prog (Instr.fieldAt 25 v5_7 0) w31 K) w30 fun v21_36 w32 =>
  gstep v18_33 true (fun w33 K => X Try.prog (Instr.loadAt 22 v21_36) w33 K) w32 fun v22_37 w34 =>
  gstep v18_33 true (fun w35 K => X Try.prog (binOp .gtr 22 v20_35 v22_37) w35 K) w34 fun v23_38 w36 =>
  gstep v15_29 false (fun w37 K => X Try.prog (pickS v18_33 v23_38 (.bool false)) w37 K) w36 fun v24_39 w38 =>
  X Try.prog (pickS v15_29 (.bool true) v24_39) w38 fun v25_40 w39 =>
  condS v25_40 (
  X Try.prog (Instr.loadAt 25 v9_9) w39 fun v26_41 w40 =>
  XU Try.prog (Instr.storeAt 25 v1_4 v26_41) w40 fun w41 =>
  resC Try.prog 25 v1_4 w41 fun r0 =>
  K (.tuple #[r0, (.int .i64 1), (.int .i64 0)]) w41) (
  X Try.prog (Instr.loadAt 25 v5_7) w39 fun v27_42 w42 =>
  XU Try.prog (Instr.storeAt 25 v1_4 v27_42) w42 fun w43 =>
  resC Try.prog 25 v1_4 w43 fun r0 =>
  K (.tuple #[r0, (.int .i64 0), (.int .i64 0)]) w43))

theorem eq_ref10_Newer (x0 x1 : Value) (w : World) (K : Value → World → Prop) :
    sh Try.prog (Try.f49.body.getD .skip) (retS Try.prog Try.f49.results K) (env0 #[x0, x1]) w = B_ref10_Newer x0 x1 w K := by kernel_rfl

theorem call_ref10_Newer (x0 x1 : Value) (w : World) (K : Value → World → Prop) (h : B_ref10_Newer x0 x1 w K) : CALL Try.prog 49 #[x0, x1] w K :=
  call_of_eq (c := Try.f49.body.getD .skip) mixed Try.func49 (by kernel_rfl) (by kernel_rfl) (by kernel_rfl) (Nat.le_of_ble_eq_true (by kernel_rfl)) (eq_ref10_Newer x0 x1 w K) h

end Go.Proofs.Ytggggfcgnkllgaa
end
section
/- cellarage/slot and the reference's, by contract. -/
set_option linter.unusedVariables false
set_option linter.unusedSimpArgs false
namespace Go.Proofs.Ytggggfcgnkllgaa
open Go Go.Sh Go.RowKit
attribute [local irreducible] X XU XP XR CALL loopS resC closS

structure Sl where
  gen : Nat
  area : Nat
  size : Nat
  sum : Nat
theorem Sl.eq_iff (a b : Sl) : (a.gen = b.gen ∧ a.area = b.area ∧ a.size = b.size ∧ a.sum = b.sum) ↔ a = b := by
  obtain ⟨a1, a2, a3, a4⟩ := a
  obtain ⟨b1, b2, b3, b4⟩ := b
  simp
instance : DecidableEq Sl := fun a b => decidable_of_iff _ (Sl.eq_iff a b)
def Sl.ok (s : Sl) : Prop := s.gen < 18446744073709551616 ∧ s.area < 256 ∧ s.size < 4294967296 ∧ s.sum < 4294967296
def Sl.cs (s : Sl) : List Value := [.int .u64 (s.gen : Int), .int .u8 (s.area : Int), .int .u32 (s.size : Int), .int .u32 (s.sum : Int)]
def Sl.v (s : Sl) : Value := .agg s.cs.toArray
def nilSl : Sl := ⟨0, 0, 0, 0⟩
def headB (s : Sl) : List UInt8 := be 8 s.gen ++ be 1 s.area ++ be 4 s.size ++ be 4 s.sum
def layB (s : Sl) : List UInt8 := headB s ++ List.replicate 103 0 ++ be 8 s.gen
theorem headB_len (s : Sl) : (headB s).length = 17 := by simp [headB]
theorem layB_len (s : Sl) : (layB s).length = 128 := by simp [layB, headB]

theorem run_build_25 (a b c d : Int) (w : World) : (Instr.build 25 #[(0, .int .u64 a), (1, .int .u8 b), (2, .int .u32 c), (3, .int .u32 d)]).run Try.prog w = .ok (.agg #[.int .u64 a, .int .u8 b, .int .u32 c, .int .u32 d]) w := by kernel_rfl
theorem run_build_25z (w : World) : (Instr.build 25 #[]).run Try.prog w = .ok nilSl.v w := by kernel_rfl
theorem Sl.one (s : Sl) : ∀ v ∈ s.cs, v.oneCell' = true := by
  intro v hv
  simp [Sl.cs] at hv
  rcases hv with rfl | rfl | rfl | rfl <;> rfl
theorem u_small {k : IntKind} {n m : Nat} (e : ∀ x : Int, k.wrap x = x % (m : Int)) (h : n < m) : k.wrap (n : Int) = (n : Int) := by
  rw [e, ← Int.natCast_emod, Nat.mod_eq_of_lt h]
theorem w64u {n : Nat} (h : n < 18446744073709551616) : IntKind.u64.wrap (n : Int) = (n : Int) := u_small (m := 18446744073709551616) wrap_u64 h
theorem w32u {n : Nat} (h : n < 4294967296) : IntKind.u32.wrap (n : Int) = (n : Int) := u_small (m := 4294967296) wrap_u32 h
theorem w8u {n : Nat} (h : n < 256) : IntKind.u8.wrap (n : Int) = (n : Int) := u_small (m := 256) wrap_u8 h

theorem lay_spec {s : Sl} (hs : s.ok) {w : World} {K : Value → World → Prop} (h : ∀ w1, Ext w w1 → K (.agg (B8 (layB s)).toArray) w1) : CALL Try.prog 124 #[s.v] w K := by
  obtain ⟨hg, ha, hz, hm⟩ := hs
  apply call_slot_lay
  unfold B_slot_lay
  refine X_box ?_
  have hb1 : (newB w s.v.cells 25).heap[w.heap.size]? = some (.cells s.cs.toArray 25 (0, 0)) := newB_get _ _ _
  have hx1 := newB_ext w s.v.cells 25
  have hz1 := newB_size w s.v.cells 25
  generalize newB w s.v.cells 25 = w1 at hb1 hx1 hz1 ⊢
  refine X_alloc zero_169 ?_
  have hb2 : (newB w1 (List.replicate 128 (Value.int .u8 0)).toArray 169).heap[w1.heap.size]? = some (.cells (List.replicate 128 (Value.int .u8 0)).toArray 169 (0, 0)) := newB_get _ _ _
  have hx2 := newB_ext w1 (List.replicate 128 (Value.int .u8 0)).toArray 169
  have hz2 := newB_size w1 (List.replicate 128 (Value.int .u8 0)).toArray 169
  show X _ _ (newB w1 (List.replicate 128 (Value.int .u8 0)).toArray 169) _
  generalize newB w1 (List.replicate 128 (Value.int .u8 0)).toArray 169 = w2 at hb2 hx2 hz2 ⊢
  refine X_alloc zero_169 ?_
  have hb3 : (newB w2 (List.replicate 128 (Value.int .u8 0)).toArray 169).heap[w2.heap.size]? = some (.cells (List.replicate 128 (Value.int .u8 0)).toArray 169 (0, 0)) := newB_get _ _ _
  have hx3 := newB_ext w2 (List.replicate 128 (Value.int .u8 0)).toArray 169
  have hz3 := newB_size w2 (List.replicate 128 (Value.int .u8 0)).toArray 169
  refine ⟨Ext, Ext.frame, ?_⟩
  show XP _ _ (drewW (newB w2 (List.replicate 128 (Value.int .u8 0)).toArray 169)) _
  generalize newB w2 (List.replicate 128 (Value.int .u8 0)).toArray 169 = w3 at hb3 hx3 hz3 ⊢
  simp only [SS, ST]
  have hbb : (drewW w3).heap[w.heap.size]? = some (.cells s.cs.toArray 25 (0, 0)) := hx3.get (hx2.get hb1)
  refine XR_loadL agg_22 hbb rfl ?_
  refine XR_loadL agg_5 hbb rfl ?_
  simp only [SS, ST]
  refine XR_loadL agg_23 hbb rfl ?_
  simp only [SS, ST]
  refine XR_loadL agg_23 hbb rfl ?_
  simp only [SS, ST]
  rw [w64u (by omega), w64u (n := s.size) (by omega), w64u (n := s.sum) (by omega)]
  refine Put_spec (Bts.nil _) (by simp) hg ?_
  intro v4 w4 hx4 ho4
  refine ⟨hx4, ?_⟩
  refine Put_spec (own_bts ho4).1 (by simp [putB_8, putB_1, putB_4]) (by omega) ?_
  intro v5 w5 hx5 ho5
  refine ⟨hx5, ?_⟩
  refine Put_spec (own_bts ho5).1 (by simp [putB_8, putB_1, putB_4]) (by omega) ?_
  intro v6 w6 hx6 ho6
  refine ⟨hx6, ?_⟩
  refine Put_spec (own_bts ho6).1 (by simp [putB_8, putB_1, putB_4]) (by omega) ?_
  intro v7 w7 hx7 ho7
  refine ⟨hx7, ?_⟩
  have e7 : [] ++ putB s.gen 8 ++ putB s.area 1 ++ putB s.size 4 ++ putB s.sum 4 = headB s := rfl
  have hv7 := (own_bts ho7).1
  rw [e7] at hv7
  have hx37 : Ext w3 w7 := (Keep.drew _ w3).trans (hx4.trans (hx5.trans (hx6.trans hx7)))
  have hb37 := hx37.get hb3
  have hb27 := hx37.get (hx3.get hb2)
  have hne : w1.heap.size ≠ w2.heap.size := by omega
  refine X_of (run_slice_arr_all Try.underlying169 info_5 _ _) ?_
  have hlr : (List.replicate 128 (Value.int .u8 0)).toArray.size = 128 := by simp
  have hh := headB_len s
  refine X_copy_bts Try.underlying27 (by kernel_rfl) hb37 hv7 (by rw [hlr, hh]; decide) ?_
  intro w8 hb8 hs8 hk8
  obtain ⟨c8, hc8⟩ : ∃ c, c = headB s ++ List.replicate 111 0 := ⟨_, rfl⟩
  have ec8 : (List.replicate 128 (Value.int .u8 0)).toArray.toList.take 0 ++ B8 ((headB s).take 128) ++ (List.replicate 128 (Value.int .u8 0)).toArray.toList.drop (0 + min (headB s).length 128) = B8 c8 := by
    rw [hh, hc8, List.take_of_length_le (l := headB s) (by omega), B8_append]
    simp [B8]
  rw [ec8] at hb8
  refine ⟨Ext, Ext.frame, ?_⟩
  refine XP_of (fun w => run_slice_arr_lo Try.underlying169 info_5 _ .i64 120 (by decide) w) ?_
  have ea : (if (128 : Nat) = 120 then (⟨w2.heap.size, 0, none⟩ : Addr) else (⟨w2.heap.size, 0, none⟩ : Addr).add (120 * szT Try.prog 5)) = ⟨w2.heap.size, 120, none⟩ := by
    rw [if_neg (by decide), sz_5]; rfl
  rw [ea]
  have hv8 : Bts (drewW w8) v7 (headB s) := (hv7.keep hk8 (fun k hk => by have := (ho7.lt k hk).1; have := hx4.size; have := hx5.size; have := hx6.size; have e : (drewW w3).heap.size = w3.heap.size := rfl; omega)).drew
  obtain ⟨u9, hu9, hub9, _⟩ := cut_hi Try.underlying27 info_5 hv8 (kh := .i64) 8 rfl (by omega)
  refine XP_of hu9 ?_
  have e9 : (headB s).take 8 = be 8 s.gen := by
    unfold headB
    rw [List.append_assoc, List.append_assoc, List.take_append_of_le_length (by simp), List.take_of_length_le (by simp)]
  rw [e9] at hub9
  have hb8d : (drewW w8).heap[w2.heap.size]? = some (.cells (B8 c8).toArray 169 (0, 0)) := hb8
  have hc8l : c8.length = 128 := by rw [hc8]; simp [hh]
  refine X_copy_bts Try.underlying27 (by kernel_rfl) hb8d hub9 (by simp [hc8l]) ?_
  intro w10 hb10 hs10 hk10
  have ec10 : (B8 c8).toArray.toList.take 120 ++ B8 ((be 8 s.gen).take (128 - 120)) ++ (B8 c8).toArray.toList.drop (120 + min (be 8 s.gen).length (128 - 120)) = B8 (layB s) := by
    rw [List.take_of_length_le (l := be 8 s.gen) (by simp)]
    have e1 : (B8 c8).toArray.toList.drop (120 + min (be 8 s.gen).length (128 - 120)) = [] := List.drop_eq_nil_of_le (by simp [hc8l])
    rw [e1, List.append_nil]
    have e2 : (B8 c8).toArray.toList.take 120 = B8 (headB s ++ List.replicate 103 0) := by
      have : c8.take 120 = headB s ++ List.replicate 103 0 := by
        rw [hc8, List.take_append, hh, List.take_of_length_le (by omega)]
        simp
      rw [← this]
      simp [B8, List.map_take]
    rw [e2, ← B8_append]
    rfl
  rw [ec10] at hb10
  refine X_loadAgg Try.underlying169 agg_169 info_169 hb10 (by rw [B8_length, layB_len, sz_169]) ?_
  have hb2' : w10.heap[w1.heap.size]? = some (.cells (List.replicate 128 (Value.int .u8 0)).toArray 169 (0, 0)) := by
    refine hk10.get hne ?_
    exact hk8.get hne hb27
  refine XU_storeAgg info_169 hb2' (by rw [sz_169]; simp) (by rw [B8_length, layB_len, sz_169]) B8_one ?_
  refine resC_agg Try.underlying169 agg_169 info_169 (setAt_same (lt_of_blk hb2')) (by rw [B8_length, layB_len, sz_169]) ?_
  refine h _ ?_
  have hx07 : Ext w w7 := hx1.trans (hx2.trans (hx3.trans hx37))
  refine Ext.seq (Ext.seq (Ext.seq hx07 hk8 ?_) ((Keep.drew _ w8).trans hk10) ?_) (setAt_keep _ _ _ _ _) ?_
  all_goals (intro i hi; omega)
end Go.Proofs.Ytggggfcgnkllgaa
end
section
/- cellarage/slot's Lay and Take, and the reference's, by contract. -/
set_option linter.unusedVariables false
set_option linter.unusedSimpArgs false
namespace Go.Proofs.Ytggggfcgnkllgaa
open Go Go.Sh Go.RowKit
attribute [local irreducible] X XU XP XR CALL loopS resC closS

theorem blk_bts {w : World} {g : Nat} {l : List UInt8} {T : TypeId} {fr : Nat × Nat} (hg : w.heap[g]? = some (.cells (B8 l).toArray T fr)) (hl : l.length ≤ 9223372036854775807) : Bts w (.slice (some ⟨g, 0, none⟩) l.length l.length) l :=
  ⟨_, _, rfl, Nat.le_refl _, hl, fun _ => ⟨_, rfl, fun j u hj => by
    have e : (⟨g, 0, none⟩ : Addr).add j = ⟨g, j, none⟩ := by unfold Addr.add; split <;> simp_all
    rw [e, cell_blk hg]
    simp [B8_getElem?, hj]⟩⟩
theorem own_ext {w w' : World} {base : Nat} {e : TypeId} {size : Nat} {v : Value} {n : Nat} {xs : List Value} (h : w.ownsRow base e size v n xs) (k : Ext w w') : w'.ownsRow base e size v n xs := by
  refine h.kept ⟨k.os, k.tape, k.output, k.size, fun i hi _ => k.block i hi (fun h => h)⟩ (row := none) ?_
  cases v.ownBlock <;> simp

theorem Lay_spec {s : Sl} (hs : s.ok) {w : World} {K : Value → World → Prop} (h : ∀ v w1, Ext w w1 → Bts w1 v (layB s) → K v w1) : CALL Try.prog 42 #[s.v] w K := by
  apply call_slot_Lay
  unfold B_slot_Lay
  refine X_box ?_
  have hb1 : (newB w s.v.cells 25).heap[w.heap.size]? = some (.cells s.cs.toArray 25 (0, 0)) := newB_get _ _ _
  have hx1 := newB_ext w s.v.cells 25
  refine X_loadAgg Try.underlying25 agg_25 info_25 hb1 (by rw [sz_25]; rfl) ?_
  refine lay_spec hs ?_
  intro w2 hx2
  refine X_alloc zero_169 ?_
  have hb3 : (newB w2 (List.replicate 128 (Value.int .u8 0)).toArray 169).heap[w2.heap.size]? = some (.cells (List.replicate 128 (Value.int .u8 0)).toArray 169 (0, 0)) := newB_get _ _ _
  have hx3 := newB_ext w2 (List.replicate 128 (Value.int .u8 0)).toArray 169
  show XU _ _ (newB w2 (List.replicate 128 (Value.int .u8 0)).toArray 169) _
  generalize newB w2 (List.replicate 128 (Value.int .u8 0)).toArray 169 = w3 at hb3 hx3 ⊢
  refine XU_storeAgg info_169 hb3 (by rw [sz_169]; simp) (by rw [B8_length, layB_len, sz_169]) B8_one ?_
  refine X_of (run_slice_arr_all Try.underlying169 info_5 _ _) ?_
  have hb4 : Bts (setAt w3 w2.heap.size (B8 (layB s)).toArray 169 (0, 0)) (.slice (some ⟨w2.heap.size, 0, none⟩) (layB s).length (layB s).length) (layB s) := blk_bts (setAt_same (lt_of_blk hb3)) (by rw [layB_len]; decide)
  rw [layB_len] at hb4
  refine h _ _ ?_ hb4
  refine Ext.seq (hx1.trans (hx2.trans hx3)) (setAt_keep _ _ _ _ _) ?_
  intro i hi
  have := hx1.size
  have := hx2.size
  omega

def lenM : Value → Nat
  | .slice _ n _ => n
  | _ => 0
theorem RLayO_spec {s : Sl} (hs : s.ok) {w : World} {K : Value → World → Prop} (h : ∀ v w1, Ext w w1 → Bts w1 v (layB s) → (∀ k, v.ownBlock = some k → w.heap.size ≤ k ∧ k < w1.heap.size) → K v w1) : CALL Try.prog 43 #[s.v] w K := by
  obtain ⟨hg, ha, hz, hm⟩ := hs
  apply call_ref10_Lay
  unfold B_ref10_Lay
  refine X_box ?_
  have hb1 : (newB w s.v.cells 25).heap[w.heap.size]? = some (.cells s.cs.toArray 25 (0, 0)) := newB_get _ _ _
  have hx1 := newB_ext w s.v.cells 25
  have hz1 := newB_size w s.v.cells 25
  generalize newB w s.v.cells 25 = w1 at hb1 hx1 hz1 ⊢
  simp only [SS, ST]
  refine X_loadL agg_22 hb1 rfl ?_
  refine RPut_spec hg ?_
  intro v2 w2 hx2 ho2
  refine X_loadL agg_5 (hx2.get hb1) rfl ?_
  have ea : (s.area : Int) = ((UInt8.ofNat s.area).toNat : Int) := by simp; omega
  rw [ea]
  refine X_buildSlice1 Try.underlying27 el_5 rfl ?_
  refine X_append_u8 Try.underlying27 el_5 ho2 (by simp [putB_8]) hx2.size ?_
  intro v3 w3 ho3 hk3
  have hx13 : Ext w1 w3 := Ext.seq hx2 hk3 (fun i hi => (ho2.lt i hi.symm).1)
  refine X_loadL agg_23 (hx13.get hb1) rfl ?_
  simp only [SS, ST]
  rw [w64u (n := s.size) (by omega)]
  refine RPut_spec (by omega) ?_
  intro v4 w4 hx4 ho4
  refine X_append_bts Try.underlying27 el_5 (own_ext ho3 hx4) (own_bts ho4).1 (by simp [putB_8, putB_4]) (Nat.le_trans hx13.size hx4.size) ?_
  intro v5 w5 ho5 hk5
  have hx15 : Ext w1 w5 := Ext.seq (hx13.trans hx4) hk5 (fun i hi => (ho3.lt i hi.symm).1)
  refine X_loadL agg_23 (hx15.get hb1) rfl ?_
  simp only [SS, ST]
  rw [w64u (n := s.sum) (by omega)]
  refine RPut_spec (by omega) ?_
  intro v6 w6 hx6 ho6
  refine X_append_bts Try.underlying27 el_5 (own_ext ho5 hx6) (own_bts ho6).1 (by simp [putB_8, putB_4]) (Nat.le_trans hx15.size hx6.size) ?_
  intro v7 w7 ho7 hk7
  have hx17 : Ext w1 w7 := Ext.seq (hx15.trans hx6) hk7 (fun i hi => (ho5.lt i hi.symm).1)
  have eh : putB s.gen 8 ++ [UInt8.ofNat s.area] ++ putB s.size 4 ++ putB s.sum 4 = headB s := by
    unfold headB
    rw [putB_8, putB_4, putB_4]
    have : be 1 s.area = [UInt8.ofNat s.area] := by simp [be]
    rw [this]
  have en : (putB s.gen 8).length + 1 + (putB s.size 4).length + (putB s.sum 4).length = 17 := by simp [putB_8, putB_4]
  rw [eh, en] at ho7
  refine loopS_of (fun ρ wr => ∃ n, n ≤ 103 ∧ Ext w1 wr ∧ wr.ownsRow w1.heap.size 5 1 (ρ 3) (17 + n) (B8 (headB s ++ List.replicate n 0)) ∧ ρ 1 = .pointer (some ⟨w.heap.size, 0, none⟩))
    (fun ρ wr => 120 - lenM (ρ 3)) ?_ ?_
  · refine ⟨0, by omega, hx17, ?_, rfl⟩
    show w7.ownsRow w1.heap.size 5 1 v7 17 (B8 (headB s ++ []))
    rw [List.append_nil]
    exact ho7
  · rintro ρ wr ⟨n, hn, hxr, ho, h1⟩
    obtain ⟨a, c, e⟩ := Bts.slice (own_bts ho).1
    have elen : (headB s ++ List.replicate n 0).length = 17 + n := by simp [headB_len]
    rw [elen] at e
    by_cases hin : n = 103
    · subst hin
      simp only [SS, ST, h1, e]
      rw [if_neg (by simp)]
      simp only [upds_cons, upds_nil, Nat.reduceEqDiff, if_false, h1, SS, ST]
      refine X_loadL agg_22 (hxr.get hb1) rfl ?_
      refine RPut_spec hg ?_
      intro v8 w8 hx8 ho8
      rw [e] at ho ⊢
      refine X_append_bts Try.underlying27 el_5 (own_ext ho hx8) (own_bts ho8).1 (by simp [putB_8]) (Nat.le_trans hxr.size hx8.size) ?_
      intro v9 w9 ho9 hk9
      refine h v9 w9 (hx1.trans (Ext.seq (hxr.trans hx8) hk9 (fun i hi => (ho.lt i hi.symm).1))) ?_ (fun k hk => ⟨Nat.le_trans hx1.size (ho9.lt k hk).1, (ho9.lt k hk).2⟩)
      have := (own_bts ho9).1
      rw [putB_8] at this
      exact this
    · simp only [SS, ST, h1, e]
      rw [if_pos (by simp; omega)]
      refine X_buildSlice1 Try.underlying27 el_5 rfl ?_
      rw [e] at ho
      refine X_append_u8 (u := 0) Try.underlying27 el_5 ho (by omega) hxr.size ?_
      intro v8 w8 ho8 hk8
      have e8 : headB s ++ List.replicate n 0 ++ [0] = headB s ++ List.replicate (n + 1) 0 := by
        rw [List.replicate_succ', List.append_assoc]
      rw [e8] at ho8
      obtain ⟨a8, c8, e8'⟩ := Bts.slice (own_bts ho8).1
      have elen8 : (headB s ++ List.replicate (n + 1) 0).length = 17 + n + 1 := by simp [headB_len]; omega
      rw [elen8] at e8'
      show _ ∧ _
      refine ⟨⟨n + 1, by omega, Ext.seq hxr hk8 (fun i hi => (ho.lt i hi.symm).1), ho8, h1⟩, ?_⟩
      show 120 - lenM v8 < 120 - lenM (.slice a (17 + n) c)
      rw [e8']
      show 120 - (17 + n + 1) < 120 - (17 + n)
      omega
theorem RLay_spec {s : Sl} (hs : s.ok) {w : World} {K : Value → World → Prop} (h : ∀ v w1, Ext w w1 → Bts w1 v (layB s) → K v w1) : CALL Try.prog 43 #[s.v] w K :=
  RLayO_spec hs (fun v w1 hx hb _ => h v w1 hx hb)
end Go.Proofs.Ytggggfcgnkllgaa
end
section
/- cellarage/slot's Take and the reference's, by contract. -/
set_option linter.unusedVariables false
set_option linter.unusedSimpArgs false
namespace Go.Proofs.Ytggggfcgnkllgaa
open Go Go.Sh Go.RowKit
attribute [local irreducible] X XU XP XR CALL loopS resC closS

def slotOf (bs : List UInt8) : Sl := ⟨num (bs.take 8), num ((bs.drop 8).take 1), num (((bs.drop 8).drop 1).take 4), num ((((bs.drop 8).drop 1).drop 4).take 4)⟩
def takeB (bs : List UInt8) : Option Sl := if bs.length = 128 ∧ (slotOf bs).gen ≠ 0 ∧ layB (slotOf bs) = bs then some (slotOf bs) else none
theorem num_bound (l : List UInt8) (n k : Nat) (hn : 256 ^ n = k) : num (l.take n) < k := by
  rw [← hn]
  have h := num_lt (l.take n)
  exact Nat.lt_of_lt_of_le h (Nat.pow_le_pow_right (by decide) (by simp; omega))
theorem slotOf_ok (bs : List UInt8) : (slotOf bs).ok :=
  ⟨num_bound _ 8 _ (by decide), num_bound _ 1 _ (by decide), num_bound _ 4 _ (by decide), num_bound _ 4 _ (by decide)⟩
theorem getR_ok (x : List UInt8) (m : Nat) (hm : m ≤ 8) (h : m ≤ x.length) : getR x 0 (m : Int) = (num (x.take m), x.drop m, 0) := by
  have h1 : ¬ ((m : Int) < 0 ∨ 8 < (m : Int)) := by omega
  have h2 : ¬ x.length < ((m : Int)).toNat := by omega
  have h3 : ((m : Int)).toNat = m := by omega
  simp only [getR, ne_eq, not_true, if_false, h1, h2, h3]
  rw [if_neg (by omega)]

theorem getR_at (x : List UInt8) (m : Nat) (mi : Int) (e : mi = (m : Int)) (hm : m ≤ 8) (h : m ≤ x.length) : getR x 0 mi = (num (x.take m), x.drop m, 0) := by
  subst e; exact getR_ok x m hm h
theorem neq_arr (a b : Operand) (xs ys : List UInt8) (hx : xs.length = 128) (hy : ys.length = 128) (w : World) :
    (binOpG .neq 169 a b (.agg (B8 xs).toArray) (.agg (B8 ys).toArray)).run Try.prog w = .ok (.bool (!(decide (xs = ys)))) w := by
  obtain ⟨⟨i, hi, _⟩, _⟩ := el_5
  exact agg_neq (by kernel_rfl) a b (arr_equal Try.underlying169 Try.underlying5 agg_5 hi (by kernel_rfl) xs ys hx hy w)

theorem Take_spec {v : Value} {bs : List UInt8} {w : World} {K : Value → World → Prop} (hb : Bts w v bs)
    (h0 : takeB bs = none → ∀ w1, Ext w w1 → K (.tuple #[nilSl.v, .int .i64 100]) w1)
    (h1 : ∀ s, takeB bs = some s → ∀ w1, Ext w w1 → K (.tuple #[s.v, .int .i64 0]) w1) : CALL Try.prog 44 #[v] w K := by
  obtain ⟨a, cp, e, hcp1, hcp2, hcell⟩ := id hb
  subst e
  apply call_slot_Take
  unfold B_slot_Take
  refine X_alloc zero_25 ?_
  have hb1 : (newB w nilSl.cs.toArray 25).heap[w.heap.size]? = some (.cells nilSl.cs.toArray 25 (0, 0)) := newB_get _ _ _
  have hx1 := newB_ext w nilSl.cs.toArray 25
  have hz1 := newB_size w nilSl.cs.toArray 25
  show X _ _ (newB w nilSl.cs.toArray 25) _
  generalize newB w nilSl.cs.toArray 25 = w1 at hb1 hx1 hz1 ⊢
  have bad : ∀ w5, Ext w1 w5 → takeB bs = none → X Try.prog (Instr.build 25 #[]) w5 fun v4_13 w4 =>
      XU Try.prog (Instr.storeAt 25 (.pointer (some ⟨w.heap.size, 0, none⟩)) v4_13) w4 fun w5 => resC Try.prog 25 (.pointer (some ⟨w.heap.size, 0, none⟩)) w5 fun r0 => K (.tuple #[r0, (.int .i64 100)]) w5 := by
    intro w5 hx5 hn
    refine X_of (run_build_25z _) ?_
    have hb5 := hx5.get hb1
    refine XU_storeAgg info_25 hb5 (by rw [sz_25]; rfl) (by rw [sz_25]; rfl) (Sl.one nilSl) ?_
    refine resC_agg Try.underlying25 agg_25 info_25 (setAt_same (lt_of_blk hb5)) (by rw [sz_25]; rfl) ?_
    exact h0 hn _ (Ext.seq (hx1.trans hx5) (setAt_keep _ _ _ _ _) (fun i hi => by omega))
  by_cases hl : bs.length = 128
  case neg =>
    simp only [SS, ST]
    rw [if_pos (by simp; omega)]
    exact bad w1 (Keep.refl _ _) (by simp [takeB, hl])
  case pos =>
    simp only [SS, ST]
    rw [if_neg (by simp; omega)]
    obtain ⟨ad, rfl, hcells⟩ := hcell (by omega)
    refine New_spec (hb.ext hx1) (by omega) ?_
    intro b w2 hx2 hb2 hr2
    have hbne : ∀ k, w1.heap.size ≤ k → k ≠ w.heap.size := fun k hk => by omega
    refine Get_spec hr2 ?_
    rw [getR_at bs 8 8 rfl (by decide) (by omega)]
    intro w3 hk3 hr3
    refine Get_spec hr3 ?_
    rw [getR_at _ 1 1 rfl (by decide) (by simp; omega)]
    intro w4 hk4 hr4
    refine Get_spec hr4 ?_
    rw [getR_at _ 4 4 rfl (by decide) (by simp; omega)]
    intro w5 hk5 hr5
    refine Get_spec hr5 ?_
    rw [getR_at _ 4 4 rfl (by decide) (by simp; omega)]
    intro w6 hk6 hr6
    have hx16 : Ext w1 w6 := Ext.seq hx2 (hk3.trans (hk4.trans (hk5.trans hk6))) (fun i hi => by subst hi; exact hb2)
    obtain ⟨og, oa, oz, om⟩ := slotOf_ok bs
    simp only [SS, ST]
    rw [w8u (n := num ((bs.drop 8).take 1)) oa, w32u (n := num (((bs.drop 8).drop 1).take 4)) oz, w32u (n := num ((((bs.drop 8).drop 1).drop 4).take 4)) om]
    refine X_of (run_build_25 _ _ _ _ _) ?_
    refine X_alloc zero_25 ?_
    have hb7 : (newB w6 nilSl.cs.toArray 25).heap[w6.heap.size]? = some (.cells nilSl.cs.toArray 25 (0, 0)) := newB_get _ _ _
    have hx7 := newB_ext w6 nilSl.cs.toArray 25
    show XU _ _ (newB w6 nilSl.cs.toArray 25) _
    generalize newB w6 nilSl.cs.toArray 25 = w7 at hb7 hx7 ⊢
    refine XU_storeAgg (l := (slotOf bs).cs) info_25 hb7 (by rw [sz_25]; rfl) (by rw [sz_25]; rfl) (Sl.one _) ?_
    have hb8 : (setAt w7 w6.heap.size (slotOf bs).cs.toArray 25 (0, 0)).heap[w6.heap.size]? = some (.cells (slotOf bs).cs.toArray 25 (0, 0)) := setAt_same (lt_of_blk hb7)
    have hx8 : Ext w6 (setAt w7 w6.heap.size (slotOf bs).cs.toArray 25 (0, 0)) := Ext.seq hx7 (setAt_keep _ _ _ _ _) (fun i hi => by omega)
    generalize setAt w7 w6.heap.size (slotOf bs).cs.toArray 25 (0, 0) = w8 at hb8 hx8 ⊢
    have hx18 := hx16.trans hx8
    have hx18d : Ext w1 (drewW w8) := hx18.trans (Keep.drew _ w8)
    have hb8d : (drewW w8).heap[w6.heap.size]? = some (.cells (slotOf bs).cs.toArray 25 (0, 0)) := hb8
    refine ⟨Ext, Ext.frame, ?_⟩
    have eg : num (bs.take 8) = (slotOf bs).gen := rfl
    rw [eg]
    by_cases hgen : (slotOf bs).gen = 0
    · have ed : decide (((slotOf bs).gen : Int) = 0) = true := by simp [hgen]
      simp only [SS, ST, ed, Bool.true_eq_false, if_false, if_true]
      refine ⟨Ext.frame.refl _, ?_⟩
      exact bad _ hx18d (by simp [takeB, hgen])
    · have ed : decide (((slotOf bs).gen : Int) = 0) = false := by simp [hgen]
      simp only [SS, ST, ed, Bool.false_eq_true, if_false, if_true]
      refine XR_loadAgg Try.underlying25 agg_25 info_25 hb8d (by rw [sz_25]; rfl) ?_
      refine XP_of (fun w => run_arrayAt Try.underlying169 _ (by omega) _ w) ?_
      refine XR_ok Ext.frame (fun w' k => run_loadBytes Try.underlying169 agg_169 info_169 (l := bs) (by rw [sz_169]; exact hl) (fun j u hj => k.cell (fun h => h) (hx18d.cell (fun h => h) (hx1.cell (fun h => h) (hcells j u hj))))) ?_
      refine lay_spec (slotOf_ok bs) ?_
      intro w9 hx9
      refine ⟨hx9, ?_⟩
      refine XP_of (fun w => neq_arr _ _ _ _ (layB_len _) hl w) ?_
      simp only [SS, ST]
      by_cases heq : layB (slotOf bs) = bs
      · have e9 : decide (layB (slotOf bs) = bs) = true := by simpa using heq
        simp only [e9, Bool.not_true, Bool.false_eq_true, if_false]
        refine X_loadAgg Try.underlying25 agg_25 info_25 (hx9.get hb8d) (by rw [sz_25]; rfl) ?_
        have hx19 := hx18d.trans hx9
        have hb9 := Ext.get hx19 hb1
        refine XU_storeAgg info_25 hb9 (by rw [sz_25]; rfl) (by rw [sz_25]; rfl) (Sl.one _) ?_
        refine resC_agg Try.underlying25 agg_25 info_25 (setAt_same (lt_of_blk hb9)) (by rw [sz_25]; rfl) ?_
        exact h1 (slotOf bs) (by simp [takeB, hl, hgen, heq]) _ (Ext.seq (hx1.trans hx19) (setAt_keep _ _ _ _ _) (fun i hi => by omega))
      · have e9 : decide (layB (slotOf bs) = bs) = false := by simpa using heq
        simp only [e9, Bool.not_false, if_true]
        exact bad _ (hx18d.trans hx9) (by simp [takeB, heq])
end Go.Proofs.Ytggggfcgnkllgaa
end
