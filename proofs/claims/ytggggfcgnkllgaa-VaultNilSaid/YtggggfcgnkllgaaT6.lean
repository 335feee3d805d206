import Derived.Test.YtggggfcgnkllgaaTy
import Derived.Test.YtggggfcgnkllgaaShSound
set_option linter.unusedVariables false
namespace Go.Proofs.Ytggggfcgnkllgaa
open Go Go.Sh
attribute [local irreducible] X XU XP XR CALL loopS resC closS
/-- cellarage/cellaragelaw02.shown -/
def B_law02_shown (w : World) (K : Value → World → Prop) : Prop :=
  X Try.prog (Instr.buildSlice 27 3 #[(0, (.int .u8 1)), (1, (.int .u8 2)), (2, (.int .u8 3))]) w fun v1_4 w1 =>
  CALL Try.prog 54 #[v1_4] w1 fun v2_5 w2 =>
  X Try.prog (Instr.extract v2_5 0) w2 fun v3_6 w3 =>
  X Try.prog (Instr.extract v2_5 1) w3 fun v4_7 w4 =>
  CALL Try.prog 51 #[(.slice none 0 0)] w4 fun v5_8 w5 =>
  X Try.prog (binOpG .eql 23 (.tmp 8) (.const (.int .u32 0)) v5_8 (.int .u32 0)) w5 fun v6_9 w6 =>
  gstep v6_9 true (fun w7 K => X Try.prog (Instr.buildSlice 27 9 #[(0, (.int .u8 49)), (1, (.int .u8 50)), (2, (.int .u8 51)), (3, (.int .u8 52)), (4, (.int .u8 53)), (5, (.int .u8 54)), (6, (.int .u8 55)), (7, (.int .u8 56)), (8, (.int .u8 57))]) w7 K) w6 fun v7_11 w8 =>
  gstep v6_9 true (fun w9 K => X Try.prog (convert 27 27 v7_11) w9 K) w8 fun v8_12 w10 =>
  gstep v6_9 true (fun w11 K => CALL Try.prog 51 #[v8_12] w11 K) w10 fun v9_13 w12 =>
  gstep v6_9 true (fun w13 K => X Try.prog (binOpG .eql 23 (.tmp 13) (.const (.int .u32 4236843288)) v9_13 (.int .u32 4236843288)) w13 K) w12 fun v10_14 w14 =>
  X Try.prog (pickS v6_9 v10_14 (.bool false)) w14 fun v11_15 w15 =>
  gstep v11_15 true (fun w16 K => CALL Try.prog 56 #[(.slice none 0 0)] w16 K) w15 fun v12_17 w17 =>
  gstep v11_15 true (fun w18 K => X Try.prog (convert 27 9 v12_17) w18 K) w17 fun v13_18 w19 =>
  gstep v11_15 true (fun w20 K => X Try.prog (binOpG .eql 9 (.tmp 18) (.const (.string { data := #[0, 0, 0, 0] })) v13_18 (.string { data := #[0, 0, 0, 0] })) w20 K) w19 fun v14_19 w21 =>
  X Try.prog (pickS v11_15 v14_19 (.bool false)) w21 fun v15_20 w22 =>
  gstep v15_20 true (fun w23 K => K v4_7 w23) w22 fun v16_22 w24 =>
  gstep v15_20 true (fun w25 K => X Try.prog (Op.unary .not v16_22) w25 K) w24 fun v17_23 w26 =>
  X Try.prog (pickS v15_20 v17_23 (.bool false)) w26 fun v18_24 w27 =>
  K v18_24 w27

theorem eq_law02_shown (w : World) (K : Value → World → Prop) :
    sh Try.prog (Try.f50.body.getD .skip) (retS Try.prog Try.f50.results K) (env0 #[]) w = B_law02_shown  w K := by kernel_rfl

theorem call_law02_shown (w : World) (K : Value → World → Prop) (h : B_law02_shown  w K) : CALL Try.prog 50 #[] w K :=
  call_of_eq (c := Try.f50.body.getD .skip) mixed Try.func50 (by kernel_rfl) (by kernel_rfl) (by kernel_rfl) (Nat.le_of_ble_eq_true (by kernel_rfl)) (eq_law02_shown  w K) h

/-- cellarage/cellaragelaw01.CodecOrder -/
def B_law01_CodecOrder (x0 x1 : Value) (w : World) (K : Value → World → Prop) : Prop :=
  ∃ R, Frame? R ∧
  CALL Try.prog 46 #[(.slice none 0 0), x0, (.int .i64 8)] (drewW w) fun v1_8 w1 =>
  XR Try.prog R (convert 27 9 v1_8) w1 fun v2_9 w2 =>
  CALL Try.prog 46 #[(.slice none 0 0), x1, (.int .i64 8)] w2 fun v3_11 w3 =>
  R w2 w3 ∧
  XR Try.prog R (convert 27 9 v3_11) w3 fun v4_12 w4 =>
  CALL Try.prog 47 #[] w4 fun v5_13 w5 =>
  gstep v5_13 true (fun w6 K => K v2_9 w6) w5 fun v6_15 w7 =>
  gstep v5_13 true (fun w8 K => X Try.prog (Builtin.len_ #[9] 3 #[v6_15]) w8 K) w7 fun v7_16 w9 =>
  gstep v5_13 true (fun w10 K => X Try.prog (binOpG .eql 3 (.tmp 16) (.const (.int .i64 8)) v7_16 (.int .i64 8)) w10 K) w9 fun v8_17 w11 =>
  X Try.prog (pickS v5_13 v8_17 (.bool false)) w11 fun v9_18 w12 =>
  gstep v9_18 true (fun w13 K => K v4_12 w13) w12 fun v10_20 w14 =>
  gstep v9_18 true (fun w15 K => X Try.prog (Builtin.len_ #[9] 3 #[v10_20]) w15 K) w14 fun v11_21 w16 =>
  gstep v9_18 true (fun w17 K => X Try.prog (binOpG .eql 3 (.tmp 21) (.const (.int .i64 8)) v11_21 (.int .i64 8)) w17 K) w16 fun v12_22 w18 =>
  X Try.prog (pickS v9_18 v12_22 (.bool false)) w18 fun v13_23 w19 =>
  gstep v13_23 true (fun w20 K => K v2_9 w20) w19 fun v14_25 w21 =>
  gstep v13_23 true (fun w22 K => K v4_12 w22) w21 fun v15_26 w23 =>
  gstep v13_23 true (fun w24 K => X Try.prog (binOp .lss 9 v14_25 v15_26) w24 K) w23 fun v16_27 w25 =>
  gstep v13_23 true (fun w26 K => K x0 w26) w25 fun v17_28 w27 =>
  gstep v13_23 true (fun w28 K => K x1 w28) w27 fun v18_29 w29 =>
  gstep v13_23 true (fun w30 K => X Try.prog (binOp .lss 22 v17_28 v18_29) w30 K) w29 fun v19_30 w31 =>
  gstep v13_23 true (fun w32 K => X Try.prog (binOpG .eql 4 (.tmp 27) (.tmp 30) v16_27 v19_30) w32 K) w31 fun v20_31 w33 =>
  X Try.prog (pickS v13_23 v20_31 (.bool false)) w33 fun v21_32 w34 =>
  K v21_32 w34

theorem eq_law01_CodecOrder (x0 x1 : Value) (w : World) (K : Value → World → Prop) :
    sh Try.prog (Try.f7.body.getD .skip) (retS Try.prog Try.f7.results K) (env0 #[x0, x1]) w = B_law01_CodecOrder x0 x1 w K := by kernel_rfl

theorem call_law01_CodecOrder (x0 x1 : Value) (w : World) (K : Value → World → Prop) (h : B_law01_CodecOrder x0 x1 w K) : CALL Try.prog 7 #[x0, x1] w K :=
  call_of_eq (c := Try.f7.body.getD .skip) mixed Try.func7 (by kernel_rfl) (by kernel_rfl) (by kernel_rfl) (Nat.le_of_ble_eq_true (by kernel_rfl)) (eq_law01_CodecOrder x0 x1 w K) h

/-- cellarage/cellaragelaw01.CodecTakes -/
def B_law01_CodecTakes (x0 x1 : Value) (w : World) (K : Value → World → Prop) : Prop :=
  CALL Try.prog 47 #[] w fun v1_12 w1 =>
  X Try.prog (Builtin.len_ #[27] 3 #[x0]) w1 fun v2_14 w2 =>
  X Try.prog (binOp .gtr 3 v2_14 (.int .i64 100000)) w2 fun v3_15 w3 =>
  condS v3_15 (
  K v1_12 w3) (
  X Try.prog (Instr.buildSlice 27 0 #[]) w3 fun v4_17 w4 =>
  X Try.prog (Builtin.append_ #[27, 27] 27 #[v4_17, x0]) w4 fun v5_19 w5 =>
  CALL Try.prog 58 #[v5_19] w5 fun v6_21 w6 =>
  X Try.prog (binOpG .eql 54 (.tmp 22) (.const (.pointer none)) v6_21 (.pointer none)) w6 fun v7_23 w7 =>
  condS v7_23 (
  K (.bool false) w7) (
  X Try.prog (Instr.build 57 #[(0, x0)]) w7 fun v8_25 w8 =>
  X Try.prog (Instr.alloc 57 true (.tuple #[])) w8 fun v9_8 w9 =>
  XU Try.prog (Instr.storeAt 57 v9_8 v8_25) w9 fun w10 =>
  X Try.prog (Builtin.len_ #[27] 3 #[v5_19]) w10 fun v10_27 w11 =>
  loopS (fun Q1 ρ1 w12 =>
  X Try.prog (binOp .lss 3 (ρ1 28) (ρ1 27)) w12 fun v11_29 w13 =>
  condS v11_29 (
  X Try.prog (Instr.indexAt 27 (ρ1 6) (ρ1 28)) w13 fun v12_33 w14 =>
  X Try.prog (Instr.loadAt 5 v12_33) w14 fun v13_34 w15 =>
  X Try.prog (binOp .xor 5 v13_34 (.int .u8 85)) w15 fun v14_35 w16 =>
  X Try.prog (Instr.indexAt 27 (ρ1 6) (ρ1 28)) w16 fun v15_36 w17 =>
  XU Try.prog (Instr.storeAt 5 v15_36 v14_35) w17 fun w18 =>
  X Try.prog (binOp .add 3 (ρ1 28) (.int .i64 1)) w18 fun v16_37 w19 =>
  Q1 .normal (upds ρ1 [(28, v16_37), (37, v16_37), (36, v15_36), (35, v14_35), (34, v13_34), (33, v12_33), (32, (ρ1 28)), (31, (ρ1 6)), (9, (ρ1 28)), (30, (ρ1 28)), (29, v11_29)]) w19) (
  Q1 (.exit 0) (upds ρ1 [(29, v11_29)]) w13)) (inBlockS 0 (thenS (fun ρ2 w20 =>
  X Try.prog (Builtin.len_ #[53] 3 #[(ρ2 1)]) w20 fun v17_39 w21 =>
  loopS (fun Q3 ρ3 w22 =>
  X Try.prog (binOp .lss 3 (ρ3 40) (ρ3 39)) w22 fun v18_41 w23 =>
  condS v18_41 (
  X Try.prog (binOp .geq 3 (ρ3 40) (.int .i64 1000)) w23 fun v19_44 w24 =>
  condS v19_44 (
  Q3 (.exit 2) (upds ρ3 [(44, v19_44), (43, (ρ3 40)), (10, (ρ3 40)), (42, (ρ3 40)), (41, v18_41)]) w24) (
  joinS (fun ρ4 w25 =>
  ∃ R, Frame? R ∧
  XP Try.prog (Op.unary .not (ρ4 11)) (drewW w25) fun v20_79 w26 =>
  gstep v20_79 false (fun w27 K => K (ρ4 7) w27) w26 fun v21_81 w28 =>
  gstep v20_79 false (fun w29 K => K (ρ4 0) w29) w28 fun v22_83 w30 =>
  gstep v20_79 false (fun w31 K => XP Try.prog (Builtin.len_ #[27] 3 #[v22_83]) w31 K) w30 fun v23_84 w32 =>
  gstep v20_79 false (fun w33 K => XP Try.prog (Instr.fieldAt 57 (ρ4 8) 1) w33 K) w32 fun v24_85 w34 =>
  gstep v20_79 false (fun w35 K => XR Try.prog R (Instr.loadAt 3 v24_85) w35 K) w34 fun v25_86 w36 =>
  gstep v20_79 false (fun w37 K => XP Try.prog (binOp .sub 3 v23_84 v25_86) w37 K) w36 fun v26_87 w38 =>
  gstep v20_79 false (fun w39 K => CALL Try.prog 63 #[v21_81] w39 K) w38 fun v27_82 w40 =>
  R w38 w40 ∧
  gstep v20_79 false (fun w41 K => XP Try.prog (binOpG .neq 3 (.tmp 82) (.tmp 87) v27_82 v26_87) w41 K) w40 fun v28_88 w42 =>
  XP Try.prog (pickS v20_79 (.bool true) v28_88) w42 fun v29_89 w43 =>
  gstep v29_89 false (fun w44 K => K (ρ4 7) w44) w43 fun v30_91 w45 =>
  gstep v29_89 false (fun w46 K => XP Try.prog (Instr.fieldAt 57 (ρ4 8) 2) w46 K) w45 fun v31_93 w47 =>
  gstep v29_89 false (fun w48 K => XR Try.prog R (Instr.loadAt 30 v31_93) w48 K) w47 fun v32_94 w49 =>
  gstep v29_89 false (fun w50 K => CALL Try.prog 64 #[v30_91] w50 K) w49 fun v33_92 w51 =>
  R w49 w51 ∧
  gstep v29_89 false (fun w52 K => XP Try.prog (binOpG .neq 30 (.tmp 92) (.tmp 94) v33_92 v32_94) w52 K) w51 fun v34_95 w53 =>
  XP Try.prog (pickS v29_89 (.bool true) v34_95) w53 fun v35_96 w54 =>
  gstep v35_96 false (fun w55 K => K (ρ4 7) w55) w54 fun v36_98 w56 =>
  gstep v35_96 false (fun w57 K => CALL Try.prog 65 #[v36_98] w57 K) w56 fun v37_99 w58 =>
  R w56 w58 ∧
  gstep v35_96 false (fun w59 K => CALL Try.prog 66 #[(ρ4 8)] w59 K) w58 fun v38_100 w60 =>
  R w58 w60 ∧
  gstep v35_96 false (fun w61 K => XP Try.prog (binOpG .neq 30 (.tmp 99) (.tmp 100) v37_99 v38_100) w61 K) w60 fun v39_101 w62 =>
  XP Try.prog (pickS v35_96 (.bool true) v39_101) w62 fun v40_102 w63 =>
  condS v40_102 (
  Q3 .ret (upds ρ4 [(4, (.bool false)), (102, v40_102), (101, v39_101), (100, v38_100), (99, v37_99), (98, v36_98), (97, v35_96), (96, v35_96), (95, v34_95), (92, v33_92), (94, v32_94), (93, v31_93), (91, v30_91), (90, v29_89), (89, v29_89), (88, v28_88), (82, v27_82), (87, v26_87), (86, v25_86), (85, v24_85), (84, v23_84), (83, v22_83), (81, v21_81), (80, v20_79), (79, v20_79), (78, (ρ4 11))]) w63) (
  X Try.prog (binOp .add 3 (ρ4 40) (.int .i64 1)) w63 fun v41_103 w64 =>
  Q3 .normal (upds ρ4 [(40, v41_103), (103, v41_103), (102, v40_102), (101, v39_101), (100, v38_100), (99, v37_99), (98, v36_98), (97, v35_96), (96, v35_96), (95, v34_95), (92, v33_92), (94, v32_94), (93, v31_93), (91, v30_91), (90, v29_89), (89, v29_89), (88, v28_88), (82, v27_82), (87, v26_87), (86, v25_86), (85, v24_85), (84, v23_84), (83, v22_83), (81, v21_81), (80, v20_79), (79, v20_79), (78, (ρ4 11))]) w64)) fun J4 =>
  X Try.prog (Instr.indexAt 53 (ρ3 1) (ρ3 40)) w24 fun v42_47 w65 =>
  X Try.prog (Instr.fieldAt 59 v42_47 0) w65 fun v43_48 w66 =>
  X Try.prog (Instr.loadAt 4 v43_48) w66 fun v44_49 w67 =>
  condS v44_49 (
  ∃ R, Frame? R ∧
  XP Try.prog (Instr.indexAt 53 (ρ3 1) (ρ3 40)) (drewW w67) fun v45_53 w68 =>
  XP Try.prog (Instr.fieldAt 59 v45_53 1) w68 fun v46_54 w69 =>
  XR Try.prog R (Instr.loadAt 3 v46_54) w69 fun v47_55 w70 =>
  XP Try.prog (Instr.indexAt 53 (ρ3 1) (ρ3 40)) w70 fun v48_59 w71 =>
  XP Try.prog (Instr.fieldAt 59 v48_59 1) w71 fun v49_60 w72 =>
  XR Try.prog R (Instr.loadAt 3 v49_60) w72 fun v50_61 w73 =>
  CALL Try.prog 59 #[(ρ3 7), v47_55] w73 fun v51_56 w74 =>
  R w73 w74 ∧
  CALL Try.prog 60 #[(ρ3 8), v50_61] w74 fun v52_62 w75 =>
  R w74 w75 ∧
  XP Try.prog (binOpG .eql 9 (.tmp 56) (.tmp 62) v51_56 v52_62) w75 fun v53_63 w76 =>
  J4 (upds ρ3 [(11, v53_63), (63, v53_63), (62, v52_62), (56, v51_56), (61, v50_61), (60, v49_60), (59, v48_59), (58, (ρ3 40)), (57, (ρ3 1)), (55, v47_55), (54, v46_54), (53, v45_53), (52, (ρ3 40)), (51, (ρ3 1)), (50, (ρ3 7)), (49, v44_49), (48, v43_48), (47, v42_47), (46, (ρ3 40)), (45, (ρ3 1)), (11, (.bool true)), (44, v19_44), (43, (ρ3 40)), (10, (ρ3 40)), (42, (ρ3 40)), (41, v18_41)]) w76) (
  ∃ R, Frame? R ∧
  XP Try.prog (Instr.indexAt 53 (ρ3 1) (ρ3 40)) (drewW w67) fun v54_67 w77 =>
  XP Try.prog (Instr.fieldAt 59 v54_67 1) w77 fun v55_68 w78 =>
  XR Try.prog R (Instr.loadAt 3 v55_68) w78 fun v56_69 w79 =>
  XP Try.prog (Instr.indexAt 53 (ρ3 1) (ρ3 40)) w79 fun v57_73 w80 =>
  XP Try.prog (Instr.fieldAt 59 v57_73 1) w80 fun v58_74 w81 =>
  XR Try.prog R (Instr.loadAt 3 v58_74) w81 fun v59_75 w82 =>
  CALL Try.prog 61 #[(ρ3 7), v56_69] w82 fun v60_70 w83 =>
  R w82 w83 ∧
  CALL Try.prog 62 #[(ρ3 8), v59_75] w83 fun v61_76 w84 =>
  R w83 w84 ∧
  XP Try.prog (binOpG .eql 22 (.tmp 70) (.tmp 76) v60_70 v61_76) w84 fun v62_77 w85 =>
  J4 (upds ρ3 [(11, v62_77), (77, v62_77), (76, v61_76), (70, v60_70), (75, v59_75), (74, v58_74), (73, v57_73), (72, (ρ3 40)), (71, (ρ3 1)), (69, v56_69), (68, v55_68), (67, v54_67), (66, (ρ3 40)), (65, (ρ3 1)), (64, (ρ3 7)), (49, v44_49), (48, v43_48), (47, v42_47), (46, (ρ3 40)), (45, (ρ3 1)), (11, (.bool true)), (44, v19_44), (43, (ρ3 40)), (10, (ρ3 40)), (42, (ρ3 40)), (41, v18_41)]) w85))) (
  Q3 (.exit 2) (upds ρ3 [(41, v18_41)]) w23)) (inBlockS 2 (thenS (fun ρ5 w86 =>
  K (ρ5 5) w86) (retS Try.prog (Try.f16).results K))) (upds ρ2 [(40, (.int .i64 0)), (39, v17_39), (38, (ρ2 1))]) w21) (retS Try.prog (Try.f16).results K))) (upds (env0 #[x0, x1]) [(28, (.int .i64 0)), (27, v10_27), (26, v5_19), (8, v9_8), (25, v8_25), (24, x0), (23, v7_23), (22, v6_21), (7, v6_21), (21, v6_21), (20, v5_19), (6, v5_19), (19, v5_19), (18, x0), (17, v4_17), (15, v3_15), (14, v2_14), (13, x0), (5, v1_12), (12, v1_12), (4, (.bool false))]) w11))

theorem eq_law01_CodecTakes (x0 x1 : Value) (w : World) (K : Value → World → Prop) :
    sh Try.prog (Try.f16.body.getD .skip) (retS Try.prog Try.f16.results K) (env0 #[x0, x1]) w = B_law01_CodecTakes x0 x1 w K := by kernel_rfl

theorem call_law01_CodecTakes (x0 x1 : Value) (w : World) (K : Value → World → Prop) (h : B_law01_CodecTakes x0 x1 w K) : CALL Try.prog 16 #[x0, x1] w K :=
  call_of_eq (c := Try.f16.body.getD .skip) mixed Try.func16 (by kernel_rfl) (by kernel_rfl) (by kernel_rfl) (Nat.le_of_ble_eq_true (by kernel_rfl)) (eq_law01_CodecTakes x0 x1 w K) h

/-- cellarage/cellaragelaw01.CodecBack -/
def B_law01_CodecBack (x0 x1 x2 : Value) (w : World) (K : Value → World → Prop) : Prop :=
  CALL Try.prog 47 #[] w fun v1_18 w1 =>
  ∃ R, Frame? R ∧
  XP Try.prog (Builtin.len_ #[65] 3 #[x0]) (drewW w1) fun v2_21 w2 =>
  XP Try.prog (Builtin.min_ #[3, 3] 3 #[v2_21, (.int .i64 100)]) w2 fun v3_22 w3 =>
  XP Try.prog (Instr.sliceAt 65 x0 none (some v3_22) none) w3 fun v4_23 w4 =>
  XP Try.prog (Builtin.len_ #[66] 3 #[x1]) w4 fun v5_26 w5 =>
  XP Try.prog (Builtin.min_ #[3, 3] 3 #[v5_26, (.int .i64 100)]) w5 fun v6_27 w6 =>
  XP Try.prog (Instr.sliceAt 66 x1 none (some v6_27) none) w6 fun v7_28 w7 =>
  X Try.prog (Builtin.len_ #[65] 3 #[v4_23]) w7 fun v8_30 w8 =>
  loopS (fun Q1 ρ1 w9 =>
  X Try.prog (binOp .lss 3 (ρ1 31) (ρ1 30)) w9 fun v9_32 w10 =>
  condS v9_32 (
  X Try.prog (Instr.indexAt 65 (ρ1 8) (ρ1 31)) w10 fun v10_37 w11 =>
  X Try.prog (Instr.loadAt 22 v10_37) w11 fun v11_38 w12 =>
  CALL Try.prog 46 #[(ρ1 10), v11_38, (.int .i64 8)] w12 fun v12_39 w13 =>
  X Try.prog (binOp .add 3 (ρ1 31) (.int .i64 1)) w13 fun v13_40 w14 =>
  Q1 .normal (upds ρ1 [(31, v13_40), (40, v13_40), (10, v12_39), (39, v12_39), (38, v11_38), (37, v10_37), (36, (ρ1 31)), (35, (ρ1 8)), (34, (ρ1 10)), (11, (ρ1 31)), (33, (ρ1 31)), (32, v9_32)]) w14) (
  Q1 (.exit 0) (upds ρ1 [(32, v9_32)]) w10)) (inBlockS 0 (thenS (fun ρ2 w15 =>
  X Try.prog (Builtin.len_ #[66] 3 #[(ρ2 9)]) w15 fun v14_42 w16 =>
  loopS (fun Q3 ρ3 w17 =>
  X Try.prog (binOp .lss 3 (ρ3 43) (ρ3 42)) w17 fun v15_44 w18 =>
  condS v15_44 (
  X Try.prog (Instr.indexAt 66 (ρ3 9) (ρ3 43)) w18 fun v16_48 w19 =>
  X Try.prog (Instr.loadAt 9 v16_48) w19 fun v17_49 w20 =>
  X Try.prog (Builtin.len_ #[9] 3 #[v17_49]) w20 fun v18_50 w21 =>
  X Try.prog (binOp .gtr 3 v18_50 (.int .i64 10000)) w21 fun v19_51 w22 =>
  condS v19_51 (
  Q3 .ret (upds ρ3 [(6, (ρ3 7)), (52, (ρ3 7)), (51, v19_51), (50, v18_50), (49, v17_49), (48, v16_48), (47, (ρ3 43)), (46, (ρ3 9)), (12, (ρ3 43)), (45, (ρ3 43)), (44, v15_44)]) w22) (
  X Try.prog (Instr.indexAt 66 (ρ3 9) (ρ3 43)) w22 fun v20_56 w23 =>
  X Try.prog (Instr.loadAt 9 v20_56) w23 fun v21_57 w24 =>
  CALL Try.prog 67 #[(ρ3 10), v21_57] w24 fun v22_58 w25 =>
  X Try.prog (binOp .add 3 (ρ3 43) (.int .i64 1)) w25 fun v23_59 w26 =>
  Q3 .normal (upds ρ3 [(43, v23_59), (59, v23_59), (10, v22_58), (58, v22_58), (57, v21_57), (56, v20_56), (55, (ρ3 43)), (54, (ρ3 9)), (53, (ρ3 10)), (51, v19_51), (50, v18_50), (49, v17_49), (48, v16_48), (47, (ρ3 43)), (46, (ρ3 9)), (12, (ρ3 43)), (45, (ρ3 43)), (44, v15_44)]) w26)) (
  Q3 (.exit 2) (upds ρ3 [(44, v15_44)]) w18)) (inBlockS 2 (thenS (fun ρ4 w27 =>
  X Try.prog (binOp .rem 5 (ρ4 2) (.int .u8 9)) w27 fun v24_61 w28 =>
  X Try.prog (convert 5 3 v24_61) w28 fun v25_62 w29 =>
  CALL Try.prog 46 #[(ρ4 10), (.int .u64 9223372036854775813), v25_62] w29 fun v26_65 w30 =>
  CALL Try.prog 58 #[v26_65] w30 fun v27_67 w31 =>
  X Try.prog (binOpG .eql 54 (.tmp 68) (.const (.pointer none)) v27_67 (.pointer none)) w31 fun v28_69 w32 =>
  condS v28_69 (
  K (.bool false) w32) (
  X Try.prog (Builtin.len_ #[65] 3 #[(ρ4 8)]) w32 fun v29_71 w33 =>
  loopS (fun Q5 ρ5 w34 =>
  X Try.prog (binOp .lss 3 (ρ5 72) (ρ5 71)) w34 fun v30_73 w35 =>
  condS v30_73 (
  ∃ R, Frame? R ∧
  XP Try.prog (Instr.indexAt 65 (ρ5 8) (ρ5 72)) (drewW w35) fun v31_79 w36 =>
  XR Try.prog R (Instr.loadAt 22 v31_79) w36 fun v32_80 w37 =>
  CALL Try.prog 61 #[(ρ5 14), (.int .i64 8)] w37 fun v33_76 w38 =>
  R w37 w38 ∧
  XP Try.prog (binOpG .neq 22 (.tmp 76) (.tmp 80) v33_76 v32_80) w38 fun v34_81 w39 =>
  condS v34_81 (
  Q5 .ret (upds ρ5 [(6, (.bool false)), (81, v34_81), (76, v33_76), (80, v32_80), (79, v31_79), (78, (ρ5 72)), (77, (ρ5 8)), (75, (ρ5 14)), (15, (ρ5 72)), (74, (ρ5 72)), (73, v30_73)]) w39) (
  X Try.prog (binOp .add 3 (ρ5 72) (.int .i64 1)) w39 fun v35_82 w40 =>
  Q5 .normal (upds ρ5 [(72, v35_82), (82, v35_82), (81, v34_81), (76, v33_76), (80, v32_80), (79, v31_79), (78, (ρ5 72)), (77, (ρ5 8)), (75, (ρ5 14)), (15, (ρ5 72)), (74, (ρ5 72)), (73, v30_73)]) w40)) (
  Q5 (.exit 4) (upds ρ5 [(73, v30_73)]) w35)) (inBlockS 4 (thenS (fun ρ6 w41 =>
  X Try.prog (Builtin.len_ #[66] 3 #[(ρ6 9)]) w41 fun v36_84 w42 =>
  loopS (fun Q7 ρ7 w43 =>
  X Try.prog (binOp .lss 3 (ρ7 85) (ρ7 84)) w43 fun v37_86 w44 =>
  condS v37_86 (
  ∃ R, Frame? R ∧
  XP Try.prog (Instr.indexAt 66 (ρ7 9) (ρ7 85)) (drewW w44) fun v38_91 w45 =>
  XR Try.prog R (Instr.loadAt 9 v38_91) w45 fun v39_92 w46 =>
  XP Try.prog (Builtin.len_ #[9] 3 #[v39_92]) w46 fun v40_93 w47 =>
  XP Try.prog (Instr.indexAt 66 (ρ7 9) (ρ7 85)) w47 fun v41_97 w48 =>
  XR Try.prog R (Instr.loadAt 9 v41_97) w48 fun v42_98 w49 =>
  CALL Try.prog 59 #[(ρ7 14), v40_93] w49 fun v43_94 w50 =>
  R w49 w50 ∧
  XP Try.prog (binOpG .neq 9 (.tmp 94) (.tmp 98) v43_94 v42_98) w50 fun v44_99 w51 =>
  condS v44_99 (
  Q7 .ret (upds ρ7 [(6, (.bool false)), (99, v44_99), (94, v43_94), (98, v42_98), (97, v41_97), (96, (ρ7 85)), (95, (ρ7 9)), (93, v40_93), (92, v39_92), (91, v38_91), (90, (ρ7 85)), (89, (ρ7 9)), (88, (ρ7 14)), (16, (ρ7 85)), (87, (ρ7 85)), (86, v37_86)]) w51) (
  X Try.prog (binOp .add 3 (ρ7 85) (.int .i64 1)) w51 fun v45_100 w52 =>
  Q7 .normal (upds ρ7 [(85, v45_100), (100, v45_100), (99, v44_99), (94, v43_94), (98, v42_98), (97, v41_97), (96, (ρ7 85)), (95, (ρ7 9)), (93, v40_93), (92, v39_92), (91, v38_91), (90, (ρ7 85)), (89, (ρ7 9)), (88, (ρ7 14)), (16, (ρ7 85)), (87, (ρ7 85)), (86, v37_86)]) w52)) (
  Q7 (.exit 6) (upds ρ7 [(86, v37_86)]) w44)) (inBlockS 6 (thenS (fun ρ8 w53 =>
  CALL Try.prog 61 #[(ρ8 14), (ρ8 13)] w53 fun v46_103 w54 =>
  gstep (ρ8 7) true (fun w55 K => K (ρ8 14) w55) w54 fun v47_106 w56 =>
  gstep (ρ8 7) true (fun w57 K => CALL Try.prog 65 #[v47_106] w57 K) w56 fun v48_107 w58 =>
  gstep (ρ8 7) true (fun w59 K => X Try.prog (binOpG .eql 30 (.tmp 107) (.const (.int .i64 0)) v48_107 (.int .i64 0)) w59 K) w58 fun v49_108 w60 =>
  X Try.prog (pickS (ρ8 7) v49_108 (.bool false)) w60 fun v50_109 w61 =>
  gstep v50_109 true (fun w62 K => K (ρ8 13) w62) w61 fun v51_111 w63 =>
  gstep v50_109 true (fun w64 K => X Try.prog (binOpG .eql 3 (.tmp 111) (.const (.int .i64 0)) v51_111 (.int .i64 0)) w64 K) w63 fun v52_112 w65 =>
  gstep v50_109 true (fun w66 K => K v46_103 w66) w65 fun v53_113 w67 =>
  gstep v50_109 true (fun w68 K => X Try.prog (binOpG .eql 22 (.tmp 113) (.const (.int .u64 0)) v53_113 (.int .u64 0)) w68 K) w67 fun v54_114 w69 =>
  gstep v50_109 true (fun w70 K => X Try.prog (binOpG .eql 4 (.tmp 112) (.tmp 114) v52_112 v54_114) w70 K) w69 fun v55_115 w71 =>
  X Try.prog (pickS v50_109 v55_115 (.bool false)) w71 fun v56_116 w72 =>
  K v56_116 w72) (retS Try.prog (Try.f17).results K))) (upds ρ6 [(85, (.int .i64 0)), (84, v36_84), (83, (ρ6 9))]) w42) (retS Try.prog (Try.f17).results K))) (upds ρ4 [(72, (.int .i64 0)), (71, v29_71), (70, (ρ4 8)), (69, v28_69), (68, v27_67), (14, v27_67), (67, v27_67), (66, v26_65), (10, v26_65), (65, v26_65), (64, v25_62), (63, (ρ4 10)), (13, v25_62), (62, v25_62), (61, v24_61), (60, (ρ4 2))]) w33)) (retS Try.prog (Try.f17).results K))) (upds ρ2 [(43, (.int .i64 0)), (42, v14_42), (41, (ρ2 9))]) w16) (retS Try.prog (Try.f17).results K))) (upds (env0 #[x0, x1, x2]) [(31, (.int .i64 0)), (30, v8_30), (29, v4_23), (10, (.slice none 0 0)), (9, v7_28), (8, v4_23), (28, v7_28), (27, v6_27), (26, v5_26), (25, x1), (24, x1), (23, v4_23), (22, v3_22), (21, v2_21), (20, x0), (19, x0), (7, v1_18), (18, v1_18), (6, (.bool false))]) w8

theorem eq_law01_CodecBack (x0 x1 x2 : Value) (w : World) (K : Value → World → Prop) :
    sh Try.prog (Try.f17.body.getD .skip) (retS Try.prog Try.f17.results K) (env0 #[x0, x1, x2]) w = B_law01_CodecBack x0 x1 x2 w K := by kernel_rfl

theorem call_law01_CodecBack (x0 x1 x2 : Value) (w : World) (K : Value → World → Prop) (h : B_law01_CodecBack x0 x1 x2 w K) : CALL Try.prog 17 #[x0, x1, x2] w K :=
  call_of_eq (c := Try.f17.body.getD .skip) mixed Try.func17 (by kernel_rfl) (by kernel_rfl) (by kernel_rfl) (Nat.le_of_ble_eq_true (by kernel_rfl)) (eq_law01_CodecBack x0 x1 x2 w K) h

/-- cellarage/cellaragelaw01.CodecShort -/
def B_law01_CodecShort (x0 x1 x2 : Value) (w : World) (K : Value → World → Prop) : Prop :=
  CALL Try.prog 47 #[] w fun v1_13 w1 =>
  X Try.prog (Builtin.len_ #[9] 3 #[x1]) w1 fun v2_15 w2 =>
  X Try.prog (binOp .gtr 3 v2_15 (.int .i64 100000)) w2 fun v3_16 w3 =>
  condS v3_16 (
  K v1_13 w3) (
  CALL Try.prog 46 #[(.slice none 0 0), x0, (.int .i64 8)] w3 fun v4_19 w4 =>
  CALL Try.prog 67 #[(.slice none 0 0), x1] w4 fun v5_21 w5 =>
  X Try.prog (Instr.buildSlice 70 2 #[(0, v4_19), (1, v5_21)]) w5 fun v6_22 w6 =>
  X Try.prog (Builtin.len_ #[70] 3 #[v6_22]) w6 fun v7_23 w7 =>
  loopS (fun Q1 ρ1 w8 =>
  X Try.prog (binOp .lss 3 (ρ1 24) (ρ1 23)) w8 fun v8_25 w9 =>
  condS v8_25 (
  X Try.prog (Instr.indexAt 70 (ρ1 22) (ρ1 24)) w9 fun v9_27 w10 =>
  X Try.prog (Instr.loadAt 27 v9_27) w10 fun v10_28 w11 =>
  X Try.prog (Builtin.len_ #[27] 3 #[v10_28]) w11 fun v11_30 w12 =>
  X Try.prog (binOpG .eql 3 (.tmp 30) (.const (.int .i64 0)) v11_30 (.int .i64 0)) w12 fun v12_31 w13 =>
  condS v12_31 (
  Q1 .ret (upds ρ1 [(6, (.bool false)), (31, v12_31), (30, v11_30), (29, v10_28), (9, v10_28), (8, (ρ1 24)), (28, v10_28), (27, v9_27), (26, (ρ1 24)), (25, v8_25)]) w13) (
  X Try.prog (convert 69 3 (ρ1 2)) w13 fun v13_33 w14 =>
  X Try.prog (Builtin.len_ #[27] 3 #[v10_28]) w14 fun v14_35 w15 =>
  X Try.prog (binOp .rem 3 v13_33 v14_35) w15 fun v15_36 w16 =>
  X Try.prog (Instr.sliceAt 27 v10_28 none (some v15_36) none) w16 fun v16_39 w17 =>
  CALL Try.prog 58 #[v16_39] w17 fun v17_40 w18 =>
  X Try.prog (binOpG .eql 54 (.tmp 41) (.const (.pointer none)) v17_40 (.pointer none)) w18 fun v18_42 w19 =>
  condS v18_42 (
  Q1 .ret (upds ρ1 [(6, (.bool false)), (42, v18_42), (41, v17_40), (11, v17_40), (40, v17_40), (39, v16_39), (38, v15_36), (37, v10_28), (10, v15_36), (36, v15_36), (35, v14_35), (34, v10_28), (33, v13_33), (32, (ρ1 2)), (31, v12_31), (30, v11_30), (29, v10_28), (9, v10_28), (8, (ρ1 24)), (28, v10_28), (27, v9_27), (26, (ρ1 24)), (25, v8_25)]) w19) (
  joinS (fun ρ2 w20 =>
  X Try.prog (Op.unary .not (ρ2 12)) w20 fun v19_54 w21 =>
  gstep v19_54 false (fun w22 K => K (ρ2 11) w22) w21 fun v20_56 w23 =>
  gstep v19_54 false (fun w24 K => CALL Try.prog 64 #[v20_56] w24 K) w23 fun v21_57 w25 =>
  gstep v19_54 false (fun w26 K => X Try.prog (binOpG .neq 30 (.tmp 57) (.const (.int .i64 10)) v21_57 (.int .i64 10)) w26 K) w25 fun v22_58 w27 =>
  X Try.prog (pickS v19_54 (.bool true) v22_58) w27 fun v23_59 w28 =>
  gstep v23_59 false (fun w29 K => K (ρ2 11) w29) w28 fun v24_61 w30 =>
  gstep v23_59 false (fun w31 K => CALL Try.prog 63 #[v24_61] w31 K) w30 fun v25_62 w32 =>
  gstep v23_59 false (fun w33 K => K (ρ2 10) w33) w32 fun v26_63 w34 =>
  gstep v23_59 false (fun w35 K => X Try.prog (binOpG .neq 3 (.tmp 62) (.tmp 63) v25_62 v26_63) w35 K) w34 fun v27_64 w36 =>
  X Try.prog (pickS v23_59 (.bool true) v27_64) w36 fun v28_65 w37 =>
  gstep v28_65 false (fun w38 K => K (ρ2 11) w38) w37 fun v29_67 w39 =>
  gstep v28_65 false (fun w40 K => CALL Try.prog 61 #[v29_67, (.int .i64 0)] w40 K) w39 fun v30_68 w41 =>
  gstep v28_65 false (fun w42 K => X Try.prog (binOpG .neq 22 (.tmp 68) (.const (.int .u64 0)) v30_68 (.int .u64 0)) w42 K) w41 fun v31_69 w43 =>
  X Try.prog (pickS v28_65 (.bool true) v31_69) w43 fun v32_70 w44 =>
  gstep v32_70 false (fun w45 K => K (ρ2 11) w45) w44 fun v33_72 w46 =>
  gstep v32_70 false (fun w47 K => CALL Try.prog 59 #[v33_72, (.int .i64 9)] w47 K) w46 fun v34_73 w48 =>
  gstep v32_70 false (fun w49 K => X Try.prog (binOpG .neq 9 (.tmp 73) (.const (.string { data := #[] })) v34_73 (.string { data := #[] })) w49 K) w48 fun v35_74 w50 =>
  X Try.prog (pickS v32_70 (.bool true) v35_74) w50 fun v36_75 w51 =>
  gstep v36_75 false (fun w52 K => K (ρ2 11) w52) w51 fun v37_77 w53 =>
  gstep v36_75 false (fun w54 K => CALL Try.prog 65 #[v37_77] w54 K) w53 fun v38_78 w55 =>
  gstep v36_75 false (fun w56 K => X Try.prog (binOpG .neq 30 (.tmp 78) (.const (.int .i64 10)) v38_78 (.int .i64 10)) w56 K) w55 fun v39_79 w57 =>
  X Try.prog (pickS v36_75 (.bool true) v39_79) w57 fun v40_80 w58 =>
  condS v40_80 (
  Q1 .ret (upds ρ2 [(6, (.bool false)), (80, v40_80), (79, v39_79), (78, v38_78), (77, v37_77), (76, v36_75), (75, v36_75), (74, v35_74), (73, v34_73), (72, v33_72), (71, v32_70), (70, v32_70), (69, v31_69), (68, v30_68), (67, v29_67), (66, v28_65), (65, v28_65), (64, v27_64), (63, v26_63), (62, v25_62), (61, v24_61), (60, v23_59), (59, v23_59), (58, v22_58), (57, v21_57), (56, v20_56), (55, v19_54), (54, v19_54), (53, (ρ2 12))]) w58) (
  X Try.prog (binOp .add 3 (ρ2 24) (.int .i64 1)) w58 fun v41_81 w59 =>
  Q1 .normal (upds ρ2 [(24, v41_81), (81, v41_81), (80, v40_80), (79, v39_79), (78, v38_78), (77, v37_77), (76, v36_75), (75, v36_75), (74, v35_74), (73, v34_73), (72, v33_72), (71, v32_70), (70, v32_70), (69, v31_69), (68, v30_68), (67, v29_67), (66, v28_65), (65, v28_65), (64, v27_64), (63, v26_63), (62, v25_62), (61, v24_61), (60, v23_59), (59, v23_59), (58, v22_58), (57, v21_57), (56, v20_56), (55, v19_54), (54, v19_54), (53, (ρ2 12))]) w59)) fun J2 =>
  X Try.prog (binOpG .eql 3 (.tmp 43) (.const (.int .i64 0)) (ρ1 24) (.int .i64 0)) w19 fun v42_44 w60 =>
  condS v42_44 (
  CALL Try.prog 61 #[v17_40, (.int .i64 8)] w60 fun v43_46 w61 =>
  X Try.prog (binOpG .eql 22 (.tmp 46) (.const (.int .u64 0)) v43_46 (.int .u64 0)) w61 fun v44_47 w62 =>
  J2 (upds ρ1 [(12, v44_47), (47, v44_47), (46, v43_46), (45, v17_40), (44, v42_44), (43, (ρ1 24)), (12, (.bool true)), (42, v18_42), (41, v17_40), (11, v17_40), (40, v17_40), (39, v16_39), (38, v15_36), (37, v10_28), (10, v15_36), (36, v15_36), (35, v14_35), (34, v10_28), (33, v13_33), (32, (ρ1 2)), (31, v12_31), (30, v11_30), (29, v10_28), (9, v10_28), (8, (ρ1 24)), (28, v10_28), (27, v9_27), (26, (ρ1 24)), (25, v8_25)]) w62) (
  X Try.prog (Builtin.len_ #[9] 3 #[(ρ1 1)]) w60 fun v45_50 w63 =>
  CALL Try.prog 59 #[v17_40, v45_50] w63 fun v46_51 w64 =>
  X Try.prog (binOpG .eql 9 (.tmp 51) (.const (.string { data := #[] })) v46_51 (.string { data := #[] })) w64 fun v47_52 w65 =>
  J2 (upds ρ1 [(12, v47_52), (52, v47_52), (51, v46_51), (50, v45_50), (49, (ρ1 1)), (48, v17_40), (44, v42_44), (43, (ρ1 24)), (12, (.bool true)), (42, v18_42), (41, v17_40), (11, v17_40), (40, v17_40), (39, v16_39), (38, v15_36), (37, v10_28), (10, v15_36), (36, v15_36), (35, v14_35), (34, v10_28), (33, v13_33), (32, (ρ1 2)), (31, v12_31), (30, v11_30), (29, v10_28), (9, v10_28), (8, (ρ1 24)), (28, v10_28), (27, v9_27), (26, (ρ1 24)), (25, v8_25)]) w65)))) (
  Q1 (.exit 0) (upds ρ1 [(25, v8_25)]) w9)) (inBlockS 0 (thenS (fun ρ3 w66 =>
  K (ρ3 7) w66) (retS Try.prog (Try.f18).results K))) (upds (env0 #[x0, x1, x2]) [(24, (.int .i64 0)), (23, v7_23), (22, v6_22), (21, v5_21), (20, x1), (19, v4_19), (18, x0), (16, v3_16), (15, v2_15), (14, x1), (7, v1_13), (13, v1_13), (6, (.bool false))]) w7)

theorem eq_law01_CodecShort (x0 x1 x2 : Value) (w : World) (K : Value → World → Prop) :
    sh Try.prog (Try.f18.body.getD .skip) (retS Try.prog Try.f18.results K) (env0 #[x0, x1, x2]) w = B_law01_CodecShort x0 x1 x2 w K := by kernel_rfl

theorem call_law01_CodecShort (x0 x1 x2 : Value) (w : World) (K : Value → World → Prop) (h : B_law01_CodecShort x0 x1 x2 w K) : CALL Try.prog 18 #[x0, x1, x2] w K :=
  call_of_eq (c := Try.f18.body.getD .skip) mixed Try.func18 (by kernel_rfl) (by kernel_rfl) (by kernel_rfl) (Nat.le_of_ble_eq_true (by kernel_rfl)) (eq_law01_CodecShort x0 x1 x2 w K) h

/-- cellarage/cellaragelaw01.CodecNil -/
def B_law01_CodecNil (x0 : Value) (w : World) (K : Value → World → Prop) : Prop :=
  CALL Try.prog 47 #[] w fun v1_4 w1 =>
  gstep v1_4 true (fun w2 K => K (.pointer none) w2) w1 fun v2_6 w3 =>
  gstep v1_4 true (fun w4 K => K x0 w4) w3 fun v3_7 w5 =>
  gstep v1_4 true (fun w6 K => CALL Try.prog 61 #[v2_6, v3_7] w6 K) w5 fun v4_8 w7 =>
  gstep v1_4 true (fun w8 K => X Try.prog (binOpG .eql 22 (.tmp 8) (.const (.int .u64 0)) v4_8 (.int .u64 0)) w8 K) w7 fun v5_9 w9 =>
  X Try.prog (pickS v1_4 v5_9 (.bool false)) w9 fun v6_10 w10 =>
  gstep v6_10 true (fun w11 K => K (.pointer none) w11) w10 fun v7_12 w12 =>
  gstep v6_10 true (fun w13 K => K x0 w13) w12 fun v8_13 w14 =>
  gstep v6_10 true (fun w15 K => CALL Try.prog 59 #[v7_12, v8_13] w15 K) w14 fun v9_14 w16 =>
  gstep v6_10 true (fun w17 K => X Try.prog (binOpG .eql 9 (.tmp 14) (.const (.string { data := #[] })) v9_14 (.string { data := #[] })) w17 K) w16 fun v10_15 w18 =>
  X Try.prog (pickS v6_10 v10_15 (.bool false)) w18 fun v11_16 w19 =>
  gstep v11_16 true (fun w20 K => K (.pointer none) w20) w19 fun v12_18 w21 =>
  gstep v11_16 true (fun w22 K => CALL Try.prog 63 #[v12_18] w22 K) w21 fun v13_19 w23 =>
  gstep v11_16 true (fun w24 K => X Try.prog (binOpG .eql 3 (.tmp 19) (.const (.int .i64 0)) v13_19 (.int .i64 0)) w24 K) w23 fun v14_20 w25 =>
  X Try.prog (pickS v11_16 v14_20 (.bool false)) w25 fun v15_21 w26 =>
  gstep v15_21 true (fun w27 K => K (.pointer none) w27) w26 fun v16_23 w28 =>
  gstep v15_21 true (fun w29 K => CALL Try.prog 64 #[v16_23] w29 K) w28 fun v17_24 w30 =>
  gstep v15_21 true (fun w31 K => X Try.prog (binOpG .eql 30 (.tmp 24) (.const (.int .i64 0)) v17_24 (.int .i64 0)) w31 K) w30 fun v18_25 w32 =>
  X Try.prog (pickS v15_21 v18_25 (.bool false)) w32 fun v19_26 w33 =>
  gstep v19_26 true (fun w34 K => K (.pointer none) w34) w33 fun v20_28 w35 =>
  gstep v19_26 true (fun w36 K => CALL Try.prog 65 #[v20_28] w36 K) w35 fun v21_29 w37 =>
  gstep v19_26 true (fun w38 K => X Try.prog (binOpG .eql 30 (.tmp 29) (.const (.int .i64 0)) v21_29 (.int .i64 0)) w38 K) w37 fun v22_30 w39 =>
  X Try.prog (pickS v19_26 v22_30 (.bool false)) w39 fun v23_31 w40 =>
  K v23_31 w40

theorem eq_law01_CodecNil (x0 : Value) (w : World) (K : Value → World → Prop) :
    sh Try.prog (Try.f19.body.getD .skip) (retS Try.prog Try.f19.results K) (env0 #[x0]) w = B_law01_CodecNil x0 w K := by kernel_rfl

theorem call_law01_CodecNil (x0 : Value) (w : World) (K : Value → World → Prop) (h : B_law01_CodecNil x0 w K) : CALL Try.prog 19 #[x0] w K :=
  call_of_eq (c := Try.f19.body.getD .skip) mixed Try.func19 (by kernel_rfl) (by kernel_rfl) (by kernel_rfl) (Nat.le_of_ble_eq_true (by kernel_rfl)) (eq_law01_CodecNil x0 w K) h

end Go.Proofs.Ytggggfcgnkllgaa
