/- Part 7 of what the law is proved with: T6 Crc3 Shown02 Alike T12 Acts12 Shown12 VaultLaw Kit2 Puts12 Duo. -/
import Derived.Lib.SlBytesConst
import Derived.Test.YtggggfcgnkllgaaQV6
section
set_option linter.unusedVariables false
namespace Go.Proofs.Ytggggfcgnkllgaa
open Go Go.Sh
attribute [local irreducible] X XU XP XR CALL loopS resC closS
/-- cellarage/cellaragelaw02.shown -/
def B_law02_shown (w : World) (K : Value → World → Prop) : Prop :=
  X Try.prog (Instr.buildSlice 27 3 #[(0, (.int .u8 1)), (1, (.int .u8 2)), (2, (.int .u8 3))]) w fun v1_4 w1 =>
  CALL Try.prog 54 #[v1_4] w1 fun v2_5 w2 =>
  X Try.prog (Instr.extract v2_5 0) w2 fun v3_6 w3 =>
  X Try.prog (Instr.extract v2_5 1) w3 fun v4_7 w4 =>
  CALL Try.prog 51 #[(.slice none 0 0)] w4 fun v5_8 w5 =>
  X Try.prog (binOpG .eql 23 (.tmp 8) (.const (.int .u32 0)) v5_8 (.int .u32 0)) w5 fun v6_9 w6 =>
  gstep v6_9 true (fun w7 K => X Try.prog (Instr.buildSlice 27 9 #[(0, (.int .u8 49)), (1, (.int .u8 50)), (2, (.int .u8 51)), (3, (.int .u8 52)), (4, (.int .u8 53)), (5, (.int .u8 54)), (6, (.int .u8 55)), (7, (.int .u8 56)), (8, (.int .u8 57))]) w7 K) w6 fun v7_11 w8 =>
  gstep v6_9 true (fun w9 K => X Try.prog (convert 27 27 v7_11) w9 K) w8 fun v8_12 w10 =>
  gstep v6_9 true (fun w11 K => CALL Try.prog 51 #[v8_12] w11 K) w10 fun v9_13 w12 =>
  gstep v6_9 true (fun w13 K => X Try.prog (binOpG .eql 23 (.tmp 13) (.const (.int .u32 4236843288)) v9_13 (.int .u32 4236843288)) w13 K) w12 fun v10_14 w14 =>
  X Try.prog (pickS v6_9 v10_14 (.bool false)) w14 fun v11_15 w15 =>
  gstep v11_15 true (fun w16 K => CALL Try.prog 56 #[(.slice none 0 0)] w16 K) w15 fun v12_17 w17 =>
  gstep v11_15 true (fun w18 K => X Try.prog (convert 27 9 v12_17) w18 K) w17 fun v13_18 w19 =>
  gstep v11_15 true (fun w20 K => X Try.prog (binOpG .eql 9 (.tmp 18) (.const (.string { data := #[0, 0, 0, 0] })) v13_18 (.string { data := #[0, 0, 0, 0] })) w20 K) w19 fun v14_19 w21 =>
  X Try.prog (pickS v11_15 v14_19 (.bool false)) w21 fun v15_20 w22 =>
  gstep v15_20 true (fun w23 K => K v4_7 w23) w22 fun v16_22 w24 =>
  gstep v15_20 true (fun w25 K => X Try.prog (Op.unary .not v16_22) w25 K) w24 fun v17_23 w26 =>
  X Try.prog (pickS v15_20 v17_23 (.bool false)) w26 fun v18_24 w27 =>
  K v18_24 w27

theorem eq_law02_shown (w : World) (K : Value → World → Prop) :
    sh Try.prog (Try.f50.body.getD .skip) (retS Try.prog Try.f50.results K) (env0 #[]) w = B_law02_shown  w K := by kernel_rfl

theorem call_law02_shown (w : World) (K : Value → World → Prop) (h : B_law02_shown  w K) : CALL Try.prog 50 #[] w K :=
  call_of_eq (c := Try.f50.body.getD .skip) mixed Try.func50 (by kernel_rfl) (by kernel_rfl) (by kernel_rfl) (Nat.le_of_ble_eq_true (by kernel_rfl)) (eq_law02_shown  w K) h

/-- cellarage/cellaragelaw01.CodecOrder -/
def B_law01_CodecOrder (x0 x1 : Value) (w : World) (K : Value → World → Prop) : Prop :=
  ∃ R, Frame? R ∧
  CALL Try.prog 46 #[(.slice none 0 0), x0, (.int .i64 8)] (drewW w) fun v1_8 w1 =>
  XR Try.prog R (convert 27 9 v1_8) w1 fun v2_9 w2 =>
  CALL Try.prog 46 #[(.slice none 0 0), x1, (.int .i64 8)] w2 fun v3_11 w3 =>
  R w2 w3 ∧
  XR Try.prog R (convert 27 9 v3_11) w3 fun v4_12 w4 =>
  CALL Try.prog 47 #[] w4 fun v5_13 w5 =>
  gstep v5_13 true (fun w6 K => K v2_9 w6) w5 fun v6_15 w7 =>
  gstep v5_13 true (fun w8 K => X Try.prog (Builtin.len_ #[9] 3 #[v6_15]) w8 K) w7 fun v7_16 w9 =>
  gstep v5_13 true (fun w10 K => X Try.prog (binOpG .eql 3 (.tmp 16) (.const (.int .i64 8)) v7_16 (.int .i64 8)) w10 K) w9 fun v8_17 w11 =>
  X Try.prog (pickS v5_13 v8_17 (.bool false)) w11 fun v9_18 w12 =>
  gstep v9_18 true (fun w13 K => K v4_12 w13) w12 fun v10_20 w14 =>
  gstep v9_18 true (fun w15 K => X Try.prog (Builtin.len_ #[9] 3 #[v10_20]) w15 K) w14 fun v11_21 w16 =>
  gstep v9_18 true (fun w17 K => X Try.prog (binOpG .eql 3 (.tmp 21) (.const (.int .i64 8)) v11_21 (.int .i64 8)) w17 K) w16 fun v12_22 w18 =>
  X Try.prog (pickS v9_18 v12_22 (.bool false)) w18 fun v13_23 w19 =>
  gstep v13_23 true (fun w20 K => K v2_9 w20) w19 fun v14_25 w21 =>
  gstep v13_23 true (fun w22 K => K v4_12 w22) w21 fun v15_26 w23 =>
  gstep v13_23 true (fun w24 K => X Try.prog (binOp .lss 9 v14_25 v15_26) w24 K) w23 fun v16_27 w25 =>
  gstep v13_23 true (fun w26 K => K x0 w26) w25 fun v17_28 w27 =>
  gstep v13_23 true (fun w28 K => K x1 w28) w27 fun v18_29 w29 =>
  gstep v13_23 true (fun w30 K => X Try.prog (binOp .lss 22 v17_28 v18_29) w30 K) w29 fun v19_30 w31 =>
  gstep v13_23 true (fun w32 K => X Try.prog (binOpG .eql 4 (.tmp 27) (.tmp 30) v16_27 v19_30) w32 K) w31 fun v20_31 w33 =>
  X Try.prog (pickS v13_23 v20_31 (.bool false)) w33 fun v21_32 w34 =>
  K v21_32 w34

theorem eq_law01_CodecOrder (x0 x1 : Value) (w : World) (K : Value → World → Prop) :
    sh Try.prog (Try.f7.body.getD .skip) (retS Try.prog Try.f7.results K) (env0 #[x0, x1]) w = B_law01_CodecOrder x0 x1 w K := by kernel_rfl

theorem call_law01_CodecOrder (x0 x1 : Value) (w : World) (K : Value → World → Prop) (h : B_law01_CodecOrder x0 x1 w K) : CALL Try.prog 7 #[x0, x1] w K :=
  call_of_eq (c := Try.f7.body.getD .skip) mixed Try.func7 (by kernel_rfl) (by kernel_rfl) (by kernel_rfl) (Nat.le_of_ble_eq_true (by kernel_rfl)) (eq_law01_CodecOrder x0 x1 w K) h

/-- cellarage/cellaragelaw01.CodecTakes -/
def B_law01_CodecTakes (x0 x1 : Value) (w : World) (K : Value → World → Prop) : Prop :=
  CALL Try.prog 47 #[] w fun v1_12 w1 =>
  X Try.prog (Builtin.len_ #[27] 3 #[x0]) w1 fun v2_14 w2 =>
  X Try.prog (binOp .gtr 3 v2_14 (.int .i64 100000)) w2 fun v3_15 w3 =>
  condS v3_15 (
  K v1_12 w3) (
  X Try.prog (Instr.buildSlice 27 0 #[]) w3 fun v4_17 w4 =>
  X Try.prog (Builtin.append_ #[27, 27] 27 #[v4_17, x0]) w4 fun v5_19 w5 =>
  CALL Try.prog 58 #[v5_19] w5 fun v6_21 w6 =>
  X Try.prog (binOpG .eql 54 (.tmp 22) (.const (.pointer none)) v6_21 (.pointer none)) w6 fun v7_23 w7 =>
  condS v7_23 (
  K (.bool false) w7) (
  X Try.prog (Instr.build 57 #[(0, x0)]) w7 fun v8_25 w8 =>
  X Try.prog (Instr.alloc 57 true (.tuple #[])) w8 fun v9_8 w9 =>
  XU Try.prog (Instr.storeAt 57 v9_8 v8_25) w9 fun w10 =>
  X Try.prog (Builtin.len_ #[27] 3 #[v5_19]) w10 fun v10_27 w11 =>
  loopS (fun Q1 ρ1 w12 =>
  X Try.prog (binOp .lss 3 (ρ1 28) (ρ1 27)) w12 fun v11_29 w13 =>
  condS v11_29 (
  X Try.prog (Instr.indexAt 27 (ρ1 6) (ρ1 28)) w13 fun v12_33 w14 =>
  X Try.prog (Instr.loadAt 5 v12_33) w14 fun v13_34 w15 =>
  X Try.prog (binOp .xor 5 v13_34 (.int .u8 85)) w15 fun v14_35 w16 =>
  X Try.prog (Instr.indexAt 27 (ρ1 6) (ρ1 28)) w16 fun v15_36 w17 =>
  XU Try.prog (Instr.storeAt 5 v15_36 v14_35) w17 fun w18 =>
  X Try.prog (binOp .add 3 (ρ1 28) (.int .i64 1)) w18 fun v16_37 w19 =>
  Q1 .normal (upds ρ1 [(28, v16_37), (37, v16_37), (36, v15_36), (35, v14_35), (34, v13_34), (33, v12_33), (32, (ρ1 28)), (31, (ρ1 6)), (9, (ρ1 28)), (30, (ρ1 28)), (29, v11_29)]) w19) (
  Q1 (.exit 0) (upds ρ1 [(29, v11_29)]) w13)) (inBlockS 0 (thenS (fun ρ2 w20 =>
  X Try.prog (Builtin.len_ #[53] 3 #[(ρ2 1)]) w20 fun v17_39 w21 =>
  loopS (fun Q3 ρ3 w22 =>
  X Try.prog (binOp .lss 3 (ρ3 40) (ρ3 39)) w22 fun v18_41 w23 =>
  condS v18_41 (
  X Try.prog (binOp .geq 3 (ρ3 40) (.int .i64 1000)) w23 fun v19_44 w24 =>
  condS v19_44 (
  Q3 (.exit 2) (upds ρ3 [(44, v19_44), (43, (ρ3 40)), (10, (ρ3 40)), (42, (ρ3 40)), (41, v18_41)]) w24) (
  joinS (fun ρ4 w25 =>
  ∃ R, Frame? R ∧
  XP Try.prog (Op.unary .not (ρ4 11)) (drewW w25) fun v20_79 w26 =>
  gstep v20_79 false (fun w27 K => K (ρ4 7) w27) w26 fun v21_81 w28 =>
  gstep v20_79 false (fun w29 K => K (ρ4 0) w29) w28 fun v22_83 w30 =>
  gstep v20_79 false (fun w31 K => XP Try.prog (Builtin.len_ #[27] 3 #[v22_83]) w31 K) w30 fun v23_84 w32 =>
  gstep v20_79 false (fun w33 K => XP Try.prog (Instr.fieldAt 57 (ρ4 8) 1) w33 K) w32 fun v24_85 w34 =>
  gstep v20_79 false (fun w35 K => XR Try.prog R (Instr.loadAt 3 v24_85) w35 K) w34 fun v25_86 w36 =>
  gstep v20_79 false (fun w37 K => XP Try.prog (binOp .sub 3 v23_84 v25_86) w37 K) w36 fun v26_87 w38 =>
  gstep v20_79 false (fun w39 K => CALL Try.prog 63 #[v21_81] w39 K) w38 fun v27_82 w40 =>
  R w38 w40 ∧
  gstep v20_79 false (fun w41 K => XP Try.prog (binOpG .neq 3 (.tmp 82) (.tmp 87) v27_82 v26_87) w41 K) w40 fun v28_88 w42 =>
  XP Try.prog (pickS v20_79 (.bool true) v28_88) w42 fun v29_89 w43 =>
  gstep v29_89 false (fun w44 K => K (ρ4 7) w44) w43 fun v30_91 w45 =>
  gstep v29_89 false (fun w46 K => XP Try.prog (Instr.fieldAt 57 (ρ4 8) 2) w46 K) w45 fun v31_93 w47 =>
  gstep v29_89 false (fun w48 K => XR Try.prog R (Instr.loadAt 30 v31_93) w48 K) w47 fun v32_94 w49 =>
  gstep v29_89 false (fun w50 K => CALL Try.prog 64 #[v30_91] w50 K) w49 fun v33_92 w51 =>
  R w49 w51 ∧
  gstep v29_89 false (fun w52 K => XP Try.prog (binOpG .neq 30 (.tmp 92) (.tmp 94) v33_92 v32_94) w52 K) w51 fun v34_95 w53 =>
  XP Try.prog (pickS v29_89 (.bool true) v34_95) w53 fun v35_96 w54 =>
  gstep v35_96 false (fun w55 K => K (ρ4 7) w55) w54 fun v36_98 w56 =>
  gstep v35_96 false (fun w57 K => CALL Try.prog 65 #[v36_98] w57 K) w56 fun v37_99 w58 =>
  R w56 w58 ∧
  gstep v35_96 false (fun w59 K => CALL Try.prog 66 #[(ρ4 8)] w59 K) w58 fun v38_100 w60 =>
  R w58 w60 ∧
  gstep v35_96 false (fun w61 K => XP Try.prog (binOpG .neq 30 (.tmp 99) (.tmp 100) v37_99 v38_100) w61 K) w60 fun v39_101 w62 =>
  XP Try.prog (pickS v35_96 (.bool true) v39_101) w62 fun v40_102 w63 =>
  condS v40_102 (
  Q3 .ret (upds ρ4 [(4, (.bool false)), (102, v40_102), (101, v39_101), (100, v38_100), (99, v37_99), (98, v36_98), (97, v35_96), (96, v35_96), (95, v34_95), (92, v33_92), (94, v32_94), (93, v31_93), (91, v30_91), (90, v29_89), (89, v29_89), (88, v28_88), (82, v27_82), (87, v26_87), (86, v25_86), (85, v24_85), (84, v23_84), (83, v22_83), (81, v21_81), (80, v20_79), (79, v20_79), (78, (ρ4 11))]) w63) (
  X Try.prog (binOp .add 3 (ρ4 40) (.int .i64 1)) w63 fun v41_103 w64 =>
  Q3 .normal (upds ρ4 [(40, v41_103), (103, v41_103), (102, v40_102), (101, v39_101), (100, v38_100), (99, v37_99), (98, v36_98), (97, v35_96), (96, v35_96), (95, v34_95), (92, v33_92), (94, v32_94), (93, v31_93), (91, v30_91), (90, v29_89), (89, v29_89), (88, v28_88), (82, v27_82), (87, v26_87), (86, v25_86), (85, v24_85), (84, v23_84), (83, v22_83), (81, v21_81), (80, v20_79), (79, v20_79), (78, (ρ4 11))]) w64)) fun J4 =>
  X Try.prog (Instr.indexAt 53 (ρ3 1) (ρ3 40)) w24 fun v42_47 w65 =>
  X Try.prog (Instr.fieldAt 59 v42_47 0) w65 fun v43_48 w66 =>
  X Try.prog (Instr.loadAt 4 v43_48) w66 fun v44_49 w67 =>
  condS v44_49 (
  ∃ R, Frame? R ∧
  XP Try.prog (Instr.indexAt 53 (ρ3 1) (ρ3 40)) (drewW w67) fun v45_53 w68 =>
  XP Try.prog (Instr.fieldAt 59 v45_53 1) w68 fun v46_54 w69 =>
  XR Try.prog R (Instr.loadAt 3 v46_54) w69 fun v47_55 w70 =>
  XP Try.prog (Instr.indexAt 53 (ρ3 1) (ρ3 40)) w70 fun v48_59 w71 =>
  XP Try.prog (Instr.fieldAt 59 v48_59 1) w71 fun v49_60 w72 =>
  XR Try.prog R (Instr.loadAt 3 v49_60) w72 fun v50_61 w73 =>
  CALL Try.prog 59 #[(ρ3 7), v47_55] w73 fun v51_56 w74 =>
  R w73 w74 ∧
  CALL Try.prog 60 #[(ρ3 8), v50_61] w74 fun v52_62 w75 =>
  R w74 w75 ∧
  XP Try.prog (binOpG .eql 9 (.tmp 56) (.tmp 62) v51_56 v52_62) w75 fun v53_63 w76 =>
  J4 (upds ρ3 [(11, v53_63), (63, v53_63), (62, v52_62), (56, v51_56), (61, v50_61), (60, v49_60), (59, v48_59), (58, (ρ3 40)), (57, (ρ3 1)), (55, v47_55), (54, v46_54), (53, v45_53), (52, (ρ3 40)), (51, (ρ3 1)), (50, (ρ3 7)), (49, v44_49), (48, v43_48), (47, v42_47), (46, (ρ3 40)), (45, (ρ3 1)), (11, (.bool true)), (44, v19_44), (43, (ρ3 40)), (10, (ρ3 40)), (42, (ρ3 40)), (41, v18_41)]) w76) (
  ∃ R, Frame? R ∧
  XP Try.prog (Instr.indexAt 53 (ρ3 1) (ρ3 40)) (drewW w67) fun v54_67 w77 =>
  XP Try.prog (Instr.fieldAt 59 v54_67 1) w77 fun v55_68 w78 =>
  XR Try.prog R (Instr.loadAt 3 v55_68) w78 fun v56_69 w79 =>
  XP Try.prog (Instr.indexAt 53 (ρ3 1) (ρ3 40)) w79 fun v57_73 w80 =>
  XP Try.prog (Instr.fieldAt 59 v57_73 1) w80 fun v58_74 w81 =>
  XR Try.prog R (Instr.loadAt 3 v58_74) w81 fun v59_75 w82 =>
  CALL Try.prog 61 #[(ρ3 7), v56_69] w82 fun v60_70 w83 =>
  R w82 w83 ∧
  CALL Try.prog 62 #[(ρ3 8), v59_75] w83 fun v61_76 w84 =>
  R w83 w84 ∧
  XP Try.prog (binOpG .eql 22 (.tmp 70) (.tmp 76) v60_70 v61_76) w84 fun v62_77 w85 =>
  J4 (upds ρ3 [(11, v62_77), (77, v62_77), (76, v61_76), (70, v60_70), (75, v59_75), (74, v58_74), (73, v57_73), (72, (ρ3 40)), (71, (ρ3 1)), (69, v56_69), (68, v55_68), (67, v54_67), (66, (ρ3 40)), (65, (ρ3 1)), (64, (ρ3 7)), (49, v44_49), (48, v43_48), (47, v42_47), (46, (ρ3 40)), (45, (ρ3 1)), (11, (.bool true)), (44, v19_44), (43, (ρ3 40)), (10, (ρ3 40)), (42, (ρ3 40)), (41, v18_41)]) w85))) (
  Q3 (.exit 2) (upds ρ3 [(41, v18_41)]) w23)) (inBlockS 2 (thenS (fun ρ5 w86 =>
  K (ρ5 5) w86) (retS Try.prog (Try.f16).results K))) (upds ρ2 [(40, (.int .i64 0)), (39, v17_39), (38, (ρ2 1))]) w21) (retS Try.prog (Try.f16).results K))) (upds (env0 #[x0, x1]) [(28, (.int .i64 0)), (27, v10_27), (26, v5_19), (8, v9_8), (25, v8_25), (24, x0), (23, v7_23), (22, v6_21), (7, v6_21), (21, v6_21), (20, v5_19), (6, v5_19), (19, v5_19), (18, x0), (17, v4_17), (15, v3_15), (14, v2_14), (13, x0), (5, v1_12), (12, v1_12), (4, (.bool false))]) w11))

theorem eq_law01_CodecTakes (x0 x1 : Value) (w : World) (K : Value → World → Prop) :
    sh Try.prog (Try.f16.body.getD .skip) (retS Try.prog Try.f16.results K) (env0 #[x0, x1]) w = B_law01_CodecTakes x0 x1 w K := by kernel_rfl

theorem call_law01_CodecTakes (x0 x1 : Value) (w : World) (K : Value → World → Prop) (h : B_law01_CodecTakes x0 x1 w K) : CALL Try.prog 16 #[x0, x1] w K :=
  call_of_eq (c := Try.f16.body.getD .skip) mixed Try.func16 (by kernel_rfl) (by kernel_rfl) (by kernel_rfl) (Nat.le_of_ble_eq_true (by kernel_rfl)) (eq_law01_CodecTakes x0 x1 w K) h

/-- cellarage/cellaragelaw01.CodecBack -/
def B_law01_CodecBack (x0 x1 x2 : Value) (w : World) (K : Value → World → Prop) : Prop :=
  CALL Try.prog 47 #[] w fun v1_18 w1 =>
  ∃ R, Frame? R ∧
  XP Try.prog (Builtin.len_ #[65] 3 #[x0]) (drewW w1) fun v2_21 w2 =>
  XP Try.prog (Builtin.min_ #[3, 3] 3 #[v2_21, (.int .i64 100)]) w2 fun v3_22 w3 =>
  XP Try.prog (Instr.sliceAt 65 x0 none (some v3_22) none) w3 fun v4_23 w4 =>
  XP Try.prog (Builtin.len_ #[66] 3 #[x1]) w4 fun v5_26 w5 =>
  XP Try.prog (Builtin.min_ #[3, 3] 3 #[v5_26, (.int .i64 100)]) w5 fun v6_27 w6 =>
  XP Try.prog (Instr.sliceAt 66 x1 none (some v6_27) none) w6 fun v7_28 w7 =>
  X Try.prog (Builtin.len_ #[65] 3 #[v4_23]) w7 fun v8_30 w8 =>
  loopS (fun Q1 ρ1 w9 =>
  X Try.prog (binOp .lss 3 (ρ1 31) (ρ1 30)) w9 fun v9_32 w10 =>
  condS v9_32 (
  X Try.prog (Instr.indexAt 65 (ρ1 8) (ρ1 31)) w10 fun v10_37 w11 =>
  X Try.prog (Instr.loadAt 22 v10_37) w11 fun v11_38 w12 =>
  CALL Try.prog 46 #[(ρ1 10), v11_38, (.int .i64 8)] w12 fun v12_39 w13 =>
  X Try.prog (binOp .add 3 (ρ1 31) (.int .i64 1)) w13 fun v13_40 w14 =>
  Q1 .normal (upds ρ1 [(31, v13_40), (40, v13_40), (10, v12_39), (39, v12_39), (38, v11_38), (37, v10_37), (36, (ρ1 31)), (35, (ρ1 8)), (34, (ρ1 10)), (11, (ρ1 31)), (33, (ρ1 31)), (32, v9_32)]) w14) (
  Q1 (.exit 0) (upds ρ1 [(32, v9_32)]) w10)) (inBlockS 0 (thenS (fun ρ2 w15 =>
  X Try.prog (Builtin.len_ #[66] 3 #[(ρ2 9)]) w15 fun v14_42 w16 =>
  loopS (fun Q3 ρ3 w17 =>
  X Try.prog (binOp .lss 3 (ρ3 43) (ρ3 42)) w17 fun v15_44 w18 =>
  condS v15_44 (
  X Try.prog (Instr.indexAt 66 (ρ3 9) (ρ3 43)) w18 fun v16_48 w19 =>
  X Try.prog (Instr.loadAt 9 v16_48) w19 fun v17_49 w20 =>
  X Try.prog (Builtin.len_ #[9] 3 #[v17_49]) w20 fun v18_50 w21 =>
  X Try.prog (binOp .gtr 3 v18_50 (.int .i64 10000)) w21 fun v19_51 w22 =>
  condS v19_51 (
  Q3 .ret (upds ρ3 [(6, (ρ3 7)), (52, (ρ3 7)), (51, v19_51), (50, v18_50), (49, v17_49), (48, v16_48), (47, (ρ3 43)), (46, (ρ3 9)), (12, (ρ3 43)), (45, (ρ3 43)), (44, v15_44)]) w22) (
  X Try.prog (Instr.indexAt 66 (ρ3 9) (ρ3 43)) w22 fun v20_56 w23 =>
  X Try.prog (Instr.loadAt 9 v20_56) w23 fun v21_57 w24 =>
  CALL Try.prog 67 #[(ρ3 10), v21_57] w24 fun v22_58 w25 =>
  X Try.prog (binOp .add 3 (ρ3 43) (.int .i64 1)) w25 fun v23_59 w26 =>
  Q3 .normal (upds ρ3 [(43, v23_59), (59, v23_59), (10, v22_58), (58, v22_58), (57, v21_57), (56, v20_56), (55, (ρ3 43)), (54, (ρ3 9)), (53, (ρ3 10)), (51, v19_51), (50, v18_50), (49, v17_49), (48, v16_48), (47, (ρ3 43)), (46, (ρ3 9)), (12, (ρ3 43)), (45, (ρ3 43)), (44, v15_44)]) w26)) (
  Q3 (.exit 2) (upds ρ3 [(44, v15_44)]) w18)) (inBlockS 2 (thenS (fun ρ4 w27 =>
  X Try.prog (binOp .rem 5 (ρ4 2) (.int .u8 9)) w27 fun v24_61 w28 =>
  X Try.prog (convert 5 3 v24_61) w28 fun v25_62 w29 =>
  CALL Try.prog 46 #[(ρ4 10), (.int .u64 9223372036854775813), v25_62] w29 fun v26_65 w30 =>
  CALL Try.prog 58 #[v26_65] w30 fun v27_67 w31 =>
  X Try.prog (binOpG .eql 54 (.tmp 68) (.const (.pointer none)) v27_67 (.pointer none)) w31 fun v28_69 w32 =>
  condS v28_69 (
  K (.bool false) w32) (
  X Try.prog (Builtin.len_ #[65] 3 #[(ρ4 8)]) w32 fun v29_71 w33 =>
  loopS (fun Q5 ρ5 w34 =>
  X Try.prog (binOp .lss 3 (ρ5 72) (ρ5 71)) w34 fun v30_73 w35 =>
  condS v30_73 (
  ∃ R, Frame? R ∧
  XP Try.prog (Instr.indexAt 65 (ρ5 8) (ρ5 72)) (drewW w35) fun v31_79 w36 =>
  XR Try.prog R (Instr.loadAt 22 v31_79) w36 fun v32_80 w37 =>
  CALL Try.prog 61 #[(ρ5 14), (.int .i64 8)] w37 fun v33_76 w38 =>
  R w37 w38 ∧
  XP Try.prog (binOpG .neq 22 (.tmp 76) (.tmp 80) v33_76 v32_80) w38 fun v34_81 w39 =>
  condS v34_81 (
  Q5 .ret (upds ρ5 [(6, (.bool false)), (81, v34_81), (76, v33_76), (80, v32_80), (79, v31_79), (78, (ρ5 72)), (77, (ρ5 8)), (75, (ρ5 14)), (15, (ρ5 72)), (74, (ρ5 72)), (73, v30_73)]) w39) (
  X Try.prog (binOp .add 3 (ρ5 72) (.int .i64 1)) w39 fun v35_82 w40 =>
  Q5 .normal (upds ρ5 [(72, v35_82), (82, v35_82), (81, v34_81), (76, v33_76), (80, v32_80), (79, v31_79), (78, (ρ5 72)), (77, (ρ5 8)), (75, (ρ5 14)), (15, (ρ5 72)), (74, (ρ5 72)), (73, v30_73)]) w40)) (
  Q5 (.exit 4) (upds ρ5 [(73, v30_73)]) w35)) (inBlockS 4 (thenS (fun ρ6 w41 =>
  X Try.prog (Builtin.len_ #[66] 3 #[(ρ6 9)]) w41 fun v36_84 w42 =>
  loopS (fun Q7 ρ7 w43 =>
  X Try.prog (binOp .lss 3 (ρ7 85) (ρ7 84)) w43 fun v37_86 w44 =>
  condS v37_86 (
  ∃ R, Frame? R ∧
  XP Try.prog (Instr.indexAt 66 (ρ7 9) (ρ7 85)) (drewW w44) fun v38_91 w45 =>
  XR Try.prog R (Instr.loadAt 9 v38_91) w45 fun v39_92 w46 =>
  XP Try.prog (Builtin.len_ #[9] 3 #[v39_92]) w46 fun v40_93 w47 =>
  XP Try.prog (Instr.indexAt 66 (ρ7 9) (ρ7 85)) w47 fun v41_97 w48 =>
  XR Try.prog R (Instr.loadAt 9 v41_97) w48 fun v42_98 w49 =>
  CALL Try.prog 59 #[(ρ7 14), v40_93] w49 fun v43_94 w50 =>
  R w49 w50 ∧
  XP Try.prog (binOpG .neq 9 (.tmp 94) (.tmp 98) v43_94 v42_98) w50 fun v44_99 w51 =>
  condS v44_99 (
  Q7 .ret (upds ρ7 [(6, (.bool false)), (99, v44_99), (94, v43_94), (98, v42_98), (97, v41_97), (96, (ρ7 85)), (95, (ρ7 9)), (93, v40_93), (92, v39_92), (91, v38_91), (90, (ρ7 85)), (89, (ρ7 9)), (88, (ρ7 14)), (16, (ρ7 85)), (87, (ρ7 85)), (86, v37_86)]) w51) (
  X Try.prog (binOp .add 3 (ρ7 85) (.int .i64 1)) w51 fun v45_100 w52 =>
  Q7 .normal (upds ρ7 [(85, v45_100), (100, v45_100), (99, v44_99), (94, v43_94), (98, v42_98), (97, v41_97), (96, (ρ7 85)), (95, (ρ7 9)), (93, v40_93), (92, v39_92), (91, v38_91), (90, (ρ7 85)), (89, (ρ7 9)), (88, (ρ7 14)), (16, (ρ7 85)), (87, (ρ7 85)), (86, v37_86)]) w52)) (
  Q7 (.exit 6) (upds ρ7 [(86, v37_86)]) w44)) (inBlockS 6 (thenS (fun ρ8 w53 =>
  CALL Try.prog 61 #[(ρ8 14), (ρ8 13)] w53 fun v46_103 w54 =>
  gstep (ρ8 7) true (fun w55 K => K (ρ8 14) w55) w54 fun v47_106 w56 =>
  gstep (ρ8 7) true (fun w57 K => CALL Try.prog 65 #[v47_106] w57 K) w56 fun v48_107 w58 =>
  gstep (ρ8 7) true (fun w59 K => X Try.prog (binOpG .eql 30 (.tmp 107) (.const (.int .i64 0)) v48_107 (.int .i64 0)) w59 K) w58 fun v49_108 w60 =>
  X Try.prog (pickS (ρ8 7) v49_108 (.bool false)) w60 fun v50_109 w61 =>
  gstep v50_109 true (fun w62 K => K (ρ8 13) w62) w61 fun v51_111 w63 =>
  gstep v50_109 true (fun w64 K => X Try.prog (binOpG .eql 3 (.tmp 111) (.const (.int .i64 0)) v51_111 (.int .i64 0)) w64 K) w63 fun v52_112 w65 =>
  gstep v50_109 true (fun w66 K => K v46_103 w66) w65 fun v53_113 w67 =>
  gstep v50_109 true (fun w68 K => X Try.prog (binOpG .eql 22 (.tmp 113) (.const (.int .u64 0)) v53_113 (.int .u64 0)) w68 K) w67 fun v54_114 w69 =>
  gstep v50_109 true (fun w70 K => X Try.prog (binOpG .eql 4 (.tmp 112) (.tmp 114) v52_112 v54_114) w70 K) w69 fun v55_115 w71 =>
  X Try.prog (pickS v50_109 v55_115 (.bool false)) w71 fun v56_116 w72 =>
  K v56_116 w72) (retS Try.prog (Try.f17).results K))) (upds ρ6 [(85, (.int .i64 0)), (84, v36_84), (83, (ρ6 9))]) w42) (retS Try.prog (Try.f17).results K))) (upds ρ4 [(72, (.int .i64 0)), (71, v29_71), (70, (ρ4 8)), (69, v28_69), (68, v27_67), (14, v27_67), (67, v27_67), (66, v26_65), (10, v26_65), (65, v26_65), (64, v25_62), (63, (ρ4 10)), (13, v25_62), (62, v25_62), (61, v24_61), (60, (ρ4 2))]) w33)) (retS Try.prog (Try.f17).results K))) (upds ρ2 [(43, (.int .i64 0)), (42, v14_42), (41, (ρ2 9))]) w16) (retS Try.prog (Try.f17).results K))) (upds (env0 #[x0, x1, x2]) [(31, (.int .i64 0)), (30, v8_30), (29, v4_23), (10, (.slice none 0 0)), (9, v7_28), (8, v4_23), (28, v7_28), (27, v6_27), (26, v5_26), (25, x1), (24, x1), (23, v4_23), (22, v3_22), (21, v2_21), (20, x0), (19, x0), (7, v1_18), (18, v1_18), (6, (.bool false))]) w8

theorem eq_law01_CodecBack (x0 x1 x2 : Value) (w : World) (K : Value → World → Prop) :
    sh Try.prog (Try.f17.body.getD .skip) (retS Try.prog Try.f17.results K) (env0 #[x0, x1, x2]) w = B_law01_CodecBack x0 x1 x2 w K := by kernel_rfl

theorem call_law01_CodecBack (x0 x1 x2 : Value) (w : World) (K : Value → World → Prop) (h : B_law01_CodecBack x0 x1 x2 w K) : CALL Try.prog 17 #[x0, x1, x2] w K :=
  call_of_eq (c := Try.f17.body.getD .skip) mixed Try.func17 (by kernel_rfl) (by kernel_rfl) (by kernel_rfl) (Nat.le_of_ble_eq_true (by kernel_rfl)) (eq_law01_CodecBack x0 x1 x2 w K) h

/-- cellarage/cellaragelaw01.CodecShort -/
def B_law01_CodecShort (x0 x1 x2 : Value) (w : World) (K : Value → World → Prop) : Prop :=
  CALL Try.prog 47 #[] w fun v1_13 w1 =>
  X Try.prog (Builtin.len_ #[9] 3 #[x1]) w1 fun v2_15 w2 =>
  X Try.prog (binOp .gtr 3 v2_15 (.int .i64 100000)) w2 fun v3_16 w3 =>
  condS v3_16 (
  K v1_13 w3) (
  CALL Try.prog 46 #[(.slice none 0 0), x0, (.int .i64 8)] w3 fun v4_19 w4 =>
  CALL Try.prog 67 #[(.slice none 0 0), x1] w4 fun v5_21 w5 =>
  X Try.prog (Instr.buildSlice 70 2 #[(0, v4_19), (1, v5_21)]) w5 fun v6_22 w6 =>
  X Try.prog (Builtin.len_ #[70] 3 #[v6_22]) w6 fun v7_23 w7 =>
  loopS (fun Q1 ρ1 w8 =>
  X Try.prog (binOp .lss 3 (ρ1 24) (ρ1 23)) w8 fun v8_25 w9 =>
  condS v8_25 (
  X Try.prog (Instr.indexAt 70 (ρ1 22) (ρ1 24)) w9 fun v9_27 w10 =>
  X Try.prog (Instr.loadAt 27 v9_27) w10 fun v10_28 w11 =>
  X Try.prog (Builtin.len_ #[27] 3 #[v10_28]) w11 fun v11_30 w12 =>
  X Try.prog (binOpG .eql 3 (.tmp 30) (.const (.int .i64 0)) v11_30 (.int .i64 0)) w12 fun v12_31 w13 =>
  condS v12_31 (
  Q1 .ret (upds ρ1 [(6, (.bool false)), (31, v12_31), (30, v11_30), (29, v10_28), (9, v10_28), (8, (ρ1 24)), (28, v10_28), (27, v9_27), (26, (ρ1 24)), (25, v8_25)]) w13) (
  X Try.prog (convert 69 3 (ρ1 2)) w13 fun v13_33 w14 =>
  X Try.prog (Builtin.len_ #[27] 3 #[v10_28]) w14 fun v14_35 w15 =>
  X Try.prog (binOp .rem 3 v13_33 v14_35) w15 fun v15_36 w16 =>
  X Try.prog (Instr.sliceAt 27 v10_28 none (some v15_36) none) w16 fun v16_39 w17 =>
  CALL Try.prog 58 #[v16_39] w17 fun v17_40 w18 =>
  X Try.prog (binOpG .eql 54 (.tmp 41) (.const (.pointer none)) v17_40 (.pointer none)) w18 fun v18_42 w19 =>
  condS v18_42 (
  Q1 .ret (upds ρ1 [(6, (.bool false)), (42, v18_42), (41, v17_40), (11, v17_40), (40, v17_40), (39, v16_39), (38, v15_36), (37, v10_28), (10, v15_36), (36, v15_36), (35, v14_35), (34, v10_28), (33, v13_33), (32, (ρ1 2)), (31, v12_31), (30, v11_30), (29, v10_28), (9, v10_28), (8, (ρ1 24)), (28, v10_28), (27, v9_27), (26, (ρ1 24)), (25, v8_25)]) w19) (
  joinS (fun ρ2 w20 =>
  X Try.prog (Op.unary .not (ρ2 12)) w20 fun v19_54 w21 =>
  gstep v19_54 false (fun w22 K => K (ρ2 11) w22) w21 fun v20_56 w23 =>
  gstep v19_54 false (fun w24 K => CALL Try.prog 64 #[v20_56] w24 K) w23 fun v21_57 w25 =>
  gstep v19_54 false (fun w26 K => X Try.prog (binOpG .neq 30 (.tmp 57) (.const (.int .i64 10)) v21_57 (.int .i64 10)) w26 K) w25 fun v22_58 w27 =>
  X Try.prog (pickS v19_54 (.bool true) v22_58) w27 fun v23_59 w28 =>
  gstep v23_59 false (fun w29 K => K (ρ2 11) w29) w28 fun v24_61 w30 =>
  gstep v23_59 false (fun w31 K => CALL Try.prog 63 #[v24_61] w31 K) w30 fun v25_62 w32 =>
  gstep v23_59 false (fun w33 K => K (ρ2 10) w33) w32 fun v26_63 w34 =>
  gstep v23_59 false (fun w35 K => X Try.prog (binOpG .neq 3 (.tmp 62) (.tmp 63) v25_62 v26_63) w35 K) w34 fun v27_64 w36 =>
  X Try.prog (pickS v23_59 (.bool true) v27_64) w36 fun v28_65 w37 =>
  gstep v28_65 false (fun w38 K => K (ρ2 11) w38) w37 fun v29_67 w39 =>
  gstep v28_65 false (fun w40 K => CALL Try.prog 61 #[v29_67, (.int .i64 0)] w40 K) w39 fun v30_68 w41 =>
  gstep v28_65 false (fun w42 K => X Try.prog (binOpG .neq 22 (.tmp 68) (.const (.int .u64 0)) v30_68 (.int .u64 0)) w42 K) w41 fun v31_69 w43 =>
  X Try.prog (pickS v28_65 (.bool true) v31_69) w43 fun v32_70 w44 =>
  gstep v32_70 false (fun w45 K => K (ρ2 11) w45) w44 fun v33_72 w46 =>
  gstep v32_70 false (fun w47 K => CALL Try.prog 59 #[v33_72, (.int .i64 9)] w47 K) w46 fun v34_73 w48 =>
  gstep v32_70 false (fun w49 K => X Try.prog (binOpG .neq 9 (.tmp 73) (.const (.string { data := #[] })) v34_73 (.string { data := #[] })) w49 K) w48 fun v35_74 w50 =>
  X Try.prog (pickS v32_70 (.bool true) v35_74) w50 fun v36_75 w51 =>
  gstep v36_75 false (fun w52 K => K (ρ2 11) w52) w51 fun v37_77 w53 =>
  gstep v36_75 false (fun w54 K => CALL Try.prog 65 #[v37_77] w54 K) w53 fun v38_78 w55 =>
  gstep v36_75 false (fun w56 K => X Try.prog (binOpG .neq 30 (.tmp 78) (.const (.int .i64 10)) v38_78 (.int .i64 10)) w56 K) w55 fun v39_79 w57 =>
  X Try.prog (pickS v36_75 (.bool true) v39_79) w57 fun v40_80 w58 =>
  condS v40_80 (
  Q1 .ret (upds ρ2 [(6, (.bool false)), (80, v40_80), (79, v39_79), (78, v38_78), (77, v37_77), (76, v36_75), (75, v36_75), (74, v35_74), (73, v34_73), (72, v33_72), (71, v32_70), (70, v32_70), (69, v31_69), (68, v30_68), (67, v29_67), (66, v28_65), (65, v28_65), (64, v27_64), (63, v26_63), (62, v25_62), (61, v24_61), (60, v23_59), (59, v23_59), (58, v22_58), (57, v21_57), (56, v20_56), (55, v19_54), (54, v19_54), (53, (ρ2 12))]) w58) (
  X Try.prog (binOp .add 3 (ρ2 24) (.int .i64 1)) w58 fun v41_81 w59 =>
  Q1 .normal (upds ρ2 [(24, v41_81), (81, v41_81), (80, v40_80), (79, v39_79), (78, v38_78), (77, v37_77), (76, v36_75), (75, v36_75), (74, v35_74), (73, v34_73), (72, v33_72), (71, v32_70), (70, v32_70), (69, v31_69), (68, v30_68), (67, v29_67), (66, v28_65), (65, v28_65), (64, v27_64), (63, v26_63), (62, v25_62), (61, v24_61), (60, v23_59), (59, v23_59), (58, v22_58), (57, v21_57), (56, v20_56), (55, v19_54), (54, v19_54), (53, (ρ2 12))]) w59)) fun J2 =>
  X Try.prog (binOpG .eql 3 (.tmp 43) (.const (.int .i64 0)) (ρ1 24) (.int .i64 0)) w19 fun v42_44 w60 =>
  condS v42_44 (
  CALL Try.prog 61 #[v17_40, (.int .i64 8)] w60 fun v43_46 w61 =>
  X Try.prog (binOpG .eql 22 (.tmp 46) (.const (.int .u64 0)) v43_46 (.int .u64 0)) w61 fun v44_47 w62 =>
  J2 (upds ρ1 [(12, v44_47), (47, v44_47), (46, v43_46), (45, v17_40), (44, v42_44), (43, (ρ1 24)), (12, (.bool true)), (42, v18_42), (41, v17_40), (11, v17_40), (40, v17_40), (39, v16_39), (38, v15_36), (37, v10_28), (10, v15_36), (36, v15_36), (35, v14_35), (34, v10_28), (33, v13_33), (32, (ρ1 2)), (31, v12_31), (30, v11_30), (29, v10_28), (9, v10_28), (8, (ρ1 24)), (28, v10_28), (27, v9_27), (26, (ρ1 24)), (25, v8_25)]) w62) (
  X Try.prog (Builtin.len_ #[9] 3 #[(ρ1 1)]) w60 fun v45_50 w63 =>
  CALL Try.prog 59 #[v17_40, v45_50] w63 fun v46_51 w64 =>
  X Try.prog (binOpG .eql 9 (.tmp 51) (.const (.string { data := #[] })) v46_51 (.string { data := #[] })) w64 fun v47_52 w65 =>
  J2 (upds ρ1 [(12, v47_52), (52, v47_52), (51, v46_51), (50, v45_50), (49, (ρ1 1)), (48, v17_40), (44, v42_44), (43, (ρ1 24)), (12, (.bool true)), (42, v18_42), (41, v17_40), (11, v17_40), (40, v17_40), (39, v16_39), (38, v15_36), (37, v10_28), (10, v15_36), (36, v15_36), (35, v14_35), (34, v10_28), (33, v13_33), (32, (ρ1 2)), (31, v12_31), (30, v11_30), (29, v10_28), (9, v10_28), (8, (ρ1 24)), (28, v10_28), (27, v9_27), (26, (ρ1 24)), (25, v8_25)]) w65)))) (
  Q1 (.exit 0) (upds ρ1 [(25, v8_25)]) w9)) (inBlockS 0 (thenS (fun ρ3 w66 =>
  K (ρ3 7) w66) (retS Try.prog (Try.f18).results K))) (upds (env0 #[x0, x1, x2]) [(24, (.int .i64 0)), (23, v7_23), (22, v6_22), (21, v5_21), (20, x1), (19, v4_19), (18, x0), (16, v3_16), (15, v2_15), (14, x1), (7, v1_13), (13, v1_13), (6, (.bool false))]) w7)

theorem eq_law01_CodecShort (x0 x1 x2 : Value) (w : World) (K : Value → World → Prop) :
    sh Try.prog (Try.f18.body.getD .skip) (retS Try.prog Try.f18.results K) (env0 #[x0, x1, x2]) w = B_law01_CodecShort x0 x1 x2 w K := by kernel_rfl

theorem call_law01_CodecShort (x0 x1 x2 : Value) (w : World) (K : Value → World → Prop) (h : B_law01_CodecShort x0 x1 x2 w K) : CALL Try.prog 18 #[x0, x1, x2] w K :=
  call_of_eq (c := Try.f18.body.getD .skip) mixed Try.func18 (by kernel_rfl) (by kernel_rfl) (by kernel_rfl) (Nat.le_of_ble_eq_true (by kernel_rfl)) (eq_law01_CodecShort x0 x1 x2 w K) h

/-- cellarage/cellaragelaw01.CodecNil -/
def B_law01_CodecNil (x0 : Value) (w : World) (K : Value → World → Prop) : Prop :=
  CALL Try.prog 47 #[] w fun v1_4 w1 =>
  gstep v1_4 true (fun w2 K => K (.pointer none) w2) w1 fun v2_6 w3 =>
  gstep v1_4 true (fun w4 K => K x0 w4) w3 fun v3_7 w5 =>
  gstep v1_4 true (fun w6 K => CALL Try.prog 61 #[v2_6, v3_7] w6 K) w5 fun v4_8 w7 =>
  gstep v1_4 true (fun w8 K => X Try.prog (binOpG .eql 22 (.tmp 8) (.const (.int .u64 0)) v4_8 (.int .u64 0)) w8 K) w7 fun v5_9 w9 =>
  X Try.prog (pickS v1_4 v5_9 (.bool false)) w9 fun v6_10 w10 =>
  gstep v6_10 true (fun w11 K => K (.pointer none) w11) w10 fun v7_12 w12 =>
  gstep v6_10 true (fun w13 K => K x0 w13) w12 fun v8_13 w14 =>
  gstep v6_10 true (fun w15 K => CALL Try.prog 59 #[v7_12, v8_13] w15 K) w14 fun v9_14 w16 =>
  gstep v6_10 true (fun w17 K => X Try.prog (binOpG .eql 9 (.tmp 14) (.const (.string { data := #[] })) v9_14 (.string { data := #[] })) w17 K) w16 fun v10_15 w18 =>
  X Try.prog (pickS v6_10 v10_15 (.bool false)) w18 fun v11_16 w19 =>
  gstep v11_16 true (fun w20 K => K (.pointer none) w20) w19 fun v12_18 w21 =>
  gstep v11_16 true (fun w22 K => CALL Try.prog 63 #[v12_18] w22 K) w21 fun v13_19 w23 =>
  gstep v11_16 true (fun w24 K => X Try.prog (binOpG .eql 3 (.tmp 19) (.const (.int .i64 0)) v13_19 (.int .i64 0)) w24 K) w23 fun v14_20 w25 =>
  X Try.prog (pickS v11_16 v14_20 (.bool false)) w25 fun v15_21 w26 =>
  gstep v15_21 true (fun w27 K => K (.pointer none) w27) w26 fun v16_23 w28 =>
  gstep v15_21 true (fun w29 K => CALL Try.prog 64 #[v16_23] w29 K) w28 fun v17_24 w30 =>
  gstep v15_21 true (fun w31 K => X Try.prog (binOpG .eql 30 (.tmp 24) (.const (.int .i64 0)) v17_24 (.int .i64 0)) w31 K) w30 fun v18_25 w32 =>
  X Try.prog (pickS v15_21 v18_25 (.bool false)) w32 fun v19_26 w33 =>
  gstep v19_26 true (fun w34 K => K (.pointer none) w34) w33 fun v20_28 w35 =>
  gstep v19_26 true (fun w36 K => CALL Try.prog 65 #[v20_28] w36 K) w35 fun v21_29 w37 =>
  gstep v19_26 true (fun w38 K => X Try.prog (binOpG .eql 30 (.tmp 29) (.const (.int .i64 0)) v21_29 (.int .i64 0)) w38 K) w37 fun v22_30 w39 =>
  X Try.prog (pickS v19_26 v22_30 (.bool false)) w39 fun v23_31 w40 =>
  K v23_31 w40

theorem eq_law01_CodecNil (x0 : Value) (w : World) (K : Value → World → Prop) :
    sh Try.prog (Try.f19.body.getD .skip) (retS Try.prog Try.f19.results K) (env0 #[x0]) w = B_law01_CodecNil x0 w K := by kernel_rfl

theorem call_law01_CodecNil (x0 : Value) (w : World) (K : Value → World → Prop) (h : B_law01_CodecNil x0 w K) : CALL Try.prog 19 #[x0] w K :=
  call_of_eq (c := Try.f19.body.getD .skip) mixed Try.func19 (by kernel_rfl) (by kernel_rfl) (by kernel_rfl) (Nat.le_of_ble_eq_true (by kernel_rfl)) (eq_law01_CodecNil x0 w K) h

end Go.Proofs.Ytggggfcgnkllgaa
end
section
/- The reference's check sums, by contract; and what cellaragelaw02.shown computes: true. -/
set_option linter.unusedVariables false
set_option linter.unusedSimpArgs false
namespace Go.Proofs.Ytggggfcgnkllgaa
open Go Go.Sh Go.RowKit
attribute [local irreducible] X XU XP XR CALL loopS resC closS

theorem bit1_eq (c : W32) : bit1 c = if c.msb = true then (c <<< 1) ^^^ poly else c <<< 1 := by
  unfold bit1
  cases c.msb <;> simp

theorem RMore_spec {c : W32} {v : Value} {bs : List UInt8} {w : World} {K : Value → World → Prop} (hb : Bts w v bs) (h : K (U32 (more c bs)) w) : CALL Try.prog 52 #[U32 c, v] w K := by
  obtain ⟨a, cp, e, h1, h2, h3⟩ := id hb
  subst e
  apply call_ref02_More
  unfold B_ref02_More
  refine X_of (u32_comp 23 c w) ?_
  refine loopS_of (fun ρ wr => ∃ i : Nat, i ≤ bs.length ∧ wr = w ∧ ρ 6 = .int .i64 (i : Nat) ∧ ρ 1 = .slice a bs.length cp ∧ ρ 5 = U32 (fold (~~~c) (bs.take i)))
    (fun ρ wr => match ρ 6 with | .int _ s => (bs.length - s).toNat | _ => 0) ?_ ?_
  · exact ⟨0, by omega, rfl, rfl, rfl, rfl⟩
  · rintro ρ wr ⟨i, hi, rfl, h6, h1', h5⟩
    simp only [SS, ST, h6, h1', h5]
    by_cases hin : i = bs.length
    · subst hin
      rw [if_neg (by simp)]
      simp only [upds_cons, upds_nil, Nat.reduceEqDiff, if_false, h5]
      refine X_of (u32_comp 23 _ _) ?_
      rw [List.take_length]
      exact h
    · rw [if_pos (by simp; omega)]
      obtain ⟨ad, hix, hcell, _⟩ := at_bts Try.underlying27 info_5 sz_5 hb (k := .i64) i rfl (by omega)
      refine X_of (hix _) ?_
      refine X_load agg_5 hcell ?_
      refine X_of (u32_of_u8 Try.underlying5 Try.underlying23 _ _) ?_
      refine X_of (u32_topmul 23 _ _) ?_
      refine X_of (u32_xor 23 _ _ _) ?_
      refine loopS_of (fun ρ' wr' => ∃ j : Nat, j ≤ 8 ∧ wr' = wr ∧ ρ' 7 = .int .i64 (j : Nat) ∧ ρ' 6 = .int .i64 (i : Nat) ∧ ρ' 1 = .slice a bs.length cp ∧ ρ' 5 = U32 (iter j (fold (~~~c) (bs.take i) ^^^ top bs[i])))
        (fun ρ wr => match ρ 7 with | .int _ s => (8 - s).toNat | _ => 0) ?_ ?_
      · exact ⟨0, by omega, rfl, rfl, h6, h1', rfl⟩
      · rintro ρ' wr' ⟨j, hj, rfl, h7, h6', h1'', h5'⟩
        simp only [SS, ST, h7, h6', h1'', h5']
        by_cases hjn : j = 8
        · subst hjn
          rw [if_neg (by simp)]
          simp only [upds_cons, upds_nil, Nat.reduceEqDiff, if_false, h6', SS, ST]
          show _ ∧ _
          refine ⟨⟨i + 1, by omega, trivial, next64 (n := bs.length - 1) (by omega) (by omega), h1'', ?_⟩, ?_⟩
          · rw [fold_take_succ (~~~c) bs i (by omega)]
            exact h5'
          · show (_ - IntKind.i64.wrap _).toNat < _
            rw [w64 (by omega) (by omega)]
            omega
        · rw [if_pos (by simp; omega)]
          refine X_of (u32_top2 23 _ _) ?_
          refine X_of (u32_dbl 23 _ _) ?_
          simp only [SS, ST]
          have key : iter (j + 1) (fold (~~~c) (bs.take i) ^^^ top bs[i]) = bit1 (iter j (fold (~~~c) (bs.take i) ^^^ top bs[i])) := iter_succ _ _
          rw [bit1_eq] at key
          cases hm : (iter j (fold (~~~c) (bs.take i) ^^^ top bs[i])).msb with
          | true =>
            rw [if_pos (by simp)]
            rw [hm, if_pos rfl] at key
            refine X_of (u32_xor 23 _ poly _) ?_
            simp only [upds_cons, upds_nil, Nat.reduceEqDiff, if_false, h7, SS, ST]
            show _ ∧ _
            refine ⟨⟨j + 1, by omega, trivial, next64 (n := 8) (by decide) hj, h6', h1'', ?_⟩, ?_⟩
            · rw [key]; rfl
            · show (_ - IntKind.i64.wrap _).toNat < _
              rw [w64 (by omega) (by omega)]
              omega
          | false =>
            rw [if_neg (by simp)]
            rw [hm, if_neg (by decide)] at key
            simp only [upds_cons, upds_nil, Nat.reduceEqDiff, if_false, h7, SS, ST]
            show _ ∧ _
            refine ⟨⟨j + 1, by omega, trivial, next64 (n := 8) (by decide) hj, h6', h1'', ?_⟩, ?_⟩
            · rw [key]; rfl
            · show (_ - IntKind.i64.wrap _).toNat < _
              rw [w64 (by omega) (by omega)]
              omega

theorem RSeal_spec {v : Value} {bs : List UInt8} {w : World} {K : Value → World → Prop} (hb : Bts w v bs) (hl : bs.length ≤ 140737488351232)
    (h : ∀ v' w1, Ext w w1 → w1.ownsRow w.heap.size 5 1 v' (sealB bs).length (B8 (sealB bs)) → K v' w1) : CALL Try.prog 57 #[v] w K := by
  apply call_ref02_Seal
  unfold B_ref02_Seal
  refine X_append_bts Try.underlying27 el_5 (xs := []) (World.ownsRow_nil w w.heap.size 5 1) hb (by omega) (Nat.le_refl _) ?_
  intro v1 w1 ho hk
  have hx : Ext w w1 := hk.mono (fun i _ h => by cases h)
  refine RMore_spec (c := 0#32) (hb.ext hx) ?_
  refine X_of (u64_of_u32 _ _) ?_
  have := (crc bs).isLt
  refine RPut_spec (by show (crc bs).toNat < _; omega) ?_
  intro v2 w2 hx2 ho2
  rw [putB_4] at ho2
  have ho1 : w2.ownsRow w.heap.size 5 1 v1 (0 + bs.length) (B8 ([] ++ bs)) := by
    refine ho.kept ⟨hx2.os, hx2.tape, hx2.output, hx2.size, fun k hk _ => hx2.block k hk (fun h => h)⟩ (row := none) ?_
    cases v1.ownBlock <;> simp
  refine X_append_bts Try.underlying27 el_5 ho1 (own_bts ho2).1 (by simp; omega) (Nat.le_trans hx.size hx2.size) ?_
  intro v3 w3 ho3 hk3
  refine h v3 w3 (Ext.seq (hx.trans hx2) hk3 (fun i hi => (ho1.lt i hi.symm).1)) ?_
  have e : 0 + bs.length + (be 4 (more 0#32 bs).toNat).length = (sealB bs).length := by simp [sealB]
  rw [e] at ho3
  exact ho3

theorem ROpen_spec {v : Value} {bs : List UInt8} {w : World} {K : Value → World → Prop} (hb : Bts w v bs) (hl : bs.length ≤ 140737488351232)
    (h0 : openB bs = none → ∀ w1, Ext w w1 → K (.tuple #[.slice none 0 0, .bool false]) w1)
    (h1 : ∀ cs v' w1, openB bs = some cs → Ext w w1 → Bts w1 v' cs → K (.tuple #[v', .bool true]) w1) : CALL Try.prog 55 #[v] w K := by
  obtain ⟨a, cp, e, _, _, _⟩ := id hb
  subst e
  apply call_ref02_Open
  unfold B_ref02_Open
  simp only [SS, ST]
  refine ⟨Ext, Ext.frame, ?_⟩
  by_cases h4 : bs.length < 4
  · have e1 : decide (IntKind.i64.wrap ((bs.length : Int) - 4) < 0) = true := by rw [w64 (by omega) (by omega)]; simp only [decide_eq_true_eq]; omega
    simp only [SS, ST, e1, if_true, Bool.true_eq_false, if_false]
    refine ⟨Ext.frame.refl _, ?_⟩
    exact h0 (by simp [openB, h4]) _ (Keep.drew _ w)
  · have e0 : IntKind.i64.wrap ((bs.length : Int) - 4) = ((bs.length - 4 : Nat) : Int) := by rw [w64 (by omega) (by omega)]; omega
    have e1 : decide (((bs.length - 4 : Nat) : Int) < 0) = false := by simp only [decide_eq_false_iff_not]; omega
    simp only [e0, SS, ST, e1, if_true, Bool.false_eq_true, if_false]
    have hbd := hb.drew
    obtain ⟨u2, hu2, hub2, huo2⟩ := cut_hi Try.underlying27 info_5 hbd (kh := .i64) (bs.length - 4) rfl (by omega)
    refine XP_of hu2 ?_
    refine XR_str Try.underlying27 Try.underlying5 Try.underlying9 hbd ?_
    refine RSeal_spec hub2 (by simp; omega) ?_
    intro v1 w1 hx1 ho1
    refine ⟨hx1, ?_⟩
    refine XR_str Try.underlying27 Try.underlying5 Try.underlying9 (own_bts ho1).1 ?_
    have hx : Ext w w1 := (Keep.drew _ w).trans hx1
    have hiff : sealB (bs.take (bs.length - 4)) = bs ↔ num (bs.drop (bs.length - 4)) = (crc (bs.take (bs.length - 4))).toNat := by
      unfold sealB
      have hlt : (crc (bs.take (bs.length - 4))).toNat < 256 ^ 4 := (crc (bs.take (bs.length - 4))).isLt
      constructor
      · intro h
        have := congrArg (List.drop (bs.length - 4)) h
        rw [List.drop_append_of_le_length (by simp), List.drop_eq_nil_of_le (by simp), List.nil_append] at this
        rw [← this, num_be, Nat.mod_eq_of_lt hlt]
      · intro h
        rw [← h]
        have hb4 := be_num (bs.drop (bs.length - 4))
        have hl4 : (bs.drop (bs.length - 4)).length = 4 := by simp; omega
        rw [hl4] at hb4
        rw [hb4, List.take_append_drop]
    simp only [str_toList, SS, ST, l8_bne]
    by_cases heq : num (bs.drop (bs.length - 4)) = (crc (bs.take (bs.length - 4))).toNat
    · have ed : decide (sealB (bs.take (bs.length - 4)) ≠ bs) = false := by simp only [ne_eq, decide_not, hiff.2 heq, decide_true, Bool.not_true]
      simp only [ed, Bool.false_eq_true, if_false]
      obtain ⟨u3, hu3, hub3, huo3⟩ := cut_hi Try.underlying27 info_5 (hb.ext hx) (kh := .i64) (bs.length - 4) rfl (by omega)
      refine X_of (hu3 _) ?_
      exact h1 (bs.take (bs.length - 4)) u3 w1 (by simp [openB, h4, heq]) hx hub3
    · have ed : decide (sealB (bs.take (bs.length - 4)) ≠ bs) = true := by simp only [ne_eq, decide_eq_true_eq]; exact fun h => heq (hiff.1 h)
      simp only [ed, if_true]
      exact h0 (by simp [openB, h4, heq]) _ hx
end Go.Proofs.Ytggggfcgnkllgaa
end
section
/- What cellaragelaw02.shown computes: true. -/
set_option linter.unusedVariables false
set_option linter.unusedSimpArgs false
namespace Go.Proofs.Ytggggfcgnkllgaa
open Go Go.Sh Go.RowKit
attribute [local irreducible] X XU XP XR CALL loopS resC closS

theorem lit_bts {w : World} (l : List UInt8) (hl : l.length ≤ 9223372036854775807) (T : TypeId) : Bts (newB w (B8 l).toArray T) (.slice (some ⟨w.heap.size, 0, none⟩) l.length l.length) l :=
  ⟨_, _, rfl, Nat.le_refl _, hl, fun _ => ⟨_, rfl, fun j u hj => by
    rw [add_plain, cell_blk (newB_get _ _ _), Nat.zero_add]
    simp [B8_getElem?, hj]⟩⟩
theorem lit3 (w : World) : (Instr.buildSlice 27 3 #[(0, (.int .u8 1)), (1, (.int .u8 2)), (2, (.int .u8 3))]).run Try.prog w = .ok (.slice (some ⟨w.heap.size, 0, none⟩) 3 3) (newB w (B8 [1, 2, 3]).toArray 5) := by kernel_rfl
theorem lit9 (w : World) : (Instr.buildSlice 27 9 #[(0, (.int .u8 49)), (1, (.int .u8 50)), (2, (.int .u8 51)), (3, (.int .u8 52)), (4, (.int .u8 53)), (5, (.int .u8 54)), (6, (.int .u8 55)), (7, (.int .u8 56)), (8, (.int .u8 57))]).run Try.prog w =
    .ok (.slice (some ⟨w.heap.size, 0, none⟩) 9 9) (newB w (B8 [49, 50, 51, 52, 53, 54, 55, 56, 57]).toArray 5) := by kernel_rfl
theorem alloc_ext (w : World) (o : Obj) : Ext w (w.alloc o) :=
  ⟨rfl, rfl, rfl, by show _ ≤ (w.heap.push _).size; rw [Array.size_push]; omega, fun i hi _ => by
    show (w.heap.push _)[i]? = _
    exact Array.getElem?_push_lt hi |>.trans (Array.getElem?_eq_getElem hi).symm⟩
theorem mark_bts {w : World} (l : List UInt8) (hl : l.length ≤ 9223372036854775807) (T : TypeId) (fr : Nat × Nat) : Bts (w.alloc (.cells (B8 l).toArray T fr)) (.slice (some ⟨w.heap.size, 0, none⟩) l.length l.length) l :=
  ⟨_, _, rfl, Nat.le_refl _, hl, fun _ => ⟨_, rfl, fun j u hj => by
    rw [add_plain, Nat.zero_add]
    have hg : (w.alloc (.cells (B8 l).toArray T fr)).heap[w.heap.size]? = some (.cells (B8 l).toArray T fr) := by
      show (w.heap.push _)[w.heap.size]? = _
      exact Array.getElem?_push_size
    rw [cell_blk hg]
    simp [B8_getElem?, hj]⟩⟩
theorem crc_nil' : (crc []).toNat = 0 := by decide +kernel
theorem crc_nine' : (crc [49, 50, 51, 52, 53, 54, 55, 56, 57]).toNat = 4236843288 := by decide +kernel
theorem crc_nil : U32 (crc []) = .int .u32 0 := by unfold U32; rw [crc_nil']; rfl
theorem crc_nine : U32 (crc [49, 50, 51, 52, 53, 54, 55, 56, 57]) = .int .u32 4236843288 := by unfold U32; rw [crc_nine']; rfl
theorem str_lit2 (l : List UInt8) : ({ data := l.toArray } : ByteArray) = str l := rfl

theorem shown02 {w : World} {K : Value → World → Prop} (h : ∀ w1, Ext w w1 → K (.bool true) w1) : CALL Try.prog 50 #[] w K := by
  apply call_law02_shown
  unfold B_law02_shown
  refine X_of (lit3 w) ?_
  have hx0 := newB_ext w (B8 [1, 2, 3]).toArray 5
  have hb0 := lit_bts (w := w) [1, 2, 3] (by decide) 5
  refine Open_spec hb0 (by decide) ?_ (fun cs v' w1 hc => absurd hc (by simp [openB]))
  intro _ w1 hx1
  simp only [SS, ST]
  refine Sum_spec (Bts.nil _) ?_
  intro w2 hx2
  simp only [crc_nil, SS, ST, decide_true, if_true]
  refine X_of (lit9 _) ?_
  have hx3 := alloc_ext w2 (.cells (B8 [49, 50, 51, 52, 53, 54, 55, 56, 57]).toArray 5 ((B8 [49, 50, 51, 52, 53, 54, 55, 56, 57]).toArray.size, (B8 [49, 50, 51, 52, 53, 54, 55, 56, 57]).toArray.size + 1))
  have hb3 := mark_bts (w := w2) [49, 50, 51, 52, 53, 54, 55, 56, 57] (by decide) 5 ((B8 [49, 50, 51, 52, 53, 54, 55, 56, 57]).toArray.size, (B8 [49, 50, 51, 52, 53, 54, 55, 56, 57]).toArray.size + 1)
  refine X_of (Lib.run_convert_bytes_const w2 27 5 (B8 [49, 50, 51, 52, 53, 54, 55, 56, 57]).toArray 9 9 Try.underlying27 Try.underlying5) ?_
  refine Sum_spec hb3 ?_
  intro w4 hx4
  simp only [crc_nine, SS, ST, decide_true, if_true]
  refine Seal_spec (Bts.nil _) (by decide) ?_
  intro v5 w5 hx5 ho5
  refine X_str Try.underlying27 Try.underlying5 Try.underlying9 (own_bts ho5).1 ?_
  have es : decide (sealB [] = ([0, 0, 0, 0] : List UInt8)) = true := by decide +kernel
  simp only [str_lit2, str_toList, l8_beq, es, SS, ST, if_true, Bool.not_false]
  exact h _ (hx0.trans (hx1.trans (hx2.trans (hx3.trans (hx4.trans hx5)))))
end Go.Proofs.Ytggggfcgnkllgaa
end
section
/- cellaragelaw08.alike: two disks, alike. -/
set_option linter.unusedVariables false
set_option linter.unusedSimpArgs false
namespace Go.Proofs.Ytggggfcgnkllgaa
open Go Go.Sh Go.RowKit
attribute [local irreducible] X XU XP XR CALL loopS resC closS
section
variable {w : World} {b : Nat} {d : Dk} {K : Value → World → Prop}
theorem alike_spec {b' : Nat} (h : DiskAt w b d) (h' : RefAt w b' d) (hw : d.ws.length ≤ 1000000) (hK : ∀ w1, Ext w w1 → K (.bool true) w1) : CALL Try.prog 83 #[ptr b, ptr b'] w K := by
  have h'0 := h'
  obtain ⟨ok, sv, pv, hr⟩ := h'
  have hsl : d.safe.length ≤ 16384 := ok.2.2.1
  obtain ⟨a1, c1, es⟩ := own_sl hr.safe
  obtain ⟨a2, c2, ep⟩ := own_sl hr.ws
  subst es
  subst ep
  apply call_law08_alike
  unfold B_law08_alike
  refine ⟨Ext, Ext.frame, ?_⟩
  have hxd := Keep.drew (fun _ => False) w
  have hd := h.ext hxd
  have hrd := hr.ext hxd
  have en : decide ((d.safe.length : Int) ≠ (d.safe.length : Int)) = false := by simp
  have ew : decide ((d.ws.length : Int) ≠ (d.ws.length : Int)) = false := by simp
  have edn : decide (d.done ≠ d.done) = false := by simp
  have ed : (d.dead != d.dead) = false := by simp
  simp only [XP_nilS, XP_field_148_0]
  refine XR_ok Ext.frame (fun w' k => run_loadAt agg_66 (blk_get (k.get hrd.blk) (v := .slice a1 d.safe.length c1) rfl)) ?_
  rw [XP_len_66]
  refine Size_spec hd ?_
  refine ⟨Keep.refl _ _, ?_⟩
  simp only [XP_neq, en, XP_nilS, XP_field_148_1, decide_true, decide_false, GS]
  refine XR_ok Ext.frame (fun w' k => run_loadAt agg_146 (blk_get (k.get hrd.blk) (v := .slice a2 d.ws.length c2) rfl)) ?_
  rw [XP_len_146]
  refine Pending_spec hd ?_
  refine ⟨Keep.refl _ _, ?_⟩
  simp only [XP_neq, ew, XP_nilS, XP_field_148_2, decide_true, decide_false, GS]
  refine XR_ok Ext.frame (fun w' k => run_loadAt agg_4 (blk_get (k.get hrd.blk) (v := .bool d.dead) rfl)) ?_
  refine Dead_spec hd ?_
  refine ⟨Keep.refl _ _, ?_⟩
  refine XP_of (fun w => Go.Sh.run_neq_bool Try.underlying4 _ _ _ _ w) ?_
  simp only [ed, XP_nilS, XP_field_148_4, decide_true, decide_false, GS]
  refine XR_ok Ext.frame (fun w' k => run_loadAt agg_3 (blk_get (k.get hrd.blk) (v := .int .i64 d.done) rfl)) ?_
  refine Done_spec hd ?_
  refine ⟨Keep.refl _ _, ?_⟩
  simp only [XP_neq, edn, decide_true, decide_false, GS]
  refine loopE (fun ρ wr => ∃ i : Nat, i ≤ min 40 d.safe.length + 2 ∧ Ext w wr ∧ ρ 5 = .int .i64 ((i : Int) - 1) ∧ ρ 0 = ptr b ∧ ρ 1 = ptr b')
    (fun ρ wr => match ρ 5 with | .int _ s => (100 - s).toNat | _ => 0)
    (fun ρ wr => Ext w wr) ?_ ?_ ?_
  · exact ⟨0, by omega, hxd, rfl, rfl, rfl⟩
  · rintro JE hJE ρ wr ⟨i, hi, hxr, h5, h0, h1⟩
    have hdr := h.ext hxr
    have hrr := hr.ext hxr
    have hrr0 := h'0.ext hxr
    rw [h5, h0, h1]
    simp only [X_nilS, X_field_148_0]
    refine X_loadL agg_66 hrr.blk rfl ?_
    simp only [X_len_66, X_min, X_leq, condS_bool]
    by_cases hin : (i : Int) - 1 ≤ min 40 (d.safe.length : Int)
    case neg =>
      rw [if_neg (by simpa using hin)]
      exact hJE _ _ hxr
    rw [if_pos (by simpa using hin)]
    refine Read_spec hdr ?_
    intro v1 w1 hx1 ho1
    simp only [X_extract0, X_extract1]
    refine RRead_spec (hrr0.ext hx1) hw ?_
    simp only [X_extract0, X_extract1]
    have hb1 := (own_bts ho1).1
    refine X_str Try.underlying27 Try.underlying5 Try.underlying9 hb1 ?_
    have e1 : decide ((d.read ((i : Int) - 1)).1 ≠ (d.read ((i : Int) - 1)).1) = false := by simp
    have e2 : decide ((d.read ((i : Int) - 1)).2 ≠ (d.read ((i : Int) - 1)).2) = false := by simp
    simp only [X_str_neq, str_toList, l8_bne, e1, e2, X_neq, decide_true, decide_false, GS]
    obtain ⟨av, cv, ev⟩ := own_sl ho1
    rw [ev, X_len_27, ← ev]
    generalize hrb : (d.read ((i : Int) - 1)).1 = rb at ho1 hb1 ev ⊢
    have hrl : rb.length ≤ 9223372036854775807 := own_max ho1
    refine loopG 2 (fun ρ' w' => ∃ (j : Nat) (l : List UInt8), j ≤ rb.length ∧ l.length = rb.length ∧ Ext w w' ∧ w'.ownsRow wr.heap.size 5 1 v1 rb.length (B8 l) ∧ ρ' 80 = .int .i64 (j : Nat) ∧ ρ' 79 = .int .i64 (rb.length : Nat) ∧ ρ' 6 = v1 ∧ ρ' 5 = .int .i64 ((i : Int) - 1) ∧ ρ' 0 = ptr b ∧ ρ' 1 = ptr b')
      (fun ρ wr => match ρ 80 with | .int _ s => (rb.length - s).toNat | _ => 0)
      (fun ρ' w' => Ext w w' ∧ ρ' 5 = .int .i64 ((i : Int) - 1) ∧ ρ' 0 = ptr b ∧ ρ' 1 = ptr b') ?_ ?_ ?_
    · exact ⟨0, rb, by omega, rfl, hxr.trans hx1, ho1, rfl, rfl, rfl, h5, h0, h1⟩
    · rintro J hJ ρ' w' ⟨j, l, hj, hl, hx', ho', g80, g79, g6, g5, g0, g1⟩
      rw [g80, g79, X_lss, condS_bool]
      by_cases hjn : j = rb.length
      · rw [if_neg (by simp; omega)]
        exact hJ _ _ ⟨hx', g5, g0, g1⟩
      rw [if_pos (by simp; omega)]
      obtain ⟨g, cap, cur, ev', hg, hh, hjc, hcj, hjl, hput⟩ := own_put ho' (j := j) (by omega) (l[j]'(by omega) ^^^ 255)
      have hixj : ∀ w, (Instr.indexAt 27 v1 (.int .i64 (j : Int))).run Try.prog w = .ok (.pointer (some ⟨g, j, none⟩)) w := fun w => by
        rw [ev', ix Try.underlying27 info_5 j rfl hjl w, sz_5, Nat.mul_one, add_plain, Nat.zero_add]
      rw [g6]
      refine X_of (hixj _) ?_
      refine X_loadB agg_5 hh hcj ?_
      have e255 : (Value.int .u8 255) = .int .u8 (((255 : UInt8).toNat : Nat) : Int) := rfl
      rw [e255]
      refine X_of (u8_xor 5 _ _ _) ?_
      refine X_of (hixj _) ?_
      refine XU_store info_5 sz_5 rfl hh hjc (by show ¬ ((0 : Nat) ≤ j ∧ j < 0); omega) ?_
      rw [X_add]
      show _ ∧ _
      have hws : w.heap.size ≤ wr.heap.size := hxr.size
      refine ⟨⟨j + 1, l.set j (l[j]'(by omega) ^^^ 255), by omega, by rw [List.length_set]; exact hl, Ext.seq hx' (setAt_keep _ _ _ _ _) (fun k hk => by omega), hput, next64 (n := rb.length - 1) (by omega) (by omega), g79, g6, g5, g0, g1⟩, ?_⟩
      show (_ - IntKind.i64.wrap _).toNat < _
      rw [w64 (by omega) (by omega)]
      first | omega | (show _ < (_ : Int).toNat; omega)
    · rintro ρ' w' ⟨hx', g5, g0, g1⟩
      simp only [inBlockS_same, inBlockS_normal, thenS_normal]
      rw [g5, X_add, w64 (by omega) (by omega)]
      show _ ∧ _
      refine ⟨⟨i + 1, by omega, hx', ?_, g0, g1⟩, ?_⟩
      · show Value.int .i64 _ = _
        congr 1
        omega
      · show (100 - ((i : Int) - 1 + 1)).toNat < _
        omega
  · rintro ρ wr hx
    exact hK wr hx
/-- The document's examples. -/
theorem lit_xyz (w : World) : (Instr.buildSlice 27 3 #[(0, (.int .u8 120)), (1, (.int .u8 121)), (2, (.int .u8 122))]).run Try.prog w = .ok (.slice (some ⟨w.heap.size, 0, none⟩) 3 3) (newB w (B8 [120, 121, 122]).toArray 5) := by kernel_rfl
theorem bts_conv {w : World} {K : Value → World → Prop} (l : List UInt8) (n : Nat) (hn : l.length = n) (hn' : n ≤ 9223372036854775807) (h : ∀ v w1, Ext w w1 → Bts w1 v l → (∀ k, v.ownBlock = some k → w.heap.size ≤ k ∧ k < w1.heap.size) → K v w1) :
    X Try.prog (convert 27 27 (.slice (some ⟨w.heap.size, 0, none⟩) n n)) (newB w (B8 l).toArray 5) K := by
  subst hn
  refine X_of (Lib.run_convert_bytes_const w 27 5 (B8 l).toArray l.length l.length Try.underlying27 Try.underlying5) ?_
  refine h _ _ (alloc_ext w _) (mark_bts l hn' 5 _) (fun k hk => ?_)
  injection hk with hk
  have hs : (w.alloc (.cells (B8 l).toArray 5 ((B8 l).toArray.size, (B8 l).toArray.size + 1))).heap.size = w.heap.size + 1 := Array.size_push _
  rw [hs]
  have : w.heap.size = k := hk
  omega
theorem row_none {α : Type} (f : α → Value) (w : World) : Row f w (.slice none 0 0) [] := ⟨none, 0, rfl, Nat.le_refl _, by omega, fun h => absurd h (by simp)⟩
theorem run_lit79 (n : Int) (w : World) : (Instr.buildSlice 79 1 #[(0, .int .i64 n)]).run Try.prog w = .ok (.slice (some ⟨w.heap.size, 0, none⟩) 1 1) (newB w #[.int .i64 n] 3) := by kernel_rfl
theorem row_lit79 (n : Int) (w : World) : Row fI (newB w #[.int .i64 n] 3) (.slice (some ⟨w.heap.size, 0, none⟩) 1 1) [n] := by
  refine ⟨_, _, rfl, Nat.le_refl _, by omega, fun _ => ⟨_, rfl, fun j x hj => ?_⟩⟩
  have hj0 : j = 0 := by
    have := (List.getElem?_eq_some_iff.1 hj).1
    simp at this
    exact this
  subst hj0
  simp at hj
  subst hj
  rw [Addr.add_zero', cell_blk (newB_get _ _ _)]
  rfl
theorem shown08 (hK : ∀ w1, Ext w w1 → K (.bool true) w1) : CALL Try.prog 68 #[] w K := by
  apply call_law08_shown
  unfold B_law08_shown
  refine New_disk (fun h => absurd h (by omega)) ?_
  intro m hm _ b w1 hx1 hlow hd1
  obtain rfl : m = 2 := by omega
  have e0 : decide ((0 : Int) ≠ 0) = false := by decide
  simp only [X_extract0, X_extract1, X_eql_nil_74, Option.isNone_some, X_neq, e0, decide_true, decide_false, GS]
  refine X_of (lit_xyz _) ?_
  refine bts_conv [120, 121, 122] 3 rfl (by decide) ?_
  intro v2 w2 hx2 hb2 hk2
  have hd2 := hd1.ext hx2
  have ws0 : (Dk.new 2).ws.length ≤ 1000000 := by decide
  have out2 : Outs w2 b v2 := fun k hk => ⟨fun hf => by
    have := hd1.lt k ((foot_same (hx2.block b (hd1.lt b (foot_self _ b)) (fun h => h))).1 hf)
    have := (hk2 k hk).1
    omega, (hk2 k hk).2⟩
  refine Write_spec hd2 ws0 hb2 (fun _ k hk => (out2 k hk).1) ?_
  intro w3 hd3 s3
  have r3 : ((Dk.new 2).write 1 [120, 121, 122]).2 = 0 := by decide +kernel
  simp only [r3, X_neq, e0, decide_true, decide_false, GS]
  refine Crash_spec hd3 (row_none _ _) (fun h => absurd h (by simp)) ?_
  intro w4 hd4 s4
  refine Read_spec hd4 ?_
  intro v5 w5 hx5 ho5
  have r5 : (((Dk.new 2).write 1 [120, 121, 122]).1.crash []).read 1 = (List.replicate 128 0, 0) := by decide +kernel
  rw [r5] at ho5
  rw [r5]
  simp only [X_extract0, X_extract1]
  have out5 : Outs w5 b v5 := outs_own ho5 hx5 hd4.lt (Nat.le_refl _)
  have hb5 := (own_bts ho5).1
  have hd5 := hd4.ext hx5
  refine X_of (lit_xyz _) ?_
  refine bts_conv [120, 121, 122] 3 rfl (by decide) ?_
  intro v6 w6 hx6 hb6 hk6
  have hd6 := hd5.ext hx6
  have out6 : Outs w6 b v6 := fun k hk => ⟨fun hf => by
    have := hd5.lt k ((foot_same (hx6.block b (hd5.lt b (foot_self _ b)) (fun h => h))).1 hf)
    have := (hk6 k hk).1
    omega, (hk6 k hk).2⟩
  have out5' := out5.ext (hd5.lt b (foot_self _ b)) hx6
  have hb5' := hb5.ext hx6
  refine Write_spec hd6 (by decide +kernel) hb6 (fun _ k hk => (out6 k hk).1) ?_
  intro w7 hd7 s7
  have r7 : ((((Dk.new 2).write 1 [120, 121, 122]).1.crash []).write 1 [120, 121, 122]).2 = 0 := by decide +kernel
  have out7 := out5'.step s7
  have hb7 := hb5'.step out5' s7
  refine X_of (run_lit79 _ _) ?_
  have hx8 := newB_ext w7 #[.int .i64 2] 3
  have hr8 := row_lit79 2 w7
  have hs8 := newB_size w7 #[.int .i64 2] 3
  have hlt7 := hd7.lt
  have hd8 := hd7.ext hx8
  have out8 := out7.ext (hd7.lt b (foot_self _ b)) hx8
  have hb8 := hb7.ext hx8
  refine Crash_spec hd8 hr8 (fun _ k hk hf => ?_) ?_
  · have e1 : w7.heap.size = k := by injection hk
    have := hlt7 k ((foot_same (hx8.block b (hd7.lt b (foot_self _ b)) (fun h => h))).1 hf)
    omega
  intro w9 hd9 s9
  have out9 := out8.step s9
  have hb9 := hb8.step out8 s9
  refine Read_spec hd9 ?_
  intro v10 w10 hx10 ho10
  have r10 : (((((Dk.new 2).write 1 [120, 121, 122]).1.crash []).write 1 [120, 121, 122]).1.crash [2]).read 1 = ([120, 121] ++ List.replicate 126 0, 0) := by decide +kernel
  rw [r10] at ho10
  rw [r10]
  simp only [X_extract0, X_extract1]
  have out10 := out9.ext (hd9.lt b (foot_self _ b)) hx10
  have hb10 := hb9.ext hx10
  have outB : Outs w10 b v10 := outs_own ho10 hx10 hd9.lt (Nat.le_refl _)
  have hbB := (own_bts ho10).1
  have hd10 := hd9.ext hx10
  have hxd := Keep.drew (fun _ => False) w10
  refine ⟨Keep (foot w10 b), Keep.frame _, ?_⟩
  obtain ⟨a5, c5, ev5⟩ := Bts.slice hb10
  obtain ⟨a10, c10, ev10⟩ := Bts.slice hbB
  have hb10d := hb10.ext hxd
  have hbBd := hbB.ext hxd
  have e128 : decide (((List.replicate 128 (0 : UInt8)).length : Int) = 128) = true := by decide +kernel
  have e128' : decide ((([120, 121] ++ List.replicate 126 (0 : UInt8) : List UInt8).length : Int) = 128) = true := by decide +kernel
  rw [ev5, XP_len_27, XP_eql, ← ev5]
  simp only [e128, decide_true, decide_false, GS]
  refine XR_ok (Keep.frame _) (fun w' k => run_str Try.underlying27 Try.underlying5 Try.underlying9 (hb10d.keep k (fun i hi => (out10 i hi).1))) ?_
  refine X_make Try.underlying27 el_5 128 128 rfl rfl (Nat.le_refl _) (by decide) (by decide) ?_
  have hcells : madeCells (Value.int .u8 0).cells (128 * 1) = (B8 (List.replicate 128 0)).toArray := by
    apply Array.ext'
    have : (madeCells (Value.int .u8 0).cells 128).toList = List.replicate 128 (.int .u8 0) := made_one _ _
    rw [Nat.mul_one, this]
    simp [B8]
  rw [hcells]
  have hx11 := newB_ext (drewW w10) (B8 (List.replicate 128 0)).toArray 5
  have hb11 := lit_bts (w := drewW w10) (List.replicate 128 0) (by simp) 5
  have hl128 : (List.replicate 128 (0 : UInt8)).length = 128 := List.length_replicate
  rw [hl128] at hb11
  refine ⟨hx11.ext, ?_⟩
  generalize newB (drewW w10) (B8 (List.replicate 128 0)).toArray 5 = w11 at hx11 hb11 ⊢
  refine XR_ok (Keep.frame _) (fun w' k => run_str Try.underlying27 Try.underlying5 Try.underlying9 (hb11.keep k (fun i hi hf => by
    have h1 : (drewW w10).heap.size = i := by injection hi
    have h2 := hd10.lt i hf
    have h3 : (drewW w10).heap.size = w10.heap.size := rfl
    omega))) ?_
  simp only [XP_str_eql, str_toList, l8_beq, decide_true, decide_false, GS]
  have hbB11 := hbBd.ext hx11
  rw [ev10, XP_len_27, XP_eql, ← ev10]
  simp only [e128', decide_true, decide_false, GS]
  obtain ⟨u, hu, hub, hblk⟩ := cut_hi Try.underlying27 info_5 hbB11 (kh := .i64) (hj := 3) 3 rfl (by simp)
  refine XP_of hu ?_
  refine XR_ok (Keep.frame _) (fun w' k => run_str Try.underlying27 Try.underlying5 Try.underlying9 (hub.keep k (fun i hi => (outB i (by rw [← hblk]; exact hi)).1))) ?_
  have e3 : decide (([120, 121] ++ List.replicate 126 (0 : UInt8) : List UInt8).take 3 = [120, 121, 0]) = true := by decide +kernel
  have e00 : decide ((0 : Int) = 0) = true := by decide
  simp only [str_lit2, XP_str_eql, str_toList, l8_beq, e3, XP_eql, e00, r7, decide_true, decide_false, GS]
  have hd11 := (hd10.ext hxd).ext hx11
  refine Write_spec hd11 (by decide +kernel) (Bts.nil _) (fun h => absurd h (by simp)) ?_
  intro w12 hd12 s12
  have hf11 : ∀ k, foot w11 b k ↔ foot w10 b k := fun k => foot_same ((hxd.trans hx11).block b (hd10.lt b (foot_self _ b)) (fun h => h))
  refine ⟨s12.keep.mono (fun i _ hf => (hf11 i).1 hf), ?_⟩
  have r12 : ((((((Dk.new 2).write 1 [120, 121, 122]).1.crash []).write 1 [120, 121, 122]).1.crash [2]).write 2 []).2 = 1 := by decide +kernel
  have e11 : decide ((1 : Int) = 1) = true := by decide
  simp only [r12, XP_eql, e11, decide_true, decide_false, GS]
  have low2 := (Step.ext hx2 (hd1.lt b (foot_self _ b))).low hx1.size hlow
  have x3 := s3.out (hx1.trans hx2) low2
  have low3 := s3.low (hx1.trans hx2).size low2
  have x4 := s4.out x3 low3
  have low4 := s4.low x3.size low3
  have low6 := (Step.ext (hx5.trans hx6) (hd4.lt b (foot_self _ b))).low x4.size low4
  have x7 := s7.out (x4.trans (hx5.trans hx6)) low6
  have low7 := s7.low (x4.trans (hx5.trans hx6)).size low6
  have low8 := (Step.ext hx8 (hd7.lt b (foot_self _ b))).low x7.size low7
  have x9 := s9.out (x7.trans hx8) low8
  have low9 := s9.low (x7.trans hx8).size low8
  have low11 := (Step.ext (hx10.trans (hxd.trans hx11)) (hd9.lt b (foot_self _ b))).low x9.size low9
  exact hK w12 (s12.out (x9.trans (hx10.trans (hxd.trans hx11))) low11)
end
end Go.Proofs.Ytggggfcgnkllgaa
end
section
set_option linter.unusedVariables false
namespace Go.Proofs.Ytggggfcgnkllgaa
open Go Go.Sh
attribute [local irreducible] X XU XP XR CALL loopS resC closS
/-- cellarage/cellaragelaw12.VaultNil -/
def B_law12_VaultNil (x0 x1 : Value) (w : World) (K : Value → World → Prop) : Prop :=
  CALL Try.prog 102 #[(.pointer none), x0] w fun v1_13 w1 =>
  X Try.prog (Instr.extract v1_13 0) w1 fun v2_14 w2 =>
  X Try.prog (Instr.extract v1_13 1) w2 fun v3_15 w3 =>
  CALL Try.prog 99 #[(.pointer none), x0, (.int .i64 1), (.int .i64 1)] w3 fun v4_18 w4 =>
  X Try.prog (Instr.extract v4_18 0) w4 fun v5_19 w5 =>
  X Try.prog (Instr.extract v4_18 1) w5 fun v6_20 w6 =>
  CALL Try.prog 98 #[] w6 fun v7_21 w7 =>
  gstep v7_21 true (fun w8 K => K (.pointer none) w8) w7 fun v8_23 w9 =>
  gstep v7_21 true (fun w10 K => K x0 w10) w9 fun v9_24 w11 =>
  gstep v7_21 true (fun w12 K => K x1 w12) w11 fun v10_25 w13 =>
  gstep v7_21 true (fun w14 K => CALL Try.prog 100 #[v8_23, v9_24, v10_25] w14 K) w13 fun v11_26 w15 =>
  gstep v7_21 true (fun w16 K => X Try.prog (binOpG .eql 30 (.tmp 26) (.const (.int .i64 2)) v11_26 (.int .i64 2)) w16 K) w15 fun v12_27 w17 =>
  X Try.prog (pickS v7_21 v12_27 (.bool false)) w17 fun v13_28 w18 =>
  gstep v13_28 true (fun w19 K => K v2_14 w19) w18 fun v14_30 w20 =>
  gstep v13_28 true (fun w21 K => X Try.prog (Builtin.len_ #[27] 3 #[v14_30]) w21 K) w20 fun v15_31 w22 =>
  gstep v13_28 true (fun w23 K => X Try.prog (binOpG .eql 3 (.tmp 31) (.const (.int .i64 0)) v15_31 (.int .i64 0)) w23 K) w22 fun v16_32 w24 =>
  X Try.prog (pickS v13_28 v16_32 (.bool false)) w24 fun v17_33 w25 =>
  gstep v17_33 true (fun w26 K => K v3_15 w26) w25 fun v18_35 w27 =>
  gstep v17_33 true (fun w28 K => X Try.prog (binOpG .eql 30 (.tmp 35) (.const (.int .i64 2)) v18_35 (.int .i64 2)) w28 K) w27 fun v19_36 w29 =>
  X Try.prog (pickS v17_33 v19_36 (.bool false)) w29 fun v20_37 w30 =>
  gstep v20_37 true (fun w31 K => K (.pointer none) w31) w30 fun v21_39 w32 =>
  gstep v20_37 true (fun w33 K => CALL Try.prog 101 #[v21_39] w33 K) w32 fun v22_40 w34 =>
  gstep v20_37 true (fun w35 K => X Try.prog (binOpG .eql 3 (.tmp 40) (.const (.int .i64 0)) v22_40 (.int .i64 0)) w35 K) w34 fun v23_41 w36 =>
  X Try.prog (pickS v20_37 v23_41 (.bool false)) w36 fun v24_42 w37 =>
  gstep v24_42 true (fun w38 K => K (.pointer none) w38) w37 fun v25_44 w39 =>
  gstep v24_42 true (fun w40 K => CALL Try.prog 103 #[v25_44] w40 K) w39 fun v26_45 w41 =>
  gstep v24_42 true (fun w42 K => X Try.prog (binOpG .eql 3 (.tmp 45) (.const (.int .i64 0)) v26_45 (.int .i64 0)) w42 K) w41 fun v27_46 w43 =>
  X Try.prog (pickS v24_42 v27_46 (.bool false)) w43 fun v28_47 w44 =>
  gstep v28_47 true (fun w45 K => K v5_19 w45) w44 fun v29_49 w46 =>
  gstep v28_47 true (fun w47 K => X Try.prog (binOpG .eql 124 (.tmp 49) (.const (.pointer none)) v29_49 (.pointer none)) w47 K) w46 fun v30_50 w48 =>
  X Try.prog (pickS v28_47 v30_50 (.bool false)) w48 fun v31_51 w49 =>
  gstep v31_51 true (fun w50 K => K v6_20 w50) w49 fun v32_53 w51 =>
  gstep v31_51 true (fun w52 K => X Try.prog (binOpG .eql 30 (.tmp 53) (.const (.int .i64 2)) v32_53 (.int .i64 2)) w52 K) w51 fun v33_54 w53 =>
  X Try.prog (pickS v31_51 v33_54 (.bool false)) w53 fun v34_55 w54 =>
  K v34_55 w54

theorem eq_law12_VaultNil (x0 x1 : Value) (w : World) (K : Value → World → Prop) :
    sh Try.prog (Try.f34.body.getD .skip) (retS Try.prog Try.f34.results K) (env0 #[x0, x1]) w = B_law12_VaultNil x0 x1 w K := by kernel_rfl

theorem call_law12_VaultNil (x0 x1 : Value) (w : World) (K : Value → World → Prop) (h : B_law12_VaultNil x0 x1 w K) : CALL Try.prog 34 #[x0, x1] w K :=
  call_of_eq (c := Try.f34.body.getD .skip) mixed Try.func34 (by kernel_rfl) (by kernel_rfl) (by kernel_rfl) (Nat.le_of_ble_eq_true (by kernel_rfl)) (eq_law12_VaultNil x0 x1 w K) h

/-- cellarage/cellaragelaw12.shown -/
def B_law12_shown (w : World) (K : Value → World → Prop) : Prop :=
  CALL Try.prog 69 #[(.int .i64 8)] w fun v1_13 w1 =>
  X Try.prog (Instr.extract v1_13 0) w1 fun v2_14 w2 =>
  X Try.prog (Instr.extract v1_13 1) w2 fun v3_15 w3 =>
  CALL Try.prog 69 #[(.int .i64 7)] w3 fun v4_17 w4 =>
  X Try.prog (Instr.extract v4_17 0) w4 fun v5_18 w5 =>
  X Try.prog (Instr.extract v4_17 1) w5 fun v6_19 w6 =>
  CALL Try.prog 99 #[v2_14, (.int .i64 2), (.int .i64 2), (.int .i64 3)] w6 fun v7_22 w7 =>
  X Try.prog (Instr.extract v7_22 0) w7 fun v8_23 w8 =>
  X Try.prog (Instr.extract v7_22 1) w8 fun v9_24 w9 =>
  CALL Try.prog 99 #[v5_18, (.int .i64 2), (.int .i64 2), (.int .i64 3)] w9 fun v10_27 w10 =>
  X Try.prog (Instr.extract v10_27 0) w10 fun v11_28 w11 =>
  X Try.prog (Instr.extract v10_27 1) w11 fun v12_29 w12 =>
  X Try.prog (binOpG .eql 124 (.tmp 30) (.const (.pointer none)) v8_23 (.pointer none)) w12 fun v13_31 w13 =>
  gstep v13_31 false (fun w14 K => K v9_24 w14) w13 fun v14_33 w15 =>
  gstep v13_31 false (fun w16 K => X Try.prog (binOpG .neq 30 (.tmp 33) (.const (.int .i64 0)) v14_33 (.int .i64 0)) w16 K) w15 fun v15_34 w17 =>
  X Try.prog (pickS v13_31 (.bool true) v15_34) w17 fun v16_35 w18 =>
  condS v16_35 (
  K (.bool false) w18) (
  X Try.prog (Instr.buildSlice 27 3 #[(0, (.int .u8 97)), (1, (.int .u8 98)), (2, (.int .u8 99))]) w18 fun v17_37 w19 =>
  X Try.prog (convert 27 27 v17_37) w19 fun v18_38 w20 =>
  CALL Try.prog 100 #[v8_23, (.int .i64 1), v18_38] w20 fun v19_39 w21 =>
  CALL Try.prog 73 #[v2_14, (.int .i64 4)] w21 fun v20_42 w22 =>
  X Try.prog (Instr.extract v20_42 0) w22 fun v21_43 w23 =>
  X Try.prog (Instr.extract v20_42 1) w23 fun v22_44 w24 =>
  X Try.prog (binOpG .eql 30 (.tmp 45) (.const (.int .i64 1)) v12_29 (.int .i64 1)) w24 fun v23_46 w25 =>
  gstep v23_46 true (fun w26 K => K v8_23 w26) w25 fun v24_48 w27 =>
  gstep v23_46 true (fun w28 K => CALL Try.prog 101 #[v24_48] w28 K) w27 fun v25_49 w29 =>
  gstep v23_46 true (fun w30 K => X Try.prog (binOpG .eql 3 (.tmp 49) (.const (.int .i64 252)) v25_49 (.int .i64 252)) w30 K) w29 fun v26_50 w31 =>
  X Try.prog (pickS v23_46 v26_50 (.bool false)) w31 fun v27_51 w32 =>
  gstep v27_51 true (fun w33 K => K v19_39 w33) w32 fun v28_53 w34 =>
  gstep v27_51 true (fun w35 K => X Try.prog (binOpG .eql 30 (.tmp 53) (.const (.int .i64 0)) v28_53 (.int .i64 0)) w35 K) w34 fun v29_54 w36 =>
  X Try.prog (pickS v27_51 v29_54 (.bool false)) w36 fun v30_55 w37 =>
  gstep v30_55 true (fun w38 K => K v22_44 w38) w37 fun v31_57 w39 =>
  gstep v30_55 true (fun w40 K => X Try.prog (binOpG .eql 30 (.tmp 57) (.const (.int .i64 0)) v31_57 (.int .i64 0)) w40 K) w39 fun v32_58 w41 =>
  X Try.prog (pickS v30_55 v32_58 (.bool false)) w41 fun v33_59 w42 =>
  gstep v33_59 true (fun w43 K => K v2_14 w43) w42 fun v34_61 w44 =>
  gstep v33_59 true (fun w45 K => CALL Try.prog 79 #[v34_61] w45 K) w44 fun v35_62 w46 =>
  gstep v33_59 true (fun w47 K => X Try.prog (binOpG .eql 3 (.tmp 62) (.const (.int .i64 1)) v35_62 (.int .i64 1)) w47 K) w46 fun v36_63 w48 =>
  X Try.prog (pickS v33_59 v36_63 (.bool false)) w48 fun v37_64 w49 =>
  gstep v37_64 true (fun w50 K => K v21_43 w50) w49 fun v38_66 w51 =>
  gstep v37_64 true (fun w52 K => X Try.prog (Builtin.len_ #[27] 3 #[v38_66]) w52 K) w51 fun v39_67 w53 =>
  gstep v37_64 true (fun w54 K => X Try.prog (binOpG .eql 3 (.tmp 67) (.const (.int .i64 128)) v39_67 (.int .i64 128)) w54 K) w53 fun v40_68 w55 =>
  X Try.prog (pickS v37_64 v40_68 (.bool false)) w55 fun v41_69 w56 =>
  gstep v41_69 true (fun w57 K => K v21_43 w57) w56 fun v42_71 w58 =>
  gstep v41_69 true (fun w59 K => X Try.prog (Instr.sliceAt 27 v42_71 none (some (.int .i64 8)) none) w59 K) w58 fun v43_72 w60 =>
  gstep v41_69 true (fun w61 K => X Try.prog (convert 27 9 v43_72) w61 K) w60 fun v44_73 w62 =>
  gstep v41_69 true (fun w63 K => X Try.prog (binOpG .eql 9 (.tmp 73) (.const (.string { data := #[0, 0, 0, 3, 97, 98, 99, 0] })) v44_73 (.string { data := #[0, 0, 0, 3, 97, 98, 99, 0] })) w63 K) w62 fun v45_74 w64 =>
  X Try.prog (pickS v41_69 v45_74 (.bool false)) w64 fun v46_75 w65 =>
  K v46_75 w65)

theorem eq_law12_shown (w : World) (K : Value → World → Prop) :
    sh Try.prog (Try.f98.body.getD .skip) (retS Try.prog Try.f98.results K) (env0 #[]) w = B_law12_shown  w K := by kernel_rfl

theorem call_law12_shown (w : World) (K : Value → World → Prop) (h : B_law12_shown  w K) : CALL Try.prog 98 #[] w K :=
  call_of_eq (c := Try.f98.body.getD .skip) mixed Try.func98 (by kernel_rfl) (by kernel_rfl) (by kernel_rfl) (Nat.le_of_ble_eq_true (by kernel_rfl)) (eq_law12_shown  w K) h

/-- cellarage/cellaragelaw12.few -/
def B_law12_few (x0 : Value) (w : World) (K : Value → World → Prop) : Prop :=
  X Try.prog (Builtin.len_ #[136] 3 #[x0]) w fun v1_6 w1 =>
  loopS (fun Q1 ρ1 w2 =>
  X Try.prog (binOp .lss 3 (ρ1 7) (ρ1 6)) w2 fun v2_8 w3 =>
  condS v2_8 (
  X Try.prog (binOp .geq 3 (ρ1 7) (.int .i64 60)) w3 fun v3_11 w4 =>
  gstep v3_11 false (fun w5 K => K (ρ1 0) w5) w4 fun v4_13 w6 =>
  gstep v3_11 false (fun w7 K => K (ρ1 7) w7) w6 fun v5_14 w8 =>
  gstep v3_11 false (fun w9 K => X Try.prog (Instr.indexAt 136 v4_13 v5_14) w9 K) w8 fun v6_15 w10 =>
  gstep v3_11 false (fun w11 K => X Try.prog (Instr.fieldAt 142 v6_15 3) w11 K) w10 fun v7_16 w12 =>
  gstep v3_11 false (fun w13 K => X Try.prog (Instr.loadAt 27 v7_16) w13 K) w12 fun v8_17 w14 =>
  gstep v3_11 false (fun w15 K => X Try.prog (Builtin.len_ #[27] 3 #[v8_17]) w15 K) w14 fun v9_18 w16 =>
  gstep v3_11 false (fun w17 K => K (ρ1 3) w17) w16 fun v10_19 w18 =>
  gstep v3_11 false (fun w19 K => X Try.prog (binOp .gtr 3 v9_18 v10_19) w19 K) w18 fun v11_20 w20 =>
  X Try.prog (pickS v3_11 (.bool true) v11_20) w20 fun v12_21 w21 =>
  condS v12_21 (
  X Try.prog (Instr.sliceAt 136 (ρ1 0) none (some (ρ1 7)) none) w21 fun v13_24 w22 =>
  Q1 .ret (upds ρ1 [(2, v13_24), (24, v13_24), (23, (ρ1 7)), (22, (ρ1 0)), (21, v12_21), (20, v11_20), (19, v10_19), (18, v9_18), (17, v8_17), (16, v7_16), (15, v6_15), (14, v5_14), (13, v4_13), (12, v3_11), (11, v3_11), (10, (ρ1 7)), (4, (ρ1 7)), (9, (ρ1 7)), (8, v2_8)]) w22) (
  X Try.prog (Instr.indexAt 136 (ρ1 0) (ρ1 7)) w21 fun v14_28 w23 =>
  X Try.prog (Instr.fieldAt 142 v14_28 3) w23 fun v15_29 w24 =>
  X Try.prog (Instr.loadAt 27 v15_29) w24 fun v16_30 w25 =>
  X Try.prog (Builtin.len_ #[27] 3 #[v16_30]) w25 fun v17_31 w26 =>
  X Try.prog (binOp .sub 3 (ρ1 3) v17_31) w26 fun v18_32 w27 =>
  X Try.prog (binOp .add 3 (ρ1 7) (.int .i64 1)) w27 fun v19_33 w28 =>
  Q1 .normal (upds ρ1 [(7, v19_33), (33, v19_33), (3, v18_32), (32, v18_32), (31, v17_31), (30, v16_30), (29, v15_29), (28, v14_28), (27, (ρ1 7)), (26, (ρ1 0)), (25, (ρ1 3)), (21, v12_21), (20, v11_20), (19, v10_19), (18, v9_18), (17, v8_17), (16, v7_16), (15, v6_15), (14, v5_14), (13, v4_13), (12, v3_11), (11, v3_11), (10, (ρ1 7)), (4, (ρ1 7)), (9, (ρ1 7)), (8, v2_8)]) w28)) (
  Q1 (.exit 0) (upds ρ1 [(8, v2_8)]) w3)) (inBlockS 0 (thenS (fun ρ2 w29 =>
  K (ρ2 0) w29) (retS Try.prog (Try.f106).results K))) (upds (env0 #[x0]) [(7, (.int .i64 0)), (6, v1_6), (5, x0), (3, (.int .i64 20000)), (2, (.slice none 0 0))]) w1

theorem eq_law12_few (x0 : Value) (w : World) (K : Value → World → Prop) :
    sh Try.prog (Try.f106.body.getD .skip) (retS Try.prog Try.f106.results K) (env0 #[x0]) w = B_law12_few x0 w K := by kernel_rfl

theorem call_law12_few (x0 : Value) (w : World) (K : Value → World → Prop) (h : B_law12_few x0 w K) : CALL Try.prog 106 #[x0] w K :=
  call_of_eq (c := Try.f106.body.getD .skip) mixed Try.func106 (by kernel_rfl) (by kernel_rfl) (by kernel_rfl) (Nat.le_of_ble_eq_true (by kernel_rfl)) (eq_law12_few x0 w K) h

end Go.Proofs.Ytggggfcgnkllgaa
end
section
/- cellaragelaw12: acts, few, shown. -/
set_option linter.unusedVariables false
set_option linter.unusedSimpArgs false
namespace Go.Proofs.Ytggggfcgnkllgaa
open Go Go.Sh Go.RowKit Go.ChangeShapes Go.WideShapes Go.ChangeAt
attribute [local irreducible] X XU XP XR CALL loopS resC closS Value.okWide
theorem trc_act12 {H : Type} {enc : TypeId × Value → H} {W : World} {es : List Value} (h : TrC enc Try.prog W 142 es) : ∃ a : DAct, es = a.cs ∧ a.In W := by
  obtain ⟨x0, x1, x2, x3, x4, rfl, g0, g1, g2, g3, g4⟩ := trc_five Try.underlying142 (by kernel_rfl) rfl rfl rfl rfl rfl (by kernel_rfl) (by kernel_rfl) (by kernel_rfl) (by kernel_rfl) (by kernel_rfl) h
  obtain ⟨n0, e0, w0⟩ := TrC.int Try.underlying5 g0
  obtain ⟨n1, e1, w1⟩ := TrC.int Try.underlying3 g1
  obtain ⟨n2, e2, w2⟩ := TrC.int Try.underlying3 g2
  obtain ⟨bs, hbs⟩ := TrC.bytes Try.underlying27 Try.underlying5 (by kernel_rfl) g3
  obtain ⟨fates, hfs, _⟩ := TrC.row (f := fI) (Good := fun _ => True) Try.underlying79 (by kernel_rfl) (fun es hes => by
    obtain ⟨n, rfl, _⟩ := hes.int Try.underlying3
    exact ⟨n, rfl, trivial⟩) g4
  simp at e0 e1 e2
  subst e0; subst e1; subst e2
  simp [Lit.wf, IntKind.min, IntKind.max, IntKind.signed, IntKind.bits] at w0 w1 w2
  refine ⟨⟨n0.toNat, n1, n2, bs, fates, x3, x4⟩, ?_, by show n0.toNat < 256; omega, by show n2 ≤ _; omega, hbs, hfs⟩
  show _ = [Value.int .u8 ((n0.toNat : Nat) : Int), .int .i64 n1, .int .i64 n2, x3, x4]
  rw [Int.toNat_of_nonneg w0.1]
theorem arg_acts12 {H : Type} {enc : TypeId × Value → H} {W : World} {base : Nat} {v : Value} {d : DataW H} {p : List MemPlace}
    (ok : Value.okWide Try.prog W .any base 136 v) (h : DataW.Trod enc Try.prog W 0 (fun _ => true) true 136 v d p) : ∃ l : List DAct, RowK 5 DAct.cs W v l ∧ ∀ a ∈ l, a.In W := by
  obtain ⟨a, n, c, rfl⟩ := okWide_slice Try.underlying136 ok
  exact TrC.rowK Try.underlying136 (by kernel_rfl) (fun es hes => trc_act12 hes) (TrC.of h)
/-- An act is copied from its list. -/
theorem X_takeAct12 {w : World} {v : Value} {l : List DAct} {i : Nat} {K : Value → Value → Value → World → Prop} (hl : RowK 5 DAct.cs w v l) (hi : i < l.length) (ha : l[i].In w)
    (hK : ∀ v1 v2 q w1, Ext w w1 → w.heap.size ≤ q → w1.heap[q]? = some (.cells l[i].cs.toArray 142 (0, 0)) → K v1 v2 (ptr q) w1) :
    X Try.prog (Instr.indexAt 136 v (.int .i64 (i : Int))) w fun v1 w1 => X Try.prog (Instr.loadAt 142 v1) w1 fun v2 w2 => X Try.prog (Instr.alloc 142 true (.tuple #[])) w2 fun v3 w3 => XU Try.prog (Instr.storeAt 142 v3 v2) w3 fun w4 => K v1 v2 v3 w4 := by
  obtain ⟨ad, hix, hcs⟩ := hl.at Try.underlying136 info_142 sz_142 (kd := .i64) i rfl hi
  refine X_of (hix _) ?_
  refine X_of (load_cells Try.underlying142 agg_142 info_142 (l := l[i].cs) (by rw [sz_142]; rfl) hcs) ?_
  refine X_alloc zero_142 ?_
  have hq := newB_get w #[(.int .u8 0), (.int .i64 0), (.int .i64 0), (.slice none 0 0), (.slice none 0 0)] 142
  have hxq := newB_ext w #[(.int .u8 0), (.int .i64 0), (.int .i64 0), (.slice none 0 0), (.slice none 0 0)] 142
  show XU _ _ (newB w #[(.int .u8 0), (.int .i64 0), (.int .i64 0), (.slice none 0 0), (.slice none 0 0)] 142) _
  generalize newB w #[(.int .u8 0), (.int .i64 0), (.int .i64 0), (.slice none 0 0), (.slice none 0 0)] 142 = w2 at hq hxq ⊢
  refine XU_storeAgg info_142 hq (by rw [sz_142]; rfl) (by rw [sz_142]; rfl) (DAct.one ha) ?_
  exact hK _ _ _ _ (Ext.seq hxq (setAt_keep _ _ _ _ _) (fun j hj => by omega)) (Nat.le_refl _) (setAt_same (lt_of_blk hq))

section
variable {w : World} {K : Value → World → Prop}
/-- The first acts. -/
theorem few12_spec {l : List DAct} {v : Value} (hl : RowK 5 DAct.cs w v l) (hin : ∀ a ∈ l, a.In w) 
    (hK : ∀ m v1, m ≤ 60 → m ≤ l.length → (∀ W, RowK 5 DAct.cs W v l → RowK 5 DAct.cs W v1 (l.take m)) → (∀ a ∈ l.take m, a.bs.length ≤ 20000) → K v1 w) : CALL Try.prog 106 #[v] w K := by
  obtain ⟨a0, c0, e0⟩ := hl.slice
  have hn : l.length ≤ 9223372036854775807 := by
    obtain ⟨_, c, _, h1, h2, _⟩ := hl
    omega
  apply call_law12_few
  unfold B_law12_few
  rw [e0, X_len_136, ← e0]
  refine loopE (fun ρ wr => wr = w ∧ ∃ i left : Nat, i ≤ l.length ∧ i ≤ 60 ∧ left ≤ 20000 ∧ (∀ a ∈ l.take i, a.bs.length ≤ 20000) ∧ ρ 7 = .int .i64 (i : Nat) ∧ ρ 6 = .int .i64 (l.length : Nat) ∧ ρ 0 = v ∧ ρ 3 = .int .i64 (left : Nat))
    (fun ρ wr => match ρ 7 with | .int _ s => (l.length - s).toNat | _ => 0)
    (fun ρ wr => wr = w ∧ l.length ≤ 60 ∧ (∀ a ∈ l, a.bs.length ≤ 20000) ∧ ρ 0 = v) ?_ ?_ ?_
  · exact ⟨rfl, 0, 20000, by omega, by omega, by omega, by simp, rfl, rfl, rfl, rfl⟩
  · rintro J hJ ρ wr ⟨rfl, i, left, hi, hi60, hleft, hall, h7, h6, h0, h3⟩
    rw [h7, h6, X_lss, condS_bool]
    by_cases hin' : i = l.length
    · rw [if_neg (by simp; omega)]
      refine hJ _ _ ⟨rfl, by omega, ?_, h0⟩
      rw [hin', List.take_length] at hall
      exact hall
    rw [if_pos (by simp; omega)]
    have hlt : i < l.length := by omega
    have stop : Go.Sh.X Try.prog (Instr.sliceAt 136 v none (some (.int .i64 (i : Int))) none) wr fun v13 w22 => K v13 w22 := by
      obtain ⟨u, hu, hru⟩ := hl.cut Try.underlying136 info_142 (kh := .i64) (hj := (i : Int)) i rfl hi
      refine X_of (hu _) (hK i u hi60 hi (fun W hW => ?_) hall)
      obtain ⟨u', hu', hru'⟩ := hW.cut Try.underlying136 info_142 (kh := .i64) (hj := (i : Int)) i rfl hi
      have := (hu wr).symm.trans (hu' wr)
      injection this with this
      rw [this]
      exact hru'
    obtain ⟨ad, hix, hcs⟩ := hl.at Try.underlying136 info_142 sz_142 (kd := .i64) i rfl hlt
    have hini := hin _ (List.getElem_mem hlt)
    obtain ⟨ab, cb, eb⟩ := Bts.slice hini.bts
    have hfield : (Instr.fieldAt 142 (.pointer (some ad)) 3).run Try.prog wr = .ok (.pointer (some (ad.add 3))) wr := by kernel_rfl
    have hld : (Instr.loadAt 27 (.pointer (some (ad.add 3)))).run Try.prog wr = .ok l[i].bv wr := run_loadAt agg_27 (hcs 3 _ rfl)
    rw [h0, h3]
    rw [X_geq]
    by_cases h60 : i = 60
    · have e1 : decide ((i : Int) ≥ 60) = true := by simp; omega
      simp only [e1, GS]
      exact stop
    have e1 : decide ((i : Int) ≥ 60) = false := by simp; omega
    simp only [e1, GS]
    refine X_of (hix _) ?_
    refine X_of hfield ?_
    refine X_of hld ?_
    rw [eb]
    simp only [X_len_27, X_gtr, GS]
    rw [condS_bool]
    by_cases hbig : left < l[i].bs.length
    · rw [if_pos (by simp; omega)]
      exact stop
    rw [if_neg (by simp; omega)]
    refine X_of (hix _) ?_
    refine X_of hfield ?_
    refine X_of hld ?_
    rw [eb]
    simp only [X_len_27, X_sub, X_add]
    show _ ∧ _
    refine ⟨⟨rfl, i + 1, left - l[i].bs.length, by omega, by omega, by omega, ?_, next64 (n := 60) (by decide) (by omega), h6, h0, ?_⟩, ?_⟩
    · intro a ha
      rw [List.take_succ_eq_append_getElem hlt] at ha
      rcases List.mem_append.1 ha with ha | ha
      · exact hall a ha
      · rw [List.mem_singleton.1 ha]; omega
    · show Value.int .i64 (IntKind.i64.wrap ((left : Int) - (l[i].bs.length : Int))) = _
      have e : (left : Int) - (l[i].bs.length : Int) = ((left - l[i].bs.length : Nat) : Int) := by omega
      rw [w64 (by omega) (by omega), e]
    · show (_ - IntKind.i64.wrap _).toNat < _
      rw [w64 (by omega) (by omega)]
      first | omega | (show _ < (_ : Int).toNat; omega)
  · rintro ρ wr ⟨rfl, h60, hall, h0⟩
    rw [h0]
    exact hK l.length v h60 (Nat.le_refl _) (fun W hW => by rw [List.take_length]; exact hW) (by rw [List.take_length]; exact hall)

end
end Go.Proofs.Ytggggfcgnkllgaa
end
section
/- What cellaragelaw12.shown computes: true. -/
set_option linter.unusedVariables false
set_option linter.unusedSimpArgs false
namespace Go.Proofs.Ytggggfcgnkllgaa
open Go Go.Sh Go.RowKit
attribute [local irreducible] X XU XP XR CALL loopS resC closS
theorem lit_abc (w : World) : (Instr.buildSlice 27 3 #[(0, (.int .u8 97)), (1, (.int .u8 98)), (2, (.int .u8 99))]).run Try.prog w = .ok (.slice (some ⟨w.heap.size, 0, none⟩) 3 3) (newB w (B8 [97, 98, 99]).toArray 5) := by kernel_rfl
theorem foot_extV {w w1 : World} {b k : Nat} (x : Ext w w1) (hb : b < w.heap.size) : foot w1 b k ↔ foot w b k := foot_same (x.block b hb (fun h => h))
theorem layAll_one {d : Dk} {t : Nat} {x : List UInt8} (h : x ≠ []) (hx : x.length ≤ 128) : layAll d t x = d.write (t : Int) x := by
  have e1 : x.take 128 = x := List.take_of_length_le hx
  have e2 : x.drop 128 = [] := List.drop_eq_nil_of_le hx
  rw [layAll_cons d t h, e1, e2, layAll_nil]
  split
  · rfl
  · rename_i hz
    have hz' : (d.write (t : Int) x).2 = 0 := by simpa using hz
    rw [← hz']
theorem put_abc : vput ⟨2, 2, 3⟩ (Dk.new 8) 1 [97, 98, 99] = (Dk.new 8).write 4 [0, 0, 0, 3, 97, 98, 99] := by
  have e : be 4 ([97, 98, 99] : List UInt8).length ++ [97, 98, 99] = [0, 0, 0, 3, 97, 98, 99] := by decide
  unfold vput
  rw [if_neg (by decide), if_neg (by decide), e]
  exact layAll_one (by simp) (by decide)
theorem vnew8 : vnew (Dk.new 8).safe.length 2 2 3 = some ⟨2, 2, 3⟩ := by
  unfold vnew
  rw [if_neg (by decide)]
  rfl
theorem vnew7 : vnew (Dk.new 7).safe.length 2 2 3 = none := by
  unfold vnew
  rw [if_pos (by decide)]
theorem shown12 {w : World} {K : Value → World → Prop} (hK : ∀ w1, Ext w w1 → K (.bool true) w1) : CALL Try.prog 98 #[] w K := by
  apply call_law12_shown
  unfold B_law12_shown
  refine New_disk (fun h => absurd h (by omega)) ?_
  intro m hm _ b w1 hx1 hlow hd1
  obtain rfl : m = 8 := by omega
  simp only [X_extract0, X_extract1]
  refine New_disk (fun h => absurd h (by omega)) ?_
  intro m hm _ b2 w2 hx2 hlow2 hd2
  obtain rfl : m = 7 := by omega
  have hd1' := hd1.ext hx2
  have hb_lt := hd1'.lt b (foot_self _ _)
  have low1 : ∀ k, foot w2 b k → w.heap.size ≤ k := fun k hk => hlow k ((foot_extV hx2 (hd1.lt b (foot_self _ _))).1 hk)
  have e0 : decide ((0 : Int) ≠ 0) = false := by decide
  simp only [X_extract0, X_extract1]
  refine VNew_spec hd1' (by omega) (fun h => by rw [vnew8] at h; cases h) ?_
  intro V hV bv w3 hx3 hbv hv3
  have eV : V = ⟨2, 2, 3⟩ := by
    rw [vnew8] at hV
    exact (Option.some.inj hV).symm
  subst eV
  simp only [X_extract0, X_extract1]
  refine VNew_spec (hd2.ext hx3) (by omega) ?_ (fun V hV => by rw [vnew7] at hV; cases hV)
  intro _
  simp only [X_extract0, X_extract1, X_eql_nil_124, Option.isNone_some, X_neq, e0, GS]
  have hd3 := hd1'.ext hx3
  refine X_of (lit_abc _) ?_
  refine bts_conv [97, 98, 99] 3 rfl (by decide) ?_
  intro v4 w4 hx4 hb4 hk4
  have hd4 := hd3.ext hx4
  have hv4 : VaultAt w4 bv b ⟨2, 2, 3⟩ := hx4.get hv3
  have okV : (⟨2, 2, 3⟩ : Vt).ok (Dk.new 8).safe.length := ⟨by decide, by decide, by decide, by decide⟩
  have low4 : ∀ k, foot w4 b k → w.heap.size ≤ k := fun k hk => low1 k ((foot_extV (hx3.trans hx4) hb_lt).1 hk)
  have hx04 := hx1.trans (hx2.trans (hx3.trans hx4))
  refine VPut_spec hv4 hd4 okV (by decide) hb4 ?_
  intro w5 hd5 s5
  rw [put_abc] at hd5 ⊢
  have x5 := s5.out hx04 low4
  have hv5 : VaultAt w5 bv b ⟨2, 2, 3⟩ := s5.keep.get (hd4.notin hv4 (by decide) (by decide) (by decide)) hv4
  refine Read_spec hd5 ?_
  intro v6 w6 hx6 ho6
  have r6 : ((Dk.new 8).write 4 [0, 0, 0, 3, 97, 98, 99]).1.read 4 = ([0, 0, 0, 3, 97, 98, 99] ++ List.replicate 121 0, 0) := by decide +kernel
  rw [r6] at ho6 ⊢
  have e11 : decide ((1 : Int) = 1) = true := by decide
  have e00 : decide ((0 : Int) = 0) = true := by decide
  have r5 : ((Dk.new 8).write 4 [0, 0, 0, 3, 97, 98, 99]).2 = 0 := by decide +kernel
  rw [r5]
  simp only [X_extract0, X_extract1, X_eql, e11, decide_true, GS]
  refine VRoom_spec (hx6.get hv5) okV ?_
  have er : ((⟨2, 2, 3⟩ : Vt).room : Int) = 252 := by decide
  rw [er]
  simp only [X_eql, decide_true, GS]
  refine Done_spec (hd5.ext hx6) ?_
  have ed : ((Dk.new 8).write 4 [0, 0, 0, 3, 97, 98, 99]).1.done = 1 := by decide +kernel
  rw [ed]
  simp only [X_eql, decide_true, GS]
  obtain ⟨a6, c6, ev6⟩ := own_sl ho6
  have hb6 := (own_bts ho6).1
  rw [ev6, X_len_27, ← ev6]
  have e128 : decide ((([0, 0, 0, 3, 97, 98, 99] ++ List.replicate 121 (0 : UInt8) : List UInt8).length : Int) = 128) = true := by decide +kernel
  rw [X_eql, e128]
  simp only [GS]
  obtain ⟨u, hu, hub, _⟩ := cut_hi Try.underlying27 info_5 hb6 (kh := .i64) (hj := 8) 8 rfl (by simp)
  refine X_of (hu _) ?_
  refine X_str Try.underlying27 Try.underlying5 Try.underlying9 hub ?_
  have e3 : decide (([0, 0, 0, 3, 97, 98, 99] ++ List.replicate 121 (0 : UInt8) : List UInt8).take 8 = [0, 0, 0, 3, 97, 98, 99, 0]) = true := by decide +kernel
  simp only [str_lit2, X_str_eql, str_toList, l8_beq, e3, GS]
  exact hK _ (x5.trans hx6)
end Go.Proofs.Ytggggfcgnkllgaa
end
section
/- Shelves that are put and got, plain Lean. -/
set_option linter.unusedSimpArgs false
set_option linter.unusedVariables false
namespace Go.Proofs.Ytggggfcgnkllgaa
open Go Go.Sh
/-- The power is on, and stays. -/
def Live (d : Dk) : Prop := d.dead = false ∧ d.fuse = -1
theorem live_trip {d : Dk} (h : Live d) : d.trip = d := by
  unfold Dk.trip
  rw [if_neg (by rw [h.2]; decide)]
theorem live_write {d : Dk} (h : Live d) {t : Nat} {b : List UInt8} (ht : t < d.safe.length) (hb : b.length ≤ 128) :
    (d.write (t : Int) b).2 = 0 ∧ Live (d.write (t : Int) b).1 ∧ (d.write (t : Int) b).1.now = d.now.set t (padB b) ∧ (d.write (t : Int) b).1.done = IntKind.i64.wrap (d.done + 1) := by
  have e : d.write (t : Int) b = ({ d.tick with ws := d.ws ++ [(t, padB b)] }, 0) := by
    unfold Dk.write
    rw [if_neg (by omega), live_trip h, if_neg (by rw [h.1]; decide)]
    simp
  rw [e]
  refine ⟨rfl, ⟨h.1, ?_⟩, ?_, rfl⟩
  · show (if 0 < d.fuse then d.fuse - 1 else d.fuse) = -1
    rw [h.2]; decide
  · show putAll d.safe (d.ws ++ [(t, padB b)]) = _
    rw [putAll_append]
    rfl
def nsec (x : List UInt8) : Nat := (x.length + 127) / 128
/-- What laying bytes does to a disk that is on. -/
theorem lay_live (d : Dk) (t : Nat) (x : List UInt8) : Live d → t + nsec x ≤ d.safe.length → 0 ≤ d.done → d.done + nsec x ≤ 9223372036854775807 →
    (layAll d t x).2 = 0 ∧ Live (layAll d t x).1 ∧ (layAll d t x).1.done = d.done + nsec x ∧ (∀ s, s < t ∨ t + nsec x ≤ s → (layAll d t x).1.now[s]? = d.now[s]?) ∧
      (∀ j, j < nsec x → (layAll d t x).1.now[t + j]? = some (padB ((x.drop (128 * j)).take 128))) := by
  refine layAll_ind (P := fun d t x => Live d → t + nsec x ≤ d.safe.length → 0 ≤ d.done → d.done + nsec x ≤ 9223372036854775807 →
    (layAll d t x).2 = 0 ∧ Live (layAll d t x).1 ∧ (layAll d t x).1.done = d.done + nsec x ∧ (∀ s, s < t ∨ t + nsec x ≤ s → (layAll d t x).1.now[s]? = d.now[s]?) ∧
      (∀ j, j < nsec x → (layAll d t x).1.now[t + j]? = some (padB ((x.drop (128 * j)).take 128)))) ?_ ?_ ?_ d t x
  · intro d t hl ht h0 hd
    rw [layAll_nil]
    have e : nsec [] = 0 := rfl
    rw [e]
    exact ⟨rfl, hl, by simp, fun s _ => rfl, fun j hj => absurd hj (by omega)⟩
  · intro d t x hx he hl ht h0 hd
    have hp : 0 < x.length := List.length_pos_iff.2 hx
    have hn : 1 ≤ nsec x := by unfold nsec; omega
    obtain ⟨h1, _⟩ := live_write hl (t := t) (b := x.take 128) (by omega) (by simp; omega)
    exact absurd h1 he
  · intro d t x hx he ih hl ht h0 hd
    have hp : 0 < x.length := List.length_pos_iff.2 hx
    have hn : nsec x = 1 + nsec (x.drop 128) := by unfold nsec; rw [List.length_drop]; omega
    obtain ⟨h1, h2, h3, h4⟩ := live_write hl (t := t) (b := x.take 128) (by omega) (by simp; omega)
    rw [w64 (by omega) (by omega)] at h4
    have ih' := ih h2 (by rw [Dk.write_size]; omega) (by omega) (by omega)
    rw [layAll_cons d t hx, if_neg (by rw [h1]; decide)]
    have hlen : t < d.now.length := by rw [Dk.now_length]; omega
    obtain ⟨i1, i2, i3, i4, i5⟩ := ih'
    refine ⟨i1, i2, by rw [i3, h4, hn]; omega, ?_, ?_⟩
    · intro s hs
      rw [i4 s (by omega), h3, List.getElem?_set_ne (by omega)]
    · intro j hj
      cases j with
      | zero =>
        refine (i4 t (by omega)).trans ?_
        rw [h3, List.getElem?_set_self hlen]
        rfl
      | succ j =>
        have := i5 j (by omega)
        rw [show t + (j + 1) = t + 1 + j by omega, this, List.drop_drop]
        congr 4
        omega
theorem flat_get {l : List (List UInt8)} (h : ∀ s ∈ l, s.length = 128) (p : Nat) : l.flatten[p]? = (l[p / 128]?).bind (fun s => s[p % 128]?) := by
  have e : p = p / 128 * 128 + p % 128 := by omega
  have h1 : l.flatten[p]? = (l.flatten.drop (p / 128 * 128))[p % 128]? := by rw [List.getElem?_drop, ← e]
  rw [h1, flat_drop h]
  by_cases hq : p / 128 < l.length
  · rw [List.drop_eq_getElem_cons hq, List.flatten_cons, List.getElem?_append_left (by rw [h _ (List.getElem_mem hq)]; omega), List.getElem?_eq_getElem hq]
    rfl
  · rw [List.drop_eq_nil_of_le (by omega), List.getElem?_eq_none (l := l) (by omega)]
    rfl
theorem vall_get {v : Vt} {d : Dk} (hd : d.ok) (at_ p : Nat) (hp : p < v.each * 128) : (vall v d at_)[p]? = (d.now[v.fm + at_ * v.each + p / 128]?).bind (fun s => s[p % 128]?) := by
  unfold vall
  rw [flat_get (fun s hs => Dk.now_128 hd s (List.mem_of_mem_drop (List.mem_of_mem_take hs)))]
  rw [List.getElem?_take, if_pos (by omega), List.getElem?_drop]
theorem vall_len {v : Vt} {d : Dk} (hd : d.ok) (ok : v.ok d.safe.length) {at_ : Nat} (ha : at_ < v.n) : (vall v d at_).length = v.each * 128 := by
  have := Vt.at_le ok ha
  unfold vall
  exact flat_take_drop d.now (Dk.now_128 hd) _ _ (by rw [Dk.now_length]; omega)
theorem vput_long {v : Vt} {d : Dk} {at_ : Nat} (ha : at_ < v.n) {bs : List UInt8} (h : v.room < bs.length) : vput v d (at_ : Int) bs = (d, 4) := by
  unfold vput
  rw [if_neg (by omega), if_pos h]
theorem vput_good {v : Vt} {d : Dk} (hd : d.ok) (ok : v.ok d.safe.length) (hl : Live d) {at_ : Nat} (ha : at_ < v.n) {bs : List UInt8} (h : bs.length ≤ v.room) (h0 : 0 ≤ d.done) (h1 : d.done ≤ 9000000000000000000) :
    (vput v d (at_ : Int) bs).2 = 0 ∧ Live (vput v d (at_ : Int) bs).1 ∧ (vput v d (at_ : Int) bs).1.done = d.done + ((bs.length + 4 + 127) / 128 : Nat) ∧ vget v (vput v d (at_ : Int) bs).1 (at_ : Int) = (bs, 0) ∧
      (∀ k, k < v.n → k ≠ at_ → vget v (vput v d (at_ : Int) bs).1 (k : Int) = vget v d (k : Int)) ∧ (∀ s, s < v.fm ∨ v.fm + v.n * v.each ≤ s → (vput v d (at_ : Int) bs).1.now[s]? = d.now[s]?) := by
  obtain ⟨o1, o2, o3, o4⟩ := id ok
  have hle := Vt.at_le ok ha
  have e : vput v d (at_ : Int) bs = layAll d (v.fm + at_ * v.each) (be 4 bs.length ++ bs) := by
    unfold vput
    rw [if_neg (by omega), if_neg (by omega)]
    rfl
  have hdo := vput_ok (v := v) hd (at_ : Int) bs
  have hds := vput_size v d (at_ : Int) bs
  rw [e] at hdo hds ⊢
  obtain ⟨x, hx⟩ : ∃ x, x = be 4 bs.length ++ bs := ⟨_, rfl⟩
  have hxl : x.length = 4 + bs.length := by rw [hx]; simp
  rw [← hx] at hdo hds ⊢
  have hroom : bs.length + 4 ≤ v.each * 128 := by unfold Vt.room at h; omega
  have hns : nsec x = (bs.length + 4 + 127) / 128 := by unfold nsec; rw [hxl]; congr 1; omega
  have hns' : nsec x ≤ v.each := by rw [hns]; omega
  obtain ⟨l1, l2, l3, l4, l5⟩ := lay_live d (v.fm + at_ * v.each) x hl (by omega) h0 (by omega)
  rw [← hns]
  generalize layAll d (v.fm + at_ * v.each) x = r at hdo hds l1 l2 l3 l4 l5
  have same : ∀ k, k < v.n → k ≠ at_ → vall v r.1 k = vall v d k := by
    intro k hk hne
    have hkle := Vt.at_le ok hk
    apply List.ext_getElem?
    intro p
    by_cases hp : p < v.each * 128
    · rw [vall_get hdo k p hp, vall_get hd k p hp, l4]
      rcases Nat.lt_or_gt_of_ne hne with hlt | hlt
      · left
        have : (k + 1) * v.each ≤ at_ * v.each := Nat.mul_le_mul_right _ hlt
        rw [Nat.succ_mul] at this
        omega
      · right
        have : (at_ + 1) * v.each ≤ k * v.each := Nat.mul_le_mul_right _ hlt
        rw [Nat.succ_mul] at this
        omega
    · have hl1 := vall_len hdo (by rw [hds]; exact ok) hk
      have hl2 := vall_len hd ok hk
      rw [List.getElem?_eq_none (by omega), List.getElem?_eq_none (by omega)]
  have own : (vall v r.1 at_).take x.length = x := by
    have hl1 := vall_len hdo (by rw [hds]; exact ok) ha
    apply List.ext_getElem?
    intro p
    rw [List.getElem?_take]
    by_cases hp : p < x.length
    · rw [if_pos hp, vall_get hdo at_ p (by omega), l5 (p / 128) (by unfold nsec; omega)]
      show (padB ((x.drop (128 * (p / 128))).take 128))[p % 128]? = x[p]?
      unfold padB
      rw [List.getElem?_append_left (by simp; omega), List.getElem?_take, if_pos (by omega), List.getElem?_drop]
      congr 1
      omega
    · rw [if_neg hp, List.getElem?_eq_none (by omega)]
  have h4 : (vall v r.1 at_).take 4 = be 4 bs.length := by
    have := congrArg (List.take 4) own
    rw [List.take_take, Nat.min_eq_left (by omega)] at this
    rw [this, hx, List.take_append_of_le_length (by simp), List.take_of_length_le (by simp)]
  have hnum : num ((vall v r.1 at_).take 4) = bs.length := by
    rw [h4, num_be]
    exact Nat.mod_eq_of_lt (by have : bs.length < 256 ^ 4 := by omega
                               exact this)
  refine ⟨l1, l2, l3, ?_, ?_, ?_⟩
  · unfold vget
    rw [if_neg (by omega), if_neg (by rw [l2.1]; decide), Int.toNat_natCast, hnum, if_neg (by omega)]
    have e3 : ((vall v r.1 at_).drop 4).take bs.length = bs := by
      have := congrArg (List.drop 4) own
      rw [List.drop_take, hxl, show 4 + bs.length - 4 = bs.length by omega] at this
      rw [this, hx, List.drop_append_of_le_length (by simp), List.drop_eq_nil_of_le (by simp), List.nil_append]
    rw [e3]
  · intro k hk hne
    unfold vget
    have c1 : ¬ ((k : Int) < 0 ∨ (v.n : Int) ≤ (k : Int)) := by omega
    have c2 : ¬ r.1.dead = true := by rw [l2.1]; decide
    have c3 : ¬ d.dead = true := by rw [hl.1]; decide
    rw [if_neg c1, if_neg c1, if_neg c2, if_neg c3, Int.toNat_natCast, same k hk hne]
  · intro s hs
    refine l4 s ?_
    rcases hs with hs | hs
    · left; omega
    · right
      have : (at_ + 1) * v.each ≤ v.n * v.each := Nat.mul_le_mul_right _ ha
      rw [Nat.succ_mul] at this
      omega
theorem new_now (N s : Nat) (h : s < N) : (Dk.new N).now[s]? = some (List.replicate 128 0) := by
  show (List.replicate N (List.replicate 128 (0 : UInt8)))[s]? = _
  rw [List.getElem?_replicate, if_pos h]
theorem new_get {v : Vt} {N : Nat} (hN : N ≤ 16384) (ok : v.ok N) {k : Nat} (hk : k < v.n) : vget v (Dk.new N) (k : Int) = ([], 0) := by
  have hd := Dk.new_ok hN
  have hs : (Dk.new N).safe.length = N := by simp [Dk.new]
  obtain ⟨o1, o2, o3, o4⟩ := id ok
  have hle := Vt.at_le ok hk
  have hl := vall_len (v := v) hd (by rw [hs]; exact ok) hk
  have e4 : (vall v (Dk.new N) k).take 4 = [0, 0, 0, 0] := by
    apply List.ext_getElem?
    intro p
    rw [List.getElem?_take]
    by_cases hp : p < 4
    · rw [if_pos hp, vall_get hd k p (by omega), new_now N _ (by omega)]
      have : p = 0 ∨ p = 1 ∨ p = 2 ∨ p = 3 := by omega
      rcases this with rfl | rfl | rfl | rfl <;> rfl
    · rw [if_neg hp, List.getElem?_eq_none (by simp; omega)]
  unfold vget
  rw [if_neg (by omega), if_neg (by show ¬ false = true; decide), Int.toNat_natCast, e4]
  have : num [0, 0, 0, 0] = 0 := by decide
  rw [this, if_neg (by omega), List.take_zero]
end Go.Proofs.Ytggggfcgnkllgaa
end
section
/- More words that laws share. -/
namespace Go.Sh
open Go
theorem gs_u (b : Bool) (S : World → (Value → World → Prop) → Prop) (w : World) (K : Value → World → Prop) : gstep undef b S w K = K undef w := (And.intro rfl trivial : _ ∧ True).1
end Go.Sh
end
section
/- cellaragelaw12: puts, told as an argument; an array of strings. -/
set_option linter.unusedVariables false
set_option linter.unusedSimpArgs false
namespace Go.Proofs.Ytggggfcgnkllgaa
open Go Go.Sh Go.RowKit Go.ChangeShapes Go.WideShapes Go.ChangeAt
attribute [local irreducible] X XU XP XR CALL loopS resC closS Value.okWide
structure PAct where
  pos : Nat
  bs : List UInt8
  bv : Value
def PAct.cs (a : PAct) : List Value := [.int .u8 (a.pos : Int), a.bv]
structure PAct.In (a : PAct) (W : World) : Prop where
  pos : a.pos < 256
  bts : Bts W a.bv a.bs
theorem PAct.In.ext {a : PAct} {W w : World} (h : a.In W) (k : Ext W w) : a.In w := ⟨h.pos, h.bts.ext k⟩
theorem PAct.one {a : PAct} {W : World} (h : a.In W) : ∀ v ∈ a.cs, v.oneCell' = true := by
  obtain ⟨_, _, e1⟩ := Bts.slice h.bts
  intro v hv
  simp only [PAct.cs, List.mem_cons, List.not_mem_nil, or_false] at hv
  rcases hv with rfl | rfl
  · rfl
  · rw [e1]; rfl
theorem trc_two {P : Program} {H : Type} {enc : TypeId × Value → H} {W : World} {t : TypeId} {es : List Value} {f0 f1 : Field} (ht : P.underlying t = some (.struct #[f0, f1])) (hc : P.cellsOf t = 2)
    (o0 : f0.offset = 0) (o1 : f1.offset = 1) (c0 : P.cellsOf f0.type = 1) (c1 : P.cellsOf f1.type = 1) (h : TrC enc P W t es) : ∃ x0 x1, es = [x0, x1] ∧ TrC enc P W f0.type [x0] ∧ TrC enc P W f1.type [x1] := by
  obtain ⟨hl, hf⟩ := h.struct ht
  rw [hc] at hl
  match es, hl with
  | [x0, x1], _ =>
    have g0 := hf f0 (by simp)
    have g1 := hf f1 (by simp)
    rw [o0, c0] at g0
    rw [o1, c1] at g1
    exact ⟨x0, x1, rfl, g0, g1⟩
theorem trc_put {H : Type} {enc : TypeId × Value → H} {W : World} {es : List Value} (h : TrC enc Try.prog W 131 es) : ∃ a : PAct, es = a.cs ∧ a.In W := by
  obtain ⟨x0, x1, rfl, g0, g1⟩ := trc_two Try.underlying131 (by kernel_rfl) rfl rfl (by kernel_rfl) (by kernel_rfl) h
  obtain ⟨n0, e0, w0⟩ := TrC.int Try.underlying5 g0
  obtain ⟨bs, hbs⟩ := TrC.bytes Try.underlying27 Try.underlying5 (by kernel_rfl) g1
  simp at e0
  subst e0
  simp [Lit.wf, IntKind.min, IntKind.max, IntKind.signed, IntKind.bits] at w0
  refine ⟨⟨n0.toNat, bs, x1⟩, ?_, by show n0.toNat < 256; omega, hbs⟩
  show _ = [Value.int .u8 ((n0.toNat : Nat) : Int), x1]
  rw [Int.toNat_of_nonneg w0.1]
theorem arg_puts {H : Type} {enc : TypeId × Value → H} {W : World} {base : Nat} {v : Value} {d : DataW H} {p : List MemPlace}
    (ok : Value.okWide Try.prog W .any base 128 v) (h : DataW.Trod enc Try.prog W 0 (fun _ => true) true 128 v d p) : ∃ l : List PAct, RowK 2 PAct.cs W v l ∧ ∀ a ∈ l, a.In W := by
  obtain ⟨a, n, c, rfl⟩ := okWide_slice Try.underlying128 ok
  exact TrC.rowK Try.underlying128 (by kernel_rfl) (fun es hes => trc_put hes) (TrC.of h)
theorem X_takePut {w : World} {v : Value} {l : List PAct} {i : Nat} {K : Value → Value → Value → World → Prop} (hl : RowK 2 PAct.cs w v l) (hi : i < l.length) (ha : l[i].In w)
    (hK : ∀ v1 v2 q w1, Ext w w1 → w.heap.size ≤ q → w1.heap[q]? = some (.cells l[i].cs.toArray 131 (0, 0)) → K v1 v2 (ptr q) w1) :
    X Try.prog (Instr.indexAt 128 v (.int .i64 (i : Int))) w fun v1 w1 => X Try.prog (Instr.loadAt 131 v1) w1 fun v2 w2 => X Try.prog (Instr.alloc 131 true (.tuple #[])) w2 fun v3 w3 => XU Try.prog (Instr.storeAt 131 v3 v2) w3 fun w4 => K v1 v2 v3 w4 := by
  obtain ⟨ad, hix, hcs⟩ := hl.at Try.underlying128 info_131 sz_131 (kd := .i64) i rfl hi
  refine X_of (hix _) ?_
  refine X_of (load_cells Try.underlying131 agg_131 info_131 (l := l[i].cs) (by rw [sz_131]; rfl) hcs) ?_
  refine X_alloc zero_131 ?_
  have hq := newB_get w #[(.int .u8 0), (.slice none 0 0)] 131
  have hxq := newB_ext w #[(.int .u8 0), (.slice none 0 0)] 131
  show XU _ _ (newB w #[(.int .u8 0), (.slice none 0 0)] 131) _
  generalize newB w #[(.int .u8 0), (.slice none 0 0)] 131 = w2 at hq hxq ⊢
  refine XU_storeAgg info_131 hq (by rw [sz_131]; rfl) (by rw [sz_131]; rfl) (PAct.one ha) ?_
  exact hK _ _ _ _ (Ext.seq hxq (setAt_keep _ _ _ _ _) (fun j hj => by omega)) (Nat.le_refl _) (setAt_same (lt_of_blk hq))
/-- Strings in a block, one behind the other. -/
def Strs (l : List (List UInt8)) : Array Value := (l.map fun s => Value.string (str s)).toArray
theorem Strs_set (l : List (List UInt8)) (k : Nat) (x : List UInt8) : (Strs l).setIfInBounds k (.string (str x)) = Strs (l.set k x) := by
  apply Array.ext'
  simp [Strs, List.map_set]
theorem Strs_get (l : List (List UInt8)) (k : Nat) (h : k < l.length) : (Strs l)[k]? = some (.string (str (l.getD k []))) := by
  simp [Strs, h, List.getD_eq_getElem?_getD]
theorem run_ix129 (b k : Nat) (h : k < 7) (w : World) : (Instr.indexAt 129 (ptr b) (.int .i64 (k : Int))).run Try.prog w = .ok (.pointer (some ⟨b, k, none⟩)) w := by
  have := run_index_arr (P := Try.prog) (T := 129) Try.underlying129 info_9 ⟨b, 0, none⟩ .i64 k h w
  rw [sz_9, Nat.mul_one] at this
  rw [show ptr b = .pointer (some ⟨b, 0, none⟩) from rfl, this]
  by_cases hk : k = 0
  · subst hk; rfl
  · simp [Addr.add, hk]
theorem run_four79 (a b c d : Int) (w : World) : (Instr.buildSlice 79 4 #[(0, .int .i64 a), (1, .int .i64 b), (2, .int .i64 c), (3, .int .i64 d)]).run Try.prog w = .ok (.slice (some ⟨w.heap.size, 0, none⟩) 4 4) (newB w #[.int .i64 a, .int .i64 b, .int .i64 c, .int .i64 d] 3) := by kernel_rfl
theorem row_four79 (a b c d : Int) (w : World) : Row fI (newB w #[.int .i64 a, .int .i64 b, .int .i64 c, .int .i64 d] 3) (.slice (some ⟨w.heap.size, 0, none⟩) 4 4) [a, b, c, d] := by
  refine ⟨_, 4, rfl, Nat.le_refl _, by omega, fun _ => ⟨_, rfl, fun j x hj => ?_⟩⟩
  have hg := newB_get w #[.int .i64 a, .int .i64 b, .int .i64 c, .int .i64 d] 3
  have hj' := (List.getElem?_eq_some_iff.1 hj).1
  simp at hj'
  have : j = 0 ∨ j = 1 ∨ j = 2 ∨ j = 3 := by omega
  rcases this with rfl | rfl | rfl | rfl <;> (simp at hj; subst hj; exact cell_blk hg)
theorem zeros128 : madeCells (Value.int .u8 0).cells (128 * 1) = (B8 (List.replicate 128 0)).toArray := by
  apply Array.ext'
  have : (madeCells (Value.int .u8 0).cells 128).toList = List.replicate 128 (.int .u8 0) := made_one _ _
  rw [Nat.mul_one, this]
  simp [B8]
end Go.Proofs.Ytggggfcgnkllgaa
end
section
/- A disk and the reference's disk, side by side. -/
set_option linter.unusedSimpArgs false
set_option linter.unusedVariables false
namespace Go.Proofs.Ytggggfcgnkllgaa
open Go Go.Sh Go.RowKit
theorem foot_x {w w1 : World} {b k : Nat} (x : Ext w w1) (hb : b < w.heap.size) : foot w1 b k ↔ foot w b k := foot_same (x.block b hb (fun h => h))
/-- All that was there in W is as it was but for D; a disk and a reference's disk lie within D, and what is new is within D. -/
structure Duo (D : Nat → Prop) (W w : World) (b b' : Nat) (d e : Dk) : Prop where
  disk : DiskAt w b d
  ref : RefAt w b' e
  apart : Apart w b b'
  keep : Keep D W w
  low : ∀ k, foot w b k → D k
  low' : ∀ k, foot w b' k → D k
  new : ∀ k, W.heap.size ≤ k → D k
section
variable {D : Nat → Prop} {W w w1 : World} {b b' : Nat} {d e d1 e1 : Dk}
theorem Duo.b_lt (h : Duo D W w b b' d e) : b < w.heap.size := h.disk.lt b (foot_self _ _)
theorem Duo.b'_lt (h : Duo D W w b b' d e) : b' < w.heap.size := h.ref.lt b' (foot_self _ _)
theorem Duo.more (h : Duo D W w b b' d e) (x : Ext w w1) : Duo D W w1 b b' d e :=
  ⟨h.disk.ext x, h.ref.ext x, h.apart.ext x h.b_lt h.b'_lt, h.keep.trans x.ext, fun k hk => h.low k ((foot_x x h.b_lt).1 hk), fun k hk => h.low' k ((foot_x x h.b'_lt).1 hk), h.new⟩
theorem Duo.left (h : Duo D W w b b' d e) (hd : DiskAt w1 b d1) (s : Step b w w1) : Duo D W w1 b b' d1 e :=
  ⟨hd, h.ref.keep s.keep (fun k hf hf2 => h.apart k hf2 hf), s.apart h.apart h.ref.lt, Keep.seq h.keep s.keep (fun i _ hf => h.low i hf),
    fun k hk => (s.grow k hk).elim (h.low k) (fun hs => h.new k (Nat.le_trans h.keep.size hs)), fun k hk => h.low' k ((foot_same (s.other h.apart h.b'_lt)).1 hk), h.new⟩
theorem Duo.right (h : Duo D W w b b' d e) (hr : RefAt w1 b' e1) (s : Step b' w w1) : Duo D W w1 b b' d e1 :=
  ⟨h.disk.keep s.keep (fun k hf hf2 => h.apart k hf hf2), hr, (s.apart h.apart.symm h.disk.lt).symm, Keep.seq h.keep s.keep (fun i _ hf => h.low' i hf),
    fun k hk => h.low k ((foot_same (s.other h.apart.symm h.b_lt)).1 hk), fun k hk => (s.grow k hk).elim (h.low' k) (fun hs => h.new k (Nat.le_trans h.keep.size hs)), h.new⟩
theorem Duo.stepL (h : Duo D W w b b' d e) (s : Step b w w1) : Keep D w w1 := s.keep.mono (fun k _ hf => h.low k hf)
theorem Duo.stepR (h : Duo D W w b b' d e) (s : Step b' w w1) : Keep D w w1 := s.keep.mono (fun k _ hf => h.low' k hf)
/-- The blocks of both, and all that is new. -/
def Both (w : World) (b b' k : Nat) : Prop := w.heap.size ≤ k ∨ foot w b k ∨ foot w b' k
theorem Duo.start (h : Duo D W w b b' d e) : Duo (Both w b b') w w b b' d e :=
  ⟨h.disk, h.ref, h.apart, Keep.refl _ _, fun k hk => .inr (.inl hk), fun k hk => .inr (.inr hk), fun k hk => .inl hk⟩
theorem Duo.within (h : Duo D W w b b' d e) {k : Nat} (hk : Both w b b' k) : D k := by
  rcases hk with hk | hk | hk
  · exact h.new k (Nat.le_trans h.keep.size hk)
  · exact h.low k hk
  · exact h.low' k hk
theorem Duo.after (h : Duo D W w b b' d e) (g : Duo (Both w b b') w w1 b b' d1 e1) : Duo D W w1 b b' d1 e1 :=
  ⟨g.disk, g.ref, g.apart, Keep.seq h.keep g.keep (fun i _ hf => h.within hf), fun k hk => h.within (g.low k hk), fun k hk => h.within (g.low' k hk), h.new⟩
/-- A block of another kind lies in neither. -/
theorem Duo.no (h : Duo D W w b b' d e) {q : Nat} {cs : Array Value} {T : TypeId} {fr : Nat × Nat} (hq : w.heap[q]? = some (.cells cs T fr)) (h1 : T ≠ 183) (h2 : T ≠ 184) (h3 : T ≠ 186) (h4 : T ≠ 148) (h5 : T ≠ 9) (h6 : T ≠ 200) : ¬ Both w b b' q := by
  rintro (hk | hk | hk)
  · have := lt_of_blk hq
    omega
  · exact h.disk.notin hq h1 h2 h3 hk
  · exact h.ref.notin hq h4 h5 h6 hk
theorem Duo.no1 (h : Duo D W w b b' d e) {q : Nat} {cs : Array Value} {T : TypeId} {fr : Nat × Nat} (hq : w.heap[q]? = some (.cells cs T fr)) (h1 : T ≠ 183) (h2 : T ≠ 184) (h3 : T ≠ 186) : ¬ foot w b q := h.disk.notin hq h1 h2 h3
theorem Duo.no2 (h : Duo D W w b b' d e) {q : Nat} {cs : Array Value} {T : TypeId} {fr : Nat × Nat} (hq : w.heap[q]? = some (.cells cs T fr)) (h4 : T ≠ 148) (h5 : T ≠ 9) (h6 : T ≠ 200) : ¬ foot w b' q := h.ref.notin hq h4 h5 h6
/-- The law's own: nothing that was there has turned. -/
theorem Duo.out (h : Duo (fun k => W.heap.size ≤ k) W w b b' d e) : Ext W w :=
  ⟨h.keep.os, h.keep.tape, h.keep.output, h.keep.size, fun i hi _ => h.keep.block i hi (by omega)⟩
theorem Duo.mk' (hx : Ext W w) (hd : DiskAt w b d) (hr : RefAt w b' e) (ha : Apart w b b') (h1 : ∀ k, foot w b k → W.heap.size ≤ k) (h2 : ∀ k, foot w b' k → W.heap.size ≤ k) : Duo (fun k => W.heap.size ≤ k) W w b b' d e :=
  ⟨hd, hr, ha, hx.ext, h1, h2, fun _ h => h⟩
end
end Go.Proofs.Ytggggfcgnkllgaa
end
