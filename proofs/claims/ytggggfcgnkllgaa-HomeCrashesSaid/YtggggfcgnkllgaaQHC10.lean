/- Part 10 of what the law is proved with: T15 Law Facts. -/
import Derived.Test.YtggggfcgnkllgaaRows
import Derived.ProofKit
import Derived.Test.YtggggfcgnkllgaaQHC9
section
set_option linter.unusedVariables false
namespace Go.Proofs.Ytggggfcgnkllgaa
open Go Go.Sh
attribute [local irreducible] X XU XP XR CALL loopS resC closS
def B_law20_HomeNil_c1 (v18_37 : Value) (K : Value → World → Prop) (v21_41 : Value) (w31 : World) (v7_22 : Value) (v8_23 : Value) : Prop :=
  gstep v18_37 true (fun w32 K => X Try.prog (binOpG .eql 30 (.tmp 41) (.const (.int .i64 2)) v21_41 (.int .i64 2)) w32 K) w31 fun v22_42 w33 =>
  X Try.prog (pickS v18_37 v22_42 (.bool false)) w33 fun v23_43 w34 =>
  gstep v23_43 true (fun w35 K => K (.pointer none) w35) w34 fun v24_45 w36 =>
  gstep v23_43 true (fun w37 K => CALL Try.prog 118 #[v24_45] w37 K) w36 fun v25_46 w38 =>
  gstep v23_43 true (fun w39 K => X Try.prog (binOpG .eql 3 (.tmp 46) (.const (.int .i64 0)) v25_46 (.int .i64 0)) w39 K) w38 fun v26_47 w40 =>
  X Try.prog (pickS v23_43 v26_47 (.bool false)) w40 fun v27_48 w41 =>
  gstep v27_48 true (fun w42 K => K (.pointer none) w42) w41 fun v28_50 w43 =>
  gstep v27_48 true (fun w44 K => CALL Try.prog 119 #[v28_50] w44 K) w43 fun v29_51 w45 =>
  gstep v27_48 true (fun w46 K => X Try.prog (binOpG .eql 3 (.tmp 51) (.const (.int .i64 0)) v29_51 (.int .i64 0)) w46 K) w45 fun v30_52 w47 =>
  X Try.prog (pickS v27_48 v30_52 (.bool false)) w47 fun v31_53 w48 =>
  gstep v31_53 true (fun w49 K => K v7_22 w49) w48 fun v32_55 w50 =>
  gstep v31_53 true (fun w51 K => X Try.prog (binOpG .eql 150 (.tmp 55) (.const (.pointer none)) v32_55 (.pointer none)) w51 K) w50 fun v33_56 w52 =>
  X Try.prog (pickS v31_53 v33_56 (.bool false)) w52 fun v34_57 w53 =>
  gstep v34_57 true (fun w54 K => K v8_23 w54) w53 fun v35_59 w55 =>
  gstep v34_57 true (fun w56 K => X Try.prog (binOpG .eql 30 (.tmp 59) (.const (.int .i64 2)) v35_59 (.int .i64 2)) w56 K) w55 fun v36_60 w57 =>
  X Try.prog (pickS v34_57 v36_60 (.bool false)) w57 fun v37_61 w58 =>
  K v37_61 w58

def B_law20_HomeNil_c2 (x1 : Value) (w5 : World) (v1_12 : Value) (K : Value → World → Prop) (v3_16 : Value) (v4_17 : Value) (v5_18 : Value) (x0 : Value) : Prop :=
  CALL Try.prog 116 #[(.pointer none), x1] w5 fun v6_21 w6 =>
  X Try.prog (Instr.extract v6_21 0) w6 fun v7_22 w7 =>
  X Try.prog (Instr.extract v6_21 1) w7 fun v8_23 w8 =>
  gstep v1_12 true (fun w9 K => K v3_16 w9) w8 fun v9_26 w10 =>
  gstep v1_12 true (fun w11 K => X Try.prog (Builtin.len_ #[27] 3 #[v9_26]) w11 K) w10 fun v10_27 w12 =>
  gstep v1_12 true (fun w13 K => X Try.prog (binOpG .eql 3 (.tmp 27) (.const (.int .i64 0)) v10_27 (.int .i64 0)) w13 K) w12 fun v11_28 w14 =>
  X Try.prog (pickS v1_12 v11_28 (.bool false)) w14 fun v12_29 w15 =>
  gstep v12_29 true (fun w16 K => K v4_17 w16) w15 fun v13_31 w17 =>
  gstep v12_29 true (fun w18 K => X Try.prog (binOpG .eql 22 (.tmp 31) (.const (.int .u64 0)) v13_31 (.int .u64 0)) w18 K) w17 fun v14_32 w19 =>
  X Try.prog (pickS v12_29 v14_32 (.bool false)) w19 fun v15_33 w20 =>
  gstep v15_33 true (fun w21 K => K v5_18 w21) w20 fun v16_35 w22 =>
  gstep v15_33 true (fun w23 K => X Try.prog (binOpG .eql 30 (.tmp 35) (.const (.int .i64 2)) v16_35 (.int .i64 2)) w23 K) w22 fun v17_36 w24 =>
  X Try.prog (pickS v15_33 v17_36 (.bool false)) w24 fun v18_37 w25 =>
  gstep v18_37 true (fun w26 K => K (.pointer none) w26) w25 fun v19_39 w27 =>
  gstep v18_37 true (fun w28 K => K x0 w28) w27 fun v20_40 w29 =>
  gstep v18_37 true (fun w30 K => CALL Try.prog 117 #[v19_39, v20_40] w30 K) w29 fun v21_41 w31 =>
  B_law20_HomeNil_c1 v18_37 K v21_41 w31 v7_22 v8_23

/-- cellarage/cellaragelaw20.HomeNil -/
def B_law20_HomeNil (x0 x1 : Value) (w : World) (K : Value → World → Prop) : Prop :=
  CALL Try.prog 114 #[] w fun v1_12 w1 =>
  CALL Try.prog 115 #[(.pointer none)] w1 fun v2_15 w2 =>
  X Try.prog (Instr.extract v2_15 0) w2 fun v3_16 w3 =>
  X Try.prog (Instr.extract v2_15 1) w3 fun v4_17 w4 =>
  X Try.prog (Instr.extract v2_15 2) w4 fun v5_18 w5 =>
  B_law20_HomeNil_c2 x1 w5 v1_12 K v3_16 v4_17 v5_18 x0

theorem eq_law20_HomeNil (x0 x1 : Value) (w : World) (K : Value → World → Prop) :
    sh Try.prog (Try.f36.body.getD .skip) (retS Try.prog Try.f36.results K) (env0 #[x0, x1]) w = B_law20_HomeNil x0 x1 w K := by kernel_rfl

theorem call_law20_HomeNil (x0 x1 : Value) (w : World) (K : Value → World → Prop) (h : B_law20_HomeNil x0 x1 w K) : CALL Try.prog 36 #[x0, x1] w K :=
  call_of_eq (c := Try.f36.body.getD .skip) mixed Try.func36 (by kernel_rfl) (by kernel_rfl) (by kernel_rfl) (Nat.le_of_ble_eq_true (by kernel_rfl)) (eq_law20_HomeNil x0 x1 w K) h

def B_law20_HomeBack_c1 (v57_114 : Value) (v60_118 : Value) (w84 : World) (Q1 : Exit → Env → World → Prop) (ρ2 : Env) (v59_117 : Value) (v58_116 : Value) (v56_113 : Value) (v55_112 : Value) (v54_110 : Value) (v53_109 : Value) (v52_108 : Value) (v51_107 : Value) (v50_105 : Value) (v49_103 : Value) (v46_99 : Value) (v48_101 : Value) (v47_100 : Value) (v45_98 : Value) : Prop :=
  X Try.prog (pickS v57_114 (.bool true) v60_118) w84 fun v61_119 w85 =>
  condS v61_119 (
  Q1 .ret (upds ρ2 [(4, (.bool false)), (119, v61_119), (118, v60_118), (117, v59_117), (116, v58_116), (115, v57_114), (114, v57_114), (113, v56_113), (112, v55_112), (111, v54_110), (110, v54_110), (109, v53_109), (108, v52_108), (107, v51_107), (106, v50_105), (105, v50_105), (104, (ρ2 11)), (103, v49_103), (102, v46_99), (17, v48_101), (16, v47_100), (15, v46_99), (101, v48_101), (100, v47_100), (99, v46_99), (96, v45_98), (98, v45_98), (97, (ρ2 9))]) w85) (
  X Try.prog (Builtin.len_ #[27] 3 #[v46_99]) w85 fun v62_121 w86 =>
  loopS (fun Q3 ρ3 w87 =>
  X Try.prog (binOp .lss 3 (ρ3 122) (ρ3 121)) w87 fun v63_123 w88 =>
  condS v63_123 (
  X Try.prog (Instr.indexAt 27 (ρ3 15) (ρ3 122)) w88 fun v64_127 w89 =>
  X Try.prog (Instr.loadAt 5 v64_127) w89 fun v65_128 w90 =>
  X Try.prog (binOp .xor 5 v65_128 (.int .u8 255)) w90 fun v66_129 w91 =>
  X Try.prog (Instr.indexAt 27 (ρ3 15) (ρ3 122)) w91 fun v67_130 w92 =>
  XU Try.prog (Instr.storeAt 5 v67_130 v66_129) w92 fun w93 =>
  X Try.prog (binOp .add 3 (ρ3 122) (.int .i64 1)) w93 fun v68_131 w94 =>
  Q3 .normal (upds ρ3 [(122, v68_131), (131, v68_131), (130, v67_130), (129, v66_129), (128, v65_128), (127, v64_127), (126, (ρ3 122)), (125, (ρ3 15)), (18, (ρ3 122)), (124, (ρ3 122)), (123, v63_123)]) w94) (
  Q3 (.exit 2) (upds ρ3 [(123, v63_123)]) w88)) (inBlockS 2 (inBlockS 1 (thenS (fun ρ4 w95 =>
  X Try.prog (binOp .add 3 (ρ4 49) (.int .i64 1)) w95 fun v69_132 w96 =>
  Q1 .normal (upds ρ4 [(49, v69_132), (132, v69_132)]) w96) Q1))) (upds ρ2 [(122, (.int .i64 0)), (121, v62_121), (120, v46_99), (119, v61_119), (118, v60_118), (117, v59_117), (116, v58_116), (115, v57_114), (114, v57_114), (113, v56_113), (112, v55_112), (111, v54_110), (110, v54_110), (109, v53_109), (108, v52_108), (107, v51_107), (106, v50_105), (105, v50_105), (104, (ρ2 11)), (103, v49_103), (102, v46_99), (17, v48_101), (16, v47_100), (15, v46_99), (101, v48_101), (100, v47_100), (99, v46_99), (96, v45_98), (98, v45_98), (97, (ρ2 9))]) w86)

def B_law20_HomeBack_c2 (ρ2 : Env) (w60 : World) (K : Value → World → Prop) (Q1 : Exit → Env → World → Prop) : Prop :=
  CALL Try.prog 115 #[(ρ2 9)] w60 fun v45_98 w61 =>
  X Try.prog (Instr.extract v45_98 0) w61 fun v46_99 w62 =>
  X Try.prog (Instr.extract v45_98 1) w62 fun v47_100 w63 =>
  X Try.prog (Instr.extract v45_98 2) w63 fun v48_101 w64 =>
  X Try.prog (convert 27 9 v46_99) w64 fun v49_103 w65 =>
  X Try.prog (binOpG .neq 9 (.tmp 103) (.tmp 104) v49_103 (ρ2 11)) w65 fun v50_105 w66 =>
  gstep v50_105 false (fun w67 K => K v47_100 w67) w66 fun v51_107 w68 =>
  gstep v50_105 false (fun w69 K => K (ρ2 12) w69) w68 fun v52_108 w70 =>
  gstep v50_105 false (fun w71 K => X Try.prog (binOpG .neq 22 (.tmp 107) (.tmp 108) v51_107 v52_108) w71 K) w70 fun v53_109 w72 =>
  X Try.prog (pickS v50_105 (.bool true) v53_109) w72 fun v54_110 w73 =>
  gstep v54_110 false (fun w74 K => K v48_101 w74) w73 fun v55_112 w75 =>
  gstep v54_110 false (fun w76 K => X Try.prog (binOpG .neq 30 (.tmp 112) (.const (.int .i64 0)) v55_112 (.int .i64 0)) w76 K) w75 fun v56_113 w77 =>
  X Try.prog (pickS v54_110 (.bool true) v56_113) w77 fun v57_114 w78 =>
  gstep v57_114 false (fun w79 K => K (ρ2 7) w79) w78 fun v58_116 w80 =>
  gstep v57_114 false (fun w81 K => CALL Try.prog 77 #[v58_116] w81 K) w80 fun v59_117 w82 =>
  gstep v57_114 false (fun w83 K => X Try.prog (binOpG .neq 3 (.tmp 117) (.const (.int .i64 0)) v59_117 (.int .i64 0)) w83 K) w82 fun v60_118 w84 =>
  B_law20_HomeBack_c1 v57_114 v60_118 w84 Q1 ρ2 v59_117 v58_116 v56_113 v55_112 v54_110 v53_109 v52_108 v51_107 v50_105 v49_103 v46_99 v48_101 v47_100 v45_98

def B_law20_HomeBack_c3 (v30_67 : Value) (w39 : World) (ρ1 : Env) (K : Value → World → Prop) (Q1 : Exit → Env → World → Prop) (v29_66 : Value) (v28_65 : Value) (v27_61 : Value) (v26_60 : Value) (v25_59 : Value) (v24_58 : Value) (v23_57 : Value) (v22_56 : Value) (v21_55 : Value) (v20_53 : Value) (v19_50 : Value) : Prop :=
  ∃ R, Frame? R ∧
  XP Try.prog (binOpG .eql 30 (.tmp 68) (.const (.int .i64 0)) v30_67 (.int .i64 0)) (drewW w39) fun v31_69 w40 =>
  XP Try.prog (Instr.indexAt 70 (ρ1 1) (ρ1 49)) w40 fun v32_72 w41 =>
  XR Try.prog R (Instr.loadAt 27 v32_72) w41 fun v33_73 w42 =>
  XP Try.prog (Builtin.len_ #[27] 3 #[v33_73]) w42 fun v34_74 w43 =>
  CALL Try.prog 118 #[(ρ1 9)] w43 fun v35_76 w44 =>
  R w43 w44 ∧
  XP Try.prog (binOp .leq 3 v34_74 v35_76) w44 fun v36_77 w45 =>
  XP Try.prog (binOpG .neq 4 (.tmp 69) (.tmp 77) v31_69 v36_77) w45 fun v37_78 w46 =>
  gstep v37_78 false (fun w47 K => K v30_67 w47) w46 fun v38_80 w48 =>
  gstep v37_78 false (fun w49 K => XP Try.prog (binOpG .neq 30 (.tmp 80) (.const (.int .i64 0)) v38_80 (.int .i64 0)) w49 K) w48 fun v39_81 w50 =>
  gstep v37_78 false (fun w51 K => K v39_81 w51) w50 fun v40_82 w52 =>
  gstep v40_82 true (fun w53 K => K v30_67 w53) w52 fun v41_83 w54 =>
  gstep v40_82 true (fun w55 K => XP Try.prog (binOpG .neq 30 (.tmp 83) (.const (.int .i64 4)) v41_83 (.int .i64 4)) w55 K) w54 fun v42_84 w56 =>
  gstep v37_78 false (fun w57 K => XP Try.prog (pickS v40_82 v42_84 (.bool false)) w57 K) w56 fun v43_85 w58 =>
  XP Try.prog (pickS v37_78 (.bool true) v43_85) w58 fun v44_86 w59 =>
  condS v44_86 (
  Q1 .ret (upds ρ1 [(4, (.bool false)), (86, v44_86), (85, v43_85), (84, v42_84), (83, v41_83), (82, v40_82), (81, v39_81), (80, v38_80), (79, v37_78), (78, v37_78), (77, v36_77), (76, v35_76), (75, (ρ1 9)), (74, v34_74), (73, v33_73), (72, v32_72), (71, (ρ1 49)), (70, (ρ1 1)), (69, v31_69), (68, v30_67), (14, v30_67), (67, v30_67), (66, v29_66), (65, v28_65), (64, (ρ1 49)), (63, (ρ1 1)), (62, (ρ1 9)), (61, v27_61), (60, v26_60), (59, v25_59), (58, v24_58), (57, v23_57), (56, v22_56), (55, v21_55), (54, v20_53), (53, v20_53), (52, (ρ1 49)), (13, (ρ1 49)), (51, (ρ1 49)), (50, v19_50)]) w59) (
  joinS (fun ρ2 w60 =>
  B_law20_HomeBack_c2 ρ2 w60 K Q1) fun J2 =>
  X Try.prog (binOpG .eql 30 (.tmp 87) (.const (.int .i64 0)) v30_67 (.int .i64 0)) w59 fun v70_88 w97 =>
  condS v70_88 (
  X Try.prog (Instr.indexAt 70 (ρ1 1) (ρ1 49)) w97 fun v71_91 w98 =>
  X Try.prog (Instr.loadAt 27 v71_91) w98 fun v72_92 w99 =>
  X Try.prog (convert 27 9 v72_92) w99 fun v73_93 w100 =>
  X Try.prog (binOp .add 22 (ρ1 12) (.int .u64 1)) w100 fun v74_95 w101 =>
  J2 (upds ρ1 [(12, v74_95), (11, v73_93), (95, v74_95), (94, (ρ1 12)), (93, v73_93), (92, v72_92), (91, v71_91), (90, (ρ1 49)), (89, (ρ1 1)), (88, v70_88), (87, v30_67), (86, v44_86), (85, v43_85), (84, v42_84), (83, v41_83), (82, v40_82), (81, v39_81), (80, v38_80), (79, v37_78), (78, v37_78), (77, v36_77), (76, v35_76), (75, (ρ1 9)), (74, v34_74), (73, v33_73), (72, v32_72), (71, (ρ1 49)), (70, (ρ1 1)), (69, v31_69), (68, v30_67), (14, v30_67), (67, v30_67), (66, v29_66), (65, v28_65), (64, (ρ1 49)), (63, (ρ1 1)), (62, (ρ1 9)), (61, v27_61), (60, v26_60), (59, v25_59), (58, v24_58), (57, v23_57), (56, v22_56), (55, v21_55), (54, v20_53), (53, v20_53), (52, (ρ1 49)), (13, (ρ1 49)), (51, (ρ1 49)), (50, v19_50)]) w101) (
  J2 (upds ρ1 [(88, v70_88), (87, v30_67), (86, v44_86), (85, v43_85), (84, v42_84), (83, v41_83), (82, v40_82), (81, v39_81), (80, v38_80), (79, v37_78), (78, v37_78), (77, v36_77), (76, v35_76), (75, (ρ1 9)), (74, v34_74), (73, v33_73), (72, v32_72), (71, (ρ1 49)), (70, (ρ1 1)), (69, v31_69), (68, v30_67), (14, v30_67), (67, v30_67), (66, v29_66), (65, v28_65), (64, (ρ1 49)), (63, (ρ1 1)), (62, (ρ1 9)), (61, v27_61), (60, v26_60), (59, v25_59), (58, v24_58), (57, v23_57), (56, v22_56), (55, v21_55), (54, v20_53), (53, v20_53), (52, (ρ1 49)), (13, (ρ1 49)), (51, (ρ1 49)), (50, v19_50)]) w97))

def B_law20_HomeBack_c4 (ρ1 : Env) (w21 : World) (K : Value → World → Prop) (Q1 : Exit → Env → World → Prop) : Prop :=
  X Try.prog (binOp .lss 3 (ρ1 49) (ρ1 48)) w21 fun v19_50 w22 =>
  condS v19_50 (
  X Try.prog (binOp .geq 3 (ρ1 49) (.int .i64 20)) w22 fun v20_53 w23 =>
  gstep v20_53 false (fun w24 K => K (ρ1 1) w24) w23 fun v21_55 w25 =>
  gstep v20_53 false (fun w26 K => K (ρ1 49) w26) w25 fun v22_56 w27 =>
  gstep v20_53 false (fun w28 K => X Try.prog (Instr.indexAt 70 v21_55 v22_56) w28 K) w27 fun v23_57 w29 =>
  gstep v20_53 false (fun w30 K => X Try.prog (Instr.loadAt 27 v23_57) w30 K) w29 fun v24_58 w31 =>
  gstep v20_53 false (fun w32 K => X Try.prog (Builtin.len_ #[27] 3 #[v24_58]) w32 K) w31 fun v25_59 w33 =>
  gstep v20_53 false (fun w34 K => X Try.prog (binOp .gtr 3 v25_59 (.int .i64 2000)) w34 K) w33 fun v26_60 w35 =>
  X Try.prog (pickS v20_53 (.bool true) v26_60) w35 fun v27_61 w36 =>
  condS v27_61 (
  Q1 (.exit 0) (upds ρ1 [(61, v27_61), (60, v26_60), (59, v25_59), (58, v24_58), (57, v23_57), (56, v22_56), (55, v21_55), (54, v20_53), (53, v20_53), (52, (ρ1 49)), (13, (ρ1 49)), (51, (ρ1 49)), (50, v19_50)]) w36) (
  X Try.prog (Instr.indexAt 70 (ρ1 1) (ρ1 49)) w36 fun v28_65 w37 =>
  X Try.prog (Instr.loadAt 27 v28_65) w37 fun v29_66 w38 =>
  CALL Try.prog 117 #[(ρ1 9), v29_66] w38 fun v30_67 w39 =>
  B_law20_HomeBack_c3 v30_67 w39 ρ1 K Q1 v29_66 v28_65 v27_61 v26_60 v25_59 v24_58 v23_57 v22_56 v21_55 v20_53 v19_50)) (
  Q1 (.exit 0) (upds ρ1 [(50, v19_50)]) w22)

def B_law20_HomeBack_c5 (ρ6 : Env) (v76_137 : Value) (w105 : World) (K : Value → World → Prop) (Q6 : Exit → Env → World → Prop) : Prop :=
  X Try.prog (binOp .lss 3 (ρ6 19) v76_137) w105 fun v77_138 w106 =>
  condS v77_138 (
  CALL Try.prog 73 #[(ρ6 7), (ρ6 19)] w106 fun v78_144 w107 =>
  X Try.prog (Instr.extract v78_144 0) w107 fun v79_145 w108 =>
  X Try.prog (Instr.extract v78_144 1) w108 fun v80_146 w109 =>
  ∃ R, Frame? R ∧
  XP Try.prog (binOpG .neq 30 (.tmp 147) (.const (.int .i64 0)) v80_146 (.int .i64 0)) (drewW w109) fun v81_148 w110 =>
  gstep v81_148 false (fun w111 K => K v79_145 w111) w110 fun v82_150 w112 =>
  gstep v81_148 false (fun w113 K => XR Try.prog R (convert 27 9 v82_150) w113 K) w112 fun v83_151 w114 =>
  gstep v81_148 false (fun w115 K => X Try.prog (Instr.makeSlice 27 (.int .i64 128) (.int .i64 128)) w115 K) w114 fun v84_152 w116 =>
  R w114 w116 ∧
  gstep v81_148 false (fun w117 K => XR Try.prog R (convert 27 9 v84_152) w117 K) w116 fun v85_153 w118 =>
  gstep v81_148 false (fun w119 K => XP Try.prog (binOpG .neq 9 (.tmp 151) (.tmp 153) v83_151 v85_153) w119 K) w118 fun v86_154 w120 =>
  XP Try.prog (pickS v81_148 (.bool true) v86_154) w120 fun v87_155 w121 =>
  condS v87_155 (
  Q6 .ret (upds ρ6 [(4, (.bool false)), (155, v87_155), (154, v86_154), (153, v85_153), (152, v84_152), (151, v83_151), (150, v82_150), (149, v81_148), (148, v81_148), (147, v80_146), (21, v80_146), (20, v79_145), (146, v80_146), (145, v79_145), (141, v78_144), (144, v78_144), (143, (ρ6 19)), (142, (ρ6 7)), (138, v77_138), (137, v76_137), (136, (ρ6 7)), (135, (ρ6 19))]) w121) (
  X Try.prog (binOp .add 3 (ρ6 19) (.int .i64 1)) w121 fun v88_140 w122 =>
  Q6 .normal (upds ρ6 [(19, v88_140), (140, v88_140), (139, (ρ6 19)), (155, v87_155), (154, v86_154), (153, v85_153), (152, v84_152), (151, v83_151), (150, v82_150), (149, v81_148), (148, v81_148), (147, v80_146), (21, v80_146), (20, v79_145), (146, v80_146), (145, v79_145), (141, v78_144), (144, v78_144), (143, (ρ6 19)), (142, (ρ6 7)), (138, v77_138), (137, v76_137), (136, (ρ6 7)), (135, (ρ6 19))]) w122)) (
  Q6 (.exit 4) (upds ρ6 [(138, v77_138), (137, v76_137), (136, (ρ6 7)), (135, (ρ6 19))]) w106)

def B_law20_HomeBack_c6 (v9_33 : Value) (v4_26 : Value) (w10 : World) (K : Value → World → Prop) (x1 : Value) (x0 : Value) (v10_34 : Value) (v8_32 : Value) (v7_31 : Value) (v6_30 : Value) (v5_29 : Value) (v3_25 : Value) (v2_24 : Value) (v1_22 : Value) : Prop :=
  CALL Try.prog 116 #[v9_33, v4_26] w10 fun v11_38 w11 =>
  X Try.prog (Instr.extract v11_38 0) w11 fun v12_39 w12 =>
  X Try.prog (Instr.extract v11_38 1) w12 fun v13_40 w13 =>
  X Try.prog (binOpG .eql 150 (.tmp 41) (.const (.pointer none)) v12_39 (.pointer none)) w13 fun v14_42 w14 =>
  gstep v14_42 false (fun w15 K => K v13_40 w15) w14 fun v15_44 w16 =>
  gstep v14_42 false (fun w17 K => X Try.prog (binOpG .neq 30 (.tmp 44) (.const (.int .i64 0)) v15_44 (.int .i64 0)) w17 K) w16 fun v16_45 w18 =>
  X Try.prog (pickS v14_42 (.bool true) v16_45) w18 fun v17_46 w19 =>
  condS v17_46 (
  K (.bool false) w19) (
  X Try.prog (Builtin.len_ #[70] 3 #[x1]) w19 fun v18_48 w20 =>
  loopS (fun Q1 ρ1 w21 =>
  B_law20_HomeBack_c4 ρ1 w21 K Q1) (inBlockS 0 (thenS (fun ρ5 w102 =>
  CALL Try.prog 119 #[(ρ5 9)] w102 fun v75_134 w103 =>
  loopS (fun Q6 ρ6 w104 =>
  CALL Try.prog 84 #[(ρ6 7)] w104 fun v76_137 w105 =>
  B_law20_HomeBack_c5 ρ6 v76_137 w105 K Q6) (inBlockS 4 (thenS (fun ρ7 w123 =>
  K (ρ7 5) w123) (retS Try.prog (Try.f37).results K))) (upds ρ5 [(19, v75_134), (134, v75_134), (133, (ρ5 9))]) w103) (retS Try.prog (Try.f37).results K))) (upds (env0 #[x0, x1]) [(49, (.int .i64 0)), (48, v18_48), (47, x1), (12, (.int .u64 0)), (11, (.string { data := #[] })), (46, v17_46), (45, v16_45), (44, v15_44), (43, v14_42), (42, v14_42), (41, v12_39), (10, v13_40), (9, v12_39), (40, v13_40), (39, v12_39), (35, v11_38), (38, v11_38), (37, v4_26), (36, v9_33), (8, v10_34), (7, v9_33), (34, v10_34), (33, v9_33), (27, v8_32), (32, v8_32), (31, v7_31), (30, v6_30), (29, v5_29), (28, v4_26), (6, v4_26), (26, v4_26), (25, v3_25), (24, v2_24), (23, x0), (5, v1_22), (22, v1_22), (4, (.bool false))]) w20)

/-- cellarage/cellaragelaw20.HomeBack -/
def B_law20_HomeBack (x0 x1 : Value) (w : World) (K : Value → World → Prop) : Prop :=
  CALL Try.prog 114 #[] w fun v1_22 w1 =>
  X Try.prog (binOp .rem 5 x0 (.int .u8 8)) w1 fun v2_24 w2 =>
  X Try.prog (convert 5 3 v2_24) w2 fun v3_25 w3 =>
  X Try.prog (binOp .add 3 v3_25 (.int .i64 1)) w3 fun v4_26 w4 =>
  X Try.prog (binOp .mul 3 (.int .i64 2) v4_26) w4 fun v5_29 w5 =>
  X Try.prog (binOp .add 3 (.int .i64 2) v5_29) w5 fun v6_30 w6 =>
  X Try.prog (binOp .add 3 v6_30 (.int .i64 3)) w6 fun v7_31 w7 =>
  CALL Try.prog 69 #[v7_31] w7 fun v8_32 w8 =>
  X Try.prog (Instr.extract v8_32 0) w8 fun v9_33 w9 =>
  X Try.prog (Instr.extract v8_32 1) w9 fun v10_34 w10 =>
  B_law20_HomeBack_c6 v9_33 v4_26 w10 K x1 x0 v10_34 v8_32 v7_31 v6_30 v5_29 v3_25 v2_24 v1_22

theorem eq_law20_HomeBack (x0 x1 : Value) (w : World) (K : Value → World → Prop) :
    sh Try.prog (Try.f37.body.getD .skip) (retS Try.prog Try.f37.results K) (env0 #[x0, x1]) w = B_law20_HomeBack x0 x1 w K := by kernel_rfl

theorem call_law20_HomeBack (x0 x1 : Value) (w : World) (K : Value → World → Prop) (h : B_law20_HomeBack x0 x1 w K) : CALL Try.prog 37 #[x0, x1] w K :=
  call_of_eq (c := Try.f37.body.getD .skip) mixed Try.func37 (by kernel_rfl) (by kernel_rfl) (by kernel_rfl) (Nat.le_of_ble_eq_true (by kernel_rfl)) (eq_law20_HomeBack x0 x1 w K) h

def B_law20_HomeOps_c1 (Q1 : Exit → Env → World → Prop) (v30_61 : Value) (w39 : World) (ρ1 : Env) (v27_55 : Value) (v29_60 : Value) (v28_59 : Value) (v26_53 : Value) (v25_52 : Value) (v24_51 : Value) (v23_50 : Value) (v22_49 : Value) (v21_48 : Value) (v20_47 : Value) (v19_45 : Value) (v18_42 : Value) : Prop :=
  joinS (fun ρ2 w40 =>
  CALL Try.prog 79 #[(ρ2 7)] w40 fun v31_77 w41 =>
  X Try.prog (binOpG .neq 3 (.tmp 77) (.tmp 78) v31_77 (ρ2 14)) w41 fun v32_79 w42 =>
  condS v32_79 (
  Q1 .ret (upds ρ2 [(4, (.bool false)), (79, v32_79), (78, (ρ2 14)), (77, v31_77), (76, (ρ2 7))]) w42) (
  CALL Try.prog 115 #[(ρ2 9)] w42 fun v33_81 w43 =>
  CALL Try.prog 79 #[(ρ2 7)] w43 fun v34_83 w44 =>
  X Try.prog (binOpG .neq 3 (.tmp 83) (.tmp 84) v34_83 (ρ2 14)) w44 fun v35_85 w45 =>
  condS v35_85 (
  Q1 .ret (upds ρ2 [(4, (.bool false)), (85, v35_85), (84, (ρ2 14)), (83, v34_83), (82, (ρ2 7)), (81, v33_81), (80, (ρ2 9)), (79, v32_79), (78, (ρ2 14)), (77, v31_77), (76, (ρ2 7))]) w45) (
  X Try.prog (binOp .add 3 (ρ2 41) (.int .i64 1)) w45 fun v36_86 w46 =>
  Q1 .normal (upds ρ2 [(41, v36_86), (86, v36_86), (85, v35_85), (84, (ρ2 14)), (83, v34_83), (82, (ρ2 7)), (81, v33_81), (80, (ρ2 9)), (79, v32_79), (78, (ρ2 14)), (77, v31_77), (76, (ρ2 7))]) w46))) fun J2 =>
  X Try.prog (binOpG .eql 30 (.tmp 63) (.const (.int .i64 0)) v30_61 (.int .i64 0)) w39 fun v37_64 w47 =>
  condS v37_64 (
  X Try.prog (Instr.indexAt 70 (ρ1 1) (ρ1 41)) w47 fun v38_68 w48 =>
  X Try.prog (Instr.loadAt 27 v38_68) w48 fun v39_69 w49 =>
  X Try.prog (Builtin.len_ #[27] 3 #[v39_69]) w49 fun v40_70 w50 =>
  X Try.prog (binOp .add 3 v40_70 (.int .i64 128)) w50 fun v41_71 w51 =>
  X Try.prog (binOp .sub 3 v41_71 (.int .i64 1)) w51 fun v42_72 w52 =>
  X Try.prog (binOp .quo 3 v42_72 (.int .i64 128)) w52 fun v43_73 w53 =>
  X Try.prog (binOp .add 3 v43_73 (.int .i64 3)) w53 fun v44_74 w54 =>
  X Try.prog (binOp .add 3 v27_55 v44_74) w54 fun v45_75 w55 =>
  J2 (upds ρ1 [(14, v45_75), (75, v45_75), (74, v44_74), (73, v43_73), (72, v42_72), (71, v41_71), (70, v40_70), (69, v39_69), (68, v38_68), (67, (ρ1 41)), (66, (ρ1 1)), (65, v27_55), (64, v37_64), (63, v30_61), (14, v27_55), (62, v27_55), (13, v30_61), (61, v30_61), (60, v29_60), (59, v28_59), (58, (ρ1 41)), (57, (ρ1 1)), (56, (ρ1 9)), (12, v27_55), (55, v27_55), (54, (ρ1 7)), (53, v26_53), (52, v25_52), (51, v24_51), (50, v23_50), (49, v22_49), (48, v21_48), (47, v20_47), (46, v19_45), (45, v19_45), (44, (ρ1 41)), (11, (ρ1 41)), (43, (ρ1 41)), (42, v18_42)]) w55) (
  J2 (upds ρ1 [(64, v37_64), (63, v30_61), (14, v27_55), (62, v27_55), (13, v30_61), (61, v30_61), (60, v29_60), (59, v28_59), (58, (ρ1 41)), (57, (ρ1 1)), (56, (ρ1 9)), (12, v27_55), (55, v27_55), (54, (ρ1 7)), (53, v26_53), (52, v25_52), (51, v24_51), (50, v23_50), (49, v22_49), (48, v21_48), (47, v20_47), (46, v19_45), (45, v19_45), (44, (ρ1 41)), (11, (ρ1 41)), (43, (ρ1 41)), (42, v18_42)]) w47)

def B_law20_HomeOps_c2 (ρ1 : Env) (w20 : World) (K : Value → World → Prop) (Q1 : Exit → Env → World → Prop) : Prop :=
  X Try.prog (binOp .lss 3 (ρ1 41) (ρ1 40)) w20 fun v18_42 w21 =>
  condS v18_42 (
  X Try.prog (binOp .geq 3 (ρ1 41) (.int .i64 20)) w21 fun v19_45 w22 =>
  gstep v19_45 false (fun w23 K => K (ρ1 1) w23) w22 fun v20_47 w24 =>
  gstep v19_45 false (fun w25 K => K (ρ1 41) w25) w24 fun v21_48 w26 =>
  gstep v19_45 false (fun w27 K => X Try.prog (Instr.indexAt 70 v20_47 v21_48) w27 K) w26 fun v22_49 w28 =>
  gstep v19_45 false (fun w29 K => X Try.prog (Instr.loadAt 27 v22_49) w29 K) w28 fun v23_50 w30 =>
  gstep v19_45 false (fun w31 K => X Try.prog (Builtin.len_ #[27] 3 #[v23_50]) w31 K) w30 fun v24_51 w32 =>
  gstep v19_45 false (fun w33 K => X Try.prog (binOp .gtr 3 v24_51 (.int .i64 2000)) w33 K) w32 fun v25_52 w34 =>
  X Try.prog (pickS v19_45 (.bool true) v25_52) w34 fun v26_53 w35 =>
  condS v26_53 (
  Q1 (.exit 0) (upds ρ1 [(53, v26_53), (52, v25_52), (51, v24_51), (50, v23_50), (49, v22_49), (48, v21_48), (47, v20_47), (46, v19_45), (45, v19_45), (44, (ρ1 41)), (11, (ρ1 41)), (43, (ρ1 41)), (42, v18_42)]) w35) (
  CALL Try.prog 79 #[(ρ1 7)] w35 fun v27_55 w36 =>
  X Try.prog (Instr.indexAt 70 (ρ1 1) (ρ1 41)) w36 fun v28_59 w37 =>
  X Try.prog (Instr.loadAt 27 v28_59) w37 fun v29_60 w38 =>
  CALL Try.prog 117 #[(ρ1 9), v29_60] w38 fun v30_61 w39 =>
  B_law20_HomeOps_c1 Q1 v30_61 w39 ρ1 v27_55 v29_60 v28_59 v26_53 v25_52 v24_51 v23_50 v22_49 v21_48 v20_47 v19_45 v18_42)) (
  Q1 (.exit 0) (upds ρ1 [(42, v18_42)]) w21)

def B_law20_HomeOps_c3 (v5_22 : Value) (w5 : World) (v4_19 : Value) (K : Value → World → Prop) (x1 : Value) (x0 : Value) (v3_18 : Value) (v2_17 : Value) (v1_15 : Value) : Prop :=
  X Try.prog (binOp .add 3 (.int .i64 2) v5_22) w5 fun v6_23 w6 =>
  CALL Try.prog 69 #[v6_23] w6 fun v7_24 w7 =>
  X Try.prog (Instr.extract v7_24 0) w7 fun v8_25 w8 =>
  X Try.prog (Instr.extract v7_24 1) w8 fun v9_26 w9 =>
  CALL Try.prog 116 #[v8_25, v4_19] w9 fun v10_30 w10 =>
  X Try.prog (Instr.extract v10_30 0) w10 fun v11_31 w11 =>
  X Try.prog (Instr.extract v10_30 1) w11 fun v12_32 w12 =>
  X Try.prog (binOpG .eql 150 (.tmp 33) (.const (.pointer none)) v11_31 (.pointer none)) w12 fun v13_34 w13 =>
  gstep v13_34 false (fun w14 K => K v12_32 w14) w13 fun v14_36 w15 =>
  gstep v13_34 false (fun w16 K => X Try.prog (binOpG .neq 30 (.tmp 36) (.const (.int .i64 0)) v14_36 (.int .i64 0)) w16 K) w15 fun v15_37 w17 =>
  X Try.prog (pickS v13_34 (.bool true) v15_37) w17 fun v16_38 w18 =>
  condS v16_38 (
  K (.bool false) w18) (
  X Try.prog (Builtin.len_ #[70] 3 #[x1]) w18 fun v17_40 w19 =>
  loopS (fun Q1 ρ1 w20 =>
  B_law20_HomeOps_c2 ρ1 w20 K Q1) (inBlockS 0 (thenS (fun ρ3 w56 =>
  K (ρ3 5) w56) (retS Try.prog (Try.f38).results K))) (upds (env0 #[x0, x1]) [(41, (.int .i64 0)), (40, v17_40), (39, x1), (38, v16_38), (37, v15_37), (36, v14_36), (35, v13_34), (34, v13_34), (33, v11_31), (10, v12_32), (9, v11_31), (32, v12_32), (31, v11_31), (27, v10_30), (30, v10_30), (29, v4_19), (28, v8_25), (8, v9_26), (7, v8_25), (26, v9_26), (25, v8_25), (20, v7_24), (24, v7_24), (23, v6_23), (22, v5_22), (21, v4_19), (6, v4_19), (19, v4_19), (18, v3_18), (17, v2_17), (16, x0), (5, v1_15), (15, v1_15), (4, (.bool false))]) w19)

/-- cellarage/cellaragelaw20.HomeOps -/
def B_law20_HomeOps (x0 x1 : Value) (w : World) (K : Value → World → Prop) : Prop :=
  CALL Try.prog 114 #[] w fun v1_15 w1 =>
  X Try.prog (binOp .rem 5 x0 (.int .u8 8)) w1 fun v2_17 w2 =>
  X Try.prog (convert 5 3 v2_17) w2 fun v3_18 w3 =>
  X Try.prog (binOp .add 3 v3_18 (.int .i64 1)) w3 fun v4_19 w4 =>
  X Try.prog (binOp .mul 3 (.int .i64 2) v4_19) w4 fun v5_22 w5 =>
  B_law20_HomeOps_c3 v5_22 w5 v4_19 K x1 x0 v3_18 v2_17 v1_15

theorem eq_law20_HomeOps (x0 x1 : Value) (w : World) (K : Value → World → Prop) :
    sh Try.prog (Try.f38.body.getD .skip) (retS Try.prog Try.f38.results K) (env0 #[x0, x1]) w = B_law20_HomeOps x0 x1 w K := by kernel_rfl

theorem call_law20_HomeOps (x0 x1 : Value) (w : World) (K : Value → World → Prop) (h : B_law20_HomeOps x0 x1 w K) : CALL Try.prog 38 #[x0, x1] w K :=
  call_of_eq (c := Try.f38.body.getD .skip) mixed Try.func38 (by kernel_rfl) (by kernel_rfl) (by kernel_rfl) (Nat.le_of_ble_eq_true (by kernel_rfl)) (eq_law20_HomeOps x0 x1 w K) h

def B_law20_HomeCrashes_c1 (v39_70 : Value) (w49 : World) (v32_15 : Value) (ρ1 : Env) (J2 : Env → World → Prop) (v44_76 : Value) (v43_75 : Value) (v42_73 : Value) (v41_72 : Value) (v40_71 : Value) (v38_69 : Value) (v37_68 : Value) (v36_66 : Value) (v35_64 : Value) (v34_63 : Value) (v33_62 : Value) (v31_61 : Value) (v30_60 : Value) (v28_59 : Value) (K : Value → World → Prop) (Q1 : Exit → Env → World → Prop) : Prop :=
  X Try.prog (binOpG .eql 30 (.tmp 79) (.const (.int .i64 0)) v39_70 (.int .i64 0)) w49 fun v46_80 w51 =>
  condS v46_80 (
  ∃ R, Frame? R ∧
  XP Try.prog (Instr.fieldAt 159 v32_15 3) (drewW w51) fun v47_81 w52 =>
  XR Try.prog R (Instr.loadAt 27 v47_81) w52 fun v48_82 w53 =>
  XR Try.prog R (convert 27 9 v48_82) w53 fun v49_83 w54 =>
  XP Try.prog (Instr.fieldAt 159 v32_15 3) w54 fun v50_84 w55 =>
  XR Try.prog R (Instr.loadAt 27 v50_84) w55 fun v51_85 w56 =>
  XR Try.prog R (convert 27 9 v51_85) w56 fun v52_86 w57 =>
  XP Try.prog (binOp .add 22 (ρ1 13) (.int .u64 1)) w57 fun v53_88 w58 =>
  J2 (upds ρ1 [(13, v53_88), (12, v52_86), (11, v49_83), (88, v53_88), (87, (ρ1 13)), (86, v52_86), (85, v51_85), (84, v50_84), (83, v49_83), (82, v48_82), (81, v47_81), (80, v46_80), (79, v39_70), (76, v44_76), (75, v43_75), (74, (ρ1 9)), (73, v42_73), (72, v41_72), (71, v40_71), (16, v39_70), (70, v39_70), (69, v38_69), (68, v37_68), (67, (ρ1 9)), (65, v36_66), (66, v36_66), (64, v35_64), (63, v34_63), (62, v33_62), (15, v32_15), (61, v31_61), (60, v30_60), (59, v28_59)]) w58) (
  X Try.prog (binOpG .neq 30 (.tmp 89) (.const (.int .i64 6)) v39_70 (.int .i64 6)) w51 fun v54_90 w59 =>
  gstep v54_90 false (fun w60 K => K (ρ1 7) w60) w59 fun v55_92 w61 =>
  gstep v54_90 false (fun w62 K => CALL Try.prog 76 #[v55_92] w62 K) w61 fun v56_93 w63 =>
  gstep v54_90 false (fun w64 K => X Try.prog (Op.unary .not v56_93) w64 K) w63 fun v57_94 w65 =>
  X Try.prog (pickS v54_90 (.bool true) v57_94) w65 fun v58_95 w66 =>
  condS v58_95 (
  Q1 .ret (upds ρ1 [(4, (.bool false)), (95, v58_95), (94, v57_94), (93, v56_93), (92, v55_92), (91, v54_90), (90, v54_90), (89, v39_70), (80, v46_80), (79, v39_70), (76, v44_76), (75, v43_75), (74, (ρ1 9)), (73, v42_73), (72, v41_72), (71, v40_71), (16, v39_70), (70, v39_70), (69, v38_69), (68, v37_68), (67, (ρ1 9)), (65, v36_66), (66, v36_66), (64, v35_64), (63, v34_63), (62, v33_62), (15, v32_15), (61, v31_61), (60, v30_60), (59, v28_59)]) w66) (
  X Try.prog (binOpG .eql 9 (.tmp 96) (.tmp 97) (ρ1 12) (ρ1 11)) w66 fun v59_98 w67 =>
  condS v59_98 (
  X Try.prog (Instr.fieldAt 159 v32_15 3) w67 fun v60_99 w68 =>
  X Try.prog (Instr.loadAt 27 v60_99) w68 fun v61_100 w69 =>
  X Try.prog (convert 27 9 v61_100) w69 fun v62_101 w70 =>
  J2 (upds ρ1 [(12, v62_101), (101, v62_101), (100, v61_100), (99, v60_99), (98, v59_98), (97, (ρ1 11)), (96, (ρ1 12)), (95, v58_95), (94, v57_94), (93, v56_93), (92, v55_92), (91, v54_90), (90, v54_90), (89, v39_70), (80, v46_80), (79, v39_70), (76, v44_76), (75, v43_75), (74, (ρ1 9)), (73, v42_73), (72, v41_72), (71, v40_71), (16, v39_70), (70, v39_70), (69, v38_69), (68, v37_68), (67, (ρ1 9)), (65, v36_66), (66, v36_66), (64, v35_64), (63, v34_63), (62, v33_62), (15, v32_15), (61, v31_61), (60, v30_60), (59, v28_59)]) w70) (
  J2 (upds ρ1 [(98, v59_98), (97, (ρ1 11)), (96, (ρ1 12)), (95, v58_95), (94, v57_94), (93, v56_93), (92, v55_92), (91, v54_90), (90, v54_90), (89, v39_70), (80, v46_80), (79, v39_70), (76, v44_76), (75, v43_75), (74, (ρ1 9)), (73, v42_73), (72, v41_72), (71, v40_71), (16, v39_70), (70, v39_70), (69, v38_69), (68, v37_68), (67, (ρ1 9)), (65, v36_66), (66, v36_66), (64, v35_64), (63, v34_63), (62, v33_62), (15, v32_15), (61, v31_61), (60, v30_60), (59, v28_59)]) w67)))

def B_law20_HomeCrashes_c2 (v93_146 : Value) (v102_156 : Value) (w131 : World) (K : Value → World → Prop) (v80_131 : Value) (ρ1 : Env) (v79_130 : Value) (Q1 : Exit → Env → World → Prop) (v101_155 : Value) (v100_154 : Value) (v99_153 : Value) (v98_152 : Value) (v97_151 : Value) (v96_150 : Value) (v95_149 : Value) (v94_148 : Value) (v92_145 : Value) (v91_144 : Value) (v90_143 : Value) (v89_142 : Value) (v88_141 : Value) (v87_140 : Value) (v86_139 : Value) (v85_138 : Value) (v84_137 : Value) (v83_136 : Value) (v82_134 : Value) (v81_132 : Value) (v78_129 : Value) (v72_118 : Value) (v77_125 : Value) (v76_124 : Value) (v75_123 : Value) (v74_121 : Value) (v73_119 : Value) (v71_117 : Value) (v70_113 : Value) (v69_112 : Value) (v68_111 : Value) (v67_109 : Value) (v63_103 : Value) (v36_66 : Value) (v35_64 : Value) (v34_63 : Value) (v33_62 : Value) (v32_15 : Value) (v31_61 : Value) (v30_60 : Value) (v28_59 : Value) (J2 : Env → World → Prop) : Prop :=
  X Try.prog (pickS v93_146 (.bool true) v102_156) w131 fun v103_157 w132 =>
  gstep v103_157 false (fun w133 K => K v80_131 w133) w132 fun v104_159 w134 =>
  gstep v103_157 false (fun w135 K => K (ρ1 13) w135) w134 fun v105_160 w136 =>
  gstep v103_157 false (fun w137 K => X Try.prog (binOpG .eql 22 (.tmp 159) (.tmp 160) v104_159 v105_160) w137 K) w136 fun v106_161 w138 =>
  gstep v103_157 false (fun w139 K => K v106_161 w139) w138 fun v107_162 w140 =>
  gstep v107_162 true (fun w141 K => K v79_130 w141) w140 fun v108_163 w142 =>
  gstep v107_162 true (fun w143 K => X Try.prog (convert 27 9 v108_163) w143 K) w142 fun v109_164 w144 =>
  gstep v107_162 true (fun w145 K => K (ρ1 11) w145) w144 fun v110_165 w146 =>
  gstep v107_162 true (fun w147 K => X Try.prog (binOpG .neq 9 (.tmp 164) (.tmp 165) v109_164 v110_165) w147 K) w146 fun v111_166 w148 =>
  gstep v103_157 false (fun w149 K => X Try.prog (pickS v107_162 v111_166 (.bool false)) w149 K) w148 fun v112_167 w150 =>
  X Try.prog (pickS v103_157 (.bool true) v112_167) w150 fun v113_168 w151 =>
  condS v113_168 (
  Q1 .ret (upds ρ1 [(4, (.bool false)), (168, v113_168), (167, v112_167), (166, v111_166), (165, v110_165), (164, v109_164), (163, v108_163), (162, v107_162), (161, v106_161), (160, v105_160), (159, v104_159), (158, v103_157), (157, v103_157), (156, v102_156), (155, v101_155), (154, v100_154), (153, v99_153), (152, v98_152), (151, v97_151), (150, v96_150), (149, v95_149), (148, v94_148), (147, v93_146), (146, v93_146), (145, v92_145), (144, v91_144), (143, v90_143), (142, v89_142), (141, v88_141), (140, v87_140), (139, v86_139), (138, v85_138), (137, v84_137), (136, v83_136), (135, v82_134), (134, v82_134), (133, v81_132), (21, v81_132), (20, v80_131), (19, v79_130), (132, v81_132), (131, v80_131), (130, v79_130), (127, v78_129), (129, v78_129), (128, v72_118), (9, v72_118), (126, v72_118), (125, v77_125), (124, v76_124), (123, v75_123), (122, v74_121), (121, v74_121), (120, v73_119), (18, v73_119), (17, v72_118), (119, v73_119), (118, v72_118), (114, v71_117), (117, v71_117), (116, (ρ1 6)), (115, (ρ1 7)), (113, v70_113), (112, v69_112), (111, v68_111), (110, (ρ1 7)), (108, v67_109), (109, v67_109), (102, v63_103), (103, v63_103), (65, v36_66), (66, v36_66), (64, v35_64), (63, v34_63), (62, v33_62), (15, v32_15), (61, v31_61), (60, v30_60), (59, v28_59)]) w151) (
  ∃ R, Frame? R ∧
  XR Try.prog R (convert 27 9 v79_130) (drewW w151) fun v114_170 w152 =>
  XR Try.prog R (convert 27 9 v79_130) w152 fun v115_172 w153 =>
  J2 (upds ρ1 [(13, v80_131), (12, v115_172), (11, v114_170), (173, v80_131), (172, v115_172), (171, v79_130), (170, v114_170), (169, v79_130), (168, v113_168), (167, v112_167), (166, v111_166), (165, v110_165), (164, v109_164), (163, v108_163), (162, v107_162), (161, v106_161), (160, v105_160), (159, v104_159), (158, v103_157), (157, v103_157), (156, v102_156), (155, v101_155), (154, v100_154), (153, v99_153), (152, v98_152), (151, v97_151), (150, v96_150), (149, v95_149), (148, v94_148), (147, v93_146), (146, v93_146), (145, v92_145), (144, v91_144), (143, v90_143), (142, v89_142), (141, v88_141), (140, v87_140), (139, v86_139), (138, v85_138), (137, v84_137), (136, v83_136), (135, v82_134), (134, v82_134), (133, v81_132), (21, v81_132), (20, v80_131), (19, v79_130), (132, v81_132), (131, v80_131), (130, v79_130), (127, v78_129), (129, v78_129), (128, v72_118), (9, v72_118), (126, v72_118), (125, v77_125), (124, v76_124), (123, v75_123), (122, v74_121), (121, v74_121), (120, v73_119), (18, v73_119), (17, v72_118), (119, v73_119), (118, v72_118), (114, v71_117), (117, v71_117), (116, (ρ1 6)), (115, (ρ1 7)), (113, v70_113), (112, v69_112), (111, v68_111), (110, (ρ1 7)), (108, v67_109), (109, v67_109), (102, v63_103), (103, v63_103), (65, v36_66), (66, v36_66), (64, v35_64), (63, v34_63), (62, v33_62), (15, v32_15), (61, v31_61), (60, v30_60), (59, v28_59)]) w153)

def B_law20_HomeCrashes_c3 (v82_134 : Value) (K : Value → World → Prop) (v86_139 : Value) (w100 : World) (v79_130 : Value) (ρ1 : Env) (v80_131 : Value) (Q1 : Exit → Env → World → Prop) (v85_138 : Value) (v84_137 : Value) (v83_136 : Value) (v81_132 : Value) (v78_129 : Value) (v72_118 : Value) (v77_125 : Value) (v76_124 : Value) (v75_123 : Value) (v74_121 : Value) (v73_119 : Value) (v71_117 : Value) (v70_113 : Value) (v69_112 : Value) (v68_111 : Value) (v67_109 : Value) (v63_103 : Value) (v36_66 : Value) (v35_64 : Value) (v34_63 : Value) (v33_62 : Value) (v32_15 : Value) (v31_61 : Value) (v30_60 : Value) (v28_59 : Value) (J2 : Env → World → Prop) : Prop :=
  gstep v82_134 false (fun w101 K => K v86_139 w101) w100 fun v87_140 w102 =>
  gstep v87_140 true (fun w103 K => K v79_130 w103) w102 fun v88_141 w104 =>
  gstep v87_140 true (fun w105 K => X Try.prog (convert 27 9 v88_141) w105 K) w104 fun v89_142 w106 =>
  gstep v87_140 true (fun w107 K => K (ρ1 12) w107) w106 fun v90_143 w108 =>
  gstep v87_140 true (fun w109 K => X Try.prog (binOpG .neq 9 (.tmp 142) (.tmp 143) v89_142 v90_143) w109 K) w108 fun v91_144 w110 =>
  gstep v82_134 false (fun w111 K => X Try.prog (pickS v87_140 v91_144 (.bool false)) w111 K) w110 fun v92_145 w112 =>
  X Try.prog (pickS v82_134 (.bool true) v92_145) w112 fun v93_146 w113 =>
  gstep v93_146 false (fun w114 K => K v80_131 w114) w113 fun v94_148 w115 =>
  gstep v93_146 false (fun w116 K => K (ρ1 13) w116) w115 fun v95_149 w117 =>
  gstep v93_146 false (fun w118 K => X Try.prog (binOpG .neq 22 (.tmp 148) (.tmp 149) v94_148 v95_149) w118 K) w117 fun v96_150 w119 =>
  gstep v93_146 false (fun w120 K => K v96_150 w120) w119 fun v97_151 w121 =>
  gstep v97_151 true (fun w122 K => K v80_131 w122) w121 fun v98_152 w123 =>
  gstep v97_151 true (fun w124 K => K (ρ1 13) w124) w123 fun v99_153 w125 =>
  gstep v97_151 true (fun w126 K => X Try.prog (binOp .add 22 v99_153 (.int .u64 1)) w126 K) w125 fun v100_154 w127 =>
  gstep v97_151 true (fun w128 K => X Try.prog (binOpG .neq 22 (.tmp 152) (.tmp 154) v98_152 v100_154) w128 K) w127 fun v101_155 w129 =>
  gstep v93_146 false (fun w130 K => X Try.prog (pickS v97_151 v101_155 (.bool false)) w130 K) w129 fun v102_156 w131 =>
  B_law20_HomeCrashes_c2 v93_146 v102_156 w131 K v80_131 ρ1 v79_130 Q1 v101_155 v100_154 v99_153 v98_152 v97_151 v96_150 v95_149 v94_148 v92_145 v91_144 v90_143 v89_142 v88_141 v87_140 v86_139 v85_138 v84_137 v83_136 v82_134 v81_132 v78_129 v72_118 v77_125 v76_124 v75_123 v74_121 v73_119 v71_117 v70_113 v69_112 v68_111 v67_109 v63_103 v36_66 v35_64 v34_63 v33_62 v32_15 v31_61 v30_60 v28_59 J2

def B_law20_HomeCrashes_c4 (v71_117 : Value) (w80 : World) (K : Value → World → Prop) (v72_118 : Value) (Q1 : Exit → Env → World → Prop) (ρ1 : Env) (v70_113 : Value) (v69_112 : Value) (v68_111 : Value) (v67_109 : Value) (v63_103 : Value) (v36_66 : Value) (v35_64 : Value) (v34_63 : Value) (v33_62 : Value) (v32_15 : Value) (v31_61 : Value) (v30_60 : Value) (v28_59 : Value) (J2 : Env → World → Prop) : Prop :=
  X Try.prog (Instr.extract v71_117 1) w80 fun v73_119 w81 =>
  X Try.prog (binOpG .neq 30 (.tmp 120) (.const (.int .i64 0)) v73_119 (.int .i64 0)) w81 fun v74_121 w82 =>
  gstep v74_121 false (fun w83 K => K v72_118 w83) w82 fun v75_123 w84 =>
  gstep v74_121 false (fun w85 K => X Try.prog (binOpG .eql 150 (.tmp 123) (.const (.pointer none)) v75_123 (.pointer none)) w85 K) w84 fun v76_124 w86 =>
  X Try.prog (pickS v74_121 (.bool true) v76_124) w86 fun v77_125 w87 =>
  condS v77_125 (
  Q1 .ret (upds ρ1 [(4, (.bool false)), (125, v77_125), (124, v76_124), (123, v75_123), (122, v74_121), (121, v74_121), (120, v73_119), (18, v73_119), (17, v72_118), (119, v73_119), (118, v72_118), (114, v71_117), (117, v71_117), (116, (ρ1 6)), (115, (ρ1 7)), (113, v70_113), (112, v69_112), (111, v68_111), (110, (ρ1 7)), (108, v67_109), (109, v67_109), (102, v63_103), (103, v63_103), (65, v36_66), (66, v36_66), (64, v35_64), (63, v34_63), (62, v33_62), (15, v32_15), (61, v31_61), (60, v30_60), (59, v28_59)]) w87) (
  CALL Try.prog 115 #[v72_118] w87 fun v78_129 w88 =>
  X Try.prog (Instr.extract v78_129 0) w88 fun v79_130 w89 =>
  X Try.prog (Instr.extract v78_129 1) w89 fun v80_131 w90 =>
  X Try.prog (Instr.extract v78_129 2) w90 fun v81_132 w91 =>
  X Try.prog (binOpG .neq 30 (.tmp 133) (.const (.int .i64 0)) v81_132 (.int .i64 0)) w91 fun v82_134 w92 =>
  gstep v82_134 false (fun w93 K => K v79_130 w93) w92 fun v83_136 w94 =>
  gstep v82_134 false (fun w95 K => X Try.prog (convert 27 9 v83_136) w95 K) w94 fun v84_137 w96 =>
  gstep v82_134 false (fun w97 K => K (ρ1 11) w97) w96 fun v85_138 w98 =>
  gstep v82_134 false (fun w99 K => X Try.prog (binOpG .neq 9 (.tmp 137) (.tmp 138) v84_137 v85_138) w99 K) w98 fun v86_139 w100 =>
  B_law20_HomeCrashes_c3 v82_134 K v86_139 w100 v79_130 ρ1 v80_131 Q1 v85_138 v84_137 v83_136 v81_132 v78_129 v72_118 v77_125 v76_124 v75_123 v74_121 v73_119 v71_117 v70_113 v69_112 v68_111 v67_109 v63_103 v36_66 v35_64 v34_63 v33_62 v32_15 v31_61 v30_60 v28_59 J2)

def B_law20_HomeCrashes_c5 (v36_66 : Value) (v32_15 : Value) (w41 : World) (ρ1 : Env) (Q1 : Exit → Env → World → Prop) (v35_64 : Value) (v34_63 : Value) (v33_62 : Value) (v31_61 : Value) (v30_60 : Value) (v28_59 : Value) (J2 : Env → World → Prop) (K : Value → World → Prop) : Prop :=
  condS v36_66 (
  X Try.prog (Instr.fieldAt 159 v32_15 3) w41 fun v37_68 w42 =>
  X Try.prog (Instr.loadAt 27 v37_68) w42 fun v38_69 w43 =>
  CALL Try.prog 117 #[(ρ1 9), v38_69] w43 fun v39_70 w44 =>
  ∃ R, Frame? R ∧
  XP Try.prog (Instr.fieldAt 159 v32_15 3) (drewW w44) fun v40_71 w45 =>
  XR Try.prog R (Instr.loadAt 27 v40_71) w45 fun v41_72 w46 =>
  XP Try.prog (Builtin.len_ #[27] 3 #[v41_72]) w46 fun v42_73 w47 =>
  CALL Try.prog 118 #[(ρ1 9)] w47 fun v43_75 w48 =>
  R w47 w48 ∧
  XP Try.prog (binOp .gtr 3 v42_73 v43_75) w48 fun v44_76 w49 =>
  condS v44_76 (
  X Try.prog (binOpG .neq 30 (.tmp 77) (.const (.int .i64 4)) v39_70 (.int .i64 4)) w49 fun v45_78 w50 =>
  condS v45_78 (
  Q1 .ret (upds ρ1 [(4, (.bool false)), (78, v45_78), (77, v39_70), (76, v44_76), (75, v43_75), (74, (ρ1 9)), (73, v42_73), (72, v41_72), (71, v40_71), (16, v39_70), (70, v39_70), (69, v38_69), (68, v37_68), (67, (ρ1 9)), (65, v36_66), (66, v36_66), (64, v35_64), (63, v34_63), (62, v33_62), (15, v32_15), (61, v31_61), (60, v30_60), (59, v28_59)]) w50) (
  J2 (upds ρ1 [(78, v45_78), (77, v39_70), (76, v44_76), (75, v43_75), (74, (ρ1 9)), (73, v42_73), (72, v41_72), (71, v40_71), (16, v39_70), (70, v39_70), (69, v38_69), (68, v37_68), (67, (ρ1 9)), (65, v36_66), (66, v36_66), (64, v35_64), (63, v34_63), (62, v33_62), (15, v32_15), (61, v31_61), (60, v30_60), (59, v28_59)]) w50)) (
  B_law20_HomeCrashes_c1 v39_70 w49 v32_15 ρ1 J2 v44_76 v43_75 v42_73 v41_72 v40_71 v38_69 v37_68 v36_66 v35_64 v34_63 v33_62 v31_61 v30_60 v28_59 K Q1)) (
  X Try.prog (binOpG .eql 5 (.tmp 64) (.const (.int .u8 3)) v35_64 (.int .u8 3)) w41 fun v63_103 w71 =>
  condS v63_103 (
  X Try.prog (Instr.fieldAt 159 v32_15 2) w71 fun v64_105 w72 =>
  X Try.prog (Instr.loadAt 3 v64_105) w72 fun v65_106 w73 =>
  CALL Try.prog 78 #[(ρ1 7), v65_106] w73 fun v66_107 w74 =>
  J2 (upds ρ1 [(107, v66_107), (106, v65_106), (105, v64_105), (104, (ρ1 7)), (102, v63_103), (103, v63_103), (65, v36_66), (66, v36_66), (64, v35_64), (63, v34_63), (62, v33_62), (15, v32_15), (61, v31_61), (60, v30_60), (59, v28_59)]) w74) (
  X Try.prog (binOpG .eql 5 (.tmp 64) (.const (.int .u8 4)) v35_64 (.int .u8 4)) w71 fun v67_109 w75 =>
  condS v67_109 (
  X Try.prog (Instr.fieldAt 159 v32_15 4) w75 fun v68_111 w76 =>
  X Try.prog (Instr.loadAt 79 v68_111) w76 fun v69_112 w77 =>
  CALL Try.prog 72 #[(ρ1 7), v69_112] w77 fun v70_113 w78 =>
  CALL Try.prog 116 #[(ρ1 7), (ρ1 6)] w78 fun v71_117 w79 =>
  X Try.prog (Instr.extract v71_117 0) w79 fun v72_118 w80 =>
  B_law20_HomeCrashes_c4 v71_117 w80 K v72_118 Q1 ρ1 v70_113 v69_112 v68_111 v67_109 v63_103 v36_66 v35_64 v34_63 v33_62 v32_15 v31_61 v30_60 v28_59 J2) (
  J2 (upds ρ1 [(108, v67_109), (109, v67_109), (102, v63_103), (103, v63_103), (65, v36_66), (66, v36_66), (64, v35_64), (63, v34_63), (62, v33_62), (15, v32_15), (61, v31_61), (60, v30_60), (59, v28_59)]) w75)))

def B_law20_HomeCrashes_c6 (K : Value → World → Prop) (x0 : Value) (x1 : Value) (v27_57 : Value) (v26_56 : Value) (v25_55 : Value) (v24_54 : Value) (v23_53 : Value) (v22_52 : Value) (v21_51 : Value) (v20_50 : Value) (v19_49 : Value) (v18_48 : Value) (v17_46 : Value) (v16_45 : Value) (v15_44 : Value) (v14_43 : Value) (v13_41 : Value) (v11_38 : Value) (v12_39 : Value) (v10_37 : Value) (v4_26 : Value) (v8_32 : Value) (v9_33 : Value) (v7_31 : Value) (v6_30 : Value) (v5_29 : Value) (v3_25 : Value) (v2_24 : Value) (v1_22 : Value) (w29 : World) : Prop :=
  loopS (fun Q1 ρ1 w30 =>
  X Try.prog (binOp .lss 3 (ρ1 58) (ρ1 57)) w30 fun v28_59 w31 =>
  condS v28_59 (
  joinS (fun ρ2 w32 =>
  X Try.prog (binOp .add 3 (ρ2 58) (.int .i64 1)) w32 fun v29_174 w33 =>
  Q1 .normal (upds ρ2 [(58, v29_174), (174, v29_174)]) w33) fun J2 =>
  X Try.prog (Instr.indexAt 157 (ρ1 56) (ρ1 58)) w31 fun v30_60 w34 =>
  X Try.prog (Instr.loadAt 159 v30_60) w34 fun v31_61 w35 =>
  X Try.prog (Instr.alloc 159 true (.tuple #[])) w35 fun v32_15 w36 =>
  XU Try.prog (Instr.storeAt 159 v32_15 v31_61) w36 fun w37 =>
  X Try.prog (Instr.fieldAt 159 v32_15 0) w37 fun v33_62 w38 =>
  X Try.prog (Instr.loadAt 5 v33_62) w38 fun v34_63 w39 =>
  X Try.prog (binOp .rem 5 v34_63 (.int .u8 5)) w39 fun v35_64 w40 =>
  X Try.prog (binOpG .eql 5 (.tmp 64) (.const (.int .u8 0)) v35_64 (.int .u8 0)) w40 fun v36_66 w41 =>
  B_law20_HomeCrashes_c5 v36_66 v32_15 w41 ρ1 Q1 v35_64 v34_63 v33_62 v31_61 v30_60 v28_59 J2 K) (
  Q1 (.exit 0) (upds ρ1 [(59, v28_59)]) w31)) (inBlockS 0 (thenS (fun ρ3 w154 =>
  gstep (ρ3 5) true (fun w155 K => K (ρ3 11) w155) w154 fun v116_177 w156 =>
  gstep (ρ3 5) true (fun w157 K => X Try.prog (binOpG .eql 9 (.tmp 177) (.const (.string { data := #[101, 110, 100] })) v116_177 (.string { data := #[101, 110, 100] })) w157 K) w156 fun v117_178 w158 =>
  X Try.prog (pickS (ρ3 5) v117_178 (.bool false)) w158 fun v118_179 w159 =>
  K v118_179 w159) (retS Try.prog (Try.f39).results K))) (upds (env0 #[x0, x1]) [(58, (.int .i64 0)), (57, v27_57), (56, v26_56), (55, v25_55), (54, v24_54), (53, v23_53), (52, v22_52), (51, v21_51), (50, v20_50), (49, v19_49), (48, v18_48), (47, x1), (46, v17_46), (13, (.int .u64 0)), (12, (.string { data := #[] })), (11, (.string { data := #[] })), (45, v16_45), (44, v15_44), (43, v14_43), (42, v13_41), (41, v13_41), (40, v11_38), (10, v12_39), (9, v11_38), (39, v12_39), (38, v11_38), (34, v10_37), (37, v10_37), (36, v4_26), (35, v8_32), (8, v9_33), (7, v8_32), (33, v9_33), (32, v8_32), (27, v7_31), (31, v7_31), (30, v6_30), (29, v5_29), (28, v4_26), (6, v4_26), (26, v4_26), (25, v3_25), (24, v2_24), (23, x0), (5, v1_22), (22, v1_22), (4, (.bool false))]) w29

def B_law20_HomeCrashes_c7 (v13_41 : Value) (K : Value → World → Prop) (v12_39 : Value) (w13 : World) (x1 : Value) (x0 : Value) (v11_38 : Value) (v10_37 : Value) (v4_26 : Value) (v8_32 : Value) (v9_33 : Value) (v7_31 : Value) (v6_30 : Value) (v5_29 : Value) (v3_25 : Value) (v2_24 : Value) (v1_22 : Value) : Prop :=
  gstep v13_41 false (fun w14 K => K v12_39 w14) w13 fun v14_43 w15 =>
  gstep v13_41 false (fun w16 K => X Try.prog (binOpG .neq 30 (.tmp 43) (.const (.int .i64 0)) v14_43 (.int .i64 0)) w16 K) w15 fun v15_44 w17 =>
  X Try.prog (pickS v13_41 (.bool true) v15_44) w17 fun v16_45 w18 =>
  condS v16_45 (
  K (.bool false) w18) (
  X Try.prog (Instr.buildSlice 157 0 #[]) w18 fun v17_46 w19 =>
  CALL Try.prog 120 #[x1] w19 fun v18_48 w20 =>
  X Try.prog (Builtin.append_ #[157, 157] 157 #[v17_46, v18_48]) w20 fun v19_49 w21 =>
  X Try.prog (Instr.build 159 #[(0, (.int .u8 4))]) w21 fun v20_50 w22 =>
  X Try.prog (Instr.buildSlice 27 3 #[(0, (.int .u8 101)), (1, (.int .u8 110)), (2, (.int .u8 100))]) w22 fun v21_51 w23 =>
  X Try.prog (convert 27 27 v21_51) w23 fun v22_52 w24 =>
  X Try.prog (Instr.build 159 #[(0, (.int .u8 0)), (3, v22_52)]) w24 fun v23_53 w25 =>
  X Try.prog (Instr.build 159 #[(0, (.int .u8 4))]) w25 fun v24_54 w26 =>
  X Try.prog (Instr.buildSlice 157 3 #[(0, v20_50), (1, v23_53), (2, v24_54)]) w26 fun v25_55 w27 =>
  X Try.prog (Builtin.append_ #[157, 157] 157 #[v19_49, v25_55]) w27 fun v26_56 w28 =>
  X Try.prog (Builtin.len_ #[157] 3 #[v26_56]) w28 fun v27_57 w29 =>
  B_law20_HomeCrashes_c6 K x0 x1 v27_57 v26_56 v25_55 v24_54 v23_53 v22_52 v21_51 v20_50 v19_49 v18_48 v17_46 v16_45 v15_44 v14_43 v13_41 v11_38 v12_39 v10_37 v4_26 v8_32 v9_33 v7_31 v6_30 v5_29 v3_25 v2_24 v1_22 w29)

/-- cellarage/cellaragelaw20.HomeCrashes -/
def B_law20_HomeCrashes (x0 x1 : Value) (w : World) (K : Value → World → Prop) : Prop :=
  CALL Try.prog 114 #[] w fun v1_22 w1 =>
  X Try.prog (binOp .rem 5 x0 (.int .u8 8)) w1 fun v2_24 w2 =>
  X Try.prog (convert 5 3 v2_24) w2 fun v3_25 w3 =>
  X Try.prog (binOp .add 3 v3_25 (.int .i64 1)) w3 fun v4_26 w4 =>
  X Try.prog (binOp .mul 3 (.int .i64 2) v4_26) w4 fun v5_29 w5 =>
  X Try.prog (binOp .add 3 (.int .i64 2) v5_29) w5 fun v6_30 w6 =>
  CALL Try.prog 69 #[v6_30] w6 fun v7_31 w7 =>
  X Try.prog (Instr.extract v7_31 0) w7 fun v8_32 w8 =>
  X Try.prog (Instr.extract v7_31 1) w8 fun v9_33 w9 =>
  CALL Try.prog 116 #[v8_32, v4_26] w9 fun v10_37 w10 =>
  X Try.prog (Instr.extract v10_37 0) w10 fun v11_38 w11 =>
  X Try.prog (Instr.extract v10_37 1) w11 fun v12_39 w12 =>
  X Try.prog (binOpG .eql 150 (.tmp 40) (.const (.pointer none)) v11_38 (.pointer none)) w12 fun v13_41 w13 =>
  B_law20_HomeCrashes_c7 v13_41 K v12_39 w13 x1 x0 v11_38 v10_37 v4_26 v8_32 v9_33 v7_31 v6_30 v5_29 v3_25 v2_24 v1_22

theorem eq_law20_HomeCrashes (x0 x1 : Value) (w : World) (K : Value → World → Prop) :
    sh Try.prog (Try.f39.body.getD .skip) (retS Try.prog Try.f39.results K) (env0 #[x0, x1]) w = B_law20_HomeCrashes x0 x1 w K := by kernel_rfl

theorem call_law20_HomeCrashes (x0 x1 : Value) (w : World) (K : Value → World → Prop) (h : B_law20_HomeCrashes x0 x1 w K) : CALL Try.prog 39 #[x0, x1] w K :=
  call_of_eq (c := Try.f39.body.getD .skip) mixed Try.func39 (by kernel_rfl) (by kernel_rfl) (by kernel_rfl) (Nat.le_of_ble_eq_true (by kernel_rfl)) (eq_law20_HomeCrashes x0 x1 w K) h

def B_law20_HomePlays_c1 (ρ2 : Env) (w46 : World) (K : Value → World → Prop) (Q1 : Exit → Env → World → Prop) : Prop :=
  ∃ R, Frame? R ∧
  XP Try.prog (nilS (ρ2 11)) (drewW w46) fun v35_161 w47 =>
  XP Try.prog (Instr.fieldAt 148 v35_161 4) w47 fun v36_162 w48 =>
  XR Try.prog R (Instr.loadAt 3 v36_162) w48 fun v37_163 w49 =>
  CALL Try.prog 79 #[(ρ2 9)] w49 fun v38_159 w50 =>
  R w49 w50 ∧
  XP Try.prog (binOpG .neq 3 (.tmp 159) (.tmp 163) v38_159 v37_163) w50 fun v39_164 w51 =>
  gstep v39_164 false (fun w52 K => K (ρ2 9) w52) w51 fun v40_166 w53 =>
  gstep v39_164 false (fun w54 K => K (ρ2 11) w54) w53 fun v41_168 w55 =>
  gstep v39_164 false (fun w56 K => XP Try.prog (nilS v41_168) w56 K) w55 fun v42_169 w57 =>
  gstep v39_164 false (fun w58 K => XP Try.prog (Instr.fieldAt 148 v42_169 2) w58 K) w57 fun v43_170 w59 =>
  gstep v39_164 false (fun w60 K => XR Try.prog R (Instr.loadAt 4 v43_170) w60 K) w59 fun v44_171 w61 =>
  gstep v39_164 false (fun w62 K => CALL Try.prog 76 #[v40_166] w62 K) w61 fun v45_167 w63 =>
  R w61 w63 ∧
  gstep v39_164 false (fun w64 K => XP Try.prog (binOpG .neq 4 (.tmp 167) (.tmp 171) v45_167 v44_171) w64 K) w63 fun v46_172 w65 =>
  XP Try.prog (pickS v39_164 (.bool true) v46_172) w65 fun v47_173 w66 =>
  gstep v47_173 false (fun w67 K => K (ρ2 9) w67) w66 fun v48_175 w68 =>
  gstep v47_173 false (fun w69 K => K (ρ2 11) w69) w68 fun v49_177 w70 =>
  gstep v47_173 false (fun w71 K => XP Try.prog (nilS v49_177) w71 K) w70 fun v50_178 w72 =>
  gstep v47_173 false (fun w73 K => XP Try.prog (Instr.fieldAt 148 v50_178 1) w73 K) w72 fun v51_179 w74 =>
  gstep v47_173 false (fun w75 K => XR Try.prog R (Instr.loadAt 146 v51_179) w75 K) w74 fun v52_180 w76 =>
  gstep v47_173 false (fun w77 K => XP Try.prog (Builtin.len_ #[146] 3 #[v52_180]) w77 K) w76 fun v53_181 w78 =>
  gstep v47_173 false (fun w79 K => CALL Try.prog 77 #[v48_175] w79 K) w78 fun v54_176 w80 =>
  R w78 w80 ∧
  gstep v47_173 false (fun w81 K => XP Try.prog (binOpG .neq 3 (.tmp 176) (.tmp 181) v54_176 v53_181) w81 K) w80 fun v55_182 w82 =>
  XP Try.prog (pickS v47_173 (.bool true) v55_182) w82 fun v56_183 w83 =>
  condS v56_183 (
  Q1 .ret (upds ρ2 [(6, (.bool false)), (183, v56_183), (182, v55_182), (176, v54_176), (181, v53_181), (180, v52_180), (179, v51_179), (178, v50_178), (177, v49_177), (175, v48_175), (174, v47_173), (173, v47_173), (172, v46_172), (167, v45_167), (171, v44_171), (170, v43_170), (169, v42_169), (168, v41_168), (166, v40_166), (165, v39_164), (164, v39_164), (159, v38_159), (163, v37_163), (162, v36_162), (161, v35_161), (160, (ρ2 11)), (158, (ρ2 9))]) w83) (
  X Try.prog (binOp .add 3 (ρ2 76) (.int .i64 1)) w83 fun v57_184 w84 =>
  Q1 .normal (upds ρ2 [(76, v57_184), (184, v57_184), (183, v56_183), (182, v55_182), (176, v54_176), (181, v53_181), (180, v52_180), (179, v51_179), (178, v50_178), (177, v49_177), (175, v48_175), (174, v47_173), (173, v47_173), (172, v46_172), (167, v45_167), (171, v44_171), (170, v43_170), (169, v42_169), (168, v41_168), (166, v40_166), (165, v39_164), (164, v39_164), (159, v38_159), (163, v37_163), (162, v36_162), (161, v35_161), (160, (ρ2 11)), (158, (ρ2 9))]) w84)

def B_law20_HomePlays_c2 (v34_18 : Value) (w88 : World) (ρ1 : Env) (Q1 : Exit → Env → World → Prop) (v61_92 : Value) (v60_82 : Value) (v59_81 : Value) (v58_80 : Value) (v33_79 : Value) (v32_78 : Value) (v31_77 : Value) (J2 : Env → World → Prop) : Prop :=
  ∃ R, Frame? R ∧
  XP Try.prog (Instr.fieldAt 159 v34_18 3) (drewW w88) fun v62_95 w89 =>
  XR Try.prog R (Instr.loadAt 27 v62_95) w89 fun v63_96 w90 =>
  XR Try.prog R (Instr.loadAt 162 (ρ1 15)) w90 fun v64_99 w91 =>
  XP Try.prog (Instr.fieldAt 159 v34_18 3) w91 fun v65_100 w92 =>
  XR Try.prog R (Instr.loadAt 27 v65_100) w92 fun v66_101 w93 =>
  XR Try.prog R (convert 27 9 v66_101) w93 fun v67_102 w94 =>
  X Try.prog (Instr.buildSlice 27 0 #[]) w94 fun v68_94 w95 =>
  R w94 w95 ∧
  X Try.prog (Builtin.append_ #[27, 27] 27 #[v68_94, v63_96]) w95 fun v69_97 w96 =>
  R w95 w96 ∧
  CALL Try.prog 117 #[(ρ1 13), v69_97] w96 fun v70_98 w97 =>
  R w96 w97 ∧
  CALL Try.prog 122 #[v64_99, v67_102] w97 fun v71_103 w98 =>
  R w97 w98 ∧
  XP Try.prog (binOpG .neq 30 (.tmp 98) (.tmp 103) v70_98 v71_103) w98 fun v72_104 w99 =>
  condS v72_104 (
  Q1 .ret (upds ρ1 [(6, (.bool false)), (104, v72_104), (103, v71_103), (98, v70_98), (97, v69_97), (94, v68_94), (102, v67_102), (101, v66_101), (100, v65_100), (99, v64_99), (96, v63_96), (95, v62_95), (93, (ρ1 13)), (91, v61_92), (92, v61_92), (82, v60_82), (81, v59_81), (80, v58_80), (18, v34_18), (79, v33_79), (78, v32_78), (77, v31_77)]) w99) (
  J2 (upds ρ1 [(104, v72_104), (103, v71_103), (98, v70_98), (97, v69_97), (94, v68_94), (102, v67_102), (101, v66_101), (100, v65_100), (99, v64_99), (96, v63_96), (95, v62_95), (93, (ρ1 13)), (91, v61_92), (92, v61_92), (82, v60_82), (81, v59_81), (80, v58_80), (18, v34_18), (79, v33_79), (78, v32_78), (77, v31_77)]) w99)

def B_law20_HomePlays_c3 (v78_114 : Value) (w105 : World) (v75_110 : Value) (K : Value → World → Prop) (v76_111 : Value) (v77_112 : Value) (Q1 : Exit → Env → World → Prop) (ρ1 : Env) (v74_109 : Value) (v73_106 : Value) (v61_92 : Value) (v60_82 : Value) (v59_81 : Value) (v58_80 : Value) (v34_18 : Value) (v33_79 : Value) (v32_78 : Value) (v31_77 : Value) (J2 : Env → World → Prop) : Prop :=
  CALL Try.prog 123 #[v78_114] w105 fun v79_115 w106 =>
  X Try.prog (Instr.extract v79_115 0) w106 fun v80_116 w107 =>
  X Try.prog (Instr.extract v79_115 1) w107 fun v81_117 w108 =>
  X Try.prog (Instr.extract v79_115 2) w108 fun v82_118 w109 =>
  X Try.prog (convert 27 9 v75_110) w109 fun v83_120 w110 =>
  X Try.prog (binOpG .neq 9 (.tmp 120) (.tmp 121) v83_120 v80_116) w110 fun v84_122 w111 =>
  gstep v84_122 false (fun w112 K => K v76_111 w112) w111 fun v85_124 w113 =>
  gstep v84_122 false (fun w114 K => K v81_117 w114) w113 fun v86_125 w115 =>
  gstep v84_122 false (fun w116 K => X Try.prog (binOpG .neq 22 (.tmp 124) (.tmp 125) v85_124 v86_125) w116 K) w115 fun v87_126 w117 =>
  X Try.prog (pickS v84_122 (.bool true) v87_126) w117 fun v88_127 w118 =>
  gstep v88_127 false (fun w119 K => K v77_112 w119) w118 fun v89_129 w120 =>
  gstep v88_127 false (fun w121 K => K v82_118 w121) w120 fun v90_130 w122 =>
  gstep v88_127 false (fun w123 K => X Try.prog (binOpG .neq 30 (.tmp 129) (.tmp 130) v89_129 v90_130) w123 K) w122 fun v91_131 w124 =>
  X Try.prog (pickS v88_127 (.bool true) v91_131) w124 fun v92_132 w125 =>
  condS v92_132 (
  Q1 .ret (upds ρ1 [(6, (.bool false)), (132, v92_132), (131, v91_131), (130, v90_130), (129, v89_129), (128, v88_127), (127, v88_127), (126, v87_126), (125, v86_125), (124, v85_124), (123, v84_122), (122, v84_122), (121, v80_116), (120, v83_120), (119, v75_110), (24, v82_118), (23, v81_117), (22, v80_116), (118, v82_118), (117, v81_117), (116, v80_116), (113, v79_115), (115, v79_115), (114, v78_114), (21, v77_112), (20, v76_111), (19, v75_110), (112, v77_112), (111, v76_111), (110, v75_110), (107, v74_109), (109, v74_109), (108, (ρ1 13)), (105, v73_106), (106, v73_106), (91, v61_92), (92, v61_92), (82, v60_82), (81, v59_81), (80, v58_80), (18, v34_18), (79, v33_79), (78, v32_78), (77, v31_77)]) w125) (
  J2 (upds ρ1 [(132, v92_132), (131, v91_131), (130, v90_130), (129, v89_129), (128, v88_127), (127, v88_127), (126, v87_126), (125, v86_125), (124, v85_124), (123, v84_122), (122, v84_122), (121, v80_116), (120, v83_120), (119, v75_110), (24, v82_118), (23, v81_117), (22, v80_116), (118, v82_118), (117, v81_117), (116, v80_116), (113, v79_115), (115, v79_115), (114, v78_114), (21, v77_112), (20, v76_111), (19, v75_110), (112, v77_112), (111, v76_111), (110, v75_110), (107, v74_109), (109, v74_109), (108, (ρ1 13)), (105, v73_106), (106, v73_106), (91, v61_92), (92, v61_92), (82, v60_82), (81, v59_81), (80, v58_80), (18, v34_18), (79, v33_79), (78, v32_78), (77, v31_77)]) w125)

def B_law20_HomePlays_c4 (v93_134 : Value) (v34_18 : Value) (w126 : World) (ρ1 : Env) (J2 : Env → World → Prop) (v73_106 : Value) (v61_92 : Value) (v60_82 : Value) (v59_81 : Value) (v58_80 : Value) (v33_79 : Value) (v32_78 : Value) (v31_77 : Value) : Prop :=
  condS v93_134 (
  X Try.prog (Instr.fieldAt 159 v34_18 1) w126 fun v94_136 w127 =>
  X Try.prog (Instr.loadAt 3 v94_136) w127 fun v95_137 w128 =>
  X Try.prog (Instr.fieldAt 159 v34_18 3) w128 fun v96_138 w129 =>
  X Try.prog (Instr.loadAt 27 v96_138) w129 fun v97_139 w130 =>
  CALL Try.prog 70 #[(ρ1 9), v95_137, v97_139] w130 fun v98_140 w131 =>
  X Try.prog (Instr.fieldAt 159 v34_18 1) w131 fun v99_142 w132 =>
  X Try.prog (Instr.loadAt 3 v99_142) w132 fun v100_143 w133 =>
  X Try.prog (Instr.fieldAt 159 v34_18 3) w133 fun v101_144 w134 =>
  X Try.prog (Instr.loadAt 27 v101_144) w134 fun v102_145 w135 =>
  X Try.prog (convert 27 9 v102_145) w135 fun v103_146 w136 =>
  CALL Try.prog 109 #[(ρ1 11), v100_143, v103_146] w136 fun v104_147 w137 =>
  J2 (upds ρ1 [(147, v104_147), (146, v103_146), (145, v102_145), (144, v101_144), (143, v100_143), (142, v99_142), (141, (ρ1 11)), (140, v98_140), (139, v97_139), (138, v96_138), (137, v95_137), (136, v94_136), (135, (ρ1 9)), (133, v93_134), (134, v93_134), (105, v73_106), (106, v73_106), (91, v61_92), (92, v61_92), (82, v60_82), (81, v59_81), (80, v58_80), (18, v34_18), (79, v33_79), (78, v32_78), (77, v31_77)]) w137) (
  X Try.prog (binOpG .eql 5 (.tmp 82) (.const (.int .u8 3)) v60_82 (.int .u8 3)) w126 fun v105_149 w138 =>
  condS v105_149 (
  X Try.prog (Instr.fieldAt 159 v34_18 2) w138 fun v106_151 w139 =>
  X Try.prog (Instr.loadAt 3 v106_151) w139 fun v107_152 w140 =>
  CALL Try.prog 78 #[(ρ1 9), v107_152] w140 fun v108_153 w141 =>
  X Try.prog (Instr.fieldAt 159 v34_18 2) w141 fun v109_155 w142 =>
  X Try.prog (Instr.loadAt 3 v109_155) w142 fun v110_156 w143 =>
  CALL Try.prog 111 #[(ρ1 11), v110_156] w143 fun v111_157 w144 =>
  J2 (upds ρ1 [(157, v111_157), (156, v110_156), (155, v109_155), (154, (ρ1 11)), (153, v108_153), (152, v107_152), (151, v106_151), (150, (ρ1 9)), (148, v105_149), (149, v105_149), (133, v93_134), (134, v93_134), (105, v73_106), (106, v73_106), (91, v61_92), (92, v61_92), (82, v60_82), (81, v59_81), (80, v58_80), (18, v34_18), (79, v33_79), (78, v32_78), (77, v31_77)]) w144) (
  X Try.prog (Instr.fieldAt 159 v34_18 4) w138 fun v112_84 w145 =>
  X Try.prog (Instr.loadAt 79 v112_84) w145 fun v113_85 w146 =>
  CALL Try.prog 72 #[(ρ1 9), v113_85] w146 fun v114_86 w147 =>
  X Try.prog (Instr.fieldAt 159 v34_18 4) w147 fun v115_88 w148 =>
  X Try.prog (Instr.loadAt 79 v115_88) w148 fun v116_89 w149 =>
  CALL Try.prog 112 #[(ρ1 11), v116_89] w149 fun v117_90 w150 =>
  J2 (upds ρ1 [(90, v117_90), (89, v116_89), (88, v115_88), (87, (ρ1 11)), (86, v114_86), (85, v113_85), (84, v112_84), (83, (ρ1 9)), (148, v105_149), (149, v105_149), (133, v93_134), (134, v93_134), (105, v73_106), (106, v73_106), (91, v61_92), (92, v61_92), (82, v60_82), (81, v59_81), (80, v58_80), (18, v34_18), (79, v33_79), (78, v32_78), (77, v31_77)]) w150))

def B_law20_HomePlays_c5 (v34_18 : Value) (v33_79 : Value) (w44 : World) (K : Value → World → Prop) (Q1 : Exit → Env → World → Prop) (ρ1 : Env) (v32_78 : Value) (v31_77 : Value) : Prop :=
  XU Try.prog (Instr.storeAt 159 v34_18 v33_79) w44 fun w45 =>
  joinS (fun ρ2 w46 =>
  B_law20_HomePlays_c1 ρ2 w46 K Q1) fun J2 =>
  X Try.prog (Instr.fieldAt 159 v34_18 0) w45 fun v58_80 w85 =>
  X Try.prog (Instr.loadAt 5 v58_80) w85 fun v59_81 w86 =>
  X Try.prog (binOp .rem 5 v59_81 (.int .u8 5)) w86 fun v60_82 w87 =>
  X Try.prog (binOpG .eql 5 (.tmp 82) (.const (.int .u8 0)) v60_82 (.int .u8 0)) w87 fun v61_92 w88 =>
  condS v61_92 (
  B_law20_HomePlays_c2 v34_18 w88 ρ1 Q1 v61_92 v60_82 v59_81 v58_80 v33_79 v32_78 v31_77 J2) (
  X Try.prog (binOpG .eql 5 (.tmp 82) (.const (.int .u8 1)) v60_82 (.int .u8 1)) w88 fun v73_106 w100 =>
  condS v73_106 (
  CALL Try.prog 115 #[(ρ1 13)] w100 fun v74_109 w101 =>
  X Try.prog (Instr.extract v74_109 0) w101 fun v75_110 w102 =>
  X Try.prog (Instr.extract v74_109 1) w102 fun v76_111 w103 =>
  X Try.prog (Instr.extract v74_109 2) w103 fun v77_112 w104 =>
  X Try.prog (Instr.loadAt 162 (ρ1 15)) w104 fun v78_114 w105 =>
  B_law20_HomePlays_c3 v78_114 w105 v75_110 K v76_111 v77_112 Q1 ρ1 v74_109 v73_106 v61_92 v60_82 v59_81 v58_80 v34_18 v33_79 v32_78 v31_77 J2) (
  X Try.prog (binOpG .eql 5 (.tmp 82) (.const (.int .u8 2)) v60_82 (.int .u8 2)) w100 fun v93_134 w126 =>
  B_law20_HomePlays_c4 v93_134 v34_18 w126 ρ1 J2 v73_106 v61_92 v60_82 v59_81 v58_80 v33_79 v32_78 v31_77))

def B_law20_HomePlays_c6 (ρ4 : Env) (w152 : World) (K : Value → World → Prop) (Q4 : Exit → Env → World → Prop) : Prop :=
  X Try.prog (binOp .lss 3 (ρ4 186) (ρ4 185)) w152 fun v118_187 w153 =>
  condS v118_187 (
  CALL Try.prog 73 #[(ρ4 9), (ρ4 186)] w153 fun v119_192 w154 =>
  X Try.prog (Instr.extract v119_192 0) w154 fun v120_193 w155 =>
  X Try.prog (Instr.extract v119_192 1) w155 fun v121_194 w156 =>
  CALL Try.prog 113 #[(ρ4 11), (ρ4 186)] w156 fun v122_198 w157 =>
  X Try.prog (Instr.extract v122_198 0) w157 fun v123_199 w158 =>
  X Try.prog (Instr.extract v122_198 1) w158 fun v124_200 w159 =>
  X Try.prog (convert 27 9 v120_193) w159 fun v125_202 w160 =>
  X Try.prog (binOpG .neq 9 (.tmp 202) (.tmp 203) v125_202 v123_199) w160 fun v126_204 w161 =>
  gstep v126_204 false (fun w162 K => K v121_194 w162) w161 fun v127_206 w163 =>
  gstep v126_204 false (fun w164 K => K v124_200 w164) w163 fun v128_207 w165 =>
  gstep v126_204 false (fun w166 K => X Try.prog (binOpG .neq 30 (.tmp 206) (.tmp 207) v127_206 v128_207) w166 K) w165 fun v129_208 w167 =>
  X Try.prog (pickS v126_204 (.bool true) v129_208) w167 fun v130_209 w168 =>
  condS v130_209 (
  Q4 .ret (upds ρ4 [(6, (.bool false)), (209, v130_209), (208, v129_208), (207, v128_207), (206, v127_206), (205, v126_204), (204, v126_204), (203, v123_199), (202, v125_202), (201, v120_193), (29, v124_200), (28, v123_199), (200, v124_200), (199, v123_199), (195, v122_198), (198, v122_198), (197, (ρ4 186)), (196, (ρ4 11)), (27, v121_194), (26, v120_193), (194, v121_194), (193, v120_193), (189, v119_192), (192, v119_192), (191, (ρ4 186)), (190, (ρ4 9)), (25, (ρ4 186)), (188, (ρ4 186)), (187, v118_187)]) w168) (
  X Try.prog (binOp .add 3 (ρ4 186) (.int .i64 1)) w168 fun v131_210 w169 =>
  Q4 .normal (upds ρ4 [(186, v131_210), (210, v131_210), (209, v130_209), (208, v129_208), (207, v128_207), (206, v127_206), (205, v126_204), (204, v126_204), (203, v123_199), (202, v125_202), (201, v120_193), (29, v124_200), (28, v123_199), (200, v124_200), (199, v123_199), (195, v122_198), (198, v122_198), (197, (ρ4 186)), (196, (ρ4 11)), (27, v121_194), (26, v120_193), (194, v121_194), (193, v120_193), (189, v119_192), (192, v119_192), (191, (ρ4 186)), (190, (ρ4 9)), (25, (ρ4 186)), (188, (ρ4 186)), (187, v118_187)]) w169)) (
  Q4 (.exit 3) (upds ρ4 [(187, v118_187)]) w153)

def B_law20_HomePlays_c7 (v21_62 : Value) (v26_68 : Value) (w35 : World) (K : Value → World → Prop) (v15_55 : Value) (v1_30 : Value) (x2 : Value) (x0 : Value) (x1 : Value) (v25_67 : Value) (v24_66 : Value) (v23_65 : Value) (v22_64 : Value) (v20_61 : Value) (v19_60 : Value) (v18_59 : Value) (v17_57 : Value) (v5_37 : Value) (v16_15 : Value) (v14_54 : Value) (v13_53 : Value) (v8_42 : Value) (v12_49 : Value) (v11_48 : Value) (v10_47 : Value) (v9_43 : Value) (v7_41 : Value) (v3_33 : Value) (v6_38 : Value) (v4_36 : Value) (v2_32 : Value) : Prop :=
  X Try.prog (pickS v21_62 (.bool true) v26_68) w35 fun v27_69 w36 =>
  condS v27_69 (
  K (.bool false) w36) (
  X Try.prog (binOpG .neq 30 (.tmp 70) (.const (.int .i64 0)) v15_55 (.int .i64 0)) w36 fun v28_71 w37 =>
  condS v28_71 (
  K v1_30 w37) (
  CALL Try.prog 120 #[x2] w37 fun v29_74 w38 =>
  X Try.prog (Builtin.len_ #[157] 3 #[v29_74]) w38 fun v30_75 w39 =>
  loopS (fun Q1 ρ1 w40 =>
  X Try.prog (binOp .lss 3 (ρ1 76) (ρ1 75)) w40 fun v31_77 w41 =>
  condS v31_77 (
  X Try.prog (Instr.indexAt 157 (ρ1 74) (ρ1 76)) w41 fun v32_78 w42 =>
  X Try.prog (Instr.loadAt 159 v32_78) w42 fun v33_79 w43 =>
  X Try.prog (Instr.alloc 159 true (.tuple #[])) w43 fun v34_18 w44 =>
  B_law20_HomePlays_c5 v34_18 v33_79 w44 K Q1 ρ1 v32_78 v31_77) (
  Q1 (.exit 0) (upds ρ1 [(77, v31_77)]) w41)) (inBlockS 0 (thenS (fun ρ3 w151 =>
  loopS (fun Q4 ρ4 w152 =>
  B_law20_HomePlays_c6 ρ4 w152 K Q4) (inBlockS 3 (thenS (fun ρ5 w170 =>
  K (ρ5 7) w170) (retS Try.prog (Try.f40).results K))) (upds ρ3 [(186, (.int .i64 0)), (185, (ρ3 8))]) w151) (retS Try.prog (Try.f40).results K))) (upds (env0 #[x0, x1, x2]) [(76, (.int .i64 0)), (75, v30_75), (74, v29_74), (73, x2), (71, v28_71), (70, v15_55), (69, v27_69), (68, v26_68), (67, v25_67), (66, v24_66), (65, v23_65), (64, v22_64), (63, v21_62), (62, v21_62), (61, v20_61), (60, v19_60), (59, v18_59), (58, v17_57), (57, v17_57), (56, v5_37), (16, v15_55), (15, v16_15), (55, v15_55), (54, v14_54), (50, v13_53), (53, v13_53), (52, x1), (51, v8_42), (14, v12_49), (13, v11_48), (49, v12_49), (48, v11_48), (44, v10_47), (47, v10_47), (46, x1), (45, v5_37), (12, v9_43), (11, v8_42), (43, v9_43), (42, v8_42), (39, v7_41), (41, v7_41), (40, v3_33), (10, v6_38), (9, v5_37), (38, v6_38), (37, v5_37), (34, v4_36), (36, v4_36), (35, v3_33), (8, v3_33), (33, v3_33), (32, v2_32), (31, x0), (7, v1_30), (30, v1_30), (6, (.bool false))]) w39))

def B_law20_HomePlays_c8 (v10_47 : Value) (w11 : World) (v8_42 : Value) (x1 : Value) (v5_37 : Value) (K : Value → World → Prop) (v11_48 : Value) (v1_30 : Value) (x2 : Value) (x0 : Value) (v9_43 : Value) (v7_41 : Value) (v3_33 : Value) (v6_38 : Value) (v4_36 : Value) (v2_32 : Value) : Prop :=
  X Try.prog (Instr.extract v10_47 1) w11 fun v12_49 w12 =>
  CALL Try.prog 121 #[v8_42, x1] w12 fun v13_53 w13 =>
  X Try.prog (Instr.extract v13_53 0) w13 fun v14_54 w14 =>
  X Try.prog (Instr.extract v13_53 1) w14 fun v15_55 w15 =>
  X Try.prog (Instr.alloc 162 true (.tuple #[])) w15 fun v16_15 w16 =>
  XU Try.prog (Instr.storeAt 162 v16_15 v14_54) w16 fun w17 =>
  X Try.prog (binOpG .eql 74 (.tmp 56) (.const (.pointer none)) v5_37 (.pointer none)) w17 fun v17_57 w18 =>
  gstep v17_57 false (fun w19 K => K v12_49 w19) w18 fun v18_59 w20 =>
  gstep v17_57 false (fun w21 K => K v15_55 w21) w20 fun v19_60 w22 =>
  gstep v17_57 false (fun w23 K => X Try.prog (binOpG .neq 30 (.tmp 59) (.tmp 60) v18_59 v19_60) w23 K) w22 fun v20_61 w24 =>
  X Try.prog (pickS v17_57 (.bool true) v20_61) w24 fun v21_62 w25 =>
  gstep v21_62 false (fun w26 K => K v11_48 w26) w25 fun v22_64 w27 =>
  gstep v21_62 false (fun w28 K => X Try.prog (binOpG .neq 150 (.tmp 64) (.const (.pointer none)) v22_64 (.pointer none)) w28 K) w27 fun v23_65 w29 =>
  gstep v21_62 false (fun w30 K => K v15_55 w30) w29 fun v24_66 w31 =>
  gstep v21_62 false (fun w32 K => X Try.prog (binOpG .eql 30 (.tmp 66) (.const (.int .i64 0)) v24_66 (.int .i64 0)) w32 K) w31 fun v25_67 w33 =>
  gstep v21_62 false (fun w34 K => X Try.prog (binOpG .neq 4 (.tmp 65) (.tmp 67) v23_65 v25_67) w34 K) w33 fun v26_68 w35 =>
  B_law20_HomePlays_c7 v21_62 v26_68 w35 K v15_55 v1_30 x2 x0 x1 v25_67 v24_66 v23_65 v22_64 v20_61 v19_60 v18_59 v17_57 v5_37 v16_15 v14_54 v13_53 v8_42 v12_49 v11_48 v10_47 v9_43 v7_41 v3_33 v6_38 v4_36 v2_32

/-- cellarage/cellaragelaw20.HomePlays -/
def B_law20_HomePlays (x0 x1 x2 : Value) (w : World) (K : Value → World → Prop) : Prop :=
  CALL Try.prog 114 #[] w fun v1_30 w1 =>
  X Try.prog (binOp .rem 5 x0 (.int .u8 61)) w1 fun v2_32 w2 =>
  X Try.prog (convert 5 3 v2_32) w2 fun v3_33 w3 =>
  CALL Try.prog 69 #[v3_33] w3 fun v4_36 w4 =>
  X Try.prog (Instr.extract v4_36 0) w4 fun v5_37 w5 =>
  X Try.prog (Instr.extract v4_36 1) w5 fun v6_38 w6 =>
  CALL Try.prog 80 #[v3_33] w6 fun v7_41 w7 =>
  X Try.prog (Instr.extract v7_41 0) w7 fun v8_42 w8 =>
  X Try.prog (Instr.extract v7_41 1) w8 fun v9_43 w9 =>
  CALL Try.prog 116 #[v5_37, x1] w9 fun v10_47 w10 =>
  X Try.prog (Instr.extract v10_47 0) w10 fun v11_48 w11 =>
  B_law20_HomePlays_c8 v10_47 w11 v8_42 x1 v5_37 K v11_48 v1_30 x2 x0 v9_43 v7_41 v3_33 v6_38 v4_36 v2_32

theorem eq_law20_HomePlays (x0 x1 x2 : Value) (w : World) (K : Value → World → Prop) :
    sh Try.prog (Try.f40.body.getD .skip) (retS Try.prog Try.f40.results K) (env0 #[x0, x1, x2]) w = B_law20_HomePlays x0 x1 x2 w K := by kernel_rfl

theorem call_law20_HomePlays (x0 x1 x2 : Value) (w : World) (K : Value → World → Prop) (h : B_law20_HomePlays x0 x1 x2 w K) : CALL Try.prog 40 #[x0, x1, x2] w K :=
  call_of_eq (c := Try.f40.body.getD .skip) mixed Try.func40 (by kernel_rfl) (by kernel_rfl) (by kernel_rfl) (Nat.le_of_ble_eq_true (by kernel_rfl)) (eq_law20_HomePlays x0 x1 x2 w K) h

end Go.Proofs.Ytggggfcgnkllgaa
end
section
/- From a call's contract to a law's row: the last two facts. -/
namespace Go.Proofs.Ytggggfcgnkllgaa
open Go Go.Sh
theorem CALL_calls {P : Program} {f : FuncId} {args : Array Value} {w : World} {K : Value → World → Prop} (h : CALL P f args w K) :
    Calls P f args w (fun | .returned v, w' => K v w' | _, _ => False) := h.2
theorem laidOut : laidOutB Try.prog = true := by kernel_rfl
end Go.Proofs.Ytggggfcgnkllgaa
end
section
/- Three facts of the whole program that the kernel cannot reckon head-on: what the first words of the order say. -/
set_option linter.constructorNameAsVariable false
namespace Go.Proofs.Ytggggfcgnkllgaa
open Go Go.Sh Go.RowKit

theorem words_cons (c : Char) (hc : c ≠ Char.ofNat 32) (r : List Char) : wordsSigns (c :: r) = match wordsSigns r with | w :: ws => (c :: w) :: ws | [] => [[c]] := by
  rw [wordsSigns.eq_def]
  split
  · rename_i h; cases h
  · rename_i h; injection h with h1 h2; exact absurd h1 hc
  · rename_i c' r' _ h
    injection h with h1 h2
    subst h1; subst h2
    rfl
theorem words_append : ∀ (u r : List Char), (∀ c ∈ u, c ≠ Char.ofNat 32) → wordsSigns (u ++ Char.ofNat 32 :: r) = u :: wordsSigns r
  | [], r, _ => by rw [List.nil_append, wordsSigns.eq_def]; rfl
  | c :: u, r, h => by
    rw [List.cons_append, words_cons c (h c (by simp)), words_append u r (fun x hx => h x (by simp [hx]))]

theorem words_are : ∃ ws, wordsSigns Try.prog.initOrder.toList = "harness".toList :: "62f34890e3c06fe2011e3a1f7b1d35cb61325f7f5314e4ae60b96fccc44d6865".toList :: "cut".toList :: ws := by
  have h : Try.prog.initOrder = "harness" ++ " " ++ "62f34890e3c06fe2011e3a1f7b1d35cb61325f7f5314e4ae60b96fccc44d6865" ++ " " ++ "cut" ++ " " ++ "at cellarage/cellaragelaw10.SlotLays cellarage/cellaragelaw10.SlotTakes cellarage/cellaragelaw10.SlotBack cellarage/cellaragelaw10.SlotTorn cellarage/cellaragelaw01.CodecOrder cellarage/cellaragelaw10.SlotNewer cellarage/cellaragelaw10.SlotCommits cellarage/cellaragelaw02.CrcSums cellarage/cellaragelaw02.CrcSeals cellarage/cellaragelaw02.CrcGoes cellarage/cellaragelaw02.CrcTells cellarage/cellaragelaw02.CrcBack cellarage/cellaragelaw02.CrcLinear cellarage/cellaragelaw01.CodecTakes cellarage/cellaragelaw01.CodecBack cellarage/cellaragelaw01.CodecShort cellarage/cellaragelaw01.CodecNil cellarage/cellaragelaw08.DiskTorn cellarage/cellaragelaw08.DiskSafe cellarage/cellaragelaw08.DiskFlush cellarage/cellaragelaw08.DiskCuts cellarage/cellaragelaw08.DiskPlays cellarage/cellaragelaw08.DiskNil cellarage/cellaragelaw11.ContLays cellarage/cellaragelaw11.ContBack cellarage/cellaragelaw11.ContOnce cellarage/cellaragelaw11.ContTurned cellarage/cellaragelaw11.ContOwn cellarage/cellaragelaw11.ContTakes cellarage/cellaragelaw12.VaultBack cellarage/cellaragelaw12.VaultShelves cellarage/cellaragelaw12.VaultNil cellarage/cellaragelaw12.VaultPlays cellarage/cellaragelaw20.HomeNil cellarage/cellaragelaw20.HomeBack cellarage/cellaragelaw20.HomeOps cellarage/cellaragelaw20.HomeCrashes cellarage/cellaragelaw20.HomePlays" := by kernel_rfl
  rw [h]
  simp only [String.toList_append, List.append_assoc]
  refine ⟨wordsSigns ("at cellarage/cellaragelaw10.SlotLays cellarage/cellaragelaw10.SlotTakes cellarage/cellaragelaw10.SlotBack cellarage/cellaragelaw10.SlotTorn cellarage/cellaragelaw01.CodecOrder cellarage/cellaragelaw10.SlotNewer cellarage/cellaragelaw10.SlotCommits cellarage/cellaragelaw02.CrcSums cellarage/cellaragelaw02.CrcSeals cellarage/cellaragelaw02.CrcGoes cellarage/cellaragelaw02.CrcTells cellarage/cellaragelaw02.CrcBack cellarage/cellaragelaw02.CrcLinear cellarage/cellaragelaw01.CodecTakes cellarage/cellaragelaw01.CodecBack cellarage/cellaragelaw01.CodecShort cellarage/cellaragelaw01.CodecNil cellarage/cellaragelaw08.DiskTorn cellarage/cellaragelaw08.DiskSafe cellarage/cellaragelaw08.DiskFlush cellarage/cellaragelaw08.DiskCuts cellarage/cellaragelaw08.DiskPlays cellarage/cellaragelaw08.DiskNil cellarage/cellaragelaw11.ContLays cellarage/cellaragelaw11.ContBack cellarage/cellaragelaw11.ContOnce cellarage/cellaragelaw11.ContTurned cellarage/cellaragelaw11.ContOwn cellarage/cellaragelaw11.ContTakes cellarage/cellaragelaw12.VaultBack cellarage/cellaragelaw12.VaultShelves cellarage/cellaragelaw12.VaultNil cellarage/cellaragelaw12.VaultPlays cellarage/cellaragelaw20.HomeNil cellarage/cellaragelaw20.HomeBack cellarage/cellaragelaw20.HomeOps cellarage/cellaragelaw20.HomeCrashes cellarage/cellaragelaw20.HomePlays".toList), ?_⟩
  have e : " ".toList = [Char.ofNat 32] := by kernel_rfl
  rw [e]
  simp only [List.singleton_append]
  rw [words_append _ _ (by decide), words_append _ _ (by decide), words_append _ _ (by decide)]


theorem head_is : ∃ ws, behindMainWord (wordsSigns Try.prog.initOrder.toList) = "cut".toList :: ws := by
  obtain ⟨ws, h⟩ := words_are
  rw [h]
  exact ⟨ws, by kernel_rfl⟩
theorem laysLater_is : Try.prog.laysLater = false := by kernel_rfl
theorem bearsReflect_is : Try.prog.bearsReflect = false := by kernel_rfl
theorem doorRows_is : Try.prog.doorRows = [] := by kernel_rfl
section
variable {P : Program} {ws : List (List Char)}
theorem make_of (h : behindMainWord (wordsSigns P.initOrder.toList) = "cut".toList :: ws) : P.make = some .cut := by
  unfold Program.make
  rw [h]
  kernel_rfl
theorem headLifts_of (h : behindMainWord (wordsSigns P.initOrder.toList) = "cut".toList :: ws) : P.headLifts = [] := by
  unfold Program.headLifts
  rw [h]
  kernel_rfl
theorem liftsFinal_of (h : behindMainWord (wordsSigns P.initOrder.toList) = "cut".toList :: ws) : P.liftsFinal = false := by
  unfold Program.liftsFinal
  rw [headLifts_of h, h]
  kernel_rfl
theorem mayEnter_of (h : behindMainWord (wordsSigns P.initOrder.toList) = "cut".toList :: ws) (h1 : P.laysLater = false) (h2 : P.bearsReflect = false) (h3 : P.doorRows = []) : P.mayEnter = true := by
  unfold Program.mayEnter Program.doorFits
  rw [h, h1, h2, h3]
  kernel_rfl
end
theorem mayEnter_is : Try.prog.mayEnter = true := by
  obtain ⟨ws, h⟩ := head_is
  exact mayEnter_of h laysLater_is bearsReflect_is doorRows_is
theorem liftsFinal_is : Try.prog.liftsFinal = false := by
  obtain ⟨ws, h⟩ := head_is
  exact liftsFinal_of h
theorem make_is : Try.prog.make = some .cut := by
  obtain ⟨ws, h⟩ := head_is
  exact make_of h
end Go.Proofs.Ytggggfcgnkllgaa
end
