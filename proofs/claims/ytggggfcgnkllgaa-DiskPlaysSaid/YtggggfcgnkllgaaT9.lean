import Derived.Test.YtggggfcgnkllgaaTy
import Derived.Test.YtggggfcgnkllgaaShSound
set_option linter.unusedVariables false
namespace Go.Proofs.Ytggggfcgnkllgaa
open Go Go.Sh
attribute [local irreducible] X XU XP XR CALL loopS resC closS
/-- cellarage/cellaragelaw08.DiskTorn -/
def B_law08_DiskTorn (x0 x1 x2 : Value) (w : World) (K : Value → World → Prop) : Prop :=
  X Try.prog (Instr.box 73 x0) w fun v1_3 w1 =>
  X Try.prog (Instr.box 73 x1) w1 fun v2_4 w2 =>
  CALL Try.prog 68 #[] w2 fun v3_13 w3 =>
  CALL Try.prog 69 #[(.int .i64 3)] w3 fun v4_15 w4 =>
  X Try.prog (Instr.extract v4_15 0) w4 fun v5_16 w5 =>
  X Try.prog (Instr.extract v4_15 1) w5 fun v6_17 w6 =>
  X Try.prog (binOpG .neq 30 (.tmp 18) (.const (.int .i64 0)) v6_17 (.int .i64 0)) w6 fun v7_19 w7 =>
  gstep v7_19 false (fun w8 K => K v5_16 w8) w7 fun v8_21 w9 =>
  gstep v7_19 false (fun w10 K => X Try.prog (binOpG .eql 74 (.tmp 21) (.const (.pointer none)) v8_21 (.pointer none)) w10 K) w9 fun v9_22 w11 =>
  X Try.prog (pickS v7_19 (.bool true) v9_22) w11 fun v10_23 w12 =>
  gstep v10_23 false (fun w13 K => K v5_16 w13) w12 fun v11_25 w14 =>
  gstep v10_23 false (fun w15 K => X Try.prog (Instr.sliceAt 73 v1_3 none none none) w15 K) w14 fun v12_26 w16 =>
  gstep v10_23 false (fun w17 K => CALL Try.prog 70 #[v11_25, (.int .i64 1), v12_26] w17 K) w16 fun v13_27 w18 =>
  gstep v10_23 false (fun w19 K => X Try.prog (binOpG .neq 30 (.tmp 27) (.const (.int .i64 0)) v13_27 (.int .i64 0)) w19 K) w18 fun v14_28 w20 =>
  X Try.prog (pickS v10_23 (.bool true) v14_28) w20 fun v15_29 w21 =>
  gstep v15_29 false (fun w22 K => K v5_16 w22) w21 fun v16_31 w23 =>
  gstep v15_29 false (fun w24 K => CALL Try.prog 71 #[v16_31] w24 K) w23 fun v17_32 w25 =>
  gstep v15_29 false (fun w26 K => X Try.prog (binOpG .neq 30 (.tmp 32) (.const (.int .i64 0)) v17_32 (.int .i64 0)) w26 K) w25 fun v18_33 w27 =>
  X Try.prog (pickS v15_29 (.bool true) v18_33) w27 fun v19_34 w28 =>
  gstep v19_34 false (fun w29 K => K v5_16 w29) w28 fun v20_36 w30 =>
  gstep v19_34 false (fun w31 K => X Try.prog (Instr.sliceAt 73 v2_4 none none none) w31 K) w30 fun v21_37 w32 =>
  gstep v19_34 false (fun w33 K => CALL Try.prog 70 #[v20_36, (.int .i64 1), v21_37] w33 K) w32 fun v22_38 w34 =>
  gstep v19_34 false (fun w35 K => X Try.prog (binOpG .neq 30 (.tmp 38) (.const (.int .i64 0)) v22_38 (.int .i64 0)) w35 K) w34 fun v23_39 w36 =>
  X Try.prog (pickS v19_34 (.bool true) v23_39) w36 fun v24_40 w37 =>
  condS v24_40 (
  K (.bool false) w37) (
  X Try.prog (Instr.buildSlice 79 1 #[(0, x2)]) w37 fun v25_43 w38 =>
  CALL Try.prog 72 #[v5_16, v25_43] w38 fun v26_44 w39 =>
  CALL Try.prog 73 #[v5_16, (.int .i64 1)] w39 fun v27_47 w40 =>
  X Try.prog (Instr.extract v27_47 0) w40 fun v28_48 w41 =>
  X Try.prog (Instr.extract v27_47 1) w41 fun v29_49 w42 =>
  X Try.prog (binOpG .neq 30 (.tmp 50) (.const (.int .i64 0)) v29_49 (.int .i64 0)) w42 fun v30_51 w43 =>
  gstep v30_51 false (fun w44 K => K v28_48 w44) w43 fun v31_53 w45 =>
  gstep v30_51 false (fun w46 K => X Try.prog (Builtin.len_ #[27] 3 #[v31_53]) w46 K) w45 fun v32_54 w47 =>
  gstep v30_51 false (fun w48 K => X Try.prog (binOpG .neq 3 (.tmp 54) (.const (.int .i64 128)) v32_54 (.int .i64 128)) w48 K) w47 fun v33_55 w49 =>
  X Try.prog (pickS v30_51 (.bool true) v33_55) w49 fun v34_56 w50 =>
  condS v34_56 (
  K (.bool false) w50) (
  X Try.prog (Builtin.min_ #[3, 3] 3 #[x2, (.int .i64 128)]) w50 fun v35_58 w51 =>
  X Try.prog (Builtin.max_ #[3, 3] 3 #[(.int .i64 0), v35_58]) w51 fun v36_59 w52 =>
  ∃ R, Frame? R ∧
  gstep v3_13 true (fun w53 K => K v28_48 w53) (drewW w52) fun v37_62 w54 =>
  gstep v3_13 true (fun w55 K => XR Try.prog R (convert 27 9 v37_62) w55 K) w54 fun v38_63 w56 =>
  gstep v3_13 true (fun w57 K => K v36_59 w57) w56 fun v39_64 w58 =>
  gstep v3_13 true (fun w59 K => XP Try.prog (Instr.sliceAt 73 v2_4 none (some v39_64) none) w59 K) w58 fun v40_65 w60 =>
  gstep v3_13 true (fun w61 K => XR Try.prog R (convert 27 9 v40_65) w61 K) w60 fun v41_66 w62 =>
  gstep v3_13 true (fun w63 K => K v36_59 w63) w62 fun v42_67 w64 =>
  gstep v3_13 true (fun w65 K => XP Try.prog (Instr.sliceAt 73 v1_3 (some v42_67) none none) w65 K) w64 fun v43_68 w66 =>
  gstep v3_13 true (fun w67 K => XR Try.prog R (convert 27 9 v43_68) w67 K) w66 fun v44_69 w68 =>
  gstep v3_13 true (fun w69 K => XP Try.prog (binOp .add 9 v41_66 v44_69) w69 K) w68 fun v45_70 w70 =>
  gstep v3_13 true (fun w71 K => XP Try.prog (binOpG .eql 9 (.tmp 63) (.tmp 70) v38_63 v45_70) w71 K) w70 fun v46_71 w72 =>
  XP Try.prog (pickS v3_13 v46_71 (.bool false)) w72 fun v47_72 w73 =>
  K v47_72 w73))

theorem eq_law08_DiskTorn (x0 x1 x2 : Value) (w : World) (K : Value → World → Prop) :
    sh Try.prog (Try.f20.body.getD .skip) (retS Try.prog Try.f20.results K) (env0 #[x0, x1, x2]) w = B_law08_DiskTorn x0 x1 x2 w K := by kernel_rfl

theorem call_law08_DiskTorn (x0 x1 x2 : Value) (w : World) (K : Value → World → Prop) (h : B_law08_DiskTorn x0 x1 x2 w K) : CALL Try.prog 20 #[x0, x1, x2] w K :=
  call_of_eq (c := Try.f20.body.getD .skip) mixed Try.func20 (by kernel_rfl) (by kernel_rfl) (by kernel_rfl) (Nat.le_of_ble_eq_true (by kernel_rfl)) (eq_law08_DiskTorn x0 x1 x2 w K) h

/-- cellarage/cellaragelaw08.DiskSafe -/
def B_law08_DiskSafe (x0 x1 : Value) (w : World) (K : Value → World → Prop) : Prop :=
  CALL Try.prog 68 #[] w fun v1_16 w1 =>
  CALL Try.prog 69 #[(.int .i64 20)] w1 fun v2_18 w2 =>
  X Try.prog (Instr.extract v2_18 0) w2 fun v3_19 w3 =>
  X Try.prog (Instr.extract v2_18 1) w3 fun v4_20 w4 =>
  X Try.prog (binOpG .neq 30 (.tmp 21) (.const (.int .i64 0)) v4_20 (.int .i64 0)) w4 fun v5_22 w5 =>
  gstep v5_22 false (fun w6 K => K v3_19 w6) w5 fun v6_24 w7 =>
  gstep v5_22 false (fun w8 K => X Try.prog (binOpG .eql 74 (.tmp 24) (.const (.pointer none)) v6_24 (.pointer none)) w8 K) w7 fun v7_25 w9 =>
  X Try.prog (pickS v5_22 (.bool true) v7_25) w9 fun v8_26 w10 =>
  condS v8_26 (
  K (.bool false) w10) (
  X Try.prog (convert 5 3 x1) w10 fun v9_28 w11 =>
  X Try.prog (binOp .rem 3 v9_28 (.int .i64 20)) w11 fun v10_29 w12 =>
  CALL Try.prog 74 #[x0] w12 fun v11_31 w13 =>
  X Try.prog (Builtin.len_ #[83] 3 #[v11_31]) w13 fun v12_32 w14 =>
  loopS (fun Q1 ρ1 w15 =>
  X Try.prog (binOp .lss 3 (ρ1 33) (ρ1 32)) w15 fun v13_34 w16 =>
  condS v13_34 (
  joinS (fun ρ2 w17 =>
  X Try.prog (binOp .add 3 (ρ2 33) (.int .i64 1)) w17 fun v14_96 w18 =>
  Q1 .normal (upds ρ2 [(33, v14_96), (96, v14_96)]) w18) fun J2 =>
  X Try.prog (Instr.indexAt 83 (ρ1 31) (ρ1 33)) w16 fun v15_35 w19 =>
  X Try.prog (Instr.loadAt 86 v15_35) w19 fun v16_36 w20 =>
  X Try.prog (Instr.alloc 86 true (.tuple #[])) w20 fun v17_11 w21 =>
  XU Try.prog (Instr.storeAt 86 v17_11 v16_36) w21 fun w22 =>
  joinS (fun ρ3 w23 =>
  CALL Try.prog 73 #[(ρ3 6), (ρ3 8)] w23 fun v18_50 w24 =>
  X Try.prog (Instr.extract v18_50 0) w24 fun v19_51 w25 =>
  X Try.prog (Instr.extract v18_50 1) w25 fun v20_52 w26 =>
  joinS (fun ρ4 w27 =>
  CALL Try.prog 73 #[(ρ4 6), (ρ4 8)] w27 fun v21_66 w28 =>
  X Try.prog (Instr.extract v21_66 0) w28 fun v22_67 w29 =>
  X Try.prog (Instr.extract v21_66 1) w29 fun v23_68 w30 =>
  X Try.prog (Instr.fieldAt 86 (ρ4 11) 0) w30 fun v24_69 w31 =>
  X Try.prog (Instr.loadAt 5 v24_69) w31 fun v25_70 w32 =>
  X Try.prog (binOp .rem 5 v25_70 (.int .u8 5)) w32 fun v26_71 w33 =>
  X Try.prog (binOpG .eql 5 (.tmp 71) (.const (.int .u8 3)) v26_71 (.int .u8 3)) w33 fun v27_72 w34 =>
  gstep v27_72 true (fun w35 K => K (ρ4 9) w35) w34 fun v28_74 w36 =>
  gstep v27_72 true (fun w37 K => X Try.prog (Op.unary .not v28_74) w37 K) w36 fun v29_75 w38 =>
  X Try.prog (pickS v27_72 v29_75 (.bool false)) w38 fun v30_76 w39 =>
  gstep v30_76 true (fun w40 K => K (ρ4 13) w40) w39 fun v31_78 w41 =>
  gstep v30_76 true (fun w42 K => X Try.prog (binOpG .eql 30 (.tmp 78) (.const (.int .i64 0)) v31_78 (.int .i64 0)) w42 K) w41 fun v32_79 w43 =>
  X Try.prog (pickS v30_76 v32_79 (.bool false)) w43 fun v33_80 w44 =>
  gstep v33_80 true (fun w45 K => K v23_68 w45) w44 fun v34_82 w46 =>
  gstep v33_80 true (fun w47 K => X Try.prog (binOpG .neq 30 (.tmp 82) (.const (.int .i64 0)) v34_82 (.int .i64 0)) w47 K) w46 fun v35_83 w48 =>
  gstep v33_80 true (fun w49 K => K v35_83 w49) w48 fun v36_84 w50 =>
  gstep v36_84 false (fun w51 K => K (ρ4 12) w51) w50 fun v37_85 w52 =>
  gstep v36_84 false (fun w53 K => X Try.prog (convert 27 9 v37_85) w53 K) w52 fun v38_86 w54 =>
  gstep v36_84 false (fun w55 K => K v22_67 w55) w54 fun v39_87 w56 =>
  gstep v36_84 false (fun w57 K => X Try.prog (convert 27 9 v39_87) w57 K) w56 fun v40_88 w58 =>
  gstep v36_84 false (fun w59 K => X Try.prog (binOpG .neq 9 (.tmp 86) (.tmp 88) v38_86 v40_88) w59 K) w58 fun v41_89 w60 =>
  gstep v33_80 true (fun w61 K => X Try.prog (pickS v36_84 (.bool true) v41_89) w61 K) w60 fun v42_90 w62 =>
  X Try.prog (pickS v33_80 v42_90 (.bool false)) w62 fun v43_91 w63 =>
  condS v43_91 (
  Q1 .ret (upds ρ4 [(4, (.bool false)), (91, v43_91), (90, v42_90), (89, v41_89), (88, v40_88), (87, v39_87), (86, v38_86), (85, v37_85), (84, v36_84), (83, v35_83), (82, v34_82), (81, v33_80), (80, v33_80), (79, v32_79), (78, v31_78), (77, v30_76), (76, v30_76), (75, v29_75), (74, v28_74), (73, v27_72), (72, v27_72), (71, v26_71), (70, v25_70), (69, v24_69), (15, v23_68), (14, v22_67), (68, v23_68), (67, v22_67), (63, v21_66), (66, v21_66), (65, (ρ4 8)), (64, (ρ4 6))]) w63) (
  X Try.prog (Instr.fieldAt 86 (ρ4 11) 0) w63 fun v44_92 w64 =>
  X Try.prog (Instr.loadAt 5 v44_92) w64 fun v45_93 w65 =>
  X Try.prog (binOp .rem 5 v45_93 (.int .u8 5)) w65 fun v46_94 w66 =>
  X Try.prog (binOpG .eql 5 (.tmp 94) (.const (.int .u8 3)) v46_94 (.int .u8 3)) w66 fun v47_95 w67 =>
  condS v47_95 (
  J2 (upds ρ4 [(9, (.bool false)), (95, v47_95), (94, v46_94), (93, v45_93), (92, v44_92), (91, v43_91), (90, v42_90), (89, v41_89), (88, v40_88), (87, v39_87), (86, v38_86), (85, v37_85), (84, v36_84), (83, v35_83), (82, v34_82), (81, v33_80), (80, v33_80), (79, v32_79), (78, v31_78), (77, v30_76), (76, v30_76), (75, v29_75), (74, v28_74), (73, v27_72), (72, v27_72), (71, v26_71), (70, v25_70), (69, v24_69), (15, v23_68), (14, v22_67), (68, v23_68), (67, v22_67), (63, v21_66), (66, v21_66), (65, (ρ4 8)), (64, (ρ4 6))]) w67) (
  J2 (upds ρ4 [(95, v47_95), (94, v46_94), (93, v45_93), (92, v44_92), (91, v43_91), (90, v42_90), (89, v41_89), (88, v40_88), (87, v39_87), (86, v38_86), (85, v37_85), (84, v36_84), (83, v35_83), (82, v34_82), (81, v33_80), (80, v33_80), (79, v32_79), (78, v31_78), (77, v30_76), (76, v30_76), (75, v29_75), (74, v28_74), (73, v27_72), (72, v27_72), (71, v26_71), (70, v25_70), (69, v24_69), (15, v23_68), (14, v22_67), (68, v23_68), (67, v22_67), (63, v21_66), (66, v21_66), (65, (ρ4 8)), (64, (ρ4 6))]) w67))) fun J4 =>
  X Try.prog (Instr.loadAt 86 (ρ3 11)) w26 fun v48_54 w68 =>
  CALL Try.prog 75 #[(ρ3 6), v48_54] w68 fun v49_55 w69 =>
  X Try.prog (binOpG .eql 30 (.tmp 55) (.const (.int .i64 0)) v49_55 (.int .i64 0)) w69 fun v50_56 w70 =>
  gstep v50_56 true (fun w71 K => X Try.prog (Instr.fieldAt 86 (ρ3 11) 0) w71 K) w70 fun v51_58 w72 =>
  gstep v50_56 true (fun w73 K => X Try.prog (Instr.loadAt 5 v51_58) w73 K) w72 fun v52_59 w74 =>
  gstep v50_56 true (fun w75 K => X Try.prog (binOp .rem 5 v52_59 (.int .u8 5)) w75 K) w74 fun v53_60 w76 =>
  gstep v50_56 true (fun w77 K => X Try.prog (binOpG .eql 5 (.tmp 60) (.const (.int .u8 1)) v53_60 (.int .u8 1)) w77 K) w76 fun v54_61 w78 =>
  X Try.prog (pickS v50_56 v54_61 (.bool false)) w78 fun v55_62 w79 =>
  condS v55_62 (
  J4 (upds ρ3 [(9, (.bool false)), (62, v55_62), (61, v54_61), (60, v53_60), (59, v52_59), (58, v51_58), (57, v50_56), (56, v50_56), (55, v49_55), (54, v48_54), (53, (ρ3 6)), (13, v20_52), (12, v19_51), (52, v20_52), (51, v19_51), (47, v18_50), (50, v18_50), (49, (ρ3 8)), (48, (ρ3 6))]) w79) (
  J4 (upds ρ3 [(62, v55_62), (61, v54_61), (60, v53_60), (59, v52_59), (58, v51_58), (57, v50_56), (56, v50_56), (55, v49_55), (54, v48_54), (53, (ρ3 6)), (13, v20_52), (12, v19_51), (52, v20_52), (51, v19_51), (47, v18_50), (50, v18_50), (49, (ρ3 8)), (48, (ρ3 6))]) w79)) fun J3 =>
  X Try.prog (Instr.fieldAt 86 v17_11 0) w22 fun v56_37 w80 =>
  X Try.prog (Instr.loadAt 5 v56_37) w80 fun v57_38 w81 =>
  X Try.prog (binOp .rem 5 v57_38 (.int .u8 5)) w81 fun v58_39 w82 =>
  X Try.prog (binOpG .eql 5 (.tmp 39) (.const (.int .u8 0)) v58_39 (.int .u8 0)) w82 fun v59_40 w83 =>
  gstep v59_40 true (fun w84 K => X Try.prog (Instr.fieldAt 86 v17_11 1) w84 K) w83 fun v60_42 w85 =>
  gstep v59_40 true (fun w86 K => X Try.prog (Instr.loadAt 3 v60_42) w86 K) w85 fun v61_43 w87 =>
  gstep v59_40 true (fun w88 K => K (ρ1 8) w88) w87 fun v62_44 w89 =>
  gstep v59_40 true (fun w90 K => X Try.prog (binOpG .eql 3 (.tmp 43) (.tmp 44) v61_43 v62_44) w90 K) w89 fun v63_45 w91 =>
  X Try.prog (pickS v59_40 v63_45 (.bool false)) w91 fun v64_46 w92 =>
  condS v64_46 (
  J3 (upds ρ1 [(9, (.bool true)), (46, v64_46), (45, v63_45), (44, v62_44), (43, v61_43), (42, v60_42), (41, v59_40), (40, v59_40), (39, v58_39), (38, v57_38), (37, v56_37), (11, v17_11), (36, v16_36), (35, v15_35), (34, v13_34)]) w92) (
  J3 (upds ρ1 [(46, v64_46), (45, v63_45), (44, v62_44), (43, v61_43), (42, v60_42), (41, v59_40), (40, v59_40), (39, v58_39), (38, v57_38), (37, v56_37), (11, v17_11), (36, v16_36), (35, v15_35), (34, v13_34)]) w92)) (
  Q1 (.exit 0) (upds ρ1 [(34, v13_34)]) w16)) (inBlockS 0 (thenS (fun ρ5 w93 =>
  K (ρ5 5) w93) (retS Try.prog (Try.f21).results K))) (upds (env0 #[x0, x1]) [(33, (.int .i64 0)), (32, v12_32), (31, v11_31), (30, x0), (9, (.bool false)), (8, v10_29), (29, v10_29), (28, v9_28), (27, x1), (26, v8_26), (25, v7_25), (24, v6_24), (23, v5_22), (22, v5_22), (21, v4_20), (7, v4_20), (6, v3_19), (20, v4_20), (19, v3_19), (17, v2_18), (18, v2_18), (5, v1_16), (16, v1_16), (4, (.bool false))]) w14)

theorem eq_law08_DiskSafe (x0 x1 : Value) (w : World) (K : Value → World → Prop) :
    sh Try.prog (Try.f21.body.getD .skip) (retS Try.prog Try.f21.results K) (env0 #[x0, x1]) w = B_law08_DiskSafe x0 x1 w K := by kernel_rfl

theorem call_law08_DiskSafe (x0 x1 : Value) (w : World) (K : Value → World → Prop) (h : B_law08_DiskSafe x0 x1 w K) : CALL Try.prog 21 #[x0, x1] w K :=
  call_of_eq (c := Try.f21.body.getD .skip) mixed Try.func21 (by kernel_rfl) (by kernel_rfl) (by kernel_rfl) (Nat.le_of_ble_eq_true (by kernel_rfl)) (eq_law08_DiskSafe x0 x1 w K) h

/-- cellarage/cellaragelaw08.DiskFlush -/
def B_law08_DiskFlush (x0 x1 : Value) (w : World) (K : Value → World → Prop) : Prop :=
  CALL Try.prog 68 #[] w fun v1_19 w1 =>
  CALL Try.prog 69 #[(.int .i64 20)] w1 fun v2_21 w2 =>
  X Try.prog (Instr.extract v2_21 0) w2 fun v3_22 w3 =>
  X Try.prog (Instr.extract v2_21 1) w3 fun v4_23 w4 =>
  X Try.prog (binOpG .neq 30 (.tmp 24) (.const (.int .i64 0)) v4_23 (.int .i64 0)) w4 fun v5_25 w5 =>
  gstep v5_25 false (fun w6 K => K v3_22 w6) w5 fun v6_27 w7 =>
  gstep v5_25 false (fun w8 K => X Try.prog (binOpG .eql 74 (.tmp 27) (.const (.pointer none)) v6_27 (.pointer none)) w8 K) w7 fun v7_28 w9 =>
  X Try.prog (pickS v5_25 (.bool true) v7_28) w9 fun v8_29 w10 =>
  condS v8_29 (
  K (.bool false) w10) (
  CALL Try.prog 74 #[x0] w10 fun v9_31 w11 =>
  X Try.prog (Builtin.len_ #[83] 3 #[v9_31]) w11 fun v10_32 w12 =>
  loopS (fun Q1 ρ1 w13 =>
  X Try.prog (binOp .lss 3 (ρ1 33) (ρ1 32)) w13 fun v11_34 w14 =>
  condS v11_34 (
  X Try.prog (Instr.indexAt 83 (ρ1 31) (ρ1 33)) w14 fun v12_35 w15 =>
  X Try.prog (Instr.loadAt 86 v12_35) w15 fun v13_36 w16 =>
  X Try.prog (Instr.alloc 86 true (.tuple #[])) w16 fun v14_9 w17 =>
  XU Try.prog (Instr.storeAt 86 v14_9 v13_36) w17 fun w18 =>
  X Try.prog (Instr.loadAt 86 v14_9) w18 fun v15_38 w19 =>
  CALL Try.prog 75 #[(ρ1 6), v15_38] w19 fun v16_39 w20 =>
  X Try.prog (binOp .add 3 (ρ1 33) (.int .i64 1)) w20 fun v17_40 w21 =>
  Q1 .normal (upds ρ1 [(33, v17_40), (40, v17_40), (39, v16_39), (38, v15_38), (37, (ρ1 6)), (9, v14_9), (36, v13_36), (35, v12_35), (34, v11_34)]) w21) (
  Q1 (.exit 0) (upds ρ1 [(34, v11_34)]) w14)) (inBlockS 0 (thenS (fun ρ2 w22 =>
  CALL Try.prog 71 #[(ρ2 6)] w22 fun v18_42 w23 =>
  X Try.prog (binOpG .neq 30 (.tmp 43) (.const (.int .i64 0)) v18_42 (.int .i64 0)) w23 fun v19_44 w24 =>
  condS v19_44 (
  gstep (ρ2 5) true (fun w25 K => K v18_42 w25) w24 fun v20_47 w26 =>
  gstep (ρ2 5) true (fun w27 K => X Try.prog (binOpG .eql 30 (.tmp 47) (.const (.int .i64 6)) v20_47 (.int .i64 6)) w27 K) w26 fun v21_48 w28 =>
  X Try.prog (pickS (ρ2 5) v21_48 (.bool false)) w28 fun v22_49 w29 =>
  gstep v22_49 true (fun w30 K => K (ρ2 6) w30) w29 fun v23_51 w31 =>
  gstep v22_49 true (fun w32 K => CALL Try.prog 76 #[v23_51] w32 K) w31 fun v24_52 w33 =>
  X Try.prog (pickS v22_49 v24_52 (.bool false)) w33 fun v25_53 w34 =>
  K v25_53 w34) (
  X Try.prog (Instr.alloc 89 true (.tuple #[])) w24 fun v26_11 w35 =>
  loopS (fun Q3 ρ3 w36 =>
  X Try.prog (binOp .lss 3 (ρ3 54) (.int .i64 20)) w36 fun v27_55 w37 =>
  condS v27_55 (
  CALL Try.prog 73 #[(ρ3 6), (ρ3 54)] w37 fun v28_60 w38 =>
  X Try.prog (Instr.extract v28_60 0) w38 fun v29_61 w39 =>
  X Try.prog (Instr.extract v28_60 1) w39 fun v30_62 w40 =>
  X Try.prog (binOpG .neq 30 (.tmp 63) (.const (.int .i64 0)) v30_62 (.int .i64 0)) w40 fun v31_64 w41 =>
  condS v31_64 (
  Q3 .ret (upds ρ3 [(4, (.bool false)), (64, v31_64), (63, v30_62), (14, v30_62), (13, v29_61), (62, v30_62), (61, v29_61), (57, v28_60), (60, v28_60), (59, (ρ3 54)), (58, (ρ3 6)), (12, (ρ3 54)), (56, (ρ3 54)), (55, v27_55)]) w41) (
  X Try.prog (convert 27 9 v29_61) w41 fun v32_67 w42 =>
  X Try.prog (Instr.indexAt 89 (ρ3 11) (ρ3 54)) w42 fun v33_68 w43 =>
  XU Try.prog (Instr.storeAt 9 v33_68 v32_67) w43 fun w44 =>
  X Try.prog (binOp .add 3 (ρ3 54) (.int .i64 1)) w44 fun v34_69 w45 =>
  Q3 .normal (upds ρ3 [(54, v34_69), (69, v34_69), (68, v33_68), (67, v32_67), (66, v29_61), (65, (ρ3 54)), (64, v31_64), (63, v30_62), (14, v30_62), (13, v29_61), (62, v30_62), (61, v29_61), (57, v28_60), (60, v28_60), (59, (ρ3 54)), (58, (ρ3 6)), (12, (ρ3 54)), (56, (ρ3 54)), (55, v27_55)]) w45)) (
  Q3 (.exit 2) (upds ρ3 [(55, v27_55)]) w37)) (inBlockS 2 (thenS (fun ρ4 w46 =>
  CALL Try.prog 77 #[(ρ4 6)] w46 fun v35_71 w47 =>
  CALL Try.prog 72 #[(ρ4 6), (ρ4 1)] w47 fun v36_74 w48 =>
  loopS (fun Q5 ρ5 w49 =>
  X Try.prog (binOp .lss 3 (ρ5 75) (.int .i64 20)) w49 fun v37_76 w50 =>
  condS v37_76 (
  CALL Try.prog 73 #[(ρ5 6), (ρ5 75)] w50 fun v38_81 w51 =>
  X Try.prog (Instr.extract v38_81 0) w51 fun v39_82 w52 =>
  X Try.prog (Instr.extract v38_81 1) w52 fun v40_83 w53 =>
  ∃ R, Frame? R ∧
  XP Try.prog (binOpG .neq 30 (.tmp 84) (.const (.int .i64 0)) v40_83 (.int .i64 0)) (drewW w53) fun v41_85 w54 =>
  gstep v41_85 false (fun w55 K => K v39_82 w55) w54 fun v42_87 w56 =>
  gstep v41_85 false (fun w57 K => XR Try.prog R (convert 27 9 v42_87) w57 K) w56 fun v43_88 w58 =>
  gstep v41_85 false (fun w59 K => K (ρ5 75) w59) w58 fun v44_89 w60 =>
  gstep v41_85 false (fun w61 K => XP Try.prog (Instr.indexAt 89 (ρ5 11) v44_89) w61 K) w60 fun v45_90 w62 =>
  gstep v41_85 false (fun w63 K => XR Try.prog R (Instr.loadAt 9 v45_90) w63 K) w62 fun v46_91 w64 =>
  gstep v41_85 false (fun w65 K => XP Try.prog (binOpG .neq 9 (.tmp 88) (.tmp 91) v43_88 v46_91) w65 K) w64 fun v47_92 w66 =>
  XP Try.prog (pickS v41_85 (.bool true) v47_92) w66 fun v48_93 w67 =>
  condS v48_93 (
  Q5 .ret (upds ρ5 [(4, (.bool false)), (93, v48_93), (92, v47_92), (91, v46_91), (90, v45_90), (89, v44_89), (88, v43_88), (87, v42_87), (86, v41_85), (85, v41_85), (84, v40_83), (18, v40_83), (17, v39_82), (83, v40_83), (82, v39_82), (78, v38_81), (81, v38_81), (80, (ρ5 75)), (79, (ρ5 6)), (16, (ρ5 75)), (77, (ρ5 75)), (76, v37_76)]) w67) (
  X Try.prog (binOp .add 3 (ρ5 75) (.int .i64 1)) w67 fun v49_94 w68 =>
  Q5 .normal (upds ρ5 [(75, v49_94), (94, v49_94), (93, v48_93), (92, v47_92), (91, v46_91), (90, v45_90), (89, v44_89), (88, v43_88), (87, v42_87), (86, v41_85), (85, v41_85), (84, v40_83), (18, v40_83), (17, v39_82), (83, v40_83), (82, v39_82), (78, v38_81), (81, v38_81), (80, (ρ5 75)), (79, (ρ5 6)), (16, (ρ5 75)), (77, (ρ5 75)), (76, v37_76)]) w68)) (
  Q5 (.exit 4) (upds ρ5 [(76, v37_76)]) w50)) (inBlockS 4 (thenS (fun ρ6 w69 =>
  gstep (ρ6 5) true (fun w70 K => K (ρ6 15) w70) w69 fun v50_97 w71 =>
  gstep (ρ6 5) true (fun w72 K => X Try.prog (binOpG .eql 3 (.tmp 97) (.const (.int .i64 0)) v50_97 (.int .i64 0)) w72 K) w71 fun v51_98 w73 =>
  X Try.prog (pickS (ρ6 5) v51_98 (.bool false)) w73 fun v52_99 w74 =>
  gstep v52_99 true (fun w75 K => K (ρ6 6) w75) w74 fun v53_101 w76 =>
  gstep v52_99 true (fun w77 K => CALL Try.prog 77 #[v53_101] w77 K) w76 fun v54_102 w78 =>
  gstep v52_99 true (fun w79 K => X Try.prog (binOpG .eql 3 (.tmp 102) (.const (.int .i64 0)) v54_102 (.int .i64 0)) w79 K) w78 fun v55_103 w80 =>
  X Try.prog (pickS v52_99 v55_103 (.bool false)) w80 fun v56_104 w81 =>
  gstep v56_104 true (fun w82 K => K (ρ6 6) w82) w81 fun v57_106 w83 =>
  gstep v56_104 true (fun w84 K => CALL Try.prog 76 #[v57_106] w84 K) w83 fun v58_107 w85 =>
  gstep v56_104 true (fun w86 K => X Try.prog (Op.unary .not v58_107) w86 K) w85 fun v59_108 w87 =>
  X Try.prog (pickS v56_104 v59_108 (.bool false)) w87 fun v60_109 w88 =>
  K v60_109 w88) (retS Try.prog (Try.f22).results K))) (upds ρ4 [(75, (.int .i64 0)), (74, v36_74), (73, (ρ4 1)), (72, (ρ4 6)), (15, v35_71), (71, v35_71), (70, (ρ4 6))]) w48) (retS Try.prog (Try.f22).results K))) (upds ρ2 [(54, (.int .i64 0)), (11, v26_11), (44, v19_44), (43, v18_42), (10, v18_42), (42, v18_42), (41, (ρ2 6))]) w35)) (retS Try.prog (Try.f22).results K))) (upds (env0 #[x0, x1]) [(33, (.int .i64 0)), (32, v10_32), (31, v9_31), (30, x0), (29, v8_29), (28, v7_28), (27, v6_27), (26, v5_25), (25, v5_25), (24, v4_23), (7, v4_23), (6, v3_22), (23, v4_23), (22, v3_22), (20, v2_21), (21, v2_21), (5, v1_19), (19, v1_19), (4, (.bool false))]) w12)

theorem eq_law08_DiskFlush (x0 x1 : Value) (w : World) (K : Value → World → Prop) :
    sh Try.prog (Try.f22.body.getD .skip) (retS Try.prog Try.f22.results K) (env0 #[x0, x1]) w = B_law08_DiskFlush x0 x1 w K := by kernel_rfl

theorem call_law08_DiskFlush (x0 x1 : Value) (w : World) (K : Value → World → Prop) (h : B_law08_DiskFlush x0 x1 w K) : CALL Try.prog 22 #[x0, x1] w K :=
  call_of_eq (c := Try.f22.body.getD .skip) mixed Try.func22 (by kernel_rfl) (by kernel_rfl) (by kernel_rfl) (Nat.le_of_ble_eq_true (by kernel_rfl)) (eq_law08_DiskFlush x0 x1 w K) h

/-- cellarage/cellaragelaw08.DiskCuts -/
def B_law08_DiskCuts (x0 x1 : Value) (w : World) (K : Value → World → Prop) : Prop :=
  CALL Try.prog 68 #[] w fun v1_13 w1 =>
  CALL Try.prog 69 #[(.int .i64 20)] w1 fun v2_15 w2 =>
  X Try.prog (Instr.extract v2_15 0) w2 fun v3_16 w3 =>
  X Try.prog (Instr.extract v2_15 1) w3 fun v4_17 w4 =>
  X Try.prog (binOpG .neq 30 (.tmp 18) (.const (.int .i64 0)) v4_17 (.int .i64 0)) w4 fun v5_19 w5 =>
  gstep v5_19 false (fun w6 K => K v3_16 w6) w5 fun v6_21 w7 =>
  gstep v5_19 false (fun w8 K => X Try.prog (binOpG .eql 74 (.tmp 21) (.const (.pointer none)) v6_21 (.pointer none)) w8 K) w7 fun v7_22 w9 =>
  X Try.prog (pickS v5_19 (.bool true) v7_22) w9 fun v8_23 w10 =>
  condS v8_23 (
  K (.bool false) w10) (
  X Try.prog (convert 5 3 x1) w10 fun v9_26 w11 =>
  CALL Try.prog 78 #[v3_16, v9_26] w11 fun v10_27 w12 =>
  CALL Try.prog 74 #[x0] w12 fun v11_29 w13 =>
  X Try.prog (Builtin.len_ #[83] 3 #[v11_29]) w13 fun v12_30 w14 =>
  loopS (fun Q1 ρ1 w15 =>
  X Try.prog (binOp .lss 3 (ρ1 31) (ρ1 30)) w15 fun v13_32 w16 =>
  condS v13_32 (
  joinS (fun ρ2 w17 =>
  X Try.prog (binOp .add 3 (ρ2 31) (.int .i64 1)) w17 fun v14_87 w18 =>
  Q1 .normal (upds ρ2 [(31, v14_87), (87, v14_87)]) w18) fun J2 =>
  X Try.prog (Instr.indexAt 83 (ρ1 29) (ρ1 31)) w16 fun v15_33 w19 =>
  X Try.prog (Instr.loadAt 86 v15_33) w19 fun v16_34 w20 =>
  X Try.prog (Instr.alloc 86 true (.tuple #[])) w20 fun v17_9 w21 =>
  XU Try.prog (Instr.storeAt 86 v17_9 v16_34) w21 fun w22 =>
  X Try.prog (Instr.fieldAt 86 v17_9 0) w22 fun v18_35 w23 =>
  X Try.prog (Instr.loadAt 5 v18_35) w23 fun v19_36 w24 =>
  X Try.prog (binOp .rem 5 v19_36 (.int .u8 5)) w24 fun v20_37 w25 =>
  X Try.prog (binOp .gtr 5 v20_37 (.int .u8 1)) w25 fun v21_38 w26 =>
  condS v21_38 (
  J2 (upds ρ1 [(38, v21_38), (37, v20_37), (36, v19_36), (35, v18_35), (9, v17_9), (34, v16_34), (33, v15_33), (32, v13_32)]) w26) (
  CALL Try.prog 79 #[(ρ1 6)] w26 fun v22_40 w27 =>
  CALL Try.prog 77 #[(ρ1 6)] w27 fun v23_42 w28 =>
  X Try.prog (Instr.loadAt 86 v17_9) w28 fun v24_44 w29 =>
  CALL Try.prog 75 #[(ρ1 6), v24_44] w29 fun v25_45 w30 =>
  X Try.prog (binOpG .eql 30 (.tmp 46) (.const (.int .i64 0)) v25_45 (.int .i64 0)) w30 fun v26_47 w31 =>
  CALL Try.prog 79 #[(ρ1 6)] w31 fun v27_49 w32 =>
  X Try.prog (binOp .add 3 v22_40 (.int .i64 1)) w32 fun v28_51 w33 =>
  X Try.prog (binOpG .eql 3 (.tmp 49) (.tmp 51) v27_49 v28_51) w33 fun v29_52 w34 =>
  X Try.prog (binOpG .neq 4 (.tmp 47) (.tmp 52) v26_47 v29_52) w34 fun v30_53 w35 =>
  gstep v30_53 false (fun w36 K => K (ρ1 6) w36) w35 fun v31_55 w37 =>
  gstep v30_53 false (fun w38 K => CALL Try.prog 79 #[v31_55] w38 K) w37 fun v32_56 w39 =>
  gstep v30_53 false (fun w40 K => K (ρ1 1) w40) w39 fun v33_57 w41 =>
  gstep v30_53 false (fun w42 K => X Try.prog (convert 5 3 v33_57) w42 K) w41 fun v34_58 w43 =>
  gstep v30_53 false (fun w44 K => X Try.prog (binOp .gtr 3 v32_56 v34_58) w44 K) w43 fun v35_59 w45 =>
  X Try.prog (pickS v30_53 (.bool true) v35_59) w45 fun v36_60 w46 =>
  gstep v36_60 false (fun w47 K => K v25_45 w47) w46 fun v37_62 w48 =>
  gstep v36_60 false (fun w49 K => X Try.prog (binOpG .eql 30 (.tmp 62) (.const (.int .i64 6)) v37_62 (.int .i64 6)) w49 K) w48 fun v38_63 w50 =>
  gstep v36_60 false (fun w51 K => K v38_63 w51) w50 fun v39_64 w52 =>
  gstep v39_64 true (fun w53 K => K (ρ1 6) w53) w52 fun v40_65 w54 =>
  gstep v39_64 true (fun w55 K => CALL Try.prog 79 #[v40_65] w55 K) w54 fun v41_66 w56 =>
  gstep v39_64 true (fun w57 K => K (ρ1 1) w57) w56 fun v42_67 w58 =>
  gstep v39_64 true (fun w59 K => X Try.prog (convert 5 3 v42_67) w59 K) w58 fun v43_68 w60 =>
  gstep v39_64 true (fun w61 K => X Try.prog (binOpG .neq 3 (.tmp 66) (.tmp 68) v41_66 v43_68) w61 K) w60 fun v44_69 w62 =>
  gstep v39_64 true (fun w63 K => K v44_69 w63) w62 fun v45_70 w64 =>
  gstep v45_70 false (fun w65 K => K (ρ1 6) w65) w64 fun v46_71 w66 =>
  gstep v45_70 false (fun w67 K => CALL Try.prog 76 #[v46_71] w67 K) w66 fun v47_72 w68 =>
  gstep v45_70 false (fun w69 K => X Try.prog (Op.unary .not v47_72) w69 K) w68 fun v48_73 w70 =>
  gstep v39_64 true (fun w71 K => X Try.prog (pickS v45_70 (.bool true) v48_73) w71 K) w70 fun v49_74 w72 =>
  gstep v36_60 false (fun w73 K => X Try.prog (pickS v39_64 v49_74 (.bool false)) w73 K) w72 fun v50_75 w74 =>
  X Try.prog (pickS v36_60 (.bool true) v50_75) w74 fun v51_76 w75 =>
  gstep v51_76 false (fun w76 K => K v25_45 w76) w75 fun v52_78 w77 =>
  gstep v51_76 false (fun w78 K => X Try.prog (binOpG .neq 30 (.tmp 78) (.const (.int .i64 0)) v52_78 (.int .i64 0)) w78 K) w77 fun v53_79 w79 =>
  gstep v51_76 false (fun w80 K => K v53_79 w80) w79 fun v54_80 w81 =>
  gstep v54_80 true (fun w82 K => K (ρ1 6) w82) w81 fun v55_81 w83 =>
  gstep v54_80 true (fun w84 K => CALL Try.prog 77 #[v55_81] w84 K) w83 fun v56_82 w85 =>
  gstep v54_80 true (fun w86 K => K v23_42 w86) w85 fun v57_83 w87 =>
  gstep v54_80 true (fun w88 K => X Try.prog (binOpG .neq 3 (.tmp 82) (.tmp 83) v56_82 v57_83) w88 K) w87 fun v58_84 w89 =>
  gstep v51_76 false (fun w90 K => X Try.prog (pickS v54_80 v58_84 (.bool false)) w90 K) w89 fun v59_85 w91 =>
  X Try.prog (pickS v51_76 (.bool true) v59_85) w91 fun v60_86 w92 =>
  condS v60_86 (
  Q1 .ret (upds ρ1 [(4, (.bool false)), (86, v60_86), (85, v59_85), (84, v58_84), (83, v57_83), (82, v56_82), (81, v55_81), (80, v54_80), (79, v53_79), (78, v52_78), (77, v51_76), (76, v51_76), (75, v50_75), (74, v49_74), (73, v48_73), (72, v47_72), (71, v46_71), (70, v45_70), (69, v44_69), (68, v43_68), (67, v42_67), (66, v41_66), (65, v40_65), (64, v39_64), (63, v38_63), (62, v37_62), (61, v36_60), (60, v36_60), (59, v35_59), (58, v34_58), (57, v33_57), (56, v32_56), (55, v31_55), (54, v30_53), (53, v30_53), (52, v29_52), (51, v28_51), (50, v22_40), (49, v27_49), (48, (ρ1 6)), (47, v26_47), (46, v25_45), (12, v25_45), (45, v25_45), (44, v24_44), (43, (ρ1 6)), (11, v23_42), (10, v22_40), (42, v23_42), (41, (ρ1 6)), (40, v22_40), (39, (ρ1 6)), (38, v21_38), (37, v20_37), (36, v19_36), (35, v18_35), (9, v17_9), (34, v16_34), (33, v15_33), (32, v13_32)]) w92) (
  J2 (upds ρ1 [(86, v60_86), (85, v59_85), (84, v58_84), (83, v57_83), (82, v56_82), (81, v55_81), (80, v54_80), (79, v53_79), (78, v52_78), (77, v51_76), (76, v51_76), (75, v50_75), (74, v49_74), (73, v48_73), (72, v47_72), (71, v46_71), (70, v45_70), (69, v44_69), (68, v43_68), (67, v42_67), (66, v41_66), (65, v40_65), (64, v39_64), (63, v38_63), (62, v37_62), (61, v36_60), (60, v36_60), (59, v35_59), (58, v34_58), (57, v33_57), (56, v32_56), (55, v31_55), (54, v30_53), (53, v30_53), (52, v29_52), (51, v28_51), (50, v22_40), (49, v27_49), (48, (ρ1 6)), (47, v26_47), (46, v25_45), (12, v25_45), (45, v25_45), (44, v24_44), (43, (ρ1 6)), (11, v23_42), (10, v22_40), (42, v23_42), (41, (ρ1 6)), (40, v22_40), (39, (ρ1 6)), (38, v21_38), (37, v20_37), (36, v19_36), (35, v18_35), (9, v17_9), (34, v16_34), (33, v15_33), (32, v13_32)]) w92))) (
  Q1 (.exit 0) (upds ρ1 [(32, v13_32)]) w16)) (inBlockS 0 (thenS (fun ρ3 w93 =>
  K (ρ3 5) w93) (retS Try.prog (Try.f23).results K))) (upds (env0 #[x0, x1]) [(31, (.int .i64 0)), (30, v12_30), (29, v11_29), (28, x0), (27, v10_27), (26, v9_26), (25, x1), (24, v3_16), (23, v8_23), (22, v7_22), (21, v6_21), (20, v5_19), (19, v5_19), (18, v4_17), (7, v4_17), (6, v3_16), (17, v4_17), (16, v3_16), (14, v2_15), (15, v2_15), (5, v1_13), (13, v1_13), (4, (.bool false))]) w14)

theorem eq_law08_DiskCuts (x0 x1 : Value) (w : World) (K : Value → World → Prop) :
    sh Try.prog (Try.f23.body.getD .skip) (retS Try.prog Try.f23.results K) (env0 #[x0, x1]) w = B_law08_DiskCuts x0 x1 w K := by kernel_rfl

theorem call_law08_DiskCuts (x0 x1 : Value) (w : World) (K : Value → World → Prop) (h : B_law08_DiskCuts x0 x1 w K) : CALL Try.prog 23 #[x0, x1] w K :=
  call_of_eq (c := Try.f23.body.getD .skip) mixed Try.func23 (by kernel_rfl) (by kernel_rfl) (by kernel_rfl) (Nat.le_of_ble_eq_true (by kernel_rfl)) (eq_law08_DiskCuts x0 x1 w K) h

/-- cellarage/cellaragelaw08.DiskPlays -/
def B_law08_DiskPlays (x0 x1 : Value) (w : World) (K : Value → World → Prop) : Prop :=
  CALL Try.prog 68 #[] w fun v1_13 w1 =>
  CALL Try.prog 69 #[x0] w1 fun v2_16 w2 =>
  X Try.prog (Instr.extract v2_16 0) w2 fun v3_17 w3 =>
  X Try.prog (Instr.extract v2_16 1) w3 fun v4_18 w4 =>
  CALL Try.prog 80 #[x0] w4 fun v5_21 w5 =>
  X Try.prog (Instr.extract v5_21 0) w5 fun v6_22 w6 =>
  X Try.prog (Instr.extract v5_21 1) w6 fun v7_23 w7 =>
  X Try.prog (binOpG .neq 30 (.tmp 24) (.const (.int .i64 0)) v7_23 (.int .i64 0)) w7 fun v8_25 w8 =>
  condS v8_25 (
  gstep v1_13 true (fun w9 K => K v4_18 w9) w8 fun v9_28 w10 =>
  gstep v1_13 true (fun w11 K => K v7_23 w11) w10 fun v10_29 w12 =>
  gstep v1_13 true (fun w13 K => X Try.prog (binOpG .eql 30 (.tmp 28) (.tmp 29) v9_28 v10_29) w13 K) w12 fun v11_30 w14 =>
  X Try.prog (pickS v1_13 v11_30 (.bool false)) w14 fun v12_31 w15 =>
  gstep v12_31 true (fun w16 K => K v3_17 w16) w15 fun v13_33 w17 =>
  gstep v12_31 true (fun w18 K => X Try.prog (binOpG .eql 74 (.tmp 33) (.const (.pointer none)) v13_33 (.pointer none)) w18 K) w17 fun v14_34 w19 =>
  X Try.prog (pickS v12_31 v14_34 (.bool false)) w19 fun v15_35 w20 =>
  K v15_35 w20) (
  X Try.prog (binOpG .neq 30 (.tmp 36) (.tmp 37) v4_18 v7_23) w8 fun v16_38 w21 =>
  gstep v16_38 false (fun w22 K => K v3_17 w22) w21 fun v17_40 w23 =>
  gstep v16_38 false (fun w24 K => X Try.prog (binOpG .eql 74 (.tmp 40) (.const (.pointer none)) v17_40 (.pointer none)) w24 K) w23 fun v18_41 w25 =>
  X Try.prog (pickS v16_38 (.bool true) v18_41) w25 fun v19_42 w26 =>
  condS v19_42 (
  K (.bool false) w26) (
  CALL Try.prog 74 #[x1] w26 fun v20_44 w27 =>
  X Try.prog (Builtin.len_ #[83] 3 #[v20_44]) w27 fun v21_45 w28 =>
  loopS (fun Q1 ρ1 w29 =>
  X Try.prog (binOp .lss 3 (ρ1 46) (ρ1 45)) w29 fun v22_47 w30 =>
  condS v22_47 (
  X Try.prog (Instr.indexAt 83 (ρ1 44) (ρ1 46)) w30 fun v23_48 w31 =>
  X Try.prog (Instr.loadAt 86 v23_48) w31 fun v24_49 w32 =>
  X Try.prog (Instr.alloc 86 true (.tuple #[])) w32 fun v25_11 w33 =>
  XU Try.prog (Instr.storeAt 86 v25_11 v24_49) w33 fun w34 =>
  joinS (fun ρ2 w35 =>
  ∃ R, Frame? R ∧
  XP Try.prog (binOpG .eql 74 (.tmp 63) (.const (.pointer none)) (ρ2 6) (.pointer none)) (drewW w35) fun v26_64 w36 =>
  gstep v26_64 false (fun w37 K => K (ρ2 6) w37) w36 fun v27_66 w38 =>
  gstep v26_64 false (fun w39 K => XR Try.prog R (Instr.loadAt 86 (ρ2 11)) w39 K) w38 fun v28_67 w40 =>
  gstep v26_64 false (fun w41 K => K (ρ2 8) w41) w40 fun v29_69 w42 =>
  gstep v26_64 false (fun w43 K => XR Try.prog R (Instr.loadAt 86 (ρ2 11)) w43 K) w42 fun v30_70 w44 =>
  gstep v26_64 false (fun w45 K => CALL Try.prog 75 #[v27_66, v28_67] w45 K) w44 fun v31_68 w46 =>
  R w44 w46 ∧
  gstep v26_64 false (fun w47 K => CALL Try.prog 82 #[v29_69, v30_70] w47 K) w46 fun v32_71 w48 =>
  R w46 w48 ∧
  gstep v26_64 false (fun w49 K => XP Try.prog (binOpG .neq 30 (.tmp 68) (.tmp 71) v31_68 v32_71) w49 K) w48 fun v33_72 w50 =>
  XP Try.prog (pickS v26_64 (.bool true) v33_72) w50 fun v34_73 w51 =>
  gstep v34_73 false (fun w52 K => K (ρ2 6) w52) w51 fun v35_75 w53 =>
  gstep v34_73 false (fun w54 K => K (ρ2 8) w54) w53 fun v36_76 w55 =>
  gstep v34_73 false (fun w56 K => CALL Try.prog 83 #[v35_75, v36_76] w56 K) w55 fun v37_77 w57 =>
  R w55 w57 ∧
  gstep v34_73 false (fun w58 K => XP Try.prog (Op.unary .not v37_77) w58 K) w57 fun v38_78 w59 =>
  XP Try.prog (pickS v34_73 (.bool true) v38_78) w59 fun v39_79 w60 =>
  condS v39_79 (
  Q1 .ret (upds ρ2 [(4, (.bool false)), (79, v39_79), (78, v38_78), (77, v37_77), (76, v36_76), (75, v35_75), (74, v34_73), (73, v34_73), (72, v33_72), (71, v32_71), (68, v31_68), (70, v30_70), (69, v29_69), (67, v28_67), (66, v27_66), (65, v26_64), (64, v26_64), (63, (ρ2 6))]) w60) (
  X Try.prog (binOp .add 3 (ρ2 46) (.int .i64 1)) w60 fun v40_80 w61 =>
  Q1 .normal (upds ρ2 [(46, v40_80), (80, v40_80), (79, v39_79), (78, v38_78), (77, v37_77), (76, v36_76), (75, v35_75), (74, v34_73), (73, v34_73), (72, v33_72), (71, v32_71), (68, v31_68), (70, v30_70), (69, v29_69), (67, v28_67), (66, v27_66), (65, v26_64), (64, v26_64), (63, (ρ2 6))]) w61)) fun J2 =>
  X Try.prog (Instr.fieldAt 86 v25_11 0) w34 fun v41_50 w62 =>
  X Try.prog (Instr.loadAt 5 v41_50) w62 fun v42_51 w63 =>
  X Try.prog (binOp .rem 5 v42_51 (.int .u8 5)) w63 fun v43_52 w64 =>
  X Try.prog (binOpG .eql 5 (.tmp 52) (.const (.int .u8 4)) v43_52 (.int .u8 4)) w64 fun v44_53 w65 =>
  condS v44_53 (
  CALL Try.prog 81 #[(ρ1 6)] w65 fun v45_55 w66 =>
  CALL Try.prog 72 #[(ρ1 6), (.slice none 0 0)] w66 fun v46_57 w67 =>
  X Try.prog (Instr.buildSlice 27 4 #[(0, (.int .u8 103)), (1, (.int .u8 111)), (2, (.int .u8 110)), (3, (.int .u8 101))]) w67 fun v47_59 w68 =>
  X Try.prog (convert 27 27 v47_59) w68 fun v48_60 w69 =>
  CALL Try.prog 70 #[(ρ1 6), (.int .i64 0), v48_60] w69 fun v49_61 w70 =>
  J2 (upds ρ1 [(6, v45_55), (62, v45_55), (61, v49_61), (60, v48_60), (59, v47_59), (58, (ρ1 6)), (57, v46_57), (56, (ρ1 6)), (12, v45_55), (55, v45_55), (54, (ρ1 6)), (53, v44_53), (52, v43_52), (51, v42_51), (50, v41_50), (11, v25_11), (49, v24_49), (48, v23_48), (47, v22_47)]) w70) (
  J2 (upds ρ1 [(53, v44_53), (52, v43_52), (51, v42_51), (50, v41_50), (11, v25_11), (49, v24_49), (48, v23_48), (47, v22_47)]) w65)) (
  Q1 (.exit 0) (upds ρ1 [(47, v22_47)]) w30)) (inBlockS 0 (thenS (fun ρ3 w71 =>
  K (ρ3 5) w71) (retS Try.prog (Try.f24).results K))) (upds (env0 #[x0, x1]) [(46, (.int .i64 0)), (45, v21_45), (44, v20_44), (43, x1), (42, v19_42), (41, v18_41), (40, v17_40), (39, v16_38), (38, v16_38), (37, v7_23), (36, v4_18), (25, v8_25), (24, v7_23), (9, v7_23), (8, v6_22), (23, v7_23), (22, v6_22), (19, v5_21), (21, v5_21), (20, x0), (7, v4_18), (6, v3_17), (18, v4_18), (17, v3_17), (14, v2_16), (16, v2_16), (15, x0), (5, v1_13), (13, v1_13), (4, (.bool false))]) w28))

theorem eq_law08_DiskPlays (x0 x1 : Value) (w : World) (K : Value → World → Prop) :
    sh Try.prog (Try.f24.body.getD .skip) (retS Try.prog Try.f24.results K) (env0 #[x0, x1]) w = B_law08_DiskPlays x0 x1 w K := by kernel_rfl

theorem call_law08_DiskPlays (x0 x1 : Value) (w : World) (K : Value → World → Prop) (h : B_law08_DiskPlays x0 x1 w K) : CALL Try.prog 24 #[x0, x1] w K :=
  call_of_eq (c := Try.f24.body.getD .skip) mixed Try.func24 (by kernel_rfl) (by kernel_rfl) (by kernel_rfl) (Nat.le_of_ble_eq_true (by kernel_rfl)) (eq_law08_DiskPlays x0 x1 w K) h

/-- cellarage/cellaragelaw08.DiskNil -/
def B_law08_DiskNil (x0 : Value) (w : World) (K : Value → World → Prop) : Prop :=
  X Try.prog (Instr.box 86 x0) w fun v1_1 w1 =>
  X Try.prog (Instr.loadAt 86 v1_1) w1 fun v2_8 w2 =>
  CALL Try.prog 75 #[(.pointer none), v2_8] w2 fun v3_9 w3 =>
  X Try.prog (Instr.fieldAt 86 v1_1 1) w3 fun v4_12 w4 =>
  X Try.prog (Instr.loadAt 3 v4_12) w4 fun v5_13 w5 =>
  CALL Try.prog 73 #[(.pointer none), v5_13] w5 fun v6_14 w6 =>
  X Try.prog (Instr.extract v6_14 0) w6 fun v7_15 w7 =>
  X Try.prog (Instr.extract v6_14 1) w7 fun v8_16 w8 =>
  X Try.prog (Instr.fieldAt 86 v1_1 2) w8 fun v9_18 w9 =>
  X Try.prog (Instr.loadAt 3 v9_18) w9 fun v10_19 w10 =>
  CALL Try.prog 78 #[(.pointer none), v10_19] w10 fun v11_20 w11 =>
  X Try.prog (Instr.fieldAt 86 v1_1 4) w11 fun v12_22 w12 =>
  X Try.prog (Instr.loadAt 79 v12_22) w12 fun v13_23 w13 =>
  CALL Try.prog 72 #[(.pointer none), v13_23] w13 fun v14_24 w14 =>
  CALL Try.prog 68 #[] w14 fun v15_25 w15 =>
  gstep v15_25 true (fun w16 K => K v3_9 w16) w15 fun v16_27 w17 =>
  gstep v15_25 true (fun w18 K => X Try.prog (binOpG .eql 30 (.tmp 27) (.const (.int .i64 2)) v16_27 (.int .i64 2)) w18 K) w17 fun v17_28 w19 =>
  gstep v15_25 true (fun w20 K => X Try.prog (Instr.fieldAt 86 v1_1 0) w20 K) w19 fun v18_29 w21 =>
  gstep v15_25 true (fun w22 K => X Try.prog (Instr.loadAt 5 v18_29) w22 K) w21 fun v19_30 w23 =>
  gstep v15_25 true (fun w24 K => X Try.prog (binOp .rem 5 v19_30 (.int .u8 5)) w24 K) w23 fun v20_31 w25 =>
  gstep v15_25 true (fun w26 K => X Try.prog (binOp .lss 5 v20_31 (.int .u8 2)) w26 K) w25 fun v21_32 w27 =>
  gstep v15_25 true (fun w28 K => X Try.prog (binOpG .eql 4 (.tmp 28) (.tmp 32) v17_28 v21_32) w28 K) w27 fun v22_33 w29 =>
  X Try.prog (pickS v15_25 v22_33 (.bool false)) w29 fun v23_34 w30 =>
  gstep v23_34 true (fun w31 K => K v8_16 w31) w30 fun v24_36 w32 =>
  gstep v23_34 true (fun w33 K => X Try.prog (binOpG .eql 30 (.tmp 36) (.const (.int .i64 2)) v24_36 (.int .i64 2)) w33 K) w32 fun v25_37 w34 =>
  X Try.prog (pickS v23_34 v25_37 (.bool false)) w34 fun v26_38 w35 =>
  gstep v26_38 true (fun w36 K => K (.pointer none) w36) w35 fun v27_40 w37 =>
  gstep v26_38 true (fun w38 K => CALL Try.prog 84 #[v27_40] w38 K) w37 fun v28_41 w39 =>
  gstep v26_38 true (fun w40 K => X Try.prog (binOpG .eql 3 (.tmp 41) (.const (.int .i64 0)) v28_41 (.int .i64 0)) w40 K) w39 fun v29_42 w41 =>
  X Try.prog (pickS v26_38 v29_42 (.bool false)) w41 fun v30_43 w42 =>
  gstep v30_43 true (fun w43 K => K (.pointer none) w43) w42 fun v31_45 w44 =>
  gstep v30_43 true (fun w45 K => CALL Try.prog 77 #[v31_45] w45 K) w44 fun v32_46 w46 =>
  gstep v30_43 true (fun w47 K => X Try.prog (binOpG .eql 3 (.tmp 46) (.const (.int .i64 0)) v32_46 (.int .i64 0)) w47 K) w46 fun v33_47 w48 =>
  X Try.prog (pickS v30_43 v33_47 (.bool false)) w48 fun v34_48 w49 =>
  gstep v34_48 true (fun w50 K => K (.pointer none) w50) w49 fun v35_50 w51 =>
  gstep v34_48 true (fun w52 K => CALL Try.prog 76 #[v35_50] w52 K) w51 fun v36_51 w53 =>
  gstep v34_48 true (fun w54 K => X Try.prog (Op.unary .not v36_51) w54 K) w53 fun v37_52 w55 =>
  X Try.prog (pickS v34_48 v37_52 (.bool false)) w55 fun v38_53 w56 =>
  gstep v38_53 true (fun w57 K => K (.pointer none) w57) w56 fun v39_55 w58 =>
  gstep v38_53 true (fun w59 K => CALL Try.prog 79 #[v39_55] w59 K) w58 fun v40_56 w60 =>
  gstep v38_53 true (fun w61 K => X Try.prog (binOpG .eql 3 (.tmp 56) (.const (.int .i64 0)) v40_56 (.int .i64 0)) w61 K) w60 fun v41_57 w62 =>
  X Try.prog (pickS v38_53 v41_57 (.bool false)) w62 fun v42_58 w63 =>
  gstep v42_58 true (fun w64 K => K (.pointer none) w64) w63 fun v43_60 w65 =>
  gstep v42_58 true (fun w66 K => CALL Try.prog 81 #[v43_60] w66 K) w65 fun v44_61 w67 =>
  gstep v42_58 true (fun w68 K => X Try.prog (binOpG .eql 74 (.tmp 61) (.const (.pointer none)) v44_61 (.pointer none)) w68 K) w67 fun v45_62 w69 =>
  X Try.prog (pickS v42_58 v45_62 (.bool false)) w69 fun v46_63 w70 =>
  K v46_63 w70

theorem eq_law08_DiskNil (x0 : Value) (w : World) (K : Value → World → Prop) :
    sh Try.prog (Try.f25.body.getD .skip) (retS Try.prog Try.f25.results K) (env0 #[x0]) w = B_law08_DiskNil x0 w K := by kernel_rfl

theorem call_law08_DiskNil (x0 : Value) (w : World) (K : Value → World → Prop) (h : B_law08_DiskNil x0 w K) : CALL Try.prog 25 #[x0] w K :=
  call_of_eq (c := Try.f25.body.getD .skip) mixed Try.func25 (by kernel_rfl) (by kernel_rfl) (by kernel_rfl) (Nat.le_of_ble_eq_true (by kernel_rfl)) (eq_law08_DiskNil x0 w K) h

end Go.Proofs.Ytggggfcgnkllgaa
