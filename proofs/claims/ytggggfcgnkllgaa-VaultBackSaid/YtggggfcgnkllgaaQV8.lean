/- Part 8 of what the law is proved with: T12c Law Facts. -/
import Derived.Test.YtggggfcgnkllgaaRows
import Derived.ProofKit
import Derived.Test.YtggggfcgnkllgaaQV7
section
set_option linter.unusedVariables false
namespace Go.Proofs.Ytggggfcgnkllgaa
open Go Go.Sh
attribute [local irreducible] X XU XP XR CALL loopS resC closS
def B_law12_VaultBack_c1 (v122_197 : Value) (w194 : World) (K : Value → World → Prop) (v121_196 : Value) (Q1 : Exit → Env → World → Prop) (ρ1 : Env) (v120_195 : Value) (v119_190 : Value) : Prop :=
  ∃ R, Frame? R ∧
  XP Try.prog (binOpG .neq 30 (.tmp 198) (.const (.int .i64 0)) v122_197 (.int .i64 0)) (drewW w194) fun v123_199 w195 =>
  gstep v123_199 false (fun w196 K => K v121_196 w196) w195 fun v124_201 w197 =>
  gstep v123_199 false (fun w198 K => XR Try.prog R (convert 27 9 v124_201) w198 K) w197 fun v125_202 w199 =>
  gstep v123_199 false (fun w200 K => X Try.prog (Instr.makeSlice 27 (.int .i64 128) (.int .i64 128)) w200 K) w199 fun v126_203 w201 =>
  R w199 w201 ∧
  gstep v123_199 false (fun w202 K => XR Try.prog R (convert 27 9 v126_203) w202 K) w201 fun v127_204 w203 =>
  gstep v123_199 false (fun w204 K => XP Try.prog (binOpG .neq 9 (.tmp 202) (.tmp 204) v125_202 v127_204) w204 K) w203 fun v128_205 w205 =>
  XP Try.prog (pickS v123_199 (.bool true) v128_205) w205 fun v129_206 w206 =>
  condS v129_206 (
  Q1 .ret (upds ρ1 [(10, (.bool false)), (206, v129_206), (205, v128_205), (204, v127_204), (203, v126_203), (202, v125_202), (201, v124_201), (200, v123_199), (199, v123_199), (198, v122_197), (28, v122_197), (27, v121_196), (197, v122_197), (196, v121_196), (192, v120_195), (195, v120_195), (194, (ρ1 189)), (193, (ρ1 13)), (26, (ρ1 189)), (191, (ρ1 189)), (190, v119_190)]) w206) (
  X Try.prog (binOp .add 3 (ρ1 189) (.int .i64 1)) w206 fun v130_207 w207 =>
  Q1 .normal (upds ρ1 [(189, v130_207), (207, v130_207), (206, v129_206), (205, v128_205), (204, v127_204), (203, v126_203), (202, v125_202), (201, v124_201), (200, v123_199), (199, v123_199), (198, v122_197), (28, v122_197), (27, v121_196), (197, v122_197), (196, v121_196), (192, v120_195), (195, v120_195), (194, (ρ1 189)), (193, (ρ1 13)), (26, (ρ1 189)), (191, (ρ1 189)), (190, v119_190)]) w207)

def B_law12_VaultBack_c2 (v99_168 : Value) (v117_187 : Value) (w188 : World) (K : Value → World → Prop) (x0 : Value) (x1 : Value) (x2 : Value) (x3 : Value) (x4 : Value) (v116_186 : Value) (v115_185 : Value) (v114_184 : Value) (v113_183 : Value) (v112_182 : Value) (v111_181 : Value) (v110_180 : Value) (v109_179 : Value) (v108_178 : Value) (v107_177 : Value) (v106_176 : Value) (v105_175 : Value) (v104_174 : Value) (v103_173 : Value) (v102_172 : Value) (v101_171 : Value) (v100_170 : Value) (v98_167 : Value) (v97_166 : Value) (v96_165 : Value) (v95_164 : Value) (v94_163 : Value) (v93_161 : Value) (v37_87 : Value) (v92_159 : Value) (v91_158 : Value) (v90_157 : Value) (v89_155 : Value) (v85_147 : Value) (v88_153 : Value) (v87_152 : Value) (v86_151 : Value) (v34_77 : Value) (v11_45 : Value) (v84_146 : Value) (v83_145 : Value) (v32_74 : Value) (v82_141 : Value) (v81_140 : Value) (v80_139 : Value) (v79_138 : Value) (v78_137 : Value) (v77_136 : Value) (v76_135 : Value) (v75_133 : Value) (v74_132 : Value) (v73_131 : Value) (v72_130 : Value) (v71_129 : Value) (v70_128 : Value) (v69_127 : Value) (v68_126 : Value) (v67_125 : Value) (v66_123 : Value) (v35_81 : Value) (v65_121 : Value) (v64_120 : Value) (v63_119 : Value) (v62_118 : Value) (v61_117 : Value) (v60_116 : Value) (v59_115 : Value) (v58_113 : Value) (v57_112 : Value) (v56_111 : Value) (v55_110 : Value) (v54_109 : Value) (v53_108 : Value) (v52_107 : Value) (v51_105 : Value) (v50_104 : Value) (v49_103 : Value) (v48_102 : Value) (v47_101 : Value) (v46_100 : Value) (v45_99 : Value) (v44_98 : Value) (v43_97 : Value) (v42_95 : Value) (v41_94 : Value) (v40_93 : Value) (v39_91 : Value) (v38_89 : Value) (v36_83 : Value) (v8_39 : Value) (v33_76 : Value) (v31_73 : Value) (v24_62 : Value) (v23_61 : Value) (v22_60 : Value) (v21_59 : Value) (v20_57 : Value) (v19_56 : Value) (v18_55 : Value) (v17_54 : Value) (v16_52 : Value) (v15_51 : Value) (v14_50 : Value) (v13_48 : Value) (v12_46 : Value) (v10_44 : Value) (v4_33 : Value) (v9_40 : Value) (v7_38 : Value) (v6_37 : Value) (v5_36 : Value) (v3_32 : Value) (v2_31 : Value) (v1_29 : Value) : Prop :=
  X Try.prog (pickS v99_168 (.bool true) v117_187) w188 fun v118_188 w189 =>
  condS v118_188 (
  K (.bool false) w189) (
  loopS (fun Q1 ρ1 w190 =>
  X Try.prog (binOp .lss 3 (ρ1 189) (.int .i64 3)) w190 fun v119_190 w191 =>
  condS v119_190 (
  CALL Try.prog 73 #[(ρ1 13), (ρ1 189)] w191 fun v120_195 w192 =>
  X Try.prog (Instr.extract v120_195 0) w192 fun v121_196 w193 =>
  X Try.prog (Instr.extract v120_195 1) w193 fun v122_197 w194 =>
  B_law12_VaultBack_c1 v122_197 w194 K v121_196 Q1 ρ1 v120_195 v119_190) (
  Q1 (.exit 0) (upds ρ1 [(190, v119_190)]) w191)) (inBlockS 0 (thenS (fun ρ2 w208 =>
  K (ρ2 11) w208) (retS Try.prog (Try.f32).results K))) (upds (env0 #[x0, x1, x2, x3, x4]) [(189, (.int .i64 0)), (188, v118_188), (187, v117_187), (186, v116_186), (185, v115_185), (184, v114_184), (183, v113_183), (182, v112_182), (181, v111_181), (180, v110_180), (179, v109_179), (178, v108_178), (177, v107_177), (176, v106_176), (175, v105_175), (174, v104_174), (173, v103_173), (172, v102_172), (171, v101_171), (170, v100_170), (169, v99_168), (168, v99_168), (167, v98_167), (166, v97_166), (165, v96_165), (164, v95_164), (163, v94_163), (162, v93_161), (161, v93_161), (160, v37_87), (159, v92_159), (158, v91_158), (157, v90_157), (156, v89_155), (155, v89_155), (154, v85_147), (25, v88_153), (24, v87_152), (153, v88_153), (152, v87_152), (148, v86_151), (151, v86_151), (150, v34_77), (149, v11_45), (23, v85_147), (22, v84_146), (147, v85_147), (146, v84_146), (142, v83_145), (145, v83_145), (144, v32_74), (143, v11_45), (141, v82_141), (140, v81_140), (139, v80_139), (138, v79_138), (137, v78_137), (136, v77_136), (135, v76_135), (134, v75_133), (133, v75_133), (132, v74_132), (131, v73_131), (130, v72_130), (129, v71_129), (128, v70_128), (127, v69_127), (126, v68_126), (125, v67_125), (124, v66_123), (123, v66_123), (122, v35_81), (121, v65_121), (120, v64_120), (119, v63_119), (118, v62_118), (117, v61_117), (116, v60_116), (115, v59_115), (114, v58_113), (113, v58_113), (112, v57_112), (111, v56_111), (110, v55_110), (109, v54_109), (108, v53_108), (107, v52_107), (106, v51_105), (105, v51_105), (104, v50_104), (103, v49_103), (102, v48_102), (101, v47_101), (100, v46_100), (99, v45_99), (98, v44_98), (97, v43_97), (96, v42_95), (95, v42_95), (94, v41_94), (93, v40_93), (92, v11_45), (91, v39_91), (90, x3), (89, v38_89), (88, v35_81), (21, v37_87), (87, v37_87), (86, x4), (85, v34_77), (84, v11_45), (20, v36_83), (83, v36_83), (82, v8_39), (19, v35_81), (81, v35_81), (80, x3), (79, v32_74), (78, v11_45), (18, v34_77), (17, v32_74), (77, v34_77), (76, v33_76), (75, x2), (74, v32_74), (73, v31_73), (72, x1), (62, v24_62), (61, v23_61), (60, v22_60), (59, v21_59), (58, v20_57), (57, v20_57), (56, v19_56), (55, v18_55), (54, v17_54), (53, v16_52), (52, v16_52), (51, v15_51), (50, v14_50), (49, v13_48), (48, v13_48), (47, v11_45), (16, v12_46), (15, v11_45), (46, v12_46), (45, v11_45), (41, v10_44), (44, v10_44), (43, v4_33), (42, v8_39), (14, v9_40), (13, v8_39), (40, v9_40), (39, v8_39), (34, v7_38), (38, v7_38), (37, v6_37), (36, v5_36), (35, v4_33), (12, v4_33), (33, v4_33), (32, v3_32), (31, v2_31), (30, x0), (11, v1_29), (29, v1_29), (10, (.bool false))]) w189)

def B_law12_VaultBack_c3 (v106_176 : Value) (K : Value → World → Prop) (v107_177 : Value) (w168 : World) (v102_172 : Value) (v99_168 : Value) (v84_146 : Value) (x3 : Value) (x0 : Value) (x1 : Value) (x2 : Value) (x4 : Value) (v105_175 : Value) (v104_174 : Value) (v103_173 : Value) (v101_171 : Value) (v100_170 : Value) (v98_167 : Value) (v97_166 : Value) (v96_165 : Value) (v95_164 : Value) (v94_163 : Value) (v93_161 : Value) (v37_87 : Value) (v92_159 : Value) (v91_158 : Value) (v90_157 : Value) (v89_155 : Value) (v85_147 : Value) (v88_153 : Value) (v87_152 : Value) (v86_151 : Value) (v34_77 : Value) (v11_45 : Value) (v83_145 : Value) (v32_74 : Value) (v82_141 : Value) (v81_140 : Value) (v80_139 : Value) (v79_138 : Value) (v78_137 : Value) (v77_136 : Value) (v76_135 : Value) (v75_133 : Value) (v74_132 : Value) (v73_131 : Value) (v72_130 : Value) (v71_129 : Value) (v70_128 : Value) (v69_127 : Value) (v68_126 : Value) (v67_125 : Value) (v66_123 : Value) (v35_81 : Value) (v65_121 : Value) (v64_120 : Value) (v63_119 : Value) (v62_118 : Value) (v61_117 : Value) (v60_116 : Value) (v59_115 : Value) (v58_113 : Value) (v57_112 : Value) (v56_111 : Value) (v55_110 : Value) (v54_109 : Value) (v53_108 : Value) (v52_107 : Value) (v51_105 : Value) (v50_104 : Value) (v49_103 : Value) (v48_102 : Value) (v47_101 : Value) (v46_100 : Value) (v45_99 : Value) (v44_98 : Value) (v43_97 : Value) (v42_95 : Value) (v41_94 : Value) (v40_93 : Value) (v39_91 : Value) (v38_89 : Value) (v36_83 : Value) (v8_39 : Value) (v33_76 : Value) (v31_73 : Value) (v24_62 : Value) (v23_61 : Value) (v22_60 : Value) (v21_59 : Value) (v20_57 : Value) (v19_56 : Value) (v18_55 : Value) (v17_54 : Value) (v16_52 : Value) (v15_51 : Value) (v14_50 : Value) (v13_48 : Value) (v12_46 : Value) (v10_44 : Value) (v4_33 : Value) (v9_40 : Value) (v7_38 : Value) (v6_37 : Value) (v5_36 : Value) (v3_32 : Value) (v2_31 : Value) (v1_29 : Value) : Prop :=
  gstep v106_176 false (fun w169 K => X Try.prog (binOpG .neq 30 (.tmp 177) (.const (.int .i64 0)) v107_177 (.int .i64 0)) w169 K) w168 fun v108_178 w170 =>
  gstep v102_172 true (fun w171 K => X Try.prog (pickS v106_176 (.bool true) v108_178) w171 K) w170 fun v109_179 w172 =>
  gstep v99_168 false (fun w173 K => X Try.prog (pickS v102_172 v109_179 (.bool false)) w173 K) w172 fun v110_180 w174 =>
  gstep v99_168 false (fun w175 K => K v110_180 w175) w174 fun v111_181 w176 =>
  gstep v111_181 true (fun w177 K => K v84_146 w177) w176 fun v112_182 w178 =>
  gstep v111_181 true (fun w179 K => X Try.prog (convert 27 9 v112_182) w179 K) w178 fun v113_183 w180 =>
  gstep v111_181 true (fun w181 K => K x3 w181) w180 fun v114_184 w182 =>
  gstep v111_181 true (fun w183 K => X Try.prog (convert 27 9 v114_184) w183 K) w182 fun v115_185 w184 =>
  gstep v111_181 true (fun w185 K => X Try.prog (binOpG .neq 9 (.tmp 183) (.tmp 185) v113_183 v115_185) w185 K) w184 fun v116_186 w186 =>
  gstep v99_168 false (fun w187 K => X Try.prog (pickS v111_181 v116_186 (.bool false)) w187 K) w186 fun v117_187 w188 =>
  B_law12_VaultBack_c2 v99_168 v117_187 w188 K x0 x1 x2 x3 x4 v116_186 v115_185 v114_184 v113_183 v112_182 v111_181 v110_180 v109_179 v108_178 v107_177 v106_176 v105_175 v104_174 v103_173 v102_172 v101_171 v100_170 v98_167 v97_166 v96_165 v95_164 v94_163 v93_161 v37_87 v92_159 v91_158 v90_157 v89_155 v85_147 v88_153 v87_152 v86_151 v34_77 v11_45 v84_146 v83_145 v32_74 v82_141 v81_140 v80_139 v79_138 v78_137 v77_136 v76_135 v75_133 v74_132 v73_131 v72_130 v71_129 v70_128 v69_127 v68_126 v67_125 v66_123 v35_81 v65_121 v64_120 v63_119 v62_118 v61_117 v60_116 v59_115 v58_113 v57_112 v56_111 v55_110 v54_109 v53_108 v52_107 v51_105 v50_104 v49_103 v48_102 v47_101 v46_100 v45_99 v44_98 v43_97 v42_95 v41_94 v40_93 v39_91 v38_89 v36_83 v8_39 v33_76 v31_73 v24_62 v23_61 v22_60 v21_59 v20_57 v19_56 v18_55 v17_54 v16_52 v15_51 v14_50 v13_48 v12_46 v10_44 v4_33 v9_40 v7_38 v6_37 v5_36 v3_32 v2_31 v1_29

def B_law12_VaultBack_c4 (v93_161 : Value) (K : Value → World → Prop) (v95_164 : Value) (v97_166 : Value) (w149 : World) (v35_81 : Value) (v32_74 : Value) (v34_77 : Value) (v37_87 : Value) (v84_146 : Value) (x3 : Value) (x0 : Value) (x1 : Value) (x2 : Value) (x4 : Value) (v96_165 : Value) (v94_163 : Value) (v92_159 : Value) (v91_158 : Value) (v90_157 : Value) (v89_155 : Value) (v85_147 : Value) (v88_153 : Value) (v87_152 : Value) (v86_151 : Value) (v11_45 : Value) (v83_145 : Value) (v82_141 : Value) (v81_140 : Value) (v80_139 : Value) (v79_138 : Value) (v78_137 : Value) (v77_136 : Value) (v76_135 : Value) (v75_133 : Value) (v74_132 : Value) (v73_131 : Value) (v72_130 : Value) (v71_129 : Value) (v70_128 : Value) (v69_127 : Value) (v68_126 : Value) (v67_125 : Value) (v66_123 : Value) (v65_121 : Value) (v64_120 : Value) (v63_119 : Value) (v62_118 : Value) (v61_117 : Value) (v60_116 : Value) (v59_115 : Value) (v58_113 : Value) (v57_112 : Value) (v56_111 : Value) (v55_110 : Value) (v54_109 : Value) (v53_108 : Value) (v52_107 : Value) (v51_105 : Value) (v50_104 : Value) (v49_103 : Value) (v48_102 : Value) (v47_101 : Value) (v46_100 : Value) (v45_99 : Value) (v44_98 : Value) (v43_97 : Value) (v42_95 : Value) (v41_94 : Value) (v40_93 : Value) (v39_91 : Value) (v38_89 : Value) (v36_83 : Value) (v8_39 : Value) (v33_76 : Value) (v31_73 : Value) (v24_62 : Value) (v23_61 : Value) (v22_60 : Value) (v21_59 : Value) (v20_57 : Value) (v19_56 : Value) (v18_55 : Value) (v17_54 : Value) (v16_52 : Value) (v15_51 : Value) (v14_50 : Value) (v13_48 : Value) (v12_46 : Value) (v10_44 : Value) (v4_33 : Value) (v9_40 : Value) (v7_38 : Value) (v6_37 : Value) (v5_36 : Value) (v3_32 : Value) (v2_31 : Value) (v1_29 : Value) : Prop :=
  gstep v93_161 true (fun w150 K => X Try.prog (binOpG .neq 9 (.tmp 164) (.tmp 166) v95_164 v97_166) w150 K) w149 fun v98_167 w151 =>
  X Try.prog (pickS v93_161 v98_167 (.bool false)) w151 fun v99_168 w152 =>
  gstep v99_168 false (fun w153 K => K v35_81 w153) w152 fun v100_170 w154 =>
  gstep v99_168 false (fun w155 K => X Try.prog (binOpG .eql 30 (.tmp 170) (.const (.int .i64 0)) v100_170 (.int .i64 0)) w155 K) w154 fun v101_171 w156 =>
  gstep v99_168 false (fun w157 K => K v101_171 w157) w156 fun v102_172 w158 =>
  gstep v102_172 true (fun w159 K => K v32_74 w159) w158 fun v103_173 w160 =>
  gstep v102_172 true (fun w161 K => K v34_77 w161) w160 fun v104_174 w162 =>
  gstep v102_172 true (fun w163 K => X Try.prog (binOpG .neq 3 (.tmp 173) (.tmp 174) v103_173 v104_174) w163 K) w162 fun v105_175 w164 =>
  gstep v102_172 true (fun w165 K => K v105_175 w165) w164 fun v106_176 w166 =>
  gstep v106_176 false (fun w167 K => K v37_87 w167) w166 fun v107_177 w168 =>
  B_law12_VaultBack_c3 v106_176 K v107_177 w168 v102_172 v99_168 v84_146 x3 x0 x1 x2 x4 v105_175 v104_174 v103_173 v101_171 v100_170 v98_167 v97_166 v96_165 v95_164 v94_163 v93_161 v37_87 v92_159 v91_158 v90_157 v89_155 v85_147 v88_153 v87_152 v86_151 v34_77 v11_45 v83_145 v32_74 v82_141 v81_140 v80_139 v79_138 v78_137 v77_136 v76_135 v75_133 v74_132 v73_131 v72_130 v71_129 v70_128 v69_127 v68_126 v67_125 v66_123 v35_81 v65_121 v64_120 v63_119 v62_118 v61_117 v60_116 v59_115 v58_113 v57_112 v56_111 v55_110 v54_109 v53_108 v52_107 v51_105 v50_104 v49_103 v48_102 v47_101 v46_100 v45_99 v44_98 v43_97 v42_95 v41_94 v40_93 v39_91 v38_89 v36_83 v8_39 v33_76 v31_73 v24_62 v23_61 v22_60 v21_59 v20_57 v19_56 v18_55 v17_54 v16_52 v15_51 v14_50 v13_48 v12_46 v10_44 v4_33 v9_40 v7_38 v6_37 v5_36 v3_32 v2_31 v1_29

def B_law12_VaultBack_c5 (v89_155 : Value) (K : Value → World → Prop) (v88_153 : Value) (w135 : World) (v37_87 : Value) (v87_152 : Value) (x4 : Value) (v35_81 : Value) (v32_74 : Value) (v34_77 : Value) (v84_146 : Value) (x3 : Value) (x0 : Value) (x1 : Value) (x2 : Value) (v85_147 : Value) (v86_151 : Value) (v11_45 : Value) (v83_145 : Value) (v82_141 : Value) (v81_140 : Value) (v80_139 : Value) (v79_138 : Value) (v78_137 : Value) (v77_136 : Value) (v76_135 : Value) (v75_133 : Value) (v74_132 : Value) (v73_131 : Value) (v72_130 : Value) (v71_129 : Value) (v70_128 : Value) (v69_127 : Value) (v68_126 : Value) (v67_125 : Value) (v66_123 : Value) (v65_121 : Value) (v64_120 : Value) (v63_119 : Value) (v62_118 : Value) (v61_117 : Value) (v60_116 : Value) (v59_115 : Value) (v58_113 : Value) (v57_112 : Value) (v56_111 : Value) (v55_110 : Value) (v54_109 : Value) (v53_108 : Value) (v52_107 : Value) (v51_105 : Value) (v50_104 : Value) (v49_103 : Value) (v48_102 : Value) (v47_101 : Value) (v46_100 : Value) (v45_99 : Value) (v44_98 : Value) (v43_97 : Value) (v42_95 : Value) (v41_94 : Value) (v40_93 : Value) (v39_91 : Value) (v38_89 : Value) (v36_83 : Value) (v8_39 : Value) (v33_76 : Value) (v31_73 : Value) (v24_62 : Value) (v23_61 : Value) (v22_60 : Value) (v21_59 : Value) (v20_57 : Value) (v19_56 : Value) (v18_55 : Value) (v17_54 : Value) (v16_52 : Value) (v15_51 : Value) (v14_50 : Value) (v13_48 : Value) (v12_46 : Value) (v10_44 : Value) (v4_33 : Value) (v9_40 : Value) (v7_38 : Value) (v6_37 : Value) (v5_36 : Value) (v3_32 : Value) (v2_31 : Value) (v1_29 : Value) : Prop :=
  gstep v89_155 false (fun w136 K => K v88_153 w136) w135 fun v90_157 w137 =>
  gstep v89_155 false (fun w138 K => X Try.prog (binOpG .neq 30 (.tmp 157) (.const (.int .i64 0)) v90_157 (.int .i64 0)) w138 K) w137 fun v91_158 w139 =>
  X Try.prog (pickS v89_155 (.bool true) v91_158) w139 fun v92_159 w140 =>
  condS v92_159 (
  K (.bool false) w140) (
  X Try.prog (binOpG .eql 30 (.tmp 160) (.const (.int .i64 0)) v37_87 (.int .i64 0)) w140 fun v93_161 w141 =>
  gstep v93_161 true (fun w142 K => K v87_152 w142) w141 fun v94_163 w143 =>
  gstep v93_161 true (fun w144 K => X Try.prog (convert 27 9 v94_163) w144 K) w143 fun v95_164 w145 =>
  gstep v93_161 true (fun w146 K => K x4 w146) w145 fun v96_165 w147 =>
  gstep v93_161 true (fun w148 K => X Try.prog (convert 27 9 v96_165) w148 K) w147 fun v97_166 w149 =>
  B_law12_VaultBack_c4 v93_161 K v95_164 v97_166 w149 v35_81 v32_74 v34_77 v37_87 v84_146 x3 x0 x1 x2 x4 v96_165 v94_163 v92_159 v91_158 v90_157 v89_155 v85_147 v88_153 v87_152 v86_151 v11_45 v83_145 v82_141 v81_140 v80_139 v79_138 v78_137 v77_136 v76_135 v75_133 v74_132 v73_131 v72_130 v71_129 v70_128 v69_127 v68_126 v67_125 v66_123 v65_121 v64_120 v63_119 v62_118 v61_117 v60_116 v59_115 v58_113 v57_112 v56_111 v55_110 v54_109 v53_108 v52_107 v51_105 v50_104 v49_103 v48_102 v47_101 v46_100 v45_99 v44_98 v43_97 v42_95 v41_94 v40_93 v39_91 v38_89 v36_83 v8_39 v33_76 v31_73 v24_62 v23_61 v22_60 v21_59 v20_57 v19_56 v18_55 v17_54 v16_52 v15_51 v14_50 v13_48 v12_46 v10_44 v4_33 v9_40 v7_38 v6_37 v5_36 v3_32 v2_31 v1_29)

def B_law12_VaultBack_c6 (v75_133 : Value) (v81_140 : Value) (w127 : World) (K : Value → World → Prop) (v11_45 : Value) (v32_74 : Value) (v34_77 : Value) (v37_87 : Value) (x4 : Value) (v35_81 : Value) (x3 : Value) (x0 : Value) (x1 : Value) (x2 : Value) (v80_139 : Value) (v79_138 : Value) (v78_137 : Value) (v77_136 : Value) (v76_135 : Value) (v74_132 : Value) (v73_131 : Value) (v72_130 : Value) (v71_129 : Value) (v70_128 : Value) (v69_127 : Value) (v68_126 : Value) (v67_125 : Value) (v66_123 : Value) (v65_121 : Value) (v64_120 : Value) (v63_119 : Value) (v62_118 : Value) (v61_117 : Value) (v60_116 : Value) (v59_115 : Value) (v58_113 : Value) (v57_112 : Value) (v56_111 : Value) (v55_110 : Value) (v54_109 : Value) (v53_108 : Value) (v52_107 : Value) (v51_105 : Value) (v50_104 : Value) (v49_103 : Value) (v48_102 : Value) (v47_101 : Value) (v46_100 : Value) (v45_99 : Value) (v44_98 : Value) (v43_97 : Value) (v42_95 : Value) (v41_94 : Value) (v40_93 : Value) (v39_91 : Value) (v38_89 : Value) (v36_83 : Value) (v8_39 : Value) (v33_76 : Value) (v31_73 : Value) (v24_62 : Value) (v23_61 : Value) (v22_60 : Value) (v21_59 : Value) (v20_57 : Value) (v19_56 : Value) (v18_55 : Value) (v17_54 : Value) (v16_52 : Value) (v15_51 : Value) (v14_50 : Value) (v13_48 : Value) (v12_46 : Value) (v10_44 : Value) (v4_33 : Value) (v9_40 : Value) (v7_38 : Value) (v6_37 : Value) (v5_36 : Value) (v3_32 : Value) (v2_31 : Value) (v1_29 : Value) : Prop :=
  X Try.prog (pickS v75_133 (.bool true) v81_140) w127 fun v82_141 w128 =>
  condS v82_141 (
  K (.bool false) w128) (
  CALL Try.prog 102 #[v11_45, v32_74] w128 fun v83_145 w129 =>
  X Try.prog (Instr.extract v83_145 0) w129 fun v84_146 w130 =>
  X Try.prog (Instr.extract v83_145 1) w130 fun v85_147 w131 =>
  CALL Try.prog 102 #[v11_45, v34_77] w131 fun v86_151 w132 =>
  X Try.prog (Instr.extract v86_151 0) w132 fun v87_152 w133 =>
  X Try.prog (Instr.extract v86_151 1) w133 fun v88_153 w134 =>
  X Try.prog (binOpG .neq 30 (.tmp 154) (.const (.int .i64 0)) v85_147 (.int .i64 0)) w134 fun v89_155 w135 =>
  B_law12_VaultBack_c5 v89_155 K v88_153 w135 v37_87 v87_152 x4 v35_81 v32_74 v34_77 v84_146 x3 x0 x1 x2 v85_147 v86_151 v11_45 v83_145 v82_141 v81_140 v80_139 v79_138 v78_137 v77_136 v76_135 v75_133 v74_132 v73_131 v72_130 v71_129 v70_128 v69_127 v68_126 v67_125 v66_123 v65_121 v64_120 v63_119 v62_118 v61_117 v60_116 v59_115 v58_113 v57_112 v56_111 v55_110 v54_109 v53_108 v52_107 v51_105 v50_104 v49_103 v48_102 v47_101 v46_100 v45_99 v44_98 v43_97 v42_95 v41_94 v40_93 v39_91 v38_89 v36_83 v8_39 v33_76 v31_73 v24_62 v23_61 v22_60 v21_59 v20_57 v19_56 v18_55 v17_54 v16_52 v15_51 v14_50 v13_48 v12_46 v10_44 v4_33 v9_40 v7_38 v6_37 v5_36 v3_32 v2_31 v1_29)

def B_law12_VaultBack_c7 (v66_123 : Value) (K : Value → World → Prop) (v71_129 : Value) (w108 : World) (v67_125 : Value) (v35_81 : Value) (v36_83 : Value) (v11_45 : Value) (v32_74 : Value) (v34_77 : Value) (v37_87 : Value) (x4 : Value) (x3 : Value) (x0 : Value) (x1 : Value) (x2 : Value) (v70_128 : Value) (v69_127 : Value) (v68_126 : Value) (v65_121 : Value) (v64_120 : Value) (v63_119 : Value) (v62_118 : Value) (v61_117 : Value) (v60_116 : Value) (v59_115 : Value) (v58_113 : Value) (v57_112 : Value) (v56_111 : Value) (v55_110 : Value) (v54_109 : Value) (v53_108 : Value) (v52_107 : Value) (v51_105 : Value) (v50_104 : Value) (v49_103 : Value) (v48_102 : Value) (v47_101 : Value) (v46_100 : Value) (v45_99 : Value) (v44_98 : Value) (v43_97 : Value) (v42_95 : Value) (v41_94 : Value) (v40_93 : Value) (v39_91 : Value) (v38_89 : Value) (v8_39 : Value) (v33_76 : Value) (v31_73 : Value) (v24_62 : Value) (v23_61 : Value) (v22_60 : Value) (v21_59 : Value) (v20_57 : Value) (v19_56 : Value) (v18_55 : Value) (v17_54 : Value) (v16_52 : Value) (v15_51 : Value) (v14_50 : Value) (v13_48 : Value) (v12_46 : Value) (v10_44 : Value) (v4_33 : Value) (v9_40 : Value) (v7_38 : Value) (v6_37 : Value) (v5_36 : Value) (v3_32 : Value) (v2_31 : Value) (v1_29 : Value) : Prop :=
  gstep v66_123 true (fun w109 K => X Try.prog (binOp .sub 3 v71_129 (.int .i64 1)) w109 K) w108 fun v72_130 w110 =>
  gstep v66_123 true (fun w111 K => X Try.prog (binOp .quo 3 v72_130 (.int .i64 128)) w111 K) w110 fun v73_131 w112 =>
  gstep v66_123 true (fun w113 K => X Try.prog (binOpG .neq 3 (.tmp 125) (.tmp 131) v67_125 v73_131) w113 K) w112 fun v74_132 w114 =>
  X Try.prog (pickS v66_123 v74_132 (.bool false)) w114 fun v75_133 w115 =>
  gstep v75_133 false (fun w116 K => K v35_81 w116) w115 fun v76_135 w117 =>
  gstep v75_133 false (fun w118 K => X Try.prog (binOpG .neq 30 (.tmp 135) (.const (.int .i64 0)) v76_135 (.int .i64 0)) w118 K) w117 fun v77_136 w119 =>
  gstep v75_133 false (fun w120 K => K v77_136 w120) w119 fun v78_137 w121 =>
  gstep v78_137 true (fun w122 K => K v36_83 w122) w121 fun v79_138 w123 =>
  gstep v78_137 true (fun w124 K => X Try.prog (binOpG .neq 3 (.tmp 138) (.const (.int .i64 0)) v79_138 (.int .i64 0)) w124 K) w123 fun v80_139 w125 =>
  gstep v75_133 false (fun w126 K => X Try.prog (pickS v78_137 v80_139 (.bool false)) w126 K) w125 fun v81_140 w127 =>
  B_law12_VaultBack_c6 v75_133 v81_140 w127 K v11_45 v32_74 v34_77 v37_87 x4 v35_81 x3 x0 x1 x2 v80_139 v79_138 v78_137 v77_136 v76_135 v74_132 v73_131 v72_130 v71_129 v70_128 v69_127 v68_126 v67_125 v66_123 v65_121 v64_120 v63_119 v62_118 v61_117 v60_116 v59_115 v58_113 v57_112 v56_111 v55_110 v54_109 v53_108 v52_107 v51_105 v50_104 v49_103 v48_102 v47_101 v46_100 v45_99 v44_98 v43_97 v42_95 v41_94 v40_93 v39_91 v38_89 v36_83 v8_39 v33_76 v31_73 v24_62 v23_61 v22_60 v21_59 v20_57 v19_56 v18_55 v17_54 v16_52 v15_51 v14_50 v13_48 v12_46 v10_44 v4_33 v9_40 v7_38 v6_37 v5_36 v3_32 v2_31 v1_29

def B_law12_VaultBack_c8 (v58_113 : Value) (K : Value → World → Prop) (v61_117 : Value) (v63_119 : Value) (w94 : World) (v35_81 : Value) (v36_83 : Value) (x3 : Value) (v11_45 : Value) (v32_74 : Value) (v34_77 : Value) (v37_87 : Value) (x4 : Value) (x0 : Value) (x1 : Value) (x2 : Value) (v62_118 : Value) (v60_116 : Value) (v59_115 : Value) (v57_112 : Value) (v56_111 : Value) (v55_110 : Value) (v54_109 : Value) (v53_108 : Value) (v52_107 : Value) (v51_105 : Value) (v50_104 : Value) (v49_103 : Value) (v48_102 : Value) (v47_101 : Value) (v46_100 : Value) (v45_99 : Value) (v44_98 : Value) (v43_97 : Value) (v42_95 : Value) (v41_94 : Value) (v40_93 : Value) (v39_91 : Value) (v38_89 : Value) (v8_39 : Value) (v33_76 : Value) (v31_73 : Value) (v24_62 : Value) (v23_61 : Value) (v22_60 : Value) (v21_59 : Value) (v20_57 : Value) (v19_56 : Value) (v18_55 : Value) (v17_54 : Value) (v16_52 : Value) (v15_51 : Value) (v14_50 : Value) (v13_48 : Value) (v12_46 : Value) (v10_44 : Value) (v4_33 : Value) (v9_40 : Value) (v7_38 : Value) (v6_37 : Value) (v5_36 : Value) (v3_32 : Value) (v2_31 : Value) (v1_29 : Value) : Prop :=
  gstep v58_113 false (fun w95 K => X Try.prog (pickS v61_117 v63_119 (.bool false)) w95 K) w94 fun v64_120 w96 =>
  X Try.prog (pickS v58_113 (.bool true) v64_120) w96 fun v65_121 w97 =>
  condS v65_121 (
  K (.bool false) w97) (
  X Try.prog (binOpG .eql 30 (.tmp 122) (.const (.int .i64 0)) v35_81 (.int .i64 0)) w97 fun v66_123 w98 =>
  gstep v66_123 true (fun w99 K => K v36_83 w99) w98 fun v67_125 w100 =>
  gstep v66_123 true (fun w101 K => K x3 w101) w100 fun v68_126 w102 =>
  gstep v66_123 true (fun w103 K => X Try.prog (Builtin.len_ #[27] 3 #[v68_126]) w103 K) w102 fun v69_127 w104 =>
  gstep v66_123 true (fun w105 K => X Try.prog (binOp .add 3 v69_127 (.int .i64 4)) w105 K) w104 fun v70_128 w106 =>
  gstep v66_123 true (fun w107 K => X Try.prog (binOp .add 3 v70_128 (.int .i64 128)) w107 K) w106 fun v71_129 w108 =>
  B_law12_VaultBack_c7 v66_123 K v71_129 w108 v67_125 v35_81 v36_83 v11_45 v32_74 v34_77 v37_87 x4 x3 x0 x1 x2 v70_128 v69_127 v68_126 v65_121 v64_120 v63_119 v62_118 v61_117 v60_116 v59_115 v58_113 v57_112 v56_111 v55_110 v54_109 v53_108 v52_107 v51_105 v50_104 v49_103 v48_102 v47_101 v46_100 v45_99 v44_98 v43_97 v42_95 v41_94 v40_93 v39_91 v38_89 v8_39 v33_76 v31_73 v24_62 v23_61 v22_60 v21_59 v20_57 v19_56 v18_55 v17_54 v16_52 v15_51 v14_50 v13_48 v12_46 v10_44 v4_33 v9_40 v7_38 v6_37 v5_36 v3_32 v2_31 v1_29)

def B_law12_VaultBack_c9 (v51_105 : Value) (K : Value → World → Prop) (v53_108 : Value) (w75 : World) (v35_81 : Value) (v37_87 : Value) (v36_83 : Value) (x3 : Value) (v11_45 : Value) (v32_74 : Value) (v34_77 : Value) (x4 : Value) (x0 : Value) (x1 : Value) (x2 : Value) (v52_107 : Value) (v50_104 : Value) (v49_103 : Value) (v48_102 : Value) (v47_101 : Value) (v46_100 : Value) (v45_99 : Value) (v44_98 : Value) (v43_97 : Value) (v42_95 : Value) (v41_94 : Value) (v40_93 : Value) (v39_91 : Value) (v38_89 : Value) (v8_39 : Value) (v33_76 : Value) (v31_73 : Value) (v24_62 : Value) (v23_61 : Value) (v22_60 : Value) (v21_59 : Value) (v20_57 : Value) (v19_56 : Value) (v18_55 : Value) (v17_54 : Value) (v16_52 : Value) (v15_51 : Value) (v14_50 : Value) (v13_48 : Value) (v12_46 : Value) (v10_44 : Value) (v4_33 : Value) (v9_40 : Value) (v7_38 : Value) (v6_37 : Value) (v5_36 : Value) (v3_32 : Value) (v2_31 : Value) (v1_29 : Value) : Prop :=
  gstep v51_105 false (fun w76 K => K v53_108 w76) w75 fun v54_109 w77 =>
  gstep v54_109 true (fun w78 K => K v35_81 w78) w77 fun v55_110 w79 =>
  gstep v54_109 true (fun w80 K => X Try.prog (binOpG .neq 30 (.tmp 110) (.const (.int .i64 4)) v55_110 (.int .i64 4)) w80 K) w79 fun v56_111 w81 =>
  gstep v51_105 false (fun w82 K => X Try.prog (pickS v54_109 v56_111 (.bool false)) w82 K) w81 fun v57_112 w83 =>
  X Try.prog (pickS v51_105 (.bool true) v57_112) w83 fun v58_113 w84 =>
  gstep v58_113 false (fun w85 K => K v37_87 w85) w84 fun v59_115 w86 =>
  gstep v58_113 false (fun w87 K => X Try.prog (binOpG .neq 30 (.tmp 115) (.const (.int .i64 0)) v59_115 (.int .i64 0)) w87 K) w86 fun v60_116 w88 =>
  gstep v58_113 false (fun w89 K => K v60_116 w89) w88 fun v61_117 w90 =>
  gstep v61_117 true (fun w91 K => K v37_87 w91) w90 fun v62_118 w92 =>
  gstep v61_117 true (fun w93 K => X Try.prog (binOpG .neq 30 (.tmp 118) (.const (.int .i64 4)) v62_118 (.int .i64 4)) w93 K) w92 fun v63_119 w94 =>
  B_law12_VaultBack_c8 v58_113 K v61_117 v63_119 w94 v35_81 v36_83 x3 v11_45 v32_74 v34_77 v37_87 x4 x0 x1 x2 v62_118 v60_116 v59_115 v57_112 v56_111 v55_110 v54_109 v53_108 v52_107 v51_105 v50_104 v49_103 v48_102 v47_101 v46_100 v45_99 v44_98 v43_97 v42_95 v41_94 v40_93 v39_91 v38_89 v8_39 v33_76 v31_73 v24_62 v23_61 v22_60 v21_59 v20_57 v19_56 v18_55 v17_54 v16_52 v15_51 v14_50 v13_48 v12_46 v10_44 v4_33 v9_40 v7_38 v6_37 v5_36 v3_32 v2_31 v1_29

def B_law12_VaultBack_c10 (v42_95 : Value) (K : Value → World → Prop) (v43_97 : Value) (w56 : World) (x4 : Value) (v11_45 : Value) (v35_81 : Value) (v37_87 : Value) (v36_83 : Value) (x3 : Value) (v32_74 : Value) (v34_77 : Value) (x0 : Value) (x1 : Value) (x2 : Value) (v41_94 : Value) (v40_93 : Value) (v39_91 : Value) (v38_89 : Value) (v8_39 : Value) (v33_76 : Value) (v31_73 : Value) (v24_62 : Value) (v23_61 : Value) (v22_60 : Value) (v21_59 : Value) (v20_57 : Value) (v19_56 : Value) (v18_55 : Value) (v17_54 : Value) (v16_52 : Value) (v15_51 : Value) (v14_50 : Value) (v13_48 : Value) (v12_46 : Value) (v10_44 : Value) (v4_33 : Value) (v9_40 : Value) (v7_38 : Value) (v6_37 : Value) (v5_36 : Value) (v3_32 : Value) (v2_31 : Value) (v1_29 : Value) : Prop :=
  gstep v42_95 false (fun w57 K => X Try.prog (binOpG .eql 30 (.tmp 97) (.const (.int .i64 0)) v43_97 (.int .i64 0)) w57 K) w56 fun v44_98 w58 =>
  gstep v42_95 false (fun w59 K => K x4 w59) w58 fun v45_99 w60 =>
  gstep v42_95 false (fun w61 K => X Try.prog (Builtin.len_ #[27] 3 #[v45_99]) w61 K) w60 fun v46_100 w62 =>
  gstep v42_95 false (fun w63 K => K v11_45 w63) w62 fun v47_101 w64 =>
  gstep v42_95 false (fun w65 K => CALL Try.prog 101 #[v47_101] w65 K) w64 fun v48_102 w66 =>
  gstep v42_95 false (fun w67 K => X Try.prog (binOp .leq 3 v46_100 v48_102) w67 K) w66 fun v49_103 w68 =>
  gstep v42_95 false (fun w69 K => X Try.prog (binOpG .neq 4 (.tmp 98) (.tmp 103) v44_98 v49_103) w69 K) w68 fun v50_104 w70 =>
  X Try.prog (pickS v42_95 (.bool true) v50_104) w70 fun v51_105 w71 =>
  gstep v51_105 false (fun w72 K => K v35_81 w72) w71 fun v52_107 w73 =>
  gstep v51_105 false (fun w74 K => X Try.prog (binOpG .neq 30 (.tmp 107) (.const (.int .i64 0)) v52_107 (.int .i64 0)) w74 K) w73 fun v53_108 w75 =>
  B_law12_VaultBack_c9 v51_105 K v53_108 w75 v35_81 v37_87 v36_83 x3 v11_45 v32_74 v34_77 x4 x0 x1 x2 v52_107 v50_104 v49_103 v48_102 v47_101 v46_100 v45_99 v44_98 v43_97 v42_95 v41_94 v40_93 v39_91 v38_89 v8_39 v33_76 v31_73 v24_62 v23_61 v22_60 v21_59 v20_57 v19_56 v18_55 v17_54 v16_52 v15_51 v14_50 v13_48 v12_46 v10_44 v4_33 v9_40 v7_38 v6_37 v5_36 v3_32 v2_31 v1_29

def B_law12_VaultBack_c11 (v33_76 : Value) (w45 : World) (v11_45 : Value) (v32_74 : Value) (x3 : Value) (v8_39 : Value) (x4 : Value) (K : Value → World → Prop) (x0 : Value) (x1 : Value) (x2 : Value) (v31_73 : Value) (v24_62 : Value) (v23_61 : Value) (v22_60 : Value) (v21_59 : Value) (v20_57 : Value) (v19_56 : Value) (v18_55 : Value) (v17_54 : Value) (v16_52 : Value) (v15_51 : Value) (v14_50 : Value) (v13_48 : Value) (v12_46 : Value) (v10_44 : Value) (v4_33 : Value) (v9_40 : Value) (v7_38 : Value) (v6_37 : Value) (v5_36 : Value) (v3_32 : Value) (v2_31 : Value) (v1_29 : Value) : Prop :=
  X Try.prog (convert 5 3 v33_76) w45 fun v34_77 w46 =>
  CALL Try.prog 100 #[v11_45, v32_74, x3] w46 fun v35_81 w47 =>
  CALL Try.prog 79 #[v8_39] w47 fun v36_83 w48 =>
  CALL Try.prog 100 #[v11_45, v34_77, x4] w48 fun v37_87 w49 =>
  X Try.prog (binOpG .eql 30 (.tmp 88) (.const (.int .i64 0)) v35_81 (.int .i64 0)) w49 fun v38_89 w50 =>
  X Try.prog (Builtin.len_ #[27] 3 #[x3]) w50 fun v39_91 w51 =>
  CALL Try.prog 101 #[v11_45] w51 fun v40_93 w52 =>
  X Try.prog (binOp .leq 3 v39_91 v40_93) w52 fun v41_94 w53 =>
  X Try.prog (binOpG .neq 4 (.tmp 89) (.tmp 94) v38_89 v41_94) w53 fun v42_95 w54 =>
  gstep v42_95 false (fun w55 K => K v37_87 w55) w54 fun v43_97 w56 =>
  B_law12_VaultBack_c10 v42_95 K v43_97 w56 x4 v11_45 v35_81 v37_87 v36_83 x3 v32_74 v34_77 x0 x1 x2 v41_94 v40_93 v39_91 v38_89 v8_39 v33_76 v31_73 v24_62 v23_61 v22_60 v21_59 v20_57 v19_56 v18_55 v17_54 v16_52 v15_51 v14_50 v13_48 v12_46 v10_44 v4_33 v9_40 v7_38 v6_37 v5_36 v3_32 v2_31 v1_29

def B_law12_VaultBack_c12 (v20_57 : Value) (v23_61 : Value) (w31 : World) (v1_29 : Value) (K : Value → World → Prop) (v11_45 : Value) (v12_46 : Value) (x1 : Value) (x2 : Value) (x3 : Value) (v8_39 : Value) (x4 : Value) (x0 : Value) (v22_60 : Value) (v21_59 : Value) (v19_56 : Value) (v18_55 : Value) (v17_54 : Value) (v16_52 : Value) (v15_51 : Value) (v14_50 : Value) (v13_48 : Value) (v10_44 : Value) (v4_33 : Value) (v9_40 : Value) (v7_38 : Value) (v6_37 : Value) (v5_36 : Value) (v3_32 : Value) (v2_31 : Value) : Prop :=
  X Try.prog (pickS v20_57 (.bool true) v23_61) w31 fun v24_62 w32 =>
  condS v24_62 (
  gstep v1_29 true (fun w33 K => K v11_45 w33) w32 fun v25_65 w34 =>
  gstep v1_29 true (fun w35 K => X Try.prog (binOpG .neq 124 (.tmp 65) (.const (.pointer none)) v25_65 (.pointer none)) w35 K) w34 fun v26_66 w36 =>
  X Try.prog (pickS v1_29 v26_66 (.bool false)) w36 fun v27_67 w37 =>
  gstep v27_67 true (fun w38 K => K v12_46 w38) w37 fun v28_69 w39 =>
  gstep v27_67 true (fun w40 K => X Try.prog (binOpG .eql 30 (.tmp 69) (.const (.int .i64 0)) v28_69 (.int .i64 0)) w40 K) w39 fun v29_70 w41 =>
  X Try.prog (pickS v27_67 v29_70 (.bool false)) w41 fun v30_71 w42 =>
  K v30_71 w42) (
  X Try.prog (binOp .rem 5 x1 (.int .u8 12)) w32 fun v31_73 w43 =>
  X Try.prog (convert 5 3 v31_73) w43 fun v32_74 w44 =>
  X Try.prog (binOp .rem 5 x2 (.int .u8 12)) w44 fun v33_76 w45 =>
  B_law12_VaultBack_c11 v33_76 w45 v11_45 v32_74 x3 v8_39 x4 K x0 x1 x2 v31_73 v24_62 v23_61 v22_60 v21_59 v20_57 v19_56 v18_55 v17_54 v16_52 v15_51 v14_50 v13_48 v12_46 v10_44 v4_33 v9_40 v7_38 v6_37 v5_36 v3_32 v2_31 v1_29)

def B_law12_VaultBack_c13 (v13_48 : Value) (K : Value → World → Prop) (v12_46 : Value) (w13 : World) (x3 : Value) (x4 : Value) (v1_29 : Value) (v11_45 : Value) (x1 : Value) (x2 : Value) (v8_39 : Value) (x0 : Value) (v10_44 : Value) (v4_33 : Value) (v9_40 : Value) (v7_38 : Value) (v6_37 : Value) (v5_36 : Value) (v3_32 : Value) (v2_31 : Value) : Prop :=
  gstep v13_48 false (fun w14 K => K v12_46 w14) w13 fun v14_50 w15 =>
  gstep v13_48 false (fun w16 K => X Try.prog (binOpG .neq 30 (.tmp 50) (.const (.int .i64 0)) v14_50 (.int .i64 0)) w16 K) w15 fun v15_51 w17 =>
  X Try.prog (pickS v13_48 (.bool true) v15_51) w17 fun v16_52 w18 =>
  gstep v16_52 false (fun w19 K => K x3 w19) w18 fun v17_54 w20 =>
  gstep v16_52 false (fun w21 K => X Try.prog (Builtin.len_ #[27] 3 #[v17_54]) w21 K) w20 fun v18_55 w22 =>
  gstep v16_52 false (fun w23 K => X Try.prog (binOp .gtr 3 v18_55 (.int .i64 1000)) w23 K) w22 fun v19_56 w24 =>
  X Try.prog (pickS v16_52 (.bool true) v19_56) w24 fun v20_57 w25 =>
  gstep v20_57 false (fun w26 K => K x4 w26) w25 fun v21_59 w27 =>
  gstep v20_57 false (fun w28 K => X Try.prog (Builtin.len_ #[27] 3 #[v21_59]) w28 K) w27 fun v22_60 w29 =>
  gstep v20_57 false (fun w30 K => X Try.prog (binOp .gtr 3 v22_60 (.int .i64 1000)) w30 K) w29 fun v23_61 w31 =>
  B_law12_VaultBack_c12 v20_57 v23_61 w31 v1_29 K v11_45 v12_46 x1 x2 x3 v8_39 x4 x0 v22_60 v21_59 v19_56 v18_55 v17_54 v16_52 v15_51 v14_50 v13_48 v10_44 v4_33 v9_40 v7_38 v6_37 v5_36 v3_32 v2_31

def B_law12_VaultBack_c14 (v3_32 : Value) (w3 : World) (K : Value → World → Prop) (x3 : Value) (x4 : Value) (v1_29 : Value) (x1 : Value) (x2 : Value) (x0 : Value) (v2_31 : Value) : Prop :=
  X Try.prog (binOp .add 3 v3_32 (.int .i64 1)) w3 fun v4_33 w4 =>
  X Try.prog (binOp .mul 3 (.int .i64 12) v4_33) w4 fun v5_36 w5 =>
  X Try.prog (binOp .add 3 (.int .i64 3) v5_36) w5 fun v6_37 w6 =>
  CALL Try.prog 69 #[v6_37] w6 fun v7_38 w7 =>
  X Try.prog (Instr.extract v7_38 0) w7 fun v8_39 w8 =>
  X Try.prog (Instr.extract v7_38 1) w8 fun v9_40 w9 =>
  CALL Try.prog 99 #[v8_39, (.int .i64 3), v4_33, (.int .i64 12)] w9 fun v10_44 w10 =>
  X Try.prog (Instr.extract v10_44 0) w10 fun v11_45 w11 =>
  X Try.prog (Instr.extract v10_44 1) w11 fun v12_46 w12 =>
  X Try.prog (binOpG .eql 124 (.tmp 47) (.const (.pointer none)) v11_45 (.pointer none)) w12 fun v13_48 w13 =>
  B_law12_VaultBack_c13 v13_48 K v12_46 w13 x3 x4 v1_29 v11_45 x1 x2 v8_39 x0 v10_44 v4_33 v9_40 v7_38 v6_37 v5_36 v3_32 v2_31

/-- cellarage/cellaragelaw12.VaultBack -/
def B_law12_VaultBack (x0 x1 x2 x3 x4 : Value) (w : World) (K : Value → World → Prop) : Prop :=
  CALL Try.prog 98 #[] w fun v1_29 w1 =>
  X Try.prog (binOp .rem 5 x0 (.int .u8 4)) w1 fun v2_31 w2 =>
  X Try.prog (convert 5 3 v2_31) w2 fun v3_32 w3 =>
  B_law12_VaultBack_c14 v3_32 w3 K x3 x4 v1_29 x1 x2 x0 v2_31

theorem eq_law12_VaultBack (x0 x1 x2 x3 x4 : Value) (w : World) (K : Value → World → Prop) :
    sh Try.prog (Try.f32.body.getD .skip) (retS Try.prog Try.f32.results K) (env0 #[x0, x1, x2, x3, x4]) w = B_law12_VaultBack x0 x1 x2 x3 x4 w K := by kernel_rfl

theorem call_law12_VaultBack (x0 x1 x2 x3 x4 : Value) (w : World) (K : Value → World → Prop) (h : B_law12_VaultBack x0 x1 x2 x3 x4 w K) : CALL Try.prog 32 #[x0, x1, x2, x3, x4] w K :=
  call_of_eq (c := Try.f32.body.getD .skip) mixed Try.func32 (by kernel_rfl) (by kernel_rfl) (by kernel_rfl) (Nat.le_of_ble_eq_true (by kernel_rfl)) (eq_law12_VaultBack x0 x1 x2 x3 x4 w K) h

def B_law12_VaultShelves_c1 (v47_96 : Value) (w57 : World) (K : Value → World → Prop) (v46_95 : Value) (ρ3 : Env) (Q3 : Exit → Env → World → Prop) (v45_94 : Value) (v44_89 : Value) : Prop :=
  ∃ R, Frame? R ∧
  XP Try.prog (binOpG .neq 30 (.tmp 97) (.const (.int .i64 0)) v47_96 (.int .i64 0)) (drewW w57) fun v48_98 w58 =>
  gstep v48_98 false (fun w59 K => K v46_95 w59) w58 fun v49_100 w60 =>
  gstep v48_98 false (fun w61 K => XR Try.prog R (convert 27 9 v49_100) w61 K) w60 fun v50_101 w62 =>
  gstep v48_98 false (fun w63 K => K (ρ3 88) w63) w62 fun v51_102 w64 =>
  gstep v48_98 false (fun w65 K => XP Try.prog (Instr.indexAt 129 (ρ3 11) v51_102) w65 K) w64 fun v52_103 w66 =>
  gstep v48_98 false (fun w67 K => XR Try.prog R (Instr.loadAt 9 v52_103) w67 K) w66 fun v53_104 w68 =>
  gstep v48_98 false (fun w69 K => XP Try.prog (binOpG .neq 9 (.tmp 101) (.tmp 104) v50_101 v53_104) w69 K) w68 fun v54_105 w70 =>
  XP Try.prog (pickS v48_98 (.bool true) v54_105) w70 fun v55_106 w71 =>
  condS v55_106 (
  Q3 .ret (upds ρ3 [(4, (.bool false)), (106, v55_106), (105, v54_105), (104, v53_104), (103, v52_103), (102, v51_102), (101, v50_101), (100, v49_100), (99, v48_98), (98, v48_98), (97, v47_96), (18, v47_96), (17, v46_95), (96, v47_96), (95, v46_95), (91, v45_94), (94, v45_94), (93, (ρ3 88)), (92, (ρ3 9)), (16, (ρ3 88)), (90, (ρ3 88)), (89, v44_89)]) w71) (
  X Try.prog (binOp .add 3 (ρ3 88) (.int .i64 1)) w71 fun v56_107 w72 =>
  Q3 .normal (upds ρ3 [(88, v56_107), (107, v56_107), (106, v55_106), (105, v54_105), (104, v53_104), (103, v52_103), (102, v51_102), (101, v50_101), (100, v49_100), (99, v48_98), (98, v48_98), (97, v47_96), (18, v47_96), (17, v46_95), (96, v47_96), (95, v46_95), (91, v45_94), (94, v45_94), (93, (ρ3 88)), (92, (ρ3 9)), (16, (ρ3 88)), (90, (ρ3 88)), (89, v44_89)]) w72)

def B_law12_VaultShelves_c2 (K : Value → World → Prop) (Q1 : Exit → Env → World → Prop) (v36_71 : Value) (w51 : World) (v23_13 : Value) (ρ1 : Env) (v33_66 : Value) (v43_80 : Value) (v42_79 : Value) (v41_78 : Value) (v40_76 : Value) (v39_75 : Value) (v38_74 : Value) (v37_73 : Value) (v35_70 : Value) (v34_69 : Value) (v32_65 : Value) (v31_64 : Value) (v30_63 : Value) (v29_62 : Value) (v28_61 : Value) (v27_60 : Value) (v26_59 : Value) (v25_58 : Value) (v24_56 : Value) (v22_54 : Value) (v21_53 : Value) (v20_51 : Value) : Prop :=
  joinS (fun ρ2 w52 =>
  loopS (fun Q3 ρ3 w53 =>
  X Try.prog (binOp .lss 3 (ρ3 88) (.int .i64 7)) w53 fun v44_89 w54 =>
  condS v44_89 (
  CALL Try.prog 102 #[(ρ3 9), (ρ3 88)] w54 fun v45_94 w55 =>
  X Try.prog (Instr.extract v45_94 0) w55 fun v46_95 w56 =>
  X Try.prog (Instr.extract v45_94 1) w56 fun v47_96 w57 =>
  B_law12_VaultShelves_c1 v47_96 w57 K v46_95 ρ3 Q3 v45_94 v44_89) (
  Q3 (.exit 2) (upds ρ3 [(89, v44_89)]) w54)) (inBlockS 2 (inBlockS 1 (thenS (fun ρ4 w73 =>
  X Try.prog (binOp .add 3 (ρ4 50) (.int .i64 1)) w73 fun v57_108 w74 =>
  Q1 .normal (upds ρ4 [(50, v57_108), (108, v57_108)]) w74) Q1))) (upds ρ2 [(88, (.int .i64 0))]) w52) fun J2 =>
  X Try.prog (binOpG .eql 30 (.tmp 81) (.const (.int .i64 0)) v36_71 (.int .i64 0)) w51 fun v58_82 w75 =>
  condS v58_82 (
  X Try.prog (Instr.fieldAt 131 v23_13 1) w75 fun v59_84 w76 =>
  X Try.prog (Instr.loadAt 27 v59_84) w76 fun v60_85 w77 =>
  X Try.prog (convert 27 9 v60_85) w77 fun v61_86 w78 =>
  X Try.prog (Instr.indexAt 129 (ρ1 11) v33_66) w78 fun v62_87 w79 =>
  XU Try.prog (Instr.storeAt 9 v62_87 v61_86) w79 fun w80 =>
  J2 (upds ρ1 [(87, v62_87), (86, v61_86), (85, v60_85), (84, v59_84), (83, v33_66), (82, v58_82), (81, v36_71), (80, v43_80), (79, v42_79), (78, v41_78), (77, (ρ1 9)), (76, v40_76), (75, v39_75), (74, v38_74), (73, v37_73), (72, v36_71), (15, v36_71), (71, v36_71), (70, v35_70), (69, v34_69), (68, v33_66), (67, (ρ1 9)), (14, v33_66), (66, v33_66), (65, v32_65), (64, v31_64), (63, v30_63), (62, v29_62), (61, v28_61), (60, v27_60), (59, v26_59), (58, v25_58), (57, v24_56), (56, v24_56), (55, (ρ1 50)), (12, (ρ1 50)), (13, v23_13), (54, v22_54), (53, v21_53), (52, (ρ1 50)), (51, v20_51)]) w80) (
  J2 (upds ρ1 [(82, v58_82), (81, v36_71), (80, v43_80), (79, v42_79), (78, v41_78), (77, (ρ1 9)), (76, v40_76), (75, v39_75), (74, v38_74), (73, v37_73), (72, v36_71), (15, v36_71), (71, v36_71), (70, v35_70), (69, v34_69), (68, v33_66), (67, (ρ1 9)), (14, v33_66), (66, v33_66), (65, v32_65), (64, v31_64), (63, v30_63), (62, v29_62), (61, v28_61), (60, v27_60), (59, v26_59), (58, v25_58), (57, v24_56), (56, v24_56), (55, (ρ1 50)), (12, (ρ1 50)), (13, v23_13), (54, v22_54), (53, v21_53), (52, (ρ1 50)), (51, v20_51)]) w75)

def B_law12_VaultShelves_c3 (v36_71 : Value) (w44 : World) (v23_13 : Value) (ρ1 : Env) (Q1 : Exit → Env → World → Prop) (v35_70 : Value) (v34_69 : Value) (v33_66 : Value) (v32_65 : Value) (v31_64 : Value) (v30_63 : Value) (v29_62 : Value) (v28_61 : Value) (v27_60 : Value) (v26_59 : Value) (v25_58 : Value) (v24_56 : Value) (v22_54 : Value) (v21_53 : Value) (v20_51 : Value) (K : Value → World → Prop) : Prop :=
  ∃ R, Frame? R ∧
  XP Try.prog (binOpG .eql 30 (.tmp 72) (.const (.int .i64 0)) v36_71 (.int .i64 0)) (drewW w44) fun v37_73 w45 =>
  XP Try.prog (Instr.fieldAt 131 v23_13 1) w45 fun v38_74 w46 =>
  XR Try.prog R (Instr.loadAt 27 v38_74) w46 fun v39_75 w47 =>
  XP Try.prog (Builtin.len_ #[27] 3 #[v39_75]) w47 fun v40_76 w48 =>
  CALL Try.prog 101 #[(ρ1 9)] w48 fun v41_78 w49 =>
  R w48 w49 ∧
  XP Try.prog (binOp .leq 3 v40_76 v41_78) w49 fun v42_79 w50 =>
  XP Try.prog (binOpG .neq 4 (.tmp 73) (.tmp 79) v37_73 v42_79) w50 fun v43_80 w51 =>
  condS v43_80 (
  Q1 .ret (upds ρ1 [(4, (.bool false)), (80, v43_80), (79, v42_79), (78, v41_78), (77, (ρ1 9)), (76, v40_76), (75, v39_75), (74, v38_74), (73, v37_73), (72, v36_71), (15, v36_71), (71, v36_71), (70, v35_70), (69, v34_69), (68, v33_66), (67, (ρ1 9)), (14, v33_66), (66, v33_66), (65, v32_65), (64, v31_64), (63, v30_63), (62, v29_62), (61, v28_61), (60, v27_60), (59, v26_59), (58, v25_58), (57, v24_56), (56, v24_56), (55, (ρ1 50)), (12, (ρ1 50)), (13, v23_13), (54, v22_54), (53, v21_53), (52, (ρ1 50)), (51, v20_51)]) w51) (
  B_law12_VaultShelves_c2 K Q1 v36_71 w51 v23_13 ρ1 v33_66 v43_80 v42_79 v41_78 v40_76 v39_75 v38_74 v37_73 v35_70 v34_69 v32_65 v31_64 v30_63 v29_62 v28_61 v27_60 v26_59 v25_58 v24_56 v22_54 v21_53 v20_51)

def B_law12_VaultShelves_c4 (v24_56 : Value) (v28_61 : Value) (w36 : World) (Q1 : Exit → Env → World → Prop) (ρ1 : Env) (v27_60 : Value) (v26_59 : Value) (v25_58 : Value) (v23_13 : Value) (v22_54 : Value) (v21_53 : Value) (v20_51 : Value) (K : Value → World → Prop) : Prop :=
  X Try.prog (pickS v24_56 (.bool true) v28_61) w36 fun v29_62 w37 =>
  condS v29_62 (
  Q1 (.exit 0) (upds ρ1 [(62, v29_62), (61, v28_61), (60, v27_60), (59, v26_59), (58, v25_58), (57, v24_56), (56, v24_56), (55, (ρ1 50)), (12, (ρ1 50)), (13, v23_13), (54, v22_54), (53, v21_53), (52, (ρ1 50)), (51, v20_51)]) w37) (
  X Try.prog (Instr.fieldAt 131 v23_13 0) w37 fun v30_63 w38 =>
  X Try.prog (Instr.loadAt 5 v30_63) w38 fun v31_64 w39 =>
  X Try.prog (binOp .rem 5 v31_64 (.int .u8 7)) w39 fun v32_65 w40 =>
  X Try.prog (convert 5 3 v32_65) w40 fun v33_66 w41 =>
  X Try.prog (Instr.fieldAt 131 v23_13 1) w41 fun v34_69 w42 =>
  X Try.prog (Instr.loadAt 27 v34_69) w42 fun v35_70 w43 =>
  CALL Try.prog 100 #[(ρ1 9), v33_66, v35_70] w43 fun v36_71 w44 =>
  B_law12_VaultShelves_c3 v36_71 w44 v23_13 ρ1 Q1 v35_70 v34_69 v33_66 v32_65 v31_64 v30_63 v29_62 v28_61 v27_60 v26_59 v25_58 v24_56 v22_54 v21_53 v20_51 K)

def B_law12_VaultShelves_c5 (ρ1 : Env) (w22 : World) (K : Value → World → Prop) (Q1 : Exit → Env → World → Prop) : Prop :=
  X Try.prog (binOp .lss 3 (ρ1 50) (ρ1 49)) w22 fun v20_51 w23 =>
  condS v20_51 (
  X Try.prog (Instr.indexAt 128 (ρ1 48) (ρ1 50)) w23 fun v21_53 w24 =>
  X Try.prog (Instr.loadAt 131 v21_53) w24 fun v22_54 w25 =>
  X Try.prog (Instr.alloc 131 true (.tuple #[])) w25 fun v23_13 w26 =>
  XU Try.prog (Instr.storeAt 131 v23_13 v22_54) w26 fun w27 =>
  X Try.prog (binOp .geq 3 (ρ1 50) (.int .i64 60)) w27 fun v24_56 w28 =>
  gstep v24_56 false (fun w29 K => X Try.prog (Instr.fieldAt 131 v23_13 1) w29 K) w28 fun v25_58 w30 =>
  gstep v24_56 false (fun w31 K => X Try.prog (Instr.loadAt 27 v25_58) w31 K) w30 fun v26_59 w32 =>
  gstep v24_56 false (fun w33 K => X Try.prog (Builtin.len_ #[27] 3 #[v26_59]) w33 K) w32 fun v27_60 w34 =>
  gstep v24_56 false (fun w35 K => X Try.prog (binOp .gtr 3 v27_60 (.int .i64 600)) w35 K) w34 fun v28_61 w36 =>
  B_law12_VaultShelves_c4 v24_56 v28_61 w36 Q1 ρ1 v27_60 v26_59 v25_58 v23_13 v22_54 v21_53 v20_51 K) (
  Q1 (.exit 0) (upds ρ1 [(51, v20_51)]) w23)

def B_law12_VaultShelves_c6 (v74_126 : Value) (w94 : World) (K : Value → World → Prop) (v73_125 : Value) (Q6 : Exit → Env → World → Prop) (ρ6 : Env) (v72_124 : Value) (v71_120 : Value) (v70_119 : Value) (v69_118 : Value) : Prop :=
  ∃ R, Frame? R ∧
  XP Try.prog (binOpG .neq 30 (.tmp 127) (.const (.int .i64 0)) v74_126 (.int .i64 0)) (drewW w94) fun v75_128 w95 =>
  gstep v75_128 false (fun w96 K => K v73_125 w96) w95 fun v76_130 w97 =>
  gstep v75_128 false (fun w98 K => XR Try.prog R (convert 27 9 v76_130) w98 K) w97 fun v77_131 w99 =>
  gstep v75_128 false (fun w100 K => X Try.prog (Instr.makeSlice 27 (.int .i64 128) (.int .i64 128)) w100 K) w99 fun v78_132 w101 =>
  R w99 w101 ∧
  gstep v75_128 false (fun w102 K => XR Try.prog R (convert 27 9 v78_132) w102 K) w101 fun v79_133 w103 =>
  gstep v75_128 false (fun w104 K => XP Try.prog (binOpG .neq 9 (.tmp 131) (.tmp 133) v77_131 v79_133) w104 K) w103 fun v80_134 w105 =>
  XP Try.prog (pickS v75_128 (.bool true) v80_134) w105 fun v81_135 w106 =>
  condS v81_135 (
  Q6 .ret (upds ρ6 [(4, (.bool false)), (135, v81_135), (134, v80_134), (133, v79_133), (132, v78_132), (131, v77_131), (130, v76_130), (129, v75_128), (128, v75_128), (127, v74_126), (22, v74_126), (21, v73_125), (126, v74_126), (125, v73_125), (121, v72_124), (124, v72_124), (123, v71_120), (122, (ρ6 7)), (20, v71_120), (120, v71_120), (119, v70_119), (118, v69_118)]) w106) (
  X Try.prog (binOp .add 3 (ρ6 117) (.int .i64 1)) w106 fun v82_136 w107 =>
  Q6 .normal (upds ρ6 [(117, v82_136), (136, v82_136), (135, v81_135), (134, v80_134), (133, v79_133), (132, v78_132), (131, v77_131), (130, v76_130), (129, v75_128), (128, v75_128), (127, v74_126), (22, v74_126), (21, v73_125), (126, v74_126), (125, v73_125), (121, v72_124), (124, v72_124), (123, v71_120), (122, (ρ6 7)), (20, v71_120), (120, v71_120), (119, v70_119), (118, v69_118)]) w107)

def B_law12_VaultShelves_c7 (K : Value → World → Prop) (ρ5 : Env) (v68_116 : Value) (v67_115 : Value) (v66_114 : Value) (v65_113 : Value) (v64_111 : Value) (v63_110 : Value) (w87 : World) : Prop :=
  loopS (fun Q6 ρ6 w88 =>
  X Try.prog (binOp .lss 3 (ρ6 117) (ρ6 116)) w88 fun v69_118 w89 =>
  condS v69_118 (
  X Try.prog (Instr.indexAt 79 (ρ6 115) (ρ6 117)) w89 fun v70_119 w90 =>
  X Try.prog (Instr.loadAt 3 v70_119) w90 fun v71_120 w91 =>
  CALL Try.prog 73 #[(ρ6 7), v71_120] w91 fun v72_124 w92 =>
  X Try.prog (Instr.extract v72_124 0) w92 fun v73_125 w93 =>
  X Try.prog (Instr.extract v72_124 1) w93 fun v74_126 w94 =>
  B_law12_VaultShelves_c6 v74_126 w94 K v73_125 Q6 ρ6 v72_124 v71_120 v70_119 v69_118) (
  Q6 (.exit 4) (upds ρ6 [(118, v69_118)]) w89)) (inBlockS 4 (thenS (fun ρ7 w108 =>
  K (ρ7 5) w108) (retS Try.prog (Try.f33).results K))) (upds ρ5 [(117, (.int .i64 0)), (116, v68_116), (115, v67_115), (114, v66_114), (113, v65_113), (112, (ρ5 7)), (111, v64_111), (110, v63_110), (109, (ρ5 7))]) w87

def B_law12_VaultShelves_c8 (w19 : World) (x1 : Value) (K : Value → World → Prop) (x0 : Value) (v17_47 : Value) (v16_46 : Value) (v15_45 : Value) (v14_43 : Value) (v12_40 : Value) (v13_41 : Value) (v11_39 : Value) (v4_27 : Value) (v9_34 : Value) (v10_35 : Value) (v8_33 : Value) (v7_32 : Value) (v6_31 : Value) (v5_30 : Value) (v3_26 : Value) (v2_25 : Value) (v1_23 : Value) : Prop :=
  X Try.prog (Instr.alloc 129 true (.tuple #[])) w19 fun v18_11 w20 =>
  X Try.prog (Builtin.len_ #[128] 3 #[x1]) w20 fun v19_49 w21 =>
  loopS (fun Q1 ρ1 w22 =>
  B_law12_VaultShelves_c5 ρ1 w22 K Q1) (inBlockS 0 (thenS (fun ρ5 w81 =>
  CALL Try.prog 84 #[(ρ5 7)] w81 fun v63_110 w82 =>
  X Try.prog (binOp .sub 3 v63_110 (.int .i64 2)) w82 fun v64_111 w83 =>
  CALL Try.prog 84 #[(ρ5 7)] w83 fun v65_113 w84 =>
  X Try.prog (binOp .sub 3 v65_113 (.int .i64 1)) w84 fun v66_114 w85 =>
  X Try.prog (Instr.buildSlice 79 4 #[(0, (.int .i64 0)), (1, (.int .i64 1)), (2, v64_111), (3, v66_114)]) w85 fun v67_115 w86 =>
  X Try.prog (Builtin.len_ #[79] 3 #[v67_115]) w86 fun v68_116 w87 =>
  B_law12_VaultShelves_c7 K ρ5 v68_116 v67_115 v66_114 v65_113 v64_111 v63_110 w87) (retS Try.prog (Try.f33).results K))) (upds (env0 #[x0, x1]) [(50, (.int .i64 0)), (49, v19_49), (48, x1), (11, v18_11), (47, v17_47), (46, v16_46), (45, v15_45), (44, v14_43), (43, v14_43), (42, v12_40), (10, v13_41), (9, v12_40), (41, v13_41), (40, v12_40), (36, v11_39), (39, v11_39), (38, v4_27), (37, v9_34), (8, v10_35), (7, v9_34), (35, v10_35), (34, v9_34), (28, v8_33), (33, v8_33), (32, v7_32), (31, v6_31), (30, v5_30), (29, v4_27), (6, v4_27), (27, v4_27), (26, v3_26), (25, v2_25), (24, x0), (5, v1_23), (23, v1_23), (4, (.bool false))]) w21

def B_law12_VaultShelves_c9 (v8_33 : Value) (w9 : World) (v9_34 : Value) (v4_27 : Value) (K : Value → World → Prop) (x1 : Value) (x0 : Value) (v7_32 : Value) (v6_31 : Value) (v5_30 : Value) (v3_26 : Value) (v2_25 : Value) (v1_23 : Value) : Prop :=
  X Try.prog (Instr.extract v8_33 1) w9 fun v10_35 w10 =>
  CALL Try.prog 99 #[v9_34, (.int .i64 2), v4_27, (.int .i64 7)] w10 fun v11_39 w11 =>
  X Try.prog (Instr.extract v11_39 0) w11 fun v12_40 w12 =>
  X Try.prog (Instr.extract v11_39 1) w12 fun v13_41 w13 =>
  X Try.prog (binOpG .eql 124 (.tmp 42) (.const (.pointer none)) v12_40 (.pointer none)) w13 fun v14_43 w14 =>
  gstep v14_43 false (fun w15 K => K v13_41 w15) w14 fun v15_45 w16 =>
  gstep v14_43 false (fun w17 K => X Try.prog (binOpG .neq 30 (.tmp 45) (.const (.int .i64 0)) v15_45 (.int .i64 0)) w17 K) w16 fun v16_46 w18 =>
  X Try.prog (pickS v14_43 (.bool true) v16_46) w18 fun v17_47 w19 =>
  condS v17_47 (
  K (.bool false) w19) (
  B_law12_VaultShelves_c8 w19 x1 K x0 v17_47 v16_46 v15_45 v14_43 v12_40 v13_41 v11_39 v4_27 v9_34 v10_35 v8_33 v7_32 v6_31 v5_30 v3_26 v2_25 v1_23)

/-- cellarage/cellaragelaw12.VaultShelves -/
def B_law12_VaultShelves (x0 x1 : Value) (w : World) (K : Value → World → Prop) : Prop :=
  CALL Try.prog 98 #[] w fun v1_23 w1 =>
  X Try.prog (binOp .rem 5 x0 (.int .u8 4)) w1 fun v2_25 w2 =>
  X Try.prog (convert 5 3 v2_25) w2 fun v3_26 w3 =>
  X Try.prog (binOp .add 3 v3_26 (.int .i64 1)) w3 fun v4_27 w4 =>
  X Try.prog (binOp .mul 3 (.int .i64 7) v4_27) w4 fun v5_30 w5 =>
  X Try.prog (binOp .add 3 (.int .i64 2) v5_30) w5 fun v6_31 w6 =>
  X Try.prog (binOp .add 3 v6_31 (.int .i64 2)) w6 fun v7_32 w7 =>
  CALL Try.prog 69 #[v7_32] w7 fun v8_33 w8 =>
  X Try.prog (Instr.extract v8_33 0) w8 fun v9_34 w9 =>
  B_law12_VaultShelves_c9 v8_33 w9 v9_34 v4_27 K x1 x0 v7_32 v6_31 v5_30 v3_26 v2_25 v1_23

theorem eq_law12_VaultShelves (x0 x1 : Value) (w : World) (K : Value → World → Prop) :
    sh Try.prog (Try.f33.body.getD .skip) (retS Try.prog Try.f33.results K) (env0 #[x0, x1]) w = B_law12_VaultShelves x0 x1 w K := by kernel_rfl

theorem call_law12_VaultShelves (x0 x1 : Value) (w : World) (K : Value → World → Prop) (h : B_law12_VaultShelves x0 x1 w K) : CALL Try.prog 33 #[x0, x1] w K :=
  call_of_eq (c := Try.f33.body.getD .skip) mixed Try.func33 (by kernel_rfl) (by kernel_rfl) (by kernel_rfl) (Nat.le_of_ble_eq_true (by kernel_rfl)) (eq_law12_VaultShelves x0 x1 w K) h

def B_law12_VaultPlays_c1 (ρ2 : Env) (w76 : World) (K : Value → World → Prop) (Q1 : Exit → Env → World → Prop) : Prop :=
  ∃ R, Frame? R ∧
  XP Try.prog (nilS (ρ2 9)) (drewW w76) fun v60_187 w77 =>
  XP Try.prog (Instr.fieldAt 148 v60_187 4) w77 fun v61_188 w78 =>
  XR Try.prog R (Instr.loadAt 3 v61_188) w78 fun v62_189 w79 =>
  CALL Try.prog 79 #[(ρ2 7)] w79 fun v63_185 w80 =>
  R w79 w80 ∧
  XP Try.prog (binOpG .neq 3 (.tmp 185) (.tmp 189) v63_185 v62_189) w80 fun v64_190 w81 =>
  gstep v64_190 false (fun w82 K => K (ρ2 7) w82) w81 fun v65_192 w83 =>
  gstep v64_190 false (fun w84 K => K (ρ2 9) w84) w83 fun v66_194 w85 =>
  gstep v64_190 false (fun w86 K => XP Try.prog (nilS v66_194) w86 K) w85 fun v67_195 w87 =>
  gstep v64_190 false (fun w88 K => XP Try.prog (Instr.fieldAt 148 v67_195 2) w88 K) w87 fun v68_196 w89 =>
  gstep v64_190 false (fun w90 K => XR Try.prog R (Instr.loadAt 4 v68_196) w90 K) w89 fun v69_197 w91 =>
  gstep v64_190 false (fun w92 K => CALL Try.prog 76 #[v65_192] w92 K) w91 fun v70_193 w93 =>
  R w91 w93 ∧
  gstep v64_190 false (fun w94 K => XP Try.prog (binOpG .neq 4 (.tmp 193) (.tmp 197) v70_193 v69_197) w94 K) w93 fun v71_198 w95 =>
  XP Try.prog (pickS v64_190 (.bool true) v71_198) w95 fun v72_199 w96 =>
  condS v72_199 (
  Q1 .ret (upds ρ2 [(4, (.bool false)), (199, v72_199), (198, v71_198), (193, v70_193), (197, v69_197), (196, v68_196), (195, v67_195), (194, v66_194), (192, v65_192), (191, v64_190), (190, v64_190), (185, v63_185), (189, v62_189), (188, v61_188), (187, v60_187), (186, (ρ2 9)), (184, (ρ2 7))]) w96) (
  X Try.prog (binOp .add 3 (ρ2 95) (.int .i64 1)) w96 fun v73_200 w97 =>
  Q1 .normal (upds ρ2 [(95, v73_200), (200, v73_200), (199, v72_199), (198, v71_198), (193, v70_193), (197, v69_197), (196, v68_196), (195, v67_195), (194, v66_194), (192, v65_192), (191, v64_190), (190, v64_190), (185, v63_185), (189, v62_189), (188, v61_188), (187, v60_187), (186, (ρ2 9)), (184, (ρ2 7))]) w97)

def B_law12_VaultPlays_c2 (v59_16 : Value) (w101 : World) (ρ1 : Env) (Q1 : Exit → Env → World → Prop) (v77_111 : Value) (v76_101 : Value) (v75_100 : Value) (v74_99 : Value) (v58_98 : Value) (v57_97 : Value) (v56_96 : Value) (J2 : Env → World → Prop) : Prop :=
  ∃ R, Frame? R ∧
  XP Try.prog (Instr.fieldAt 142 v59_16 1) (drewW w101) fun v78_113 w102 =>
  XR Try.prog R (Instr.loadAt 3 v78_113) w102 fun v79_114 w103 =>
  XP Try.prog (Instr.fieldAt 142 v59_16 3) w103 fun v80_116 w104 =>
  XR Try.prog R (Instr.loadAt 27 v80_116) w104 fun v81_117 w105 =>
  XR Try.prog R (Instr.loadAt 138 (ρ1 13)) w105 fun v82_120 w106 =>
  XP Try.prog (Instr.fieldAt 142 v59_16 1) w106 fun v83_121 w107 =>
  XR Try.prog R (Instr.loadAt 3 v83_121) w107 fun v84_122 w108 =>
  XP Try.prog (Instr.fieldAt 142 v59_16 3) w108 fun v85_123 w109 =>
  XR Try.prog R (Instr.loadAt 27 v85_123) w109 fun v86_124 w110 =>
  XR Try.prog R (convert 27 9 v86_124) w110 fun v87_125 w111 =>
  X Try.prog (Instr.buildSlice 27 0 #[]) w111 fun v88_115 w112 =>
  R w111 w112 ∧
  X Try.prog (Builtin.append_ #[27, 27] 27 #[v88_115, v81_117]) w112 fun v89_118 w113 =>
  R w112 w113 ∧
  CALL Try.prog 100 #[(ρ1 11), v79_114, v89_118] w113 fun v90_119 w114 =>
  R w113 w114 ∧
  CALL Try.prog 107 #[v82_120, v84_122, v87_125] w114 fun v91_126 w115 =>
  R w114 w115 ∧
  XP Try.prog (binOpG .neq 30 (.tmp 119) (.tmp 126) v90_119 v91_126) w115 fun v92_127 w116 =>
  condS v92_127 (
  Q1 .ret (upds ρ1 [(4, (.bool false)), (127, v92_127), (126, v91_126), (119, v90_119), (118, v89_118), (115, v88_115), (125, v87_125), (124, v86_124), (123, v85_123), (122, v84_122), (121, v83_121), (120, v82_120), (117, v81_117), (116, v80_116), (114, v79_114), (113, v78_113), (112, (ρ1 11)), (110, v77_111), (111, v77_111), (101, v76_101), (100, v75_100), (99, v74_99), (16, v59_16), (98, v58_98), (97, v57_97), (96, v56_96)]) w116) (
  J2 (upds ρ1 [(127, v92_127), (126, v91_126), (119, v90_119), (118, v89_118), (115, v88_115), (125, v87_125), (124, v86_124), (123, v85_123), (122, v84_122), (121, v83_121), (120, v82_120), (117, v81_117), (116, v80_116), (114, v79_114), (113, v78_113), (112, (ρ1 11)), (110, v77_111), (111, v77_111), (101, v76_101), (100, v75_100), (99, v74_99), (16, v59_16), (98, v58_98), (97, v57_97), (96, v56_96)]) w116)

def B_law12_VaultPlays_c3 (v102_141 : Value) (w126 : World) (v97_135 : Value) (K : Value → World → Prop) (v98_136 : Value) (Q1 : Exit → Env → World → Prop) (ρ1 : Env) (v101_140 : Value) (v100_139 : Value) (v99_138 : Value) (v96_134 : Value) (v95_133 : Value) (v94_132 : Value) (v93_129 : Value) (v77_111 : Value) (v76_101 : Value) (v75_100 : Value) (v74_99 : Value) (v59_16 : Value) (v58_98 : Value) (v57_97 : Value) (v56_96 : Value) (J2 : Env → World → Prop) : Prop :=
  X Try.prog (Instr.extract v102_141 0) w126 fun v103_142 w127 =>
  X Try.prog (Instr.extract v102_141 1) w127 fun v104_143 w128 =>
  X Try.prog (convert 27 9 v97_135) w128 fun v105_145 w129 =>
  X Try.prog (binOpG .neq 9 (.tmp 145) (.tmp 146) v105_145 v103_142) w129 fun v106_147 w130 =>
  gstep v106_147 false (fun w131 K => K v98_136 w131) w130 fun v107_149 w132 =>
  gstep v106_147 false (fun w133 K => K v104_143 w133) w132 fun v108_150 w134 =>
  gstep v106_147 false (fun w135 K => X Try.prog (binOpG .neq 30 (.tmp 149) (.tmp 150) v107_149 v108_150) w135 K) w134 fun v109_151 w136 =>
  X Try.prog (pickS v106_147 (.bool true) v109_151) w136 fun v110_152 w137 =>
  condS v110_152 (
  Q1 .ret (upds ρ1 [(4, (.bool false)), (152, v110_152), (151, v109_151), (150, v108_150), (149, v107_149), (148, v106_147), (147, v106_147), (146, v103_142), (145, v105_145), (144, v97_135), (20, v104_143), (19, v103_142), (143, v104_143), (142, v103_142), (137, v102_141), (141, v102_141), (140, v101_140), (139, v100_139), (138, v99_138), (18, v98_136), (17, v97_135), (136, v98_136), (135, v97_135), (130, v96_134), (134, v96_134), (133, v95_133), (132, v94_132), (131, (ρ1 11)), (128, v93_129), (129, v93_129), (110, v77_111), (111, v77_111), (101, v76_101), (100, v75_100), (99, v74_99), (16, v59_16), (98, v58_98), (97, v57_97), (96, v56_96)]) w137) (
  J2 (upds ρ1 [(152, v110_152), (151, v109_151), (150, v108_150), (149, v107_149), (148, v106_147), (147, v106_147), (146, v103_142), (145, v105_145), (144, v97_135), (20, v104_143), (19, v103_142), (143, v104_143), (142, v103_142), (137, v102_141), (141, v102_141), (140, v101_140), (139, v100_139), (138, v99_138), (18, v98_136), (17, v97_135), (136, v98_136), (135, v97_135), (130, v96_134), (134, v96_134), (133, v95_133), (132, v94_132), (131, (ρ1 11)), (128, v93_129), (129, v93_129), (110, v77_111), (111, v77_111), (101, v76_101), (100, v75_100), (99, v74_99), (16, v59_16), (98, v58_98), (97, v57_97), (96, v56_96)]) w137)

def B_law12_VaultPlays_c4 (v112_156 : Value) (w139 : World) (v59_16 : Value) (ρ1 : Env) (J2 : Env → World → Prop) (v111_154 : Value) (v93_129 : Value) (v77_111 : Value) (v76_101 : Value) (v75_100 : Value) (v74_99 : Value) (v58_98 : Value) (v57_97 : Value) (v56_96 : Value) : Prop :=
  X Try.prog (Instr.loadAt 3 v112_156) w139 fun v113_157 w140 =>
  X Try.prog (Instr.fieldAt 142 v59_16 3) w140 fun v114_158 w141 =>
  X Try.prog (Instr.loadAt 27 v114_158) w141 fun v115_159 w142 =>
  CALL Try.prog 70 #[(ρ1 7), v113_157, v115_159] w142 fun v116_160 w143 =>
  X Try.prog (Instr.fieldAt 142 v59_16 1) w143 fun v117_162 w144 =>
  X Try.prog (Instr.loadAt 3 v117_162) w144 fun v118_163 w145 =>
  X Try.prog (Instr.fieldAt 142 v59_16 3) w145 fun v119_164 w146 =>
  X Try.prog (Instr.loadAt 27 v119_164) w146 fun v120_165 w147 =>
  X Try.prog (convert 27 9 v120_165) w147 fun v121_166 w148 =>
  CALL Try.prog 109 #[(ρ1 9), v118_163, v121_166] w148 fun v122_167 w149 =>
  J2 (upds ρ1 [(167, v122_167), (166, v121_166), (165, v120_165), (164, v119_164), (163, v118_163), (162, v117_162), (161, (ρ1 9)), (160, v116_160), (159, v115_159), (158, v114_158), (157, v113_157), (156, v112_156), (155, (ρ1 7)), (153, v111_154), (154, v111_154), (128, v93_129), (129, v93_129), (110, v77_111), (111, v77_111), (101, v76_101), (100, v75_100), (99, v74_99), (16, v59_16), (98, v58_98), (97, v57_97), (96, v56_96)]) w149

def B_law12_VaultPlays_c5 (v126_175 : Value) (v59_16 : Value) (w153 : World) (ρ1 : Env) (J2 : Env → World → Prop) (v123_169 : Value) (v111_154 : Value) (v93_129 : Value) (v77_111 : Value) (v76_101 : Value) (v75_100 : Value) (v74_99 : Value) (v58_98 : Value) (v57_97 : Value) (v56_96 : Value) : Prop :=
  condS v126_175 (
  X Try.prog (Instr.fieldAt 142 v59_16 2) w153 fun v127_177 w154 =>
  X Try.prog (Instr.loadAt 3 v127_177) w154 fun v128_178 w155 =>
  CALL Try.prog 78 #[(ρ1 7), v128_178] w155 fun v129_179 w156 =>
  X Try.prog (Instr.fieldAt 142 v59_16 2) w156 fun v130_181 w157 =>
  X Try.prog (Instr.loadAt 3 v130_181) w157 fun v131_182 w158 =>
  CALL Try.prog 111 #[(ρ1 9), v131_182] w158 fun v132_183 w159 =>
  J2 (upds ρ1 [(183, v132_183), (182, v131_182), (181, v130_181), (180, (ρ1 9)), (179, v129_179), (178, v128_178), (177, v127_177), (176, (ρ1 7)), (174, v126_175), (175, v126_175), (168, v123_169), (169, v123_169), (153, v111_154), (154, v111_154), (128, v93_129), (129, v93_129), (110, v77_111), (111, v77_111), (101, v76_101), (100, v75_100), (99, v74_99), (16, v59_16), (98, v58_98), (97, v57_97), (96, v56_96)]) w159) (
  X Try.prog (Instr.fieldAt 142 v59_16 4) w153 fun v133_103 w160 =>
  X Try.prog (Instr.loadAt 79 v133_103) w160 fun v134_104 w161 =>
  CALL Try.prog 72 #[(ρ1 7), v134_104] w161 fun v135_105 w162 =>
  X Try.prog (Instr.fieldAt 142 v59_16 4) w162 fun v136_107 w163 =>
  X Try.prog (Instr.loadAt 79 v136_107) w163 fun v137_108 w164 =>
  CALL Try.prog 112 #[(ρ1 9), v137_108] w164 fun v138_109 w165 =>
  J2 (upds ρ1 [(109, v138_109), (108, v137_108), (107, v136_107), (106, (ρ1 9)), (105, v135_105), (104, v134_104), (103, v133_103), (102, (ρ1 7)), (174, v126_175), (175, v126_175), (168, v123_169), (169, v123_169), (153, v111_154), (154, v111_154), (128, v93_129), (129, v93_129), (110, v77_111), (111, v77_111), (101, v76_101), (100, v75_100), (99, v74_99), (16, v59_16), (98, v58_98), (97, v57_97), (96, v56_96)]) w165)

def B_law12_VaultPlays_c6 (v76_101 : Value) (w117 : World) (v59_16 : Value) (ρ1 : Env) (J2 : Env → World → Prop) (v93_129 : Value) (v77_111 : Value) (v75_100 : Value) (v74_99 : Value) (v58_98 : Value) (v57_97 : Value) (v56_96 : Value) : Prop :=
  X Try.prog (binOpG .eql 5 (.tmp 101) (.const (.int .u8 2)) v76_101 (.int .u8 2)) w117 fun v111_154 w138 =>
  condS v111_154 (
  X Try.prog (Instr.fieldAt 142 v59_16 1) w138 fun v112_156 w139 =>
  B_law12_VaultPlays_c4 v112_156 w139 v59_16 ρ1 J2 v111_154 v93_129 v77_111 v76_101 v75_100 v74_99 v58_98 v57_97 v56_96) (
  X Try.prog (binOpG .eql 5 (.tmp 101) (.const (.int .u8 3)) v76_101 (.int .u8 3)) w138 fun v123_169 w150 =>
  condS v123_169 (
  CALL Try.prog 71 #[(ρ1 7)] w150 fun v124_171 w151 =>
  CALL Try.prog 110 #[(ρ1 9)] w151 fun v125_173 w152 =>
  J2 (upds ρ1 [(173, v125_173), (172, (ρ1 9)), (171, v124_171), (170, (ρ1 7)), (168, v123_169), (169, v123_169), (153, v111_154), (154, v111_154), (128, v93_129), (129, v93_129), (110, v77_111), (111, v77_111), (101, v76_101), (100, v75_100), (99, v74_99), (16, v59_16), (98, v58_98), (97, v57_97), (96, v56_96)]) w152) (
  X Try.prog (binOpG .eql 5 (.tmp 101) (.const (.int .u8 4)) v76_101 (.int .u8 4)) w150 fun v126_175 w153 =>
  B_law12_VaultPlays_c5 v126_175 v59_16 w153 ρ1 J2 v123_169 v111_154 v93_129 v77_111 v76_101 v75_100 v74_99 v58_98 v57_97 v56_96))

def B_law12_VaultPlays_c7 (v93_129 : Value) (v59_16 : Value) (w117 : World) (ρ1 : Env) (K : Value → World → Prop) (Q1 : Exit → Env → World → Prop) (v77_111 : Value) (v76_101 : Value) (v75_100 : Value) (v74_99 : Value) (v58_98 : Value) (v57_97 : Value) (v56_96 : Value) (J2 : Env → World → Prop) : Prop :=
  condS v93_129 (
  X Try.prog (Instr.fieldAt 142 v59_16 1) w117 fun v94_132 w118 =>
  X Try.prog (Instr.loadAt 3 v94_132) w118 fun v95_133 w119 =>
  CALL Try.prog 102 #[(ρ1 11), v95_133] w119 fun v96_134 w120 =>
  X Try.prog (Instr.extract v96_134 0) w120 fun v97_135 w121 =>
  X Try.prog (Instr.extract v96_134 1) w121 fun v98_136 w122 =>
  X Try.prog (Instr.loadAt 138 (ρ1 13)) w122 fun v99_138 w123 =>
  X Try.prog (Instr.fieldAt 142 v59_16 1) w123 fun v100_139 w124 =>
  X Try.prog (Instr.loadAt 3 v100_139) w124 fun v101_140 w125 =>
  CALL Try.prog 108 #[v99_138, v101_140] w125 fun v102_141 w126 =>
  B_law12_VaultPlays_c3 v102_141 w126 v97_135 K v98_136 Q1 ρ1 v101_140 v100_139 v99_138 v96_134 v95_133 v94_132 v93_129 v77_111 v76_101 v75_100 v74_99 v59_16 v58_98 v57_97 v56_96 J2) (
  B_law12_VaultPlays_c6 v76_101 w117 v59_16 ρ1 J2 v93_129 v77_111 v75_100 v74_99 v58_98 v57_97 v56_96)

def B_law12_VaultPlays_c8 (v59_16 : Value) (v58_98 : Value) (w74 : World) (K : Value → World → Prop) (Q1 : Exit → Env → World → Prop) (ρ1 : Env) (v57_97 : Value) (v56_96 : Value) : Prop :=
  XU Try.prog (Instr.storeAt 142 v59_16 v58_98) w74 fun w75 =>
  joinS (fun ρ2 w76 =>
  B_law12_VaultPlays_c1 ρ2 w76 K Q1) fun J2 =>
  X Try.prog (Instr.fieldAt 142 v59_16 0) w75 fun v74_99 w98 =>
  X Try.prog (Instr.loadAt 5 v74_99) w98 fun v75_100 w99 =>
  X Try.prog (binOp .rem 5 v75_100 (.int .u8 6)) w99 fun v76_101 w100 =>
  X Try.prog (binOpG .eql 5 (.tmp 101) (.const (.int .u8 0)) v76_101 (.int .u8 0)) w100 fun v77_111 w101 =>
  condS v77_111 (
  B_law12_VaultPlays_c2 v59_16 w101 ρ1 Q1 v77_111 v76_101 v75_100 v74_99 v58_98 v57_97 v56_96 J2) (
  X Try.prog (binOpG .eql 5 (.tmp 101) (.const (.int .u8 1)) v76_101 (.int .u8 1)) w101 fun v93_129 w117 =>
  B_law12_VaultPlays_c7 v93_129 v59_16 w117 ρ1 K Q1 v77_111 v76_101 v75_100 v74_99 v58_98 v57_97 v56_96 J2)

def B_law12_VaultPlays_c9 (v143_214 : Value) (w173 : World) (v141_209 : Value) (v144_215 : Value) (K : Value → World → Prop) (v142_210 : Value) (Q4 : Exit → Env → World → Prop) (ρ4 : Env) (v140_208 : Value) (v139_203 : Value) : Prop :=
  X Try.prog (Instr.extract v143_214 1) w173 fun v145_216 w174 =>
  X Try.prog (convert 27 9 v141_209) w174 fun v146_218 w175 =>
  X Try.prog (binOpG .neq 9 (.tmp 218) (.tmp 219) v146_218 v144_215) w175 fun v147_220 w176 =>
  gstep v147_220 false (fun w177 K => K v142_210 w177) w176 fun v148_222 w178 =>
  gstep v147_220 false (fun w179 K => K v145_216 w179) w178 fun v149_223 w180 =>
  gstep v147_220 false (fun w181 K => X Try.prog (binOpG .neq 30 (.tmp 222) (.tmp 223) v148_222 v149_223) w181 K) w180 fun v150_224 w182 =>
  X Try.prog (pickS v147_220 (.bool true) v150_224) w182 fun v151_225 w183 =>
  condS v151_225 (
  Q4 .ret (upds ρ4 [(4, (.bool false)), (225, v151_225), (224, v150_224), (223, v149_223), (222, v148_222), (221, v147_220), (220, v147_220), (219, v144_215), (218, v146_218), (217, v141_209), (25, v145_216), (24, v144_215), (216, v145_216), (215, v144_215), (211, v143_214), (214, v143_214), (213, (ρ4 202)), (212, (ρ4 9)), (23, v142_210), (22, v141_209), (210, v142_210), (209, v141_209), (205, v140_208), (208, v140_208), (207, (ρ4 202)), (206, (ρ4 7)), (21, (ρ4 202)), (204, (ρ4 202)), (203, v139_203)]) w183) (
  X Try.prog (binOp .add 3 (ρ4 202) (.int .i64 1)) w183 fun v152_226 w184 =>
  Q4 .normal (upds ρ4 [(202, v152_226), (226, v152_226), (225, v151_225), (224, v150_224), (223, v149_223), (222, v148_222), (221, v147_220), (220, v147_220), (219, v144_215), (218, v146_218), (217, v141_209), (25, v145_216), (24, v144_215), (216, v145_216), (215, v144_215), (211, v143_214), (214, v143_214), (213, (ρ4 202)), (212, (ρ4 9)), (23, v142_210), (22, v141_209), (210, v142_210), (209, v141_209), (205, v140_208), (208, v140_208), (207, (ρ4 202)), (206, (ρ4 7)), (21, (ρ4 202)), (204, (ρ4 202)), (203, v139_203)]) w184)

def B_law12_VaultPlays_c10 (K : Value → World → Prop) (ρ3 : Env) (w166 : World) : Prop :=
  loopS (fun Q4 ρ4 w167 =>
  X Try.prog (binOp .lss 3 (ρ4 202) (ρ4 201)) w167 fun v139_203 w168 =>
  condS v139_203 (
  CALL Try.prog 73 #[(ρ4 7), (ρ4 202)] w168 fun v140_208 w169 =>
  X Try.prog (Instr.extract v140_208 0) w169 fun v141_209 w170 =>
  X Try.prog (Instr.extract v140_208 1) w170 fun v142_210 w171 =>
  CALL Try.prog 113 #[(ρ4 9), (ρ4 202)] w171 fun v143_214 w172 =>
  X Try.prog (Instr.extract v143_214 0) w172 fun v144_215 w173 =>
  B_law12_VaultPlays_c9 v143_214 w173 v141_209 v144_215 K v142_210 Q4 ρ4 v140_208 v139_203) (
  Q4 (.exit 3) (upds ρ4 [(203, v139_203)]) w168)) (inBlockS 3 (thenS (fun ρ5 w185 =>
  K (ρ5 5) w185) (retS Try.prog (Try.f35).results K))) (upds ρ3 [(202, (.int .i64 0)), (201, (ρ3 6))]) w166

def B_law12_VaultPlays_c11 (x1 : Value) (w67 : World) (K : Value → World → Prop) (x0 : Value) (v53_91 : Value) (v52_90 : Value) (v51_87 : Value) (v50_89 : Value) (v49_88 : Value) (v48_86 : Value) (v47_84 : Value) (v46_83 : Value) (v45_81 : Value) (v44_82 : Value) (v20_50 : Value) (v43_78 : Value) (v30_62 : Value) (v42_76 : Value) (v41_75 : Value) (v40_74 : Value) (v39_73 : Value) (v38_72 : Value) (v37_71 : Value) (v36_69 : Value) (v35_68 : Value) (v34_67 : Value) (v33_66 : Value) (v32_64 : Value) (v8_34 : Value) (v31_13 : Value) (v29_61 : Value) (v28_60 : Value) (v27_59 : Value) (v26_58 : Value) (v25_57 : Value) (v24_56 : Value) (v23_55 : Value) (v22_54 : Value) (v11_39 : Value) (v21_51 : Value) (v19_49 : Value) (v18_48 : Value) (v17_47 : Value) (v16_46 : Value) (v15_45 : Value) (v14_44 : Value) (v13_43 : Value) (v12_40 : Value) (v10_38 : Value) (v6_30 : Value) (v9_35 : Value) (v7_33 : Value) (v5_29 : Value) (v4_28 : Value) (v3_27 : Value) (v2_26 : Value) (v1_2 : Value) : Prop :=
  CALL Try.prog 106 #[x1] w67 fun v54_93 w68 =>
  X Try.prog (Builtin.len_ #[136] 3 #[v54_93]) w68 fun v55_94 w69 =>
  loopS (fun Q1 ρ1 w70 =>
  X Try.prog (binOp .lss 3 (ρ1 95) (ρ1 94)) w70 fun v56_96 w71 =>
  condS v56_96 (
  X Try.prog (Instr.indexAt 136 (ρ1 93) (ρ1 95)) w71 fun v57_97 w72 =>
  X Try.prog (Instr.loadAt 142 v57_97) w72 fun v58_98 w73 =>
  X Try.prog (Instr.alloc 142 true (.tuple #[])) w73 fun v59_16 w74 =>
  B_law12_VaultPlays_c8 v59_16 v58_98 w74 K Q1 ρ1 v57_97 v56_96) (
  Q1 (.exit 0) (upds ρ1 [(96, v56_96)]) w71)) (inBlockS 0 (thenS (fun ρ3 w166 =>
  B_law12_VaultPlays_c10 K ρ3 w166) (retS Try.prog (Try.f35).results K))) (upds (env0 #[x0, x1]) [(95, (.int .i64 0)), (94, v55_94), (93, v54_93), (92, x1), (91, v53_91), (90, v52_90), (87, v51_87), (89, v50_89), (88, v49_88), (86, v48_86), (85, v47_84), (84, v47_84), (83, v46_83), (81, v45_81), (82, v44_82), (80, v20_50), (78, v43_78), (77, v30_62), (76, v42_76), (75, v41_75), (74, v40_74), (73, v39_73), (72, v38_72), (71, v37_71), (70, v36_69), (69, v36_69), (68, v35_68), (67, v34_67), (66, v33_66), (65, v32_64), (64, v32_64), (63, v8_34), (14, v30_62), (13, v31_13), (62, v30_62), (61, v29_61), (52, v28_60), (60, v28_60), (59, v27_59), (58, v26_58), (57, v25_57), (56, v24_56), (55, v23_55), (54, v22_54), (53, v11_39), (12, v21_51), (11, v20_50), (51, v21_51), (50, v20_50), (41, v19_49), (49, v19_49), (48, v18_48), (47, v17_47), (46, v16_46), (45, v15_45), (44, v14_44), (43, v13_43), (42, v8_34), (10, v12_40), (9, v11_39), (40, v12_40), (39, v11_39), (36, v10_38), (38, v10_38), (37, v6_30), (8, v9_35), (7, v8_34), (35, v9_35), (34, v8_34), (31, v7_33), (33, v7_33), (32, v6_30), (6, v6_30), (30, v6_30), (29, v5_29), (28, v4_28), (27, v3_27), (5, v2_26), (26, v2_26), (4, (.bool false)), (2, v1_2)]) w69

def B_law12_VaultPlays_c12 (v31_13 : Value) (w52 : World) (v20_50 : Value) (K : Value → World → Prop) (x1 : Value) (x0 : Value) (v43_78 : Value) (v30_62 : Value) (v42_76 : Value) (v41_75 : Value) (v40_74 : Value) (v39_73 : Value) (v38_72 : Value) (v37_71 : Value) (v36_69 : Value) (v35_68 : Value) (v34_67 : Value) (v33_66 : Value) (v32_64 : Value) (v8_34 : Value) (v29_61 : Value) (v28_60 : Value) (v27_59 : Value) (v26_58 : Value) (v25_57 : Value) (v24_56 : Value) (v23_55 : Value) (v22_54 : Value) (v11_39 : Value) (v21_51 : Value) (v19_49 : Value) (v18_48 : Value) (v17_47 : Value) (v16_46 : Value) (v15_45 : Value) (v14_44 : Value) (v13_43 : Value) (v12_40 : Value) (v10_38 : Value) (v6_30 : Value) (v9_35 : Value) (v7_33 : Value) (v5_29 : Value) (v4_28 : Value) (v3_27 : Value) (v2_26 : Value) (v1_2 : Value) : Prop :=
  ∃ R, Frame? R ∧
  XR Try.prog R (Instr.loadAt 138 v31_13) (drewW w52) fun v44_82 w53 =>
  CALL Try.prog 101 #[v20_50] w53 fun v45_81 w54 =>
  R w53 w54 ∧
  CALL Try.prog 105 #[v44_82] w54 fun v46_83 w55 =>
  XP Try.prog (binOpG .neq 3 (.tmp 81) (.tmp 83) v45_81 v46_83) w55 fun v47_84 w56 =>
  gstep v47_84 false (fun w57 K => K v20_50 w57) w56 fun v48_86 w58 =>
  gstep v47_84 false (fun w59 K => XP Try.prog (Instr.fieldAt 138 v31_13 3) w59 K) w58 fun v49_88 w60 =>
  gstep v47_84 false (fun w61 K => XR Try.prog R (Instr.loadAt 3 v49_88) w61 K) w60 fun v50_89 w62 =>
  gstep v47_84 false (fun w63 K => CALL Try.prog 103 #[v48_86] w63 K) w62 fun v51_87 w64 =>
  R w62 w64 ∧
  gstep v47_84 false (fun w65 K => XP Try.prog (binOpG .neq 3 (.tmp 87) (.tmp 89) v51_87 v50_89) w65 K) w64 fun v52_90 w66 =>
  XP Try.prog (pickS v47_84 (.bool true) v52_90) w66 fun v53_91 w67 =>
  condS v53_91 (
  K (.bool false) w67) (
  B_law12_VaultPlays_c11 x1 w67 K x0 v53_91 v52_90 v51_87 v50_89 v49_88 v48_86 v47_84 v46_83 v45_81 v44_82 v20_50 v43_78 v30_62 v42_76 v41_75 v40_74 v39_73 v38_72 v37_71 v36_69 v35_68 v34_67 v33_66 v32_64 v8_34 v31_13 v29_61 v28_60 v27_59 v26_58 v25_57 v24_56 v23_55 v22_54 v11_39 v21_51 v19_49 v18_48 v17_47 v16_46 v15_45 v14_44 v13_43 v12_40 v10_38 v6_30 v9_35 v7_33 v5_29 v4_28 v3_27 v2_26 v1_2)

def B_law12_VaultPlays_c13 (v36_69 : Value) (K : Value → World → Prop) (v37_71 : Value) (w42 : World) (v30_62 : Value) (v2_26 : Value) (v31_13 : Value) (v20_50 : Value) (x1 : Value) (x0 : Value) (v35_68 : Value) (v34_67 : Value) (v33_66 : Value) (v32_64 : Value) (v8_34 : Value) (v29_61 : Value) (v28_60 : Value) (v27_59 : Value) (v26_58 : Value) (v25_57 : Value) (v24_56 : Value) (v23_55 : Value) (v22_54 : Value) (v11_39 : Value) (v21_51 : Value) (v19_49 : Value) (v18_48 : Value) (v17_47 : Value) (v16_46 : Value) (v15_45 : Value) (v14_44 : Value) (v13_43 : Value) (v12_40 : Value) (v10_38 : Value) (v6_30 : Value) (v9_35 : Value) (v7_33 : Value) (v5_29 : Value) (v4_28 : Value) (v3_27 : Value) (v1_2 : Value) : Prop :=
  gstep v36_69 false (fun w43 K => X Try.prog (binOpG .neq 124 (.tmp 71) (.const (.pointer none)) v37_71 (.pointer none)) w43 K) w42 fun v38_72 w44 =>
  gstep v36_69 false (fun w45 K => K v30_62 w45) w44 fun v39_73 w46 =>
  gstep v36_69 false (fun w47 K => X Try.prog (binOpG .eql 30 (.tmp 73) (.const (.int .i64 0)) v39_73 (.int .i64 0)) w47 K) w46 fun v40_74 w48 =>
  gstep v36_69 false (fun w49 K => X Try.prog (binOpG .neq 4 (.tmp 72) (.tmp 74) v38_72 v40_74) w49 K) w48 fun v41_75 w50 =>
  X Try.prog (pickS v36_69 (.bool true) v41_75) w50 fun v42_76 w51 =>
  condS v42_76 (
  K (.bool false) w51) (
  X Try.prog (binOpG .neq 30 (.tmp 77) (.const (.int .i64 0)) v30_62 (.int .i64 0)) w51 fun v43_78 w52 =>
  condS v43_78 (
  K v2_26 w52) (
  B_law12_VaultPlays_c12 v31_13 w52 v20_50 K x1 x0 v43_78 v30_62 v42_76 v41_75 v40_74 v39_73 v38_72 v37_71 v36_69 v35_68 v34_67 v33_66 v32_64 v8_34 v29_61 v28_60 v27_59 v26_58 v25_57 v24_56 v23_55 v22_54 v11_39 v21_51 v19_49 v18_48 v17_47 v16_46 v15_45 v14_44 v13_43 v12_40 v10_38 v6_30 v9_35 v7_33 v5_29 v4_28 v3_27 v2_26 v1_2))

def B_law12_VaultPlays_c14 (v28_60 : Value) (w28 : World) (v8_34 : Value) (K : Value → World → Prop) (v21_51 : Value) (v20_50 : Value) (v2_26 : Value) (x1 : Value) (x0 : Value) (v27_59 : Value) (v26_58 : Value) (v25_57 : Value) (v24_56 : Value) (v23_55 : Value) (v22_54 : Value) (v11_39 : Value) (v19_49 : Value) (v18_48 : Value) (v17_47 : Value) (v16_46 : Value) (v15_45 : Value) (v14_44 : Value) (v13_43 : Value) (v12_40 : Value) (v10_38 : Value) (v6_30 : Value) (v9_35 : Value) (v7_33 : Value) (v5_29 : Value) (v4_28 : Value) (v3_27 : Value) (v1_2 : Value) : Prop :=
  X Try.prog (Instr.extract v28_60 0) w28 fun v29_61 w29 =>
  X Try.prog (Instr.extract v28_60 1) w29 fun v30_62 w30 =>
  X Try.prog (Instr.alloc 138 true (.tuple #[])) w30 fun v31_13 w31 =>
  XU Try.prog (Instr.storeAt 138 v31_13 v29_61) w31 fun w32 =>
  X Try.prog (binOpG .eql 74 (.tmp 63) (.const (.pointer none)) v8_34 (.pointer none)) w32 fun v32_64 w33 =>
  gstep v32_64 false (fun w34 K => K v21_51 w34) w33 fun v33_66 w35 =>
  gstep v32_64 false (fun w36 K => K v30_62 w36) w35 fun v34_67 w37 =>
  gstep v32_64 false (fun w38 K => X Try.prog (binOpG .neq 30 (.tmp 66) (.tmp 67) v33_66 v34_67) w38 K) w37 fun v35_68 w39 =>
  X Try.prog (pickS v32_64 (.bool true) v35_68) w39 fun v36_69 w40 =>
  gstep v36_69 false (fun w41 K => K v20_50 w41) w40 fun v37_71 w42 =>
  B_law12_VaultPlays_c13 v36_69 K v37_71 w42 v30_62 v2_26 v31_13 v20_50 x1 x0 v35_68 v34_67 v33_66 v32_64 v8_34 v29_61 v28_60 v27_59 v26_58 v25_57 v24_56 v23_55 v22_54 v11_39 v21_51 v19_49 v18_48 v17_47 v16_46 v15_45 v14_44 v13_43 v12_40 v10_38 v6_30 v9_35 v7_33 v5_29 v4_28 v3_27 v1_2

def B_law12_VaultPlays_c15 (v8_34 : Value) (v14_44 : Value) (v16_46 : Value) (v18_48 : Value) (w18 : World) (v1_2 : Value) (v11_39 : Value) (K : Value → World → Prop) (v2_26 : Value) (x1 : Value) (x0 : Value) (v17_47 : Value) (v15_45 : Value) (v13_43 : Value) (v12_40 : Value) (v10_38 : Value) (v6_30 : Value) (v9_35 : Value) (v7_33 : Value) (v5_29 : Value) (v4_28 : Value) (v3_27 : Value) : Prop :=
  CALL Try.prog 99 #[v8_34, v14_44, v16_46, v18_48] w18 fun v19_49 w19 =>
  X Try.prog (Instr.extract v19_49 0) w19 fun v20_50 w20 =>
  X Try.prog (Instr.extract v19_49 1) w20 fun v21_51 w21 =>
  X Try.prog (Instr.fieldAt 135 v1_2 1) w21 fun v22_54 w22 =>
  X Try.prog (Instr.loadAt 3 v22_54) w22 fun v23_55 w23 =>
  X Try.prog (Instr.fieldAt 135 v1_2 2) w23 fun v24_56 w24 =>
  X Try.prog (Instr.loadAt 3 v24_56) w24 fun v25_57 w25 =>
  X Try.prog (Instr.fieldAt 135 v1_2 3) w25 fun v26_58 w26 =>
  X Try.prog (Instr.loadAt 3 v26_58) w26 fun v27_59 w27 =>
  CALL Try.prog 104 #[v11_39, v23_55, v25_57, v27_59] w27 fun v28_60 w28 =>
  B_law12_VaultPlays_c14 v28_60 w28 v8_34 K v21_51 v20_50 v2_26 x1 x0 v27_59 v26_58 v25_57 v24_56 v23_55 v22_54 v11_39 v19_49 v18_48 v17_47 v16_46 v15_45 v14_44 v13_43 v12_40 v10_38 v6_30 v9_35 v7_33 v5_29 v4_28 v3_27 v1_2

def B_law12_VaultPlays_c16 (v7_33 : Value) (w8 : World) (v6_30 : Value) (v1_2 : Value) (v8_34 : Value) (K : Value → World → Prop) (v2_26 : Value) (x1 : Value) (x0 : Value) (v5_29 : Value) (v4_28 : Value) (v3_27 : Value) : Prop :=
  X Try.prog (Instr.extract v7_33 1) w8 fun v9_35 w9 =>
  CALL Try.prog 80 #[v6_30] w9 fun v10_38 w10 =>
  X Try.prog (Instr.extract v10_38 0) w10 fun v11_39 w11 =>
  X Try.prog (Instr.extract v10_38 1) w11 fun v12_40 w12 =>
  X Try.prog (Instr.fieldAt 135 v1_2 1) w12 fun v13_43 w13 =>
  X Try.prog (Instr.loadAt 3 v13_43) w13 fun v14_44 w14 =>
  X Try.prog (Instr.fieldAt 135 v1_2 2) w14 fun v15_45 w15 =>
  X Try.prog (Instr.loadAt 3 v15_45) w15 fun v16_46 w16 =>
  X Try.prog (Instr.fieldAt 135 v1_2 3) w16 fun v17_47 w17 =>
  X Try.prog (Instr.loadAt 3 v17_47) w17 fun v18_48 w18 =>
  B_law12_VaultPlays_c15 v8_34 v14_44 v16_46 v18_48 w18 v1_2 v11_39 K v2_26 x1 x0 v17_47 v15_45 v13_43 v12_40 v10_38 v6_30 v9_35 v7_33 v5_29 v4_28 v3_27

/-- cellarage/cellaragelaw12.VaultPlays -/
def B_law12_VaultPlays (x0 x1 : Value) (w : World) (K : Value → World → Prop) : Prop :=
  X Try.prog (Instr.box 135 x0) w fun v1_2 w1 =>
  CALL Try.prog 98 #[] w1 fun v2_26 w2 =>
  X Try.prog (Instr.fieldAt 135 v1_2 0) w2 fun v3_27 w3 =>
  X Try.prog (Instr.loadAt 5 v3_27) w3 fun v4_28 w4 =>
  X Try.prog (binOp .rem 5 v4_28 (.int .u8 61)) w4 fun v5_29 w5 =>
  X Try.prog (convert 5 3 v5_29) w5 fun v6_30 w6 =>
  CALL Try.prog 69 #[v6_30] w6 fun v7_33 w7 =>
  X Try.prog (Instr.extract v7_33 0) w7 fun v8_34 w8 =>
  B_law12_VaultPlays_c16 v7_33 w8 v6_30 v1_2 v8_34 K v2_26 x1 x0 v5_29 v4_28 v3_27

theorem eq_law12_VaultPlays (x0 x1 : Value) (w : World) (K : Value → World → Prop) :
    sh Try.prog (Try.f35.body.getD .skip) (retS Try.prog Try.f35.results K) (env0 #[x0, x1]) w = B_law12_VaultPlays x0 x1 w K := by kernel_rfl

theorem call_law12_VaultPlays (x0 x1 : Value) (w : World) (K : Value → World → Prop) (h : B_law12_VaultPlays x0 x1 w K) : CALL Try.prog 35 #[x0, x1] w K :=
  call_of_eq (c := Try.f35.body.getD .skip) mixed Try.func35 (by kernel_rfl) (by kernel_rfl) (by kernel_rfl) (Nat.le_of_ble_eq_true (by kernel_rfl)) (eq_law12_VaultPlays x0 x1 w K) h

end Go.Proofs.Ytggggfcgnkllgaa
end
section
/- From a call's contract to a law's row: the last two facts. -/
namespace Go.Proofs.Ytggggfcgnkllgaa
open Go Go.Sh
theorem CALL_calls {P : Program} {f : FuncId} {args : Array Value} {w : World} {K : Value → World → Prop} (h : CALL P f args w K) :
    Calls P f args w (fun | .returned v, w' => K v w' | _, _ => False) := h.2
theorem laidOut : laidOutB Try.prog = true := by kernel_rfl
end Go.Proofs.Ytggggfcgnkllgaa
end
section
/- Three facts of the whole program that the kernel cannot reckon head-on: what the first words of the order say. -/
set_option linter.constructorNameAsVariable false
namespace Go.Proofs.Ytggggfcgnkllgaa
open Go Go.Sh Go.RowKit

theorem words_cons (c : Char) (hc : c ≠ Char.ofNat 32) (r : List Char) : wordsSigns (c :: r) = match wordsSigns r with | w :: ws => (c :: w) :: ws | [] => [[c]] := by
  rw [wordsSigns.eq_def]
  split
  · rename_i h; cases h
  · rename_i h; injection h with h1 h2; exact absurd h1 hc
  · rename_i c' r' _ h
    injection h with h1 h2
    subst h1; subst h2
    rfl
theorem words_append : ∀ (u r : List Char), (∀ c ∈ u, c ≠ Char.ofNat 32) → wordsSigns (u ++ Char.ofNat 32 :: r) = u :: wordsSigns r
  | [], r, _ => by rw [List.nil_append, wordsSigns.eq_def]; rfl
  | c :: u, r, h => by
    rw [List.cons_append, words_cons c (h c (by simp)), words_append u r (fun x hx => h x (by simp [hx]))]

theorem words_are : ∃ ws, wordsSigns Try.prog.initOrder.toList = "harness".toList :: "62f34890e3c06fe2011e3a1f7b1d35cb61325f7f5314e4ae60b96fccc44d6865".toList :: "cut".toList :: ws := by
  have h : Try.prog.initOrder = "harness" ++ " " ++ "62f34890e3c06fe2011e3a1f7b1d35cb61325f7f5314e4ae60b96fccc44d6865" ++ " " ++ "cut" ++ " " ++ "at cellarage/cellaragelaw10.SlotLays cellarage/cellaragelaw10.SlotTakes cellarage/cellaragelaw10.SlotBack cellarage/cellaragelaw10.SlotTorn cellarage/cellaragelaw01.CodecOrder cellarage/cellaragelaw10.SlotNewer cellarage/cellaragelaw10.SlotCommits cellarage/cellaragelaw02.CrcSums cellarage/cellaragelaw02.CrcSeals cellarage/cellaragelaw02.CrcGoes cellarage/cellaragelaw02.CrcTells cellarage/cellaragelaw02.CrcBack cellarage/cellaragelaw02.CrcLinear cellarage/cellaragelaw01.CodecTakes cellarage/cellaragelaw01.CodecBack cellarage/cellaragelaw01.CodecShort cellarage/cellaragelaw01.CodecNil cellarage/cellaragelaw08.DiskTorn cellarage/cellaragelaw08.DiskSafe cellarage/cellaragelaw08.DiskFlush cellarage/cellaragelaw08.DiskCuts cellarage/cellaragelaw08.DiskPlays cellarage/cellaragelaw08.DiskNil cellarage/cellaragelaw11.ContLays cellarage/cellaragelaw11.ContBack cellarage/cellaragelaw11.ContOnce cellarage/cellaragelaw11.ContTurned cellarage/cellaragelaw11.ContOwn cellarage/cellaragelaw11.ContTakes cellarage/cellaragelaw12.VaultBack cellarage/cellaragelaw12.VaultShelves cellarage/cellaragelaw12.VaultNil cellarage/cellaragelaw12.VaultPlays cellarage/cellaragelaw20.HomeNil cellarage/cellaragelaw20.HomeBack cellarage/cellaragelaw20.HomeOps cellarage/cellaragelaw20.HomeCrashes cellarage/cellaragelaw20.HomePlays" := by kernel_rfl
  rw [h]
  simp only [String.toList_append, List.append_assoc]
  refine ⟨wordsSigns ("at cellarage/cellaragelaw10.SlotLays cellarage/cellaragelaw10.SlotTakes cellarage/cellaragelaw10.SlotBack cellarage/cellaragelaw10.SlotTorn cellarage/cellaragelaw01.CodecOrder cellarage/cellaragelaw10.SlotNewer cellarage/cellaragelaw10.SlotCommits cellarage/cellaragelaw02.CrcSums cellarage/cellaragelaw02.CrcSeals cellarage/cellaragelaw02.CrcGoes cellarage/cellaragelaw02.CrcTells cellarage/cellaragelaw02.CrcBack cellarage/cellaragelaw02.CrcLinear cellarage/cellaragelaw01.CodecTakes cellarage/cellaragelaw01.CodecBack cellarage/cellaragelaw01.CodecShort cellarage/cellaragelaw01.CodecNil cellarage/cellaragelaw08.DiskTorn cellarage/cellaragelaw08.DiskSafe cellarage/cellaragelaw08.DiskFlush cellarage/cellaragelaw08.DiskCuts cellarage/cellaragelaw08.DiskPlays cellarage/cellaragelaw08.DiskNil cellarage/cellaragelaw11.ContLays cellarage/cellaragelaw11.ContBack cellarage/cellaragelaw11.ContOnce cellarage/cellaragelaw11.ContTurned cellarage/cellaragelaw11.ContOwn cellarage/cellaragelaw11.ContTakes cellarage/cellaragelaw12.VaultBack cellarage/cellaragelaw12.VaultShelves cellarage/cellaragelaw12.VaultNil cellarage/cellaragelaw12.VaultPlays cellarage/cellaragelaw20.HomeNil cellarage/cellaragelaw20.HomeBack cellarage/cellaragelaw20.HomeOps cellarage/cellaragelaw20.HomeCrashes cellarage/cellaragelaw20.HomePlays".toList), ?_⟩
  have e : " ".toList = [Char.ofNat 32] := by kernel_rfl
  rw [e]
  simp only [List.singleton_append]
  rw [words_append _ _ (by decide), words_append _ _ (by decide), words_append _ _ (by decide)]


theorem head_is : ∃ ws, behindMainWord (wordsSigns Try.prog.initOrder.toList) = "cut".toList :: ws := by
  obtain ⟨ws, h⟩ := words_are
  rw [h]
  exact ⟨ws, by kernel_rfl⟩
theorem laysLater_is : Try.prog.laysLater = false := by kernel_rfl
theorem bearsReflect_is : Try.prog.bearsReflect = false := by kernel_rfl
theorem doorRows_is : Try.prog.doorRows = [] := by kernel_rfl
section
variable {P : Program} {ws : List (List Char)}
theorem make_of (h : behindMainWord (wordsSigns P.initOrder.toList) = "cut".toList :: ws) : P.make = some .cut := by
  unfold Program.make
  rw [h]
  kernel_rfl
theorem headLifts_of (h : behindMainWord (wordsSigns P.initOrder.toList) = "cut".toList :: ws) : P.headLifts = [] := by
  unfold Program.headLifts
  rw [h]
  kernel_rfl
theorem liftsFinal_of (h : behindMainWord (wordsSigns P.initOrder.toList) = "cut".toList :: ws) : P.liftsFinal = false := by
  unfold Program.liftsFinal
  rw [headLifts_of h, h]
  kernel_rfl
theorem mayEnter_of (h : behindMainWord (wordsSigns P.initOrder.toList) = "cut".toList :: ws) (h1 : P.laysLater = false) (h2 : P.bearsReflect = false) (h3 : P.doorRows = []) : P.mayEnter = true := by
  unfold Program.mayEnter Program.doorFits
  rw [h, h1, h2, h3]
  kernel_rfl
end
theorem mayEnter_is : Try.prog.mayEnter = true := by
  obtain ⟨ws, h⟩ := head_is
  exact mayEnter_of h laysLater_is bearsReflect_is doorRows_is
theorem liftsFinal_is : Try.prog.liftsFinal = false := by
  obtain ⟨ws, h⟩ := head_is
  exact liftsFinal_of h
theorem make_is : Try.prog.make = some .cut := by
  obtain ⟨ws, h⟩ := head_is
  exact make_of h
end Go.Proofs.Ytggggfcgnkllgaa
end
