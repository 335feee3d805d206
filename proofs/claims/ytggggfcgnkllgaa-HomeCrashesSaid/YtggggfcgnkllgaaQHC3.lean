/- Part 3 of what the law is proved with: T1 Num Codec Ops2 Codec2 Codec3 Kit1 DiskNum VaultNum Foot. -/
import Derived.Lib.AppendStr
import Derived.Laws.Strings
import Derived.Test.YtggggfcgnkllgaaQHC2
section
set_option linter.unusedVariables false
namespace Go.Proofs.Ytggggfcgnkllgaa
open Go Go.Sh
attribute [local irreducible] X XU XP XR CALL loopS resC closS
/-- cellarage/codec.Put -/
def B_codec_Put (x0 x1 x2 : Value) (w : World) (K : Value → World → Prop) : Prop :=
  X Try.prog (Builtin.min_ #[3, 3] 3 #[x2, (.int .i64 8)]) w fun v1_10 w1 =>
  X Try.prog (Builtin.max_ #[3, 3] 3 #[(.int .i64 0), v1_10]) w1 fun v2_11 w2 =>
  X Try.prog (Builtin.len_ #[27] 3 #[x0]) w2 fun v3_13 w3 =>
  X Try.prog (Builtin.len_ #[27] 3 #[x0]) w3 fun v4_15 w4 =>
  X Try.prog (binOp .add 3 v4_15 v2_11) w4 fun v5_17 w5 =>
  X Try.prog (Instr.makeSlice 27 v3_13 v5_17) w5 fun v6_18 w6 =>
  X Try.prog (Builtin.copy_ #[27, 27] 3 #[v6_18, x0]) w6 fun v7_21 w7 =>
  X Try.prog (binOp .sub 3 v2_11 (.int .i64 1)) w7 fun v8_23 w8 =>
  X Try.prog (binOp .mul 3 (.int .i64 8) v8_23) w8 fun v9_24 w9 =>
  loopS (fun Q1 ρ1 w10 =>
  X Try.prog (binOp .geq 3 (ρ1 8) (.int .i64 0)) w10 fun v10_26 w11 =>
  condS v10_26 (
  X Try.prog (binOp .shr 22 (ρ1 1) (ρ1 8)) w11 fun v11_32 w12 =>
  X Try.prog (convert 22 5 v11_32) w12 fun v12_33 w13 =>
  X Try.prog (Instr.buildSlice 27 1 #[(0, v12_33)]) w13 fun v13_34 w14 =>
  X Try.prog (Builtin.append_ #[27, 27] 27 #[(ρ1 7), v13_34]) w14 fun v14_35 w15 =>
  X Try.prog (binOp .sub 3 (ρ1 8) (.int .i64 8)) w15 fun v15_28 w16 =>
  Q1 .normal (upds ρ1 [(8, v15_28), (28, v15_28), (27, (ρ1 8)), (7, v14_35), (35, v14_35), (34, v13_34), (33, v12_33), (32, v11_32), (31, (ρ1 8)), (30, (ρ1 1)), (29, (ρ1 7)), (26, v10_26), (25, (ρ1 8))]) w16) (
  Q1 (.exit 0) (upds ρ1 [(26, v10_26), (25, (ρ1 8))]) w11)) (inBlockS 0 (thenS (fun ρ2 w17 =>
  K (ρ2 7) w17) (retS Try.prog (Try.f46).results K))) (upds (env0 #[x0, x1, x2]) [(8, v9_24), (24, v9_24), (23, v8_23), (22, v2_11), (21, v7_21), (20, x0), (19, v6_18), (7, v6_18), (18, v6_18), (17, v5_17), (16, v2_11), (15, v4_15), (14, x0), (13, v3_13), (12, x0), (2, v2_11), (11, v2_11), (10, v1_10), (9, x2), (6, (.slice none 0 0))]) w9

theorem eq_codec_Put (x0 x1 x2 : Value) (w : World) (K : Value → World → Prop) :
    sh Try.prog (Try.f46.body.getD .skip) (retS Try.prog Try.f46.results K) (env0 #[x0, x1, x2]) w = B_codec_Put x0 x1 x2 w K := by kernel_rfl

theorem call_codec_Put (x0 x1 x2 : Value) (w : World) (K : Value → World → Prop) (h : B_codec_Put x0 x1 x2 w K) : CALL Try.prog 46 #[x0, x1, x2] w K :=
  call_of_eq (c := Try.f46.body.getD .skip) mixed Try.func46 (by kernel_rfl) (by kernel_rfl) (by kernel_rfl) (Nat.le_of_ble_eq_true (by kernel_rfl)) (eq_codec_Put x0 x1 x2 w K) h

/-- cellarage/codec.Text -/
def B_codec_Text (x0 x1 : Value) (w : World) (K : Value → World → Prop) : Prop :=
  X Try.prog (Builtin.len_ #[9] 3 #[x1]) w fun v1_7 w1 =>
  X Try.prog (convert 3 22 v1_7) w1 fun v2_8 w2 =>
  CALL Try.prog 46 #[x0, v2_8, (.int .i64 4)] w2 fun v3_9 w3 =>
  X Try.prog (Builtin.append_ #[27, 9] 27 #[v3_9, x1]) w3 fun v4_11 w4 =>
  K v4_11 w4

theorem eq_codec_Text (x0 x1 : Value) (w : World) (K : Value → World → Prop) :
    sh Try.prog (Try.f67.body.getD .skip) (retS Try.prog Try.f67.results K) (env0 #[x0, x1]) w = B_codec_Text x0 x1 w K := by kernel_rfl

theorem call_codec_Text (x0 x1 : Value) (w : World) (K : Value → World → Prop) (h : B_codec_Text x0 x1 w K) : CALL Try.prog 67 #[x0, x1] w K :=
  call_of_eq (c := Try.f67.body.getD .skip) mixed Try.func67 (by kernel_rfl) (by kernel_rfl) (by kernel_rfl) (Nat.le_of_ble_eq_true (by kernel_rfl)) (eq_codec_Text x0 x1 w K) h

/-- cellarage/codec.New -/
def B_codec_New (x0 : Value) (w : World) (K : Value → World → Prop) : Prop :=
  X Try.prog (Builtin.append_ #[27, 27] 27 #[(.slice none 0 0), x0]) w fun v1_4 w1 =>
  X Try.prog (Instr.build 176 #[(0, v1_4)]) w1 fun v2_5 w2 =>
  X Try.prog (Instr.box 176 v2_5) w2 fun v3_6 w3 =>
  K v3_6 w3

theorem eq_codec_New (x0 : Value) (w : World) (K : Value → World → Prop) :
    sh Try.prog (Try.f58.body.getD .skip) (retS Try.prog Try.f58.results K) (env0 #[x0]) w = B_codec_New x0 w K := by kernel_rfl

theorem call_codec_New (x0 : Value) (w : World) (K : Value → World → Prop) (h : B_codec_New x0 w K) : CALL Try.prog 58 #[x0] w K :=
  call_of_eq (c := Try.f58.body.getD .skip) mixed Try.func58 (by kernel_rfl) (by kernel_rfl) (by kernel_rfl) (Nat.le_of_ble_eq_true (by kernel_rfl)) (eq_codec_New x0 w K) h

/-- (*cellarage/codec.Reader).ready -/
def B_codec_Reader_ready (x0 : Value) (w : World) (K : Value → World → Prop) : Prop :=
  X Try.prog (binOpG .neq 54 (.tmp 3) (.const (.pointer none)) x0 (.pointer none)) w fun v1_4 w1 =>
  gstep v1_4 true (fun w2 K => K x0 w2) w1 fun v2_6 w3 =>
  gstep v1_4 true (fun w4 K => X Try.prog (nilS v2_6) w4 K) w3 fun v3_7 w5 =>
  gstep v1_4 true (fun w6 K => X Try.prog (Instr.fieldAt 176 v3_7 1) w6 K) w5 fun v4_8 w7 =>
  gstep v1_4 true (fun w8 K => X Try.prog (Instr.loadAt 30 v4_8) w8 K) w7 fun v5_9 w9 =>
  gstep v1_4 true (fun w10 K => X Try.prog (binOpG .eql 30 (.tmp 9) (.const (.int .i64 0)) v5_9 (.int .i64 0)) w10 K) w9 fun v6_10 w11 =>
  X Try.prog (pickS v1_4 v6_10 (.bool false)) w11 fun v7_11 w12 =>
  K v7_11 w12

theorem eq_codec_Reader_ready (x0 : Value) (w : World) (K : Value → World → Prop) :
    sh Try.prog (Try.f128.body.getD .skip) (retS Try.prog Try.f128.results K) (env0 #[x0]) w = B_codec_Reader_ready x0 w K := by kernel_rfl

theorem call_codec_Reader_ready (x0 : Value) (w : World) (K : Value → World → Prop) (h : B_codec_Reader_ready x0 w K) : CALL Try.prog 128 #[x0] w K :=
  call_of_eq (c := Try.f128.body.getD .skip) mixed Try.func128 (by kernel_rfl) (by kernel_rfl) (by kernel_rfl) (Nat.le_of_ble_eq_true (by kernel_rfl)) (eq_codec_Reader_ready x0 w K) h

/-- cellarage/codec.number -/
def B_codec_number (x0 : Value) (w : World) (K : Value → World → Prop) : Prop :=
  X Try.prog (Builtin.len_ #[27] 3 #[x0]) w fun v1_7 w1 =>
  loopS (fun Q1 ρ1 w2 =>
  X Try.prog (binOp .lss 3 (ρ1 8) (ρ1 7)) w2 fun v2_9 w3 =>
  condS v2_9 (
  X Try.prog (Instr.indexAt 27 (ρ1 6) (ρ1 8)) w3 fun v3_10 w4 =>
  X Try.prog (Instr.loadAt 5 v3_10) w4 fun v4_11 w5 =>
  X Try.prog (binOp .shl 22 (ρ1 3) (.int .u64 8)) w5 fun v5_13 w6 =>
  X Try.prog (convert 5 22 v4_11) w6 fun v6_15 w7 =>
  X Try.prog (binOp .or 22 v5_13 v6_15) w7 fun v7_16 w8 =>
  X Try.prog (binOp .add 3 (ρ1 8) (.int .i64 1)) w8 fun v8_17 w9 =>
  Q1 .normal (upds ρ1 [(8, v8_17), (17, v8_17), (3, v7_16), (16, v7_16), (15, v6_15), (14, v4_11), (13, v5_13), (12, (ρ1 3)), (5, v4_11), (11, v4_11), (10, v3_10), (9, v2_9)]) w9) (
  Q1 (.exit 0) (upds ρ1 [(9, v2_9)]) w3)) (inBlockS 0 (thenS (fun ρ2 w10 =>
  K (ρ2 3) w10) (retS Try.prog (Try.f129).results K))) (upds (env0 #[x0]) [(8, (.int .i64 0)), (7, v1_7), (6, x0), (3, (.int .u64 0)), (2, (.int .u64 0))]) w1

theorem eq_codec_number (x0 : Value) (w : World) (K : Value → World → Prop) :
    sh Try.prog (Try.f129.body.getD .skip) (retS Try.prog Try.f129.results K) (env0 #[x0]) w = B_codec_number x0 w K := by kernel_rfl

theorem call_codec_number (x0 : Value) (w : World) (K : Value → World → Prop) (h : B_codec_number x0 w K) : CALL Try.prog 129 #[x0] w K :=
  call_of_eq (c := Try.f129.body.getD .skip) mixed Try.func129 (by kernel_rfl) (by kernel_rfl) (by kernel_rfl) (Nat.le_of_ble_eq_true (by kernel_rfl)) (eq_codec_number x0 w K) h

/-- (*cellarage/codec.Reader).Get -/
def B_codec_Reader_Get (x0 x1 : Value) (w : World) (K : Value → World → Prop) : Prop :=
  CALL Try.prog 128 #[x0] w fun v1_8 w1 =>
  X Try.prog (Op.unary .not v1_8) w1 fun v2_9 w2 =>
  condS v2_9 (
  K (.int .u64 0) w2) (
  X Try.prog (binOp .lss 3 x1 (.int .i64 0)) w2 fun v3_12 w3 =>
  gstep v3_12 false (fun w4 K => K x1 w4) w3 fun v4_14 w5 =>
  gstep v3_12 false (fun w6 K => X Try.prog (binOp .gtr 3 v4_14 (.int .i64 8)) w6 K) w5 fun v5_15 w7 =>
  X Try.prog (pickS v3_12 (.bool true) v5_15) w7 fun v6_16 w8 =>
  condS v6_16 (
  X Try.prog (nilS x0) w8 fun v7_18 w9 =>
  X Try.prog (Instr.fieldAt 176 v7_18 1) w9 fun v8_19 w10 =>
  XU Try.prog (Instr.storeAt 30 v8_19 (.int .i64 1)) w10 fun w11 =>
  K (.int .u64 0) w11) (
  X Try.prog (nilS x0) w8 fun v9_23 w12 =>
  X Try.prog (Instr.fieldAt 176 v9_23 0) w12 fun v10_24 w13 =>
  X Try.prog (Instr.loadAt 27 v10_24) w13 fun v11_25 w14 =>
  X Try.prog (Builtin.len_ #[27] 3 #[v11_25]) w14 fun v12_26 w15 =>
  X Try.prog (binOp .gtr 3 x1 v12_26) w15 fun v13_27 w16 =>
  condS v13_27 (
  X Try.prog (nilS x0) w16 fun v14_29 w17 =>
  X Try.prog (Instr.fieldAt 176 v14_29 1) w17 fun v15_30 w18 =>
  XU Try.prog (Instr.storeAt 30 v15_30 (.int .i64 10)) w18 fun w19 =>
  K (.int .u64 0) w19) (
  X Try.prog (nilS x0) w16 fun v16_32 w20 =>
  X Try.prog (Instr.fieldAt 176 v16_32 0) w20 fun v17_33 w21 =>
  X Try.prog (Instr.loadAt 27 v17_33) w21 fun v18_34 w22 =>
  X Try.prog (Instr.sliceAt 27 v18_34 none (some x1) none) w22 fun v19_36 w23 =>
  CALL Try.prog 129 #[v19_36] w23 fun v20_37 w24 =>
  X Try.prog (nilS x0) w24 fun v21_40 w25 =>
  X Try.prog (Instr.fieldAt 176 v21_40 0) w25 fun v22_41 w26 =>
  X Try.prog (Instr.loadAt 27 v22_41) w26 fun v23_42 w27 =>
  X Try.prog (Instr.sliceAt 27 v23_42 (some x1) none none) w27 fun v24_44 w28 =>
  X Try.prog (nilS x0) w28 fun v25_45 w29 =>
  X Try.prog (Instr.fieldAt 176 v25_45 0) w29 fun v26_46 w30 =>
  XU Try.prog (Instr.storeAt 27 v26_46 v24_44) w30 fun w31 =>
  K v20_37 w31)))

theorem eq_codec_Reader_Get (x0 x1 : Value) (w : World) (K : Value → World → Prop) :
    sh Try.prog (Try.f61.body.getD .skip) (retS Try.prog Try.f61.results K) (env0 #[x0, x1]) w = B_codec_Reader_Get x0 x1 w K := by kernel_rfl

theorem call_codec_Reader_Get (x0 x1 : Value) (w : World) (K : Value → World → Prop) (h : B_codec_Reader_Get x0 x1 w K) : CALL Try.prog 61 #[x0, x1] w K :=
  call_of_eq (c := Try.f61.body.getD .skip) mixed Try.func61 (by kernel_rfl) (by kernel_rfl) (by kernel_rfl) (Nat.le_of_ble_eq_true (by kernel_rfl)) (eq_codec_Reader_Get x0 x1 w K) h

/-- (*cellarage/codec.Reader).Text -/
def B_codec_Reader_Text (x0 x1 : Value) (w : World) (K : Value → World → Prop) : Prop :=
  CALL Try.prog 128 #[x0] w fun v1_8 w1 =>
  X Try.prog (Op.unary .not v1_8) w1 fun v2_9 w2 =>
  condS v2_9 (
  K (.string { data := #[] }) w2) (
  X Try.prog (nilS x0) w2 fun v3_11 w3 =>
  X Try.prog (Instr.fieldAt 176 v3_11 0) w3 fun v4_12 w4 =>
  X Try.prog (Instr.loadAt 27 v4_12) w4 fun v5_13 w5 =>
  X Try.prog (Builtin.len_ #[27] 3 #[v5_13]) w5 fun v6_14 w6 =>
  X Try.prog (binOp .lss 3 v6_14 (.int .i64 4)) w6 fun v7_15 w7 =>
  condS v7_15 (
  X Try.prog (nilS x0) w7 fun v8_17 w8 =>
  X Try.prog (Instr.fieldAt 176 v8_17 1) w8 fun v9_18 w9 =>
  XU Try.prog (Instr.storeAt 30 v9_18 (.int .i64 10)) w9 fun w10 =>
  K (.string { data := #[] }) w10) (
  ∃ R, Frame? R ∧
  XP Try.prog (nilS x0) (drewW w7) fun v10_20 w11 =>
  XP Try.prog (Instr.fieldAt 176 v10_20 0) w11 fun v11_21 w12 =>
  XR Try.prog R (Instr.loadAt 27 v11_21) w12 fun v12_22 w13 =>
  XP Try.prog (Instr.sliceAt 27 v12_22 none (some (.int .i64 4)) none) w13 fun v13_23 w14 =>
  XP Try.prog (nilS x0) w14 fun v14_26 w15 =>
  XP Try.prog (Instr.fieldAt 176 v14_26 0) w15 fun v15_27 w16 =>
  XR Try.prog R (Instr.loadAt 27 v15_27) w16 fun v16_28 w17 =>
  XP Try.prog (Instr.sliceAt 27 v16_28 (some (.int .i64 4)) none none) w17 fun v17_29 w18 =>
  CALL Try.prog 129 #[v13_23] w18 fun v18_24 w19 =>
  R w18 w19 ∧
  X Try.prog (Builtin.max_ #[3, 3] 3 #[x1, (.int .i64 0)]) w19 fun v19_33 w20 =>
  X Try.prog (convert 3 22 v19_33) w20 fun v20_34 w21 =>
  X Try.prog (binOp .gtr 22 v18_24 v20_34) w21 fun v21_35 w22 =>
  condS v21_35 (
  X Try.prog (nilS x0) w22 fun v22_37 w23 =>
  X Try.prog (Instr.fieldAt 176 v22_37 1) w23 fun v23_38 w24 =>
  XU Try.prog (Instr.storeAt 30 v23_38 (.int .i64 4)) w24 fun w25 =>
  K (.string { data := #[] }) w25) (
  X Try.prog (Builtin.len_ #[27] 3 #[v17_29]) w22 fun v24_42 w26 =>
  X Try.prog (convert 3 22 v24_42) w26 fun v25_43 w27 =>
  X Try.prog (binOp .gtr 22 v18_24 v25_43) w27 fun v26_44 w28 =>
  condS v26_44 (
  X Try.prog (nilS x0) w28 fun v27_46 w29 =>
  X Try.prog (Instr.fieldAt 176 v27_46 1) w29 fun v28_47 w30 =>
  XU Try.prog (Instr.storeAt 30 v28_47 (.int .i64 10)) w30 fun w31 =>
  K (.string { data := #[] }) w31) (
  X Try.prog (Instr.sliceAt 27 v17_29 (some v18_24) none none) w28 fun v29_51 w32 =>
  X Try.prog (nilS x0) w32 fun v30_52 w33 =>
  X Try.prog (Instr.fieldAt 176 v30_52 0) w33 fun v31_53 w34 =>
  XU Try.prog (Instr.storeAt 27 v31_53 v29_51) w34 fun w35 =>
  X Try.prog (Instr.sliceAt 27 v17_29 none (some v18_24) none) w35 fun v32_56 w36 =>
  X Try.prog (convert 27 9 v32_56) w36 fun v33_57 w37 =>
  K v33_57 w37))))

theorem eq_codec_Reader_Text (x0 x1 : Value) (w : World) (K : Value → World → Prop) :
    sh Try.prog (Try.f59.body.getD .skip) (retS Try.prog Try.f59.results K) (env0 #[x0, x1]) w = B_codec_Reader_Text x0 x1 w K := by kernel_rfl

theorem call_codec_Reader_Text (x0 x1 : Value) (w : World) (K : Value → World → Prop) (h : B_codec_Reader_Text x0 x1 w K) : CALL Try.prog 59 #[x0, x1] w K :=
  call_of_eq (c := Try.f59.body.getD .skip) mixed Try.func59 (by kernel_rfl) (by kernel_rfl) (by kernel_rfl) (Nat.le_of_ble_eq_true (by kernel_rfl)) (eq_codec_Reader_Text x0 x1 w K) h

/-- (*cellarage/codec.Reader).Left -/
def B_codec_Reader_Left (x0 : Value) (w : World) (K : Value → World → Prop) : Prop :=
  X Try.prog (binOpG .eql 54 (.tmp 3) (.const (.pointer none)) x0 (.pointer none)) w fun v1_4 w1 =>
  condS v1_4 (
  K (.int .i64 0) w1) (
  X Try.prog (nilS x0) w1 fun v2_6 w2 =>
  X Try.prog (Instr.fieldAt 176 v2_6 0) w2 fun v3_7 w3 =>
  X Try.prog (Instr.loadAt 27 v3_7) w3 fun v4_8 w4 =>
  X Try.prog (Builtin.len_ #[27] 3 #[v4_8]) w4 fun v5_9 w5 =>
  K v5_9 w5)

theorem eq_codec_Reader_Left (x0 : Value) (w : World) (K : Value → World → Prop) :
    sh Try.prog (Try.f63.body.getD .skip) (retS Try.prog Try.f63.results K) (env0 #[x0]) w = B_codec_Reader_Left x0 w K := by kernel_rfl

theorem call_codec_Reader_Left (x0 : Value) (w : World) (K : Value → World → Prop) (h : B_codec_Reader_Left x0 w K) : CALL Try.prog 63 #[x0] w K :=
  call_of_eq (c := Try.f63.body.getD .skip) mixed Try.func63 (by kernel_rfl) (by kernel_rfl) (by kernel_rfl) (Nat.le_of_ble_eq_true (by kernel_rfl)) (eq_codec_Reader_Left x0 w K) h

/-- (*cellarage/codec.Reader).Fault -/
def B_codec_Reader_Fault (x0 : Value) (w : World) (K : Value → World → Prop) : Prop :=
  X Try.prog (binOpG .eql 54 (.tmp 3) (.const (.pointer none)) x0 (.pointer none)) w fun v1_4 w1 =>
  condS v1_4 (
  K (.int .i64 0) w1) (
  X Try.prog (nilS x0) w1 fun v2_6 w2 =>
  X Try.prog (Instr.fieldAt 176 v2_6 1) w2 fun v3_7 w3 =>
  X Try.prog (Instr.loadAt 30 v3_7) w3 fun v4_8 w4 =>
  K v4_8 w4)

theorem eq_codec_Reader_Fault (x0 : Value) (w : World) (K : Value → World → Prop) :
    sh Try.prog (Try.f64.body.getD .skip) (retS Try.prog Try.f64.results K) (env0 #[x0]) w = B_codec_Reader_Fault x0 w K := by kernel_rfl

theorem call_codec_Reader_Fault (x0 : Value) (w : World) (K : Value → World → Prop) (h : B_codec_Reader_Fault x0 w K) : CALL Try.prog 64 #[x0] w K :=
  call_of_eq (c := Try.f64.body.getD .skip) mixed Try.func64 (by kernel_rfl) (by kernel_rfl) (by kernel_rfl) (Nat.le_of_ble_eq_true (by kernel_rfl)) (eq_codec_Reader_Fault x0 w K) h

/-- (*cellarage/codec.Reader).End -/
def B_codec_Reader_End (x0 : Value) (w : World) (K : Value → World → Prop) : Prop :=
  CALL Try.prog 128 #[x0] w fun v1_4 w1 =>
  gstep v1_4 true (fun w2 K => K x0 w2) w1 fun v2_6 w3 =>
  gstep v1_4 true (fun w4 K => X Try.prog (nilS v2_6) w4 K) w3 fun v3_7 w5 =>
  gstep v1_4 true (fun w6 K => X Try.prog (Instr.fieldAt 176 v3_7 0) w6 K) w5 fun v4_8 w7 =>
  gstep v1_4 true (fun w8 K => X Try.prog (Instr.loadAt 27 v4_8) w8 K) w7 fun v5_9 w9 =>
  gstep v1_4 true (fun w10 K => X Try.prog (Builtin.len_ #[27] 3 #[v5_9]) w10 K) w9 fun v6_10 w11 =>
  gstep v1_4 true (fun w12 K => X Try.prog (binOp .gtr 3 v6_10 (.int .i64 0)) w12 K) w11 fun v7_11 w13 =>
  X Try.prog (pickS v1_4 v7_11 (.bool false)) w13 fun v8_12 w14 =>
  condS v8_12 (
  K (.int .i64 11) w14) (
  CALL Try.prog 64 #[x0] w14 fun v9_14 w15 =>
  K v9_14 w15)

theorem eq_codec_Reader_End (x0 : Value) (w : World) (K : Value → World → Prop) :
    sh Try.prog (Try.f65.body.getD .skip) (retS Try.prog Try.f65.results K) (env0 #[x0]) w = B_codec_Reader_End x0 w K := by kernel_rfl

theorem call_codec_Reader_End (x0 : Value) (w : World) (K : Value → World → Prop) (h : B_codec_Reader_End x0 w K) : CALL Try.prog 65 #[x0] w K :=
  call_of_eq (c := Try.f65.body.getD .skip) mixed Try.func65 (by kernel_rfl) (by kernel_rfl) (by kernel_rfl) (Nat.le_of_ble_eq_true (by kernel_rfl)) (eq_codec_Reader_End x0 w K) h

/-- cellarage/cellarageref01.Put -/
def B_ref01_Put (x0 x1 : Value) (w : World) (K : Value → World → Prop) : Prop :=
  X Try.prog (Builtin.max_ #[3, 3] 3 #[x1, (.int .i64 0)]) w fun v1_10 w1 =>
  X Try.prog (Builtin.min_ #[3, 3] 3 #[v1_10, (.int .i64 8)]) w1 fun v2_11 w2 =>
  X Try.prog (binOp .sub 3 v2_11 (.int .i64 1)) w2 fun v3_12 w3 =>
  loopS (fun Q1 ρ1 w4 =>
  X Try.prog (binOp .geq 3 (ρ1 6) (.int .i64 0)) w4 fun v4_14 w5 =>
  condS v4_14 (
  loopS (fun Q2 ρ2 w6 =>
  X Try.prog (binOp .lss 3 (ρ2 8) (ρ2 6)) w6 fun v5_20 w7 =>
  condS v5_20 (
  X Try.prog (binOp .quo 22 (ρ2 7) (.int .u64 256)) w7 fun v6_24 w8 =>
  X Try.prog (binOp .add 3 (ρ2 8) (.int .i64 1)) w8 fun v7_22 w9 =>
  Q2 .normal (upds ρ2 [(8, v7_22), (22, v7_22), (21, (ρ2 8)), (7, v6_24), (24, v6_24), (23, (ρ2 7)), (20, v5_20), (19, (ρ2 6)), (18, (ρ2 8))]) w9) (
  Q2 (.exit 2) (upds ρ2 [(20, v5_20), (19, (ρ2 6)), (18, (ρ2 8))]) w7)) (inBlockS 2 (thenS (fun ρ3 w10 =>
  X Try.prog (binOp .rem 22 (ρ3 7) (.int .u64 256)) w10 fun v8_27 w11 =>
  X Try.prog (convert 22 5 v8_27) w11 fun v9_28 w12 =>
  X Try.prog (Instr.buildSlice 27 1 #[(0, v9_28)]) w12 fun v10_29 w13 =>
  X Try.prog (Builtin.append_ #[27, 27] 27 #[(ρ3 5), v10_29]) w13 fun v11_30 w14 =>
  X Try.prog (binOp .sub 3 (ρ3 6) (.int .i64 1)) w14 fun v12_16 w15 =>
  Q1 .normal (upds ρ3 [(6, v12_16), (16, v12_16), (15, (ρ3 6)), (5, v11_30), (30, v11_30), (29, v10_29), (28, v9_28), (27, v8_27), (26, (ρ3 7)), (25, (ρ3 5))]) w15) (inBlockS 1 (thenS (fun ρ4 w16 =>
  X Try.prog (binOp .sub 3 (ρ4 6) (.int .i64 1)) w16 fun v13_16 w17 =>
  Q1 .normal (upds ρ4 [(6, v13_16), (16, v13_16), (15, (ρ4 6))]) w17) Q1)))) (upds ρ1 [(8, (.int .i64 0)), (7, (ρ1 0)), (17, (ρ1 0)), (14, v4_14), (13, (ρ1 6))]) w5) (
  Q1 (.exit 0) (upds ρ1 [(14, v4_14), (13, (ρ1 6))]) w5)) (inBlockS 0 (thenS (fun ρ5 w18 =>
  K (ρ5 5) w18) (retS Try.prog (Try.f125).results K))) (upds (env0 #[x0, x1]) [(6, v3_12), (12, v3_12), (11, v2_11), (10, v1_10), (9, x1), (5, (.slice none 0 0)), (4, (.slice none 0 0))]) w3

theorem eq_ref01_Put (x0 x1 : Value) (w : World) (K : Value → World → Prop) :
    sh Try.prog (Try.f125.body.getD .skip) (retS Try.prog Try.f125.results K) (env0 #[x0, x1]) w = B_ref01_Put x0 x1 w K := by kernel_rfl

theorem call_ref01_Put (x0 x1 : Value) (w : World) (K : Value → World → Prop) (h : B_ref01_Put x0 x1 w K) : CALL Try.prog 125 #[x0, x1] w K :=
  call_of_eq (c := Try.f125.body.getD .skip) mixed Try.func125 (by kernel_rfl) (by kernel_rfl) (by kernel_rfl) (Nat.le_of_ble_eq_true (by kernel_rfl)) (eq_ref01_Put x0 x1 w K) h

/-- (*cellarage/cellarageref01.Reader).number -/
def B_ref01_Reader_number (x0 x1 x2 : Value) (w : World) (K : Value → World → Prop) : Prop :=
  loopS (fun Q1 ρ1 w1 =>
  X Try.prog (binOp .lss 3 (ρ1 8) (ρ1 2)) w1 fun v1_11 w2 =>
  condS v1_11 (
  X Try.prog (binOp .mul 22 (ρ1 7) (.int .u64 256)) w2 fun v2_15 w3 =>
  X Try.prog (nilS (ρ1 0)) w3 fun v3_17 w4 =>
  X Try.prog (Instr.fieldAt 57 v3_17 0) w4 fun v4_18 w5 =>
  X Try.prog (Instr.loadAt 27 v4_18) w5 fun v5_19 w6 =>
  X Try.prog (binOp .add 3 (ρ1 1) (ρ1 8)) w6 fun v6_22 w7 =>
  X Try.prog (Instr.indexAt 27 v5_19 v6_22) w7 fun v7_23 w8 =>
  X Try.prog (Instr.loadAt 5 v7_23) w8 fun v8_24 w9 =>
  X Try.prog (convert 5 22 v8_24) w9 fun v9_25 w10 =>
  X Try.prog (binOp .add 22 v2_15 v9_25) w10 fun v10_26 w11 =>
  X Try.prog (binOp .add 3 (ρ1 8) (.int .i64 1)) w11 fun v11_13 w12 =>
  Q1 .normal (upds ρ1 [(8, v11_13), (13, v11_13), (12, (ρ1 8)), (7, v10_26), (26, v10_26), (25, v9_25), (24, v8_24), (23, v7_23), (22, v6_22), (21, (ρ1 8)), (20, (ρ1 1)), (19, v5_19), (18, v4_18), (17, v3_17), (16, (ρ1 0)), (15, v2_15), (14, (ρ1 7)), (11, v1_11), (10, (ρ1 2)), (9, (ρ1 8))]) w12) (
  Q1 (.exit 0) (upds ρ1 [(11, v1_11), (10, (ρ1 2)), (9, (ρ1 8))]) w2)) (inBlockS 0 (thenS (fun ρ2 w13 =>
  K (ρ2 7) w13) (retS Try.prog (Try.f130).results K))) (upds (env0 #[x0, x1, x2]) [(8, (.int .i64 0)), (7, (.int .u64 0)), (6, (.int .u64 0))]) w

theorem eq_ref01_Reader_number (x0 x1 x2 : Value) (w : World) (K : Value → World → Prop) :
    sh Try.prog (Try.f130.body.getD .skip) (retS Try.prog Try.f130.results K) (env0 #[x0, x1, x2]) w = B_ref01_Reader_number x0 x1 x2 w K := by kernel_rfl

theorem call_ref01_Reader_number (x0 x1 x2 : Value) (w : World) (K : Value → World → Prop) (h : B_ref01_Reader_number x0 x1 x2 w K) : CALL Try.prog 130 #[x0, x1, x2] w K :=
  call_of_eq (c := Try.f130.body.getD .skip) mixed Try.func130 (by kernel_rfl) (by kernel_rfl) (by kernel_rfl) (Nat.le_of_ble_eq_true (by kernel_rfl)) (eq_ref01_Reader_number x0 x1 x2 w K) h

/-- (*cellarage/cellarageref01.Reader).Get -/
def B_ref01_Reader_Get (x0 x1 : Value) (w : World) (K : Value → World → Prop) : Prop :=
  X Try.prog (nilS x0) w fun v1_7 w1 =>
  X Try.prog (Instr.fieldAt 57 v1_7 2) w1 fun v2_8 w2 =>
  X Try.prog (Instr.loadAt 30 v2_8) w2 fun v3_9 w3 =>
  X Try.prog (binOpG .neq 30 (.tmp 9) (.const (.int .i64 0)) v3_9 (.int .i64 0)) w3 fun v4_10 w4 =>
  condS v4_10 (
  K (.int .u64 0) w4) (
  X Try.prog (binOp .lss 3 x1 (.int .i64 0)) w4 fun v5_12 w5 =>
  gstep v5_12 false (fun w6 K => K x1 w6) w5 fun v6_14 w7 =>
  gstep v5_12 false (fun w8 K => X Try.prog (binOp .gtr 3 v6_14 (.int .i64 8)) w8 K) w7 fun v7_15 w9 =>
  X Try.prog (pickS v5_12 (.bool true) v7_15) w9 fun v8_16 w10 =>
  condS v8_16 (
  X Try.prog (nilS x0) w10 fun v9_18 w11 =>
  X Try.prog (Instr.fieldAt 57 v9_18 2) w11 fun v10_19 w12 =>
  XU Try.prog (Instr.storeAt 30 v10_19 (.int .i64 1)) w12 fun w13 =>
  K (.int .u64 0) w13) (
  ∃ R, Frame? R ∧
  XP Try.prog (nilS x0) (drewW w10) fun v11_22 w14 =>
  XP Try.prog (Instr.fieldAt 57 v11_22 0) w14 fun v12_23 w15 =>
  XR Try.prog R (Instr.loadAt 27 v12_23) w15 fun v13_24 w16 =>
  XP Try.prog (Builtin.len_ #[27] 3 #[v13_24]) w16 fun v14_25 w17 =>
  XP Try.prog (nilS x0) w17 fun v15_27 w18 =>
  XP Try.prog (Instr.fieldAt 57 v15_27 1) w18 fun v16_28 w19 =>
  XR Try.prog R (Instr.loadAt 3 v16_28) w19 fun v17_29 w20 =>
  XP Try.prog (binOp .sub 3 v14_25 v17_29) w20 fun v18_30 w21 =>
  XP Try.prog (binOp .gtr 3 x1 v18_30) w21 fun v19_31 w22 =>
  condS v19_31 (
  X Try.prog (nilS x0) w22 fun v20_33 w23 =>
  X Try.prog (Instr.fieldAt 57 v20_33 2) w23 fun v21_34 w24 =>
  XU Try.prog (Instr.storeAt 30 v21_34 (.int .i64 10)) w24 fun w25 =>
  K (.int .u64 0) w25) (
  X Try.prog (nilS x0) w22 fun v22_37 w26 =>
  X Try.prog (Instr.fieldAt 57 v22_37 1) w26 fun v23_38 w27 =>
  X Try.prog (Instr.loadAt 3 v23_38) w27 fun v24_39 w28 =>
  CALL Try.prog 130 #[x0, v24_39, x1] w28 fun v25_41 w29 =>
  X Try.prog (nilS x0) w29 fun v26_44 w30 =>
  X Try.prog (Instr.fieldAt 57 v26_44 1) w30 fun v27_45 w31 =>
  X Try.prog (Instr.loadAt 3 v27_45) w31 fun v28_46 w32 =>
  X Try.prog (binOp .add 3 v28_46 x1) w32 fun v29_48 w33 =>
  X Try.prog (nilS x0) w33 fun v30_49 w34 =>
  X Try.prog (Instr.fieldAt 57 v30_49 1) w34 fun v31_50 w35 =>
  XU Try.prog (Instr.storeAt 3 v31_50 v29_48) w35 fun w36 =>
  K v25_41 w36)))

theorem eq_ref01_Reader_Get (x0 x1 : Value) (w : World) (K : Value → World → Prop) :
    sh Try.prog (Try.f62.body.getD .skip) (retS Try.prog Try.f62.results K) (env0 #[x0, x1]) w = B_ref01_Reader_Get x0 x1 w K := by kernel_rfl

theorem call_ref01_Reader_Get (x0 x1 : Value) (w : World) (K : Value → World → Prop) (h : B_ref01_Reader_Get x0 x1 w K) : CALL Try.prog 62 #[x0, x1] w K :=
  call_of_eq (c := Try.f62.body.getD .skip) mixed Try.func62 (by kernel_rfl) (by kernel_rfl) (by kernel_rfl) (Nat.le_of_ble_eq_true (by kernel_rfl)) (eq_ref01_Reader_Get x0 x1 w K) h

/-- (*cellarage/cellarageref01.Reader).Text -/
def B_ref01_Reader_Text (x0 x1 : Value) (w : World) (K : Value → World → Prop) : Prop :=
  X Try.prog (nilS x0) w fun v1_9 w1 =>
  X Try.prog (Instr.fieldAt 57 v1_9 2) w1 fun v2_10 w2 =>
  X Try.prog (Instr.loadAt 30 v2_10) w2 fun v3_11 w3 =>
  X Try.prog (binOpG .neq 30 (.tmp 11) (.const (.int .i64 0)) v3_11 (.int .i64 0)) w3 fun v4_12 w4 =>
  condS v4_12 (
  K (.string { data := #[] }) w4) (
  ∃ R, Frame? R ∧
  XP Try.prog (nilS x0) (drewW w4) fun v5_14 w5 =>
  XP Try.prog (Instr.fieldAt 57 v5_14 0) w5 fun v6_15 w6 =>
  XR Try.prog R (Instr.loadAt 27 v6_15) w6 fun v7_16 w7 =>
  XP Try.prog (Builtin.len_ #[27] 3 #[v7_16]) w7 fun v8_17 w8 =>
  XP Try.prog (nilS x0) w8 fun v9_19 w9 =>
  XP Try.prog (Instr.fieldAt 57 v9_19 1) w9 fun v10_20 w10 =>
  XR Try.prog R (Instr.loadAt 3 v10_20) w10 fun v11_21 w11 =>
  XP Try.prog (binOp .sub 3 v8_17 v11_21) w11 fun v12_22 w12 =>
  XP Try.prog (binOp .sub 3 v12_22 (.int .i64 4)) w12 fun v13_23 w13 =>
  X Try.prog (binOp .lss 3 v13_23 (.int .i64 0)) w13 fun v14_25 w14 =>
  condS v14_25 (
  X Try.prog (nilS x0) w14 fun v15_27 w15 =>
  X Try.prog (Instr.fieldAt 57 v15_27 2) w15 fun v16_28 w16 =>
  XU Try.prog (Instr.storeAt 30 v16_28 (.int .i64 10)) w16 fun w17 =>
  K (.string { data := #[] }) w17) (
  X Try.prog (nilS x0) w14 fun v17_31 w18 =>
  X Try.prog (Instr.fieldAt 57 v17_31 1) w18 fun v18_32 w19 =>
  X Try.prog (Instr.loadAt 3 v18_32) w19 fun v19_33 w20 =>
  CALL Try.prog 130 #[x0, v19_33, (.int .i64 4)] w20 fun v20_34 w21 =>
  X Try.prog (Builtin.max_ #[3, 3] 3 #[x1, (.int .i64 0)]) w21 fun v21_37 w22 =>
  X Try.prog (convert 3 22 v21_37) w22 fun v22_38 w23 =>
  X Try.prog (binOp .gtr 22 v20_34 v22_38) w23 fun v23_39 w24 =>
  condS v23_39 (
  X Try.prog (nilS x0) w24 fun v24_41 w25 =>
  X Try.prog (Instr.fieldAt 57 v24_41 2) w25 fun v25_42 w26 =>
  XU Try.prog (Instr.storeAt 30 v25_42 (.int .i64 4)) w26 fun w27 =>
  K (.string { data := #[] }) w27) (
  X Try.prog (convert 3 22 v13_23) w24 fun v26_45 w28 =>
  X Try.prog (binOp .gtr 22 v20_34 v26_45) w28 fun v27_46 w29 =>
  condS v27_46 (
  X Try.prog (nilS x0) w29 fun v28_48 w30 =>
  X Try.prog (Instr.fieldAt 57 v28_48 2) w30 fun v29_49 w31 =>
  XU Try.prog (Instr.storeAt 30 v29_49 (.int .i64 10)) w31 fun w32 =>
  K (.string { data := #[] }) w32) (
  ∃ R, Frame? R ∧
  XP Try.prog (nilS x0) (drewW w29) fun v30_51 w33 =>
  XP Try.prog (Instr.fieldAt 57 v30_51 0) w33 fun v31_52 w34 =>
  XR Try.prog R (Instr.loadAt 27 v31_52) w34 fun v32_53 w35 =>
  XP Try.prog (nilS x0) w35 fun v33_55 w36 =>
  XP Try.prog (Instr.fieldAt 57 v33_55 1) w36 fun v34_56 w37 =>
  XR Try.prog R (Instr.loadAt 3 v34_56) w37 fun v35_57 w38 =>
  XP Try.prog (binOp .add 3 v35_57 (.int .i64 4)) w38 fun v36_58 w39 =>
  XP Try.prog (nilS x0) w39 fun v37_60 w40 =>
  XP Try.prog (Instr.fieldAt 57 v37_60 1) w40 fun v38_61 w41 =>
  XR Try.prog R (Instr.loadAt 3 v38_61) w41 fun v39_62 w42 =>
  XP Try.prog (binOp .add 3 v39_62 (.int .i64 4)) w42 fun v40_63 w43 =>
  XR Try.prog R (convert 22 3 v20_34) w43 fun v41_65 w44 =>
  XP Try.prog (binOp .add 3 v40_63 v41_65) w44 fun v42_66 w45 =>
  XP Try.prog (Instr.sliceAt 27 v32_53 (some v36_58) (some v42_66) none) w45 fun v43_67 w46 =>
  XR Try.prog R (convert 27 9 v43_67) w46 fun v44_68 w47 =>
  X Try.prog (nilS x0) w47 fun v45_71 w48 =>
  X Try.prog (Instr.fieldAt 57 v45_71 1) w48 fun v46_72 w49 =>
  X Try.prog (Instr.loadAt 3 v46_72) w49 fun v47_73 w50 =>
  X Try.prog (binOp .add 3 v47_73 (.int .i64 4)) w50 fun v48_74 w51 =>
  X Try.prog (convert 22 3 v20_34) w51 fun v49_76 w52 =>
  X Try.prog (binOp .add 3 v48_74 v49_76) w52 fun v50_77 w53 =>
  X Try.prog (nilS x0) w53 fun v51_78 w54 =>
  X Try.prog (Instr.fieldAt 57 v51_78 1) w54 fun v52_79 w55 =>
  XU Try.prog (Instr.storeAt 3 v52_79 v50_77) w55 fun w56 =>
  K v44_68 w56))))

theorem eq_ref01_Reader_Text (x0 x1 : Value) (w : World) (K : Value → World → Prop) :
    sh Try.prog (Try.f60.body.getD .skip) (retS Try.prog Try.f60.results K) (env0 #[x0, x1]) w = B_ref01_Reader_Text x0 x1 w K := by kernel_rfl

theorem call_ref01_Reader_Text (x0 x1 : Value) (w : World) (K : Value → World → Prop) (h : B_ref01_Reader_Text x0 x1 w K) : CALL Try.prog 60 #[x0, x1] w K :=
  call_of_eq (c := Try.f60.body.getD .skip) mixed Try.func60 (by kernel_rfl) (by kernel_rfl) (by kernel_rfl) (Nat.le_of_ble_eq_true (by kernel_rfl)) (eq_ref01_Reader_Text x0 x1 w K) h

/-- (*cellarage/cellarageref01.Reader).End -/
def B_ref01_Reader_End (x0 : Value) (w : World) (K : Value → World → Prop) : Prop :=
  ∃ R, Frame? R ∧
  XP Try.prog (nilS x0) (drewW w) fun v1_4 w1 =>
  XP Try.prog (Instr.fieldAt 57 v1_4 2) w1 fun v2_5 w2 =>
  XR Try.prog R (Instr.loadAt 30 v2_5) w2 fun v3_6 w3 =>
  XP Try.prog (binOpG .eql 30 (.tmp 6) (.const (.int .i64 0)) v3_6 (.int .i64 0)) w3 fun v4_7 w4 =>
  gstep v4_7 true (fun w5 K => K x0 w5) w4 fun v5_9 w6 =>
  gstep v4_7 true (fun w7 K => XP Try.prog (nilS v5_9) w7 K) w6 fun v6_10 w8 =>
  gstep v4_7 true (fun w9 K => XP Try.prog (Instr.fieldAt 57 v6_10 1) w9 K) w8 fun v7_11 w10 =>
  gstep v4_7 true (fun w11 K => XR Try.prog R (Instr.loadAt 3 v7_11) w11 K) w10 fun v8_12 w12 =>
  gstep v4_7 true (fun w13 K => K x0 w13) w12 fun v9_13 w14 =>
  gstep v4_7 true (fun w15 K => XP Try.prog (nilS v9_13) w15 K) w14 fun v10_14 w16 =>
  gstep v4_7 true (fun w17 K => XP Try.prog (Instr.fieldAt 57 v10_14 0) w17 K) w16 fun v11_15 w18 =>
  gstep v4_7 true (fun w19 K => XR Try.prog R (Instr.loadAt 27 v11_15) w19 K) w18 fun v12_16 w20 =>
  gstep v4_7 true (fun w21 K => XP Try.prog (Builtin.len_ #[27] 3 #[v12_16]) w21 K) w20 fun v13_17 w22 =>
  gstep v4_7 true (fun w23 K => XP Try.prog (binOp .lss 3 v8_12 v13_17) w23 K) w22 fun v14_18 w24 =>
  XP Try.prog (pickS v4_7 v14_18 (.bool false)) w24 fun v15_19 w25 =>
  condS v15_19 (
  K (.int .i64 11) w25) (
  X Try.prog (nilS x0) w25 fun v16_21 w26 =>
  X Try.prog (Instr.fieldAt 57 v16_21 2) w26 fun v17_22 w27 =>
  X Try.prog (Instr.loadAt 30 v17_22) w27 fun v18_23 w28 =>
  K v18_23 w28)

theorem eq_ref01_Reader_End (x0 : Value) (w : World) (K : Value → World → Prop) :
    sh Try.prog (Try.f66.body.getD .skip) (retS Try.prog Try.f66.results K) (env0 #[x0]) w = B_ref01_Reader_End x0 w K := by kernel_rfl

theorem call_ref01_Reader_End (x0 : Value) (w : World) (K : Value → World → Prop) (h : B_ref01_Reader_End x0 w K) : CALL Try.prog 66 #[x0] w K :=
  call_of_eq (c := Try.f66.body.getD .skip) mixed Try.func66 (by kernel_rfl) (by kernel_rfl) (by kernel_rfl) (Nat.le_of_ble_eq_true (by kernel_rfl)) (eq_ref01_Reader_End x0 w K) h

end Go.Proofs.Ytggggfcgnkllgaa
end
section
/- Numbers as bytes: plain Lean. -/
namespace Go.Sh
/-- The m lowest bytes of n, the highest of them first. -/
def be : Nat → Nat → List UInt8
  | 0, _ => []
  | m + 1, n => UInt8.ofNat (n / 256 ^ m) :: be m n
@[simp] theorem be_length (m n : Nat) : (be m n).length = m := by
  induction m with
  | zero => rfl
  | succ m ih => simp [be, ih]
/-- The first k of them. -/
theorem be_take_succ (m n k : Nat) (h : k < m) : (be m n).take (k + 1) = (be m n).take k ++ [UInt8.ofNat (n / 256 ^ (m - 1 - k))] := by
  induction m generalizing k with
  | zero => omega
  | succ m ih =>
    cases k with
    | zero => simp [be]
    | succ k =>
      have := ih k (by omega)
      simp only [be, List.take_succ_cons, this, List.cons_append]
      have e : m + 1 - 1 - (k + 1) = m - 1 - k := by omega
      rw [e]
def clamp8 (many : Int) : Nat := (max 0 (min many 8)).toNat
def putB (n : Nat) (many : Int) : List UInt8 := be (clamp8 many) n
/-- Bytes as a number. -/
def num (l : List UInt8) : Nat := l.foldl (fun n u => n * 256 + u.toNat) 0
theorem u8_wrap (n : Nat) : Go.IntKind.u8.wrap (n : Int) = ((UInt8.ofNat n).toNat : Int) := by
  have h : ∀ x : Int, Go.IntKind.u8.wrap x = x % 256 := fun x => by simp [Go.IntKind.wrap, Go.IntKind.bits, Go.IntKind.signed]
  rw [h]
  simp
theorem fdiv_pow (n j : Nat) : (n : Int).fdiv (2 ^ j) = ((n / 2 ^ j : Nat) : Int) := by
  have hp : (0 : Int) ≤ 2 ^ j := Int.pow_nonneg (by decide)
  rw [Int.fdiv_eq_ediv_of_nonneg _ hp]
  norm_cast
theorem shr_byte (n i : Nat) : (n : Int).fdiv (2 ^ (8 * i)) = ((n / 256 ^ i : Nat) : Int) := by
  rw [fdiv_pow, Nat.pow_mul]
end Go.Sh
end
section
set_option linter.unusedVariables false
set_option linter.unusedSimpArgs false
namespace Go.Proofs.Ytggggfcgnkllgaa
open Go Go.Sh Go.RowKit
attribute [local irreducible] X XU XP XR CALL loopS resC closS

theorem w64 {x : Int} (h1 : -9223372036854775808 ≤ x) (h2 : x ≤ 9223372036854775807) : IntKind.i64.wrap x = x := by rw [IntKind.wrap_i64]; omega

theorem add_plain (b o i : Nat) : (⟨b, o, none⟩ : Addr).add i = ⟨b, o + i, none⟩ := by
  unfold Addr.add; split <;> simp_all
theorem next64 {i : Nat} {n : Nat} (h : n < 9223372036854775807) (hi : i ≤ n) : Value.int .i64 (IntKind.i64.wrap ((i : Int) + 1)) = Value.int .i64 ((i + 1 : Nat) : Int) := by
  rw [w64 (by omega) (by omega)]; rfl
theorem shr8 {P : Program} {T : TypeId} {yk : IntKind} (n i : Nat) (hi : i ≤ 7) {s : Int} (e : s = 8 * (i : Int)) (w : World) :
    (binOp .shr T (.int .u64 (n : Int)) (.int yk s)).run P w = .ok (.int .u64 ((n / 256 ^ i : Nat) : Int)) w := by
  subst e
  rw [run_shr _ _ (by omega) w]
  have e1 : min (8 * (i : Int)).toNat IntKind.u64.bits = 8 * i := by
    show min _ 64 = _
    omega
  rw [e1, shr_byte]

theorem Put_spec {b : Value} {bs : List UInt8} {n : Nat} {many : Int} {w : World} {K : Value → World → Prop} (hb : Bts w b bs) (hbs : bs.length ≤ 140737488351232) (hn : n < 18446744073709551616)
    (h : ∀ v w1, Ext w w1 → w1.ownsRow w.heap.size 5 1 v (bs ++ putB n many).length (B8 (bs ++ putB n many)) → K v w1) :
    CALL Try.prog 46 #[b, .int .u64 n, .int .i64 many] w K := by
  obtain ⟨m, hm⟩ : ∃ m : Nat, max 0 (min many 8) = (m : Int) := ⟨clamp8 many, by unfold clamp8; omega⟩
  have hm8 : m ≤ 8 := by omega
  have hput : putB n many = be m n := by unfold putB clamp8; rw [hm]; rfl
  rw [hput] at h
  obtain ⟨a, c, e, h1, h2, h3⟩ := id hb
  subst e
  apply call_codec_Put
  unfold B_codec_Put
  simp only [SS, ST, hm]
  refine X_make Try.underlying27 el_5 bs.length (bs.length + m) rfl (by rw [IntKind.wrap_i64]; omega) (by omega) (by omega) (by omega) ?_
  have hcells : madeCells (Value.int .u8 0).cells ((bs.length + m) * 1) = (List.replicate (bs.length + m) (Value.int .u8 0)).toArray := by
    apply Array.ext'
    rw [Nat.mul_one]
    exact made_one _ _
  rw [hcells]
  have hget := newB_get w (List.replicate (bs.length + m) (Value.int .u8 0)).toArray 5
  have hext := newB_ext w (List.replicate (bs.length + m) (Value.int .u8 0)).toArray 5
  have hsz := newB_size w (List.replicate (bs.length + m) (Value.int .u8 0)).toArray 5
  generalize newB w (List.replicate (bs.length + m) (Value.int .u8 0)).toArray 5 = w1 at hget hext hsz ⊢
  refine X_copy_bts Try.underlying27 (by kernel_rfl) hget (hb.ext hext) (by simp) ?_
  intro w2 hg2 hs2 hk2
  have hrow : w2.ownsRow w.heap.size 5 1 (.slice (some ⟨w.heap.size, 0, none⟩) bs.length (bs.length + m)) bs.length (B8 (bs ++ (be m n).take 0)) := by
    refine ⟨by simp, .inr ⟨w.heap.size, bs.length + m, _, rfl, Nat.le_refl _, hg2, by omega, by simp only [maxLen]; omega, ?_, ?_⟩⟩
    · simp
    · simp
  have hext2 : Ext w w2 := Ext.seq hext hk2 (fun i hi => by omega)
  refine loopS_of (fun ρ wr => ∃ k v, k ≤ m ∧ ρ 1 = .int .u64 n ∧ ρ 7 = v ∧ ρ 8 = .int .i64 (8 * ((m : Int) - 1 - k)) ∧ Ext w wr ∧
      wr.ownsRow w.heap.size 5 1 v (bs.length + k) (B8 (bs ++ (be m n).take k))) (fun ρ wr => match ρ 8 with | .int _ s => (s + 8).toNat | _ => 0) ?_ ?_
  · refine ⟨0, _, by omega, rfl, rfl, ?_, hext2, hrow⟩
    show Value.int .i64 _ = _
    congr 1
    simp only [IntKind.wrap_i64]
    omega
  · rintro ρ wr ⟨k, v, hk, h1', h7, h8, he, ho⟩
    simp only [SS, ST, h1', h7, h8]
    by_cases hkm : k = m
    · subst hkm
      rw [if_neg (by simp; omega)]
      show K (ρ 7) wr
      rw [h7]
      refine h v wr he ?_
      rw [List.take_of_length_le (by simp)] at ho
      simpa using ho
    · rw [if_pos (by simp; omega)]
      obtain ⟨j, hj⟩ : ∃ j, m = k + 1 + j := ⟨m - 1 - k, by omega⟩
      refine X_of (shr8 n j (by omega) (by omega) wr) ?_
      simp only [SS, ST]
      rw [u8_wrap]
      refine X_buildSlice1 Try.underlying27 el_5 rfl ?_
      refine X_append_u8 Try.underlying27 el_5 ho (by omega) he.size ?_
      intro v1 w3 ho3 hk3
      show _ ∧ _
      refine ⟨⟨k + 1, v1, by omega, h1', rfl, ?_, Ext.seq he hk3 ?_, ?_⟩, ?_⟩
      · show Value.int .i64 _ = _
        congr 1
        rw [w64 (by omega) (by omega)]
        omega
      · intro i hi
        exact (ho.lt i hi.symm).1
      · rw [be_take_succ m n k (by omega), ← List.append_assoc]
        have e1 : m - 1 - k = j := by omega
        rw [e1]
        exact ho3
      · show (IntKind.i64.wrap _ + 8).toNat < _
        rw [w64 (by omega) (by omega)]
        omega
end Go.Proofs.Ytggggfcgnkllgaa
end
section
/- More operations' laws: strings of bytes, bits, structs and arrays in memory. -/
set_option linter.unusedSimpArgs false
set_option linter.unusedVariables false
namespace Go.Sh
open Go Go.RowKit

/-- A string of these bytes. -/
def str (bs : List UInt8) : ByteArray := ⟨bs.toArray⟩
theorem str_toList (bs : List UInt8) : (str bs).toList = bs := ByteArray.toList_mk bs
theorem l8_beq (x y : List UInt8) : (x == y) = decide (x = y) := by rw [Bool.eq_iff_iff]; simp
theorem l8_bne (x y : List UInt8) : (x != y) = decide (x ≠ y) := by rw [Bool.eq_iff_iff]; simp
theorem str_size (bs : List UInt8) : (str bs).size = bs.length := by simp [str, ByteArray.size]
theorem str_of (s : ByteArray) : s = str s.data.toList := by simp [str]
theorem strCells_str (bs : List UInt8) : Lib.strCells (str bs) = B8 bs := by simp [Lib.strCells, str, B8]

theorem wrap_u64 (n : Int) : IntKind.u64.wrap n = n % 18446744073709551616 := by simp [IntKind.wrap, IntKind.bits, IntKind.signed]
theorem wrap_u32 (n : Int) : IntKind.u32.wrap n = n % 4294967296 := by simp [IntKind.wrap, IntKind.bits, IntKind.signed]
theorem wrap_u8 (n : Int) : IntKind.u8.wrap n = n % 256 := by simp [IntKind.wrap, IntKind.bits, IntKind.signed]

section
variable {P : Program}

theorem X_loadL {t : TypeId} {b o : Nat} {l : List Value} {T : TypeId} {fr : Nat × Nat} {v : Value} {w : World} {K : Value → World → Prop} (ht : aggB P t = false)
    (hb : w.heap[b]? = some (.cells l.toArray T fr)) (hv : l[o]? = some v) (h : K v w) : X P (Instr.loadAt t (.pointer (some ⟨b, o, none⟩))) w K :=
  X_loadB ht hb (by simpa using hv) h
/-- A cell of a block that R keeps. -/
theorem XR_loadL {t : TypeId} {b o : Nat} {l : List Value} {T : TypeId} {fr : Nat × Nat} {v : Value} {w : World} {K : Value → World → Prop} (ht : aggB P t = false)
    (hb : w.heap[b]? = some (.cells l.toArray T fr)) (hv : l[o]? = some v) (h : K v w) : XR P Ext (Instr.loadAt t (.pointer (some ⟨b, o, none⟩))) w K :=
  XR_ok Ext.frame (fun w' k => run_loadAt ht ((cell_blk (k.get hb)).trans (by simpa using hv))) h
theorem own_mono {w : World} {base base' : Nat} {e : TypeId} {size : Nat} {v : Value} {n : Nat} {xs : List Value} (h : w.ownsRow base e size v n xs) (hb : base' ≤ base) : w.ownsRow base' e size v n xs :=
  ⟨h.1, h.2.imp id fun ⟨g, cap, cur, he, hg, rest⟩ => ⟨g, cap, cur, he, Nat.le_trans hb hg, rest⟩⟩
theorem XR_of_all {R : World → World → Prop} {s : Sem Value} {w : World} {v : Value} {K : Value → World → Prop} (h : ∀ w', s.run P w' = .ok v w') (hK : K v w) : XR P R s w K := by
  rw [XR_eq h]; exact hK
theorem run_str {src dst e : TypeId} (hs : P.underlying src = some (.slice e)) (he : P.underlying e = some (.int .u8)) (hd : P.underlying dst = some .string) {v : Value} {bs : List UInt8} {w : World} (hb : Bts w v bs) :
    (convert src dst v).run P w = .ok (.string (str bs)) w := by
  obtain ⟨a, c, rfl, h1, h2, h3⟩ := hb
  rw [run_convert_bytes_string w src dst e _ _ c hs he hd]
  by_cases h0 : 0 < bs.length
  · obtain ⟨ad, rfl, hc⟩ := h3 h0
    have hl : (loadCells ad bs.length).run P w = .ok ((bs.map fun u => (u.toNat : Int)).map (Value.int .u8)).toArray w := by
      have := run_loadCells_list (P := P) w ad ((bs.map fun u => (u.toNat : Int)).map (Value.int .u8)) (fun j v hj => by
        simp only [List.map_map, List.getElem?_map] at hj
        obtain ⟨u, hu, rfl⟩ := Option.map_eq_some_iff.1 hj
        exact hc j u hu)
      simpa using this
    rw [run_bytesToString w _ _ c _ hl, foldl_push_bytes]
    congr 2
    simp [str, List.map_map, Function.comp_def, ByteArray.empty, ByteArray.emptyWithCapacity]
    rfl
  · have : bs = [] := List.eq_nil_of_length_eq_zero (by omega)
    subst this
    cases a with
    | none => simp [Conv.bytesToString, str]; rfl
    | some ad => simp [Conv.bytesToString, loadCells, loadCellsFrom, str]; rfl
theorem X_str {src dst e : TypeId} (hs : P.underlying src = some (.slice e)) (he : P.underlying e = some (.int .u8)) (hd : P.underlying dst = some .string) {v : Value} {bs : List UInt8} {w : World} {K : Value → World → Prop} (hb : Bts w v bs)
    (h : K (.string (str bs)) w) : X P (convert src dst v) w K := X_of (run_str hs he hd hb) h
theorem XR_str {src dst e : TypeId} (hs : P.underlying src = some (.slice e)) (he : P.underlying e = some (.int .u8)) (hd : P.underlying dst = some .string) {v : Value} {bs : List UInt8} {w : World} {K : Value → World → Prop} (hb : Bts w v bs)
    (h : K (.string (str bs)) w) : XR P Ext (convert src dst v) w K := XR_ok Ext.frame (fun w' k => run_str hs he hd (hb.ext k)) h
theorem X_eq_str (T : TypeId) (a b : Operand) (x y : List UInt8) (w : World) (K : Value → World → Prop) : X P (binOpG .eql T a b (.string (str x)) (.string (str y))) w K = K (.bool (decide (x = y))) w := by
  rw [X_ok (run_string_eql T a b _ _ w), str_toList, str_toList]
  have : (x == y) = decide (x = y) := by rw [Bool.eq_iff_iff]; simp
  rw [this]
theorem XP_eq_str (T : TypeId) (a b : Operand) (x y : List UInt8) (w : World) (K : Value → World → Prop) : XP P (binOpG .eql T a b (.string (str x)) (.string (str y))) w K = K (.bool (decide (x = y))) w := by
  rw [XP_ok (fun w => run_string_eql T a b _ _ w), str_toList, str_toList]
  have : (x == y) = decide (x = y) := by rw [Bool.eq_iff_iff]; simp
  rw [this]
theorem X_ne_str (T : TypeId) (a b : Operand) (x y : List UInt8) (w : World) (K : Value → World → Prop) : X P (binOpG .neq T a b (.string (str x)) (.string (str y))) w K = K (.bool (decide (x ≠ y))) w := by
  rw [X_ok (run_string_neq T a b _ _ w), str_toList, str_toList]
  have : (x != y) = decide (x ≠ y) := by rw [Bool.eq_iff_iff]; simp
  rw [this]
theorem XP_ne_str (T : TypeId) (a b : Operand) (x y : List UInt8) (w : World) (K : Value → World → Prop) : XP P (binOpG .neq T a b (.string (str x)) (.string (str y))) w K = K (.bool (decide (x ≠ y))) w := by
  rw [XP_ok (fun w => run_string_neq T a b _ _ w), str_toList, str_toList]
  have : (x != y) = decide (x ≠ y) := by rw [Bool.eq_iff_iff]; simp
  rw [this]
/-- append of a string to bytes of the call's own. -/
theorem X_append_str {base : Nat} {t u U e : TypeId} (ht : P.underlying t = some (.slice e)) (hu : P.underlying u = some .string) (hE : El P e 1 (.int .u8 0) 1) {v : Value} {n : Nat} {xs : List UInt8} {w : World} {K : Value → World → Prop} (hown : w.ownsRow base e 1 v n (B8 xs))
    {bs : List UInt8} (hb : n + bs.length ≤ 140737488355328) (hbase : base ≤ w.heap.size)
    (h : ∀ v' w1, w1.ownsRow base e 1 v' (n + bs.length) (B8 (xs ++ bs)) → Keep (fun k => some k = v.ownBlock) w w1 → K v' w1) : X P (Builtin.append_ #[t, u] U #[v, .string (str bs)]) w K := by
  obtain ⟨⟨i, hi, hs, hz, hby⟩, hzc⟩ := hE
  obtain ⟨v', w1, hr, h2, h3, _⟩ := Lib.run_append_own_string (P := P) w base t u U e i ht hu hi hz hs hby v n (B8 xs) hown (str bs) (by rw [str_size]; simp only [maxLen]; omega) (by rw [str_size]; exact hb) hbase
  rw [X_ok hr]
  rw [str_size, strCells_str, ← B8_append] at h2
  exact h v' w1 h2 (keep_grown h3)

/-! ### Bits -/
theorem run_xor {k : IntKind} (hk : k.signed = false) (T : TypeId) (x y : Nat) (hx : x < 2 ^ k.bits) (hy : y < 2 ^ k.bits) (w : World) : (binOp .xor T (.int k (x : Int)) (.int k (y : Int))).run P w = .ok (.int k ((x ^^^ y : Nat) : Int)) w := by
  have h1 : (BitVec.ofInt k.bits (x : Int) ^^^ BitVec.ofInt k.bits (y : Int)).toNat = x ^^^ y := by
    rw [BitVec.toNat_xor, BitVec.ofInt_natCast, BitVec.ofInt_natCast, BitVec.toNat_ofNat, BitVec.toNat_ofNat, Nat.mod_eq_of_lt hx, Nat.mod_eq_of_lt hy]
  have h2 : k.wrap ((x ^^^ y : Nat) : Int) = ((x ^^^ y : Nat) : Int) := by
    have h3 : x ^^^ y < 2 ^ k.bits := Nat.xor_lt_two_pow hx hy
    have h4 : ((x ^^^ y : Nat) : Int) % (2 ^ k.bits : Nat) = ((x ^^^ y : Nat) : Int) := by
      rw [← Int.natCast_emod, Nat.mod_eq_of_lt h3]
    simp only [IntKind.wrap, hk]
    simpa using h4
  simp [binOp, Op.intBits, Nat.mod_eq_of_lt hx, Nat.mod_eq_of_lt hy, h2]
theorem run_or {k : IntKind} (hk : k.signed = false) (T : TypeId) (x y : Nat) (hx : x < 2 ^ k.bits) (hy : y < 2 ^ k.bits) (w : World) : (binOp .or T (.int k (x : Int)) (.int k (y : Int))).run P w = .ok (.int k ((x ||| y : Nat) : Int)) w := by
  have h1 : (BitVec.ofInt k.bits (x : Int) ||| BitVec.ofInt k.bits (y : Int)).toNat = x ||| y := by
    rw [BitVec.toNat_or, BitVec.ofInt_natCast, BitVec.ofInt_natCast, BitVec.toNat_ofNat, BitVec.toNat_ofNat, Nat.mod_eq_of_lt hx, Nat.mod_eq_of_lt hy]
  have h2 : k.wrap ((x ||| y : Nat) : Int) = ((x ||| y : Nat) : Int) := by
    have h3 : x ||| y < 2 ^ k.bits := Nat.or_lt_two_pow hx hy
    have h4 : ((x ||| y : Nat) : Int) % (2 ^ k.bits : Nat) = ((x ||| y : Nat) : Int) := by
      rw [← Int.natCast_emod, Nat.mod_eq_of_lt h3]
    simp only [IntKind.wrap, hk]
    simpa using h4
  simp [binOp, Op.intBits, Nat.mod_eq_of_lt hx, Nat.mod_eq_of_lt hy, h2]

/-! ### Structs and arrays in memory -/
/-- A whole block of that type is loaded. -/
theorem run_loadAgg {t : TypeId} {d : TypeDesc} (hu : P.underlying t = some d) (ha : aggB P t = true) (hi : infoB P t = true) {b o : Nat} {cs : Array Value} {T : TypeId} {fr : Nat × Nat} {w : World} (hb : w.heap[b]? = some (.cells cs T fr))
    {l : List Value} (hl : (cs.toList.drop o).take (szT P t) = l) (hn : l.length = szT P t) : (Instr.loadAt t (.pointer (some ⟨b, o, none⟩))).run P w = .ok (.agg l.toArray) w := by
  have hload : (loadCells ⟨b, o, none⟩ l.length).run P w = .ok l.toArray w := by
    refine run_loadCells_list w _ l fun j v hj => ?_
    have e : (⟨b, o, none⟩ : Addr).add j = ⟨b, o + j, none⟩ := by unfold Addr.add; split <;> simp_all
    rw [e, cell_blk hb]
    rw [← hl, List.getElem?_take] at hj
    split at hj
    · rw [List.getElem?_drop] at hj
      rwa [Array.getElem?_toList] at hj
    · cases hj
  rw [hn] at hload
  simp [Instr.loadAt, Instr.sureAddr, loadVar, isAgg_run' hu ha, sizeOf_run hi, hload]
theorem X_loadAgg {t : TypeId} {d : TypeDesc} (hu : P.underlying t = some d) (ha : aggB P t = true) (hi : infoB P t = true) {b : Nat} {l : List Value} {T : TypeId} {fr : Nat × Nat} {w : World} {K : Value → World → Prop}
    (hb : w.heap[b]? = some (.cells l.toArray T fr)) (hn : l.length = szT P t) (h : K (.agg l.toArray) w) : X P (Instr.loadAt t (.pointer (some ⟨b, 0, none⟩))) w K :=
  X_of (run_loadAgg hu ha hi hb (by rw [List.drop_zero]; exact List.take_of_length_le (by simp [hn])) hn) h
theorem XR_loadAgg {t : TypeId} {d : TypeDesc} (hu : P.underlying t = some d) (ha : aggB P t = true) (hi : infoB P t = true) {b : Nat} {l : List Value} {T : TypeId} {fr : Nat × Nat} {w : World} {K : Value → World → Prop}
    (hb : w.heap[b]? = some (.cells l.toArray T fr)) (hn : l.length = szT P t) (h : K (.agg l.toArray) w) : XR P Ext (Instr.loadAt t (.pointer (some ⟨b, 0, none⟩))) w K :=
  XR_ok Ext.frame (fun w' k => run_loadAgg hu ha hi (k.get hb) (by rw [List.drop_zero]; exact List.take_of_length_le (by simp [hn])) hn) h
theorem resC_agg {t : TypeId} {d : TypeDesc} (hu : P.underlying t = some d) (ha : aggB P t = true) (hi : infoB P t = true) {b : Nat} {l : List Value} {T : TypeId} {fr : Nat × Nat} {w : World} {K : Value → Prop}
    (hb : w.heap[b]? = some (.cells l.toArray T fr)) (hn : l.length = szT P t) (h : K (.agg l.toArray)) : resC P t (.pointer (some ⟨b, 0, none⟩)) w K := by
  have := run_loadAgg hu ha hi hb (by rw [List.drop_zero]; exact List.take_of_length_le (by simp [hn])) hn
  simp only [Instr.loadAt, Instr.sureAddr] at this
  unfold resC
  have e : (do loadVar t (← asAddr (.pointer (some ⟨b, 0, none⟩))) : Sem Value).run P w = .ok (.agg l.toArray) w := by
    simp only [asAddr]
    simpa using this
  rw [e]
  exact ⟨rfl, h⟩
theorem run_storeAgg {t : TypeId} (hi : infoB P t = true) {b : Nat} {cs : Array Value} {l : List Value} {T : TypeId} {w : World} (hb : w.heap[b]? = some (.cells cs T (0, 0))) (hc : cs.size = szT P t) (hn : l.length = szT P t)
    (h1 : ∀ v ∈ l, v.oneCell' = true) : (Instr.storeAt t (.pointer (some ⟨b, 0, none⟩)) (.agg l.toArray)).run P w = .ok () (setAt w b l.toArray T (0, 0)) := by
  have hst := run_storeCells_at P b 0 T l 0 cs w hb (by omega) h1
  have e : w.setRow b ((cs.toList.take (0 + 0) ++ l ++ cs.toList.drop (0 + 0 + l.length)).toArray) = setAt w b l.toArray T (0, 0) := by
    have e1 : cs.toList.drop (0 + 0 + l.length) = [] := List.drop_eq_nil_of_le (by simp; omega)
    rw [e1, List.take_zero, List.nil_append, List.append_nil]
    unfold World.setRow setAt
    congr 1
    apply Array.ext_getElem?
    intro i
    have hl := lt_of_blk hb
    by_cases hi : i = b
    · subst hi
      rw [Array.getElem?_modify, if_pos rfl, hb]
      simp [hl]
    · rw [Array.getElem?_setIfInBounds_ne (Ne.symm hi), Array.getElem?_modify]
      simp [Ne.symm hi]
  rw [e] at hst
  simp [Instr.storeAt, Instr.sureAddr, storeVar, sizeOf_run hi, Value.cells, hn, hst]
theorem XU_storeAgg {t : TypeId} (hi : infoB P t = true) {b : Nat} {cs : Array Value} {l : List Value} {T : TypeId} {w : World} {K : World → Prop} (hb : w.heap[b]? = some (.cells cs T (0, 0))) (hc : cs.size = szT P t) (hn : l.length = szT P t)
    (h1 : ∀ v ∈ l, v.oneCell' = true) (h : K (setAt w b l.toArray T (0, 0))) : XU P (Instr.storeAt t (.pointer (some ⟨b, 0, none⟩)) (.agg l.toArray)) w K := by
  unfold XU; rw [run_storeAgg hi hb hc hn h1]; exact h
theorem run_arrayAt {arr e n : Nat} (ha : P.underlying arr = some (.array n e)) (a : Option Addr) {l : Nat} (hl : n ≤ l) (c : Nat) (w : World) : (Instr.arrayAt arr (.slice a l c)).run P w = .ok (.pointer a) w := by
  have : ¬ l < n := by omega
  simp [Instr.arrayAt, run_underlying ha, this]
end
end Go.Sh
end
section
/- cellarage/codec's reader: each function by its contract. -/
set_option linter.unusedVariables false
set_option linter.unusedSimpArgs false
namespace Go.Proofs.Ytggggfcgnkllgaa
open Go Go.Sh Go.RowKit
attribute [local irreducible] X XU XP XR CALL loopS resC closS

/-- A codec reader lies in block b: bs are left, f is its fault; its bytes lie in a block between lo and hi. -/
def Rdr (w : World) (lo hi b : Nat) (bs : List UInt8) (f : Int) : Prop :=
  ∃ v, w.heap[b]? = some (.cells #[v, .int .i64 f] 176 (0, 0)) ∧ Bts w v bs ∧ ∀ k, v.ownBlock = some k → lo ≤ k ∧ k < hi ∧ k ≠ b
theorem Rdr.keep {D : Nat → Prop} {w w' : World} {lo hi b : Nat} {bs : List UInt8} {f : Int} (h : Rdr w lo hi b bs f) (k : Keep D w w') (h1 : ¬ D b) (h2 : ∀ i, lo ≤ i → i < hi → i ≠ b → ¬ D i) : Rdr w' lo hi b bs f := by
  obtain ⟨v, hb, hv, ho⟩ := h
  exact ⟨v, k.get h1 hb, hv.keep k (fun i hi => h2 i (ho i hi).1 (ho i hi).2.1 (ho i hi).2.2), ho⟩
theorem Rdr.ext {w w' : World} {lo hi b : Nat} {bs : List UInt8} {f : Int} (h : Rdr w lo hi b bs f) (k : Ext w w') : Rdr w' lo hi b bs f := h.keep k (fun h => h) (fun _ _ _ _ h => h)
theorem Rdr.lt {w : World} {lo hi b : Nat} {bs : List UInt8} {f : Int} (h : Rdr w lo hi b bs f) : b < w.heap.size := by
  obtain ⟨v, hb, _⟩ := h
  exact lt_of_blk hb

theorem num_append (l : List UInt8) (u : UInt8) : num (l ++ [u]) = num l * 256 + u.toNat := by simp [num]
theorem num_lt (l : List UInt8) : num l < 256 ^ l.length := by
  have : ∀ (l : List UInt8) (a : Nat), l.foldl (fun n u => n * 256 + u.toNat) a < (a + 1) * 256 ^ l.length := by
    intro l
    induction l with
    | nil => intro a; simp
    | cons u l ih =>
      intro a
      have h1 := ih (a * 256 + u.toNat)
      have h2 := u.toNat_lt
      have h3 : (a * 256 + u.toNat + 1) * 256 ^ l.length ≤ ((a + 1) * 256) * 256 ^ l.length := Nat.mul_le_mul_right _ (by omega)
      rw [List.foldl_cons, List.length_cons, Nat.pow_succ, Nat.mul_comm (256 ^ l.length) 256, ← Nat.mul_assoc]
      omega
  simpa [num] using this l 0
theorem take_succ' (l : List UInt8) (i : Nat) (h : i < l.length) : l.take (i + 1) = l.take i ++ [l[i]] := by
  rw [List.take_add_one, List.getElem?_eq_getElem h]; rfl
theorem shl8_or (n : Nat) (u : UInt8) : n * 256 ||| u.toNat = n * 256 + u.toNat := by
  have h := Nat.shiftLeft_add_eq_or_of_lt (i := 8) (b := u.toNat) u.toNat_lt n
  rw [Nat.shiftLeft_eq] at h
  exact h.symm

theorem number_spec {v : Value} {bs : List UInt8} {w : World} {K : Value → World → Prop} (hb : Bts w v bs) (hl : bs.length ≤ 8) (h : K (.int .u64 (num bs : Nat)) w) :
    CALL Try.prog 129 #[v] w K := by
  obtain ⟨a, c, e, h1, h2, h3⟩ := id hb
  subst e
  apply call_codec_number
  unfold B_codec_number
  simp only [SS, ST]
  refine loopS_of (fun ρ wr => ∃ i, i ≤ bs.length ∧ wr = w ∧ ρ 8 = .int .i64 (i : Nat) ∧ ρ 7 = .int .i64 (bs.length : Nat) ∧ ρ 6 = .slice a bs.length c ∧ ρ 3 = .int .u64 (num (bs.take i) : Nat))
    (fun ρ wr => match ρ 8 with | .int _ s => (bs.length - s).toNat | _ => 0) ?_ ?_
  · exact ⟨0, by omega, rfl, rfl, rfl, rfl, rfl⟩
  · rintro ρ wr ⟨i, hi, rfl, h8, h7, h6, h3⟩
    simp only [SS, ST, h8, h7, h6, h3]
    by_cases hin : i = bs.length
    · subst hin
      rw [if_neg (by simp)]
      show K (ρ 3) wr
      rw [h3, List.take_length]
      exact h
    · rw [if_pos (by simp; omega)]
      obtain ⟨ad, hix, hcell, _⟩ := at_bts Try.underlying27 info_5 sz_5 hb (k := .i64) i rfl (by omega)
      refine X_of (hix _) ?_
      refine X_load agg_5 hcell ?_
      refine X_of (run_shl _ _ (by decide) _) ?_
      simp only [SS, ST]
      have hn := num_lt (bs.take i)
      have hp : (256 : Nat) ^ (bs.take i).length ≤ 256 ^ 7 := Nat.pow_le_pow_right (by decide) (by simp; omega)
      have hu := (bs[i]).toNat_lt
      have e1 : IntKind.u64.wrap (((num (bs.take i) : Nat) : Int) * 2 ^ min (Int.toNat 8) IntKind.u64.bits) = ((num (bs.take i) * 256 : Nat) : Int) := by
        have : (2 : Int) ^ min (Int.toNat 8) IntKind.u64.bits = 256 := by decide
        rw [this, wrap_u64]
        omega
      have e2 : IntKind.u64.wrap ((bs[i].toNat : Nat) : Int) = ((bs[i].toNat : Nat) : Int) := by
        rw [wrap_u64]
        omega
      rw [e1, e2]
      refine X_of (run_or rfl _ _ _ (by show _ < 2 ^ 64; omega) (by show _ < 2 ^ 64; omega) _) ?_
      simp only [SS, ST]
      rw [shl8_or, ← num_append, ← take_succ' bs i (by omega)]
      show _ ∧ _
      refine ⟨⟨i + 1, by omega, trivial, ?_, h7, h6, rfl⟩, ?_⟩
      · show Value.int .i64 _ = _
        congr 1
        rw [w64 (by omega) (by omega)]
        omega
      · show (_ - IntKind.i64.wrap _).toNat < _
        rw [w64 (by omega) (by omega)]
        omega

theorem run_build_176 (a : Option Addr) (n c : Nat) (w : World) : (Instr.build 176 #[(0, .slice a n c)]).run Try.prog w = .ok (.agg #[.slice a n c, .int .i64 0]) w := by kernel_rfl

theorem Bts.slice {w : World} {v : Value} {bs : List UInt8} (h : Bts w v bs) : ∃ a c, v = .slice a bs.length c := by
  obtain ⟨a, c, e, _⟩ := h
  exact ⟨a, c, e⟩

theorem New_spec {v : Value} {bs : List UInt8} {w : World} {K : Value → World → Prop} (hb : Bts w v bs) (hl : bs.length ≤ 140737488355328)
    (h : ∀ b w1, Ext w w1 → w.heap.size ≤ b → Rdr w1 w.heap.size w1.heap.size b bs 0 → K (.pointer (some ⟨b, 0, none⟩)) w1) :
    CALL Try.prog 58 #[v] w K := by
  apply call_codec_New
  unfold B_codec_New
  refine X_append_bts Try.underlying27 el_5 (xs := []) (World.ownsRow_nil w w.heap.size 5 1) hb (by omega) (Nat.le_refl _) ?_
  intro v1 w1 ho hk
  obtain ⟨hv1, hn⟩ := own_bts ho
  rw [List.nil_append] at hv1 ho
  obtain ⟨a, c, e⟩ := Bts.slice hv1
  have hlt := ho.lt
  subst e
  refine X_of (run_build_176 a _ c _) ?_
  refine X_box ?_
  have hx : Ext w w1 := hk.mono (fun i _ h => by cases h)
  refine h _ _ (hx.trans (newB_ext _ _ _)) hx.size ⟨_, newB_get _ _ _, hv1.ext (newB_ext _ _ _), fun k hk => ?_⟩
  have := hlt k hk
  rw [newB_size]
  omega

theorem ready_spec {lo hi b : Nat} {bs : List UInt8} {f : Int} {w : World} {K : Value → World → Prop} (hr : Rdr w lo hi b bs f) (h : K (.bool (decide (f = 0))) w) :
    CALL Try.prog 128 #[.pointer (some ⟨b, 0, none⟩)] w K := by
  obtain ⟨v, hb, hv, ho⟩ := hr
  apply call_codec_Reader_ready
  unfold B_codec_Reader_ready
  simp only [SS, ST, Option.isSome_some, if_true]
  refine X_loadL agg_30 hb rfl ?_
  simp only [SS, ST, if_true]
  exact h
theorem ready_nil {w : World} {K : Value → World → Prop} (h : K (.bool false) w) : CALL Try.prog 128 #[.pointer none] w K := by
  apply call_codec_Reader_ready
  unfold B_codec_Reader_ready
  simp only [SS, ST, Option.isSome_none, if_false, Bool.false_eq_true]
  exact h

def getR (bs : List UInt8) (f m : Int) : Nat × List UInt8 × Int :=
  if f ≠ 0 then (0, bs, f) else if m < 0 ∨ 8 < m then (0, bs, 1) else if bs.length < m.toNat then (0, bs, 10) else (num (bs.take m.toNat), bs.drop m.toNat, 0)

/-- The reader's fault is set. -/
theorem Rdr.fault {lo hi b : Nat} {bs : List UInt8} {f : Int} {w : World} (g : Int) {v : Value} (hb : w.heap[b]? = some (.cells #[v, .int .i64 f] 176 (0, 0))) (hv : Bts w v bs) (ho : ∀ k, v.ownBlock = some k → lo ≤ k ∧ k < hi ∧ k ≠ b) :
    Rdr (setAt w b #[v, .int .i64 g] 176 (0, 0)) lo hi b bs g :=
  ⟨v, setAt_same (lt_of_blk hb), hv.keep (setAt_keep _ _ _ _ _) (fun k hk => (ho k hk).2.2), ho⟩
theorem Rdr.move {lo hi b : Nat} {bs' : List UInt8} {f : Int} {w : World} {v v' : Value} (hb : w.heap[b]? = some (.cells #[v, .int .i64 f] 176 (0, 0))) (hv : Bts w v' bs') (ho : ∀ k, v'.ownBlock = some k → lo ≤ k ∧ k < hi ∧ k ≠ b) :
    Rdr (setAt w b #[v', .int .i64 f] 176 (0, 0)) lo hi b bs' f :=
  ⟨v', setAt_same (lt_of_blk hb), hv.keep (setAt_keep _ _ _ _ _) (fun k hk => (ho k hk).2.2), ho⟩

theorem Get_spec {lo hi b : Nat} {bs : List UInt8} {f m : Int} {w : World} {K : Value → World → Prop} (hr : Rdr w lo hi b bs f)
    (h : ∀ w1, Keep (· = b) w w1 → Rdr w1 lo hi b (getR bs f m).2.1 (getR bs f m).2.2 → K (.int .u64 ((getR bs f m).1 : Nat)) w1) :
    CALL Try.prog 61 #[.pointer (some ⟨b, 0, none⟩), .int .i64 m] w K := by
  apply call_codec_Reader_Get
  unfold B_codec_Reader_Get
  refine ready_spec hr ?_
  obtain ⟨v, hb, hv, ho⟩ := id hr
  simp only [SS, ST]
  by_cases hf : f = 0
  · subst hf
    rw [if_neg (by simp)]
    have epick : (if decide (m < 0) = true then Value.bool true else if decide (m < 0) = false then Value.bool (decide (m > 8)) else undef) = .bool (decide (m < 0 ∨ 8 < m)) := by
      by_cases h1 : m < 0
      · simp [h1]
      · simp [h1]
    by_cases hm : m < 0 ∨ 8 < m
    · have eg : getR bs 0 m = (0, bs, 1) := by simp [getR, hm]
      rw [eg] at h
      have goal : K (.int .u64 0) (setAt w b #[v, .int .i64 1] 176 (0, 0)) := h _ (setAt_keep _ _ _ _ _) (Rdr.fault 1 hb hv ho)
      by_cases h1 : m < 0
      · simp only [h1, SS, ST, decide_true, if_true, Bool.true_eq_false, if_false]
        refine XU_store info_30 sz_30 rfl hb (by simp) (by decide) ?_
        exact goal
      · have h2 : 8 < m := by omega
        simp only [h1, h2, SS, ST, decide_true, decide_false, if_true, Bool.false_eq_true, if_false, gt_iff_lt]
        refine XU_store info_30 sz_30 rfl hb (by simp) (by decide) ?_
        exact goal
    · obtain ⟨n, rfl⟩ : ∃ n : Nat, m = n := ⟨m.toNat, by omega⟩
      have h1 : ¬ ((n : Int) < 0) := by omega
      have h2 : ¬ (8 < (n : Int)) := by omega
      simp only [h1, h2, SS, ST, decide_false, if_true, Bool.false_eq_true, if_false, gt_iff_lt]
      refine X_loadL agg_27 hb rfl ?_
      obtain ⟨a, c, e⟩ := Bts.slice hv
      subst e
      simp only [SS, ST]
      by_cases hlen : bs.length < n
      · have eg : getR bs 0 n = (0, bs, 10) := by simp [getR, hm, hlen]
        rw [eg] at h
        rw [if_pos (by simp; omega)]
        refine XU_store info_30 sz_30 rfl hb (by simp) (by decide) ?_
        exact h _ (setAt_keep _ _ _ _ _) (Rdr.fault 10 hb hv ho)
      · have eg : getR bs 0 n = (num (bs.take n), bs.drop n, 0) := by simp [getR, hm, hlen]
        rw [eg] at h
        rw [if_neg (by simp; omega)]
        refine X_loadL agg_27 hb rfl ?_
        obtain ⟨u, hu, hub, huo⟩ := cut_hi Try.underlying27 info_5 hv (kh := .i64) n rfl (by omega)
        refine X_of (hu _) ?_
        refine number_spec hub (by simp; omega) ?_
        refine X_loadL agg_27 hb rfl ?_
        obtain ⟨u2, hu2, hub2, huo2⟩ := cut_lo Try.underlying27 info_5 sz_5 hv (kl := .i64) n rfl (by omega)
        refine X_of (hu2 _) ?_
        obtain ⟨a2, c2, e2⟩ := Bts.slice hub2
        subst e2
        refine XU_store info_27 sz_27 rfl hb (by simp) (by decide) ?_
        exact h _ (setAt_keep _ _ _ _ _) (Rdr.move hb hub2 (fun k hk => ho k (by rw [← huo2]; exact hk)))
  · rw [if_pos (by simp [hf])]
    have eg : getR bs f m = (0, bs, f) := by simp [getR, hf]
    rw [eg] at h
    exact h w (Keep.refl _ _) hr
theorem Get_nil {m : Value} {w : World} {K : Value → World → Prop} (h : K (.int .u64 0) w) : CALL Try.prog 61 #[.pointer none, m] w K := by
  apply call_codec_Reader_Get
  unfold B_codec_Reader_Get
  refine ready_nil ?_
  simp only [SS, ST]
  exact h

def textR (bs : List UInt8) (f limit : Int) : List UInt8 × List UInt8 × Int :=
  if f ≠ 0 then ([], bs, f) else if bs.length < 4 then ([], bs, 10)
  else if max limit 0 < (num (bs.take 4) : Int) then ([], bs, 4)
  else if (bs.drop 4).length < num (bs.take 4) then ([], bs, 10)
  else ((bs.drop 4).take (num (bs.take 4)), (bs.drop 4).drop (num (bs.take 4)), 0)

theorem Text_spec {lo hi b : Nat} {bs : List UInt8} {f m : Int} {w : World} {K : Value → World → Prop} (hr : Rdr w lo hi b bs f) (hm : m ≤ 9223372036854775807)
    (h : ∀ w1, Keep (· = b) w w1 → Rdr w1 lo hi b (textR bs f m).2.1 (textR bs f m).2.2 → K (.string (str (textR bs f m).1)) w1) :
    CALL Try.prog 59 #[.pointer (some ⟨b, 0, none⟩), .int .i64 m] w K := by
  apply call_codec_Reader_Text
  unfold B_codec_Reader_Text
  refine ready_spec hr ?_
  obtain ⟨v, hb, hv, ho⟩ := id hr
  simp only [SS, ST]
  by_cases hf : f = 0
  · subst hf
    rw [if_neg (by simp)]
    refine X_loadL agg_27 hb rfl ?_
    obtain ⟨a, c, e⟩ := Bts.slice hv
    subst e
    obtain ⟨_, _, _, hc1, hc2, _⟩ := id hv
    simp only [SS, ST]
    by_cases h4 : bs.length < 4
    · have eg : textR bs 0 m = ([], bs, 10) := by simp [textR, h4]
      rw [eg] at h
      rw [if_pos (by simp; omega)]
      refine XU_store info_30 sz_30 rfl hb (by simp) (by decide) ?_
      exact h _ (setAt_keep _ _ _ _ _) (Rdr.fault 10 hb hv ho)
    · rw [if_neg (by simp; omega)]
      refine ⟨Ext, Ext.frame, ?_⟩
      have hbd : (drewW w).heap[b]? = some (.cells #[.slice a bs.length c, .int .i64 0] 176 (0, 0)) := hb
      refine XR_loadL agg_27 hbd rfl ?_
      obtain ⟨u, hu, hub, huo⟩ := cut_hi Try.underlying27 info_5 hv (kh := .i64) 4 rfl (by omega)
      refine XP_of hu ?_
      refine XR_loadL agg_27 hbd rfl ?_
      obtain ⟨u2, hu2, hub2, huo2⟩ := cut_lo Try.underlying27 info_5 sz_5 hv (kl := .i64) 4 rfl (by omega)
      refine XP_of hu2 ?_
      refine number_spec hub.drew (by simp; omega) ?_
      refine ⟨Ext.frame.refl _, ?_⟩
      obtain ⟨a2, c2, e2⟩ := Bts.slice hub2
      subst e2
      simp only [SS, ST]
      have hnl := num_lt (bs.take 4)
      have hnl4 : (bs.take 4).length = 4 := by simp; omega
      rw [hnl4] at hnl
      have e1 : IntKind.u64.wrap (max m 0) = max m 0 := by rw [wrap_u64]; omega
      have hd4 : (bs.drop 4).length = bs.length - 4 := by simp
      have e2 : IntKind.u64.wrap (((bs.drop 4).length : Nat) : Int) = (((bs.drop 4).length : Nat) : Int) := by rw [wrap_u64]; omega
      rw [e1]
      by_cases hlim : max m 0 < (num (bs.take 4) : Int)
      · have eg : textR bs 0 m = ([], bs, 4) := by simp only [textR, h4, hlim, ne_eq, not_true, if_false, if_true]
        rw [eg] at h
        rw [if_pos (by simp only [gt_iff_lt, decide_eq_true_eq]; exact hlim)]
        refine XU_store info_30 sz_30 rfl hbd (by simp) (by decide) ?_
        exact h _ ((Keep.drew _ w).trans (setAt_keep _ _ _ _ _)) (Rdr.fault 4 hbd hv.drew ho)
      · rw [if_neg (by simp only [gt_iff_lt, decide_eq_true_eq]; exact hlim), e2]
        by_cases hfew : (bs.drop 4).length < num (bs.take 4)
        · have eg : textR bs 0 m = ([], bs, 10) := by simp only [textR, h4, hlim, hfew, ne_eq, not_true, if_false, if_true]
          rw [eg] at h
          rw [if_pos (by simp only [gt_iff_lt, decide_eq_true_eq]; omega)]
          refine XU_store info_30 sz_30 rfl hbd (by simp) (by decide) ?_
          exact h _ ((Keep.drew _ w).trans (setAt_keep _ _ _ _ _)) (Rdr.fault 10 hbd hv.drew ho)
        · have eg : textR bs 0 m = ((bs.drop 4).take (num (bs.take 4)), (bs.drop 4).drop (num (bs.take 4)), 0) := by simp only [textR, h4, hlim, hfew, ne_eq, not_true, if_false]
          rw [eg] at h
          rw [if_neg (by simp only [gt_iff_lt, decide_eq_true_eq]; omega)]
          obtain ⟨u3, hu3, hub3, huo3⟩ := cut_lo Try.underlying27 info_5 sz_5 hub2.drew (kl := .u64) (num (bs.take 4)) rfl (by omega)
          refine X_of (hu3 _) ?_
          obtain ⟨a3, c3, e3⟩ := Bts.slice hub3
          subst e3
          refine XU_store info_27 sz_27 rfl hbd (by simp) (by decide) ?_
          obtain ⟨u4, hu4, hub4, huo4⟩ := cut_hi Try.underlying27 info_5 hub2.drew (kh := .u64) (num (bs.take 4)) rfl (by omega)
          refine X_of (hu4 _) ?_
          have hob : ∀ k, u4.ownBlock = some k → k ≠ b := fun k hk => (ho k (by rw [← huo2, ← huo4]; exact hk)).2.2
          refine X_str Try.underlying27 Try.underlying5 Try.underlying9 (hub4.keep (setAt_keep _ b _ _ _) hob) ?_
          exact h _ ((Keep.drew _ w).trans (setAt_keep _ _ _ _ _)) (Rdr.move hbd hub3 (fun k hk => ho k (by rw [← huo2, ← huo3]; exact hk)))
  · rw [if_pos (by simp [hf])]
    have eg : textR bs f m = ([], bs, f) := by simp [textR, hf]
    rw [eg] at h
    exact h w (Keep.refl _ _) hr
theorem Text_nil {m : Value} {w : World} {K : Value → World → Prop} (h : K (.string (str [])) w) : CALL Try.prog 59 #[.pointer none, m] w K := by
  apply call_codec_Reader_Text
  unfold B_codec_Reader_Text
  refine ready_nil ?_
  simp only [SS, ST]
  exact h

theorem Left_spec {lo hi b : Nat} {bs : List UInt8} {f : Int} {w : World} {K : Value → World → Prop} (hr : Rdr w lo hi b bs f) (h : K (.int .i64 (bs.length : Nat)) w) :
    CALL Try.prog 63 #[.pointer (some ⟨b, 0, none⟩)] w K := by
  obtain ⟨v, hb, hv, ho⟩ := hr
  apply call_codec_Reader_Left
  unfold B_codec_Reader_Left
  simp only [SS, ST, Option.isNone_some, Bool.false_eq_true, if_false]
  refine X_loadL agg_27 hb rfl ?_
  obtain ⟨a, c, e⟩ := Bts.slice hv
  subst e
  simp only [SS, ST]
  exact h
theorem Left_nil {w : World} {K : Value → World → Prop} (h : K (.int .i64 0) w) : CALL Try.prog 63 #[.pointer none] w K := by
  apply call_codec_Reader_Left
  unfold B_codec_Reader_Left
  simp only [SS, ST, Option.isNone_none, if_true]
  exact h
theorem Fault_spec {lo hi b : Nat} {bs : List UInt8} {f : Int} {w : World} {K : Value → World → Prop} (hr : Rdr w lo hi b bs f) (h : K (.int .i64 f) w) :
    CALL Try.prog 64 #[.pointer (some ⟨b, 0, none⟩)] w K := by
  obtain ⟨v, hb, hv, ho⟩ := hr
  apply call_codec_Reader_Fault
  unfold B_codec_Reader_Fault
  simp only [SS, ST, Option.isNone_some, Bool.false_eq_true, if_false]
  refine X_loadL agg_30 hb rfl ?_
  exact h
theorem Fault_nil {w : World} {K : Value → World → Prop} (h : K (.int .i64 0) w) : CALL Try.prog 64 #[.pointer none] w K := by
  apply call_codec_Reader_Fault
  unfold B_codec_Reader_Fault
  simp only [SS, ST, Option.isNone_none, if_true]
  exact h
def endR (bs : List UInt8) (f : Int) : Int := if f = 0 ∧ 0 < bs.length then 11 else f
theorem End_spec {lo hi b : Nat} {bs : List UInt8} {f : Int} {w : World} {K : Value → World → Prop} (hr : Rdr w lo hi b bs f) (h : K (.int .i64 (endR bs f)) w) :
    CALL Try.prog 65 #[.pointer (some ⟨b, 0, none⟩)] w K := by
  apply call_codec_Reader_End
  unfold B_codec_Reader_End
  refine ready_spec hr ?_
  obtain ⟨v, hb, hv, ho⟩ := id hr
  by_cases hf : f = 0
  · subst hf
    simp only [SS, ST, decide_true, if_true]
    refine X_loadL agg_27 hb rfl ?_
    obtain ⟨a, c, e⟩ := Bts.slice hv
    subst e
    simp only [SS, ST, if_true]
    by_cases hl : 0 < bs.length
    · rw [if_pos (by simp; omega)]
      simpa [endR, hl] using h
    · rw [if_neg (by simpa using hl)]
      refine Fault_spec hr ?_
      simpa [endR, hl] using h
  · simp only [SS, ST, hf, decide_false, Bool.false_eq_true, if_false]
    refine Fault_spec hr ?_
    simpa [endR, hf] using h
theorem End_nil {w : World} {K : Value → World → Prop} (h : K (.int .i64 0) w) : CALL Try.prog 65 #[.pointer none] w K := by
  apply call_codec_Reader_End
  unfold B_codec_Reader_End
  refine ready_nil ?_
  simp only [SS, ST, Bool.false_eq_true, if_false]
  exact Fault_nil h
end Go.Proofs.Ytggggfcgnkllgaa
end
section
/- codec.Text, and the reference's Put and reader, by contract. -/
set_option linter.unusedVariables false
set_option linter.unusedSimpArgs false
namespace Go.Proofs.Ytggggfcgnkllgaa
open Go Go.Sh Go.RowKit
attribute [local irreducible] X XU XP XR CALL loopS resC closS

theorem putB_4 (n : Nat) : putB n 4 = be 4 n := rfl
theorem putB_8 (n : Nat) : putB n 8 = be 8 n := rfl
theorem putB_1 (n : Nat) : putB n 1 = be 1 n := rfl

theorem PutText_spec {b : Value} {bs s : List UInt8} {w : World} {K : Value → World → Prop} (hb : Bts w b bs) (hbs : bs.length + s.length ≤ 70000000000000)
    (h : ∀ v w1, Ext w w1 → w1.ownsRow w.heap.size 5 1 v (bs ++ (be 4 s.length ++ s)).length (B8 (bs ++ (be 4 s.length ++ s))) → K v w1) :
    CALL Try.prog 67 #[b, .string (str s)] w K := by
  apply call_codec_Text
  unfold B_codec_Text
  simp only [SS, ST]
  have e2 : IntKind.u64.wrap ((str s).size : Int) = (s.length : Int) := by rw [wrap_u64, str_size]; omega
  rw [e2]
  refine Put_spec hb (by omega) (by omega) ?_
  intro v w1 hx ho
  rw [putB_4] at ho
  refine X_append_str Try.underlying27 Try.underlying9 el_5 ho (by simp; omega) hx.size ?_
  intro v' w2 ho2 hk
  refine h v' w2 (Ext.seq hx hk fun i hi => ?_) ?_
  · exact (ho.lt i hi.symm).1
  · simpa [Nat.add_assoc] using ho2

/-- ref01's number. -/
theorem rnumber_spec {v : Value} {all : List UInt8} {b a n : Nat} {rest : List Value} {w : World} {K : Value → World → Prop} (hb : w.heap[b]? = some (.cells (v :: rest).toArray 57 (0, 0))) (hv : Bts w v all) (hn : a + n ≤ all.length) (h8 : n ≤ 8)
    (h : K (.int .u64 (num ((all.drop a).take n) : Nat)) w) : CALL Try.prog 130 #[.pointer (some ⟨b, 0, none⟩), .int .i64 (a : Int), .int .i64 (n : Int)] w K := by
  obtain ⟨ao, c, e, h1, h2, h3⟩ := id hv
  subst e
  apply call_ref01_Reader_number
  unfold B_ref01_Reader_number
  refine loopS_of (fun ρ wr => ∃ i, i ≤ n ∧ wr = w ∧ ρ 8 = .int .i64 (i : Nat) ∧ ρ 0 = .pointer (some ⟨b, 0, none⟩) ∧ ρ 1 = .int .i64 (a : Nat) ∧ ρ 2 = .int .i64 (n : Nat) ∧ ρ 7 = .int .u64 (num (((all.drop a).take n).take i) : Nat))
    (fun ρ wr => match ρ 8 with | .int _ s => (n - s).toNat | _ => 0) ?_ ?_
  · exact ⟨0, by omega, rfl, rfl, rfl, rfl, rfl, rfl⟩
  · rintro ρ wr ⟨i, hi, rfl, h8', h0, h1', h2', h7⟩
    simp only [SS, ST, h8', h0, h1', h2', h7]
    have hlen : ((all.drop a).take n).length = n := by simp; omega
    by_cases hin : i = n
    · subst hin
      rw [if_neg (by simp)]
      show K (ρ 7) wr
      rw [h7, List.take_of_length_le (by omega)]
      exact h
    · rw [if_pos (by simp; omega)]
      refine X_loadL agg_27 hb rfl ?_
      obtain ⟨ad, hix, hcell, _⟩ := at_bts Try.underlying27 info_5 sz_5 hv (k := .i64) (ii := IntKind.i64.wrap ((a : Int) + (i : Int))) (a + i) (by rw [w64 (by omega) (by omega)]; omega) (by omega)
      refine X_of (hix _) ?_
      refine X_load agg_5 hcell ?_
      simp only [SS, ST]
      have hn' := num_lt (((all.drop a).take n).take i)
      have hp : (256 : Nat) ^ (((all.drop a).take n).take i).length ≤ 256 ^ 7 := Nat.pow_le_pow_right (by decide) (by simp; omega)
      have hu := (all[a + i]).toNat_lt
      have e0 : ((all.drop a).take n)[i]'(by omega) = all[a + i] := by simp
      have e1 : IntKind.u64.wrap (IntKind.u64.wrap (((num (((all.drop a).take n).take i) : Nat) : Int) * 256) + IntKind.u64.wrap ((all[a + i].toNat : Nat) : Int)) = ((num (((all.drop a).take n).take (i + 1)) : Nat) : Int) := by
        rw [take_succ' _ i (by omega), num_append, e0]
        simp only [wrap_u64]
        omega
      rw [e1]
      show _ ∧ _
      refine ⟨⟨i + 1, by omega, trivial, ?_, h0, h1', h2', rfl⟩, ?_⟩
      · show Value.int .i64 _ = _
        congr 1
        rw [w64 (by omega) (by omega)]
        omega
      · show (_ - IntKind.i64.wrap _).toNat < _
        rw [w64 (by omega) (by omega)]
        omega

/-- A reference reader lies in block b: of all, bs are left. -/
def RdrR (w : World) (lo hi b : Nat) (all bs : List UInt8) (f : Int) : Prop :=
  ∃ v a, w.heap[b]? = some (.cells #[v, .int .i64 (a : Nat), .int .i64 f] 57 (0, 0)) ∧ Bts w v all ∧ a ≤ all.length ∧ all.drop a = bs ∧ (0 < all.length → ∀ k, v.ownBlock = some k → lo ≤ k ∧ k < hi ∧ k ≠ b)
theorem RdrR.keep {D : Nat → Prop} {w w' : World} {lo hi b : Nat} {all bs : List UInt8} {f : Int} (h : RdrR w lo hi b all bs f) (k : Keep D w w') (h1 : ¬ D b) (h2 : ∀ i, lo ≤ i → i < hi → i ≠ b → ¬ D i) : RdrR w' lo hi b all bs f := by
  obtain ⟨v, a, hb, hv, ha, hd, ho⟩ := h
  exact ⟨v, a, k.get h1 hb, hv.keep' k (fun hp i hi => h2 i (ho hp i hi).1 (ho hp i hi).2.1 (ho hp i hi).2.2), ha, hd, ho⟩
theorem RdrR.ext {w w' : World} {lo hi b : Nat} {all bs : List UInt8} {f : Int} (h : RdrR w lo hi b all bs f) (k : Ext w w') : RdrR w' lo hi b all bs f := h.keep k (fun h => h) (fun _ _ _ _ h => h)
theorem RdrR.lt {w : World} {lo hi b : Nat} {all bs : List UInt8} {f : Int} (h : RdrR w lo hi b all bs f) : b < w.heap.size := by
  obtain ⟨v, a, hb, _⟩ := h
  exact lt_of_blk hb
theorem RdrR.fault {lo hi b a : Nat} {all bs : List UInt8} {f : Int} {w : World} (g : Int) {v : Value} (hb : w.heap[b]? = some (.cells #[v, .int .i64 (a : Nat), .int .i64 f] 57 (0, 0))) (hv : Bts w v all) (ha : a ≤ all.length) (hd : all.drop a = bs)
    (ho : 0 < all.length → ∀ k, v.ownBlock = some k → lo ≤ k ∧ k < hi ∧ k ≠ b) : RdrR (setAt w b #[v, .int .i64 (a : Nat), .int .i64 g] 57 (0, 0)) lo hi b all bs g :=
  ⟨v, a, setAt_same (lt_of_blk hb), hv.keep' (setAt_keep _ _ _ _ _) (fun hp k hk => (ho hp k hk).2.2), ha, hd, ho⟩
theorem RdrR.move {lo hi b a a' : Nat} {all bs : List UInt8} {f : Int} {w : World} {v : Value} (hb : w.heap[b]? = some (.cells #[v, .int .i64 (a : Nat), .int .i64 f] 57 (0, 0))) (hv : Bts w v all) (ha : a' ≤ all.length) (hd : all.drop a' = bs)
    (ho : 0 < all.length → ∀ k, v.ownBlock = some k → lo ≤ k ∧ k < hi ∧ k ≠ b) : RdrR (setAt w b #[v, .int .i64 (a' : Nat), .int .i64 f] 57 (0, 0)) lo hi b all bs f :=
  ⟨v, a', setAt_same (lt_of_blk hb), hv.keep' (setAt_keep _ _ _ _ _) (fun hp k hk => (ho hp k hk).2.2), ha, hd, ho⟩

theorem RGet_spec {lo hi b : Nat} {all bs : List UInt8} {f m : Int} {w : World} {K : Value → World → Prop} (hr : RdrR w lo hi b all bs f)
    (h : ∀ w1, Keep (· = b) w w1 → RdrR w1 lo hi b all (getR bs f m).2.1 (getR bs f m).2.2 → K (.int .u64 ((getR bs f m).1 : Nat)) w1) :
    CALL Try.prog 62 #[.pointer (some ⟨b, 0, none⟩), .int .i64 m] w K := by
  apply call_ref01_Reader_Get
  unfold B_ref01_Reader_Get
  obtain ⟨v, a, hb, hv, ha, hd, ho⟩ := id hr
  simp only [SS, ST]
  refine X_loadL agg_30 hb rfl ?_
  simp only [SS, ST]
  by_cases hf : f = 0
  · subst hf
    rw [if_neg (by simp)]
    by_cases hm : m < 0 ∨ 8 < m
    · have eg : getR bs 0 m = (0, bs, 1) := by simp [getR, hm]
      rw [eg] at h
      have goal : K (.int .u64 0) (setAt w b #[v, .int .i64 (a : Nat), .int .i64 1] 57 (0, 0)) := h _ (setAt_keep _ _ _ _ _) (RdrR.fault 1 hb hv ha hd ho)
      by_cases h1 : m < 0
      · simp only [h1, SS, ST, decide_true, if_true, Bool.true_eq_false, if_false]
        refine XU_store info_30 sz_30 rfl hb (by simp) (by decide) ?_
        exact goal
      · have h2 : 8 < m := by omega
        simp only [h1, h2, SS, ST, decide_true, decide_false, if_true, Bool.false_eq_true, if_false, gt_iff_lt]
        refine XU_store info_30 sz_30 rfl hb (by simp) (by decide) ?_
        exact goal
    · obtain ⟨n, rfl⟩ : ∃ n : Nat, m = n := ⟨m.toNat, by omega⟩
      have h1 : ¬ ((n : Int) < 0) := by omega
      have h2 : ¬ (8 < (n : Int)) := by omega
      simp only [h1, h2, SS, ST, decide_false, if_true, Bool.false_eq_true, if_false, gt_iff_lt]
      refine ⟨Ext, Ext.frame, ?_⟩
      have hbd : (drewW w).heap[b]? = some (.cells #[v, .int .i64 (a : Nat), .int .i64 0] 57 (0, 0)) := hb
      refine XR_loadL agg_27 hbd rfl ?_
      obtain ⟨ao, c, e⟩ := Bts.slice hv
      subst e
      obtain ⟨_, _, _, hc1, hc2, _⟩ := id hv
      simp only [SS, ST]
      refine XR_loadL agg_3 hbd rfl ?_
      simp only [SS, ST]
      have hlb : bs.length = all.length - a := by rw [← hd]; simp
      have e1 : IntKind.i64.wrap ((all.length : Int) - (a : Int)) = (bs.length : Int) := by rw [w64 (by omega) (by omega)]; omega
      rw [e1]
      by_cases hlen : bs.length < n
      · have eg : getR bs 0 n = (0, bs, 10) := by simp [getR, hm, hlen]
        rw [eg] at h
        rw [if_pos (by simp; omega)]
        refine XU_store info_30 sz_30 rfl hbd (by simp) (by decide) ?_
        exact h _ ((Keep.drew _ w).trans (setAt_keep _ _ _ _ _)) (RdrR.fault 10 hbd hv.drew ha hd ho)
      · have eg : getR bs 0 n = (num (bs.take n), bs.drop n, 0) := by simp [getR, hm, hlen]
        rw [eg] at h
        rw [if_neg (by simp; omega)]
        refine X_loadL agg_3 hbd rfl ?_
        refine rnumber_spec hbd hv.drew (by omega) (by omega) ?_
        refine X_loadL agg_3 hbd rfl ?_
        simp only [SS, ST]
        refine XU_store info_3 sz_3 rfl hbd (by simp) (by decide) ?_
        rw [hd]
        refine h _ ((Keep.drew _ w).trans (setAt_keep _ _ _ _ _)) ?_
        have e2 : IntKind.i64.wrap ((a : Int) + (n : Int)) = ((a + n : Nat) : Int) := by rw [w64 (by omega) (by omega)]; omega
        rw [e2]
        exact RdrR.move hbd hv.drew (by omega) (by rw [← List.drop_drop, hd]) ho
  · rw [if_pos (by simp [hf])]
    have eg : getR bs f m = (0, bs, f) := by simp [getR, hf]
    rw [eg] at h
    exact h w (Keep.refl _ _) hr

theorem RText_spec {lo hi b : Nat} {all bs : List UInt8} {f m : Int} {w : World} {K : Value → World → Prop} (hr : RdrR w lo hi b all bs f) (hm : m ≤ 9223372036854775807)
    (h : ∀ w1, Keep (· = b) w w1 → RdrR w1 lo hi b all (textR bs f m).2.1 (textR bs f m).2.2 → K (.string (str (textR bs f m).1)) w1) :
    CALL Try.prog 60 #[.pointer (some ⟨b, 0, none⟩), .int .i64 m] w K := by
  apply call_ref01_Reader_Text
  unfold B_ref01_Reader_Text
  obtain ⟨v, a, hb, hv, ha, hd, ho⟩ := id hr
  simp only [SS, ST]
  refine X_loadL agg_30 hb rfl ?_
  simp only [SS, ST]
  by_cases hf : f = 0
  · subst hf
    rw [if_neg (by simp)]
    refine ⟨Ext, Ext.frame, ?_⟩
    have hbd : (drewW w).heap[b]? = some (.cells #[v, .int .i64 (a : Nat), .int .i64 0] 57 (0, 0)) := hb
    refine XR_loadL agg_27 hbd rfl ?_
    obtain ⟨ao, c, e⟩ := Bts.slice hv
    subst e
    obtain ⟨_, _, _, hc1, hc2, _⟩ := id hv
    simp only [SS, ST]
    refine XR_loadL agg_3 hbd rfl ?_
    simp only [SS, ST]
    have hlb : bs.length = all.length - a := by rw [← hd]; simp
    have e1 : IntKind.i64.wrap (IntKind.i64.wrap ((all.length : Int) - (a : Int)) - 4) = (bs.length : Int) - 4 := by rw [w64 (x := (all.length : Int) - (a : Int)) (by omega) (by omega), w64 (by omega) (by omega)]; omega
    rw [e1]
    by_cases h4 : bs.length < 4
    · have eg : textR bs 0 m = ([], bs, 10) := by simp [textR, h4]
      rw [eg] at h
      rw [if_pos (by simp; omega)]
      refine XU_store info_30 sz_30 rfl hbd (by simp) (by decide) ?_
      exact h _ ((Keep.drew _ w).trans (setAt_keep _ _ _ _ _)) (RdrR.fault 10 hbd hv.drew ha hd ho)
    · rw [if_neg (by simp; omega)]
      refine X_loadL agg_3 hbd rfl ?_
      refine rnumber_spec (n := 4) hbd hv.drew (by omega) (by omega) ?_
      rw [hd]
      simp only [SS, ST]
      have hnl := num_lt (bs.take 4)
      have hnl4 : (bs.take 4).length = 4 := by simp; omega
      rw [hnl4] at hnl
      have e1 : IntKind.u64.wrap (max m 0) = max m 0 := by rw [wrap_u64]; omega
      have hd4 : (bs.drop 4).length = bs.length - 4 := by simp
      have e2 : IntKind.u64.wrap ((bs.length : Int) - 4) = (((bs.drop 4).length : Nat) : Int) := by rw [wrap_u64]; omega
      rw [e1]
      by_cases hlim : max m 0 < (num (bs.take 4) : Int)
      · have eg : textR bs 0 m = ([], bs, 4) := by simp only [textR, h4, hlim, ne_eq, not_true, if_false, if_true]
        rw [eg] at h
        rw [if_pos (by simp only [gt_iff_lt, decide_eq_true_eq]; exact hlim)]
        refine XU_store info_30 sz_30 rfl hbd (by simp) (by decide) ?_
        exact h _ ((Keep.drew _ w).trans (setAt_keep _ _ _ _ _)) (RdrR.fault 4 hbd hv.drew ha hd ho)
      · rw [if_neg (by simp only [gt_iff_lt, decide_eq_true_eq]; exact hlim), e2]
        by_cases hfew : (bs.drop 4).length < num (bs.take 4)
        · have eg : textR bs 0 m = ([], bs, 10) := by simp only [textR, h4, hlim, hfew, ne_eq, not_true, if_false, if_true]
          rw [eg] at h
          rw [if_pos (by simp only [gt_iff_lt, decide_eq_true_eq]; omega)]
          refine XU_store info_30 sz_30 rfl hbd (by simp) (by decide) ?_
          exact h _ ((Keep.drew _ w).trans (setAt_keep _ _ _ _ _)) (RdrR.fault 10 hbd hv.drew ha hd ho)
        · have eg : textR bs 0 m = ((bs.drop 4).take (num (bs.take 4)), (bs.drop 4).drop (num (bs.take 4)), 0) := by simp only [textR, h4, hlim, hfew, ne_eq, not_true, if_false]
          rw [eg] at h
          rw [if_neg (by simp only [gt_iff_lt, decide_eq_true_eq]; omega)]
          refine ⟨Ext, Ext.frame, ?_⟩
          have hbe : (drewW (drewW w)).heap[b]? = some (.cells #[.slice ao all.length c, .int .i64 (a : Nat), .int .i64 0] 57 (0, 0)) := hb
          refine XR_loadL agg_27 hbe rfl ?_
          refine XR_loadL agg_3 hbe rfl ?_
          simp only [SS, ST]
          refine XR_loadL agg_3 hbe rfl ?_
          simp only [SS, ST]
          have e3 : IntKind.i64.wrap ((num (bs.take 4) : Nat) : Int) = ((num (bs.take 4) : Nat) : Int) := w64 (by omega) (by omega)
          have e4 : IntKind.i64.wrap ((a : Int) + 4) = ((a + 4 : Nat) : Int) := by rw [w64 (by omega) (by omega)]; omega
          have e5 : IntKind.i64.wrap (((a + 4 : Nat) : Int) + ((num (bs.take 4) : Nat) : Int)) = ((a + 4 + num (bs.take 4) : Nat) : Int) := by rw [w64 (by omega) (by omega)]; omega
          rw [e3, e4, e5]
          obtain ⟨u, hu, hub, huo⟩ := cut_both Try.underlying27 info_5 sz_5 hv (kl := .i64) (kh := .i64) (a + 4) (a + 4 + num (bs.take 4)) rfl rfl (by omega) (by omega)
          refine XP_of hu ?_
          have e6 : (all.take (a + 4 + num (bs.take 4))).drop (a + 4) = (bs.drop 4).take (num (bs.take 4)) := by
            rw [List.drop_take, ← hd, List.drop_drop, Nat.add_sub_cancel_left]
          rw [e6] at hub
          refine XR_str Try.underlying27 Try.underlying5 Try.underlying9 hub ?_
          refine X_loadL agg_3 hbe rfl ?_
          simp only [SS, ST]
          rw [e4, e5]
          refine XU_store info_3 sz_3 rfl hbe (by simp) (by decide) ?_
          refine h _ ((Keep.drew _ w).trans ((Keep.drew _ _).trans (setAt_keep _ _ _ _ _))) ?_
          exact RdrR.move hbe hv.drew.drew (by omega) (by rw [← List.drop_drop, ← List.drop_drop, hd]) ho
  · rw [if_pos (by simp [hf])]
    have eg : textR bs f m = ([], bs, f) := by simp [textR, hf]
    rw [eg] at h
    exact h w (Keep.refl _ _) hr

theorem REnd_spec {lo hi b : Nat} {all bs : List UInt8} {f : Int} {w : World} {K : Value → World → Prop} (hr : RdrR w lo hi b all bs f) (h : ∀ w1, Ext w w1 → K (.int .i64 (endR bs f)) w1) :
    CALL Try.prog 66 #[.pointer (some ⟨b, 0, none⟩)] w K := by
  apply call_ref01_Reader_End
  unfold B_ref01_Reader_End
  obtain ⟨v, a, hb, hv, ha, hd, ho⟩ := id hr
  refine ⟨Ext, Ext.frame, ?_⟩
  have hbd : (drewW w).heap[b]? = some (.cells #[v, .int .i64 (a : Nat), .int .i64 f] 57 (0, 0)) := hb
  simp only [SS, ST]
  refine XR_loadL agg_30 hbd rfl ?_
  have hlb : bs.length = all.length - a := by rw [← hd]; simp
  by_cases hf : f = 0
  · subst hf
    simp only [SS, ST, decide_true, if_true]
    refine XR_loadL agg_3 hbd rfl ?_
    refine XR_loadL agg_27 hbd rfl ?_
    obtain ⟨ao, c, e⟩ := Bts.slice hv
    subst e
    simp only [SS, ST, if_true]
    by_cases hl : 0 < bs.length
    · rw [if_pos (by simp; omega)]
      simpa [endR, hl] using h _ (Keep.drew _ w)
    · rw [if_neg (by simp; omega)]
      refine X_loadL agg_30 hbd rfl ?_
      simpa [endR, hl] using h _ (Keep.drew _ w)
  · simp only [SS, ST, hf, decide_false, Bool.false_eq_true, if_false]
    refine X_loadL agg_30 hbd rfl ?_
    simpa [endR, hf] using h _ (Keep.drew _ w)

theorem u8_rem (n : Nat) : IntKind.u8.wrap (((n : Nat) : Int).tmod 256) = ((UInt8.ofNat n).toNat : Int) := by
  rw [wrap_u8]
  have : ((n : Nat) : Int).tmod 256 = ((n % 256 : Nat) : Int) := by
    rw [Int.tmod_eq_emod_of_nonneg (by omega)]
    omega
  rw [this]
  simp
theorem quo256 (n : Nat) : ((n : Nat) : Int).tdiv 256 = ((n / 256 : Nat) : Int) := by
  rw [Int.tdiv_eq_ediv_of_nonneg (by omega)]
  omega

theorem RPut_spec {n : Nat} {many : Int} {w : World} {K : Value → World → Prop} (hn : n < 18446744073709551616)
    (h : ∀ v w1, Ext w w1 → w1.ownsRow w.heap.size 5 1 v (putB n many).length (B8 (putB n many)) → K v w1) :
    CALL Try.prog 125 #[.int .u64 n, .int .i64 many] w K := by
  obtain ⟨m, hm⟩ : ∃ m : Nat, min (max many 0) 8 = (m : Int) := ⟨clamp8 many, by unfold clamp8; omega⟩
  have hm8 : m ≤ 8 := by omega
  have hput : putB n many = be m n := by
    have : clamp8 many = m := by unfold clamp8; omega
    unfold putB; rw [this]
  rw [hput] at h
  apply call_ref01_Put
  unfold B_ref01_Put
  simp only [SS, ST, hm]
  refine loopS_of (fun ρ wr => ∃ k v, k ≤ m ∧ ρ 0 = .int .u64 n ∧ ρ 5 = v ∧ ρ 6 = .int .i64 ((m : Int) - 1 - k) ∧ Ext w wr ∧
      wr.ownsRow w.heap.size 5 1 v k (B8 ((be m n).take k))) (fun ρ wr => match ρ 6 with | .int _ s => (s + 1).toNat | _ => 0) ?_ ?_
  · refine ⟨0, _, by omega, rfl, rfl, ?_, Keep.refl _ _, World.ownsRow_nil _ _ _ _⟩
    show Value.int .i64 _ = _
    congr 1
    rw [w64 (by omega) (by omega)]
    omega
  · rintro ρ wr ⟨k, v, hk, h0, h5, h6, he, ho⟩
    simp only [SS, ST, h0, h5, h6]
    by_cases hkm : k = m
    · subst hkm
      rw [if_neg (by simp; omega)]
      show K (ρ 5) wr
      rw [h5]
      refine h v wr he ?_
      rw [List.take_of_length_le (by simp)] at ho
      simpa using ho
    · rw [if_pos (by simp; omega)]
      obtain ⟨j, hj⟩ : ∃ j, m = k + 1 + j := ⟨m - 1 - k, by omega⟩
      refine loopS_of (fun ρ' wr' => ∃ i, i ≤ j ∧ wr' = wr ∧ ρ' 0 = .int .u64 n ∧ ρ' 5 = v ∧ ρ' 6 = .int .i64 ((m : Int) - 1 - k) ∧ ρ' 8 = .int .i64 (i : Nat) ∧ ρ' 7 = .int .u64 (n / 256 ^ i : Nat))
        (fun ρ wr => match ρ 8 with | .int _ s => (j - s).toNat | _ => 0) ?_ ?_
      · exact ⟨0, by omega, rfl, h0, h5, h6, rfl, by simp [upds_cons, upds_nil]⟩
      · rintro ρ' wr' ⟨i, hi, rfl, h0', h5', h6', h8', h7'⟩
        simp only [SS, ST, h0', h5', h6', h8', h7']
        by_cases hij : i = j
        · subst hij
          rw [if_neg (by simp; omega)]
          simp only [upds_cons, upds_nil, Nat.reduceEqDiff, if_false, h7', h5', h6']
          refine X_of (run_rem 22 .u64 _ 256 (by decide) _) ?_
          simp only [SS, ST]
          rw [u8_rem]
          refine X_buildSlice1 Try.underlying27 el_5 rfl ?_
          refine X_append_u8 Try.underlying27 el_5 ho (by omega) he.size ?_
          intro v1 w3 ho3 hk3
          show _ ∧ _
          refine ⟨⟨k + 1, v1, by omega, h0', rfl, ?_, Ext.seq he hk3 ?_, ?_⟩, ?_⟩
          · show Value.int .i64 _ = _
            congr 1
            rw [w64 (by omega) (by omega)]
            omega
          · intro i hi
            exact (ho.lt i hi.symm).1
          · rw [be_take_succ m n k (by omega)]
            have e1 : m - 1 - k = i := by omega
            rw [e1]
            exact ho3
          · show (IntKind.i64.wrap _ + 1).toNat < _
            rw [w64 (by omega) (by omega)]
            omega
        · rw [if_pos (by simp; omega)]
          refine X_of (run_quo 22 .u64 _ 256 (by decide) _) ?_
          simp only [SS, ST]
          show _ ∧ _
          refine ⟨⟨i + 1, by omega, trivial, h0', h5', h6', ?_, ?_⟩, ?_⟩
          · show Value.int .i64 _ = _
            congr 1
            rw [w64 (by omega) (by omega)]
            omega
          · show Value.int .u64 _ = _
            congr 1
            have hle : n / 256 ^ i / 256 ≤ n := Nat.le_trans (Nat.div_le_self _ _) (Nat.div_le_self _ _)
            rw [quo256, wrap_u64, Nat.pow_succ, ← Nat.div_div_eq_div_mul]
            generalize n / 256 ^ i / 256 = q at hle
            omega
          · show (_ - IntKind.i64.wrap _).toNat < _
            rw [w64 (by omega) (by omega)]
            omega
end Go.Proofs.Ytggggfcgnkllgaa
end
section
/- Words that many laws share: joins, loops with their end told, bytes of the call's own that are written. -/
set_option linter.unusedSimpArgs false
set_option linter.unusedVariables false
namespace Go.Sh
open Go Go.RowKit
theorem joinS_of {C : Env → World → Prop} {F : (Env → World → Prop) → Prop} (I : Env → World → Prop) (h1 : ∀ ρ w, I ρ w → C ρ w) (h2 : ∀ J : Env → World → Prop, (∀ ρ w, I ρ w → J ρ w) → F J) : joinS C F := h2 C h1
/-- A loop with its end told: E holds where it is left. -/
theorem loopE {B : (Exit → Env → World → Prop) → Env → World → Prop} {C : Env → World → Prop} {Q : Exit → Env → World → Prop} {ρ : Env} {w : World} {id : Nat} (I : Env → World → Prop) (μ : Env → World → Nat) (E : Env → World → Prop) (h0 : I ρ w)
    (h : ∀ J : Env → World → Prop, (∀ ρ w, E ρ w → J ρ w) → ∀ ρ w, I ρ w → B (thenS (fun ρ' w' => I ρ' w' ∧ μ ρ' w' < μ ρ w) (inBlockS id (thenS J Q))) ρ w) (hE : ∀ ρ w, E ρ w → C ρ w) : loopS B (inBlockS id (thenS C Q)) ρ w :=
  ⟨I, μ, h0, h C hE⟩
/-- The same, whatever stands around; left by one exit alone. -/
theorem loopG {B : (Exit → Env → World → Prop) → Env → World → Prop} {Q : Exit → Env → World → Prop} {ρ : Env} {w : World} (id : Nat) (I : Env → World → Prop) (μ : Env → World → Nat) (E : Env → World → Prop) (h0 : I ρ w)
    (h : ∀ J : Exit → Env → World → Prop, (∀ ρ w, E ρ w → J (.exit id) ρ w) → ∀ ρ w, I ρ w → B (thenS (fun ρ' w' => I ρ' w' ∧ μ ρ' w' < μ ρ w) J) ρ w) (hE : ∀ ρ w, E ρ w → Q (.exit id) ρ w) : loopS B Q ρ w :=
  ⟨I, μ, h0, h Q hE⟩
theorem gs_t (S : World → (Value → World → Prop) → Prop) (w : World) (K : Value → World → Prop) : gstep (.bool true) true S w K = S w K := rfl
theorem gs_f (S : World → (Value → World → Prop) → Prop) (w : World) (K : Value → World → Prop) : gstep (.bool false) false S w K = S w K := rfl
theorem gs_tf (S : World → (Value → World → Prop) → Prop) (w : World) (K : Value → World → Prop) : gstep (.bool true) false S w K = K undef w := rfl
theorem gs_ft (S : World → (Value → World → Prop) → Prop) (w : World) (K : Value → World → Prop) : gstep (.bool false) true S w K = K undef w := rfl
theorem cs_t (A B : Prop) : condS (.bool true) A B = A := rfl
theorem cs_f (A B : Prop) : condS (.bool false) A B = B := rfl
theorem pk_t {P : Program} (a b : Value) (w : World) (K : Value → World → Prop) : X P (pickS (.bool true) a b) w K = K a w := X_ok (run_pick true a b w)
theorem pk_f {P : Program} (a b : Value) (w : World) (K : Value → World → Prop) : X P (pickS (.bool false) a b) w K = K b w := X_ok (run_pick false a b w)
theorem pp_t {P : Program} (a b : Value) (w : World) (K : Value → World → Prop) : XP P (pickS (.bool true) a b) w K = K a w := XP_ok (fun w' => run_pick true a b w')
theorem pp_f {P : Program} (a b : Value) (w : World) (K : Value → World → Prop) : XP P (pickS (.bool false) a b) w K = K b w := XP_ok (fun w' => run_pick false a b w')
theorem g_ff {c : Bool} {S : World → (Value → World → Prop) → Prop} {w : World} {K : Value → World → Prop} (hc : c = false) (h : S w K) : gstep (.bool c) false S w K := by subst hc; exact h
theorem g_tt {c : Bool} {S : World → (Value → World → Prop) → Prop} {w : World} {K : Value → World → Prop} (hc : c = true) (h : S w K) : gstep (.bool c) true S w K := by subst hc; exact h
theorem g_tf {c : Bool} {S : World → (Value → World → Prop) → Prop} {w : World} {K : Value → World → Prop} (hc : c = true) (h : K undef w) : gstep (.bool c) false S w K := by subst hc; exact h
theorem g_ft {c : Bool} {S : World → (Value → World → Prop) → Prop} {w : World} {K : Value → World → Prop} (hc : c = false) (h : K undef w) : gstep (.bool c) true S w K := by subst hc; exact h
theorem c_t {c : Bool} {A B : Prop} (hc : c = true) (h : A) : condS (.bool c) A B := by subst hc; exact h
theorem c_f {c : Bool} {A B : Prop} (hc : c = false) (h : B) : condS (.bool c) A B := by subst hc; exact h
theorem p_t {P : Program} {c : Bool} {a b : Value} {w : World} {K : Value → World → Prop} (hc : c = true) (h : K a w) : X P (pickS (.bool c) a b) w K := by subst hc; rw [pk_t]; exact h
theorem p_f {P : Program} {c : Bool} {a b : Value} {w : World} {K : Value → World → Prop} (hc : c = false) (h : K b w) : X P (pickS (.bool c) a b) w K := by subst hc; rw [pk_f]; exact h
theorem q_t {P : Program} {c : Bool} {a b : Value} {w : World} {K : Value → World → Prop} (hc : c = true) (h : K a w) : XP P (pickS (.bool c) a b) w K := by subst hc; rw [pp_t]; exact h
theorem q_f {P : Program} {c : Bool} {a b : Value} {w : World} {K : Value → World → Prop} (hc : c = false) (h : K b w) : XP P (pickS (.bool c) a b) w K := by subst hc; rw [pp_f]; exact h
set_option linter.defProp false in
/-- Steps whose condition is known. -/
def GS := And.intro @gs_t (And.intro @gs_f (And.intro @gs_tf (And.intro @gs_ft (And.intro @cs_t (And.intro @cs_f (And.intro @pk_t (And.intro @pk_f (And.intro @pp_t @pp_f))))))))
theorem B8_set (l : List UInt8) (i : Nat) (u : UInt8) : (B8 l).set i (.int .u8 (u.toNat : Int)) = B8 (l.set i u) := by
  unfold B8
  rw [List.map_set]
/-- One byte of the call's own is written. -/
theorem own_put {w : World} {base n e : Nat} {v : Value} {l : List UInt8} (ho : w.ownsRow base e 1 v n (B8 l)) {j : Nat} (hj : j < l.length) (u : UInt8) :
    ∃ g cap cur, v = .slice (some ⟨g, 0, none⟩) n cap ∧ base ≤ g ∧ w.heap[g]? = some (.cells cur e (0, 0)) ∧ j < cur.size ∧ cur[j]? = some (.int .u8 ((l[j].toNat : Nat) : Int)) ∧ j < n ∧
      (setAt w g (cur.setIfInBounds j (.int .u8 ((u.toNat : Nat) : Int))) e (0, 0)).ownsRow base e 1 v n (B8 (l.set j u)) := by
  have hl : l.length = n := by have := ho.1; simpa using this
  rcases id ho.2 with ⟨_, h0⟩ | ⟨g, cap, cur, hv, hg, hh, hn, hm, hs, ht⟩
  · omega
  · have hjc : j < cur.size := by omega
    refine ⟨g, cap, cur, hv, hg, hh, hjc, ?_, by omega, ?_⟩
    · have := congrArg (fun x => x[j]?) ht
      simp only [List.getElem?_take, show j < n * 1 by omega, if_true, B8_getElem?, List.getElem?_eq_getElem hj, Option.map_some] at this
      simpa using this
    · refine ⟨by simp [hl], .inr ⟨g, cap, _, hv, hg, setAt_same (lt_of_blk hh), hn, hm, by simpa using hs, ?_⟩⟩
      rw [← B8_set, ← ht]
      simp [List.take_set]
end Go.Sh
namespace Go.Proofs.Ytggggfcgnkllgaa
open Go Go.Sh Go.RowKit
theorem xp_add {P : Program} (T : TypeId) (x y z : Nat) (e : x + y = z) (hz : z ≤ 9223372036854775807) (w : World) : (binOp .add T (.int .i64 (x : Int)) (.int .i64 (y : Int))).run P w = .ok (.int .i64 (z : Int)) w := by
  rw [run_add, w64 (by omega) (by omega)]
  congr 2
  omega
end Go.Proofs.Ytggggfcgnkllgaa
end
section
/- What a disk is, plain Lean: sectors that are safe, writes that are not. -/
set_option linter.unusedSimpArgs false
set_option linter.unusedVariables false
namespace Go.Sh
structure Dk where
  safe : List (List UInt8)
  ws : List (Nat × List UInt8)
  dead : Bool
  fuse : Int
  done : Int
def putAll (l : List (List UInt8)) (ws : List (Nat × List UInt8)) : List (List UInt8) := ws.foldl (fun l p => l.set p.1 p.2) l
def Dk.now (d : Dk) : List (List UInt8) := putAll d.safe d.ws
def Dk.ok (d : Dk) : Prop := (∀ s ∈ d.safe, s.length = 128) ∧ (∀ p ∈ d.ws, p.1 < d.safe.length ∧ p.2.length = 128) ∧ d.safe.length ≤ 16384 ∧ -1 ≤ d.fuse ∧ d.fuse ≤ 9223372036854775807
theorem putAll_length (l : List (List UInt8)) (ws : List (Nat × List UInt8)) : (putAll l ws).length = l.length := by
  induction ws generalizing l with
  | nil => rfl
  | cons p ws ih =>
    show (putAll (l.set p.1 p.2) ws).length = _
    rw [ih, List.length_set]
theorem putAll_append (l : List (List UInt8)) (a b : List (Nat × List UInt8)) : putAll l (a ++ b) = putAll (putAll l a) b := List.foldl_append
theorem set_all128 {l : List (List UInt8)} (h : ∀ s ∈ l, s.length = 128) (i : Nat) {x : List UInt8} (hx : x.length = 128) : ∀ s ∈ l.set i x, s.length = 128 := by
  intro s hs
  rcases List.mem_or_eq_of_mem_set hs with h1 | h1
  · exact h s h1
  · rw [h1]; exact hx
theorem putAll_128 {l : List (List UInt8)} {ws : List (Nat × List UInt8)} (h : ∀ s ∈ l, s.length = 128) (hw : ∀ p ∈ ws, p.2.length = 128) : ∀ s ∈ putAll l ws, s.length = 128 := by
  induction ws generalizing l with
  | nil => exact h
  | cons p ws ih => exact ih (set_all128 h p.1 (hw p (by simp))) (fun q hq => hw q (by simp [hq]))
theorem Dk.now_length (d : Dk) : d.now.length = d.safe.length := putAll_length _ _
theorem Dk.now_128 {d : Dk} (h : d.ok) : ∀ s ∈ d.now, s.length = 128 := putAll_128 h.1 (fun p hp => (h.2.1 p hp).2)
/-- Bytes of a sector. -/
def padB (b : List UInt8) : List UInt8 := b ++ List.replicate (128 - b.length) 0
theorem padB_len {b : List UInt8} (h : b.length ≤ 128) : (padB b).length = 128 := by simp [padB]; omega
/-- The power goes off, if it is about to. -/
def Dk.trip (d : Dk) : Dk := if d.fuse = 0 then { d with dead := true, fuse := -1 } else d
/-- An operation is OK. -/
def Dk.tick (d : Dk) : Dk := { d with done := Go.IntKind.i64.wrap (d.done + 1), fuse := if 0 < d.fuse then d.fuse - 1 else d.fuse }
def Dk.write (d : Dk) (at_ : Int) (b : List UInt8) : Dk × Int :=
  if at_ < 0 ∨ (d.safe.length : Int) ≤ at_ ∨ 128 < b.length then (d, 1)
  else if d.trip.dead = true then (d.trip, 6)
  else ({ d.trip.tick with ws := d.ws ++ [(at_.toNat, padB b)] }, 0)
def Dk.flush (d : Dk) : Dk × Int :=
  if d.trip.dead = true then (d.trip, 6)
  else ({ d.trip.tick with safe := d.now, ws := [] }, 0)
def Dk.cut (d : Dk) (n : Int) : Dk := if d.dead = true then d else { d with fuse := max n (-1) }
/-- So many bytes of a write are there. -/
def fateAt (fates : List Int) (i : Nat) : Nat := match fates[i]? with | some f => (max 0 (min f 128)).toNat | none => 0
theorem fateAt_le (fates : List Int) (i : Nat) : fateAt fates i ≤ 128 := by
  unfold fateAt
  split
  · omega
  · omega
/-- One sector of l, its first n bytes those of b. -/
def tearAt (l : List (List UInt8)) (p : Nat × List UInt8) (n : Nat) : List (List UInt8) := l.set p.1 (p.2.take n ++ (l.getD p.1 []).drop n)
def tears (fates : List Int) : Nat → List (List UInt8) → List (Nat × List UInt8) → List (List UInt8)
  | _, l, [] => l
  | i, l, p :: ws => tears fates (i + 1) (tearAt l p (fateAt fates i)) ws
def Dk.crash (d : Dk) (fates : List Int) : Dk := { d with safe := tears fates 0 d.safe d.ws, ws := [], dead := false, fuse := -1 }
def Dk.read (d : Dk) (at_ : Int) : List UInt8 × Int :=
  if at_ < 0 ∨ (d.safe.length : Int) ≤ at_ then ([], 1)
  else if d.dead = true then ([], 6)
  else (d.now.getD at_.toNat [], 0)
def Dk.new (n : Nat) : Dk := ⟨List.replicate n (List.replicate 128 0), [], false, -1, 0⟩
theorem tearAt_length (l : List (List UInt8)) (p : Nat × List UInt8) (n : Nat) : (tearAt l p n).length = l.length := by simp [tearAt]
theorem tears_length (fates : List Int) (i : Nat) (l : List (List UInt8)) (ws : List (Nat × List UInt8)) : (tears fates i l ws).length = l.length := by
  induction ws generalizing i l with
  | nil => rfl
  | cons p ws ih =>
    show (tears fates (i + 1) (tearAt l p (fateAt fates i)) ws).length = _
    rw [ih, tearAt_length]
theorem tearAt_128 {l : List (List UInt8)} (h : ∀ s ∈ l, s.length = 128) {p : Nat × List UInt8} (hp : p.1 < l.length ∧ p.2.length = 128) (n : Nat) (hn : n ≤ 128) : ∀ s ∈ tearAt l p n, s.length = 128 := by
  have hx : (l.getD p.1 []).length = 128 := by
    rw [List.getD_eq_getElem?_getD, List.getElem?_eq_getElem hp.1]
    exact h _ (List.getElem_mem hp.1)
  refine set_all128 h _ ?_
  rw [List.length_append, List.length_take, List.length_drop, hx, hp.2]
  omega
theorem tears_128 (fates : List Int) (i : Nat) {l : List (List UInt8)} {ws : List (Nat × List UInt8)} (h : ∀ s ∈ l, s.length = 128) (hw : ∀ p ∈ ws, p.1 < l.length ∧ p.2.length = 128) : ∀ s ∈ tears fates i l ws, s.length = 128 := by
  induction ws generalizing i l with
  | nil => exact h
  | cons p ws ih =>
    refine ih (i + 1) (tearAt_128 h (hw p (by simp)) _ (fateAt_le _ _)) (fun q hq => ?_)
    rw [tearAt_length]
    exact hw q (by simp [hq])
theorem tears_append (fates : List Int) (i : Nat) (l : List (List UInt8)) (a b : List (Nat × List UInt8)) : tears fates i l (a ++ b) = tears fates (i + a.length) (tears fates i l a) b := by
  induction a generalizing i l with
  | nil => rfl
  | cons p a ih =>
    show tears fates (i + 1) (tearAt l p (fateAt fates i)) (a ++ b) = tears fates (i + (a.length + 1)) (tears fates (i + 1) (tearAt l p (fateAt fates i)) a) b
    rw [ih]
    congr 1
    omega
/-! What is OK stays OK. -/
theorem Dk.new_ok {n : Nat} (h : n ≤ 16384) : (Dk.new n).ok := by
  refine ⟨?_, ?_, ?_, by show (-1 : Int) ≤ -1; decide, by show (-1 : Int) ≤ _; decide⟩
  · intro s hs
    simp only [Dk.new, List.mem_replicate] at hs
    rw [hs.2]; simp
  · intro p hp; simp [Dk.new] at hp
  · simpa [Dk.new] using h
theorem Dk.trip_ok {d : Dk} (h : d.ok) : d.trip.ok := by
  unfold Dk.trip
  split
  · exact ⟨h.1, h.2.1, h.2.2.1, by show (-1 : Int) ≤ -1; decide, by show (-1 : Int) ≤ _; decide⟩
  · exact h
theorem Dk.trip_safe (d : Dk) : d.trip.safe = d.safe := by unfold Dk.trip; split <;> rfl
theorem Dk.trip_ws (d : Dk) : d.trip.ws = d.ws := by unfold Dk.trip; split <;> rfl
theorem Dk.trip_done (d : Dk) : d.trip.done = d.done := by unfold Dk.trip; split <;> rfl
theorem Dk.trip_fuse {d : Dk} (h : d.ok) : d.trip.fuse ≠ 0 := by
  unfold Dk.trip
  split
  · show (-1 : Int) ≠ 0; decide
  · assumption
theorem Dk.tick_ok {d : Dk} (h : d.ok) : d.tick.ok := by
  obtain ⟨h1, h2, h3, h4, h5⟩ := h
  refine ⟨h1, h2, h3, ?_, ?_⟩
  · show -1 ≤ (if 0 < d.fuse then d.fuse - 1 else d.fuse)
    split <;> omega
  · show (if 0 < d.fuse then d.fuse - 1 else d.fuse) ≤ _
    split <;> omega
theorem Dk.write_ok {d : Dk} (h : d.ok) (at_ : Int) (b : List UInt8) : (d.write at_ b).1.ok := by
  unfold Dk.write
  split
  · exact h
  · rename_i hn
    split
    · exact Dk.trip_ok h
    · have ht := Dk.tick_ok (Dk.trip_ok h)
      obtain ⟨h1, h2, h3, h4, h5⟩ := ht
      have es : d.trip.tick.safe = d.safe := Dk.trip_safe d
      rw [es] at h1 h3
      refine ⟨?_, ?_, ?_, h4, h5⟩
      · show ∀ s ∈ d.trip.safe, _
        rw [Dk.trip_safe]; exact h1
      · intro p hp
        show p.1 < d.trip.safe.length ∧ _
        rw [Dk.trip_safe]
        rcases List.mem_append.1 hp with hp | hp
        · exact h.2.1 p hp
        · rw [List.mem_singleton.1 hp]
          exact ⟨by show at_.toNat < _; omega, padB_len (by omega)⟩
      · show d.trip.safe.length ≤ _
        rw [Dk.trip_safe]; exact h3
theorem Dk.flush_ok {d : Dk} (h : d.ok) : d.flush.1.ok := by
  unfold Dk.flush
  split
  · exact Dk.trip_ok h
  · have ht := Dk.tick_ok (Dk.trip_ok h)
    refine ⟨Dk.now_128 h, by intro p hp; exact absurd hp (by simp), ?_, ht.2.2.2.1, ht.2.2.2.2⟩
    show d.now.length ≤ _
    rw [Dk.now_length]; exact h.2.2.1
theorem Dk.cut_ok {d : Dk} (h : d.ok) {n : Int} (hn : n ≤ 9223372036854775807) : (d.cut n).ok := by
  unfold Dk.cut
  split
  · exact h
  · exact ⟨h.1, h.2.1, h.2.2.1, by show -1 ≤ max n (-1); omega, by show max n (-1) ≤ _; omega⟩
theorem Dk.crash_ok {d : Dk} (h : d.ok) (fates : List Int) : (d.crash fates).ok := by
  refine ⟨tears_128 fates 0 h.1 h.2.1, by intro p hp; exact absurd hp (by simp [Dk.crash]), ?_, by show (-1 : Int) ≤ -1; decide, by show (-1 : Int) ≤ _; decide⟩
  show (tears fates 0 d.safe d.ws).length ≤ _
  rw [tears_length]; exact h.2.2.1
/-! How many sectors. -/
theorem Dk.write_size (d : Dk) (at_ : Int) (b : List UInt8) : (d.write at_ b).1.safe.length = d.safe.length := by
  unfold Dk.write
  split
  · rfl
  · split
    · rw [Dk.trip_safe]
    · show d.trip.safe.length = _; rw [Dk.trip_safe]
theorem Dk.flush_size (d : Dk) : d.flush.1.safe.length = d.safe.length := by
  unfold Dk.flush
  split
  · rw [Dk.trip_safe]
  · exact Dk.now_length d
theorem Dk.cut_size (d : Dk) (n : Int) : (d.cut n).safe.length = d.safe.length := by unfold Dk.cut; split <;> rfl
theorem Dk.crash_size (d : Dk) (fates : List Int) : (d.crash fates).safe.length = d.safe.length := tears_length _ _ _ _
theorem Dk.write_ws (d : Dk) (at_ : Int) (b : List UInt8) : (d.write at_ b).1.ws.length ≤ d.ws.length + 1 := by
  unfold Dk.write
  split
  · exact Nat.le_succ _
  · split
    · show d.trip.ws.length ≤ _; rw [Dk.trip_ws]; exact Nat.le_succ _
    · simp
theorem Dk.flush_ws (d : Dk) : d.flush.1.ws.length ≤ d.ws.length := by
  unfold Dk.flush
  split
  · rw [Dk.trip_ws]; exact Nat.le_refl _
  · simp
/-! Rows of one length, laid together. -/
theorem flat_len {α : Type} {n : Nat} {l : List (List α)} (h : ∀ s ∈ l, s.length = n) : l.flatten.length = l.length * n := by
  induction l with
  | nil => simp
  | cons x l ih =>
    rw [List.flatten_cons, List.length_append, h x (by simp), ih (fun s hs => h s (by simp [hs])), List.length_cons, Nat.succ_mul]
    omega
theorem flat_take {α : Type} {n : Nat} {l : List (List α)} (h : ∀ s ∈ l, s.length = n) (i : Nat) : l.flatten.take (i * n) = (l.take i).flatten := by
  induction l generalizing i with
  | nil => simp
  | cons x l ih =>
    cases i with
    | zero => simp
    | succ i =>
      have hx := h x (by simp)
      have e : (i + 1) * n = n + i * n := by rw [Nat.succ_mul]; omega
      rw [List.flatten_cons, List.take_succ_cons, List.flatten_cons, e, List.take_append, List.take_of_length_le (by omega), hx, show n + i * n - n = i * n by omega, ih (fun s hs => h s (by simp [hs]))]
theorem flat_drop {α : Type} {n : Nat} {l : List (List α)} (h : ∀ s ∈ l, s.length = n) (i : Nat) : l.flatten.drop (i * n) = (l.drop i).flatten := by
  induction l generalizing i with
  | nil => simp
  | cons x l ih =>
    cases i with
    | zero => simp
    | succ i =>
      have hx := h x (by simp)
      have e : (i + 1) * n = n + i * n := by rw [Nat.succ_mul]; omega
      rw [List.flatten_cons, List.drop_succ_cons, e, List.drop_append, List.drop_eq_nil_of_le (by omega), hx, show n + i * n - n = i * n by omega, List.nil_append, ih (fun s hs => h s (by simp [hs]))]
theorem flat_at {α : Type} {n : Nat} {l : List (List α)} (h : ∀ s ∈ l, s.length = n) {i : Nat} (hi : i < l.length) : (l.flatten.drop (i * n)).take n = l[i] := by
  have hx := h _ (List.getElem_mem hi)
  rw [flat_drop h, List.drop_eq_getElem_cons hi, List.flatten_cons, List.take_append_of_le_length (by omega), List.take_of_length_le (by omega)]
/-- A row's first cells are others. -/
theorem flat_put {α : Type} {n : Nat} {l : List (List α)} (h : ∀ s ∈ l, s.length = n) {i : Nat} (hi : i < l.length) (x : List α) (hx : x.length ≤ n) : (l.set i (x ++ l[i].drop x.length)).flatten = l.flatten.take (i * n) ++ x ++ l.flatten.drop (i * n + x.length) := by
  have hl := h _ (List.getElem_mem hi)
  have e : l.flatten.drop (i * n + x.length) = l[i].drop x.length ++ (l.drop (i + 1)).flatten := by
    rw [← List.drop_drop, flat_drop h, List.drop_eq_getElem_cons hi, List.flatten_cons, List.drop_append_of_le_length (by omega)]
  rw [e, flat_take h, List.set_eq_take_append_cons_drop, if_pos hi]
  simp
end Go.Sh
end
section
/- What a vault is, plain Lean: shelves of a disk. -/
set_option linter.unusedSimpArgs false
set_option linter.unusedVariables false
namespace Go.Sh
/-- Bytes are written, sector by sector. -/
def layAll (d : Dk) (to_ : Nat) (x : List UInt8) : Dk × Int :=
  if x = [] then (d, 0) else if (d.write (to_ : Int) (x.take 128)).2 ≠ 0 then d.write (to_ : Int) (x.take 128) else layAll (d.write (to_ : Int) (x.take 128)).1 (to_ + 1) (x.drop 128)
termination_by x.length
decreasing_by
  rename_i h _
  have : 0 < x.length := by
    cases x with
    | nil => exact absurd rfl h
    | cons _ _ => simp
  simp
  omega
theorem layAll_nil (d : Dk) (to_ : Nat) : layAll d to_ [] = (d, 0) := by unfold layAll; rw [if_pos rfl]
theorem layAll_cons (d : Dk) (to_ : Nat) {x : List UInt8} (h : x ≠ []) : layAll d to_ x = if (d.write (to_ : Int) (x.take 128)).2 ≠ 0 then d.write (to_ : Int) (x.take 128) else layAll (d.write (to_ : Int) (x.take 128)).1 (to_ + 1) (x.drop 128) := by
  rw [layAll.eq_1 d to_ x, if_neg h]
theorem layAll_ind {P : Dk → Nat → List UInt8 → Prop} (h0 : ∀ d t, P d t []) (h1 : ∀ d t x, x ≠ [] → (d.write (t : Int) (x.take 128)).2 ≠ 0 → P d t x)
    (h2 : ∀ d t x, x ≠ [] → (d.write (t : Int) (x.take 128)).2 = 0 → P (d.write (t : Int) (x.take 128)).1 (t + 1) (x.drop 128) → P d t x) : ∀ d t x, P d t x := by
  have key : ∀ n d t x, x.length ≤ n → P d t x := by
    intro n
    induction n with
    | zero =>
      intro d t x hx
      have : x = [] := List.eq_nil_of_length_eq_zero (by omega)
      rw [this]; exact h0 d t
    | succ n ih =>
      intro d t x hx
      by_cases hn : x = []
      · rw [hn]; exact h0 d t
      · have hp : 0 < x.length := List.length_pos_iff.2 hn
        by_cases he : (d.write (t : Int) (x.take 128)).2 = 0
        · exact h2 d t x hn he (ih _ _ _ (by simp; omega))
        · exact h1 d t x hn he
  exact fun d t x => key x.length d t x (Nat.le_refl _)
theorem layAll_ok {d : Dk} (h : d.ok) (t : Nat) (x : List UInt8) : (layAll d t x).1.ok := by
  refine layAll_ind (P := fun d t x => d.ok → (layAll d t x).1.ok) ?_ ?_ ?_ d t x h
  · intro d t h; rw [layAll_nil]; exact h
  · intro d t x hx he h; rw [layAll_cons d t hx, if_pos he]; exact Dk.write_ok h _ _
  · intro d t x hx he ih h; rw [layAll_cons d t hx, if_neg (by simpa using he)]; exact ih (Dk.write_ok h _ _)
theorem layAll_size (d : Dk) (t : Nat) (x : List UInt8) : (layAll d t x).1.safe.length = d.safe.length := by
  refine layAll_ind (P := fun d t x => (layAll d t x).1.safe.length = d.safe.length) ?_ ?_ ?_ d t x
  · intro d t; rw [layAll_nil]
  · intro d t x hx he; rw [layAll_cons d t hx, if_pos he]; exact Dk.write_size _ _ _
  · intro d t x hx he ih; rw [layAll_cons d t hx, if_neg (by simpa using he), ih]; exact Dk.write_size _ _ _
theorem layAll_ws (d : Dk) (t : Nat) (x : List UInt8) : (layAll d t x).1.ws.length ≤ d.ws.length + x.length := by
  refine layAll_ind (P := fun d t x => (layAll d t x).1.ws.length ≤ d.ws.length + x.length) ?_ ?_ ?_ d t x
  · intro d t; rw [layAll_nil]; simp
  · intro d t x hx he
    rw [layAll_cons d t hx, if_pos he]
    have := Dk.write_ws d (t : Int) (x.take 128)
    have hp : 0 < x.length := List.length_pos_iff.2 hx
    omega
  · intro d t x hx he ih
    rw [layAll_cons d t hx, if_neg (by simpa using he)]
    have := Dk.write_ws d (t : Int) (x.take 128)
    have hp : 0 < x.length := List.length_pos_iff.2 hx
    rw [List.length_drop] at ih
    omega
structure Vt where
  fm : Nat
  each : Nat
  n : Nat
def Vt.ok (v : Vt) (size : Nat) : Prop := 1 ≤ v.each ∧ v.each ≤ 16384 ∧ v.fm + v.n * v.each ≤ size ∧ size ≤ 16384
def Vt.room (v : Vt) : Nat := v.each * 128 - 4
theorem Vt.n_le {v : Vt} {size : Nat} (h : v.ok size) : v.n ≤ 16384 := by
  obtain ⟨h1, h2, h3, h4⟩ := h
  have : v.n * 1 ≤ v.n * v.each := Nat.mul_le_mul_left _ h1
  omega
theorem Vt.at_le {v : Vt} {size at_ : Nat} (h : v.ok size) (ha : at_ < v.n) : v.fm + at_ * v.each + v.each ≤ size := by
  obtain ⟨h1, h2, h3, h4⟩ := h
  have : (at_ + 1) * v.each ≤ v.n * v.each := Nat.mul_le_mul_right _ ha
  rw [Nat.succ_mul] at this
  omega
/-- Bytes onto a shelf. -/
def vput (v : Vt) (d : Dk) (at_ : Int) (bs : List UInt8) : Dk × Int :=
  if at_ < 0 ∨ (v.n : Int) ≤ at_ then (d, 1) else if v.room < bs.length then (d, 4) else layAll d (v.fm + at_.toNat * v.each) (be 4 bs.length ++ bs)
/-- All bytes of a shelf. -/
def vall (v : Vt) (d : Dk) (at_ : Nat) : List UInt8 := ((d.now.drop (v.fm + at_ * v.each)).take v.each).flatten
def vget (v : Vt) (d : Dk) (at_ : Int) : List UInt8 × Int :=
  if at_ < 0 ∨ (v.n : Int) ≤ at_ then ([], 1) else if d.dead = true then ([], 6) else
    if v.room < num ((vall v d at_.toNat).take 4) then ([], 110) else (((vall v d at_.toNat).drop 4).take (num ((vall v d at_.toNat).take 4)), 0)
theorem vput_ok {v : Vt} {d : Dk} (h : d.ok) (at_ : Int) (bs : List UInt8) : (vput v d at_ bs).1.ok := by
  unfold vput
  split
  · exact h
  · split
    · exact h
    · exact layAll_ok h _ _
theorem vput_size (v : Vt) (d : Dk) (at_ : Int) (bs : List UInt8) : (vput v d at_ bs).1.safe.length = d.safe.length := by
  unfold vput
  split
  · rfl
  · split
    · rfl
    · exact layAll_size _ _ _
theorem vput_ws (v : Vt) (d : Dk) (at_ : Int) (bs : List UInt8) : (vput v d at_ bs).1.ws.length ≤ d.ws.length + bs.length + 4 := by
  unfold vput
  split
  · show d.ws.length ≤ _; omega
  · split
    · show d.ws.length ≤ _; omega
    · have := layAll_ws d (v.fm + at_.toNat * v.each) (be 4 bs.length ++ bs)
      rw [List.length_append, be_length] at this
      omega
/-- What a new vault is, and why there is none. -/
def vnew (size : Nat) (fm each n : Int) : Option Vt :=
  if fm < 0 ∨ each < 1 ∨ 16384 < each ∨ n < 0 ∨ (size : Int) < fm ∨ ((size : Int) - fm) / each < n then none else some ⟨fm.toNat, each.toNat, n.toNat⟩
theorem vnew_ok {size : Nat} {fm each n : Int} {v : Vt} (hs : size ≤ 16384) (h : vnew size fm each n = some v) : v.ok size ∧ (v.fm : Int) = fm ∧ (v.each : Int) = each ∧ (v.n : Int) = n := by
  unfold vnew at h
  split at h
  · cases h
  · rename_i hn
    have e := Option.some.inj h
    subst e
    refine ⟨⟨by show 1 ≤ each.toNat; omega, by show each.toNat ≤ 16384; omega, ?_, hs⟩, by show ((fm.toNat : Nat) : Int) = fm; omega, by show ((each.toNat : Nat) : Int) = each; omega, by show ((n.toNat : Nat) : Int) = n; omega⟩
    show fm.toNat + n.toNat * each.toNat ≤ size
    have h1 : n ≤ ((size : Int) - fm) / each := by omega
    have h2 : n * each ≤ (size : Int) - fm := by
      have h3 : n * each ≤ ((size : Int) - fm) / each * each := Int.mul_le_mul_of_nonneg_right h1 (by omega)
      have h4 := Int.ediv_mul_le ((size : Int) - fm) (b := each) (by omega)
      omega
    have h5 : ((n.toNat * each.toNat : Nat) : Int) = n * each := by
      rw [Int.natCast_mul, Int.toNat_of_nonneg (by omega), Int.toNat_of_nonneg (by omega)]
    omega
end Go.Sh
end
section
/- Objects and what they hold: the block of a struct and the blocks of its slices. -/
set_option linter.unusedSimpArgs false
set_option linter.unusedVariables false
namespace Go.Sh
open Go Go.RowKit
/-- The block b, and those its cells are slices of. -/
def foot (w : World) (b k : Nat) : Prop := k = b ∨ ∃ cs T fr, w.heap[b]? = some (.cells cs T fr) ∧ ∃ v ∈ cs.toList, v.ownBlock = some k
theorem foot_self (w : World) (b : Nat) : foot w b b := .inl rfl
theorem foot_same {w w' : World} {b k : Nat} (h : w'.heap[b]? = w.heap[b]?) : foot w' b k ↔ foot w b k := by unfold foot; rw [h]
theorem foot_cells {w : World} {b k : Nat} {cs : Array Value} {T : TypeId} {fr : Nat × Nat} (hb : w.heap[b]? = some (.cells cs T fr)) : foot w b k ↔ k = b ∨ ∃ v ∈ cs.toList, v.ownBlock = some k := by
  unfold foot
  constructor
  · rintro (h | ⟨cs', T', fr', e, h⟩)
    · exact .inl h
    · rw [hb] at e
      injection e with e
      injection e with e1 e2 e3
      subst e1
      exact .inr h
  · rintro (h | h)
    · exact .inl h
    · exact .inr ⟨cs, T, fr, hb, h⟩
/-- What is done to the object b: its own blocks may change, and it may get new ones. -/
structure Step (b : Nat) (w w1 : World) : Prop where
  keep : Keep (foot w b) w w1
  grow : ∀ k, foot w1 b k → foot w b k ∨ w.heap.size ≤ k
theorem Step.size {b : Nat} {w w1 : World} (h : Step b w w1) : w.heap.size ≤ w1.heap.size := h.keep.size
theorem Step.trans {b : Nat} {x y z : World} (h : Step b x y) (k : Step b y z) : Step b x z :=
  ⟨Keep.seq h.keep k.keep (fun i hi hf => (h.grow i hf).resolve_right (by omega)), fun i hf => by
    rcases k.grow i hf with h1 | h1
    · exact h.grow i h1
    · have := h.size
      exact .inr (by omega)⟩
theorem Step.ext {b : Nat} {w w1 : World} (h : Ext w w1) (hb : b < w.heap.size) : Step b w w1 :=
  ⟨h.ext, fun k hf => .inl ((foot_same (h.block b hb (fun h => h))).1 hf)⟩
theorem Step.refl {b : Nat} {w : World} : Step b w w := ⟨Keep.refl _ _, fun _ h => .inl h⟩
theorem Step.out {b : Nat} {W w w1 : World} (h : Step b w w1) (hx : Ext W w) (hl : ∀ k, foot w b k → W.heap.size ≤ k) : Ext W w1 := Ext.seq hx h.keep hl
theorem Step.low {b n : Nat} {w w1 : World} (h : Step b w w1) (hn : n ≤ w.heap.size) (hl : ∀ k, foot w b k → n ≤ k) : ∀ k, foot w1 b k → n ≤ k := fun k hk => by
  rcases h.grow k hk with h1 | h1
  · exact hl k h1
  · omega
/-- What stands apart stays apart. -/
def Apart (w : World) (b b' : Nat) : Prop := ∀ k, foot w b k → ¬ foot w b' k
theorem Apart.symm {w : World} {b b' : Nat} (h : Apart w b b') : Apart w b' b := fun k h1 h2 => h k h2 h1
theorem Step.other {b b' : Nat} {w w1 : World} (h : Step b w w1) (ha : Apart w b b') (hl : b' < w.heap.size) : w1.heap[b']? = w.heap[b']? := h.keep.block b' hl (fun hf => ha b' hf (foot_self w b'))
theorem Step.apart {b b' : Nat} {w w1 : World} (h : Step b w w1) (ha : Apart w b b') (hl : ∀ k, foot w b' k → k < w.heap.size) : Apart w1 b b' := fun k h1 h2 => by
  have h2' := (foot_same (h.other ha (hl b' (foot_self w b')))).1 h2
  rcases h.grow k h1 with h3 | h3
  · exact ha k h3 h2'
  · have := hl k h2'
    omega
theorem Apart.new {w w1 : World} {b b' : Nat} (h : Ext w w1) (hl : ∀ k, foot w b k → k < w.heap.size) (hn : ∀ k, foot w1 b' k → w.heap.size ≤ k) : Apart w1 b b' := fun k h1 h2 => by
  have h1' := (foot_same (h.block b (hl b (foot_self w b)) (fun h => h))).1 h1
  have := hl k h1'
  have := hn k h2
  omega
theorem Apart.ext {w w1 : World} {b b' : Nat} (h : Apart w b b') (x : Ext w w1) (h1 : b < w.heap.size) (h2 : b' < w.heap.size) : Apart w1 b b' := fun k f1 f2 =>
  h k ((foot_same (x.block b h1 (fun h => h))).1 f1) ((foot_same (x.block b' h2 (fun h => h))).1 f2)
/-- Rows of the call's own stay where their block is kept. -/
theorem own_keepD {w w' : World} {base e size n : Nat} {v : Value} {xs : List Value} {D : Nat → Prop} (h : w.ownsRow base e size v n xs) (k : Keep D w w') (hd : ∀ g, v.ownBlock = some g → ¬ D g) : w'.ownsRow base e size v n xs := by
  refine ⟨h.1, h.2.imp id ?_⟩
  rintro ⟨g, cap, cur, rfl, hg, hh, rest⟩
  exact ⟨g, cap, cur, rfl, hg, k.get (hd g rfl) hh, rest⟩
theorem own_extD {w w' : World} {base e size n : Nat} {v : Value} {xs : List Value} (h : w.ownsRow base e size v n xs) (k : Ext w w') : w'.ownsRow base e size v n xs := own_keepD h k (fun _ _ h => h)
theorem own_neT {w : World} {base e size n : Nat} {v : Value} {xs : List Value} (ho : w.ownsRow base e size v n xs) {b : Nat} {cs : Array Value} {T : TypeId} {fr : Nat × Nat} (hb : w.heap[b]? = some (.cells cs T fr)) (hT : T ≠ e) : v.ownBlock ≠ some b := by
  intro h
  rcases ho.2 with ⟨rfl, _⟩ | ⟨g, cap, cur, rfl, _, hg, _⟩
  · cases h
  · have : g = b := by simpa [Value.ownBlock] using h
    subst this
    rw [hb] at hg
    injection hg with hg
    injection hg with _ h2
    exact hT h2
theorem own_neO {w : World} {base base' e e' size size' n n' : Nat} {v v' : Value} {xs xs' : List Value} (ho : w.ownsRow base e size v n xs) (ho' : w.ownsRow base' e' size' v' n' xs') (hT : e ≠ e') {g : Nat} (hg : v.ownBlock = some g) : v'.ownBlock ≠ some g := by
  rcases ho.2 with ⟨rfl, _⟩ | ⟨g', cap, cur, rfl, _, hh, _⟩
  · cases hg
  · have : g' = g := by simpa [Value.ownBlock] using hg
    subst this
    exact own_neT ho' hh hT
theorem own_max {w : World} {base e size n : Nat} {v : Value} {xs : List Value} (ho : w.ownsRow base e size v n xs) : n ≤ 9223372036854775807 := by
  rcases ho.2 with ⟨_, h⟩ | ⟨_, _, _, _, _, _, h, h', _⟩
  · omega
  · simp only [maxLen] at h'
    omega
theorem own_base0 {w : World} {base e size n : Nat} {v : Value} {xs : List Value} (ho : w.ownsRow base e size v n xs) : w.ownsRow 0 e size v n xs := own_mono ho (Nat.zero_le _)
/-- v lies apart from the object b. -/
def Outs (w : World) (b : Nat) (v : Value) : Prop := ∀ k, v.ownBlock = some k → ¬ foot w b k ∧ k < w.heap.size
theorem Outs.step {w w1 : World} {b : Nat} {v : Value} (h : Outs w b v) (s : Step b w w1) : Outs w1 b v := fun k hk => by
  obtain ⟨h1, h2⟩ := h k hk
  refine ⟨fun hf => ?_, Nat.lt_of_lt_of_le h2 s.size⟩
  rcases s.grow k hf with h3 | h3
  · exact h1 h3
  · omega
theorem Outs.ext {w w1 : World} {b : Nat} {v : Value} (h : Outs w b v) (hb : b < w.heap.size) (x : Ext w w1) : Outs w1 b v := h.step (Step.ext x hb)
theorem Bts.step {w w1 : World} {b : Nat} {v : Value} {l : List UInt8} (h : Bts w v l) (o : Outs w b v) (s : Step b w w1) : Bts w1 v l := h.keep s.keep (fun k hk => (o k hk).1)
theorem outs_own {w w1 : World} {b base e size n : Nat} {v : Value} {xs : List Value} (ho : w1.ownsRow base e size v n xs) (x : Ext w w1) (hl : ∀ k, foot w b k → k < w.heap.size) (hb : w.heap.size ≤ base) : Outs w1 b v := fun k hk => by
  obtain ⟨h1, h2⟩ := ho.lt k hk
  refine ⟨fun hf => ?_, h2⟩
  have := hl k ((foot_same (x.block b (hl b (foot_self w b)) (fun h => h))).1 hf)
  omega
/-- An aggregate is written into a block, anywhere. -/
theorem XU_storeAggAt {P : Program} {t : TypeId} (hi : infoB P t = true) {b o : Nat} {cs : Array Value} {l : List Value} {T : TypeId} {w : World} {K : World → Prop} (hb : w.heap[b]? = some (.cells cs T (0, 0))) (hc : o + l.length ≤ cs.size) (hn : l.length = szT P t)
    (h1 : ∀ v ∈ l, v.oneCell' = true) (h : K (setAt w b (cs.toList.take o ++ l ++ cs.toList.drop (o + l.length)).toArray T (0, 0))) : XU P (Instr.storeAt t (.pointer (some ⟨b, o, none⟩)) (.agg l.toArray)) w K := by
  have hst := run_storeCells_at P b o T l 0 cs w hb (by omega) h1
  have e : w.setRow b ((cs.toList.take (o + 0) ++ l ++ cs.toList.drop (o + 0 + l.length)).toArray) = setAt w b (cs.toList.take o ++ l ++ cs.toList.drop (o + l.length)).toArray T (0, 0) := by
    rw [Nat.add_zero]
    unfold World.setRow setAt
    congr 1
    apply Array.ext_getElem?
    intro i
    have hl := lt_of_blk hb
    by_cases hi : i = b
    · subst hi
      rw [Array.getElem?_modify, if_pos rfl, hb]
      simp [hl]
    · rw [Array.getElem?_setIfInBounds_ne (Ne.symm hi), Array.getElem?_modify]
      simp [Ne.symm hi]
  rw [e] at hst
  have hv : (Value.agg l.toArray).cells = l.toArray := rfl
  have hr : (Instr.storeAt t (.pointer (some ⟨b, o, none⟩)) (.agg l.toArray)).run P w = .ok () (setAt w b (cs.toList.take o ++ l ++ cs.toList.drop (o + l.length)).toArray T (0, 0)) := by
    simp [Instr.storeAt, Instr.sureAddr, storeVar, sizeOf_run hi, hv, ← hn, hst]
  unfold XU; rw [hr]; exact h
theorem splice_len (l m : List Value) (o : Nat) (h : o + m.length ≤ l.length) : (l.take o ++ m ++ l.drop (o + m.length)).length = l.length := by
  simp; omega
/-- copy of cells into a block, elements of any size. -/
theorem X_copy_cells {P : Program} {t u U e size : Nat} {w : World} {K : Value → World → Prop} (ht : P.underlying t = some (.slice e)) (hi : infoB P e = true) (hs : szT P e = size) {g o n c : Nat} {cur : Array Value} {T : TypeId} (hg : w.heap[g]? = some (.cells cur T (0, 0)))
    {a : Addr} {m c' : Nat} {l : List Value} (hl : l.length = min m n * size) (hc : ∀ j v, l[j]? = some v → w.cell? (a.add j) = some v) (h1 : ∀ v ∈ l, v.oneCell' = true) (hfit : o + l.length ≤ cur.size)
    (h : K (.int .i64 (min m n : Nat)) (setAt w g (cur.toList.take o ++ l ++ cur.toList.drop (o + l.length)).toArray T (0, 0))) : X P (Builtin.copy_ #[t, u] U #[.slice (some ⟨g, o, none⟩) n c, .slice (some a) m c']) w K := by
  have hld := run_loadCells_list (P := P) w a l hc
  have hst := run_storeCells_at P g o T l 0 cur w hg (by omega) h1
  have e : w.setRow g ((cur.toList.take (o + 0) ++ l ++ cur.toList.drop (o + 0 + l.length)).toArray) = setAt w g (cur.toList.take o ++ l ++ cur.toList.drop (o + l.length)).toArray T (0, 0) := by
    rw [Nat.add_zero]
    unfold World.setRow setAt
    congr 1
    apply Array.ext_getElem?
    intro i
    have hl := lt_of_blk hg
    by_cases hi : i = g
    · subst hi
      rw [Array.getElem?_modify, if_pos rfl, hg]
      simp [hl]
    · rw [Array.getElem?_setIfInBounds_ne (Ne.symm hi), Array.getElem?_modify]
      simp [Ne.symm hi]
  rw [e] at hst
  rw [hl] at hld
  refine X_of (w1 := setAt w g (cur.toList.take o ++ l ++ cur.toList.drop (o + l.length)).toArray T (0, 0)) (v := .int .i64 (min m n : Nat)) ?_ h
  have hm : Nat.min m n = min m n := rfl
  simp [Builtin.copy_, run_underlying ht, Builtin.lenOf, Builtin.firstCells, sizeOf_run hi, hs, hm, hld, hst, goInt]
/-- append to a row of the call's own, and where the new row lies. -/
theorem X_appendW {P : Program} {w : World} {K : Value → World → Prop} {base : Nat} {t U e : TypeId} {size bytes : Nat} {z : Value} (ht : P.underlying t = some (.slice e)) (hE : El P e size z bytes) (h0 : 0 < size) {v : Value} {n : Nat} {xs : List Value} (hown : w.ownsRow base e size v n xs)
    {a : Addr} {m c : Nat} {news : List Value} (hl : news.length = m * size) (hnews : ∀ j u, news[j]? = some u → w.cell? (a.add j) = some u) (h1 : ∀ u ∈ news, u.oneCell' = true)
    (hb : (n + m) * bytes ≤ 140737488355328) (hb0 : 0 < bytes) (hbase : base ≤ w.heap.size)
    (h : ∀ v' w1, w1.ownsRow base e size v' (n + m) (xs ++ news) → Keep (fun k => some k = v.ownBlock) w w1 → (∀ g, v'.ownBlock = some g → v.ownBlock = some g ∨ w.heap.size ≤ g) → K v' w1) : X P (Builtin.append_ #[t, t] U #[v, .slice (some a) m c]) w K := by
  obtain ⟨⟨i, hi, hs, hz, hby⟩, hzc⟩ := hE
  have hm : n + m ≤ 140737488355328 := Nat.le_trans (Nat.le_mul_of_pos_right _ hb0) hb
  have h63 : n + m ≤ maxLen := by simp only [maxLen]; omega
  obtain ⟨v', w1, hr, h2, h3, h4⟩ := run_append_own (P := P) w base t U e i z size bytes ht hi hz hs hby hzc h0 v n xs hown a m c news hl hnews h1 h63 hb hbase
  rw [X_ok hr]
  refine h v' w1 h2 (keep_grown h3) ?_
  intro g hg
  rcases id hown.2 with ⟨rfl, rfl⟩ | ⟨g0, cap, cur, rfl, hbg, hh, hnc, hcm, hcs, htake⟩
  · have hx : xs = [] := List.eq_nil_of_length_eq_zero (by simpa using hown.1)
    subst hx
    obtain ⟨v2, w2, hr2, h22, _, _⟩ := run_append_own (P := P) w w.heap.size t U e i z size bytes ht hi hz hs hby hzc h0 (.slice none 0 0) 0 [] (World.ownsRow_nil w _ e size) a m c news hl hnews h1 h63 hb (Nat.le_refl _)
    rw [hr] at hr2
    injection hr2 with e1 e2
    subst e1
    exact .inr (h22.lt g hg).1
  · subst hs
    subst hby
    by_cases hroom : n + m ≤ cap
    · have hfit : n * i.size + news.length ≤ cur.size := by rw [hl, hcs, ← Nat.add_mul]; exact Nat.mul_le_mul_right _ hroom
      have hr2 := run_append_room (P := P) w t U e i ht hi g0 n cap cur hh a m c news hl hnews h1 hroom hfit
      rw [hr] at hr2
      injection hr2 with e1 e2
      subst e1
      exact .inl hg
    · have holds : ∀ j u, xs[j]? = some u → w.cell? ((⟨g0, 0, none⟩ : Addr).add j) = some u := hown.cells (g := g0) rfl
      simp only [maxLen] at h63 hcm
      have hr2 := run_append_grow (P := P) w t U e i z ht hi hz ⟨g0, 0, none⟩ n cap xs hown.1 holds a m c news hl hnews (by omega) (by omega) (growslice_fits (by omega) hb)
      rw [hr] at hr2
      injection hr2 with e1 e2
      subst e1
      refine .inr ?_
      injection hg with hg
      exact Nat.le_of_eq hg
/-- A literal of one struct. -/
theorem foldl_put (l : List Value) : ∀ (k : Nat) (cs : Array Value), k + l.length ≤ cs.size → ((l.zipIdx k).foldl (fun (cs : Array Value) (x : Value × Nat) => cs.setIfInBounds (0 + x.2) x.1) cs).toList = cs.toList.take k ++ l ++ cs.toList.drop (k + l.length) := by
  induction l with
  | nil => intro k cs h; simp
  | cons v l ih =>
    intro k cs h
    simp only [List.length_cons] at h
    rw [List.zipIdx_cons, List.foldl_cons, ih (k + 1) _ (by rw [Array.size_setIfInBounds]; omega)]
    simp only [Array.toList_setIfInBounds, Nat.zero_add]
    have hs := list_seg_step cs.toList k v l (by rw [Array.length_toList]; omega)
    rw [hs]
    simp
theorem X_buildSliceAgg {P : Program} {w : World} {K : Value → World → Prop} {T e size bytes : Nat} {z : Value} (hT : P.underlying T = some (.slice e)) (hE : El P e size z bytes) (h0 : 0 < size) (hsz : size ≤ 16777216) {l : List Value} (hl : l.length = size)
    (h : K (.slice (some ⟨w.heap.size, 0, none⟩) 1 1) (newB w l.toArray e)) : X P (Instr.buildSlice T 1 #[(0, .agg l.toArray)]) w K := by
  obtain ⟨⟨i, hi, hs, hz, _⟩, hzc⟩ := hE
  subst hs
  have hv : (Value.agg l.toArray).cells = l.toArray := rfl
  have hnz : ¬ i.size = 0 := by omega
  have hfill : Instr.fill (fun i_1 => some (i_1 * i.size, i.size)) ((Array.range (1 * i.size)).map (z.cells[· % z.cells.size]!)) [(0, Value.agg l.toArray)] = some l.toArray := by
    simp only [Instr.fill, hv, List.size_toArray, hl, Nat.zero_mul, Nat.zero_add, Array.size_map, Array.size_range, Nat.one_mul]
    rw [if_neg (by simp)]
    congr 1
    apply Array.ext'
    have hf := foldl_put l 0 ((Array.range i.size).map (z.cells[· % z.cells.size]!)) (by simp [hl])
    rw [List.take_zero, List.nil_append, List.drop_eq_nil_of_le (by simp [hl]), List.append_nil] at hf
    rw [Array.zipIdx_toArray, List.foldl_toArray]
    simpa only [Nat.zero_add] using hf
  refine X_of (v := .slice (some ⟨w.heap.size, 0, none⟩) 1 1) (w1 := newB w l.toArray e) ?_ h
  have hle : ¬ (1 * i.size > 2 ^ 24) := by omega
  have hne : ¬ (1 * i.size = 0) := by omega
  have hle' : ¬ 16777216 < i.size := by omega
  rw [Nat.one_mul] at hfill
  simp [Instr.buildSlice, run_underlying hT, sizeOf, typeInfo, hi, hle', hnz, zeroValue, hz, hfill, newRow, newB]
end Go.Sh
end
