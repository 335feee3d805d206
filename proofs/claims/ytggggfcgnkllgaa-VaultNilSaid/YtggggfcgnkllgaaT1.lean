import Derived.Test.YtggggfcgnkllgaaTy
import Derived.Test.YtggggfcgnkllgaaShSound
set_option linter.unusedVariables false
namespace Go.Proofs.Ytggggfcgnkllgaa
open Go Go.Sh
attribute [local irreducible] X XU XP XR CALL loopS resC closS
/-- cellarage/codec.Put -/
def B_codec_Put (x0 x1 x2 : Value) (w : World) (K : Value → World → Prop) : Prop :=
  X Try.prog (Builtin.min_ #[3, 3] 3 #[x2, (.int .i64 8)]) w fun v1_10 w1 =>
  X Try.prog (Builtin.max_ #[3, 3] 3 #[(.int .i64 0), v1_10]) w1 fun v2_11 w2 =>
  X Try.prog (Builtin.len_ #[27] 3 #[x0]) w2 fun v3_13 w3 =>
  X Try.prog (Builtin.len_ #[27] 3 #[x0]) w3 fun v4_15 w4 =>
  X Try.prog (binOp .add 3 v4_15 v2_11) w4 fun v5_17 w5 =>
  X Try.prog (Instr.makeSlice 27 v3_13 v5_17) w5 fun v6_18 w6 =>
  X Try.prog (Builtin.copy_ #[27, 27] 3 #[v6_18, x0]) w6 fun v7_21 w7 =>
  X Try.prog (binOp .sub 3 v2_11 (.int .i64 1)) w7 fun v8_23 w8 =>
  X Try.prog (binOp .mul 3 (.int .i64 8) v8_23) w8 fun v9_24 w9 =>
  loopS (fun Q1 ρ1 w10 =>
  X Try.prog (binOp .geq 3 (ρ1 8) (.int .i64 0)) w10 fun v10_26 w11 =>
  condS v10_26 (
  X Try.prog (binOp .shr 22 (ρ1 1) (ρ1 8)) w11 fun v11_32 w12 =>
  X Try.prog (convert 22 5 v11_32) w12 fun v12_33 w13 =>
  X Try.prog (Instr.buildSlice 27 1 #[(0, v12_33)]) w13 fun v13_34 w14 =>
  X Try.prog (Builtin.append_ #[27, 27] 27 #[(ρ1 7), v13_34]) w14 fun v14_35 w15 =>
  X Try.prog (binOp .sub 3 (ρ1 8) (.int .i64 8)) w15 fun v15_28 w16 =>
  Q1 .normal (upds ρ1 [(8, v15_28), (28, v15_28), (27, (ρ1 8)), (7, v14_35), (35, v14_35), (34, v13_34), (33, v12_33), (32, v11_32), (31, (ρ1 8)), (30, (ρ1 1)), (29, (ρ1 7)), (26, v10_26), (25, (ρ1 8))]) w16) (
  Q1 (.exit 0) (upds ρ1 [(26, v10_26), (25, (ρ1 8))]) w11)) (inBlockS 0 (thenS (fun ρ2 w17 =>
  K (ρ2 7) w17) (retS Try.prog (Try.f46).results K))) (upds (env0 #[x0, x1, x2]) [(8, v9_24), (24, v9_24), (23, v8_23), (22, v2_11), (21, v7_21), (20, x0), (19, v6_18), (7, v6_18), (18, v6_18), (17, v5_17), (16, v2_11), (15, v4_15), (14, x0), (13, v3_13), (12, x0), (2, v2_11), (11, v2_11), (10, v1_10), (9, x2), (6, (.slice none 0 0))]) w9

theorem eq_codec_Put (x0 x1 x2 : Value) (w : World) (K : Value → World → Prop) :
    sh Try.prog (Try.f46.body.getD .skip) (retS Try.prog Try.f46.results K) (env0 #[x0, x1, x2]) w = B_codec_Put x0 x1 x2 w K := by kernel_rfl

theorem call_codec_Put (x0 x1 x2 : Value) (w : World) (K : Value → World → Prop) (h : B_codec_Put x0 x1 x2 w K) : CALL Try.prog 46 #[x0, x1, x2] w K :=
  call_of_eq (c := Try.f46.body.getD .skip) mixed Try.func46 (by kernel_rfl) (by kernel_rfl) (by kernel_rfl) (Nat.le_of_ble_eq_true (by kernel_rfl)) (eq_codec_Put x0 x1 x2 w K) h

/-- cellarage/codec.Text -/
def B_codec_Text (x0 x1 : Value) (w : World) (K : Value → World → Prop) : Prop :=
  X Try.prog (Builtin.len_ #[9] 3 #[x1]) w fun v1_7 w1 =>
  X Try.prog (convert 3 22 v1_7) w1 fun v2_8 w2 =>
  CALL Try.prog 46 #[x0, v2_8, (.int .i64 4)] w2 fun v3_9 w3 =>
  X Try.prog (Builtin.append_ #[27, 9] 27 #[v3_9, x1]) w3 fun v4_11 w4 =>
  K v4_11 w4

theorem eq_codec_Text (x0 x1 : Value) (w : World) (K : Value → World → Prop) :
    sh Try.prog (Try.f67.body.getD .skip) (retS Try.prog Try.f67.results K) (env0 #[x0, x1]) w = B_codec_Text x0 x1 w K := by kernel_rfl

theorem call_codec_Text (x0 x1 : Value) (w : World) (K : Value → World → Prop) (h : B_codec_Text x0 x1 w K) : CALL Try.prog 67 #[x0, x1] w K :=
  call_of_eq (c := Try.f67.body.getD .skip) mixed Try.func67 (by kernel_rfl) (by kernel_rfl) (by kernel_rfl) (Nat.le_of_ble_eq_true (by kernel_rfl)) (eq_codec_Text x0 x1 w K) h

/-- cellarage/codec.New -/
def B_codec_New (x0 : Value) (w : World) (K : Value → World → Prop) : Prop :=
  X Try.prog (Builtin.append_ #[27, 27] 27 #[(.slice none 0 0), x0]) w fun v1_4 w1 =>
  X Try.prog (Instr.build 176 #[(0, v1_4)]) w1 fun v2_5 w2 =>
  X Try.prog (Instr.box 176 v2_5) w2 fun v3_6 w3 =>
  K v3_6 w3

theorem eq_codec_New (x0 : Value) (w : World) (K : Value → World → Prop) :
    sh Try.prog (Try.f58.body.getD .skip) (retS Try.prog Try.f58.results K) (env0 #[x0]) w = B_codec_New x0 w K := by kernel_rfl

theorem call_codec_New (x0 : Value) (w : World) (K : Value → World → Prop) (h : B_codec_New x0 w K) : CALL Try.prog 58 #[x0] w K :=
  call_of_eq (c := Try.f58.body.getD .skip) mixed Try.func58 (by kernel_rfl) (by kernel_rfl) (by kernel_rfl) (Nat.le_of_ble_eq_true (by kernel_rfl)) (eq_codec_New x0 w K) h

/-- (*cellarage/codec.Reader).ready -/
def B_codec_Reader_ready (x0 : Value) (w : World) (K : Value → World → Prop) : Prop :=
  X Try.prog (binOpG .neq 54 (.tmp 3) (.const (.pointer none)) x0 (.pointer none)) w fun v1_4 w1 =>
  gstep v1_4 true (fun w2 K => K x0 w2) w1 fun v2_6 w3 =>
  gstep v1_4 true (fun w4 K => X Try.prog (nilS v2_6) w4 K) w3 fun v3_7 w5 =>
  gstep v1_4 true (fun w6 K => X Try.prog (Instr.fieldAt 176 v3_7 1) w6 K) w5 fun v4_8 w7 =>
  gstep v1_4 true (fun w8 K => X Try.prog (Instr.loadAt 30 v4_8) w8 K) w7 fun v5_9 w9 =>
  gstep v1_4 true (fun w10 K => X Try.prog (binOpG .eql 30 (.tmp 9) (.const (.int .i64 0)) v5_9 (.int .i64 0)) w10 K) w9 fun v6_10 w11 =>
  X Try.prog (pickS v1_4 v6_10 (.bool false)) w11 fun v7_11 w12 =>
  K v7_11 w12

theorem eq_codec_Reader_ready (x0 : Value) (w : World) (K : Value → World → Prop) :
    sh Try.prog (Try.f128.body.getD .skip) (retS Try.prog Try.f128.results K) (env0 #[x0]) w = B_codec_Reader_ready x0 w K := by kernel_rfl

theorem call_codec_Reader_ready (x0 : Value) (w : World) (K : Value → World → Prop) (h : B_codec_Reader_ready x0 w K) : CALL Try.prog 128 #[x0] w K :=
  call_of_eq (c := Try.f128.body.getD .skip) mixed Try.func128 (by kernel_rfl) (by kernel_rfl) (by kernel_rfl) (Nat.le_of_ble_eq_true (by kernel_rfl)) (eq_codec_Reader_ready x0 w K) h

/-- cellarage/codec.number -/
def B_codec_number (x0 : Value) (w : World) (K : Value → World → Prop) : Prop :=
  X Try.prog (Builtin.len_ #[27] 3 #[x0]) w fun v1_7 w1 =>
  loopS (fun Q1 ρ1 w2 =>
  X Try.prog (binOp .lss 3 (ρ1 8) (ρ1 7)) w2 fun v2_9 w3 =>
  condS v2_9 (
  X Try.prog (Instr.indexAt 27 (ρ1 6) (ρ1 8)) w3 fun v3_10 w4 =>
  X Try.prog (Instr.loadAt 5 v3_10) w4 fun v4_11 w5 =>
  X Try.prog (binOp .shl 22 (ρ1 3) (.int .u64 8)) w5 fun v5_13 w6 =>
  X Try.prog (convert 5 22 v4_11) w6 fun v6_15 w7 =>
  X Try.prog (binOp .or 22 v5_13 v6_15) w7 fun v7_16 w8 =>
  X Try.prog (binOp .add 3 (ρ1 8) (.int .i64 1)) w8 fun v8_17 w9 =>
  Q1 .normal (upds ρ1 [(8, v8_17), (17, v8_17), (3, v7_16), (16, v7_16), (15, v6_15), (14, v4_11), (13, v5_13), (12, (ρ1 3)), (5, v4_11), (11, v4_11), (10, v3_10), (9, v2_9)]) w9) (
  Q1 (.exit 0) (upds ρ1 [(9, v2_9)]) w3)) (inBlockS 0 (thenS (fun ρ2 w10 =>
  K (ρ2 3) w10) (retS Try.prog (Try.f129).results K))) (upds (env0 #[x0]) [(8, (.int .i64 0)), (7, v1_7), (6, x0), (3, (.int .u64 0)), (2, (.int .u64 0))]) w1

theorem eq_codec_number (x0 : Value) (w : World) (K : Value → World → Prop) :
    sh Try.prog (Try.f129.body.getD .skip) (retS Try.prog Try.f129.results K) (env0 #[x0]) w = B_codec_number x0 w K := by kernel_rfl

theorem call_codec_number (x0 : Value) (w : World) (K : Value → World → Prop) (h : B_codec_number x0 w K) : CALL Try.prog 129 #[x0] w K :=
  call_of_eq (c := Try.f129.body.getD .skip) mixed Try.func129 (by kernel_rfl) (by kernel_rfl) (by kernel_rfl) (Nat.le_of_ble_eq_true (by kernel_rfl)) (eq_codec_number x0 w K) h

/-- (*cellarage/codec.Reader).Get -/
def B_codec_Reader_Get (x0 x1 : Value) (w : World) (K : Value → World → Prop) : Prop :=
  CALL Try.prog 128 #[x0] w fun v1_8 w1 =>
  X Try.prog (Op.unary .not v1_8) w1 fun v2_9 w2 =>
  condS v2_9 (
  K (.int .u64 0) w2) (
  X Try.prog (binOp .lss 3 x1 (.int .i64 0)) w2 fun v3_12 w3 =>
  gstep v3_12 false (fun w4 K => K x1 w4) w3 fun v4_14 w5 =>
  gstep v3_12 false (fun w6 K => X Try.prog (binOp .gtr 3 v4_14 (.int .i64 8)) w6 K) w5 fun v5_15 w7 =>
  X Try.prog (pickS v3_12 (.bool true) v5_15) w7 fun v6_16 w8 =>
  condS v6_16 (
  X Try.prog (nilS x0) w8 fun v7_18 w9 =>
  X Try.prog (Instr.fieldAt 176 v7_18 1) w9 fun v8_19 w10 =>
  XU Try.prog (Instr.storeAt 30 v8_19 (.int .i64 1)) w10 fun w11 =>
  K (.int .u64 0) w11) (
  X Try.prog (nilS x0) w8 fun v9_23 w12 =>
  X Try.prog (Instr.fieldAt 176 v9_23 0) w12 fun v10_24 w13 =>
  X Try.prog (Instr.loadAt 27 v10_24) w13 fun v11_25 w14 =>
  X Try.prog (Builtin.len_ #[27] 3 #[v11_25]) w14 fun v12_26 w15 =>
  X Try.prog (binOp .gtr 3 x1 v12_26) w15 fun v13_27 w16 =>
  condS v13_27 (
  X Try.prog (nilS x0) w16 fun v14_29 w17 =>
  X Try.prog (Instr.fieldAt 176 v14_29 1) w17 fun v15_30 w18 =>
  XU Try.prog (Instr.storeAt 30 v15_30 (.int .i64 10)) w18 fun w19 =>
  K (.int .u64 0) w19) (
  X Try.prog (nilS x0) w16 fun v16_32 w20 =>
  X Try.prog (Instr.fieldAt 176 v16_32 0) w20 fun v17_33 w21 =>
  X Try.prog (Instr.loadAt 27 v17_33) w21 fun v18_34 w22 =>
  X Try.prog (Instr.sliceAt 27 v18_34 none (some x1) none) w22 fun v19_36 w23 =>
  CALL Try.prog 129 #[v19_36] w23 fun v20_37 w24 =>
  X Try.prog (nilS x0) w24 fun v21_40 w25 =>
  X Try.prog (Instr.fieldAt 176 v21_40 0) w25 fun v22_41 w26 =>
  X Try.prog (Instr.loadAt 27 v22_41) w26 fun v23_42 w27 =>
  X Try.prog (Instr.sliceAt 27 v23_42 (some x1) none none) w27 fun v24_44 w28 =>
  X Try.prog (nilS x0) w28 fun v25_45 w29 =>
  X Try.prog (Instr.fieldAt 176 v25_45 0) w29 fun v26_46 w30 =>
  XU Try.prog (Instr.storeAt 27 v26_46 v24_44) w30 fun w31 =>
  K v20_37 w31)))

theorem eq_codec_Reader_Get (x0 x1 : Value) (w : World) (K : Value → World → Prop) :
    sh Try.prog (Try.f61.body.getD .skip) (retS Try.prog Try.f61.results K) (env0 #[x0, x1]) w = B_codec_Reader_Get x0 x1 w K := by kernel_rfl

theorem call_codec_Reader_Get (x0 x1 : Value) (w : World) (K : Value → World → Prop) (h : B_codec_Reader_Get x0 x1 w K) : CALL Try.prog 61 #[x0, x1] w K :=
  call_of_eq (c := Try.f61.body.getD .skip) mixed Try.func61 (by kernel_rfl) (by kernel_rfl) (by kernel_rfl) (Nat.le_of_ble_eq_true (by kernel_rfl)) (eq_codec_Reader_Get x0 x1 w K) h

/-- (*cellarage/codec.Reader).Text -/
def B_codec_Reader_Text (x0 x1 : Value) (w : World) (K : Value → World → Prop) : Prop :=
  CALL Try.prog 128 #[x0] w fun v1_8 w1 =>
  X Try.prog (Op.unary .not v1_8) w1 fun v2_9 w2 =>
  condS v2_9 (
  K (.string { data := #[] }) w2) (
  X Try.prog (nilS x0) w2 fun v3_11 w3 =>
  X Try.prog (Instr.fieldAt 176 v3_11 0) w3 fun v4_12 w4 =>
  X Try.prog (Instr.loadAt 27 v4_12) w4 fun v5_13 w5 =>
  X Try.prog (Builtin.len_ #[27] 3 #[v5_13]) w5 fun v6_14 w6 =>
  X Try.prog (binOp .lss 3 v6_14 (.int .i64 4)) w6 fun v7_15 w7 =>
  condS v7_15 (
  X Try.prog (nilS x0) w7 fun v8_17 w8 =>
  X Try.prog (Instr.fieldAt 176 v8_17 1) w8 fun v9_18 w9 =>
  XU Try.prog (Instr.storeAt 30 v9_18 (.int .i64 10)) w9 fun w10 =>
  K (.string { data := #[] }) w10) (
  ∃ R, Frame? R ∧
  XP Try.prog (nilS x0) (drewW w7) fun v10_20 w11 =>
  XP Try.prog (Instr.fieldAt 176 v10_20 0) w11 fun v11_21 w12 =>
  XR Try.prog R (Instr.loadAt 27 v11_21) w12 fun v12_22 w13 =>
  XP Try.prog (Instr.sliceAt 27 v12_22 none (some (.int .i64 4)) none) w13 fun v13_23 w14 =>
  XP Try.prog (nilS x0) w14 fun v14_26 w15 =>
  XP Try.prog (Instr.fieldAt 176 v14_26 0) w15 fun v15_27 w16 =>
  XR Try.prog R (Instr.loadAt 27 v15_27) w16 fun v16_28 w17 =>
  XP Try.prog (Instr.sliceAt 27 v16_28 (some (.int .i64 4)) none none) w17 fun v17_29 w18 =>
  CALL Try.prog 129 #[v13_23] w18 fun v18_24 w19 =>
  R w18 w19 ∧
  X Try.prog (Builtin.max_ #[3, 3] 3 #[x1, (.int .i64 0)]) w19 fun v19_33 w20 =>
  X Try.prog (convert 3 22 v19_33) w20 fun v20_34 w21 =>
  X Try.prog (binOp .gtr 22 v18_24 v20_34) w21 fun v21_35 w22 =>
  condS v21_35 (
  X Try.prog (nilS x0) w22 fun v22_37 w23 =>
  X Try.prog (Instr.fieldAt 176 v22_37 1) w23 fun v23_38 w24 =>
  XU Try.prog (Instr.storeAt 30 v23_38 (.int .i64 4)) w24 fun w25 =>
  K (.string { data := #[] }) w25) (
  X Try.prog (Builtin.len_ #[27] 3 #[v17_29]) w22 fun v24_42 w26 =>
  X Try.prog (convert 3 22 v24_42) w26 fun v25_43 w27 =>
  X Try.prog (binOp .gtr 22 v18_24 v25_43) w27 fun v26_44 w28 =>
  condS v26_44 (
  X Try.prog (nilS x0) w28 fun v27_46 w29 =>
  X Try.prog (Instr.fieldAt 176 v27_46 1) w29 fun v28_47 w30 =>
  XU Try.prog (Instr.storeAt 30 v28_47 (.int .i64 10)) w30 fun w31 =>
  K (.string { data := #[] }) w31) (
  X Try.prog (Instr.sliceAt 27 v17_29 (some v18_24) none none) w28 fun v29_51 w32 =>
  X Try.prog (nilS x0) w32 fun v30_52 w33 =>
  X Try.prog (Instr.fieldAt 176 v30_52 0) w33 fun v31_53 w34 =>
  XU Try.prog (Instr.storeAt 27 v31_53 v29_51) w34 fun w35 =>
  X Try.prog (Instr.sliceAt 27 v17_29 none (some v18_24) none) w35 fun v32_56 w36 =>
  X Try.prog (convert 27 9 v32_56) w36 fun v33_57 w37 =>
  K v33_57 w37))))

theorem eq_codec_Reader_Text (x0 x1 : Value) (w : World) (K : Value → World → Prop) :
    sh Try.prog (Try.f59.body.getD .skip) (retS Try.prog Try.f59.results K) (env0 #[x0, x1]) w = B_codec_Reader_Text x0 x1 w K := by kernel_rfl

theorem call_codec_Reader_Text (x0 x1 : Value) (w : World) (K : Value → World → Prop) (h : B_codec_Reader_Text x0 x1 w K) : CALL Try.prog 59 #[x0, x1] w K :=
  call_of_eq (c := Try.f59.body.getD .skip) mixed Try.func59 (by kernel_rfl) (by kernel_rfl) (by kernel_rfl) (Nat.le_of_ble_eq_true (by kernel_rfl)) (eq_codec_Reader_Text x0 x1 w K) h

/-- (*cellarage/codec.Reader).Left -/
def B_codec_Reader_Left (x0 : Value) (w : World) (K : Value → World → Prop) : Prop :=
  X Try.prog (binOpG .eql 54 (.tmp 3) (.const (.pointer none)) x0 (.pointer none)) w fun v1_4 w1 =>
  condS v1_4 (
  K (.int .i64 0) w1) (
  X Try.prog (nilS x0) w1 fun v2_6 w2 =>
  X Try.prog (Instr.fieldAt 176 v2_6 0) w2 fun v3_7 w3 =>
  X Try.prog (Instr.loadAt 27 v3_7) w3 fun v4_8 w4 =>
  X Try.prog (Builtin.len_ #[27] 3 #[v4_8]) w4 fun v5_9 w5 =>
  K v5_9 w5)

theorem eq_codec_Reader_Left (x0 : Value) (w : World) (K : Value → World → Prop) :
    sh Try.prog (Try.f63.body.getD .skip) (retS Try.prog Try.f63.results K) (env0 #[x0]) w = B_codec_Reader_Left x0 w K := by kernel_rfl

theorem call_codec_Reader_Left (x0 : Value) (w : World) (K : Value → World → Prop) (h : B_codec_Reader_Left x0 w K) : CALL Try.prog 63 #[x0] w K :=
  call_of_eq (c := Try.f63.body.getD .skip) mixed Try.func63 (by kernel_rfl) (by kernel_rfl) (by kernel_rfl) (Nat.le_of_ble_eq_true (by kernel_rfl)) (eq_codec_Reader_Left x0 w K) h

/-- (*cellarage/codec.Reader).Fault -/
def B_codec_Reader_Fault (x0 : Value) (w : World) (K : Value → World → Prop) : Prop :=
  X Try.prog (binOpG .eql 54 (.tmp 3) (.const (.pointer none)) x0 (.pointer none)) w fun v1_4 w1 =>
  condS v1_4 (
  K (.int .i64 0) w1) (
  X Try.prog (nilS x0) w1 fun v2_6 w2 =>
  X Try.prog (Instr.fieldAt 176 v2_6 1) w2 fun v3_7 w3 =>
  X Try.prog (Instr.loadAt 30 v3_7) w3 fun v4_8 w4 =>
  K v4_8 w4)

theorem eq_codec_Reader_Fault (x0 : Value) (w : World) (K : Value → World → Prop) :
    sh Try.prog (Try.f64.body.getD .skip) (retS Try.prog Try.f64.results K) (env0 #[x0]) w = B_codec_Reader_Fault x0 w K := by kernel_rfl

theorem call_codec_Reader_Fault (x0 : Value) (w : World) (K : Value → World → Prop) (h : B_codec_Reader_Fault x0 w K) : CALL Try.prog 64 #[x0] w K :=
  call_of_eq (c := Try.f64.body.getD .skip) mixed Try.func64 (by kernel_rfl) (by kernel_rfl) (by kernel_rfl) (Nat.le_of_ble_eq_true (by kernel_rfl)) (eq_codec_Reader_Fault x0 w K) h

/-- (*cellarage/codec.Reader).End -/
def B_codec_Reader_End (x0 : Value) (w : World) (K : Value → World → Prop) : Prop :=
  CALL Try.prog 128 #[x0] w fun v1_4 w1 =>
  gstep v1_4 true (fun w2 K => K x0 w2) w1 fun v2_6 w3 =>
  gstep v1_4 true (fun w4 K => X Try.prog (nilS v2_6) w4 K) w3 fun v3_7 w5 =>
  gstep v1_4 true (fun w6 K => X Try.prog (Instr.fieldAt 176 v3_7 0) w6 K) w5 fun v4_8 w7 =>
  gstep v1_4 true (fun w8 K => X Try.prog (Instr.loadAt 27 v4_8) w8 K) w7 fun v5_9 w9 =>
  gstep v1_4 true (fun w10 K => X Try.prog (Builtin.len_ #[27] 3 #[v5_9]) w10 K) w9 fun v6_10 w11 =>
  gstep v1_4 true (fun w12 K => X Try.prog (binOp .gtr 3 v6_10 (.int .i64 0)) w12 K) w11 fun v7_11 w13 =>
  X Try.prog (pickS v1_4 v7_11 (.bool false)) w13 fun v8_12 w14 =>
  condS v8_12 (
  K (.int .i64 11) w14) (
  CALL Try.prog 64 #[x0] w14 fun v9_14 w15 =>
  K v9_14 w15)

theorem eq_codec_Reader_End (x0 : Value) (w : World) (K : Value → World → Prop) :
    sh Try.prog (Try.f65.body.getD .skip) (retS Try.prog Try.f65.results K) (env0 #[x0]) w = B_codec_Reader_End x0 w K := by kernel_rfl

theorem call_codec_Reader_End (x0 : Value) (w : World) (K : Value → World → Prop) (h : B_codec_Reader_End x0 w K) : CALL Try.prog 65 #[x0] w K :=
  call_of_eq (c := Try.f65.body.getD .skip) mixed Try.func65 (by kernel_rfl) (by kernel_rfl) (by kernel_rfl) (Nat.le_of_ble_eq_true (by kernel_rfl)) (eq_codec_Reader_End x0 w K) h

/-- cellarage/cellarageref01.Put -/
def B_ref01_Put (x0 x1 : Value) (w : World) (K : Value → World → Prop) : Prop :=
  X Try.prog (Builtin.max_ #[3, 3] 3 #[x1, (.int .i64 0)]) w fun v1_10 w1 =>
  X Try.prog (Builtin.min_ #[3, 3] 3 #[v1_10, (.int .i64 8)]) w1 fun v2_11 w2 =>
  X Try.prog (binOp .sub 3 v2_11 (.int .i64 1)) w2 fun v3_12 w3 =>
  loopS (fun Q1 ρ1 w4 =>
  X Try.prog (binOp .geq 3 (ρ1 6) (.int .i64 0)) w4 fun v4_14 w5 =>
  condS v4_14 (
  loopS (fun Q2 ρ2 w6 =>
  X Try.prog (binOp .lss 3 (ρ2 8) (ρ2 6)) w6 fun v5_20 w7 =>
  condS v5_20 (
  X Try.prog (binOp .quo 22 (ρ2 7) (.int .u64 256)) w7 fun v6_24 w8 =>
  X Try.prog (binOp .add 3 (ρ2 8) (.int .i64 1)) w8 fun v7_22 w9 =>
  Q2 .normal (upds ρ2 [(8, v7_22), (22, v7_22), (21, (ρ2 8)), (7, v6_24), (24, v6_24), (23, (ρ2 7)), (20, v5_20), (19, (ρ2 6)), (18, (ρ2 8))]) w9) (
  Q2 (.exit 2) (upds ρ2 [(20, v5_20), (19, (ρ2 6)), (18, (ρ2 8))]) w7)) (inBlockS 2 (thenS (fun ρ3 w10 =>
  X Try.prog (binOp .rem 22 (ρ3 7) (.int .u64 256)) w10 fun v8_27 w11 =>
  X Try.prog (convert 22 5 v8_27) w11 fun v9_28 w12 =>
  X Try.prog (Instr.buildSlice 27 1 #[(0, v9_28)]) w12 fun v10_29 w13 =>
  X Try.prog (Builtin.append_ #[27, 27] 27 #[(ρ3 5), v10_29]) w13 fun v11_30 w14 =>
  X Try.prog (binOp .sub 3 (ρ3 6) (.int .i64 1)) w14 fun v12_16 w15 =>
  Q1 .normal (upds ρ3 [(6, v12_16), (16, v12_16), (15, (ρ3 6)), (5, v11_30), (30, v11_30), (29, v10_29), (28, v9_28), (27, v8_27), (26, (ρ3 7)), (25, (ρ3 5))]) w15) (inBlockS 1 (thenS (fun ρ4 w16 =>
  X Try.prog (binOp .sub 3 (ρ4 6) (.int .i64 1)) w16 fun v13_16 w17 =>
  Q1 .normal (upds ρ4 [(6, v13_16), (16, v13_16), (15, (ρ4 6))]) w17) Q1)))) (upds ρ1 [(8, (.int .i64 0)), (7, (ρ1 0)), (17, (ρ1 0)), (14, v4_14), (13, (ρ1 6))]) w5) (
  Q1 (.exit 0) (upds ρ1 [(14, v4_14), (13, (ρ1 6))]) w5)) (inBlockS 0 (thenS (fun ρ5 w18 =>
  K (ρ5 5) w18) (retS Try.prog (Try.f125).results K))) (upds (env0 #[x0, x1]) [(6, v3_12), (12, v3_12), (11, v2_11), (10, v1_10), (9, x1), (5, (.slice none 0 0)), (4, (.slice none 0 0))]) w3

theorem eq_ref01_Put (x0 x1 : Value) (w : World) (K : Value → World → Prop) :
    sh Try.prog (Try.f125.body.getD .skip) (retS Try.prog Try.f125.results K) (env0 #[x0, x1]) w = B_ref01_Put x0 x1 w K := by kernel_rfl

theorem call_ref01_Put (x0 x1 : Value) (w : World) (K : Value → World → Prop) (h : B_ref01_Put x0 x1 w K) : CALL Try.prog 125 #[x0, x1] w K :=
  call_of_eq (c := Try.f125.body.getD .skip) mixed Try.func125 (by kernel_rfl) (by kernel_rfl) (by kernel_rfl) (Nat.le_of_ble_eq_true (by kernel_rfl)) (eq_ref01_Put x0 x1 w K) h

/-- (*cellarage/cellarageref01.Reader).number -/
def B_ref01_Reader_number (x0 x1 x2 : Value) (w : World) (K : Value → World → Prop) : Prop :=
  loopS (fun Q1 ρ1 w1 =>
  X Try.prog (binOp .lss 3 (ρ1 8) (ρ1 2)) w1 fun v1_11 w2 =>
  condS v1_11 (
  X Try.prog (binOp .mul 22 (ρ1 7) (.int .u64 256)) w2 fun v2_15 w3 =>
  X Try.prog (nilS (ρ1 0)) w3 fun v3_17 w4 =>
  X Try.prog (Instr.fieldAt 57 v3_17 0) w4 fun v4_18 w5 =>
  X Try.prog (Instr.loadAt 27 v4_18) w5 fun v5_19 w6 =>
  X Try.prog (binOp .add 3 (ρ1 1) (ρ1 8)) w6 fun v6_22 w7 =>
  X Try.prog (Instr.indexAt 27 v5_19 v6_22) w7 fun v7_23 w8 =>
  X Try.prog (Instr.loadAt 5 v7_23) w8 fun v8_24 w9 =>
  X Try.prog (convert 5 22 v8_24) w9 fun v9_25 w10 =>
  X Try.prog (binOp .add 22 v2_15 v9_25) w10 fun v10_26 w11 =>
  X Try.prog (binOp .add 3 (ρ1 8) (.int .i64 1)) w11 fun v11_13 w12 =>
  Q1 .normal (upds ρ1 [(8, v11_13), (13, v11_13), (12, (ρ1 8)), (7, v10_26), (26, v10_26), (25, v9_25), (24, v8_24), (23, v7_23), (22, v6_22), (21, (ρ1 8)), (20, (ρ1 1)), (19, v5_19), (18, v4_18), (17, v3_17), (16, (ρ1 0)), (15, v2_15), (14, (ρ1 7)), (11, v1_11), (10, (ρ1 2)), (9, (ρ1 8))]) w12) (
  Q1 (.exit 0) (upds ρ1 [(11, v1_11), (10, (ρ1 2)), (9, (ρ1 8))]) w2)) (inBlockS 0 (thenS (fun ρ2 w13 =>
  K (ρ2 7) w13) (retS Try.prog (Try.f130).results K))) (upds (env0 #[x0, x1, x2]) [(8, (.int .i64 0)), (7, (.int .u64 0)), (6, (.int .u64 0))]) w

theorem eq_ref01_Reader_number (x0 x1 x2 : Value) (w : World) (K : Value → World → Prop) :
    sh Try.prog (Try.f130.body.getD .skip) (retS Try.prog Try.f130.results K) (env0 #[x0, x1, x2]) w = B_ref01_Reader_number x0 x1 x2 w K := by kernel_rfl

theorem call_ref01_Reader_number (x0 x1 x2 : Value) (w : World) (K : Value → World → Prop) (h : B_ref01_Reader_number x0 x1 x2 w K) : CALL Try.prog 130 #[x0, x1, x2] w K :=
  call_of_eq (c := Try.f130.body.getD .skip) mixed Try.func130 (by kernel_rfl) (by kernel_rfl) (by kernel_rfl) (Nat.le_of_ble_eq_true (by kernel_rfl)) (eq_ref01_Reader_number x0 x1 x2 w K) h

/-- (*cellarage/cellarageref01.Reader).Get -/
def B_ref01_Reader_Get (x0 x1 : Value) (w : World) (K : Value → World → Prop) : Prop :=
  X Try.prog (nilS x0) w fun v1_7 w1 =>
  X Try.prog (Instr.fieldAt 57 v1_7 2) w1 fun v2_8 w2 =>
  X Try.prog (Instr.loadAt 30 v2_8) w2 fun v3_9 w3 =>
  X Try.prog (binOpG .neq 30 (.tmp 9) (.const (.int .i64 0)) v3_9 (.int .i64 0)) w3 fun v4_10 w4 =>
  condS v4_10 (
  K (.int .u64 0) w4) (
  X Try.prog (binOp .lss 3 x1 (.int .i64 0)) w4 fun v5_12 w5 =>
  gstep v5_12 false (fun w6 K => K x1 w6) w5 fun v6_14 w7 =>
  gstep v5_12 false (fun w8 K => X Try.prog (binOp .gtr 3 v6_14 (.int .i64 8)) w8 K) w7 fun v7_15 w9 =>
  X Try.prog (pickS v5_12 (.bool true) v7_15) w9 fun v8_16 w10 =>
  condS v8_16 (
  X Try.prog (nilS x0) w10 fun v9_18 w11 =>
  X Try.prog (Instr.fieldAt 57 v9_18 2) w11 fun v10_19 w12 =>
  XU Try.prog (Instr.storeAt 30 v10_19 (.int .i64 1)) w12 fun w13 =>
  K (.int .u64 0) w13) (
  ∃ R, Frame? R ∧
  XP Try.prog (nilS x0) (drewW w10) fun v11_22 w14 =>
  XP Try.prog (Instr.fieldAt 57 v11_22 0) w14 fun v12_23 w15 =>
  XR Try.prog R (Instr.loadAt 27 v12_23) w15 fun v13_24 w16 =>
  XP Try.prog (Builtin.len_ #[27] 3 #[v13_24]) w16 fun v14_25 w17 =>
  XP Try.prog (nilS x0) w17 fun v15_27 w18 =>
  XP Try.prog (Instr.fieldAt 57 v15_27 1) w18 fun v16_28 w19 =>
  XR Try.prog R (Instr.loadAt 3 v16_28) w19 fun v17_29 w20 =>
  XP Try.prog (binOp .sub 3 v14_25 v17_29) w20 fun v18_30 w21 =>
  XP Try.prog (binOp .gtr 3 x1 v18_30) w21 fun v19_31 w22 =>
  condS v19_31 (
  X Try.prog (nilS x0) w22 fun v20_33 w23 =>
  X Try.prog (Instr.fieldAt 57 v20_33 2) w23 fun v21_34 w24 =>
  XU Try.prog (Instr.storeAt 30 v21_34 (.int .i64 10)) w24 fun w25 =>
  K (.int .u64 0) w25) (
  X Try.prog (nilS x0) w22 fun v22_37 w26 =>
  X Try.prog (Instr.fieldAt 57 v22_37 1) w26 fun v23_38 w27 =>
  X Try.prog (Instr.loadAt 3 v23_38) w27 fun v24_39 w28 =>
  CALL Try.prog 130 #[x0, v24_39, x1] w28 fun v25_41 w29 =>
  X Try.prog (nilS x0) w29 fun v26_44 w30 =>
  X Try.prog (Instr.fieldAt 57 v26_44 1) w30 fun v27_45 w31 =>
  X Try.prog (Instr.loadAt 3 v27_45) w31 fun v28_46 w32 =>
  X Try.prog (binOp .add 3 v28_46 x1) w32 fun v29_48 w33 =>
  X Try.prog (nilS x0) w33 fun v30_49 w34 =>
  X Try.prog (Instr.fieldAt 57 v30_49 1) w34 fun v31_50 w35 =>
  XU Try.prog (Instr.storeAt 3 v31_50 v29_48) w35 fun w36 =>
  K v25_41 w36)))

theorem eq_ref01_Reader_Get (x0 x1 : Value) (w : World) (K : Value → World → Prop) :
    sh Try.prog (Try.f62.body.getD .skip) (retS Try.prog Try.f62.results K) (env0 #[x0, x1]) w = B_ref01_Reader_Get x0 x1 w K := by kernel_rfl

theorem call_ref01_Reader_Get (x0 x1 : Value) (w : World) (K : Value → World → Prop) (h : B_ref01_Reader_Get x0 x1 w K) : CALL Try.prog 62 #[x0, x1] w K :=
  call_of_eq (c := Try.f62.body.getD .skip) mixed Try.func62 (by kernel_rfl) (by kernel_rfl) (by kernel_rfl) (Nat.le_of_ble_eq_true (by kernel_rfl)) (eq_ref01_Reader_Get x0 x1 w K) h

/-- (*cellarage/cellarageref01.Reader).Text -/
def B_ref01_Reader_Text (x0 x1 : Value) (w : World) (K : Value → World → Prop) : Prop :=
  X Try.prog (nilS x0) w fun v1_9 w1 =>
  X Try.prog (Instr.fieldAt 57 v1_9 2) w1 fun v2_10 w2 =>
  X Try.prog (Instr.loadAt 30 v2_10) w2 fun v3_11 w3 =>
  X Try.prog (binOpG .neq 30 (.tmp 11) (.const (.int .i64 0)) v3_11 (.int .i64 0)) w3 fun v4_12 w4 =>
  condS v4_12 (
  K (.string { data := #[] }) w4) (
  ∃ R, Frame? R ∧
  XP Try.prog (nilS x0) (drewW w4) fun v5_14 w5 =>
  XP Try.prog (Instr.fieldAt 57 v5_14 0) w5 fun v6_15 w6 =>
  XR Try.prog R (Instr.loadAt 27 v6_15) w6 fun v7_16 w7 =>
  XP Try.prog (Builtin.len_ #[27] 3 #[v7_16]) w7 fun v8_17 w8 =>
  XP Try.prog (nilS x0) w8 fun v9_19 w9 =>
  XP Try.prog (Instr.fieldAt 57 v9_19 1) w9 fun v10_20 w10 =>
  XR Try.prog R (Instr.loadAt 3 v10_20) w10 fun v11_21 w11 =>
  XP Try.prog (binOp .sub 3 v8_17 v11_21) w11 fun v12_22 w12 =>
  XP Try.prog (binOp .sub 3 v12_22 (.int .i64 4)) w12 fun v13_23 w13 =>
  X Try.prog (binOp .lss 3 v13_23 (.int .i64 0)) w13 fun v14_25 w14 =>
  condS v14_25 (
  X Try.prog (nilS x0) w14 fun v15_27 w15 =>
  X Try.prog (Instr.fieldAt 57 v15_27 2) w15 fun v16_28 w16 =>
  XU Try.prog (Instr.storeAt 30 v16_28 (.int .i64 10)) w16 fun w17 =>
  K (.string { data := #[] }) w17) (
  X Try.prog (nilS x0) w14 fun v17_31 w18 =>
  X Try.prog (Instr.fieldAt 57 v17_31 1) w18 fun v18_32 w19 =>
  X Try.prog (Instr.loadAt 3 v18_32) w19 fun v19_33 w20 =>
  CALL Try.prog 130 #[x0, v19_33, (.int .i64 4)] w20 fun v20_34 w21 =>
  X Try.prog (Builtin.max_ #[3, 3] 3 #[x1, (.int .i64 0)]) w21 fun v21_37 w22 =>
  X Try.prog (convert 3 22 v21_37) w22 fun v22_38 w23 =>
  X Try.prog (binOp .gtr 22 v20_34 v22_38) w23 fun v23_39 w24 =>
  condS v23_39 (
  X Try.prog (nilS x0) w24 fun v24_41 w25 =>
  X Try.prog (Instr.fieldAt 57 v24_41 2) w25 fun v25_42 w26 =>
  XU Try.prog (Instr.storeAt 30 v25_42 (.int .i64 4)) w26 fun w27 =>
  K (.string { data := #[] }) w27) (
  X Try.prog (convert 3 22 v13_23) w24 fun v26_45 w28 =>
  X Try.prog (binOp .gtr 22 v20_34 v26_45) w28 fun v27_46 w29 =>
  condS v27_46 (
  X Try.prog (nilS x0) w29 fun v28_48 w30 =>
  X Try.prog (Instr.fieldAt 57 v28_48 2) w30 fun v29_49 w31 =>
  XU Try.prog (Instr.storeAt 30 v29_49 (.int .i64 10)) w31 fun w32 =>
  K (.string { data := #[] }) w32) (
  ∃ R, Frame? R ∧
  XP Try.prog (nilS x0) (drewW w29) fun v30_51 w33 =>
  XP Try.prog (Instr.fieldAt 57 v30_51 0) w33 fun v31_52 w34 =>
  XR Try.prog R (Instr.loadAt 27 v31_52) w34 fun v32_53 w35 =>
  XP Try.prog (nilS x0) w35 fun v33_55 w36 =>
  XP Try.prog (Instr.fieldAt 57 v33_55 1) w36 fun v34_56 w37 =>
  XR Try.prog R (Instr.loadAt 3 v34_56) w37 fun v35_57 w38 =>
  XP Try.prog (binOp .add 3 v35_57 (.int .i64 4)) w38 fun v36_58 w39 =>
  XP Try.prog (nilS x0) w39 fun v37_60 w40 =>
  XP Try.prog (Instr.fieldAt 57 v37_60 1) w40 fun v38_61 w41 =>
  XR Try.prog R (Instr.loadAt 3 v38_61) w41 fun v39_62 w42 =>
  XP Try.prog (binOp .add 3 v39_62 (.int .i64 4)) w42 fun v40_63 w43 =>
  XR Try.prog R (convert 22 3 v20_34) w43 fun v41_65 w44 =>
  XP Try.prog (binOp .add 3 v40_63 v41_65) w44 fun v42_66 w45 =>
  XP Try.prog (Instr.sliceAt 27 v32_53 (some v36_58) (some v42_66) none) w45 fun v43_67 w46 =>
  XR Try.prog R (convert 27 9 v43_67) w46 fun v44_68 w47 =>
  X Try.prog (nilS x0) w47 fun v45_71 w48 =>
  X Try.prog (Instr.fieldAt 57 v45_71 1) w48 fun v46_72 w49 =>
  X Try.prog (Instr.loadAt 3 v46_72) w49 fun v47_73 w50 =>
  X Try.prog (binOp .add 3 v47_73 (.int .i64 4)) w50 fun v48_74 w51 =>
  X Try.prog (convert 22 3 v20_34) w51 fun v49_76 w52 =>
  X Try.prog (binOp .add 3 v48_74 v49_76) w52 fun v50_77 w53 =>
  X Try.prog (nilS x0) w53 fun v51_78 w54 =>
  X Try.prog (Instr.fieldAt 57 v51_78 1) w54 fun v52_79 w55 =>
  XU Try.prog (Instr.storeAt 3 v52_79 v50_77) w55 fun w56 =>
  K v44_68 w56))))

theorem eq_ref01_Reader_Text (x0 x1 : Value) (w : World) (K : Value → World → Prop) :
    sh Try.prog (Try.f60.body.getD .skip) (retS Try.prog Try.f60.results K) (env0 #[x0, x1]) w = B_ref01_Reader_Text x0 x1 w K := by kernel_rfl

theorem call_ref01_Reader_Text (x0 x1 : Value) (w : World) (K : Value → World → Prop) (h : B_ref01_Reader_Text x0 x1 w K) : CALL Try.prog 60 #[x0, x1] w K :=
  call_of_eq (c := Try.f60.body.getD .skip) mixed Try.func60 (by kernel_rfl) (by kernel_rfl) (by kernel_rfl) (Nat.le_of_ble_eq_true (by kernel_rfl)) (eq_ref01_Reader_Text x0 x1 w K) h

/-- (*cellarage/cellarageref01.Reader).End -/
def B_ref01_Reader_End (x0 : Value) (w : World) (K : Value → World → Prop) : Prop :=
  ∃ R, Frame? R ∧
  XP Try.prog (nilS x0) (drewW w) fun v1_4 w1 =>
  XP Try.prog (Instr.fieldAt 57 v1_4 2) w1 fun v2_5 w2 =>
  XR Try.prog R (Instr.loadAt 30 v2_5) w2 fun v3_6 w3 =>
  XP Try.prog (binOpG .eql 30 (.tmp 6) (.const (.int .i64 0)) v3_6 (.int .i64 0)) w3 fun v4_7 w4 =>
  gstep v4_7 true (fun w5 K => K x0 w5) w4 fun v5_9 w6 =>
  gstep v4_7 true (fun w7 K => XP Try.prog (nilS v5_9) w7 K) w6 fun v6_10 w8 =>
  gstep v4_7 true (fun w9 K => XP Try.prog (Instr.fieldAt 57 v6_10 1) w9 K) w8 fun v7_11 w10 =>
  gstep v4_7 true (fun w11 K => XR Try.prog R (Instr.loadAt 3 v7_11) w11 K) w10 fun v8_12 w12 =>
  gstep v4_7 true (fun w13 K => K x0 w13) w12 fun v9_13 w14 =>
  gstep v4_7 true (fun w15 K => XP Try.prog (nilS v9_13) w15 K) w14 fun v10_14 w16 =>
  gstep v4_7 true (fun w17 K => XP Try.prog (Instr.fieldAt 57 v10_14 0) w17 K) w16 fun v11_15 w18 =>
  gstep v4_7 true (fun w19 K => XR Try.prog R (Instr.loadAt 27 v11_15) w19 K) w18 fun v12_16 w20 =>
  gstep v4_7 true (fun w21 K => XP Try.prog (Builtin.len_ #[27] 3 #[v12_16]) w21 K) w20 fun v13_17 w22 =>
  gstep v4_7 true (fun w23 K => XP Try.prog (binOp .lss 3 v8_12 v13_17) w23 K) w22 fun v14_18 w24 =>
  XP Try.prog (pickS v4_7 v14_18 (.bool false)) w24 fun v15_19 w25 =>
  condS v15_19 (
  K (.int .i64 11) w25) (
  X Try.prog (nilS x0) w25 fun v16_21 w26 =>
  X Try.prog (Instr.fieldAt 57 v16_21 2) w26 fun v17_22 w27 =>
  X Try.prog (Instr.loadAt 30 v17_22) w27 fun v18_23 w28 =>
  K v18_23 w28)

theorem eq_ref01_Reader_End (x0 : Value) (w : World) (K : Value → World → Prop) :
    sh Try.prog (Try.f66.body.getD .skip) (retS Try.prog Try.f66.results K) (env0 #[x0]) w = B_ref01_Reader_End x0 w K := by kernel_rfl

theorem call_ref01_Reader_End (x0 : Value) (w : World) (K : Value → World → Prop) (h : B_ref01_Reader_End x0 w K) : CALL Try.prog 66 #[x0] w K :=
  call_of_eq (c := Try.f66.body.getD .skip) mixed Try.func66 (by kernel_rfl) (by kernel_rfl) (by kernel_rfl) (Nat.le_of_ble_eq_true (by kernel_rfl)) (eq_ref01_Reader_End x0 w K) h

end Go.Proofs.Ytggggfcgnkllgaa
