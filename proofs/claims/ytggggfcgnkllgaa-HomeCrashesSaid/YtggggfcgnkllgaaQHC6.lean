/- Part 6 of what the law is proved with: T11 Vault3 RowK ArgSl Acts Does CrcNum T2 Crc Crc2. -/
import Derived.Lib.ConvBytes
import Derived.Test.YtggggfcgnkllgaaQHC5
section
set_option linter.unusedVariables false
namespace Go.Proofs.Ytggggfcgnkllgaa
open Go Go.Sh
attribute [local irreducible] X XU XP XR CALL loopS resC closS
/-- cellarage/cellarageref12.New -/
def B_ref12_New (x0 x1 x2 x3 : Value) (w : World) (K : Value → World → Prop) : Prop :=
  X Try.prog (Instr.alloc 138 true (.tuple #[])) w fun v1_8 w1 =>
  X Try.prog (nilS x0) w1 fun v2_12 w2 =>
  X Try.prog (Instr.fieldAt 148 v2_12 0) w2 fun v3_13 w3 =>
  X Try.prog (Instr.loadAt 66 v3_13) w3 fun v4_14 w4 =>
  X Try.prog (Builtin.len_ #[66] 3 #[v4_14]) w4 fun v5_15 w5 =>
  X Try.prog (binOp .lss 3 x1 (.int .i64 0)) w5 fun v6_17 w6 =>
  gstep v6_17 false (fun w7 K => K x2 w7) w6 fun v7_19 w8 =>
  gstep v6_17 false (fun w9 K => X Try.prog (binOp .lss 3 v7_19 (.int .i64 1)) w9 K) w8 fun v8_20 w10 =>
  X Try.prog (pickS v6_17 (.bool true) v8_20) w10 fun v9_21 w11 =>
  gstep v9_21 false (fun w12 K => K x2 w12) w11 fun v10_23 w13 =>
  gstep v9_21 false (fun w14 K => X Try.prog (binOp .gtr 3 v10_23 (.int .i64 16384)) w14 K) w13 fun v11_24 w15 =>
  X Try.prog (pickS v9_21 (.bool true) v11_24) w15 fun v12_25 w16 =>
  gstep v12_25 false (fun w17 K => K x3 w17) w16 fun v13_27 w18 =>
  gstep v12_25 false (fun w19 K => X Try.prog (binOp .lss 3 v13_27 (.int .i64 0)) w19 K) w18 fun v14_28 w20 =>
  X Try.prog (pickS v12_25 (.bool true) v14_28) w20 fun v15_29 w21 =>
  gstep v15_29 false (fun w22 K => K x1 w22) w21 fun v16_31 w23 =>
  gstep v15_29 false (fun w24 K => K v5_15 w24) w23 fun v17_32 w25 =>
  gstep v15_29 false (fun w26 K => X Try.prog (binOp .gtr 3 v16_31 v17_32) w26 K) w25 fun v18_33 w27 =>
  X Try.prog (pickS v15_29 (.bool true) v18_33) w27 fun v19_34 w28 =>
  gstep v19_34 false (fun w29 K => K x3 w29) w28 fun v20_36 w30 =>
  gstep v19_34 false (fun w31 K => K v5_15 w31) w30 fun v21_37 w32 =>
  gstep v19_34 false (fun w33 K => K x1 w33) w32 fun v22_38 w34 =>
  gstep v19_34 false (fun w35 K => X Try.prog (binOp .sub 3 v21_37 v22_38) w35 K) w34 fun v23_39 w36 =>
  gstep v19_34 false (fun w37 K => K x2 w37) w36 fun v24_40 w38 =>
  gstep v19_34 false (fun w39 K => X Try.prog (binOp .quo 3 v23_39 v24_40) w39 K) w38 fun v25_41 w40 =>
  gstep v19_34 false (fun w41 K => X Try.prog (binOp .gtr 3 v20_36 v25_41) w41 K) w40 fun v26_42 w42 =>
  X Try.prog (pickS v19_34 (.bool true) v26_42) w42 fun v27_43 w43 =>
  condS v27_43 (
  X Try.prog (Instr.build 138 #[]) w43 fun v28_44 w44 =>
  XU Try.prog (Instr.storeAt 138 v1_8 v28_44) w44 fun w45 =>
  resC Try.prog 138 v1_8 w45 fun r0 =>
  K (.tuple #[r0, (.int .i64 1)]) w45) (
  X Try.prog (Instr.build 138 #[(0, x0), (1, x1), (2, x2), (3, x3)]) w43 fun v29_49 w46 =>
  XU Try.prog (Instr.storeAt 138 v1_8 v29_49) w46 fun w47 =>
  resC Try.prog 138 v1_8 w47 fun r0 =>
  K (.tuple #[r0, (.int .i64 0)]) w47)

theorem eq_ref12_New (x0 x1 x2 x3 : Value) (w : World) (K : Value → World → Prop) :
    sh Try.prog (Try.f104.body.getD .skip) (retS Try.prog Try.f104.results K) (env0 #[x0, x1, x2, x3]) w = B_ref12_New x0 x1 x2 x3 w K := by kernel_rfl

theorem call_ref12_New (x0 x1 x2 x3 : Value) (w : World) (K : Value → World → Prop) (h : B_ref12_New x0 x1 x2 x3 w K) : CALL Try.prog 104 #[x0, x1, x2, x3] w K :=
  call_of_eq (c := Try.f104.body.getD .skip) mixed Try.func104 (by kernel_rfl) (by kernel_rfl) (by kernel_rfl) (Nat.le_of_ble_eq_true (by kernel_rfl)) (eq_ref12_New x0 x1 x2 x3 w K) h

/-- (cellarage/cellarageref12.Vault).Room -/
def B_ref12_Vault_Room (x0 : Value) (w : World) (K : Value → World → Prop) : Prop :=
  X Try.prog (Instr.box 138 x0) w fun v1_1 w1 =>
  X Try.prog (Instr.fieldAt 138 v1_1 2) w1 fun v2_3 w2 =>
  X Try.prog (Instr.loadAt 3 v2_3) w2 fun v3_4 w3 =>
  X Try.prog (binOp .mul 3 (.int .i64 128) v3_4) w3 fun v4_5 w4 =>
  X Try.prog (binOp .sub 3 v4_5 (.int .i64 4)) w4 fun v5_6 w5 =>
  K v5_6 w5

theorem eq_ref12_Vault_Room (x0 : Value) (w : World) (K : Value → World → Prop) :
    sh Try.prog (Try.f105.body.getD .skip) (retS Try.prog Try.f105.results K) (env0 #[x0]) w = B_ref12_Vault_Room x0 w K := by kernel_rfl

theorem call_ref12_Vault_Room (x0 : Value) (w : World) (K : Value → World → Prop) (h : B_ref12_Vault_Room x0 w K) : CALL Try.prog 105 #[x0] w K :=
  call_of_eq (c := Try.f105.body.getD .skip) mixed Try.func105 (by kernel_rfl) (by kernel_rfl) (by kernel_rfl) (Nat.le_of_ble_eq_true (by kernel_rfl)) (eq_ref12_Vault_Room x0 w K) h

/-- (cellarage/cellarageref12.Vault).Put -/
def B_ref12_Vault_Put (x0 x1 x2 : Value) (w : World) (K : Value → World → Prop) : Prop :=
  X Try.prog (Instr.box 138 x0) w fun v1_3 w1 =>
  X Try.prog (binOp .lss 3 x1 (.int .i64 0)) w1 fun v2_11 w2 =>
  gstep v2_11 false (fun w3 K => K x1 w3) w2 fun v3_13 w4 =>
  gstep v2_11 false (fun w5 K => X Try.prog (Instr.fieldAt 138 v1_3 3) w5 K) w4 fun v4_14 w6 =>
  gstep v2_11 false (fun w7 K => X Try.prog (Instr.loadAt 3 v4_14) w7 K) w6 fun v5_15 w8 =>
  gstep v2_11 false (fun w9 K => X Try.prog (binOp .geq 3 v3_13 v5_15) w9 K) w8 fun v6_16 w10 =>
  X Try.prog (pickS v2_11 (.bool true) v6_16) w10 fun v7_17 w11 =>
  condS v7_17 (
  K (.int .i64 1) w11) (
  X Try.prog (Builtin.len_ #[9] 3 #[x2]) w11 fun v8_19 w12 =>
  X Try.prog (Instr.loadAt 138 v1_3) w12 fun v9_20 w13 =>
  CALL Try.prog 105 #[v9_20] w13 fun v10_21 w14 =>
  X Try.prog (binOp .gtr 3 v8_19 v10_21) w14 fun v11_22 w15 =>
  condS v11_22 (
  K (.int .i64 4) w15) (
  X Try.prog (Builtin.len_ #[9] 3 #[x2]) w15 fun v12_24 w16 =>
  X Try.prog (convert 3 22 v12_24) w16 fun v13_25 w17 =>
  CALL Try.prog 125 #[v13_25, (.int .i64 4)] w17 fun v14_26 w18 =>
  X Try.prog (convert 27 9 v14_26) w18 fun v15_27 w19 =>
  X Try.prog (binOp .add 9 v15_27 x2) w19 fun v16_29 w20 =>
  loopS (fun Q1 ρ1 w21 =>
  X Try.prog (Builtin.len_ #[9] 3 #[(ρ1 7)]) w21 fun v17_32 w22 =>
  X Try.prog (binOp .lss 3 (ρ1 8) v17_32) w22 fun v18_33 w23 =>
  condS v18_33 (
  ∃ R, Frame? R ∧
  XP Try.prog (Instr.fieldAt 138 (ρ1 3) 0) (drewW w23) fun v19_36 w24 =>
  XR Try.prog R (Instr.loadAt 92 v19_36) w24 fun v20_37 w25 =>
  XP Try.prog (Instr.fieldAt 138 (ρ1 3) 1) w25 fun v21_38 w26 =>
  XR Try.prog R (Instr.loadAt 3 v21_38) w26 fun v22_39 w27 =>
  XP Try.prog (Instr.fieldAt 138 (ρ1 3) 2) w27 fun v23_41 w28 =>
  XR Try.prog R (Instr.loadAt 3 v23_41) w28 fun v24_42 w29 =>
  XP Try.prog (binOp .mul 3 (ρ1 1) v24_42) w29 fun v25_43 w30 =>
  XP Try.prog (binOp .add 3 v22_39 v25_43) w30 fun v26_44 w31 =>
  XP Try.prog (binOp .quo 3 (ρ1 8) (.int .i64 128)) w31 fun v27_46 w32 =>
  XP Try.prog (binOp .add 3 v26_44 v27_46) w32 fun v28_47 w33 =>
  XP Try.prog (Builtin.len_ #[9] 3 #[(ρ1 7)]) w33 fun v29_51 w34 =>
  XP Try.prog (binOp .add 3 (ρ1 8) (.int .i64 128)) w34 fun v30_53 w35 =>
  XP Try.prog (Builtin.min_ #[3, 3] 3 #[v29_51, v30_53]) w35 fun v31_54 w36 =>
  XP Try.prog (Instr.sliceAt 9 (ρ1 7) (some (ρ1 8)) (some v31_54) none) w36 fun v32_55 w37 =>
  CALL Try.prog 109 #[v20_37, v28_47, v32_55] w37 fun v33_56 w38 =>
  R w37 w38 ∧
  X Try.prog (binOpG .neq 30 (.tmp 57) (.const (.int .i64 0)) v33_56 (.int .i64 0)) w38 fun v34_58 w39 =>
  condS v34_58 (
  Q1 .ret (upds ρ1 [(6, v33_56), (59, v33_56), (58, v34_58), (57, v33_56), (9, v33_56), (56, v33_56), (55, v32_55), (54, v31_54), (53, v30_53), (52, (ρ1 8)), (51, v29_51), (50, (ρ1 7)), (49, (ρ1 8)), (48, (ρ1 7)), (47, v28_47), (46, v27_46), (45, (ρ1 8)), (44, v26_44), (43, v25_43), (42, v24_42), (41, v23_41), (40, (ρ1 1)), (39, v22_39), (38, v21_38), (37, v20_37), (36, v19_36), (33, v18_33), (32, v17_32), (31, (ρ1 7)), (30, (ρ1 8))]) w39) (
  X Try.prog (binOp .add 3 (ρ1 8) (.int .i64 128)) w39 fun v35_35 w40 =>
  Q1 .normal (upds ρ1 [(8, v35_35), (35, v35_35), (34, (ρ1 8)), (58, v34_58), (57, v33_56), (9, v33_56), (56, v33_56), (55, v32_55), (54, v31_54), (53, v30_53), (52, (ρ1 8)), (51, v29_51), (50, (ρ1 7)), (49, (ρ1 8)), (48, (ρ1 7)), (47, v28_47), (46, v27_46), (45, (ρ1 8)), (44, v26_44), (43, v25_43), (42, v24_42), (41, v23_41), (40, (ρ1 1)), (39, v22_39), (38, v21_38), (37, v20_37), (36, v19_36), (33, v18_33), (32, v17_32), (31, (ρ1 7)), (30, (ρ1 8))]) w40)) (
  Q1 (.exit 0) (upds ρ1 [(33, v18_33), (32, v17_32), (31, (ρ1 7)), (30, (ρ1 8))]) w23)) (inBlockS 0 (thenS (fun ρ2 w41 =>
  K (.int .i64 0) w41) (retS Try.prog (Try.f107).results K))) (upds (env0 #[x0, x1, x2]) [(8, (.int .i64 0)), (7, v16_29), (29, v16_29), (28, x2), (27, v15_27), (26, v14_26), (25, v13_25), (24, v12_24), (23, x2), (22, v11_22), (21, v10_21), (20, v9_20), (19, v8_19), (18, x2), (17, v7_17), (16, v6_16), (15, v5_15), (14, v4_14), (13, v3_13), (12, v2_11), (11, v2_11), (10, x1), (6, (.int .i64 0)), (3, v1_3)]) w20))

theorem eq_ref12_Vault_Put (x0 x1 x2 : Value) (w : World) (K : Value → World → Prop) :
    sh Try.prog (Try.f107.body.getD .skip) (retS Try.prog Try.f107.results K) (env0 #[x0, x1, x2]) w = B_ref12_Vault_Put x0 x1 x2 w K := by kernel_rfl

theorem call_ref12_Vault_Put (x0 x1 x2 : Value) (w : World) (K : Value → World → Prop) (h : B_ref12_Vault_Put x0 x1 x2 w K) : CALL Try.prog 107 #[x0, x1, x2] w K :=
  call_of_eq (c := Try.f107.body.getD .skip) mixed Try.func107 (by kernel_rfl) (by kernel_rfl) (by kernel_rfl) (Nat.le_of_ble_eq_true (by kernel_rfl)) (eq_ref12_Vault_Put x0 x1 x2 w K) h

/-- (cellarage/cellarageref12.Vault).Get -/
def B_ref12_Vault_Get (x0 x1 : Value) (w : World) (K : Value → World → Prop) : Prop :=
  X Try.prog (Instr.box 138 x0) w fun v1_2 w1 =>
  X Try.prog (binOp .lss 3 x1 (.int .i64 0)) w1 fun v2_13 w2 =>
  gstep v2_13 false (fun w3 K => K x1 w3) w2 fun v3_15 w4 =>
  gstep v2_13 false (fun w5 K => X Try.prog (Instr.fieldAt 138 v1_2 3) w5 K) w4 fun v4_16 w6 =>
  gstep v2_13 false (fun w7 K => X Try.prog (Instr.loadAt 3 v4_16) w7 K) w6 fun v5_17 w8 =>
  gstep v2_13 false (fun w9 K => X Try.prog (binOp .geq 3 v3_15 v5_17) w9 K) w8 fun v6_18 w10 =>
  X Try.prog (pickS v2_13 (.bool true) v6_18) w10 fun v7_19 w11 =>
  condS v7_19 (
  K (.tuple #[(.string { data := #[] }), (.int .i64 1)]) w11) (
  loopS (fun Q1 ρ1 w12 =>
  X Try.prog (Instr.fieldAt 138 (ρ1 2) 2) w12 fun v8_21 w13 =>
  X Try.prog (Instr.loadAt 3 v8_21) w13 fun v9_22 w14 =>
  X Try.prog (binOp .lss 3 (ρ1 7) v9_22) w14 fun v10_23 w15 =>
  condS v10_23 (
  X Try.prog (Instr.fieldAt 138 (ρ1 2) 0) w15 fun v11_27 w16 =>
  X Try.prog (Instr.loadAt 92 v11_27) w16 fun v12_28 w17 =>
  X Try.prog (Instr.fieldAt 138 (ρ1 2) 1) w17 fun v13_29 w18 =>
  X Try.prog (Instr.loadAt 3 v13_29) w18 fun v14_30 w19 =>
  X Try.prog (Instr.fieldAt 138 (ρ1 2) 2) w19 fun v15_32 w20 =>
  X Try.prog (Instr.loadAt 3 v15_32) w20 fun v16_33 w21 =>
  X Try.prog (binOp .mul 3 (ρ1 1) v16_33) w21 fun v17_34 w22 =>
  X Try.prog (binOp .add 3 v14_30 v17_34) w22 fun v18_35 w23 =>
  X Try.prog (binOp .add 3 v18_35 (ρ1 7)) w23 fun v19_37 w24 =>
  CALL Try.prog 113 #[v12_28, v19_37] w24 fun v20_38 w25 =>
  X Try.prog (Instr.extract v20_38 0) w25 fun v21_39 w26 =>
  X Try.prog (Instr.extract v20_38 1) w26 fun v22_40 w27 =>
  X Try.prog (binOpG .neq 30 (.tmp 41) (.const (.int .i64 0)) v22_40 (.int .i64 0)) w27 fun v23_42 w28 =>
  condS v23_42 (
  Q1 .ret (upds ρ1 [(5, v22_40), (4, (.string { data := #[] })), (43, v22_40), (42, v23_42), (41, v22_40), (9, v22_40), (8, v21_39), (40, v22_40), (39, v21_39), (26, v20_38), (38, v20_38), (37, v19_37), (36, (ρ1 7)), (35, v18_35), (34, v17_34), (33, v16_33), (32, v15_32), (31, (ρ1 1)), (30, v14_30), (29, v13_29), (28, v12_28), (27, v11_27), (23, v10_23), (22, v9_22), (21, v8_21), (20, (ρ1 7))]) w28) (
  X Try.prog (binOp .add 9 (ρ1 6) v21_39) w28 fun v24_46 w29 =>
  X Try.prog (binOp .add 3 (ρ1 7) (.int .i64 1)) w29 fun v25_25 w30 =>
  Q1 .normal (upds ρ1 [(7, v25_25), (25, v25_25), (24, (ρ1 7)), (6, v24_46), (46, v24_46), (45, v21_39), (44, (ρ1 6)), (42, v23_42), (41, v22_40), (9, v22_40), (8, v21_39), (40, v22_40), (39, v21_39), (26, v20_38), (38, v20_38), (37, v19_37), (36, (ρ1 7)), (35, v18_35), (34, v17_34), (33, v16_33), (32, v15_32), (31, (ρ1 1)), (30, v14_30), (29, v13_29), (28, v12_28), (27, v11_27), (23, v10_23), (22, v9_22), (21, v8_21), (20, (ρ1 7))]) w30)) (
  Q1 (.exit 0) (upds ρ1 [(23, v10_23), (22, v9_22), (21, v8_21), (20, (ρ1 7))]) w15)) (inBlockS 0 (thenS (fun ρ2 w31 =>
  X Try.prog (convert 9 27 (ρ2 6)) w31 fun v26_48 w32 =>
  X Try.prog (Instr.build 57 #[(0, v26_48)]) w32 fun v27_49 w33 =>
  X Try.prog (Instr.alloc 57 true (.tuple #[])) w33 fun v28_10 w34 =>
  XU Try.prog (Instr.storeAt 57 v28_10 v27_49) w34 fun w35 =>
  CALL Try.prog 62 #[v28_10, (.int .i64 4)] w35 fun v29_50 w36 =>
  X Try.prog (Instr.loadAt 138 (ρ2 2)) w36 fun v30_52 w37 =>
  CALL Try.prog 105 #[v30_52] w37 fun v31_53 w38 =>
  X Try.prog (convert 3 22 v31_53) w38 fun v32_54 w39 =>
  X Try.prog (binOp .gtr 22 v29_50 v32_54) w39 fun v33_55 w40 =>
  condS v33_55 (
  K (.tuple #[(.string { data := #[] }), (.int .i64 110)]) w40) (
  X Try.prog (binOp .add 22 (.int .u64 4) v29_50) w40 fun v34_58 w41 =>
  X Try.prog (Instr.sliceAt 9 (ρ2 6) (some (.int .i64 4)) (some v34_58) none) w41 fun v35_59 w42 =>
  K (.tuple #[v35_59, (.int .i64 0)]) w42)) (retS Try.prog (Try.f108).results K))) (upds (env0 #[x0, x1]) [(7, (.int .i64 0)), (6, (.string { data := #[] })), (19, v7_19), (18, v6_18), (17, v5_17), (16, v4_16), (15, v3_15), (14, v2_13), (13, v2_13), (12, x1), (5, (.int .i64 0)), (4, (.string { data := #[] })), (2, v1_2)]) w11)

theorem eq_ref12_Vault_Get (x0 x1 : Value) (w : World) (K : Value → World → Prop) :
    sh Try.prog (Try.f108.body.getD .skip) (retS Try.prog Try.f108.results K) (env0 #[x0, x1]) w = B_ref12_Vault_Get x0 x1 w K := by kernel_rfl

theorem call_ref12_Vault_Get (x0 x1 : Value) (w : World) (K : Value → World → Prop) (h : B_ref12_Vault_Get x0 x1 w K) : CALL Try.prog 108 #[x0, x1] w K :=
  call_of_eq (c := Try.f108.body.getD .skip) mixed Try.func108 (by kernel_rfl) (by kernel_rfl) (by kernel_rfl) (Nat.le_of_ble_eq_true (by kernel_rfl)) (eq_ref12_Vault_Get x0 x1 w K) h

end Go.Proofs.Ytggggfcgnkllgaa
end
section
/- cellaragelaw12's reference vault. -/
set_option linter.unusedSimpArgs false
set_option linter.unusedVariables false
namespace Go.Proofs.Ytggggfcgnkllgaa
open Go Go.Sh Go.RowKit
attribute [local irreducible] X XU XP XR CALL loopS resC closS
/-- Bytes of a text. -/
theorem X_bytes {P : Program} {src dst e : TypeId} {u : TypeDesc} {w : World} {K : Value → World → Prop} (hs : P.underlying src = some u) (hd : P.underlying dst = some (.slice e)) (he : P.underlying e = some (.int .u8)) {l : List UInt8} (hl : l.length ≤ 9223372036854775807)
    (h : ∀ v w1, Ext w w1 → Bts w1 v l → (∀ k, v.ownBlock = some k → w.heap.size ≤ k ∧ k < w1.heap.size) → K v w1) : X P (convert src dst (.string (str l))) w K := by
  refine X_of (Lib.run_convert_string_bytes w src dst e (str l) hs hd he) ?_
  have hsz : (str l).size = l.length := str_size l
  have hge := grownCap_ge w (str l).size 0 e
  have hle := grownCap_le_maxLen w (str l).size 0 e (by rw [hsz]; simpa [maxLen] using hl)
  simp only [maxLen] at hle
  refine h _ _ ⟨rfl, rfl, rfl, by rw [Lib.bytesWorld_size]; omega, fun i hi _ => Lib.bytesWorld_at_old w e (str l) i hi⟩ ?_ (fun k hk => ?_)
  · rw [hsz] at hge hle ⊢
    refine ⟨_, _, rfl, hge, by omega, fun _ => ⟨_, rfl, fun j u hj => ?_⟩⟩
    have hj' := (List.getElem?_eq_some_iff.1 hj).1
    rw [add_plain, Nat.zero_add, Lib.bytesWorld_cell w e (str l) j (by rw [hsz]; exact hj')]
    have : (str l).data.toList.getD j 0 = u := by
      show l.getD j 0 = u
      rw [List.getD_eq_getElem?_getD, hj]
      rfl
    rw [this]
  · have e1 : w.heap.size = k := by injection hk
    rw [Lib.bytesWorld_size]
    omega
theorem RefAt.notin {w : World} {b : Nat} {d : Dk} (h : RefAt w b d) {q : Nat} {cs : Array Value} {T : TypeId} {fr : Nat × Nat} (hq : w.heap[q]? = some (.cells cs T fr)) (h1 : T ≠ 148) (h2 : T ≠ 9) (h3 : T ≠ 200) : ¬ Go.Sh.foot w b q := fun hf => by
  obtain ⟨_, sv, pv, h⟩ := h
  rcases h.foot.1 hf with h' | h' | h'
  · subst h'
    rw [h.blk] at hq
    injection hq with hq
    injection hq with _ hq
    exact h1 hq.symm
  · exact own_neT h.safe hq h2 h'
  · exact own_neT h.ws hq h3 h'
def Vt.cs (v : Vt) (b : Nat) : List Value := [ptr b, .int .i64 (v.fm : Int), .int .i64 (v.each : Int), .int .i64 (v.n : Int)]
abbrev Vt.rv (v : Vt) (b : Nat) : Value := .agg (Vt.cs v b).toArray
theorem Vt.cs_one (v : Vt) (b : Nat) : ∀ x ∈ Vt.cs v b, x.oneCell' = true := by
  intro x hx
  simp only [Vt.cs, List.mem_cons, List.not_mem_nil, or_false] at hx
  rcases hx with rfl | rfl | rfl | rfl <;> rfl
theorem run_build_138 (p : Option Addr) (x y z : Int) (w : World) : (Instr.build 138 #[(0, .pointer p), (1, .int .i64 x), (2, .int .i64 y), (3, .int .i64 z)]).run Try.prog w = .ok (.agg #[.pointer p, .int .i64 x, .int .i64 y, .int .i64 z]) w := by kernel_rfl
theorem run_build_138z (w : World) : (Instr.build 138 #[]).run Try.prog w = .ok (.agg #[.pointer none, .int .i64 0, .int .i64 0, .int .i64 0]) w := by kernel_rfl
theorem run_cutstr {P : Program} {T : TypeId} (hT : P.underlying T = some .string) (l : List UInt8) (k k' : IntKind) (lo n : Nat) (h0 : lo ≤ n) (h : n ≤ l.length) (w : World) : (Instr.sliceAt T (.string (str l)) (some (.int k (lo : Int))) (some (.int k' (n : Int))) none).run P w = .ok (.string (str ((l.take n).drop lo))) w := by
  have h' : n ≤ (str l).size := by rw [str_size]; exact h
  simp [Instr.sliceAt, Instr.slice, run_underlying hT, Instr.sliceBounds, Instr.sliceBound, asIntOf, h0, h, h', extract_str, str_size]
section
variable {w : World} {b : Nat} {d : Dk} {v : Vt} {K : Value → World → Prop}
theorem RVNew_spec {fm each n : Int} (hd : RefAt w b d) (hb1 : -9223372036854775808 ≤ fm ∧ fm ≤ 9223372036854775807)
    (h0 : vnew d.safe.length fm each n = none → ∀ w1, Ext w w1 → K (.tuple #[.agg [.pointer none, .int .i64 0, .int .i64 0, .int .i64 0].toArray, i64v 1]) w1)
    (h1 : ∀ v, vnew d.safe.length fm each n = some v → ∀ w1, Ext w w1 → K (.tuple #[Vt.rv v b, i64v 0]) w1) : CALL Try.prog 104 #[ptr b, i64v fm, i64v each, i64v n] w K := by
  have hsz : d.safe.length ≤ 16384 := hd.1.2.2.1
  apply call_ref12_New
  unfold B_ref12_New
  refine X_alloc zero_138 ?_
  have hq := newB_get w #[(.pointer none), (.int .i64 0), (.int .i64 0), (.int .i64 0)] 138
  have hx := newB_ext w #[(.pointer none), (.int .i64 0), (.int .i64 0), (.int .i64 0)] 138
  show X _ (nilS (ptr b)) (newB w #[(.pointer none), (.int .i64 0), (.int .i64 0), (.int .i64 0)] 138) _
  generalize newB w #[(.pointer none), (.int .i64 0), (.int .i64 0), (.int .i64 0)] 138 = w1 at hq hx ⊢
  obtain ⟨okd, sv, pv, hr⟩ := hd.ext hx
  obtain ⟨as_, cs_, es⟩ := own_sl hr.safe
  simp only [X_nilS, X_field_148_0]
  refine X_loadL agg_66 hr.blk (v := sv) rfl ?_
  rw [es]
  simp only [X_len_66, X_lss]
  have fin0 : ∀ (h : vnew d.safe.length fm each n = none), X Try.prog (Instr.build 138 #[]) w1 fun v28 w44 => XU Try.prog (Instr.storeAt 138 (.pointer (some ⟨w.heap.size, 0, none⟩)) v28) w44 fun w45 => resC Try.prog 138 (.pointer (some ⟨w.heap.size, 0, none⟩)) w45 fun r0 => K (.tuple #[r0, (.int .i64 1)]) w45 := by
    intro h
    refine X_of (run_build_138z _) ?_
    refine XU_storeAgg (l := [.pointer none, .int .i64 0, .int .i64 0, .int .i64 0]) info_138 hq (by rw [sz_138]; rfl) (by rw [sz_138]; rfl) (by intro x hx; simp at hx; rcases hx with rfl | rfl | rfl | rfl <;> rfl) ?_
    refine resC_agg Try.underlying138 agg_138 info_138 (setAt_same (lt_of_blk hq)) (by rw [sz_138]; rfl) ?_
    exact h0 h _ (Ext.seq hx (setAt_keep _ _ _ _ _) (fun j hj => by omega))
  have bad : (fm < 0 ∨ each < 1 ∨ 16384 < each ∨ n < 0 ∨ (d.safe.length : Int) < fm ∨ ((d.safe.length : Int) - fm) / each < n) → vnew d.safe.length fm each n = none := fun h => by unfold vnew; rw [if_pos h]
  by_cases c1 : fm < 0
  · have e1 : decide (fm < 0) = true := by simpa using c1
    simp only [e1, GS]
    exact fin0 (bad (.inl c1))
  have e1 : decide (fm < 0) = false := by simpa using c1
  simp only [e1, GS, X_lss]
  by_cases c2 : each < 1
  · have e2 : decide (each < 1) = true := by simpa using c2
    simp only [e2, GS]
    exact fin0 (bad (.inr (.inl c2)))
  have e2 : decide (each < 1) = false := by simpa using c2
  simp only [e2, GS, X_gtr]
  by_cases c3 : 16384 < each
  · have e3 : decide (each > 16384) = true := by simpa using c3
    simp only [e3, GS]
    exact fin0 (bad (.inr (.inr (.inl c3))))
  have e3 : decide (each > 16384) = false := by simpa using c3
  simp only [e3, GS, X_lss]
  by_cases c4 : n < 0
  · have e4 : decide (n < 0) = true := by simpa using c4
    simp only [e4, GS]
    exact fin0 (bad (.inr (.inr (.inr (.inl c4)))))
  have e4 : decide (n < 0) = false := by simpa using c4
  simp only [e4, GS, X_gtr]
  by_cases c5 : (d.safe.length : Int) < fm
  · have e5 : decide (fm > (d.safe.length : Int)) = true := by simpa using c5
    simp only [e5, GS]
    exact fin0 (bad (.inr (.inr (.inr (.inr (.inl c5))))))
  have e5 : decide (fm > (d.safe.length : Int)) = false := by simpa using c5
  simp only [e5, GS]
  rw [X_sub, w64 (by omega) (by omega)]
  have hq0 : 0 ≤ ((d.safe.length : Int) - fm) / each := Int.ediv_nonneg (by omega) (by omega)
  have hq1 : ((d.safe.length : Int) - fm) / each ≤ (d.safe.length : Int) - fm := Int.ediv_le_self _ (by omega)
  refine X_of (run_quo 3 .i64 _ _ (by omega) _) ?_
  rw [tdiv_ediv (by omega), w64 (by omega) (by omega), X_gtr, condS_bool]
  by_cases c6 : ((d.safe.length : Int) - fm) / each < n
  · rw [if_pos (by simpa using c6)]
    exact fin0 (bad (.inr (.inr (.inr (.inr (.inr c6))))))
  rw [if_neg (by simpa using c6)]
  have hv : vnew d.safe.length fm each n = some ⟨fm.toNat, each.toNat, n.toNat⟩ := by unfold vnew; rw [if_neg (by omega)]
  refine X_of (run_build_138 _ _ _ _ _) ?_
  have ecs : [ptr b, Value.int .i64 fm, .int .i64 each, .int .i64 n] = Vt.cs ⟨fm.toNat, each.toNat, n.toNat⟩ b := by
    show _ = [ptr b, Value.int .i64 ((fm.toNat : Nat) : Int), .int .i64 ((each.toNat : Nat) : Int), .int .i64 ((n.toNat : Nat) : Int)]
    rw [Int.toNat_of_nonneg (by omega), Int.toNat_of_nonneg (by omega), Int.toNat_of_nonneg (by omega)]
  show XU _ (Instr.storeAt 138 _ (.agg [ptr b, Value.int .i64 fm, .int .i64 each, .int .i64 n].toArray)) _ _
  rw [ecs]
  refine XU_storeAgg info_138 hq (by rw [sz_138]; rfl) (by rw [sz_138]; rfl) (Vt.cs_one _ _) ?_
  refine resC_agg Try.underlying138 agg_138 info_138 (setAt_same (lt_of_blk hq)) (by rw [sz_138]; rfl) ?_
  exact h1 _ hv _ (Ext.seq hx (setAt_keep _ _ _ _ _) (fun j hj => by omega))
theorem RVRoom_spec {size : Nat} (ok : v.ok size) (hK : ∀ w1, Ext w w1 → K (i64v (v.room : Int)) w1) : CALL Try.prog 105 #[Vt.rv v b] w K := by
  obtain ⟨h1, h2, h3, h4⟩ := ok
  apply call_ref12_Vault_Room
  unfold B_ref12_Vault_Room
  refine X_box ?_
  have hq := newB_get w (Vt.cs v b).toArray 138
  have hx := newB_ext w (Vt.cs v b).toArray 138
  simp only [X_field_138_2]
  refine X_loadL agg_3 hq (v := .int .i64 (v.each : Int)) rfl ?_
  rw [X_mul, w64 (by omega) (by omega), X_sub, w64 (by omega) (by omega)]
  have e : 128 * (v.each : Int) - 4 = (v.room : Int) := by unfold Vt.room; omega
  rw [e]
  exact hK _ hx
theorem RVPut_spec {at_ : Int} {bs : List UInt8} (hd : RefAt w b d) (ok : v.ok d.safe.length) (hws : d.ws.length + bs.length + 4 ≤ 900000)
    (hK : ∀ w1, RefAt w1 b (vput v d at_ bs).1 → Step b w w1 → K (i64v (vput v d at_ bs).2) w1) : CALL Try.prog 107 #[Vt.rv v b, i64v at_, .string (str bs)] w K := by
  have hb_lt := hd.lt b (foot_self _ _)
  obtain ⟨ok1, ok2, ok3, ok4⟩ := id ok
  apply call_ref12_Vault_Put
  unfold B_ref12_Vault_Put
  refine X_box ?_
  have hq := newB_get w (Vt.cs v b).toArray 138
  have hx := newB_ext w (Vt.cs v b).toArray 138
  show X _ (binOp .lss 3 (i64v at_) _) (newB w (Vt.cs v b).toArray 138) _
  generalize newB w (Vt.cs v b).toArray 138 = w1 at hq hx ⊢
  have hd1 := hd.ext hx
  have s1 : Step b w w1 := Step.ext hx hb_lt
  have bad : (at_ < 0 ∨ (v.n : Int) ≤ at_) → K (i64v 1) w1 := fun hbad => by
    have e : vput v d at_ bs = (d, 1) := by unfold vput; rw [if_pos hbad]
    have := hK w1 (by rw [e]; exact hd1) s1
    rw [e] at this
    exact this
  rw [X_lss]
  by_cases c1 : at_ < 0
  · have e1 : decide (at_ < 0) = true := by simpa using c1
    simp only [e1, GS]
    exact bad (.inl c1)
  have e1 : decide (at_ < 0) = false := by simpa using c1
  simp only [e1, GS, X_field_138_3]
  refine X_loadL agg_3 hq (v := .int .i64 (v.n : Int)) rfl ?_
  rw [X_geq, condS_bool]
  by_cases c2 : (v.n : Int) ≤ at_
  · rw [if_pos (by simpa using c2)]
    exact bad (.inr c2)
  rw [if_neg (by simpa using c2)]
  obtain ⟨i, rfl⟩ : ∃ i : Nat, at_ = (i : Int) := ⟨at_.toNat, by omega⟩
  have hi : i < v.n := by omega
  have hgood : ¬ ((i : Int) < 0 ∨ (v.n : Int) ≤ (i : Int)) := by omega
  have hle := Vt.at_le ok hi
  rw [X_len_9, str_size]
  refine X_loadAgg Try.underlying138 agg_138 info_138 hq (by rw [sz_138]; rfl) ?_
  refine RVRoom_spec ok ?_
  intro w2 hx2
  have hd2 := hd1.ext hx2
  have hq2 := hx2.get hq
  have s2 := s1.trans (Step.ext hx2 (hd1.lt b (foot_self _ _)))
  rw [X_gtr, condS_bool]
  by_cases hroom : v.room < bs.length
  · rw [if_pos (by simp; omega)]
    have e : vput v d (i : Int) bs = (d, 4) := by unfold vput; rw [if_neg hgood, if_pos hroom]
    have := hK w2 (by rw [e]; exact hd2) s2
    rw [e] at this
    exact this
  rw [if_neg (by simp; omega)]
  have hroom' : bs.length ≤ 16384 * 128 := by unfold Vt.room at hroom; omega
  have eput : vput v d (i : Int) bs = layAll d (v.fm + i * v.each) (be 4 bs.length ++ bs) := by unfold vput; rw [if_neg hgood, if_neg hroom]; rfl
  rw [eput] at hK
  rw [X_len_9, str_size, X_conv_3_22, wrap_u64, Int.emod_eq_of_lt (by omega) (by omega)]
  refine RPut_spec (by omega) ?_
  intro v3 w3 hx3 ho3
  have e4 : putB bs.length 4 = be 4 bs.length := rfl
  rw [e4] at ho3
  have hl4 : (be 4 bs.length).length = 4 := be_length _ _
  refine X_str Try.underlying27 Try.underlying5 Try.underlying9 (own_bts ho3).1 ?_
  refine X_of (run_string_add 9 _ _ (by rw [str_size, str_size, hl4]; omega) _) ?_
  rw [str_append]
  have hd3 := hd2.ext hx3
  have hq3 := hx3.get hq2
  have s3 := s2.trans (Step.ext hx3 (hd2.lt b (foot_self _ _)))
  generalize hqe : w.heap.size = q at hq3 ⊢
  obtain ⟨x, hxd⟩ : ∃ x, x = be 4 bs.length ++ bs := ⟨_, rfl⟩
  have hxl : x.length = 4 + bs.length := by rw [hxd, List.length_append, hl4]
  rw [← hxd]
  rw [← hxd] at hK
  refine loopE (fun ρ wr => ∃ (d' : Dk) (j : Nat), RefAt wr b d' ∧ Step b w wr ∧ wr.heap[q]? = some (.cells (Vt.cs v b).toArray 138 (0, 0)) ∧ d'.ws.length + (x.length - 128 * j) ≤ 900000 ∧ 128 * j ≤ x.length + 127 ∧
      layAll d (v.fm + i * v.each) x = layAll d' (v.fm + i * v.each + j) (x.drop (128 * j)) ∧ ρ 7 = .string (str x) ∧ ρ 8 = .int .i64 ((128 * j : Nat) : Int) ∧ ρ 3 = ptr q ∧ ρ 1 = .int .i64 (i : Int))
    (fun ρ wr => match ρ 8 with | .int _ s => (x.length + 128 - s).toNat | _ => 0)
    (fun ρ wr => ∃ d', RefAt wr b d' ∧ Step b w wr ∧ layAll d (v.fm + i * v.each) x = (d', 0)) ?_ ?_ ?_
  · exact ⟨d, 0, hd3, s3, hq3, by omega, by omega, rfl, rfl, rfl, rfl, rfl⟩
  · rintro J hJ ρ wr ⟨d', j, hd', hs', hq', hws', hj, heq, r7, r8, r3, r1⟩
    rw [r7, r8, X_len_9, str_size, X_lss, condS_bool]
    by_cases hlt : 128 * j < x.length
    case neg =>
      rw [if_neg (by simp; omega)]
      refine hJ _ _ ⟨d', hd', hs', ?_⟩
      rw [heq, List.drop_eq_nil_of_le (by omega), layAll_nil]
    rw [if_pos (by simp; omega)]
    have hne : x.drop (128 * j) ≠ [] := by
      intro h
      have := congrArg List.length h
      rw [List.length_drop] at this
      simp at this
      omega
    have hcons := layAll_cons d' (v.fm + i * v.each + j) hne
    have hqd : (drewW wr).heap[q]? = some (.cells (Vt.cs v b).toArray 138 (0, 0)) := hq'
    have hdd := hd'.ext (Keep.drew (fun _ => False) wr)
    have hqn : ¬ foot (drewW wr) b q := hdd.notin hqd (by decide) (by decide) (by decide)
    refine ⟨Keep (foot (drewW wr) b), Keep.frame _, ?_⟩
    rw [r3, r1]
    try simp only [XP_field_138_0, XP_field_138_1, XP_field_138_2]
    refine XR_ok (Keep.frame _) (fun w' k => run_loadAt agg_92 (blk_get (k.get hqn hqd) (v := ptr b) rfl)) ?_
    refine XR_ok (Keep.frame _) (fun w' k => run_loadAt agg_3 (blk_get (k.get hqn hqd) (v := .int .i64 (v.fm : Int)) rfl)) ?_
    refine XR_ok (Keep.frame _) (fun w' k => run_loadAt agg_3 (blk_get (k.get hqn hqd) (v := .int .i64 (v.each : Int)) rfl)) ?_
    have em : ((i : Nat) : Int) * (v.each : Int) = ((i * v.each : Nat) : Int) := (Int.natCast_mul _ _).symm
    rw [XP_mul, em, w64 (by omega) (by omega), XP_add, w64 (by omega) (by omega)]
    refine XP_of (fun w => run_quo 3 .i64 _ 128 (by decide) w) ?_
    have eq : (((128 * j : Nat) : Int)).tdiv 128 = (j : Int) := by rw [tdiv_ediv (by omega)]; omega
    rw [eq, w64 (by omega) (by omega), XP_add, w64 (by omega) (by omega), XP_len_9, str_size, XP_add, w64 (by omega) (by omega), XP_min]
    obtain ⟨m, hm⟩ : ∃ m : Nat, m = min x.length (128 * j + 128) := ⟨_, rfl⟩
    have emin : min (x.length : Int) (((128 * j : Nat) : Int) + 128) = (m : Int) := by omega
    rw [emin]
    refine XP_of (fun w => run_cutstr Try.underlying9 x .i64 .i64 (128 * j) m (by omega) (by omega) w) ?_
    have ecut : (x.take m).drop (128 * j) = (x.drop (128 * j)).take 128 := by
      rw [List.drop_take]
      rcases Nat.le_total x.length (128 * j + 128) with h | h
      · rw [List.take_of_length_le (by rw [List.length_drop]; omega), List.take_of_length_le (by rw [List.length_drop]; omega)]
      · rw [show m - 128 * j = 128 by omega]
    rw [ecut]
    have eto : ((v.fm : Nat) : Int) + ((i * v.each : Nat) : Int) + (j : Int) = ((v.fm + i * v.each + j : Nat) : Int) := by omega
    rw [eto]
    refine RWrite_spec hdd (by omega) ?_
    intro w5 hd5 s5
    refine ⟨s5.keep, ?_⟩
    have s5' : Step b w w5 := hs'.trans ((Step.ext (Keep.drew _ _) (hd'.lt b (foot_self _ _))).trans s5)
    rw [X_neq, condS_bool]
    by_cases he : (d'.write ((v.fm + i * v.each + j : Nat) : Int) ((x.drop (128 * j)).take 128)).2 = 0
    · rw [if_neg (by simpa using he)]
      rw [if_neg (by simpa using he)] at hcons
      rw [X_add, w64 (by omega) (by omega)]
      have hws5 := Dk.write_ws d' ((v.fm + i * v.each + j : Nat) : Int) ((x.drop (128 * j)).take 128)
      show _ ∧ _
      refine ⟨⟨_, j + 1, hd5, s5', s5.keep.get hqn hqd, by omega, by omega, ?_, r7, ?_, r3, r1⟩, ?_⟩
      · rw [heq, hcons, List.drop_drop]
        rfl
      · show Value.int .i64 (((128 * j : Nat) : Int) + 128) = _
        congr 1
      · show ((x.length : Int) + 128 - (((128 * j : Nat) : Int) + 128)).toNat < _
        first | omega | (show _ < (_ : Int).toNat; omega)
    · rw [if_pos (by simpa using he)]
      rw [if_pos (by simpa using he)] at hcons
      show K (i64v (d'.write ((v.fm + i * v.each + j : Nat) : Int) ((x.drop (128 * j)).take 128)).2) w5
      have := hK w5 (by rw [heq, hcons]; exact hd5) s5'
      rw [heq, hcons] at this
      exact this
  · rintro ρ wr ⟨d', hd', hs', heq⟩
    have := hK wr (by rw [heq]; exact hd') hs'
    rw [heq] at this
    exact this
theorem run_build_57s (a : Option Addr) (n c : Nat) (w : World) : (Instr.build 57 #[(0, .slice a n c)]).run Try.prog w = .ok (.agg #[.slice a n c, .int .i64 0, .int .i64 0]) w := by kernel_rfl
theorem RVGet_spec {at_ : Int} (hd : RefAt w b d) (ok : v.ok d.safe.length) (hws : d.ws.length ≤ 1000000)
    (hK : ∀ w1, Ext w w1 → K (.tuple #[.string (str (vget v d at_).1), i64v (vget v d at_).2]) w1) : CALL Try.prog 108 #[Vt.rv v b, i64v at_] w K := by
  obtain ⟨ok1, ok2, ok3, ok4⟩ := id ok
  have e0 : decide ((0 : Int) ≠ 0) = false := by decide
  have e6 : decide ((6 : Int) ≠ 0) = true := by decide
  have n128 := Dk.now_128 hd.1
  have nlen := Dk.now_length d
  apply call_ref12_Vault_Get
  unfold B_ref12_Vault_Get
  refine X_box ?_
  have hq := newB_get w (Vt.cs v b).toArray 138
  have hx := newB_ext w (Vt.cs v b).toArray 138
  show X _ (binOp .lss 3 (i64v at_) _) (newB w (Vt.cs v b).toArray 138) _
  generalize newB w (Vt.cs v b).toArray 138 = w1 at hq hx ⊢
  have hd1 := hd.ext hx
  have bad : (at_ < 0 ∨ (v.n : Int) ≤ at_) → K (.tuple #[.string { data := #[] }, i64v 1]) w1 := fun hbad => by
    have e : vget v d at_ = ([], 1) := by unfold vget; rw [if_pos hbad]
    have := hK w1 hx
    rw [e] at this
    exact this
  rw [X_lss]
  by_cases c1 : at_ < 0
  · have e1 : decide (at_ < 0) = true := by simpa using c1
    simp only [e1, GS]
    exact bad (.inl c1)
  have e1 : decide (at_ < 0) = false := by simpa using c1
  simp only [e1, GS, X_field_138_3]
  refine X_loadL agg_3 hq (v := .int .i64 (v.n : Int)) rfl ?_
  rw [X_geq, condS_bool]
  by_cases c2 : (v.n : Int) ≤ at_
  · rw [if_pos (by simpa using c2)]
    exact bad (.inr c2)
  rw [if_neg (by simpa using c2)]
  obtain ⟨i, rfl⟩ : ∃ i : Nat, at_ = (i : Int) := ⟨at_.toNat, by omega⟩
  have hi : i < v.n := by omega
  have hgood : ¬ ((i : Int) < 0 ∨ (v.n : Int) ≤ (i : Int)) := by omega
  have hle := Vt.at_le ok hi
  obtain ⟨B, hB⟩ : ∃ B, B = v.fm + i * v.each := ⟨_, rfl⟩
  rw [← hB] at hle
  have em : ((i : Nat) : Int) * (v.each : Int) = ((i * v.each : Nat) : Int) := (Int.natCast_mul _ _).symm
  generalize hqe : w.heap.size = q at hq ⊢
  refine loopE (fun ρ wr => wr = w1 ∧ ∃ j : Nat, j ≤ v.each ∧ (0 < j → d.dead = false) ∧ ρ 7 = .int .i64 (j : Int) ∧ ρ 6 = .string (str ((d.now.drop B).take j).flatten) ∧ ρ 2 = ptr q ∧ ρ 1 = .int .i64 (i : Int))
    (fun ρ wr => match ρ 7 with | .int _ s => (v.each + 1 - s).toNat | _ => 0)
    (fun ρ wr => wr = w1 ∧ d.dead = false ∧ ρ 6 = .string (str (vall v d i)) ∧ ρ 2 = ptr q) ?_ ?_ ?_
  · exact ⟨rfl, 0, Nat.zero_le _, fun h => absurd h (by omega), rfl, rfl, rfl, rfl⟩
  · rintro J hJ ρ wr ⟨rfl, j, hj, hjd, r7, r6, r2, r1⟩
    have hlj := flat_take_drop d.now n128 B j (by omega)
    rw [r7, r6, r2, r1]
    simp only [X_field_138_2]
    refine X_loadL agg_3 hq (v := .int .i64 (v.each : Int)) rfl ?_
    rw [X_lss, condS_bool]
    by_cases hlt : j < v.each
    case neg =>
      rw [if_neg (by simp; omega)]
      have : j = v.each := by omega
      refine hJ _ _ ⟨rfl, hjd (by omega), ?_, r2⟩
      subst this
      unfold vall
      rw [← hB]
      exact r6
    rw [if_pos (by simp; omega)]
    try simp only [X_field_138_0]
    refine X_loadL agg_92 hq (v := ptr b) rfl ?_
    try simp only [X_field_138_1]
    refine X_loadL agg_3 hq (v := .int .i64 (v.fm : Int)) rfl ?_
    try simp only [X_field_138_2]
    refine X_loadL agg_3 hq (v := .int .i64 (v.each : Int)) rfl ?_
    rw [X_mul, em, w64 (by omega) (by omega), X_add, w64 (by omega) (by omega), X_add, w64 (by omega) (by omega)]
    have eto : ((v.fm : Nat) : Int) + ((i * v.each : Nat) : Int) + (j : Int) = ((B + j : Nat) : Int) := by omega
    rw [eto]
    refine RRead_spec hd1 hws ?_
    rw [read_at (d := d) (i := B + j) (by omega)]
    by_cases hdead : d.dead = true
    · rw [if_pos hdead]
      simp only [X_extract0, X_extract1, X_neq, e6, GS]
      have e : vget v d (i : Int) = ([], 6) := by unfold vget; rw [if_neg hgood, if_pos hdead]
      have := hK wr hx
      rw [e] at this
      exact this
    rw [if_neg hdead]
    have hd' : d.dead = false := by simpa using hdead
    simp only [X_extract0, X_extract1, X_neq, e0, GS]
    have hnl5 : (d.now.getD (B + j) []).length = 128 := by
      rw [List.getD_eq_getElem?_getD, List.getElem?_eq_getElem (by omega)]
      exact n128 _ (List.getElem_mem _)
    refine X_of (run_string_add 9 _ _ (by rw [str_size, str_size]; show _ + (d.now.getD (B + j) []).length ≤ _; omega) _) ?_
    rw [str_append, X_add, w64 (by omega) (by omega)]
    have es := flat_succ d.now B j (by omega)
    show _ ∧ _
    refine ⟨⟨rfl, j + 1, hlt, fun _ => hd', rfl, ?_, r2, r1⟩, ?_⟩
    · rw [es]; rfl
    · show ((v.each : Int) + 1 - ((j : Int) + 1)).toNat < _
      first | omega | (show _ < (_ : Int).toNat; omega)
  · rintro ρ wr ⟨rfl, hdead, r6, r2⟩
    have hlall : (vall v d i).length = v.each * 128 := by
      unfold vall
      rw [← hB]
      exact flat_take_drop d.now n128 B v.each (by omega)
    rw [r6, r2]
    refine X_bytes Try.underlying9 Try.underlying27 Try.underlying5 (by omega) ?_
    intro v2 w2 hx2 hb2 hk2
    obtain ⟨a2, c2', e2⟩ := Bts.slice hb2
    rw [e2]
    refine X_of (run_build_57s _ _ _ _) ?_
    refine X_alloc zero_57 ?_
    have hz := newB_get w2 #[(.slice none 0 0), (.int .i64 0), (.int .i64 0)] 57
    have hxz := newB_ext w2 #[(.slice none 0 0), (.int .i64 0), (.int .i64 0)] 57
    have hsz := newB_size w2 #[(.slice none 0 0), (.int .i64 0), (.int .i64 0)] 57
    show XU _ _ (newB w2 #[(.slice none 0 0), (.int .i64 0), (.int .i64 0)] 57) _
    generalize newB w2 #[(.slice none 0 0), (.int .i64 0), (.int .i64 0)] 57 = w3 at hz hxz hsz ⊢
    rw [← e2]
    refine XU_storeAgg (l := [v2, .int .i64 0, .int .i64 0]) info_57 hz (by rw [sz_57]; rfl) (by rw [sz_57]; rfl) (by intro x hx; simp at hx; rcases hx with rfl | rfl | rfl <;> first | rfl | (rw [e2]; rfl)) ?_
    have hz4 := setAt_same (cs := [v2, .int .i64 0, .int .i64 0].toArray) (T := 57) (fr := (0, 0)) (lt_of_blk hz)
    have hx4 : Ext w2 (setAt w3 w2.heap.size [v2, .int .i64 0, .int .i64 0].toArray 57 (0, 0)) := Ext.seq hxz (setAt_keep _ _ _ _ _) (fun j hj => by omega)
    generalize setAt w3 w2.heap.size [v2, .int .i64 0, .int .i64 0].toArray 57 (0, 0) = w4 at hz4 hx4 ⊢
    have hrdr : RdrR w4 wr.heap.size w2.heap.size w2.heap.size (vall v d i) (vall v d i) 0 :=
      ⟨v2, 0, hz4, hb2.ext hx4, Nat.zero_le _, rfl, fun _ k hk => ⟨(hk2 k hk).1, (hk2 k hk).2, by have := (hk2 k hk).2; omega⟩⟩
    refine RGet_spec hrdr ?_
    intro w5 hk5 _
    have hx5 : Ext wr w5 := Ext.seq (hx2.trans hx4) hk5 (fun j hj => by have := hx2.size; omega)
    have eg : getR (vall v d i) 0 4 = (num ((vall v d i).take 4), (vall v d i).drop 4, 0) := by
      unfold getR
      rw [if_neg (by simp), if_neg (by omega), if_neg (by rw [hlall]; show ¬ _ < 4; omega)]
      rfl
    rw [eg]
    obtain ⟨n, hn⟩ : ∃ n, n = num ((vall v d i).take 4) := ⟨_, rfl⟩
    have hn4 := num4_lt (vall v d i)
    rw [← hn] at hn4 ⊢
    refine X_loadAgg Try.underlying138 agg_138 info_138 (hx5.get hq) (by rw [sz_138]; rfl) ?_
    refine RVRoom_spec ok ?_
    intro w6 hx6
    have hrle : v.room ≤ 16384 * 128 := by unfold Vt.room; omega
    rw [X_conv_3_22, wrap_u64, Int.emod_eq_of_lt (by omega) (by omega), X_gtr, condS_bool]
    have eget : vget v d (i : Int) = if v.room < n then ([], 110) else (((vall v d i).drop 4).take n, 0) := by
      unfold vget
      rw [if_neg hgood, if_neg (by rw [hdead]; decide), Int.toNat_natCast, ← hn]
    by_cases hroom : v.room < n
    · rw [if_pos (by simp; omega)]
      rw [if_pos hroom] at eget
      have := hK w6 (hx.trans (hx5.trans hx6))
      rw [eget] at this
      exact this
    rw [if_neg (by simp; omega)]
    rw [if_neg hroom] at eget
    have hroomv : 4 + n ≤ v.each * 128 := by unfold Vt.room at hroom; omega
    rw [X_add, wrap_u64, Int.emod_eq_of_lt (by omega) (by omega)]
    have e4n : (4 : Int) + (n : Int) = ((4 + n : Nat) : Int) := by omega
    rw [e4n]
    refine X_of (run_cutstr Try.underlying9 (vall v d i) .i64 .u64 4 (4 + n) (by omega) (by omega) _) ?_
    have := hK w6 (hx.trans (hx5.trans hx6))
    rw [eget] at this
    rw [List.drop_take, show 4 + n - 4 = n by omega]
    exact this
end
end Go.Proofs.Ytggggfcgnkllgaa
end
section
/- A slice whose elements are any number of cells, as a list. -/
set_option linter.unusedVariables false
set_option linter.unusedSimpArgs false
namespace Go.Sh
open Go Go.RowKit Go.ChangeShapes Go.WideShapes Go.ChangeAt
def RowK {α : Type} (k : Nat) (f : α → List Value) (w : World) (v : Value) (xs : List α) : Prop :=
  ∃ a c, v = .slice a xs.length c ∧ xs.length ≤ c ∧ c ≤ 9223372036854775807 ∧ (0 < xs.length → ∃ ad, a = some ad ∧ ∀ j x, xs[j]? = some x → ∀ i u, (f x)[i]? = some u → w.cell? ((ad.add (j * k)).add i) = some u)
theorem RowK.slice {α : Type} {k : Nat} {f : α → List Value} {w : World} {v : Value} {xs : List α} (h : RowK k f w v xs) : ∃ a c, v = .slice a xs.length c := by
  obtain ⟨a, c, e, _⟩ := h
  exact ⟨a, c, e⟩
theorem add_block (ad : Addr) (j : Nat) : (ad.add j).block = ad.block := by unfold Addr.add; split <;> rfl
theorem RowK.keep {α : Type} {n : Nat} {f : α → List Value} {w w' : World} {v : Value} {xs : List α} {D : Nat → Prop} (h : RowK n f w v xs) (k : Keep D w w') (hd : 0 < xs.length → ∀ b, v.ownBlock = some b → ¬ D b) : RowK n f w' v xs := by
  obtain ⟨a, c, rfl, h1, h2, h3⟩ := h
  refine ⟨a, c, rfl, h1, h2, fun hn => ?_⟩
  obtain ⟨ad, rfl, hc⟩ := h3 hn
  refine ⟨ad, rfl, fun j x hj i u hu => k.cell ?_ (hc j x hj i u hu)⟩
  rw [add_block, add_block]
  exact hd hn _ rfl
theorem RowK.ext {α : Type} {n : Nat} {f : α → List Value} {w w' : World} {v : Value} {xs : List α} (h : RowK n f w v xs) (k : Ext w w') : RowK n f w' v xs := h.keep k (fun _ _ _ h => h)
section
variable {P : Program} {α : Type} {k : Nat} {f : α → List Value}
theorem RowK.cut {T e : TypeId} (hT : P.underlying T = some (.slice e)) (hi : infoB P e = true) {v : Value} {xs : List α} {w0 : World} (hb : RowK k f w0 v xs) {kh : IntKind} {hj : Int} (h' : Nat) (e2 : hj = h') (h1 : h' ≤ xs.length) :
    ∃ u, (∀ w, (Instr.sliceAt T v none (some (.int kh hj)) none).run P w = .ok u w) ∧ RowK k f w0 u (xs.take h') := by
  obtain ⟨a, c, rfl, h2, h3, h4⟩ := hb
  refine ⟨_, fun w => sl_hi hT hi h' e2 (by omega) w, ?_⟩
  have hl : (xs.take h').length = h' := by simp; omega
  refine ⟨a, c, by rw [hl], by omega, h3, fun hn => ?_⟩
  obtain ⟨ad, rfl, hc⟩ := h4 (by omega)
  refine ⟨ad, rfl, fun j x hj => hc j x ?_⟩
  rw [List.getElem?_take] at hj
  split at hj
  · exact hj
  · cases hj
theorem RowK.at {T e : TypeId} (hT : P.underlying T = some (.slice e)) (hi : infoB P e = true) (hs : szT P e = k) {v : Value} {xs : List α} {w0 : World} (hb : RowK k f w0 v xs) {kd : IntKind} {ii : Int} (i : Nat) (e1 : ii = i) (h : i < xs.length) :
    ∃ a, (∀ w, (Instr.indexAt T v (.int kd ii)).run P w = .ok (.pointer (some a)) w) ∧ (∀ j u, (f xs[i])[j]? = some u → w0.cell? (a.add j) = some u) := by
  obtain ⟨a, c, rfl, h3, h4, h5⟩ := hb
  obtain ⟨ad, rfl, hc⟩ := h5 (by omega)
  refine ⟨_, fun w => ix hT hi i e1 h w, ?_⟩
  rw [hs]
  exact fun j u hu => hc i _ (List.getElem?_eq_getElem h) j u hu
/-- A struct is read, wherever it lies. -/
theorem load_cells {t : TypeId} {d : TypeDesc} (hu : P.underlying t = some d) (ha : aggB P t = true) (hi : infoB P t = true) {a : Addr} {l : List Value} {w : World} (hn : l.length = szT P t)
    (hc : ∀ j u, l[j]? = some u → w.cell? (a.add j) = some u) : (Instr.loadAt t (.pointer (some a))).run P w = .ok (.agg l.toArray) w := by
  have hload : (loadCells a l.length).run P w = .ok l.toArray w := run_loadCells_list w _ l hc
  rw [hn] at hload
  simp [Instr.loadAt, Instr.sureAddr, loadVar, isAgg_run' hu ha, sizeOf_run hi, hload]
theorem mapM_get {β γ : Type} (g : β → Option γ) : ∀ (l : List β) (es : List γ), l.mapM g = some es → ∀ (i : Nat) (u : γ), es[i]? = some u → ∃ x, l[i]? = some x ∧ g x = some u
  | [], es, h, i, u, hu => by
    simp at h
    subst h
    cases hu
  | x :: l, es, h, i, u, hu => by
    rw [List.mapM_cons] at h
    cases hx : g x with
    | none => rw [hx] at h; simp at h
    | some y =>
      cases hl : l.mapM g with
      | none => rw [hx, hl] at h; simp at h
      | some ys =>
        rw [hx, hl] at h
        simp at h
        subst h
        cases i with
        | zero => exact ⟨x, rfl, by simpa [hx] using hu⟩
        | succ i => exact mapM_get g l ys hl i u hu
theorem cells_all {W : World} {a : Addr} {n : Nat} {es : List Value} (h : W.cells? 0 a n = some es) : ∀ i u, es[i]? = some u → W.cell? (a.add i) = some u := by
  unfold World.cells? at h
  simp only [Nat.zero_le, if_true] at h
  intro i u hu
  obtain ⟨x, hx, hg⟩ := mapM_get _ _ _ h i u hu
  have hx' := List.getElem?_eq_some_iff.1 hx
  obtain ⟨hi, hx'⟩ := hx'
  rw [List.getElem_range] at hx'
  subst hx'
  exact hg
theorem TrC.rowK {H : Type} {enc : TypeId × Value → H} {W : World} {t e : TypeId} {v : Value} {Good : α → Prop} (ht : P.underlying t = some (.slice e)) (hc : P.cellsOf e = k)
    (he : ∀ es, TrC enc P W e es → ∃ x, es = f x ∧ Good x) (h : TrC enc P W t [v]) : ∃ xs, RowK k f W v xs ∧ ∀ x ∈ xs, Good x := by
  rcases h.slice ht with hv | ⟨a, len, cap, hv, h1, h2, h3⟩
  · injection hv with hv
    subst hv
    exact ⟨[], ⟨none, 0, rfl, Nat.le_refl _, by omega, fun h => absurd h (by simp)⟩, by simp⟩
  · injection hv with hv
    subst hv
    have key : ∀ i, i < len → ∃ x, (∀ j u, (f x)[j]? = some u → W.cell? ((a.add (i * k)).add j) = some u) ∧ Good x := by
      intro i hi
      obtain ⟨es, h4, h5⟩ := h3 i hi
      rw [hc] at h4
      obtain ⟨x, hx, hg⟩ := he _ h5
      subst hx
      exact ⟨x, cells_all h4, hg⟩
    have all : ∀ n, n ≤ len → ∃ xs : List α, xs.length = n ∧ (∀ j x, xs[j]? = some x → ∀ i u, (f x)[i]? = some u → W.cell? ((a.add (j * k)).add i) = some u) ∧ ∀ x ∈ xs, Good x := by
      intro n
      induction n with
      | zero => intro _; exact ⟨[], rfl, by simp, by simp⟩
      | succ n ih =>
        intro hn
        obtain ⟨xs, hl, hb, hg⟩ := ih (by omega)
        obtain ⟨x, hx, hgx⟩ := key n (by omega)
        refine ⟨xs ++ [x], by simp [hl], fun j y hj => ?_, ?_⟩
        · by_cases hjn : j < xs.length
          · exact hb j y (by rwa [List.getElem?_append_left hjn] at hj)
          · have hlt := (List.getElem?_eq_some_iff.1 hj).1
            simp at hlt
            have : j = xs.length := by omega
            subst this
            simp at hj
            subst hj
            rw [hl]; exact hx
        · intro y hy
          rcases List.mem_append.1 hy with hy | hy
          · exact hg y hy
          · simp at hy; subst hy; exact hgx
    obtain ⟨xs, hl, hb, hg⟩ := all len (Nat.le_refl _)
    exact ⟨xs, ⟨some a, cap, by rw [hl], by omega, h2, fun _ => ⟨a, rfl, hb⟩⟩, hg⟩
end
/-- Bytes, told as a row. -/
theorem bts_of_row {w : World} {v : Value} {bs : List UInt8} (h : Row (fun u : UInt8 => .int .u8 ((u.toNat : Nat) : Int)) w v bs) : Bts w v bs := h
theorem Bts.blk_lt {w : World} {v : Value} {bs : List UInt8} (h : Bts w v bs) (h0 : 0 < bs.length) : ∀ k, v.ownBlock = some k → k < w.heap.size := by
  obtain ⟨a, c, rfl, h1, h2, h3⟩ := h
  obtain ⟨ad, rfl, hc⟩ := h3 h0
  intro k hk
  have := World.block_lt_of_cell? w _ (hc 0 _ (List.getElem?_eq_getElem h0))
  rw [add_block] at this
  injection hk with hk
  omega
theorem Row.blk_lt {α : Type} {f : α → Value} {w : World} {v : Value} {xs : List α} (h : Row f w v xs) (h0 : 0 < xs.length) : ∀ k, v.ownBlock = some k → k < w.heap.size := by
  obtain ⟨a, c, rfl, h1, h2, h3⟩ := h
  obtain ⟨ad, rfl, hc⟩ := h3 h0
  intro k hk
  have := World.block_lt_of_cell? w _ (hc 0 _ (List.getElem?_eq_getElem h0))
  rw [add_block] at this
  injection hk with hk
  omega
theorem RowK.blk_lt {α : Type} {n : Nat} {f : α → List Value} {w : World} {v : Value} {xs : List α} (h : RowK n f w v xs) (h0 : 0 < xs.length) (hf : ∀ x ∈ xs, 0 < (f x).length) : ∀ k, v.ownBlock = some k → k < w.heap.size := by
  obtain ⟨a, c, rfl, h1, h2, h3⟩ := h
  obtain ⟨ad, rfl, hc⟩ := h3 h0
  intro k hk
  have := World.block_lt_of_cell? w _ (hc 0 _ (List.getElem?_eq_getElem h0) 0 _ (List.getElem?_eq_getElem (hf _ (List.getElem_mem h0))))
  rw [add_block, add_block] at this
  injection hk with hk
  omega
end Go.Sh
end
section
/- A slot as an argument. -/
set_option linter.unusedVariables false
set_option linter.unusedSimpArgs false
namespace Go.Sh
open Go Go.RowKit Go.ChangeShapes Go.WideShapes Go.ChangeAt
section
variable {P : Program} {H : Type} {enc : TypeId × Value → H} {W : World} {base : Nat} {v : Value} {d : DataW H} {p : List MemPlace} {t : TypeId}
theorem wf_nat {k : IntKind} {n : Int} {m : Nat} (hk : k.signed = false) (hm : (2 : Int) ^ k.bits = (m : Int)) (h : (Lit.int k n).wf = true) : ∃ x : Nat, n = (x : Int) ∧ x < m := by
  simp only [Lit.wf, IntKind.min, IntKind.max, hk, Bool.false_eq_true, if_false, Bool.and_eq_true, decide_eq_true_eq] at h
  refine ⟨n.toNat, ?_, ?_⟩ <;> omega
theorem arg_slot {f0 f1 f2 f3 : Field} (ht : P.underlying t = some (.struct #[f0, f1, f2, f3])) (hc : P.cellsOf t = 4) (o0 : f0.offset = 0) (o1 : f1.offset = 1) (o2 : f2.offset = 2) (o3 : f3.offset = 3)
    (t0 : P.underlying f0.type = some (.int .u64)) (t1 : P.underlying f1.type = some (.int .u8)) (t2 : P.underlying f2.type = some (.int .u32)) (t3 : P.underlying f3.type = some (.int .u32))
    (c0 : P.cellsOf f0.type = 1) (c1 : P.cellsOf f1.type = 1) (c2 : P.cellsOf f2.type = 1) (c3 : P.cellsOf f3.type = 1)
    (ok : Value.okWide P W .any base t v) (h : DataW.Trod enc P W 0 (fun _ => true) true t v d p) :
    ∃ a b c e : Nat, v = .agg #[.int .u64 (a : Int), .int .u8 (b : Int), .int .u32 (c : Int), .int .u32 (e : Int)] ∧ a < 18446744073709551616 ∧ b < 256 ∧ c < 4294967296 ∧ e < 4294967296 := by
  obtain ⟨cs, rfl, hcs⟩ := okWide_struct ht ok
  rw [hc] at hcs
  obtain ⟨hl, hf⟩ := (TrC.of h).struct ht
  match cs, hcs with
  | ⟨[x0, x1, x2, x3]⟩, _ =>
    have g0 := hf f0 (by simp)
    have g1 := hf f1 (by simp)
    have g2 := hf f2 (by simp)
    have g3 := hf f3 (by simp)
    rw [o0, c0] at g0
    rw [o1, c1] at g1
    rw [o2, c2] at g2
    rw [o3, c3] at g3
    obtain ⟨n0, e0, w0⟩ := TrC.int t0 g0
    obtain ⟨n1, e1, w1⟩ := TrC.int t1 g1
    obtain ⟨n2, e2, w2⟩ := TrC.int t2 g2
    obtain ⟨n3, e3, w3⟩ := TrC.int t3 g3
    simp [Value.cells] at e0 e1 e2 e3
    subst e0; subst e1; subst e2; subst e3
    obtain ⟨a, rfl, ha⟩ := wf_nat rfl (m := 18446744073709551616) (by decide) w0
    obtain ⟨b, rfl, hb⟩ := wf_nat rfl (m := 256) (by decide) w1
    obtain ⟨c, rfl, hc⟩ := wf_nat rfl (m := 4294967296) (by decide) w2
    obtain ⟨e, rfl, he⟩ := wf_nat rfl (m := 4294967296) (by decide) w3
    exact ⟨a, b, c, e, rfl, ha, hb, hc, he⟩
end
end Go.Sh
end
section
/- What is done to a disk, told as an argument. -/
set_option linter.unusedVariables false
set_option linter.unusedSimpArgs false
namespace Go.Proofs.Ytggggfcgnkllgaa
open Go Go.Sh Go.RowKit Go.ChangeShapes Go.WideShapes Go.ChangeAt
attribute [local irreducible] X XU XP XR CALL loopS resC closS Value.okWide
/-- An act: its kind, its place, its number, its bytes, its fates; and the slices where these lie. -/
structure DAct where
  kind : Nat
  pos : Int
  num : Int
  bs : List UInt8
  fates : List Int
  bv : Value
  fv : Value
def DAct.cs (a : DAct) : List Value := [.int .u8 (a.kind : Int), .int .i64 a.pos, .int .i64 a.num, a.bv, a.fv]
structure DAct.In (a : DAct) (W : World) : Prop where
  kind : a.kind < 256
  num : a.num ≤ 9223372036854775807
  bts : Bts W a.bv a.bs
  fate : Row fI W a.fv a.fates
theorem DAct.In.ext {a : DAct} {W w : World} (h : a.In W) (k : Ext W w) : a.In w := ⟨h.kind, h.num, h.bts.ext k, h.fate.ext k⟩
theorem DAct.one {a : DAct} {W : World} (h : a.In W) : ∀ v ∈ a.cs, v.oneCell' = true := by
  obtain ⟨_, _, e1⟩ := Bts.slice h.bts
  obtain ⟨_, _, e2⟩ := h.fate.slice
  intro v hv
  simp only [DAct.cs, List.mem_cons, List.not_mem_nil, or_false] at hv
  rcases hv with rfl | rfl | rfl | rfl | rfl
  · rfl
  · rfl
  · rfl
  · rw [e1]; rfl
  · rw [e2]; rfl
theorem trc_five {P : Program} {H : Type} {enc : TypeId × Value → H} {W : World} {t : TypeId} {es : List Value} {f0 f1 f2 f3 f4 : Field} (ht : P.underlying t = some (.struct #[f0, f1, f2, f3, f4])) (hc : P.cellsOf t = 5)
    (o0 : f0.offset = 0) (o1 : f1.offset = 1) (o2 : f2.offset = 2) (o3 : f3.offset = 3) (o4 : f4.offset = 4) (c0 : P.cellsOf f0.type = 1) (c1 : P.cellsOf f1.type = 1) (c2 : P.cellsOf f2.type = 1) (c3 : P.cellsOf f3.type = 1) (c4 : P.cellsOf f4.type = 1)
    (h : TrC enc P W t es) : ∃ x0 x1 x2 x3 x4, es = [x0, x1, x2, x3, x4] ∧ TrC enc P W f0.type [x0] ∧ TrC enc P W f1.type [x1] ∧ TrC enc P W f2.type [x2] ∧ TrC enc P W f3.type [x3] ∧ TrC enc P W f4.type [x4] := by
  obtain ⟨hl, hf⟩ := h.struct ht
  rw [hc] at hl
  match es, hl with
  | [x0, x1, x2, x3, x4], _ =>
    have g0 := hf f0 (by simp)
    have g1 := hf f1 (by simp)
    have g2 := hf f2 (by simp)
    have g3 := hf f3 (by simp)
    have g4 := hf f4 (by simp)
    rw [o0, c0] at g0
    rw [o1, c1] at g1
    rw [o2, c2] at g2
    rw [o3, c3] at g3
    rw [o4, c4] at g4
    exact ⟨x0, x1, x2, x3, x4, rfl, g0, g1, g2, g3, g4⟩
theorem trc_act {H : Type} {enc : TypeId × Value → H} {W : World} {es : List Value} (h : TrC enc Try.prog W 86 es) : ∃ a : DAct, es = a.cs ∧ a.In W := by
  obtain ⟨x0, x1, x2, x3, x4, rfl, g0, g1, g2, g3, g4⟩ := trc_five Try.underlying86 (by kernel_rfl) rfl rfl rfl rfl rfl (by kernel_rfl) (by kernel_rfl) (by kernel_rfl) (by kernel_rfl) (by kernel_rfl) h
  obtain ⟨n0, e0, w0⟩ := TrC.int Try.underlying5 g0
  obtain ⟨n1, e1, w1⟩ := TrC.int Try.underlying3 g1
  obtain ⟨n2, e2, w2⟩ := TrC.int Try.underlying3 g2
  obtain ⟨bs, hbs⟩ := TrC.bytes Try.underlying27 Try.underlying5 (by kernel_rfl) g3
  obtain ⟨fates, hfs, _⟩ := TrC.row (f := fI) (Good := fun _ => True) Try.underlying79 (by kernel_rfl) (fun es hes => by
    obtain ⟨n, rfl, _⟩ := hes.int Try.underlying3
    exact ⟨n, rfl, trivial⟩) g4
  simp at e0 e1 e2
  subst e0; subst e1; subst e2
  simp [Lit.wf, IntKind.min, IntKind.max, IntKind.signed, IntKind.bits] at w0 w1 w2
  refine ⟨⟨n0.toNat, n1, n2, bs, fates, x3, x4⟩, ?_, by show n0.toNat < 256; omega, by show n2 ≤ _; omega, hbs, hfs⟩
  show _ = [Value.int .u8 ((n0.toNat : Nat) : Int), .int .i64 n1, .int .i64 n2, x3, x4]
  rw [Int.toNat_of_nonneg w0.1]
theorem arg_acts {H : Type} {enc : TypeId × Value → H} {W : World} {base : Nat} {v : Value} {d : DataW H} {p : List MemPlace}
    (ok : Value.okWide Try.prog W .any base 83 v) (h : DataW.Trod enc Try.prog W 0 (fun _ => true) true 83 v d p) : ∃ l : List DAct, RowK 5 DAct.cs W v l ∧ ∀ a ∈ l, a.In W := by
  obtain ⟨a, n, c, rfl⟩ := okWide_slice Try.underlying83 ok
  exact TrC.rowK Try.underlying83 (by kernel_rfl) (fun es hes => trc_act hes) (TrC.of h)
theorem arg_act {H : Type} {enc : TypeId × Value → H} {W : World} {base : Nat} {v : Value} {d : DataW H} {p : List MemPlace}
    (ok : Value.okWide Try.prog W .any base 86 v) (h : DataW.Trod enc Try.prog W 0 (fun _ => true) true 86 v d p) : ∃ a : DAct, v = .agg a.cs.toArray ∧ a.In W := by
  obtain ⟨cs, rfl, hcs⟩ := okWide_struct Try.underlying86 ok
  obtain ⟨a, ha, hi⟩ := trc_act (TrC.of h)
  refine ⟨a, ?_, hi⟩
  have : cs = a.cs.toArray := by
    apply Array.ext'
    exact ha
  rw [this]
/-- Fates, as an argument. -/
theorem arg_fates {H : Type} {enc : TypeId × Value → H} {W : World} {base : Nat} {v : Value} {d : DataW H} {p : List MemPlace}
    (ok : Value.okWide Try.prog W .any base 79 v) (h : DataW.Trod enc Try.prog W 0 (fun _ => true) true 79 v d p) : ∃ l : List Int, Row fI W v l := by
  obtain ⟨a, n, c, rfl⟩ := okWide_slice Try.underlying79 ok
  obtain ⟨l, hl, _⟩ := TrC.row (f := fI) (Good := fun _ => True) Try.underlying79 (by kernel_rfl) (fun es hes => by
    obtain ⟨n, rfl, _⟩ := hes.int Try.underlying3
    exact ⟨n, rfl, trivial⟩) (TrC.of h)
  exact ⟨l, hl⟩
theorem b8_of {cs : List Value} (h : ∀ i, i < cs.length → ∃ u : UInt8, cs[i]? = some (.int .u8 ((u.toNat : Nat) : Int))) : ∃ xs : List UInt8, cs = B8 xs := by
  induction cs with
  | nil => exact ⟨[], rfl⟩
  | cons c cs ih =>
    obtain ⟨u, hu⟩ := h 0 (by simp)
    obtain ⟨xs, hx⟩ := ih (fun i hi => h (i + 1) (by simp; omega))
    simp at hu
    exact ⟨u :: xs, by rw [hu, hx]; rfl⟩
/-- An array of bytes, as an argument. -/
theorem arg_arr {P : Program} {H : Type} {enc : TypeId × Value → H} {W : World} {base : Nat} {v : Value} {d : DataW H} {p : List MemPlace} {t e n : TypeId} (ht : P.underlying t = some (.array n e)) (hc : P.cellsOf t = n) (he : P.underlying e = some (.int .u8)) (hce : P.cellsOf e = 1)
    (ok : Value.okWide P W .any base t v) (h : DataW.Trod enc P W 0 (fun _ => true) true t v d p) : ∃ xs : List UInt8, v = .agg (B8 xs).toArray ∧ xs.length = n := by
  have hs : ∃ cs, v = .agg cs ∧ cs.size = P.cellsOf t := by
    unfold Value.okWide at ok
    simp only [ht] at ok
    obtain ⟨cs, h1, h2, _⟩ := ok
    exact ⟨cs, h1, h2⟩
  obtain ⟨cs, rfl, hcs⟩ := hs
  obtain ⟨hl, hf⟩ := (TrC.of h).array ht
  have hcl : cs.toList.length = n := by rw [Array.length_toList, hcs, hc]
  obtain ⟨xs, hx⟩ := b8_of (cs := cs.toList) (fun i hi => by
    have g := hf i (by omega)
    rw [hce] at g
    obtain ⟨m, em, wm⟩ := TrC.int he g
    have e0 : (cs.toList.drop (i * 1)).take 1 = [.int .u8 m] := em
    have e1 := congrArg (fun x => x[0]?) e0
    simp only [List.getElem?_take, List.getElem?_drop] at e1
    obtain ⟨a, rfl, ha⟩ := wf_nat rfl (m := 256) (by decide) wm
    refine ⟨UInt8.ofNat a, ?_⟩
    rw [UInt8.toNat_ofNat', Nat.mod_eq_of_lt (by omega)]
    simpa using e1)
  refine ⟨xs, ?_, by have := congrArg List.length hx; rw [B8_length] at this; omega⟩
  have : cs = (B8 xs).toArray := by apply Array.ext'; exact hx
  rw [this]
/-- An act is copied from its list. -/
theorem X_takeAct {w : World} {v : Value} {l : List DAct} {i : Nat} {K : Value → Value → Value → World → Prop} (hl : RowK 5 DAct.cs w v l) (hi : i < l.length) (ha : l[i].In w)
    (hK : ∀ v1 v2 q w1, Ext w w1 → w.heap.size ≤ q → w1.heap[q]? = some (.cells l[i].cs.toArray 86 (0, 0)) → K v1 v2 (ptr q) w1) :
    X Try.prog (Instr.indexAt 83 v (.int .i64 (i : Int))) w fun v1 w1 => X Try.prog (Instr.loadAt 86 v1) w1 fun v2 w2 => X Try.prog (Instr.alloc 86 true (.tuple #[])) w2 fun v3 w3 => XU Try.prog (Instr.storeAt 86 v3 v2) w3 fun w4 => K v1 v2 v3 w4 := by
  obtain ⟨ad, hix, hcs⟩ := hl.at Try.underlying83 info_86 sz_86 (kd := .i64) i rfl hi
  refine X_of (hix _) ?_
  refine X_of (load_cells Try.underlying86 agg_86 info_86 (l := l[i].cs) (by rw [sz_86]; rfl) hcs) ?_
  refine X_alloc zero_86 ?_
  have hq := newB_get w #[(.int .u8 0), (.int .i64 0), (.int .i64 0), (.slice none 0 0), (.slice none 0 0)] 86
  have hxq := newB_ext w #[(.int .u8 0), (.int .i64 0), (.int .i64 0), (.slice none 0 0), (.slice none 0 0)] 86
  show XU _ _ (newB w #[(.int .u8 0), (.int .i64 0), (.int .i64 0), (.slice none 0 0), (.slice none 0 0)] 86) _
  generalize newB w #[(.int .u8 0), (.int .i64 0), (.int .i64 0), (.slice none 0 0), (.slice none 0 0)] 86 = w2 at hq hxq ⊢
  refine XU_storeAgg info_86 hq (by rw [sz_86]; rfl) (by rw [sz_86]; rfl) (DAct.one ha) ?_
  exact hK _ _ _ _ (Ext.seq hxq (setAt_keep _ _ _ _ _) (fun j hj => by omega)) (Nat.le_refl _) (setAt_same (lt_of_blk hq))
end Go.Proofs.Ytggggfcgnkllgaa
end
section
/- cellaragelaw08: few, does, model, alike, shown. -/
set_option linter.unusedVariables false
set_option linter.unusedSimpArgs false
namespace Go.Proofs.Ytggggfcgnkllgaa
open Go Go.Sh Go.RowKit
attribute [local irreducible] X XU XP XR CALL loopS resC closS
/-- An act on the plain disk. -/
def _root_.Go.Sh.Dk.act (d : Dk) (a : DAct) : Dk × Int :=
  if a.kind % 5 = 0 then d.write a.pos a.bs
  else if a.kind % 5 = 1 then d.flush
  else if a.kind % 5 = 2 then (d.cut a.num, 0)
  else if a.kind % 5 = 3 then (d.crash a.fates, 0)
  else (d, 0)
theorem _root_.Go.Sh.Dk.act_ok {d : Dk} (h : d.ok) {a : DAct} {W : World} (ha : a.In W) : (d.act a).1.ok := by
  unfold Dk.act
  split
  · exact Dk.write_ok h _ _
  · split
    · exact Dk.flush_ok h
    · split
      · exact Dk.cut_ok h ha.num
      · split
        · exact Dk.crash_ok h _
        · exact h
theorem _root_.Go.Sh.Dk.act_size (d : Dk) (a : DAct) : (d.act a).1.safe.length = d.safe.length := by
  unfold Dk.act
  split
  · exact Dk.write_size _ _ _
  · split
    · exact Dk.flush_size _
    · split
      · exact Dk.cut_size _ _
      · split
        · exact Dk.crash_size _ _
        · rfl
theorem _root_.Go.Sh.Dk.act_ws (d : Dk) (a : DAct) : (d.act a).1.ws.length ≤ d.ws.length + 1 := by
  unfold Dk.act
  split
  · exact Dk.write_ws _ _ _
  · split
    · have := Dk.flush_ws d; omega
    · split
      · unfold Dk.cut; split <;> simp
      · split
        · simp [Dk.crash]
        · simp
theorem kind5 (T : TypeId) (k : Nat) (w : World) : (binOp .rem T (.int .u8 (k : Int)) (.int .u8 5)).run Try.prog w = .ok (.int .u8 ((k % 5 : Nat) : Int)) w := by
  rw [run_rem _ _ _ _ (by decide)]
  rfl
/-- The acts' slices lie apart from the object b. -/
def Off (w : World) (b : Nat) (a : DAct) : Prop := (0 < a.bs.length → ∀ k, a.bv.ownBlock = some k → ¬ foot w b k) ∧ (0 < a.fates.length → ∀ k, a.fv.ownBlock = some k → ¬ foot w b k)
theorem off_of {W w : World} {b : Nat} {a : DAct} (ha : a.In W) (hl : ∀ k, foot w b k → W.heap.size ≤ k) : Off w b a :=
  ⟨fun h0 k hk hf => by have := ha.bts.blk_lt h0 k hk; have := hl k hf; omega, fun h0 k hk hf => by have := ha.fate.blk_lt h0 k hk; have := hl k hf; omega⟩
section
variable {w : World} {b : Nat} {d : Dk} {K : Value → World → Prop}
theorem does_spec {a : DAct} (h : DiskAt w b d) (hw : d.ws.length ≤ 1000000) (ha : a.In w) (hoff : Off w b a) (hlen : a.bs.length ≤ 140737488351232)
    (hK : ∀ w1, DiskAt w1 b (d.act a).1 → Step b w w1 → K (i64v (d.act a).2) w1) : CALL Try.prog 75 #[ptr b, .agg a.cs.toArray] w K := by
  apply call_law08_does
  unfold B_law08_does
  refine X_box ?_
  have hq := newB_get w a.cs.toArray 86
  have hx := newB_ext w a.cs.toArray 86
  show joinS _ _
  have hc : (Value.agg a.cs.toArray).cells = a.cs.toArray := rfl
  rw [hc]
  have hqn : ¬ foot (newB w a.cs.toArray 86) b w.heap.size := fun hf => by
    have := h.lt _ ((foot_same (hx.block b (h.lt b (foot_self w b)) (fun h => h))).1 hf)
    omega
  generalize newB w a.cs.toArray 86 = w1 at hq hx hqn ⊢
  have h1 := h.ext hx
  have ha1 := ha.ext hx
  have s1 : Step b w w1 := Step.ext hx (h.lt b (foot_self w b))
  have hoff1 : Off w1 b a := ⟨fun h0 k hk hf => hoff.1 h0 k hk ((foot_same (hx.block b (h.lt b (foot_self w b)) (fun h => h))).1 hf), fun h0 k hk hf => hoff.2 h0 k hk ((foot_same (hx.block b (h.lt b (foot_self w b)) (fun h => h))).1 hf)⟩
  refine joinS_of (fun _ w' => (d.act a).2 = 0 ∧ DiskAt w' b (d.act a).1 ∧ Step b w w') ?_ ?_
  · rintro ρ w' ⟨e, h', s'⟩
    have := hK w' h' s'
    rw [e] at this
    exact this
  intro J hJ
  simp only [X_field_86_0]
  refine X_loadL agg_5 hq rfl ?_
  refine X_of (kind5 5 a.kind _) ?_
  simp only [X_eql, condS_bool]
  by_cases k0 : a.kind % 5 = 0
  · have e : d.act a = d.write a.pos a.bs := by unfold Dk.act; rw [if_pos k0]
    rw [if_pos (by simp [k0])]
    have hfl : ∀ k, foot w1 b k → k < w1.heap.size := h1.lt
    refine ⟨Keep (fun k => foot w1 b k ∨ w1.heap.size ≤ k), Keep.frame _, ?_⟩
    have hxd := Keep.drew (fun _ => False) w1
    have hqd : (drewW w1).heap[w.heap.size]? = some (.cells a.cs.toArray 86 (0, 0)) := hq
    have hqn' : ¬ (foot w1 b w.heap.size ∨ w1.heap.size ≤ w.heap.size) := fun h => h.elim hqn (fun h => by have := lt_of_blk hq; omega)
    simp only [XP_field_86_1, XP_field_86_3]
    refine XR_ok (Keep.frame _) (fun w' k => run_loadAt agg_3 (blk_get (k.get hqn' hqd) (v := .int .i64 a.pos) rfl)) ?_
    refine XR_ok (Keep.frame _) (fun w' k => run_loadAt agg_27 (blk_get (k.get hqn' hqd) (v := a.bv) rfl)) ?_
    refine X_of (run_empty27 _) ?_
    have hx2 := newB_ext (drewW w1) #[] 5
    have ho2 := own_emptyT (drewW w1) 5 1
    refine ⟨hx2.ext, ?_⟩
    refine X_append_bts (base := (drewW w1).heap.size) Try.underlying27 el_5 (xs := []) ho2 ((ha1.bts.ext hxd).ext hx2) (by omega) hx2.size ?_
    intro v3 w3 ho3 hk3
    rw [Nat.zero_add, List.nil_append] at ho3
    have hx3 : Ext (drewW w1) w3 := Ext.seq hx2 hk3 (fun i hi => by injection hi with hi; exact Nat.le_of_eq hi.symm)
    refine ⟨hk3.mono (fun i hi hi' => .inr (by injection hi' with hi'; exact Nat.le_of_eq hi'.symm)), ?_⟩
    have hx13 := hxd.trans hx3
    refine Write_spec (h1.ext hx13) hw (own_bts ho3).1 (fun h0 k hk hf => ?_) ?_
    · have := (ho3.lt k hk).1
      have := hfl k ((foot_same (hx13.block b (h1.lt b (foot_self w1 b)) (fun h => h))).1 hf)
      have e0 : (drewW w1).heap.size = w1.heap.size := rfl
      omega
    intro w4 h4 s4
    refine ⟨s4.keep.mono (fun i hi hf => .inl ((foot_same (hx13.block b (h1.lt b (foot_self w1 b)) (fun h => h))).1 hf)), ?_⟩
    have := hK w4 (by rw [e]; exact h4) (s1.trans ((Step.ext hx13 (h1.lt b (foot_self w1 b))).trans s4))
    rw [e] at this
    exact this
  rw [if_neg (by simp; omega)]
  by_cases k1 : a.kind % 5 = 1
  · have e : d.act a = d.flush := by unfold Dk.act; rw [if_neg k0, if_pos k1]
    rw [if_pos (by simp [k1])]
    refine Flush_spec h1 ?_
    intro w4 h4 s4
    have := hK w4 (by rw [e]; exact h4) (s1.trans s4)
    rw [e] at this
    exact this
  rw [if_neg (by simp; omega)]
  by_cases k2 : a.kind % 5 = 2
  · have e : d.act a = (d.cut a.num, 0) := by unfold Dk.act; rw [if_neg k0, if_neg k1, if_pos k2]
    rw [if_pos (by simp [k2])]
    simp only [X_field_86_2]
    refine X_loadL agg_3 hq (v := .int .i64 a.num) rfl ?_
    refine Cut_spec ha.num h1 ?_
    intro w4 h4 s4
    exact hJ _ _ ⟨by rw [e], by rw [e]; exact h4, s1.trans s4⟩
  rw [if_neg (by simp; omega)]
  by_cases k3 : a.kind % 5 = 3
  · have e : d.act a = (d.crash a.fates, 0) := by unfold Dk.act; rw [if_neg k0, if_neg k1, if_neg k2, if_pos k3]
    rw [if_pos (by simp [k3])]
    simp only [X_field_86_4]
    refine X_loadL agg_79 hq (v := a.fv) rfl ?_
    refine Crash_spec h1 ha1.fate hoff1.2 ?_
    intro w4 h4 s4
    exact hJ _ _ ⟨by rw [e], by rw [e]; exact h4, s1.trans s4⟩
  rw [if_neg (by simp; omega)]
  have e : d.act a = (d, 0) := by unfold Dk.act; rw [if_neg k0, if_neg k1, if_neg k2, if_neg k3]
  exact hJ _ _ ⟨by rw [e], by rw [e]; exact h1, s1⟩
theorem model_spec {a : DAct} (h : RefAt w b d) (hw : d.ws.length ≤ 1000000) (ha : a.In w) (hoff : Off w b a)
    (hK : ∀ w1, RefAt w1 b (d.act a).1 → Step b w w1 → K (i64v (d.act a).2) w1) : CALL Try.prog 82 #[ptr b, .agg a.cs.toArray] w K := by
  apply call_law08_model
  unfold B_law08_model
  refine X_box ?_
  have hq := newB_get w a.cs.toArray 86
  have hx := newB_ext w a.cs.toArray 86
  show joinS _ _
  have hc : (Value.agg a.cs.toArray).cells = a.cs.toArray := rfl
  rw [hc]
  generalize newB w a.cs.toArray 86 = w1 at hq hx ⊢
  have h1 := h.ext hx
  have ha1 := ha.ext hx
  have s1 : Step b w w1 := Step.ext hx (h.lt b (foot_self w b))
  have hoff1 : Off w1 b a := ⟨fun h0 k hk hf => hoff.1 h0 k hk ((foot_same (hx.block b (h.lt b (foot_self w b)) (fun h => h))).1 hf), fun h0 k hk hf => hoff.2 h0 k hk ((foot_same (hx.block b (h.lt b (foot_self w b)) (fun h => h))).1 hf)⟩
  refine joinS_of (fun _ w' => (d.act a).2 = 0 ∧ RefAt w' b (d.act a).1 ∧ Step b w w') ?_ ?_
  · rintro ρ w' ⟨e, h', s'⟩
    have := hK w' h' s'
    rw [e] at this
    exact this
  intro J hJ
  simp only [X_field_86_0]
  refine X_loadL agg_5 hq rfl ?_
  refine X_of (kind5 5 a.kind _) ?_
  simp only [X_eql, condS_bool]
  by_cases k0 : a.kind % 5 = 0
  · have e : d.act a = d.write a.pos a.bs := by unfold Dk.act; rw [if_pos k0]
    rw [if_pos (by simp [k0])]
    simp only [X_field_86_1, X_field_86_3]
    refine X_loadL agg_3 hq (v := .int .i64 a.pos) rfl ?_
    refine X_loadL agg_27 hq (v := a.bv) rfl ?_
    refine X_str Try.underlying27 Try.underlying5 Try.underlying9 ha1.bts ?_
    refine RWrite_spec h1 hw ?_
    intro w4 h4 s4
    have := hK w4 (by rw [e]; exact h4) (s1.trans s4)
    rw [e] at this
    exact this
  rw [if_neg (by simp; omega)]
  by_cases k1 : a.kind % 5 = 1
  · have e : d.act a = d.flush := by unfold Dk.act; rw [if_neg k0, if_pos k1]
    rw [if_pos (by simp [k1])]
    refine RFlush_spec h1 hw ?_
    intro w4 h4 s4
    have := hK w4 (by rw [e]; exact h4) (s1.trans s4)
    rw [e] at this
    exact this
  rw [if_neg (by simp; omega)]
  by_cases k2 : a.kind % 5 = 2
  · have e : d.act a = (d.cut a.num, 0) := by unfold Dk.act; rw [if_neg k0, if_neg k1, if_pos k2]
    rw [if_pos (by simp [k2])]
    simp only [X_field_86_2]
    refine X_loadL agg_3 hq (v := .int .i64 a.num) rfl ?_
    refine RCut_spec ha.num h1 ?_
    intro w4 h4 s4
    exact hJ _ _ ⟨by rw [e], by rw [e]; exact h4, s1.trans s4⟩
  rw [if_neg (by simp; omega)]
  by_cases k3 : a.kind % 5 = 3
  · have e : d.act a = (d.crash a.fates, 0) := by unfold Dk.act; rw [if_neg k0, if_neg k1, if_neg k2, if_pos k3]
    rw [if_pos (by simp [k3])]
    simp only [X_field_86_4]
    refine X_loadL agg_79 hq (v := a.fv) rfl ?_
    refine RCrash_spec h1 hw ha1.fate hoff1.2 ?_
    intro w4 h4 s4
    exact hJ _ _ ⟨by rw [e], by rw [e]; exact h4, s1.trans s4⟩
  rw [if_neg (by simp; omega)]
  have e : d.act a = (d, 0) := by unfold Dk.act; rw [if_neg k0, if_neg k1, if_neg k2, if_neg k3]
  exact hJ _ _ ⟨by rw [e], by rw [e]; exact h1, s1⟩
theorem does_nil {a : DAct} (ha : a.In w) (hlen : a.bs.length ≤ 140737488351232) (hK : ∀ w1, Ext w w1 → K (i64v (if a.kind % 5 < 2 then 2 else 0)) w1) : CALL Try.prog 75 #[.pointer none, .agg a.cs.toArray] w K := by
  apply call_law08_does
  unfold B_law08_does
  refine X_box ?_
  have hq := newB_get w a.cs.toArray 86
  have hx := newB_ext w a.cs.toArray 86
  show joinS _ _
  have hc : (Value.agg a.cs.toArray).cells = a.cs.toArray := rfl
  rw [hc]
  generalize newB w a.cs.toArray 86 = w1 at hq hx ⊢
  have ha1 := ha.ext hx
  refine joinS_of (fun _ w' => ¬ a.kind % 5 < 2 ∧ Ext w w') ?_ ?_
  · rintro ρ w' ⟨e, h'⟩
    have := hK w' h'
    rw [if_neg e] at this
    exact this
  intro J hJ
  simp only [X_field_86_0]
  refine X_loadL agg_5 hq rfl ?_
  refine X_of (kind5 5 a.kind _) ?_
  simp only [X_eql, condS_bool]
  by_cases k0 : a.kind % 5 = 0
  · rw [if_pos (by simp [k0])]
    refine ⟨Keep (fun k => w1.heap.size ≤ k), Keep.frame _, ?_⟩
    have hxd := Keep.drew (fun _ => False) w1
    have hqd : (drewW w1).heap[w.heap.size]? = some (.cells a.cs.toArray 86 (0, 0)) := hq
    have hqn' : ¬ (w1.heap.size ≤ w.heap.size) := fun h => by have := lt_of_blk hq; omega
    simp only [XP_field_86_1, XP_field_86_3]
    refine XR_ok (Keep.frame _) (fun w' k => run_loadAt agg_3 (blk_get (k.get hqn' hqd) (v := .int .i64 a.pos) rfl)) ?_
    refine XR_ok (Keep.frame _) (fun w' k => run_loadAt agg_27 (blk_get (k.get hqn' hqd) (v := a.bv) rfl)) ?_
    refine X_of (run_empty27 _) ?_
    have hx2 := newB_ext (drewW w1) #[] 5
    have ho2 := own_emptyT (drewW w1) 5 1
    refine ⟨hx2.ext, ?_⟩
    refine X_append_bts (base := (drewW w1).heap.size) Try.underlying27 el_5 (xs := []) ho2 ((ha1.bts.ext hxd).ext hx2) (by omega) hx2.size ?_
    intro v3 w3 ho3 hk3
    have hx3 : Ext (drewW w1) w3 := Ext.seq hx2 hk3 (fun i hi => by injection hi with hi; exact Nat.le_of_eq hi.symm)
    refine ⟨hk3.mono (fun i hi hi' => by injection hi' with hi'; exact Nat.le_of_eq hi'.symm), ?_⟩
    refine Write_nil ?_
    refine ⟨Keep.refl _ _, ?_⟩
    have := hK w3 (hx.trans (hxd.trans hx3))
    rw [if_pos (by omega)] at this
    exact this
  rw [if_neg (by simp; omega)]
  by_cases k1 : a.kind % 5 = 1
  · rw [if_pos (by simp [k1])]
    refine Flush_nil ?_
    have := hK w1 hx
    rw [if_pos (by omega)] at this
    exact this
  rw [if_neg (by simp; omega)]
  by_cases k2 : a.kind % 5 = 2
  · rw [if_pos (by simp [k2])]
    simp only [X_field_86_2]
    refine X_loadL agg_3 hq (v := .int .i64 a.num) rfl ?_
    refine Cut_nil ?_
    exact hJ _ _ ⟨by omega, hx⟩
  rw [if_neg (by simp; omega)]
  by_cases k3 : a.kind % 5 = 3
  · rw [if_pos (by simp [k3])]
    simp only [X_field_86_4]
    refine X_loadL agg_79 hq (v := a.fv) rfl ?_
    refine Crash_nil ?_
    exact hJ _ _ ⟨by omega, hx⟩
  rw [if_neg (by simp; omega)]
  exact hJ _ _ ⟨by omega, hx⟩
/-- The first acts. -/
theorem few_spec {l : List DAct} {v : Value} (hl : RowK 5 DAct.cs w v l) (hin : ∀ a ∈ l, a.In w) 
    (hK : ∀ m v1, m ≤ 100 → m ≤ l.length → (∀ W, RowK 5 DAct.cs W v l → RowK 5 DAct.cs W v1 (l.take m)) → (∀ a ∈ l.take m, a.bs.length ≤ 20000) → K v1 w) : CALL Try.prog 74 #[v] w K := by
  obtain ⟨a0, c0, e0⟩ := hl.slice
  have hn : l.length ≤ 9223372036854775807 := by
    obtain ⟨_, c, _, h1, h2, _⟩ := hl
    omega
  apply call_law08_few
  unfold B_law08_few
  rw [e0, X_len_83, ← e0]
  refine loopE (fun ρ wr => wr = w ∧ ∃ i left : Nat, i ≤ l.length ∧ i ≤ 100 ∧ left ≤ 20000 ∧ (∀ a ∈ l.take i, a.bs.length ≤ 20000) ∧ ρ 7 = .int .i64 (i : Nat) ∧ ρ 6 = .int .i64 (l.length : Nat) ∧ ρ 0 = v ∧ ρ 3 = .int .i64 (left : Nat))
    (fun ρ wr => match ρ 7 with | .int _ s => (l.length - s).toNat | _ => 0)
    (fun ρ wr => wr = w ∧ l.length ≤ 100 ∧ (∀ a ∈ l, a.bs.length ≤ 20000) ∧ ρ 0 = v) ?_ ?_ ?_
  · exact ⟨rfl, 0, 20000, by omega, by omega, by omega, by simp, rfl, rfl, rfl, rfl⟩
  · rintro J hJ ρ wr ⟨rfl, i, left, hi, hi100, hleft, hall, h7, h6, h0, h3⟩
    rw [h7, h6, X_lss, condS_bool]
    by_cases hin' : i = l.length
    · rw [if_neg (by simp; omega)]
      refine hJ _ _ ⟨rfl, by omega, ?_, h0⟩
      rw [hin', List.take_length] at hall
      exact hall
    rw [if_pos (by simp; omega)]
    have hlt : i < l.length := by omega
    have stop : Go.Sh.X Try.prog (Instr.sliceAt 83 v none (some (.int .i64 (i : Int))) none) wr fun v13 w22 => K v13 w22 := by
      obtain ⟨u, hu, hru⟩ := hl.cut Try.underlying83 info_86 (kh := .i64) (hj := (i : Int)) i rfl hi
      refine X_of (hu _) (hK i u hi100 hi (fun W hW => ?_) hall)
      obtain ⟨u', hu', hru'⟩ := hW.cut Try.underlying83 info_86 (kh := .i64) (hj := (i : Int)) i rfl hi
      have := (hu wr).symm.trans (hu' wr)
      injection this with this
      rw [this]
      exact hru'
    obtain ⟨ad, hix, hcs⟩ := hl.at Try.underlying83 info_86 sz_86 (kd := .i64) i rfl hlt
    have hini := hin _ (List.getElem_mem hlt)
    obtain ⟨ab, cb, eb⟩ := Bts.slice hini.bts
    have hfield : (Instr.fieldAt 86 (.pointer (some ad)) 3).run Try.prog wr = .ok (.pointer (some (ad.add 3))) wr := by kernel_rfl
    have hld : (Instr.loadAt 27 (.pointer (some (ad.add 3)))).run Try.prog wr = .ok l[i].bv wr := run_loadAt agg_27 (hcs 3 _ rfl)
    rw [h0, h3]
    rw [X_geq]
    by_cases h100 : i = 100
    · have e1 : decide ((i : Int) ≥ 100) = true := by simp; omega
      simp only [e1, GS]
      exact stop
    have e1 : decide ((i : Int) ≥ 100) = false := by simp; omega
    simp only [e1, GS]
    refine X_of (hix _) ?_
    refine X_of hfield ?_
    refine X_of hld ?_
    rw [eb]
    simp only [X_len_27, X_gtr, GS]
    rw [condS_bool]
    by_cases hbig : left < l[i].bs.length
    · rw [if_pos (by simp; omega)]
      exact stop
    rw [if_neg (by simp; omega)]
    refine X_of (hix _) ?_
    refine X_of hfield ?_
    refine X_of hld ?_
    rw [eb]
    simp only [X_len_27, X_sub, X_add]
    show _ ∧ _
    refine ⟨⟨rfl, i + 1, left - l[i].bs.length, by omega, by omega, by omega, ?_, next64 (n := 100) (by decide) (by omega), h6, h0, ?_⟩, ?_⟩
    · intro a ha
      rw [List.take_succ_eq_append_getElem hlt] at ha
      rcases List.mem_append.1 ha with ha | ha
      · exact hall a ha
      · rw [List.mem_singleton.1 ha]; omega
    · show Value.int .i64 (IntKind.i64.wrap ((left : Int) - (l[i].bs.length : Int))) = _
      have e : (left : Int) - (l[i].bs.length : Int) = ((left - l[i].bs.length : Nat) : Int) := by omega
      rw [w64 (by omega) (by omega), e]
    · show (_ - IntKind.i64.wrap _).toNat < _
      rw [w64 (by omega) (by omega)]
      first | omega | (show _ < (_ : Int).toNat; omega)
  · rintro ρ wr ⟨rfl, h100, hall, h0⟩
    rw [h0]
    exact hK l.length v h100 (Nat.le_refl _) (fun W hW => by rw [List.take_length]; exact hW) (by rw [List.take_length]; exact hall)
end
end Go.Proofs.Ytggggfcgnkllgaa
end
section
/- Check sums: plain Lean over words of 32 bits. -/
set_option linter.unusedSimpArgs false
namespace Go.Sh
abbrev W32 := BitVec 32
def poly : W32 := BitVec.ofNat 32 79764919
def bit1 (c : W32) : W32 := (c <<< 1) ^^^ (if c.msb = true then poly else 0#32)
def iter : Nat → W32 → W32
  | 0, c => c
  | k + 1, c => iter k (bit1 c)
/-- A byte at the top of a word. -/
def top (u : UInt8) : W32 := BitVec.ofNat 32 u.toNat <<< 24
def step8 (u : UInt8) : W32 := iter 8 (top u)
def upd1 (c : W32) (u : UInt8) : W32 := iter 8 (c ^^^ top u)
def fold (c : W32) (l : List UInt8) : W32 := l.foldl upd1 c
def more (c : W32) (l : List UInt8) : W32 := ~~~ (fold (~~~ c) l)
def crc (l : List UInt8) : W32 := more 0#32 l

theorem bit1_xor (a b : W32) : bit1 (a ^^^ b) = bit1 a ^^^ bit1 b := by
  unfold bit1
  rw [BitVec.shiftLeft_xor_distrib, BitVec.msb_xor]
  cases ha : a.msb <;> cases hb : b.msb
  · simp
  · simp [BitVec.xor_assoc]
  · simp only [Bool.xor_false, if_true, Bool.false_eq_true, if_false, BitVec.xor_zero]
    rw [BitVec.xor_assoc, BitVec.xor_comm (b <<< 1), ← BitVec.xor_assoc]
  · simp only [Bool.xor_self, Bool.false_eq_true, if_false, if_true, BitVec.xor_zero]
    rw [BitVec.xor_assoc, BitVec.xor_comm poly, BitVec.xor_assoc (b <<< 1), BitVec.xor_self, BitVec.xor_zero]
theorem bit1_zero : bit1 0#32 = 0#32 := by decide
theorem iter_xor (k : Nat) (a b : W32) : iter k (a ^^^ b) = iter k a ^^^ iter k b := by
  induction k generalizing a b with
  | zero => rfl
  | succ k ih => show iter k (bit1 _) = _; rw [bit1_xor, ih]; rfl
theorem iter_zero (k : Nat) : iter k 0#32 = 0#32 := by
  induction k with
  | zero => rfl
  | succ k ih => show iter k (bit1 0#32) = 0#32; rw [bit1_zero, ih]
theorem iter_add (j k : Nat) (c : W32) : iter (j + k) c = iter k (iter j c) := by
  induction j generalizing c with
  | zero => rw [Nat.zero_add]; rfl
  | succ j ih => rw [Nat.succ_add]; show iter (j + k) (bit1 c) = _; rw [ih]; rfl
theorem iter_succ (k : Nat) (c : W32) : iter (k + 1) c = bit1 (iter k c) := iter_add k 1 c
theorem iter_small (k : Nat) (c : W32) (h : c.toNat * 2 ^ k < 2 ^ 32) : iter k c = c <<< k := by
  induction k generalizing c with
  | zero => simp [iter]
  | succ k ih =>
    have hp : 1 ≤ 2 ^ k := Nat.one_le_two_pow
    have h2 : c.toNat * 2 < 2 ^ 32 := by
      have : c.toNat * 2 * 1 ≤ c.toNat * 2 * 2 ^ k := Nat.mul_le_mul_left _ hp
      rw [Nat.pow_succ, Nat.mul_comm (2 ^ k), ← Nat.mul_assoc] at h
      omega
    have hm : c.msb = false := by
      rw [BitVec.msb_eq_decide]
      simp
      omega
    have hb : bit1 c = c <<< 1 := by simp [bit1, hm]
    have ht : (c <<< 1).toNat = c.toNat * 2 := by
      rw [BitVec.toNat_shiftLeft, Nat.shiftLeft_eq, Nat.pow_one, Nat.mod_eq_of_lt h2]
    show iter k (bit1 c) = _
    rw [hb, ih _ (by rw [ht]; rw [Nat.pow_succ, Nat.mul_comm (2 ^ k), ← Nat.mul_assoc] at h; exact h), ← BitVec.shiftLeft_add, Nat.add_comm]

theorem top_xor (a b : UInt8) : top (a ^^^ b) = top a ^^^ top b := by
  unfold top
  rw [← BitVec.shiftLeft_xor_distrib, UInt8.toNat_xor]
  congr 1
  apply BitVec.eq_of_toNat_eq
  rw [BitVec.toNat_xor, BitVec.toNat_ofNat, BitVec.toNat_ofNat, BitVec.toNat_ofNat]
  have ha := a.toNat_lt
  have hb := b.toNat_lt
  have hx : a.toNat ^^^ b.toNat < 2 ^ 8 := Nat.xor_lt_two_pow ha hb
  rw [Nat.mod_eq_of_lt (by omega), Nat.mod_eq_of_lt (by omega), Nat.mod_eq_of_lt (by omega)]
theorem split_word (c : W32) : c = ((c >>> 24) <<< 24) ^^^ ((c <<< 8) >>> 8) := by
  apply BitVec.eq_of_getLsbD_eq
  intro i hi
  simp only [BitVec.getLsbD_xor, BitVec.getLsbD_shiftLeft, BitVec.getLsbD_ushiftRight]
  by_cases h : i < 24
  · have h1 : decide (i < 24) = true := by simpa using h
    have h2 : decide (8 + i < 32) = true := by simp; omega
    have h3 : decide (8 + i < 8) = false := by simp
    have h4 : 8 + i - 8 = i := by omega
    simp [h1, h2, h3, h4]
  · have h1 : decide (i < 24) = false := by simpa using h
    have h2 : decide (8 + i < 32) = false := by simp; omega
    have h4 : 24 + (i - 24) = i := by omega
    simp [h1, h2, h4, hi]
theorem shl8_back (c : W32) : ((c <<< 8) >>> 8) <<< 8 = c <<< 8 := by
  apply BitVec.eq_of_getLsbD_eq
  intro i hi
  simp only [BitVec.getLsbD_shiftLeft, BitVec.getLsbD_ushiftRight]
  by_cases h : i < 8
  · simp [h]
  · have h2 : 8 + (i - 8) = i := by omega
    simp [h, h2, hi]
/-- The high byte of a word. -/
def hi8 (c : W32) : UInt8 := UInt8.ofNat (c >>> 24).toNat
theorem hi8_lt (c : W32) : (c >>> 24).toNat < 256 := by
  rw [BitVec.toNat_ushiftRight, Nat.shiftRight_eq_div_pow]
  have := c.isLt
  omega
theorem hi8_toNat (c : W32) : (hi8 c).toNat = (c >>> 24).toNat := by
  unfold hi8
  rw [UInt8.toNat_ofNat']
  exact Nat.mod_eq_of_lt (hi8_lt c)
theorem top_hi8 (c : W32) : top (hi8 c) = (c >>> 24) <<< 24 := by
  unfold top
  rw [hi8_toNat]
  congr 1
  apply BitVec.eq_of_toNat_eq
  rw [BitVec.toNat_ofNat]
  have := hi8_lt c
  exact Nat.mod_eq_of_lt (by omega)
theorem upd_eq (c : W32) (u : UInt8) : (c <<< 8) ^^^ step8 (hi8 c ^^^ u) = upd1 c u := by
  have h1 : iter 8 ((c <<< 8) >>> 8) = c <<< 8 := by
    rw [iter_small, shl8_back]
    rw [BitVec.toNat_ushiftRight, Nat.shiftRight_eq_div_pow]
    have := (c <<< 8).isLt
    omega
  unfold upd1 step8
  rw [top_xor, top_hi8, ← h1, ← iter_xor]
  congr 1
  conv => rhs; rw [split_word c]
  rw [← BitVec.xor_assoc, BitVec.xor_comm ((c <<< 8) >>> 8)]
theorem fold_nil (c : W32) : fold c [] = c := rfl
theorem fold_cons (c : W32) (u : UInt8) (l : List UInt8) : fold c (u :: l) = fold (upd1 c u) l := rfl
theorem fold_append (c : W32) (a b : List UInt8) : fold c (a ++ b) = fold (fold c a) b := List.foldl_append
theorem more_append (c : W32) (a b : List UInt8) : more (more c a) b = more c (a ++ b) := by
  unfold more
  rw [BitVec.not_not, fold_append]
/-- Four bytes of a word, at once. -/
theorem fold_be4 (c d : W32) : fold c (be 4 d.toNat) = iter 32 (c ^^^ d) := by
  obtain ⟨n, hn⟩ : ∃ n, n = d.toNat := ⟨_, rfl⟩
  have hlt := d.isLt
  have small : ∀ (u : UInt8) (k : Nat), k ≤ 3 → iter (8 * k) (BitVec.ofNat 32 u.toNat <<< (24 - 8 * k)) = top u := by
    intro u k hk
    have hu := u.toNat_lt
    rw [iter_small, ← BitVec.shiftLeft_add]
    · unfold top; congr 1; omega
    · rw [BitVec.toNat_shiftLeft, Nat.shiftLeft_eq, BitVec.toNat_ofNat, Nat.mod_eq_of_lt (a := u.toNat) (by omega)]
      have hk' : k = 0 ∨ k = 1 ∨ k = 2 ∨ k = 3 := by omega
      rcases hk' with rfl | rfl | rfl | rfl <;> simp <;> omega
  have hd : d = (BitVec.ofNat 32 (UInt8.ofNat (n / 256 ^ 3)).toNat <<< 24) ^^^ (BitVec.ofNat 32 (UInt8.ofNat (n / 256 ^ 2)).toNat <<< 16) ^^^ (BitVec.ofNat 32 (UInt8.ofNat (n / 256 ^ 1)).toNat <<< 8) ^^^ BitVec.ofNat 32 (UInt8.ofNat (n / 256 ^ 0)).toNat := by
    apply BitVec.eq_of_getLsbD_eq
    intro i hi
    simp only [BitVec.getLsbD_xor, BitVec.getLsbD_shiftLeft, BitVec.getLsbD_ofNat, UInt8.toNat_ofNat']
    have e : d.getLsbD i = n.testBit i := by rw [hn]; rfl
    have p3 : 256 ^ 3 = 2 ^ 24 := by decide
    have p2 : 256 ^ 2 = 2 ^ 16 := by decide
    have p1 : 256 ^ 1 = 2 ^ 8 := by decide
    have p0 : 256 ^ 0 = 2 ^ 0 := by decide
    have pm : (2 : Nat) ^ 8 = 2 ^ 8 := rfl
    rw [e, p3, p2, p1, p0]
    simp only [Nat.testBit_mod_two_pow, Nat.testBit_div_two_pow]
    have hc : i < 8 ∨ (8 ≤ i ∧ i < 16) ∨ (16 ≤ i ∧ i < 24) ∨ 24 ≤ i := by omega
    rcases hc with h | ⟨h, h'⟩ | ⟨h, h'⟩ | h
    · have a1 : i < 16 := by omega
      have a2 : i < 24 := by omega
      have a3 : i < 32 := by omega
      simp [h, a1, a2, a3]
    · have a1 : ¬ i < 8 := by omega
      have a2 : i < 24 := by omega
      have a3 : i - 8 < 8 := by omega
      have a4 : i - 8 < 32 := by omega
      have a5 : i - 8 + 8 = i := by omega
      have a6 : 8 + (i - 8) = i := by omega
      simp [h', a1, a2, a3, a4, a5, a6, hi]
    · have a1 : ¬ i < 8 := by omega
      have a2 : ¬ i < 16 := by omega
      have a3 : ¬ i - 8 < 8 := by omega
      have a4 : i - 16 < 8 := by omega
      have a7 : i - 16 < 32 := by omega
      have a5 : i - 16 + 16 = i := by omega
      have a6 : 16 + (i - 16) = i := by omega
      simp [h', a1, a2, a3, a4, a5, a6, a7, hi]
    · have a1 : ¬ i < 8 := by omega
      have a2 : ¬ i < 16 := by omega
      have a3 : ¬ i < 24 := by omega
      have a4 : ¬ i - 8 < 8 := by omega
      have a5 : ¬ i - 16 < 8 := by omega
      have a6 : i - 24 < 8 := by omega
      have a9 : i - 24 < 32 := by omega
      have a7 : i - 24 + 24 = i := by omega
      have a8 : 24 + (i - 24) = i := by omega
      simp [a1, a2, a3, a4, a5, a6, a7, a8, a9, hi]
  rw [← hn]
  show upd1 (upd1 (upd1 (upd1 c _) _) _) _ = _
  unfold upd1
  have e2 := small (UInt8.ofNat (n / 256 ^ 2)) 1 (by omega)
  have e1 := small (UInt8.ofNat (n / 256 ^ 1)) 2 (by omega)
  have e0 := small (UInt8.ofNat (n / 256 ^ 0)) 3 (by omega)
  rw [← e2, ← e1, ← e0]
  have i1 : ∀ x y : W32, iter 8 x ^^^ iter (8 * 1) y = iter 8 (x ^^^ y) := fun x y => (iter_xor 8 x y).symm
  have i2 : ∀ x y : W32, iter 8 (iter 8 x) ^^^ iter (8 * 2) y = iter 8 (iter 8 (x ^^^ y)) := fun x y => by
    rw [← iter_add, ← iter_add, iter_xor]
  have i3 : ∀ x y : W32, iter 8 (iter 8 (iter 8 x)) ^^^ iter (8 * 3) y = iter 8 (iter 8 (iter 8 (x ^^^ y))) := fun x y => by
    have a : ∀ z, iter 8 (iter 8 (iter 8 z)) = iter (8 * 3) z := fun z => by rw [← iter_add, ← iter_add]
    rw [a, a, iter_xor]
  rw [i1, i2, i3]
  rw [← iter_add, ← iter_add, ← iter_add]
  show iter 32 _ = iter 32 _
  congr 1
  conv => rhs; rw [hd]
  simp only [← BitVec.xor_assoc, top, Nat.mul_one, Nat.reduceMul, Nat.reduceSub, BitVec.shiftLeft_zero]

/-- The sum of sealed bytes is always the same. -/
theorem crc_sealed (l : List UInt8) : crc (l ++ be 4 (crc l).toNat) = BitVec.ofNat 32 955982468 := by
  unfold crc more
  have e : ∀ x : W32, x ^^^ ~~~x = BitVec.allOnes 32 := fun x => by
    apply BitVec.eq_of_getLsbD_eq
    intro i hi
    rw [BitVec.getLsbD_xor, BitVec.getLsbD_not, BitVec.getLsbD_allOnes]
    cases x.getLsbD i <;> simp [hi]
  rw [fold_append, fold_be4, e]
  decide
end Go.Sh
end
section
set_option linter.unusedVariables false
namespace Go.Proofs.Ytggggfcgnkllgaa
open Go Go.Sh
attribute [local irreducible] X XU XP XR CALL loopS resC closS
/-- cellarage/crc.step -/
def B_crc_step (x0 : Value) (w : World) (K : Value → World → Prop) : Prop :=
  X Try.prog (convert 5 23 x0) w fun v1_6 w1 =>
  X Try.prog (binOp .shl 23 v1_6 (.int .u64 24)) w1 fun v2_7 w2 =>
  loopS (fun Q1 ρ1 w3 =>
  X Try.prog (binOp .lss 3 (ρ1 8) (.int .i64 8)) w3 fun v3_9 w4 =>
  condS v3_9 (
  X Try.prog (binOp .shr 23 (ρ1 3) (.int .u64 31)) w4 fun v4_11 w5 =>
  X Try.prog (binOp .shl 23 (ρ1 3) (.int .u64 1)) w5 fun v5_13 w6 =>
  X Try.prog (binOp .mul 23 (.int .u32 79764919) v4_11) w6 fun v6_15 w7 =>
  X Try.prog (binOp .xor 23 v5_13 v6_15) w7 fun v7_16 w8 =>
  X Try.prog (binOp .add 3 (ρ1 8) (.int .i64 1)) w8 fun v8_17 w9 =>
  Q1 .normal (upds ρ1 [(8, v8_17), (17, v8_17), (3, v7_16), (16, v7_16), (15, v6_15), (14, v4_11), (13, v5_13), (12, (ρ1 3)), (4, v4_11), (11, v4_11), (10, (ρ1 3)), (9, v3_9)]) w9) (
  Q1 (.exit 0) (upds ρ1 [(9, v3_9)]) w4)) (inBlockS 0 (thenS (fun ρ2 w10 =>
  K (ρ2 3) w10) (retS Try.prog (Try.f126).results K))) (upds (env0 #[x0]) [(8, (.int .i64 0)), (3, v2_7), (7, v2_7), (6, v1_6), (5, x0), (2, (.int .u32 0))]) w2

theorem eq_crc_step (x0 : Value) (w : World) (K : Value → World → Prop) :
    sh Try.prog (Try.f126.body.getD .skip) (retS Try.prog Try.f126.results K) (env0 #[x0]) w = B_crc_step x0 w K := by kernel_rfl

theorem call_crc_step (x0 : Value) (w : World) (K : Value → World → Prop) (h : B_crc_step x0 w K) : CALL Try.prog 126 #[x0] w K :=
  call_of_eq (c := Try.f126.body.getD .skip) mixed Try.func126 (by kernel_rfl) (by kernel_rfl) (by kernel_rfl) (Nat.le_of_ble_eq_true (by kernel_rfl)) (eq_crc_step x0 w K) h

/-- cellarage/crc.table -/
def B_crc_table (w : World) (K : Value → World → Prop) : Prop :=
  X Try.prog (Instr.alloc 209 true (.tuple #[])) w fun v1_1 w1 =>
  loopS (fun Q1 ρ1 w2 =>
  X Try.prog (binOp .lss 3 (ρ1 3) (.int .i64 256)) w2 fun v2_4 w3 =>
  condS v2_4 (
  X Try.prog (convert 3 5 (ρ1 3)) w3 fun v3_8 w4 =>
  CALL Try.prog 126 #[v3_8] w4 fun v4_9 w5 =>
  X Try.prog (Instr.indexAt 209 (ρ1 1) (ρ1 3)) w5 fun v5_10 w6 =>
  XU Try.prog (Instr.storeAt 23 v5_10 v4_9) w6 fun w7 =>
  X Try.prog (binOp .add 3 (ρ1 3) (.int .i64 1)) w7 fun v6_11 w8 =>
  Q1 .normal (upds ρ1 [(3, v6_11), (11, v6_11), (10, v5_10), (9, v4_9), (8, v3_8), (7, (ρ1 3)), (6, (ρ1 3)), (2, (ρ1 3)), (5, (ρ1 3)), (4, v2_4)]) w8) (
  Q1 (.exit 0) (upds ρ1 [(4, v2_4)]) w3)) (inBlockS 0 (thenS (fun ρ2 w9 =>
  K (ρ2 1) w9) (retS Try.prog (Try.f127).results K))) (upds (env0 #[]) [(3, (.int .i64 0)), (1, v1_1), (0, (.pointer none))]) w1

theorem eq_crc_table (w : World) (K : Value → World → Prop) :
    sh Try.prog (Try.f127.body.getD .skip) (retS Try.prog Try.f127.results K) (env0 #[]) w = B_crc_table  w K := by kernel_rfl

theorem call_crc_table (w : World) (K : Value → World → Prop) (h : B_crc_table  w K) : CALL Try.prog 127 #[] w K :=
  call_of_eq (c := Try.f127.body.getD .skip) mixed Try.func127 (by kernel_rfl) (by kernel_rfl) (by kernel_rfl) (Nat.le_of_ble_eq_true (by kernel_rfl)) (eq_crc_table  w K) h

/-- cellarage/crc.More -/
def B_crc_More (x0 x1 : Value) (w : World) (K : Value → World → Prop) : Prop :=
  X Try.prog (Op.unary .xor x0) w fun v1_12 w1 =>
  X Try.prog (Builtin.len_ #[27] 3 #[x1]) w1 fun v2_14 w2 =>
  X Try.prog (binOp .lss 3 v2_14 (.int .i64 64)) w2 fun v3_15 w3 =>
  condS v3_15 (
  X Try.prog (Builtin.len_ #[27] 3 #[x1]) w3 fun v4_17 w4 =>
  loopS (fun Q1 ρ1 w5 =>
  X Try.prog (binOp .lss 3 (ρ1 18) (ρ1 17)) w5 fun v5_19 w6 =>
  condS v5_19 (
  X Try.prog (Instr.indexAt 27 (ρ1 16) (ρ1 18)) w6 fun v6_20 w7 =>
  X Try.prog (Instr.loadAt 5 v6_20) w7 fun v7_21 w8 =>
  X Try.prog (binOp .shl 23 (ρ1 5) (.int .u64 8)) w8 fun v8_23 w9 =>
  X Try.prog (binOp .shr 23 (ρ1 5) (.int .u64 24)) w9 fun v9_25 w10 =>
  X Try.prog (convert 23 5 v9_25) w10 fun v10_26 w11 =>
  X Try.prog (binOp .xor 5 v10_26 v7_21) w11 fun v11_28 w12 =>
  CALL Try.prog 126 #[v11_28] w12 fun v12_29 w13 =>
  X Try.prog (binOp .xor 23 v8_23 v12_29) w13 fun v13_30 w14 =>
  X Try.prog (binOp .add 3 (ρ1 18) (.int .i64 1)) w14 fun v14_31 w15 =>
  Q1 .normal (upds ρ1 [(18, v14_31), (31, v14_31), (5, v13_30), (30, v13_30), (29, v12_29), (28, v11_28), (27, v7_21), (26, v10_26), (25, v9_25), (24, (ρ1 5)), (23, v8_23), (22, (ρ1 5)), (7, v7_21), (21, v7_21), (20, v6_20), (19, v5_19)]) w15) (
  Q1 (.exit 0) (upds ρ1 [(19, v5_19)]) w6)) (inBlockS 0 (thenS (fun ρ2 w16 =>
  X Try.prog (Op.unary .xor (ρ2 5)) w16 fun v15_33 w17 =>
  K v15_33 w17) (thenS (fun ρ3 w18 =>
  CALL Try.prog 127 #[] w18 fun v16_34 w19 =>
  X Try.prog (Builtin.len_ #[27] 3 #[(ρ3 1)]) w19 fun v17_36 w20 =>
  loopS (fun Q4 ρ4 w21 =>
  X Try.prog (binOp .lss 3 (ρ4 37) (ρ4 36)) w21 fun v18_38 w22 =>
  condS v18_38 (
  X Try.prog (Instr.indexAt 27 (ρ4 35) (ρ4 37)) w22 fun v19_39 w23 =>
  X Try.prog (Instr.loadAt 5 v19_39) w23 fun v20_40 w24 =>
  X Try.prog (binOp .shl 23 (ρ4 5) (.int .u64 8)) w24 fun v21_42 w25 =>
  X Try.prog (binOp .shr 23 (ρ4 5) (.int .u64 24)) w25 fun v22_45 w26 =>
  X Try.prog (convert 23 5 v22_45) w26 fun v23_46 w27 =>
  X Try.prog (binOp .xor 5 v23_46 v20_40) w27 fun v24_48 w28 =>
  X Try.prog (nilS (ρ4 8)) w28 fun v25_49 w29 =>
  X Try.prog (Instr.indexAt 209 v25_49 v24_48) w29 fun v26_50 w30 =>
  X Try.prog (Instr.loadAt 23 v26_50) w30 fun v27_51 w31 =>
  X Try.prog (binOp .xor 23 v21_42 v27_51) w31 fun v28_52 w32 =>
  X Try.prog (binOp .add 3 (ρ4 37) (.int .i64 1)) w32 fun v29_53 w33 =>
  Q4 .normal (upds ρ4 [(37, v29_53), (53, v29_53), (5, v28_52), (52, v28_52), (51, v27_51), (50, v26_50), (49, v25_49), (48, v24_48), (47, v20_40), (46, v23_46), (45, v22_45), (44, (ρ4 5)), (43, (ρ4 8)), (42, v21_42), (41, (ρ4 5)), (10, v20_40), (40, v20_40), (39, v19_39), (38, v18_38)]) w33) (
  Q4 (.exit 2) (upds ρ4 [(38, v18_38)]) w22)) (inBlockS 2 (thenS (fun ρ5 w34 =>
  X Try.prog (Op.unary .xor (ρ5 5)) w34 fun v30_55 w35 =>
  K v30_55 w35) (retS Try.prog (Try.f53).results K))) (upds ρ3 [(37, (.int .i64 0)), (36, v17_36), (35, (ρ3 1)), (8, v16_34), (34, v16_34)]) w20) (retS Try.prog (Try.f53).results K)))) (upds (env0 #[x0, x1]) [(18, (.int .i64 0)), (17, v4_17), (16, x1), (15, v3_15), (14, v2_14), (13, x1), (5, v1_12), (12, v1_12), (11, x0), (4, (.int .u32 0))]) w4) (
  CALL Try.prog 127 #[] w3 fun v31_34 w36 =>
  X Try.prog (Builtin.len_ #[27] 3 #[x1]) w36 fun v32_36 w37 =>
  loopS (fun Q6 ρ6 w38 =>
  X Try.prog (binOp .lss 3 (ρ6 37) (ρ6 36)) w38 fun v33_38 w39 =>
  condS v33_38 (
  X Try.prog (Instr.indexAt 27 (ρ6 35) (ρ6 37)) w39 fun v34_39 w40 =>
  X Try.prog (Instr.loadAt 5 v34_39) w40 fun v35_40 w41 =>
  X Try.prog (binOp .shl 23 (ρ6 5) (.int .u64 8)) w41 fun v36_42 w42 =>
  X Try.prog (binOp .shr 23 (ρ6 5) (.int .u64 24)) w42 fun v37_45 w43 =>
  X Try.prog (convert 23 5 v37_45) w43 fun v38_46 w44 =>
  X Try.prog (binOp .xor 5 v38_46 v35_40) w44 fun v39_48 w45 =>
  X Try.prog (nilS (ρ6 8)) w45 fun v40_49 w46 =>
  X Try.prog (Instr.indexAt 209 v40_49 v39_48) w46 fun v41_50 w47 =>
  X Try.prog (Instr.loadAt 23 v41_50) w47 fun v42_51 w48 =>
  X Try.prog (binOp .xor 23 v36_42 v42_51) w48 fun v43_52 w49 =>
  X Try.prog (binOp .add 3 (ρ6 37) (.int .i64 1)) w49 fun v44_53 w50 =>
  Q6 .normal (upds ρ6 [(37, v44_53), (53, v44_53), (5, v43_52), (52, v43_52), (51, v42_51), (50, v41_50), (49, v40_49), (48, v39_48), (47, v35_40), (46, v38_46), (45, v37_45), (44, (ρ6 5)), (43, (ρ6 8)), (42, v36_42), (41, (ρ6 5)), (10, v35_40), (40, v35_40), (39, v34_39), (38, v33_38)]) w50) (
  Q6 (.exit 2) (upds ρ6 [(38, v33_38)]) w39)) (inBlockS 2 (thenS (fun ρ7 w51 =>
  X Try.prog (Op.unary .xor (ρ7 5)) w51 fun v45_55 w52 =>
  K v45_55 w52) (retS Try.prog (Try.f53).results K))) (upds (env0 #[x0, x1]) [(37, (.int .i64 0)), (36, v32_36), (35, x1), (8, v31_34), (34, v31_34), (15, v3_15), (14, v2_14), (13, x1), (5, v1_12), (12, v1_12), (11, x0), (4, (.int .u32 0))]) w37)

theorem eq_crc_More (x0 x1 : Value) (w : World) (K : Value → World → Prop) :
    sh Try.prog (Try.f53.body.getD .skip) (retS Try.prog Try.f53.results K) (env0 #[x0, x1]) w = B_crc_More x0 x1 w K := by kernel_rfl

theorem call_crc_More (x0 x1 : Value) (w : World) (K : Value → World → Prop) (h : B_crc_More x0 x1 w K) : CALL Try.prog 53 #[x0, x1] w K :=
  call_of_eq (c := Try.f53.body.getD .skip) mixed Try.func53 (by kernel_rfl) (by kernel_rfl) (by kernel_rfl) (Nat.le_of_ble_eq_true (by kernel_rfl)) (eq_crc_More x0 x1 w K) h

/-- cellarage/crc.Sum -/
def B_crc_Sum (x0 : Value) (w : World) (K : Value → World → Prop) : Prop :=
  CALL Try.prog 53 #[(.int .u32 0), x0] w fun v1_4 w1 =>
  K v1_4 w1

theorem eq_crc_Sum (x0 : Value) (w : World) (K : Value → World → Prop) :
    sh Try.prog (Try.f51.body.getD .skip) (retS Try.prog Try.f51.results K) (env0 #[x0]) w = B_crc_Sum x0 w K := by kernel_rfl

theorem call_crc_Sum (x0 : Value) (w : World) (K : Value → World → Prop) (h : B_crc_Sum x0 w K) : CALL Try.prog 51 #[x0] w K :=
  call_of_eq (c := Try.f51.body.getD .skip) mixed Try.func51 (by kernel_rfl) (by kernel_rfl) (by kernel_rfl) (Nat.le_of_ble_eq_true (by kernel_rfl)) (eq_crc_Sum x0 w K) h

/-- cellarage/crc.Seal -/
def B_crc_Seal (x0 : Value) (w : World) (K : Value → World → Prop) : Prop :=
  CALL Try.prog 51 #[x0] w fun v1_5 w1 =>
  X Try.prog (convert 23 22 v1_5) w1 fun v2_6 w2 =>
  CALL Try.prog 46 #[x0, v2_6, (.int .i64 4)] w2 fun v3_7 w3 =>
  K v3_7 w3

theorem eq_crc_Seal (x0 : Value) (w : World) (K : Value → World → Prop) :
    sh Try.prog (Try.f56.body.getD .skip) (retS Try.prog Try.f56.results K) (env0 #[x0]) w = B_crc_Seal x0 w K := by kernel_rfl

theorem call_crc_Seal (x0 : Value) (w : World) (K : Value → World → Prop) (h : B_crc_Seal x0 w K) : CALL Try.prog 56 #[x0] w K :=
  call_of_eq (c := Try.f56.body.getD .skip) mixed Try.func56 (by kernel_rfl) (by kernel_rfl) (by kernel_rfl) (Nat.le_of_ble_eq_true (by kernel_rfl)) (eq_crc_Seal x0 w K) h

/-- cellarage/crc.Open -/
def B_crc_Open (x0 : Value) (w : World) (K : Value → World → Prop) : Prop :=
  X Try.prog (Builtin.len_ #[27] 3 #[x0]) w fun v1_6 w1 =>
  X Try.prog (binOp .sub 3 v1_6 (.int .i64 4)) w1 fun v2_7 w2 =>
  ∃ R, Frame? R ∧
  XP Try.prog (binOp .lss 3 v2_7 (.int .i64 0)) (drewW w2) fun v3_9 w3 =>
  gstep v3_9 false (fun w4 K => K x0 w4) w3 fun v4_11 w5 =>
  gstep v3_9 false (fun w6 K => K v2_7 w6) w5 fun v5_12 w7 =>
  gstep v3_9 false (fun w8 K => XP Try.prog (Instr.sliceAt 27 v4_11 (some v5_12) none none) w8 K) w7 fun v6_13 w9 =>
  gstep v3_9 false (fun w10 K => K x0 w10) w9 fun v7_16 w11 =>
  gstep v3_9 false (fun w12 K => K v2_7 w12) w11 fun v8_17 w13 =>
  gstep v3_9 false (fun w14 K => XP Try.prog (Instr.sliceAt 27 v7_16 none (some v8_17) none) w14 K) w13 fun v9_18 w15 =>
  gstep v3_9 false (fun w16 K => CALL Try.prog 58 #[v6_13] w16 K) w15 fun v10_14 w17 =>
  gstep v3_9 false (fun w18 K => CALL Try.prog 61 #[v10_14, (.int .i64 4)] w18 K) w17 fun v11_15 w19 =>
  gstep v3_9 false (fun w20 K => CALL Try.prog 51 #[v9_18] w20 K) w19 fun v12_19 w21 =>
  gstep v3_9 false (fun w22 K => XR Try.prog R (convert 23 22 v12_19) w22 K) w21 fun v13_20 w23 =>
  gstep v3_9 false (fun w24 K => XP Try.prog (binOpG .neq 22 (.tmp 15) (.tmp 20) v11_15 v13_20) w24 K) w23 fun v14_21 w25 =>
  XP Try.prog (pickS v3_9 (.bool true) v14_21) w25 fun v15_22 w26 =>
  condS v15_22 (
  K (.tuple #[(.slice none 0 0), (.bool false)]) w26) (
  X Try.prog (Instr.sliceAt 27 x0 none (some v2_7) none) w26 fun v16_25 w27 =>
  X Try.prog (Builtin.append_ #[27, 27] 27 #[(.slice none 0 0), v16_25]) w27 fun v17_26 w28 =>
  K (.tuple #[v17_26, (.bool true)]) w28)

theorem eq_crc_Open (x0 : Value) (w : World) (K : Value → World → Prop) :
    sh Try.prog (Try.f54.body.getD .skip) (retS Try.prog Try.f54.results K) (env0 #[x0]) w = B_crc_Open x0 w K := by kernel_rfl

theorem call_crc_Open (x0 : Value) (w : World) (K : Value → World → Prop) (h : B_crc_Open x0 w K) : CALL Try.prog 54 #[x0] w K :=
  call_of_eq (c := Try.f54.body.getD .skip) mixed Try.func54 (by kernel_rfl) (by kernel_rfl) (by kernel_rfl) (Nat.le_of_ble_eq_true (by kernel_rfl)) (eq_crc_Open x0 w K) h

/-- cellarage/cellarageref02.More -/
def B_ref02_More (x0 x1 : Value) (w : World) (K : Value → World → Prop) : Prop :=
  X Try.prog (binOp .sub 23 (.int .u32 4294967295) x0) w fun v1_10 w1 =>
  loopS (fun Q1 ρ1 w2 =>
  X Try.prog (Builtin.len_ #[27] 3 #[(ρ1 1)]) w2 fun v2_13 w3 =>
  X Try.prog (binOp .lss 3 (ρ1 6) v2_13) w3 fun v3_14 w4 =>
  condS v3_14 (
  X Try.prog (Instr.indexAt 27 (ρ1 1) (ρ1 6)) w4 fun v4_20 w5 =>
  X Try.prog (Instr.loadAt 5 v4_20) w5 fun v5_21 w6 =>
  X Try.prog (convert 5 23 v5_21) w6 fun v6_22 w7 =>
  X Try.prog (binOp .mul 23 v6_22 (.int .u32 16777216)) w7 fun v7_23 w8 =>
  X Try.prog (binOp .xor 23 (ρ1 5) v7_23) w8 fun v8_24 w9 =>
  loopS (fun Q2 ρ2 w10 =>
  X Try.prog (binOp .lss 3 (ρ2 7) (.int .i64 8)) w10 fun v9_26 w11 =>
  condS v9_26 (
  joinS (fun ρ3 w12 =>
  X Try.prog (binOp .add 3 (ρ3 7) (.int .i64 1)) w12 fun v10_28 w13 =>
  Q2 .normal (upds ρ3 [(7, v10_28), (28, v10_28), (27, (ρ3 7))]) w13) fun J3 =>
  X Try.prog (binOp .quo 23 (ρ2 5) (.int .u32 2147483648)) w11 fun v11_30 w14 =>
  X Try.prog (binOp .mul 23 (ρ2 5) (.int .u32 2)) w14 fun v12_32 w15 =>
  X Try.prog (binOpG .eql 23 (.tmp 33) (.const (.int .u32 1)) v11_30 (.int .u32 1)) w15 fun v13_34 w16 =>
  condS v13_34 (
  X Try.prog (binOp .xor 23 v12_32 (.int .u32 79764919)) w16 fun v14_36 w17 =>
  J3 (upds ρ2 [(5, v14_36), (36, v14_36), (35, v12_32), (34, v13_34), (33, v11_30), (5, v12_32), (32, v12_32), (31, (ρ2 5)), (8, v11_30), (30, v11_30), (29, (ρ2 5)), (26, v9_26), (25, (ρ2 7))]) w17) (
  J3 (upds ρ2 [(34, v13_34), (33, v11_30), (5, v12_32), (32, v12_32), (31, (ρ2 5)), (8, v11_30), (30, v11_30), (29, (ρ2 5)), (26, v9_26), (25, (ρ2 7))]) w16)) (
  Q2 (.exit 2) (upds ρ2 [(26, v9_26), (25, (ρ2 7))]) w11)) (inBlockS 2 (inBlockS 1 (thenS (fun ρ4 w18 =>
  X Try.prog (binOp .add 3 (ρ4 6) (.int .i64 1)) w18 fun v15_16 w19 =>
  Q1 .normal (upds ρ4 [(6, v15_16), (16, v15_16), (15, (ρ4 6))]) w19) Q1))) (upds ρ1 [(7, (.int .i64 0)), (5, v8_24), (24, v8_24), (23, v7_23), (22, v6_22), (21, v5_21), (20, v4_20), (19, (ρ1 6)), (18, (ρ1 1)), (17, (ρ1 5)), (14, v3_14), (13, v2_13), (12, (ρ1 1)), (11, (ρ1 6))]) w9) (
  Q1 (.exit 0) (upds ρ1 [(14, v3_14), (13, v2_13), (12, (ρ1 1)), (11, (ρ1 6))]) w4)) (inBlockS 0 (thenS (fun ρ5 w20 =>
  X Try.prog (binOp .sub 23 (.int .u32 4294967295) (ρ5 5)) w20 fun v16_38 w21 =>
  K v16_38 w21) (retS Try.prog (Try.f52).results K))) (upds (env0 #[x0, x1]) [(6, (.int .i64 0)), (5, v1_10), (10, v1_10), (9, x0), (4, (.int .u32 0))]) w1

theorem eq_ref02_More (x0 x1 : Value) (w : World) (K : Value → World → Prop) :
    sh Try.prog (Try.f52.body.getD .skip) (retS Try.prog Try.f52.results K) (env0 #[x0, x1]) w = B_ref02_More x0 x1 w K := by kernel_rfl

theorem call_ref02_More (x0 x1 : Value) (w : World) (K : Value → World → Prop) (h : B_ref02_More x0 x1 w K) : CALL Try.prog 52 #[x0, x1] w K :=
  call_of_eq (c := Try.f52.body.getD .skip) mixed Try.func52 (by kernel_rfl) (by kernel_rfl) (by kernel_rfl) (Nat.le_of_ble_eq_true (by kernel_rfl)) (eq_ref02_More x0 x1 w K) h

/-- cellarage/cellarageref02.Seal -/
def B_ref02_Seal (x0 : Value) (w : World) (K : Value → World → Prop) : Prop :=
  X Try.prog (Builtin.append_ #[27, 27] 27 #[(.slice none 0 0), x0]) w fun v1_6 w1 =>
  CALL Try.prog 52 #[(.int .u32 0), x0] w1 fun v2_9 w2 =>
  X Try.prog (convert 23 22 v2_9) w2 fun v3_10 w3 =>
  CALL Try.prog 125 #[v3_10, (.int .i64 4)] w3 fun v4_11 w4 =>
  X Try.prog (Builtin.append_ #[27, 27] 27 #[v1_6, v4_11]) w4 fun v5_12 w5 =>
  K v5_12 w5

theorem eq_ref02_Seal (x0 : Value) (w : World) (K : Value → World → Prop) :
    sh Try.prog (Try.f57.body.getD .skip) (retS Try.prog Try.f57.results K) (env0 #[x0]) w = B_ref02_Seal x0 w K := by kernel_rfl

theorem call_ref02_Seal (x0 : Value) (w : World) (K : Value → World → Prop) (h : B_ref02_Seal x0 w K) : CALL Try.prog 57 #[x0] w K :=
  call_of_eq (c := Try.f57.body.getD .skip) mixed Try.func57 (by kernel_rfl) (by kernel_rfl) (by kernel_rfl) (Nat.le_of_ble_eq_true (by kernel_rfl)) (eq_ref02_Seal x0 w K) h

/-- cellarage/cellarageref02.Open -/
def B_ref02_Open (x0 : Value) (w : World) (K : Value → World → Prop) : Prop :=
  X Try.prog (Builtin.len_ #[27] 3 #[x0]) w fun v1_6 w1 =>
  X Try.prog (binOp .sub 3 v1_6 (.int .i64 4)) w1 fun v2_7 w2 =>
  ∃ R, Frame? R ∧
  XP Try.prog (binOp .lss 3 v2_7 (.int .i64 0)) (drewW w2) fun v3_9 w3 =>
  gstep v3_9 false (fun w4 K => K x0 w4) w3 fun v4_11 w5 =>
  gstep v3_9 false (fun w6 K => K v2_7 w6) w5 fun v5_12 w7 =>
  gstep v3_9 false (fun w8 K => XP Try.prog (Instr.sliceAt 27 v4_11 none (some v5_12) none) w8 K) w7 fun v6_13 w9 =>
  gstep v3_9 false (fun w10 K => K x0 w10) w9 fun v7_16 w11 =>
  gstep v3_9 false (fun w12 K => XR Try.prog R (convert 27 9 v7_16) w12 K) w11 fun v8_17 w13 =>
  gstep v3_9 false (fun w14 K => CALL Try.prog 57 #[v6_13] w14 K) w13 fun v9_14 w15 =>
  R w13 w15 ∧
  gstep v3_9 false (fun w16 K => XR Try.prog R (convert 27 9 v9_14) w16 K) w15 fun v10_15 w17 =>
  gstep v3_9 false (fun w18 K => XP Try.prog (binOpG .neq 9 (.tmp 15) (.tmp 17) v10_15 v8_17) w18 K) w17 fun v11_18 w19 =>
  XP Try.prog (pickS v3_9 (.bool true) v11_18) w19 fun v12_19 w20 =>
  condS v12_19 (
  K (.tuple #[(.slice none 0 0), (.bool false)]) w20) (
  X Try.prog (Instr.sliceAt 27 x0 none (some v2_7) none) w20 fun v13_22 w21 =>
  K (.tuple #[v13_22, (.bool true)]) w21)

theorem eq_ref02_Open (x0 : Value) (w : World) (K : Value → World → Prop) :
    sh Try.prog (Try.f55.body.getD .skip) (retS Try.prog Try.f55.results K) (env0 #[x0]) w = B_ref02_Open x0 w K := by kernel_rfl

theorem call_ref02_Open (x0 : Value) (w : World) (K : Value → World → Prop) (h : B_ref02_Open x0 w K) : CALL Try.prog 55 #[x0] w K :=
  call_of_eq (c := Try.f55.body.getD .skip) mixed Try.func55 (by kernel_rfl) (by kernel_rfl) (by kernel_rfl) (Nat.le_of_ble_eq_true (by kernel_rfl)) (eq_ref02_Open x0 w K) h

end Go.Proofs.Ytggggfcgnkllgaa
end
section
/- cellarage/crc and the reference's check sums, by contract. -/
set_option linter.unusedVariables false
set_option linter.unusedSimpArgs false
namespace Go.Sh
open Go
/-- A word as a value. -/
def U32 (c : W32) : Value := .int .u32 ((c.toNat : Nat) : Int)
section
variable {P : Program}
theorem u32_xor (T : TypeId) (a b : W32) (w : World) : (binOp .xor T (U32 a) (U32 b)).run P w = .ok (U32 (a ^^^ b)) w := by
  unfold U32
  rw [run_xor (k := .u32) rfl T a.toNat b.toNat a.isLt b.isLt w, BitVec.toNat_xor]
theorem u32_not (c : W32) (w : World) : (Op.unary .xor (U32 c)).run P w = .ok (U32 (~~~c)) w := by
  have h : (Op.unary .xor (U32 c)) = binOp .xor 0 (U32 (BitVec.allOnes 32)) (U32 c) := rfl
  rw [h, u32_xor]
  congr 2
theorem u32_shl (T : TypeId) (k : IntKind) (c : W32) (n : Nat) (hn : n ≤ 32) (w : World) : (binOp .shl T (U32 c) (.int k (n : Int))).run P w = .ok (U32 (c <<< n)) w := by
  unfold U32
  rw [run_shl _ _ (by omega) w, BitVec.toNat_shiftLeft, Nat.shiftLeft_eq]
  have e1 : min ((n : Int).toNat) IntKind.u32.bits = n := by show min _ 32 = _; omega
  rw [e1, wrap_u32]
  congr 2
theorem u32_shr (T : TypeId) (k : IntKind) (c : W32) (n : Nat) (hn : n ≤ 32) (w : World) : (binOp .shr T (U32 c) (.int k (n : Int))).run P w = .ok (U32 (c >>> n)) w := by
  unfold U32
  rw [run_shr _ _ (by omega) w, BitVec.toNat_ushiftRight, Nat.shiftRight_eq_div_pow]
  have e1 : min ((n : Int).toNat) IntKind.u32.bits = n := by show min _ 32 = _; omega
  rw [e1, fdiv_pow]
theorem u32_of_u8 {S T : TypeId} {d : TypeDesc} (hS : P.underlying S = some d) (hT : P.underlying T = some (.int .u32)) (u : UInt8) (w : World) : (convert S T (.int .u8 ((u.toNat : Nat) : Int))).run P w = .ok (U32 (BitVec.ofNat 32 u.toNat)) w := by
  rw [run_conv_int hS hT]
  unfold U32
  have := u.toNat_lt
  rw [BitVec.toNat_ofNat, Nat.mod_eq_of_lt (by omega), wrap_u32]
  congr 2
  omega
theorem u8_of_u32 {S T : TypeId} {d : TypeDesc} (hS : P.underlying S = some d) (hT : P.underlying T = some (.int .u8)) (c : W32) (w : World) : (convert S T (U32 (c >>> 24))).run P w = .ok (.int .u8 (((hi8 c).toNat : Nat) : Int)) w := by
  unfold U32
  rw [run_conv_int hS hT, hi8_toNat, wrap_u8]
  have := hi8_lt c
  congr 2
  omega
theorem u8_xor (T : TypeId) (a b : UInt8) (w : World) : (binOp .xor T (.int .u8 ((a.toNat : Nat) : Int)) (.int .u8 ((b.toNat : Nat) : Int))).run P w = .ok (.int .u8 (((a ^^^ b).toNat : Nat) : Int)) w := by
  rw [run_xor (k := .u8) rfl T a.toNat b.toNat a.toNat_lt b.toNat_lt w, UInt8.toNat_xor]
theorem msb_top (c : W32) : (c >>> 31).toNat = c.msb.toNat := by
  rw [BitVec.toNat_ushiftRight, Nat.shiftRight_eq_div_pow, BitVec.msb_eq_decide]
  have := c.isLt
  by_cases h : 2 ^ 31 ≤ c.toNat
  · simp [h]; omega
  · simp [h]; omega
theorem u32_polymul (T : TypeId) (c : W32) (w : World) : (binOp .mul T (.int .u32 79764919) (U32 (c >>> 31))).run P w = .ok (U32 (if c.msb = true then poly else 0#32)) w := by
  unfold U32
  rw [msb_top, run_mul, wrap_u32]
  cases c.msb <;> rfl
theorem u32_comp (T : TypeId) (c : W32) (w : World) : (binOp .sub T (.int .u32 4294967295) (U32 c)).run P w = .ok (U32 (~~~c)) w := by
  unfold U32
  rw [run_sub, wrap_u32, BitVec.toNat_not]
  have := c.isLt
  congr 2
  omega
theorem u32_top2 (T : TypeId) (c : W32) (w : World) : (binOp .quo T (U32 c) (.int .u32 2147483648)).run P w = .ok (.int .u32 ((c.msb.toNat : Nat) : Int)) w := by
  unfold U32
  rw [run_quo _ _ _ _ (by decide), wrap_u32, BitVec.msb_eq_decide]
  have := c.isLt
  have e : ((c.toNat : Nat) : Int).tdiv 2147483648 = ((c.toNat / 2147483648 : Nat) : Int) := by
    rw [Int.tdiv_eq_ediv_of_nonneg (by omega)]
    omega
  rw [e]
  by_cases h : 2 ^ 31 ≤ c.toNat
  · congr 2; simp [h]; omega
  · congr 2; simp [h]; omega
theorem u32_dbl (T : TypeId) (c : W32) (w : World) : (binOp .mul T (U32 c) (.int .u32 2)).run P w = .ok (U32 (c <<< 1)) w := by
  unfold U32
  rw [run_mul, wrap_u32, BitVec.toNat_shiftLeft, Nat.shiftLeft_eq]
  congr 2
theorem u32_topmul (T : TypeId) (u : UInt8) (w : World) : (binOp .mul T (U32 (BitVec.ofNat 32 u.toNat)) (.int .u32 16777216)).run P w = .ok (U32 (top u)) w := by
  unfold U32 top
  have := u.toNat_lt
  rw [run_mul, wrap_u32, BitVec.toNat_shiftLeft, Nat.shiftLeft_eq]
  congr 2
theorem u32_eq (T : TypeId) (a b : Operand) (x y : W32) (w : World) (K : Value → World → Prop) : X P (binOpG .eql T a b (U32 x) (U32 y)) w K = K (.bool (decide (x = y))) w := by
  unfold U32
  rw [X_ok (run_eql T .u32 a b _ _ w)]
  have : decide ((x.toNat : Int) = (y.toNat : Int)) = decide (x = y) := by
    rw [Bool.eq_iff_iff]
    simp only [decide_eq_true_eq]
    constructor
    · intro h; exact BitVec.eq_of_toNat_eq (by omega)
    · rintro rfl; rfl
  rw [this]
theorem xp_u32_eq (T : TypeId) (a b : Operand) (x y : W32) (w : World) (K : Value → World → Prop) : XP P (binOpG .eql T a b (U32 x) (U32 y)) w K = K (.bool (decide (x = y))) w := by
  unfold U32
  rw [XP_ok (fun w => run_eql T .u32 a b _ _ w)]
  have : decide ((x.toNat : Int) = (y.toNat : Int)) = decide (x = y) := by
    rw [Bool.eq_iff_iff]
    simp only [decide_eq_true_eq]
    constructor
    · intro h; exact BitVec.eq_of_toNat_eq (by omega)
    · rintro rfl; rfl
  rw [this]
end
end Go.Sh
namespace Go.Proofs.Ytggggfcgnkllgaa
open Go Go.Sh Go.RowKit
attribute [local irreducible] X XU XP XR CALL loopS resC closS

theorem step_spec {u : UInt8} {w : World} {K : Value → World → Prop} (h : K (U32 (step8 u)) w) : CALL Try.prog 126 #[.int .u8 ((u.toNat : Nat) : Int)] w K := by
  apply call_crc_step
  unfold B_crc_step
  refine X_of (u32_of_u8 Try.underlying5 Try.underlying23 u w) ?_
  refine X_of (u32_shl 23 .u64 _ 24 (by decide) w) ?_
  refine loopS_of (fun ρ wr => ∃ i : Nat, i ≤ 8 ∧ wr = w ∧ ρ 8 = .int .i64 (i : Nat) ∧ ρ 3 = U32 (iter i (top u))) (fun ρ wr => match ρ 8 with | .int _ s => (8 - s).toNat | _ => 0) ?_ ?_
  · exact ⟨0, by omega, rfl, rfl, rfl⟩
  · rintro ρ wr ⟨i, hi, rfl, h8, h3⟩
    simp only [SS, ST, h8, h3]
    by_cases hin : i = 8
    · subst hin
      rw [if_neg (by simp)]
      show K (ρ 3) wr
      rw [h3]
      exact h
    · rw [if_pos (by simp; omega)]
      refine X_of (u32_shr 23 .u64 _ 31 (by decide) _) ?_
      refine X_of (u32_shl 23 .u64 _ 1 (by decide) _) ?_
      refine X_of (u32_polymul 23 _ _) ?_
      refine X_of (u32_xor 23 _ _ _) ?_
      show _ ∧ _
      refine ⟨⟨i + 1, by omega, rfl, ?_, ?_⟩, ?_⟩
      · show Value.int .i64 _ = _
        congr 1
        rw [w64 (by omega) (by omega)]
        omega
      · rw [iter_succ]
        rfl
      · show (_ - IntKind.i64.wrap _).toNat < _
        rw [w64 (by omega) (by omega)]
        omega

/-- The table: 256 words. -/
def tabCells : List Value := (List.range 256).map fun i => U32 (step8 (UInt8.ofNat i))
theorem tab_len : tabCells.length = 256 := by simp [tabCells]
theorem tab_get (j : Nat) (h : j < 256) : tabCells[j]? = some (U32 (step8 (UInt8.ofNat j))) := by simp [tabCells, h]
attribute [local irreducible] tabCells
theorem table_spec {w : World} {K : Value → World → Prop} (h : ∀ b w1, Ext w w1 → w.heap.size ≤ b → w1.heap[b]? = some (.cells tabCells.toArray 209 (0, 0)) → K (.pointer (some ⟨b, 0, none⟩)) w1) :
    CALL Try.prog 127 #[] w K := by
  apply call_crc_table
  unfold B_crc_table
  refine X_alloc zero_209 ?_
  have hc : (Value.agg ((List.replicate 256 (Value.int .u32 0)).toArray)).cells = (List.replicate 256 (Value.int .u32 0)).toArray := rfl
  rw [hc]
  have hg := newB_get w (List.replicate 256 (Value.int .u32 0)).toArray 209
  have hx := newB_ext w (List.replicate 256 (Value.int .u32 0)).toArray 209
  have hz := newB_size w (List.replicate 256 (Value.int .u32 0)).toArray 209
  obtain ⟨l0, hl0⟩ : ∃ l, l = List.replicate 256 (Value.int .u32 0) := ⟨_, rfl⟩
  have hl0' : l0.length = 256 := by rw [hl0]; exact List.length_replicate
  rw [← hl0] at hg hx hz ⊢
  generalize newB w l0.toArray 209 = w0 at hg hx hz ⊢
  refine loopS_of (fun ρ wr => ∃ (i : Nat) (l : List Value), i ≤ 256 ∧ Ext w wr ∧ ρ 3 = .int .i64 (i : Nat) ∧ ρ 1 = .pointer (some ⟨w.heap.size, 0, none⟩) ∧ wr.heap[w.heap.size]? = some (.cells l.toArray 209 (0, 0)) ∧ l.length = 256 ∧ ∀ j, j < i → l[j]? = tabCells[j]?)
    (fun ρ wr => match ρ 3 with | .int _ s => (256 - s).toNat | _ => 0) ?_ ?_
  · exact ⟨0, l0, by omega, hx, rfl, rfl, hg, hl0', fun j hj => absurd hj (by omega)⟩
  · rintro ρ wr ⟨i, l, hi, hxr, h3, h1, hb, hl, hj⟩
    rcases Nat.lt_or_ge i 256 with hin | hin
    rotate_left
    · have hin : i = 256 := by omega
      subst hin
      simp only [SS, ST, h3, h1]
      rw [if_neg (by simp)]
      show K (ρ 1) wr
      rw [h1]
      refine h _ wr hxr (Nat.le_refl _) ?_
      have : l = tabCells := by
        apply List.ext_getElem?
        intro j
        by_cases hj' : j < 256
        · exact hj j hj'
        · rw [List.getElem?_eq_none (by omega), List.getElem?_eq_none (by rw [tab_len]; omega)]
      rw [← this]
      exact hb
    · simp only [SS, ST, h3, h1]
      rw [if_pos (by simp; omega)]
      have e8 : IntKind.u8.wrap ((i : Nat) : Int) = (((UInt8.ofNat i).toNat : Nat) : Int) := u8_wrap i
      rw [e8]
      refine step_spec ?_
      refine X_of (ix_arr Try.underlying209 info_23 i rfl (by omega) _) ?_
      have ea : (⟨w.heap.size, 0, none⟩ : Addr).add (i * szT Try.prog 23) = ⟨w.heap.size, i, none⟩ := by
        rw [sz_23, add_plain, Nat.mul_one, Nat.zero_add]
      rw [ea]
      refine XU_store info_23 sz_23 rfl hb (by simp [hl]; omega) (by show ¬ ((0 : Nat) ≤ i ∧ i < 0); omega) ?_
      show _ ∧ _
      refine ⟨⟨i + 1, l.set i (U32 (step8 (UInt8.ofNat i))), by omega, Ext.seq hxr (setAt_keep _ _ _ _ _) (fun k hk => by omega), ?_, h1, ?_, by simp [hl], ?_⟩, ?_⟩
      · exact next64 (n := 256) (by decide) hi
      · have e : l.toArray.setIfInBounds i (U32 (step8 (UInt8.ofNat i))) = (l.set i (U32 (step8 (UInt8.ofNat i)))).toArray := by simp
        rw [← e]
        exact setAt_same (lt_of_blk hb)
      · intro j hj'
        by_cases hji : j = i
        · subst hji
          rw [List.getElem?_set_self (by omega), tab_get j (by omega)]
        · rw [List.getElem?_set_ne (by omega)]
          exact hj j (by omega)
      · show (_ - IntKind.i64.wrap _).toNat < _
        rw [w64 (by omega) (by omega)]
        omega
end Go.Proofs.Ytggggfcgnkllgaa
end
section
/- cellarage/crc's More, Sum, Seal, Open and the reference's, by contract. -/
set_option linter.unusedVariables false
set_option linter.unusedSimpArgs false
namespace Go.Proofs.Ytggggfcgnkllgaa
open Go Go.Sh Go.RowKit
attribute [local irreducible] X XU XP XR CALL loopS resC closS

theorem fold_take_succ (c : W32) (bs : List UInt8) (i : Nat) (h : i < bs.length) : fold c (bs.take (i + 1)) = upd1 (fold c (bs.take i)) bs[i] := by
  rw [take_succ' bs i h, fold_append]; rfl

theorem More_spec {c : W32} {v : Value} {bs : List UInt8} {w : World} {K : Value → World → Prop} (hb : Bts w v bs) (h : ∀ w1, Ext w w1 → K (U32 (more c bs)) w1) : CALL Try.prog 53 #[U32 c, v] w K := by
  obtain ⟨a, cp, e, h1, h2, h3⟩ := id hb
  subst e
  apply call_crc_More
  unfold B_crc_More
  refine X_of (u32_not c w) ?_
  simp only [SS, ST]
  by_cases hl : bs.length < 64
  · rw [if_pos (by simp; omega)]
    refine loopS_of (fun ρ wr => ∃ i : Nat, i ≤ bs.length ∧ wr = w ∧ ρ 18 = .int .i64 (i : Nat) ∧ ρ 17 = .int .i64 (bs.length : Nat) ∧ ρ 16 = .slice a bs.length cp ∧ ρ 5 = U32 (fold (~~~c) (bs.take i)))
      (fun ρ wr => match ρ 18 with | .int _ s => (bs.length - s).toNat | _ => 0) ?_ ?_
    · exact ⟨0, by omega, rfl, rfl, rfl, rfl, rfl⟩
    · rintro ρ wr ⟨i, hi, rfl, h18, h17, h16, h5⟩
      simp only [SS, ST, h18, h17, h16, h5]
      by_cases hin : i = bs.length
      · subst hin
        rw [if_neg (by simp)]
        simp only [upds_cons, upds_nil, Nat.reduceEqDiff, if_false, h5]
        refine X_of (u32_not _ _) ?_
        rw [List.take_length]
        exact h _ (Keep.refl _ _)
      · rw [if_pos (by simp; omega)]
        obtain ⟨ad, hix, hcell, _⟩ := at_bts Try.underlying27 info_5 sz_5 hb (k := .i64) i rfl (by omega)
        refine X_of (hix _) ?_
        refine X_load agg_5 hcell ?_
        refine X_of (u32_shl 23 .u64 _ 8 (by decide) _) ?_
        refine X_of (u32_shr 23 .u64 _ 24 (by decide) _) ?_
        refine X_of (u8_of_u32 Try.underlying23 Try.underlying5 _ _) ?_
        refine X_of (u8_xor 5 _ _ _) ?_
        refine step_spec ?_
        refine X_of (u32_xor 23 _ _ _) ?_
        rw [upd_eq, ← fold_take_succ]
        show _ ∧ _
        refine ⟨⟨i + 1, by omega, rfl, next64 (n := bs.length - 1) (by omega) (by omega), h17, h16, rfl⟩, ?_⟩
        · show (_ - IntKind.i64.wrap _).toNat < _
          rw [w64 (by omega) (by omega)]
          omega
  · rw [if_neg (by simp; omega)]
    refine table_spec ?_
    intro b w1 hx hbs hg
    have hb1 := hb.ext hx
    refine loopS_of (fun ρ wr => ∃ i : Nat, i ≤ bs.length ∧ wr = w1 ∧ ρ 37 = .int .i64 (i : Nat) ∧ ρ 36 = .int .i64 (bs.length : Nat) ∧ ρ 35 = .slice a bs.length cp ∧ ρ 8 = .pointer (some ⟨b, 0, none⟩) ∧ ρ 5 = U32 (fold (~~~c) (bs.take i)))
      (fun ρ wr => match ρ 37 with | .int _ s => (bs.length - s).toNat | _ => 0) ?_ ?_
    · exact ⟨0, by omega, rfl, rfl, rfl, rfl, rfl, rfl⟩
    · rintro ρ wr ⟨i, hi, rfl, h18, h17, h16, h8, h5⟩
      simp only [SS, ST, h18, h17, h16, h5, h8]
      by_cases hin : i = bs.length
      · subst hin
        rw [if_neg (by simp)]
        simp only [upds_cons, upds_nil, Nat.reduceEqDiff, if_false, h5]
        refine X_of (u32_not _ _) ?_
        rw [List.take_length]
        exact h _ hx
      · rw [if_pos (by simp; omega)]
        obtain ⟨ad, hix, hcell, _⟩ := at_bts Try.underlying27 info_5 sz_5 hb1 (k := .i64) i rfl (by omega)
        refine X_of (hix _) ?_
        refine X_load agg_5 hcell ?_
        refine X_of (u32_shl 23 .u64 _ 8 (by decide) _) ?_
        refine X_of (u32_shr 23 .u64 _ 24 (by decide) _) ?_
        refine X_of (u8_of_u32 Try.underlying23 Try.underlying5 _ _) ?_
        refine X_of (u8_xor 5 _ _ _) ?_
        refine X_of (ix_arr Try.underlying209 info_23 _ rfl (UInt8.toNat_lt _) _) ?_
        rw [sz_23, Nat.mul_one, add_plain, Nat.zero_add]
        refine X_loadL agg_23 hg (tab_get _ (UInt8.toNat_lt _)) ?_
        rw [UInt8.ofNat_toNat]
        refine X_of (u32_xor 23 _ _ _) ?_
        rw [upd_eq, ← fold_take_succ]
        show _ ∧ _
        refine ⟨⟨i + 1, by omega, rfl, next64 (n := bs.length - 1) (by omega) (by omega), h17, h16, h8, rfl⟩, ?_⟩
        · show (_ - IntKind.i64.wrap _).toNat < _
          rw [w64 (by omega) (by omega)]
          omega

theorem Sum_spec {v : Value} {bs : List UInt8} {w : World} {K : Value → World → Prop} (hb : Bts w v bs) (h : ∀ w1, Ext w w1 → K (U32 (crc bs)) w1) : CALL Try.prog 51 #[v] w K := by
  apply call_crc_Sum
  unfold B_crc_Sum
  exact More_spec (c := 0#32) hb h

theorem u64_of_u32 (c : W32) (w : World) : (convert 23 22 (U32 c)).run Try.prog w = .ok (.int .u64 ((c.toNat : Nat) : Int)) w := by
  unfold U32
  rw [run_conv_int Try.underlying23 Try.underlying22, wrap_u64]
  have := c.isLt
  congr 2
  omega
def sealB (bs : List UInt8) : List UInt8 := bs ++ be 4 (crc bs).toNat
theorem sealB_len (bs : List UInt8) : (sealB bs).length = bs.length + 4 := by simp [sealB]
theorem Seal_spec {v : Value} {bs : List UInt8} {w : World} {K : Value → World → Prop} (hb : Bts w v bs) (hl : bs.length ≤ 140737488351232)
    (h : ∀ v' w1, Ext w w1 → w1.ownsRow w.heap.size 5 1 v' (sealB bs).length (B8 (sealB bs)) → K v' w1) : CALL Try.prog 56 #[v] w K := by
  apply call_crc_Seal
  unfold B_crc_Seal
  refine Sum_spec hb ?_
  intro w1 hx
  refine X_of (u64_of_u32 _ _) ?_
  have := (crc bs).isLt
  refine Put_spec (hb.ext hx) (by omega) (by omega) ?_
  intro v' w2 hx2 ho
  rw [putB_4] at ho
  exact h v' w2 (hx.trans hx2) (own_mono ho hx.size)

/-- What Open finds: the bytes ahead of their sum, or nothing. -/
def openB (bs : List UInt8) : Option (List UInt8) :=
  if bs.length < 4 then none else if num (bs.drop (bs.length - 4)) = (crc (bs.take (bs.length - 4))).toNat then some (bs.take (bs.length - 4)) else none

theorem getR4 (x : List UInt8) (h : x.length = 4) : getR x 0 4 = (num x, [], 0) := by
  have e4 : (4 : Int).toNat = 4 := rfl
  simp only [getR, e4, h]
  rw [if_neg (by simp), if_neg (by decide), if_neg (by decide), List.take_of_length_le (by omega), List.drop_eq_nil_of_le (by omega)]
theorem Open_spec {v : Value} {bs : List UInt8} {w : World} {K : Value → World → Prop} (hb : Bts w v bs) (hl : bs.length ≤ 140737488351232)
    (h0 : openB bs = none → ∀ w1, Ext w w1 → K (.tuple #[.slice none 0 0, .bool false]) w1)
    (h1 : ∀ cs v' w1, openB bs = some cs → Ext w w1 → w1.ownsRow w.heap.size 5 1 v' cs.length (B8 cs) → K (.tuple #[v', .bool true]) w1) : CALL Try.prog 54 #[v] w K := by
  obtain ⟨a, cp, e, _, _, _⟩ := id hb
  subst e
  apply call_crc_Open
  unfold B_crc_Open
  simp only [SS, ST]
  refine ⟨Ext, Ext.frame, ?_⟩
  by_cases h4 : bs.length < 4
  · have e1 : decide (IntKind.i64.wrap ((bs.length : Int) - 4) < 0) = true := by rw [w64 (by omega) (by omega)]; simp only [decide_eq_true_eq]; omega
    simp only [SS, ST, e1, if_true, Bool.true_eq_false, if_false]
    exact h0 (by simp [openB, h4]) _ (Keep.drew _ w)
  · have e0 : IntKind.i64.wrap ((bs.length : Int) - 4) = ((bs.length - 4 : Nat) : Int) := by rw [w64 (by omega) (by omega)]; omega
    have e1 : decide (((bs.length - 4 : Nat) : Int) < 0) = false := by simp only [decide_eq_false_iff_not]; omega
    simp only [e0, SS, ST, e1, if_true, Bool.false_eq_true, if_false]
    have hbd := hb.drew
    obtain ⟨u, hu, hub, huo⟩ := cut_lo Try.underlying27 info_5 sz_5 hbd (kl := .i64) (bs.length - 4) rfl (by omega)
    obtain ⟨u2, hu2, hub2, huo2⟩ := cut_hi Try.underlying27 info_5 hbd (kh := .i64) (bs.length - 4) rfl (by omega)
    refine XP_of hu ?_
    refine XP_of hu2 ?_
    refine New_spec hub (by simp; omega) ?_
    intro b w1 hx1 hb1 hr1
    refine Get_spec hr1 ?_
    have eg := getR4 (bs.drop (bs.length - 4)) (by simp; omega)
    rw [eg]
    intro w2 hk2 hr2
    have hx2 : Ext w w2 := Ext.seq ((Keep.drew _ w).trans hx1) hk2 (fun i hi => by subst hi; exact hb1)
    refine Sum_spec (hub2.ext ((Ext.seq hx1 hk2 (fun i hi => by subst hi; exact hb1)))) ?_
    intro w3 hx3
    refine XR_of_all (fun w' => u64_of_u32 _ w') ?_
    have hx : Ext w w3 := hx2.trans hx3
    simp only [SS, ST]
    by_cases heq : num (bs.drop (bs.length - 4)) = (crc (bs.take (bs.length - 4))).toNat
    · have ed : decide (((num (bs.drop (bs.length - 4)) : Nat) : Int) ≠ (((crc (bs.take (bs.length - 4))).toNat : Nat) : Int)) = false := by simp [heq]
      simp only [ed, Bool.false_eq_true, if_false]
      have hb3 := hb.ext hx
      obtain ⟨u3, hu3, hub3, huo3⟩ := cut_hi Try.underlying27 info_5 hb3 (kh := .i64) (bs.length - 4) rfl (by omega)
      refine X_of (hu3 _) ?_
      refine X_append_bts Try.underlying27 el_5 (xs := []) (World.ownsRow_nil w3 w3.heap.size 5 1) hub3 (by simp; omega) (Nat.le_refl _) ?_
      intro v4 w4 ho4 hk4
      refine h1 (bs.take (bs.length - 4)) v4 w4 (by simp [openB, h4, heq]) (Ext.seq hx hk4 (fun i hi => by cases hi)) ?_
      simp only [List.nil_append, Nat.zero_add] at ho4
      exact own_mono ho4 hx.size
    · have ed : decide (((num (bs.drop (bs.length - 4)) : Nat) : Int) ≠ (((crc (bs.take (bs.length - 4))).toNat : Nat) : Int)) = true := by simp; omega
      simp only [ed, if_true]
      exact h0 (by simp [openB, h4, heq]) _ hx
end Go.Proofs.Ytggggfcgnkllgaa
end
