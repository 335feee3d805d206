/- Part 6 of what the law is proved with: Law Cont1 T16 Cont2 Cont3 CrcNum T2 Crc Crc2 T6 Crc3. -/
import Derived.Test.YtggggfcgnkllgaaRows
import Derived.Test.YtggggfcgnkllgaaQCU5
section
/- From a call's contract to a law's row: the last two facts. -/
namespace Go.Proofs.Ytggggfcgnkllgaa
open Go Go.Sh
theorem CALL_calls {P : Program} {f : FuncId} {args : Array Value} {w : World} {K : Value → World → Prop} (h : CALL P f args w K) :
    Calls P f args w (fun | .returned v, w' => K v w' | _, _ => False) := h.2
theorem laidOut : laidOutB Try.prog = true := by kernel_rfl
end Go.Proofs.Ytggggfcgnkllgaa
end
section
/- Keys and pieces. -/
set_option linter.unusedVariables false
set_option linter.unusedSimpArgs false
namespace Go.Proofs.Ytggggfcgnkllgaa
open Go Go.Sh Go.RowKit Go.ChangeShapes Go.WideShapes Go.ChangeAt
attribute [local irreducible] X XU XP XR CALL loopS resC closS Value.okWide
structure Ky where
  sum : List UInt8
  num : Nat
  len : sum.length = 32
  lt : num < 4294967296
theorem Ky.ext' {a b : Ky} (h1 : a.sum = b.sum) (h2 : a.num = b.num) : a = b := by
  cases a; cases b; simp at h1 h2; subst h1; subst h2; rfl
instance : DecidableEq Ky := fun a b => if h1 : a.sum = b.sum then if h2 : a.num = b.num then isTrue (Ky.ext' h1 h2) else isFalse (fun h => h2 (by rw [h])) else isFalse (fun h => h1 (by rw [h]))
def Ky.cs (k : Ky) : List Value := B8 k.sum ++ [.int .u32 (k.num : Int)]
abbrev Ky.v (k : Ky) : Value := .agg k.cs.toArray
theorem Ky.cs_len (k : Ky) : k.cs.length = 33 := by simp [Ky.cs, k.len]
theorem Ky.one (k : Ky) : ∀ x ∈ k.cs, x.oneCell' = true := by
  intro x hx
  rcases List.mem_append.1 hx with h | h
  · exact B8_one x h
  · rw [List.mem_singleton.1 h]; rfl
theorem Ky.v_inj {a b : Ky} (h : a.v = b.v) : a = b := by
  have h1 : a.cs = b.cs := by
    injection h with h
    exact congrArg Array.toList h
  unfold Ky.cs at h1
  obtain ⟨h2, h3⟩ := List.append_inj h1 (by simp [a.len, b.len])
  refine Ky.ext' (B8_inj h2) ?_
  injection h3 with h3 _
  injection h3 with _ h3
  omega
def nilKy : Ky := ⟨List.replicate 32 0, 0, List.length_replicate, by decide⟩
theorem Ky.cs_take (k : Ky) : k.cs.take 32 = B8 k.sum := by
  unfold Ky.cs
  rw [List.take_append_of_le_length (by simp [k.len]), List.take_of_length_le (by simp [k.len])]
theorem Ky.cs_num (k : Ky) : k.cs.toArray[32]? = some (.int .u32 (k.num : Int)) := by
  have hl : (B8 k.sum).length = 32 := by simp [k.len]
  show (B8 k.sum ++ [Value.int .u32 (k.num : Int)]).toArray[32]? = _
  rw [List.getElem?_toArray, List.getElem?_append_right (by omega), hl]
  rfl
theorem fields113 : (Try.prog.fieldsOf 113).toList = [{ name := "Sum", type := 111, offset := 0, embedded := false, tag := "", pkgPath := "", byteOffset := 0 }, { name := "N", type := 23, offset := 32, embedded := false, tag := "", pkgPath := "", byteOffset := 32 }] := by kernel_rfl
theorem struct113 : Try.prog.underlying 113 = some (.struct (Try.prog.fieldsOf 113)) := by kernel_rfl
theorem held113 : Try.prog.stoodInHeld 113 = false := by kernel_rfl
theorem guard113 : Try.prog.eqGuardType Try.prog.depth 113 = false := by kernel_rfl
theorem inf5 : Try.prog.info? 5 = some Try.t5 := by kernel_rfl
theorem cel5 : Try.prog.cellsOf 5 = 1 := by kernel_rfl
theorem cel23 : Try.prog.cellsOf 23 = 1 := by kernel_rfl
theorem cel27 : Try.prog.cellsOf 27 = 1 := by kernel_rfl
theorem cel111 : Try.prog.cellsOf 111 = 32 := by kernel_rfl
theorem cel113 : Try.prog.cellsOf 113 = 33 := by kernel_rfl
theorem cel115 : Try.prog.cellsOf 115 = 34 := by kernel_rfl
theorem sum_equal (x y : List UInt8) (hx : x.length = 32) (hy : y.length = 32) (w : World) : (Op.equalIn 9999 111 (.agg (B8 x).toArray) (.agg (B8 y).toArray)).run Try.prog w = .ok (decide (x = y)) w := by
  rw [show (9999 : Nat) = 9998 + 1 from rfl, run_equalIn_array w 9998 _ _ Try.underlying111 inf5, cel5, List.range_eq_range']
  have := eqItems_bytes (P := Try.prog) 9997 Try.underlying5 agg_5 x y (by rw [hx, hy]) w 32 0 (by rw [hx])
  simpa using this
theorem part_sum (k : Ky) (w : World) : (part 111 k.cs.toArray 0).run Try.prog w = .ok (.agg (B8 k.sum).toArray) w := by
  rw [part_agg Try.underlying111 agg_111 info_111, sz_111]
  have : k.cs.toArray.extract 0 (0 + 32) = (B8 k.sum).toArray := by
    apply Array.ext'
    simp [Ky.cs_take]
  rw [this]
theorem part_num (k : Ky) (w : World) : (part 23 k.cs.toArray 32).run Try.prog w = .ok (.int .u32 (k.num : Int)) w := part_cell agg_23 k.cs_num w
theorem num_equal (a b : Ky) (w : World) : (Op.equalIn 9999 23 (.int .u32 (a.num : Int)) (.int .u32 (b.num : Int))).run Try.prog w = .ok (decide (a.num = b.num)) w := by
  have bz : ((a.num : Int) == (b.num : Int)) = decide (a.num = b.num) := by
    rw [Bool.eq_iff_iff]; simp; omega
  have := run_equalIn_int (P := Try.prog) w 9998 23 .u32 .u32 (a.num : Int) (b.num : Int) Try.underlying23
  rw [bz] at this
  exact this
theorem ky_dec (a b : Ky) : decide (a = b) = (decide (a.sum = b.sum) && decide (a.num = b.num)) := by
  rw [← Bool.decide_and]
  exact decide_eq_decide.2 ⟨fun h => by rw [h]; exact ⟨rfl, rfl⟩, fun h => Ky.ext' h.1 h.2⟩
theorem ke1 (a b : Ky) (w : World) : (Op.equalIn (9999 + 1) 113 a.v b.v).run Try.prog w = (Op.eqFields 9999 a.cs.toArray b.cs.toArray (Try.prog.fieldsOf 113).toList).run Try.prog w := run_equalIn_struct w 9999 113 _ _ struct113 held113
theorem ke2 (a b : Ky) (w : World) : (Op.equalIn 10000 113 a.v b.v).run Try.prog w = (Op.eqFields 9999 a.cs.toArray b.cs.toArray (Try.prog.fieldsOf 113).toList).run Try.prog w := ke1 a b w
theorem key_equal (a b : Ky) (w : World) : (Op.equalIn 10000 113 a.v b.v).run Try.prog w = .ok (decide (a = b)) w := by
  rw [ke2, fields113, ky_dec]
  exact eqFields_two (by decide) (by decide) (part_sum a w) (part_sum b w) (part_num a w) (part_num b w) (sum_equal a.sum b.sum a.len b.len w) (num_equal a b w)
theorem run_key_neq (a b : Ky) (o1 o2 : Operand) (w : World) : (binOpG .neq 113 o1 o2 a.v b.v).run Try.prog w = .ok (.bool (decide (a ≠ b))) w := by
  rw [agg_neq guard113 o1 o2 (key_equal a b w)]
  simp
theorem run_key_eql (a b : Ky) (o1 o2 : Operand) (w : World) : (binOpG .eql 113 o1 o2 a.v b.v).run Try.prog w = .ok (.bool (decide (a = b))) w := agg_eql guard113 o1 o2 (key_equal a b w)
theorem size113 : 113 < Try.prog.types.size := Nat.lt_of_lt_of_le (Nat.lt_succ_self 113) (Nat.le_of_ble_eq_true (by kernel_rfl))
theorem keyAt113 : Try.prog.keyTypeAt 5 113 = true := by kernel_rfl
theorem keyTy113 : Try.prog.keyType 113 = true := by kernel_rfl
theorem keyed113 : Maps.Keyed Try.prog 113 := Maps.Keyed.of_law (deep_law_laid laidOut (m := 5) (Nat.le_of_ble_eq_true rfl) size113 keyAt113 (by rw [Try.underlying113]))
theorem keyOf_ky (k : Ky) : ∃ l, keyOf Try.prog 113 k.v = some l := by
  have hkt := keyTy113
  have hfm : k.v.formed Try.prog 113 = true := by
    unfold Value.formed
    rw [Try.underlying113]
    show decide (k.cs.toArray.size = Try.prog.cellsOf 113) = true
    rw [cel113]
    simp [k.cs_len]
  unfold keyOf
  rw [Try.underlying113]
  simp only [hkt, hfm, Bool.and_self, if_true]
  have hk : ∃ ls, Try.prog.keyLits (Try.prog.types.size + 1) 113 k.v.cells.toList = some ls := by
    obtain ⟨n, hn⟩ : ∃ n, Try.prog.types.size + 1 = n + 3 := ⟨Try.prog.types.size - 2, by
      have h2 : 2 ≤ Try.prog.types.size := Nat.le_of_ble_eq_true (by kernel_rfl)
      omega⟩
    rw [hn]
    have hsum : ∃ ls, Try.prog.keyLits (n + 2) 111 (B8 k.sum) = some ls := by
      unfold Program.keyLits
      rw [Try.underlying111]
      simp only [cel111, cel5, B8_length, k.len, if_true]
      obtain ⟨r, hr⟩ := mapM_all (fun i => Try.prog.keyLits (n + 1) 5 ((List.drop (i * 1) (B8 k.sum)).take 1)) (List.range 32) (fun i hi => by
        have hi' : i < 32 := List.mem_range.1 hi
        have hd : (List.drop (i * 1) (B8 k.sum)).take 1 = [.int .u8 ((k.sum[i]'(by rw [k.len]; exact hi')).toNat : Int)] := by
          have hl : i < (B8 k.sum).length := by simp [k.len]; exact hi'
          rw [Nat.mul_one, List.drop_eq_getElem_cons hl]
          simp [B8]
        rw [hd]
        unfold Program.keyLits
        rw [Try.underlying5]
        refine ⟨_, if_pos ⟨rfl, ?_⟩⟩
        have := (k.sum[i]'(by rw [k.len]; exact hi')).toNat_lt
        simp [Lit.wf, IntKind.min, IntKind.max, IntKind.signed, IntKind.bits]
        omega)
      rw [hr]
      exact ⟨_, rfl⟩
    obtain ⟨l1, h1⟩ := hsum
    have hnum : Try.prog.keyLits (n + 2) 23 [.int .u32 (k.num : Int)] = some [.int .u32 (k.num : Int)] := by
      unfold Program.keyLits
      rw [Try.underlying23]
      refine if_pos ⟨rfl, ?_⟩
      have := k.lt
      simp [Lit.wf, IntKind.min, IntKind.max, IntKind.signed, IntKind.bits]
      omega
    have ecs : k.v.cells.toList = k.cs := rfl
    rw [ecs]
    unfold Program.keyLits
    rw [Try.underlying113]
    have e1 : (k.cs.drop 0).take 32 = B8 k.sum := by rw [List.drop_zero]; exact k.cs_take
    have e2 : (k.cs.drop 32).take 1 = [.int .u32 (k.num : Int)] := by
      unfold Ky.cs
      rw [List.drop_append_of_le_length (by simp [k.len]), List.drop_eq_nil_of_le (by simp [k.len])]
      rfl
    simp only [cel113, k.cs_len]
    have e1' : List.take 32 k.cs = B8 k.sum := k.cs_take
    simp [cel111, cel23, e1', e2, h1, hnum]
  obtain ⟨ls, hls⟩ := hk
  rw [hls]
  exact ⟨_, rfl⟩
end Go.Proofs.Ytggggfcgnkllgaa
end
section
set_option linter.unusedVariables false
namespace Go.Proofs.Ytggggfcgnkllgaa
open Go Go.Sh
attribute [local irreducible] X XU XP XR CALL loopS resC closS
/-- cellarage/cont.Lay -/
def B_cont_Lay (x0 x1 : Value) (w : World) (K : Value → World → Prop) : Prop :=
  CALL Try.prog 136 #[x1] w fun v1_13 w1 =>
  X Try.prog (binOpG .neq 30 (.tmp 14) (.const (.int .i64 0)) v1_13 (.int .i64 0)) w1 fun v2_15 w2 =>
  condS v2_15 (
  K (.tuple #[(.slice none 0 0), v1_13]) w2) (
  X Try.prog (convert 23 22 x0) w2 fun v3_18 w3 =>
  CALL Try.prog 46 #[(.slice none 0 0), v3_18, (.int .i64 4)] w3 fun v4_19 w4 =>
  X Try.prog (Builtin.len_ #[100] 3 #[x1]) w4 fun v5_21 w5 =>
  X Try.prog (convert 3 22 v5_21) w5 fun v6_22 w6 =>
  CALL Try.prog 46 #[v4_19, v6_22, (.int .i64 2)] w6 fun v7_23 w7 =>
  X Try.prog (Builtin.len_ #[100] 3 #[x1]) w7 fun v8_25 w8 =>
  loopS (fun Q1 ρ1 w9 =>
  X Try.prog (binOp .lss 3 (ρ1 26) (ρ1 25)) w9 fun v9_27 w10 =>
  condS v9_27 (
  X Try.prog (Instr.indexAt 100 (ρ1 24) (ρ1 26)) w10 fun v10_28 w11 =>
  X Try.prog (Instr.loadAt 115 v10_28) w11 fun v11_29 w12 =>
  X Try.prog (Instr.alloc 115 true (.tuple #[])) w12 fun v12_10 w13 =>
  XU Try.prog (Instr.storeAt 115 v12_10 v11_29) w13 fun w14 =>
  ∃ R, Frame? R ∧
  XP Try.prog (Instr.fieldAt 115 v12_10 0) (drewW w14) fun v13_30 w15 =>
  XP Try.prog (Instr.fieldAt 113 v13_30 1) w15 fun v14_31 w16 =>
  XR Try.prog R (Instr.loadAt 23 v14_31) w16 fun v15_32 w17 =>
  XR Try.prog R (convert 23 22 v15_32) w17 fun v16_33 w18 =>
  XP Try.prog (Instr.fieldAt 115 v12_10 1) w18 fun v17_35 w19 =>
  XR Try.prog R (Instr.loadAt 27 v17_35) w19 fun v18_36 w20 =>
  XP Try.prog (Builtin.len_ #[27] 3 #[v18_36]) w20 fun v19_37 w21 =>
  XR Try.prog R (convert 3 22 v19_37) w21 fun v20_38 w22 =>
  CALL Try.prog 46 #[(.slice none 0 0), v16_33, (.int .i64 4)] w22 fun v21_34 w23 =>
  R w22 w23 ∧
  CALL Try.prog 46 #[v21_34, v20_38, (.int .i64 2)] w23 fun v22_39 w24 =>
  R w23 w24 ∧
  X Try.prog (Instr.fieldAt 115 v12_10 0) w24 fun v23_41 w25 =>
  X Try.prog (Instr.fieldAt 113 v23_41 0) w25 fun v24_42 w26 =>
  X Try.prog (Instr.sliceAt 111 v24_42 none none none) w26 fun v25_43 w27 =>
  X Try.prog (Builtin.append_ #[27, 27] 27 #[(ρ1 7), v25_43]) w27 fun v26_44 w28 =>
  X Try.prog (Builtin.append_ #[27, 27] 27 #[v26_44, v22_39]) w28 fun v27_46 w29 =>
  X Try.prog (Instr.fieldAt 115 v12_10 1) w29 fun v28_48 w30 =>
  X Try.prog (Instr.loadAt 27 v28_48) w30 fun v29_49 w31 =>
  X Try.prog (Builtin.append_ #[27, 27] 27 #[(ρ1 8), v29_49]) w31 fun v30_50 w32 =>
  X Try.prog (binOp .add 3 (ρ1 26) (.int .i64 1)) w32 fun v31_51 w33 =>
  Q1 .normal (upds ρ1 [(26, v31_51), (51, v31_51), (8, v30_50), (50, v30_50), (49, v29_49), (48, v28_48), (47, (ρ1 8)), (7, v27_46), (46, v27_46), (45, v22_39), (44, v26_44), (43, v25_43), (42, v24_42), (41, v23_41), (40, (ρ1 7)), (11, v22_39), (39, v22_39), (34, v21_34), (38, v20_38), (37, v19_37), (36, v18_36), (35, v17_35), (33, v16_33), (32, v15_32), (31, v14_31), (30, v13_30), (10, v12_10), (29, v11_29), (28, v10_28), (27, v9_27)]) w33) (
  Q1 (.exit 0) (upds ρ1 [(27, v9_27)]) w10)) (inBlockS 0 (thenS (fun ρ2 w34 =>
  X Try.prog (Builtin.append_ #[27, 27] 27 #[(ρ2 7), (ρ2 8)]) w34 fun v32_54 w35 =>
  CALL Try.prog 56 #[v32_54] w35 fun v33_55 w36 =>
  K (.tuple #[v33_55, (.int .i64 0)]) w36) (retS Try.prog (Try.f87).results K))) (upds (env0 #[x0, x1]) [(26, (.int .i64 0)), (25, v8_25), (24, x1), (8, (.slice none 0 0)), (7, v7_23), (23, v7_23), (22, v6_22), (21, v5_21), (20, x1), (19, v4_19), (18, v3_18), (17, x0), (15, v2_15), (14, v1_13), (6, v1_13), (13, v1_13), (12, x1), (5, (.int .i64 0)), (4, (.slice none 0 0))]) w8)

theorem eq_cont_Lay (x0 x1 : Value) (w : World) (K : Value → World → Prop) :
    sh Try.prog (Try.f87.body.getD .skip) (retS Try.prog Try.f87.results K) (env0 #[x0, x1]) w = B_cont_Lay x0 x1 w K := by kernel_rfl

theorem call_cont_Lay (x0 x1 : Value) (w : World) (K : Value → World → Prop) (h : B_cont_Lay x0 x1 w K) : CALL Try.prog 87 #[x0, x1] w K :=
  call_of_eq (c := Try.f87.body.getD .skip) mixed Try.func87 (by kernel_rfl) (by kernel_rfl) (by kernel_rfl) (Nat.le_of_ble_eq_true (by kernel_rfl)) (eq_cont_Lay x0 x1 w K) h

/-- cellarage/cont.Size -/
def B_cont_Size (x0 : Value) (w : World) (K : Value → World → Prop) : Prop :=
  X Try.prog (Builtin.len_ #[100] 3 #[x0]) w fun v1_7 w1 =>
  X Try.prog (binOp .mul 3 (.int .i64 38) v1_7) w1 fun v2_8 w2 =>
  X Try.prog (binOp .add 3 (.int .i64 10) v2_8) w2 fun v3_9 w3 =>
  X Try.prog (Builtin.len_ #[100] 3 #[x0]) w3 fun v4_11 w4 =>
  loopS (fun Q1 ρ1 w5 =>
  X Try.prog (binOp .lss 3 (ρ1 12) (ρ1 11)) w5 fun v5_13 w6 =>
  condS v5_13 (
  X Try.prog (Instr.indexAt 100 (ρ1 10) (ρ1 12)) w6 fun v6_14 w7 =>
  X Try.prog (Instr.loadAt 115 v6_14) w7 fun v7_15 w8 =>
  X Try.prog (Instr.alloc 115 true (.tuple #[])) w8 fun v8_5 w9 =>
  XU Try.prog (Instr.storeAt 115 v8_5 v7_15) w9 fun w10 =>
  X Try.prog (Instr.fieldAt 115 v8_5 1) w10 fun v9_17 w11 =>
  X Try.prog (Instr.loadAt 27 v9_17) w11 fun v10_18 w12 =>
  X Try.prog (Builtin.len_ #[27] 3 #[v10_18]) w12 fun v11_19 w13 =>
  X Try.prog (binOp .add 3 (ρ1 3) v11_19) w13 fun v12_20 w14 =>
  X Try.prog (binOp .add 3 (ρ1 12) (.int .i64 1)) w14 fun v13_21 w15 =>
  Q1 .normal (upds ρ1 [(12, v13_21), (21, v13_21), (3, v12_20), (20, v12_20), (19, v11_19), (18, v10_18), (17, v9_17), (16, (ρ1 3)), (5, v8_5), (15, v7_15), (14, v6_14), (13, v5_13)]) w15) (
  Q1 (.exit 0) (upds ρ1 [(13, v5_13)]) w6)) (inBlockS 0 (thenS (fun ρ2 w16 =>
  K (ρ2 3) w16) (retS Try.prog (Try.f89).results K))) (upds (env0 #[x0]) [(12, (.int .i64 0)), (11, v4_11), (10, x0), (3, v3_9), (9, v3_9), (8, v2_8), (7, v1_7), (6, x0), (2, (.int .i64 0))]) w4

theorem eq_cont_Size (x0 : Value) (w : World) (K : Value → World → Prop) :
    sh Try.prog (Try.f89.body.getD .skip) (retS Try.prog Try.f89.results K) (env0 #[x0]) w = B_cont_Size x0 w K := by kernel_rfl

theorem call_cont_Size (x0 : Value) (w : World) (K : Value → World → Prop) (h : B_cont_Size x0 w K) : CALL Try.prog 89 #[x0] w K :=
  call_of_eq (c := Try.f89.body.getD .skip) mixed Try.func89 (by kernel_rfl) (by kernel_rfl) (by kernel_rfl) (Nat.le_of_ble_eq_true (by kernel_rfl)) (eq_cont_Size x0 w K) h

/-- cellarage/cont.Take -/
def B_cont_Take (x0 : Value) (w : World) (K : Value → World → Prop) : Prop :=
  X Try.prog (Instr.alloc 100 true (.tuple #[])) w fun v1_5 w1 =>
  X Try.prog (Instr.makeFunc (.func 139) #[] #[v1_5]) w1 fun v2_10 w2 =>
  CALL Try.prog 138 #[x0, v2_10] w2 fun v3_11 w3 =>
  X Try.prog (Instr.extract v3_11 0) w3 fun v4_12 w4 =>
  X Try.prog (Instr.extract v3_11 1) w4 fun v5_13 w5 =>
  X Try.prog (Op.unary .not v5_13) w5 fun v6_15 w6 =>
  gstep v6_15 false (fun w7 K => X Try.prog (Instr.loadAt 100 v1_5) w7 K) w6 fun v7_17 w8 =>
  gstep v6_15 false (fun w9 K => CALL Try.prog 136 #[v7_17] w9 K) w8 fun v8_18 w10 =>
  gstep v6_15 false (fun w11 K => X Try.prog (binOpG .neq 30 (.tmp 18) (.const (.int .i64 0)) v8_18 (.int .i64 0)) w11 K) w10 fun v9_19 w12 =>
  X Try.prog (pickS v6_15 (.bool true) v9_19) w12 fun v10_20 w13 =>
  condS v10_20 (
  K (.tuple #[(.int .u32 0), (.slice none 0 0), (.int .i64 110)]) w13) (
  ∃ R, Frame? R ∧
  XR Try.prog R (Instr.loadAt 100 v1_5) (drewW w13) fun v11_22 w14 =>
  K (.tuple #[v4_12, v11_22, (.int .i64 0)]) w14)

theorem eq_cont_Take (x0 : Value) (w : World) (K : Value → World → Prop) :
    sh Try.prog (Try.f91.body.getD .skip) (retS Try.prog Try.f91.results K) (env0 #[x0]) w = B_cont_Take x0 w K := by kernel_rfl

theorem call_cont_Take (x0 : Value) (w : World) (K : Value → World → Prop) (h : B_cont_Take x0 w K) : CALL Try.prog 91 #[x0] w K :=
  call_of_eq (c := Try.f91.body.getD .skip) mixed Try.func91 (by kernel_rfl) (by kernel_rfl) (by kernel_rfl) (Nat.le_of_ble_eq_true (by kernel_rfl)) (eq_cont_Take x0 w K) h

/-- cellarage/cont.Keys -/
def B_cont_Keys (x0 : Value) (w : World) (K : Value → World → Prop) : Prop :=
  CALL Try.prog 91 #[x0] w fun v1_13 w1 =>
  X Try.prog (Instr.extract v1_13 0) w1 fun v2_14 w2 =>
  X Try.prog (Instr.extract v1_13 1) w2 fun v3_15 w3 =>
  X Try.prog (Instr.extract v1_13 2) w3 fun v4_16 w4 =>
  X Try.prog (Builtin.len_ #[100] 3 #[v3_15]) w4 fun v5_18 w5 =>
  loopS (fun Q1 ρ1 w6 =>
  X Try.prog (binOp .lss 3 (ρ1 19) (ρ1 18)) w6 fun v6_20 w7 =>
  condS v6_20 (
  X Try.prog (Instr.indexAt 100 (ρ1 17) (ρ1 19)) w7 fun v7_21 w8 =>
  X Try.prog (Instr.loadAt 115 v7_21) w8 fun v8_22 w9 =>
  X Try.prog (Instr.alloc 115 true (.tuple #[])) w9 fun v9_10 w10 =>
  XU Try.prog (Instr.storeAt 115 v9_10 v8_22) w10 fun w11 =>
  X Try.prog (Instr.fieldAt 115 v9_10 0) w11 fun v10_24 w12 =>
  X Try.prog (Instr.loadAt 113 v10_24) w12 fun v11_25 w13 =>
  X Try.prog (Instr.buildSlice 116 1 #[(0, v11_25)]) w13 fun v12_26 w14 =>
  X Try.prog (Builtin.append_ #[116, 116] 116 #[(ρ1 8), v12_26]) w14 fun v13_27 w15 =>
  X Try.prog (binOp .add 3 (ρ1 19) (.int .i64 1)) w15 fun v14_28 w16 =>
  Q1 .normal (upds ρ1 [(19, v14_28), (28, v14_28), (8, v13_27), (27, v13_27), (26, v12_26), (25, v11_25), (24, v10_24), (23, (ρ1 8)), (10, v9_10), (22, v8_22), (21, v7_21), (20, v6_20)]) w16) (
  Q1 (.exit 0) (upds ρ1 [(20, v6_20)]) w7)) (inBlockS 0 (thenS (fun ρ2 w17 =>
  K (.tuple #[(ρ2 5), (ρ2 8), (ρ2 7)]) w17) (retS Try.prog (Try.f94).results K))) (upds (env0 #[x0]) [(19, (.int .i64 0)), (18, v5_18), (17, v3_15), (8, (.slice none 0 0)), (7, v4_16), (6, v3_15), (5, v2_14), (16, v4_16), (15, v3_15), (14, v2_14), (11, v1_13), (13, v1_13), (12, x0), (4, (.int .i64 0)), (3, (.slice none 0 0)), (2, (.int .u32 0))]) w5

theorem eq_cont_Keys (x0 : Value) (w : World) (K : Value → World → Prop) :
    sh Try.prog (Try.f94.body.getD .skip) (retS Try.prog Try.f94.results K) (env0 #[x0]) w = B_cont_Keys x0 w K := by kernel_rfl

theorem call_cont_Keys (x0 : Value) (w : World) (K : Value → World → Prop) (h : B_cont_Keys x0 w K) : CALL Try.prog 94 #[x0] w K :=
  call_of_eq (c := Try.f94.body.getD .skip) mixed Try.func94 (by kernel_rfl) (by kernel_rfl) (by kernel_rfl) (Nat.le_of_ble_eq_true (by kernel_rfl)) (eq_cont_Keys x0 w K) h

/-- cellarage/cont.One -/
def B_cont_One (x0 x1 : Value) (w : World) (K : Value → World → Prop) : Prop :=
  X Try.prog (Instr.alloc 115 true (.tuple #[])) w fun v1_4 w1 =>
  CALL Try.prog 91 #[x0] w1 fun v2_11 w2 =>
  X Try.prog (Instr.extract v2_11 0) w2 fun v3_12 w3 =>
  X Try.prog (Instr.extract v2_11 1) w3 fun v4_13 w4 =>
  X Try.prog (Instr.extract v2_11 2) w4 fun v5_14 w5 =>
  X Try.prog (binOpG .neq 30 (.tmp 16) (.const (.int .i64 0)) v5_14 (.int .i64 0)) w5 fun v6_17 w6 =>
  condS v6_17 (
  X Try.prog (Instr.build 115 #[]) w6 fun v7_18 w7 =>
  XU Try.prog (Instr.storeAt 115 v1_4 v7_18) w7 fun w8 =>
  resC Try.prog 115 v1_4 w8 fun r0 =>
  K (.tuple #[r0, v5_14]) w8) (
  X Try.prog (binOp .lss 3 x1 (.int .i64 0)) w6 fun v8_22 w9 =>
  gstep v8_22 false (fun w10 K => K x1 w10) w9 fun v9_24 w11 =>
  gstep v8_22 false (fun w12 K => K v4_13 w12) w11 fun v10_25 w13 =>
  gstep v8_22 false (fun w14 K => X Try.prog (Builtin.len_ #[100] 3 #[v10_25]) w14 K) w13 fun v11_26 w15 =>
  gstep v8_22 false (fun w16 K => X Try.prog (binOp .geq 3 v9_24 v11_26) w16 K) w15 fun v12_27 w17 =>
  X Try.prog (pickS v8_22 (.bool true) v12_27) w17 fun v13_28 w18 =>
  condS v13_28 (
  X Try.prog (Instr.build 115 #[]) w18 fun v14_29 w19 =>
  XU Try.prog (Instr.storeAt 115 v1_4 v14_29) w19 fun w20 =>
  resC Try.prog 115 v1_4 w20 fun r0 =>
  K (.tuple #[r0, (.int .i64 2)]) w20) (
  X Try.prog (Instr.indexAt 100 v4_13 x1) w18 fun v15_32 w21 =>
  X Try.prog (Instr.loadAt 115 v15_32) w21 fun v16_33 w22 =>
  XU Try.prog (Instr.storeAt 115 v1_4 v16_33) w22 fun w23 =>
  resC Try.prog 115 v1_4 w23 fun r0 =>
  K (.tuple #[r0, (.int .i64 0)]) w23))

theorem eq_cont_One (x0 x1 : Value) (w : World) (K : Value → World → Prop) :
    sh Try.prog (Try.f95.body.getD .skip) (retS Try.prog Try.f95.results K) (env0 #[x0, x1]) w = B_cont_One x0 x1 w K := by kernel_rfl

theorem call_cont_One (x0 x1 : Value) (w : World) (K : Value → World → Prop) (h : B_cont_One x0 x1 w K) : CALL Try.prog 95 #[x0, x1] w K :=
  call_of_eq (c := Try.f95.body.getD .skip) mixed Try.func95 (by kernel_rfl) (by kernel_rfl) (by kernel_rfl) (Nat.le_of_ble_eq_true (by kernel_rfl)) (eq_cont_One x0 x1 w K) h

/-- cellarage/cont.check -/
def B_cont_check (x0 : Value) (w : World) (K : Value → World → Prop) : Prop :=
  X Try.prog (Builtin.len_ #[100] 3 #[x0]) w fun v1_10 w1 =>
  X Try.prog (binOp .gtr 3 v1_10 (.int .i64 1000)) w1 fun v2_11 w2 =>
  X Try.prog (Builtin.len_ #[100] 3 #[x0]) w2 fun v3_13 w3 =>
  loopS (fun Q1 ρ1 w4 =>
  X Try.prog (binOp .lss 3 (ρ1 14) (ρ1 13)) w4 fun v4_15 w5 =>
  condS v4_15 (
  X Try.prog (Instr.indexAt 100 (ρ1 12) (ρ1 14)) w5 fun v5_16 w6 =>
  X Try.prog (Instr.loadAt 115 v5_16) w6 fun v6_17 w7 =>
  X Try.prog (Instr.alloc 115 true (.tuple #[])) w7 fun v7_5 w8 =>
  XU Try.prog (Instr.storeAt 115 v7_5 v6_17) w8 fun w9 =>
  X Try.prog (Instr.fieldAt 115 v7_5 1) w9 fun v8_18 w10 =>
  X Try.prog (Instr.loadAt 27 v8_18) w10 fun v9_19 w11 =>
  X Try.prog (Builtin.len_ #[27] 3 #[v9_19]) w11 fun v10_20 w12 =>
  X Try.prog (binOpG .eql 3 (.tmp 20) (.const (.int .i64 0)) v10_20 (.int .i64 0)) w12 fun v11_21 w13 =>
  condS v11_21 (
  Q1 .ret (upds ρ1 [(2, (.int .i64 1)), (21, v11_21), (20, v10_20), (19, v9_19), (18, v8_18), (5, v7_5), (17, v6_17), (16, v5_16), (15, v4_15)]) w13) (
  gstep (ρ1 3) false (fun w14 K => X Try.prog (Instr.fieldAt 115 v7_5 1) w14 K) w13 fun v12_24 w15 =>
  gstep (ρ1 3) false (fun w16 K => X Try.prog (Instr.loadAt 27 v12_24) w16 K) w15 fun v13_25 w17 =>
  gstep (ρ1 3) false (fun w18 K => X Try.prog (Builtin.len_ #[27] 3 #[v13_25]) w18 K) w17 fun v14_26 w19 =>
  gstep (ρ1 3) false (fun w20 K => X Try.prog (binOp .gtr 3 v14_26 (.int .i64 4096)) w20 K) w19 fun v15_27 w21 =>
  X Try.prog (pickS (ρ1 3) (.bool true) v15_27) w21 fun v16_28 w22 =>
  X Try.prog (binOp .add 3 (ρ1 14) (.int .i64 1)) w22 fun v17_29 w23 =>
  Q1 .normal (upds ρ1 [(14, v17_29), (29, v17_29), (3, v16_28), (28, v16_28), (27, v15_27), (26, v14_26), (25, v13_25), (24, v12_24), (23, (ρ1 3)), (22, (ρ1 3)), (21, v11_21), (20, v10_20), (19, v9_19), (18, v8_18), (5, v7_5), (17, v6_17), (16, v5_16), (15, v4_15)]) w23)) (
  Q1 (.exit 0) (upds ρ1 [(15, v4_15)]) w5)) (inBlockS 0 (thenS (fun ρ2 w24 =>
  gstep (ρ2 3) false (fun w25 K => K (ρ2 0) w25) w24 fun v18_32 w26 =>
  gstep (ρ2 3) false (fun w27 K => CALL Try.prog 89 #[v18_32] w27 K) w26 fun v19_33 w28 =>
  gstep (ρ2 3) false (fun w29 K => X Try.prog (binOp .gtr 3 v19_33 (.int .i64 65536)) w29 K) w28 fun v20_34 w30 =>
  X Try.prog (pickS (ρ2 3) (.bool true) v20_34) w30 fun v21_35 w31 =>
  condS v21_35 (
  K (.int .i64 4) w31) (
  X Try.prog (Builtin.len_ #[100] 3 #[(ρ2 0)]) w31 fun v22_37 w32 =>
  X Try.prog (Instr.makeMap 210 (some v22_37)) w32 fun v23_38 w33 =>
  X Try.prog (Builtin.len_ #[100] 3 #[(ρ2 0)]) w33 fun v24_40 w34 =>
  loopS (fun Q3 ρ3 w35 =>
  X Try.prog (binOp .lss 3 (ρ3 41) (ρ3 40)) w35 fun v25_42 w36 =>
  condS v25_42 (
  X Try.prog (Instr.indexAt 100 (ρ3 39) (ρ3 41)) w36 fun v26_43 w37 =>
  X Try.prog (Instr.loadAt 115 v26_43) w37 fun v27_44 w38 =>
  X Try.prog (Instr.alloc 115 true (.tuple #[])) w38 fun v28_8 w39 =>
  XU Try.prog (Instr.storeAt 115 v28_8 v27_44) w39 fun w40 =>
  X Try.prog (Instr.fieldAt 115 v28_8 0) w40 fun v29_46 w41 =>
  X Try.prog (Instr.loadAt 113 v29_46) w41 fun v30_47 w42 =>
  X Try.prog (Instr.lookup 210 (ρ3 6) v30_47 false) w42 fun v31_48 w43 =>
  condS v31_48 (
  Q3 .ret (upds ρ3 [(2, (.int .i64 3)), (48, v31_48), (47, v30_47), (46, v29_46), (45, (ρ3 6)), (8, v28_8), (44, v27_44), (43, v26_43), (42, v25_42)]) w43) (
  X Try.prog (Instr.fieldAt 115 v28_8 0) w43 fun v32_50 w44 =>
  X Try.prog (Instr.loadAt 113 v32_50) w44 fun v33_51 w45 =>
  XU Try.prog (Instr.mapUpdate 210 (ρ3 6) v33_51 (.bool true)) w45 fun w46 =>
  X Try.prog (binOp .add 3 (ρ3 41) (.int .i64 1)) w46 fun v34_52 w47 =>
  Q3 .normal (upds ρ3 [(41, v34_52), (52, v34_52), (51, v33_51), (50, v32_50), (49, (ρ3 6)), (48, v31_48), (47, v30_47), (46, v29_46), (45, (ρ3 6)), (8, v28_8), (44, v27_44), (43, v26_43), (42, v25_42)]) w47)) (
  Q3 (.exit 2) (upds ρ3 [(42, v25_42)]) w36)) (inBlockS 2 (thenS (fun ρ4 w48 =>
  K (.int .i64 0) w48) (retS Try.prog (Try.f136).results K))) (upds ρ2 [(41, (.int .i64 0)), (40, v24_40), (39, (ρ2 0)), (6, v23_38), (38, v23_38), (37, v22_37), (36, (ρ2 0)), (35, v21_35), (34, v20_34), (33, v19_33), (32, v18_32), (31, (ρ2 3)), (30, (ρ2 3))]) w34)) (retS Try.prog (Try.f136).results K))) (upds (env0 #[x0]) [(14, (.int .i64 0)), (13, v3_13), (12, x0), (3, v2_11), (11, v2_11), (10, v1_10), (9, x0), (2, (.int .i64 0))]) w3

theorem eq_cont_check (x0 : Value) (w : World) (K : Value → World → Prop) :
    sh Try.prog (Try.f136.body.getD .skip) (retS Try.prog Try.f136.results K) (env0 #[x0]) w = B_cont_check x0 w K := by kernel_rfl

theorem call_cont_check (x0 : Value) (w : World) (K : Value → World → Prop) (h : B_cont_check x0 w K) : CALL Try.prog 136 #[x0] w K :=
  call_of_eq (c := Try.f136.body.getD .skip) mixed Try.func136 (by kernel_rfl) (by kernel_rfl) (by kernel_rfl) (Nat.le_of_ble_eq_true (by kernel_rfl)) (eq_cont_check x0 w K) h

/-- cellarage/cont.each -/
def B_cont_each (x0 x1 : Value) (w : World) (K : Value → World → Prop) : Prop :=
  CALL Try.prog 54 #[x0] w fun v1_18 w1 =>
  X Try.prog (Instr.extract v1_18 0) w1 fun v2_19 w2 =>
  X Try.prog (Instr.extract v1_18 1) w2 fun v3_20 w3 =>
  X Try.prog (Op.unary .not v3_20) w3 fun v4_22 w4 =>
  gstep v4_22 false (fun w5 K => K v2_19 w5) w4 fun v5_24 w6 =>
  gstep v4_22 false (fun w7 K => X Try.prog (Builtin.len_ #[27] 3 #[v5_24]) w7 K) w6 fun v6_25 w8 =>
  gstep v4_22 false (fun w9 K => X Try.prog (binOp .lss 3 v6_25 (.int .i64 6)) w9 K) w8 fun v7_26 w10 =>
  X Try.prog (pickS v4_22 (.bool true) v7_26) w10 fun v8_27 w11 =>
  condS v8_27 (
  K (.tuple #[(.int .u32 0), (.bool false)]) w11) (
  X Try.prog (Instr.sliceAt 27 v2_19 none (some (.int .i64 6)) none) w11 fun v9_29 w12 =>
  CALL Try.prog 58 #[v9_29] w12 fun v10_30 w13 =>
  CALL Try.prog 61 #[v10_30, (.int .i64 4)] w13 fun v11_32 w14 =>
  X Try.prog (convert 22 23 v11_32) w14 fun v12_33 w15 =>
  CALL Try.prog 61 #[v10_30, (.int .i64 2)] w15 fun v13_35 w16 =>
  X Try.prog (convert 22 3 v13_35) w16 fun v14_36 w17 =>
  X Try.prog (Builtin.len_ #[27] 3 #[v2_19]) w17 fun v15_39 w18 =>
  X Try.prog (binOp .sub 3 v15_39 (.int .i64 6)) w18 fun v16_40 w19 =>
  X Try.prog (binOp .quo 3 v16_40 (.int .i64 38)) w19 fun v17_41 w20 =>
  X Try.prog (binOp .gtr 3 v14_36 v17_41) w20 fun v18_42 w21 =>
  condS v18_42 (
  K (.tuple #[(.int .u32 0), (.bool false)]) w21) (
  ∃ R, Frame? R ∧
  XP Try.prog (binOp .mul 3 v14_36 (.int .i64 38)) (drewW w21) fun v19_45 w22 =>
  XP Try.prog (binOp .add 3 (.int .i64 6) v19_45) w22 fun v20_46 w23 =>
  XP Try.prog (Instr.sliceAt 27 v2_19 (some (.int .i64 6)) (some v20_46) none) w23 fun v21_47 w24 =>
  XP Try.prog (binOp .mul 3 v14_36 (.int .i64 38)) w24 fun v22_50 w25 =>
  XP Try.prog (binOp .add 3 (.int .i64 6) v22_50) w25 fun v23_51 w26 =>
  XP Try.prog (Instr.sliceAt 27 v2_19 (some v23_51) none none) w26 fun v24_52 w27 =>
  loopS (fun Q1 ρ1 w28 =>
  X Try.prog (Builtin.len_ #[27] 3 #[(ρ1 11)]) w28 fun v25_54 w29 =>
  X Try.prog (binOp .gtr 3 v25_54 (.int .i64 0)) w29 fun v26_55 w30 =>
  condS v26_55 (
  X Try.prog (Instr.sliceAt 27 (ρ1 11) (some (.int .i64 32)) (some (.int .i64 38)) none) w30 fun v27_59 w31 =>
  CALL Try.prog 58 #[v27_59] w31 fun v28_60 w32 =>
  joinS (fun ρ2 w33 =>
  CALL Try.prog 61 #[(ρ2 13), (.int .i64 2)] w33 fun v29_70 w34 =>
  X Try.prog (convert 22 3 v29_70) w34 fun v30_71 w35 =>
  X Try.prog (Builtin.len_ #[27] 3 #[(ρ2 12)]) w35 fun v31_74 w36 =>
  X Try.prog (binOp .gtr 3 v30_71 v31_74) w36 fun v32_75 w37 =>
  condS v32_75 (
  Q1 .ret (upds ρ2 [(5, (.bool false)), (4, (.int .u32 0)), (75, v32_75), (74, v31_74), (73, (ρ2 12)), (72, v30_71), (15, v30_71), (71, v30_71), (70, v29_70), (69, (ρ2 13))]) w37) (
  ∃ R, Frame? R ∧
  XR Try.prog R (Instr.loadAt 113 (ρ2 14)) (drewW w37) fun v33_77 w38 =>
  XP Try.prog (Instr.sliceAt 27 (ρ2 12) none (some v30_71) (some v30_71)) w38 fun v34_81 w39 =>
  closS Try.prog (ρ2 1) #[v33_77, v34_81] w39 fun v35_82 w40 =>
  X Try.prog (Instr.sliceAt 27 (ρ2 12) (some v30_71) none none) w40 fun v36_85 w41 =>
  X Try.prog (Instr.sliceAt 27 (ρ2 11) (some (.int .i64 38)) none none) w41 fun v37_57 w42 =>
  Q1 .normal (upds ρ2 [(11, v37_57), (57, v37_57), (56, (ρ2 11)), (12, v36_85), (85, v36_85), (84, v30_71), (83, (ρ2 12)), (82, v35_82), (81, v34_81), (80, v30_71), (79, v30_71), (78, (ρ2 12)), (77, v33_77), (76, (ρ2 1)), (75, v32_75), (74, v31_74), (73, (ρ2 12)), (72, v30_71), (15, v30_71), (71, v30_71), (70, v29_70), (69, (ρ2 13))]) w42)) fun J2 =>
  ∃ R, Frame? R ∧
  XP Try.prog (Instr.sliceAt 27 (ρ1 11) none (some (.int .i64 32)) none) (drewW w32) fun v38_62 w43 =>
  XP Try.prog (Instr.arrayAt 111 v38_62) w43 fun v39_63 w44 =>
  XR Try.prog R (Instr.loadAt 111 v39_63) w44 fun v40_64 w45 =>
  (CALL Try.prog 61 #[v28_60, (.int .i64 4)] w45 fun v41_66 w46 =>
  R w45 w46 ∧
  XR Try.prog R (convert 22 23 v41_66) w46 fun v42_67 w47 =>
  XP Try.prog (Instr.build 113 #[(0, v40_64), (1, v42_67)]) w47 fun v43_68 w48 =>
  X Try.prog (Instr.alloc 113 true (.tuple #[])) w48 fun v44_14 w49 =>
  R w48 w49 ∧
  XU Try.prog (Instr.storeAt 113 v44_14 v43_68) w49 fun w50 =>
  J2 (upds ρ1 [(14, v44_14), (68, v43_68), (67, v42_67), (66, v41_66), (65, v28_60), (64, v40_64), (63, v39_63), (62, v38_62), (61, (ρ1 11)), (13, v28_60), (60, v28_60), (59, v27_59), (58, (ρ1 11)), (55, v26_55), (54, v25_54), (53, (ρ1 11))]) w50) ∧
  (X Try.prog (Instr.alloc 113 true (.tuple #[])) w45 fun v45_14 w51 =>
  R w45 w51 ∧
  CALL Try.prog 61 #[v28_60, (.int .i64 4)] w51 fun v46_66 w52 =>
  R w51 w52 ∧
  XR Try.prog R (convert 22 23 v46_66) w52 fun v47_67 w53 =>
  XP Try.prog (Instr.build 113 #[(0, v40_64), (1, v47_67)]) w53 fun v48_68 w54 =>
  XU Try.prog (Instr.storeAt 113 v45_14 v48_68) w54 fun w55 =>
  J2 (upds ρ1 [(68, v48_68), (67, v47_67), (66, v46_66), (14, v45_14), (65, v28_60), (64, v40_64), (63, v39_63), (62, v38_62), (61, (ρ1 11)), (13, v28_60), (60, v28_60), (59, v27_59), (58, (ρ1 11)), (55, v26_55), (54, v25_54), (53, (ρ1 11))]) w55)) (
  Q1 (.exit 0) (upds ρ1 [(55, v26_55), (54, v25_54), (53, (ρ1 11))]) w30)) (inBlockS 0 (thenS (fun ρ3 w56 =>
  X Try.prog (Builtin.len_ #[27] 3 #[(ρ3 12)]) w56 fun v49_88 w57 =>
  X Try.prog (binOpG .eql 3 (.tmp 88) (.const (.int .i64 0)) v49_88 (.int .i64 0)) w57 fun v50_89 w58 =>
  K (.tuple #[(ρ3 9), v50_89]) w58) (retS Try.prog (Try.f138).results K))) (upds (env0 #[x0, x1]) [(12, v24_52), (11, v21_47), (52, v24_52), (51, v23_51), (50, v22_50), (49, v14_36), (48, v2_19), (47, v21_47), (46, v20_46), (45, v19_45), (44, v14_36), (43, v2_19), (42, v18_42), (41, v17_41), (40, v16_40), (39, v15_39), (38, v2_19), (37, v14_36), (10, v14_36), (9, v12_33), (36, v14_36), (35, v13_35), (34, v10_30), (33, v12_33), (32, v11_32), (31, v10_30), (8, v10_30), (30, v10_30), (29, v9_29), (28, v2_19), (27, v8_27), (26, v7_26), (25, v6_25), (24, v5_24), (23, v4_22), (22, v4_22), (21, v3_20), (7, v3_20), (6, v2_19), (20, v3_20), (19, v2_19), (16, v1_18), (18, v1_18), (17, x0), (5, (.bool false)), (4, (.int .u32 0))]) w27))

theorem eq_cont_each (x0 x1 : Value) (w : World) (K : Value → World → Prop) :
    sh Try.prog (Try.f138.body.getD .skip) (retS Try.prog Try.f138.results K) (env0 #[x0, x1]) w = B_cont_each x0 x1 w K := by kernel_rfl

theorem call_cont_each (x0 x1 : Value) (w : World) (K : Value → World → Prop) (h : B_cont_each x0 x1 w K) : CALL Try.prog 138 #[x0, x1] w K :=
  call_of_eq (c := Try.f138.body.getD .skip) mixed Try.func138 (by kernel_rfl) (by kernel_rfl) (by kernel_rfl) (Nat.le_of_ble_eq_true (by kernel_rfl)) (eq_cont_each x0 x1 w K) h

/-- cellarage/cont.Take$1 -/
def B_cont_Take_1 (x0 x1 x2 : Value) (w : World) (K : Value → World → Prop) : Prop :=
  X Try.prog (Instr.box 113 x0) w fun v1_3 w1 =>
  ∃ R, Frame? R ∧
  XR Try.prog R (Instr.loadAt 100 x2) (drewW w1) fun v2_5 w2 =>
  XR Try.prog R (Instr.loadAt 113 v1_3) w2 fun v3_6 w3 =>
  X Try.prog (Builtin.append_ #[27, 27] 27 #[(.slice none 0 0), x1]) w3 fun v4_8 w4 =>
  R w3 w4 ∧
  XP Try.prog (Instr.build 115 #[(0, v3_6), (1, v4_8)]) w4 fun v5_9 w5 =>
  X Try.prog (Instr.buildSlice 100 1 #[(0, v5_9)]) w5 fun v6_10 w6 =>
  R w5 w6 ∧
  X Try.prog (Builtin.append_ #[100, 100] 100 #[v2_5, v6_10]) w6 fun v7_11 w7 =>
  R w6 w7 ∧
  XU Try.prog (Instr.storeAt 100 x2 v7_11) w7 fun w8 =>
  K (.tuple #[]) w8

theorem eq_cont_Take_1 (x0 x1 x2 : Value) (w : World) (K : Value → World → Prop) :
    sh Try.prog (Try.f139.body.getD .skip) (retS Try.prog Try.f139.results K) (env0 #[x0, x1, x2]) w = B_cont_Take_1 x0 x1 x2 w K := by kernel_rfl

theorem call_cont_Take_1 (x0 x1 x2 : Value) (w : World) (K : Value → World → Prop) (h : B_cont_Take_1 x0 x1 x2 w K) : CALL Try.prog 139 #[x0, x1, x2] w K :=
  call_of_eq (c := Try.f139.body.getD .skip) mixed Try.func139 (by kernel_rfl) (by kernel_rfl) (by kernel_rfl) (Nat.le_of_ble_eq_true (by kernel_rfl)) (eq_cont_Take_1 x0 x1 x2 w K) h

end Go.Proofs.Ytggggfcgnkllgaa
end
section
/- Pieces: how many bytes, and why they are no container. -/
set_option linter.unusedVariables false
set_option linter.unusedSimpArgs false
namespace Go.Proofs.Ytggggfcgnkllgaa
open Go Go.Sh Go.RowKit Go.ChangeShapes Go.WideShapes Go.ChangeAt
attribute [local irreducible] X XU XP XR CALL loopS resC closS Value.okWide
structure Pp where
  k : Ky
  bs : List UInt8
structure Pc where
  p : Pp
  dv : Value
def Pc.cs (c : Pc) : List Value := c.p.k.cs ++ [c.dv]
theorem Pc.len (c : Pc) : c.cs.length = 34 := by simp [Pc.cs, Ky.cs_len]
def Pc.In (c : Pc) (w : World) : Prop := Bts w c.dv c.p.bs
theorem Pc.In.ext {c : Pc} {W w : World} (h : c.In W) (k : Ext W w) : c.In w := Bts.ext h k
theorem Pc.one {c : Pc} {W : World} (h : c.In W) : ∀ v ∈ c.cs, v.oneCell' = true := by
  obtain ⟨_, _, e1⟩ := Bts.slice h
  intro v hv
  rcases List.mem_append.1 hv with hv | hv
  · exact Ky.one _ _ hv
  · rw [List.mem_singleton.1 hv, e1]; rfl
theorem Pc.dvAt (c : Pc) : c.cs[33]? = some c.dv := by
  unfold Pc.cs
  rw [List.getElem?_append_right (by rw [Ky.cs_len]; omega), Ky.cs_len]
  rfl
theorem Pc.numAt (c : Pc) : c.cs[32]? = some (.int .u32 (c.p.k.num : Int)) := by
  unfold Pc.cs
  rw [List.getElem?_append_left (by rw [Ky.cs_len]; omega)]
  have := c.p.k.cs_num
  simpa using this
theorem Pc.keyAt (c : Pc) {j : Nat} {u : Value} (h : c.p.k.cs[j]? = some u) : c.cs[j]? = some u := by
  unfold Pc.cs
  rw [List.getElem?_append_left (List.getElem?_eq_some_iff.1 h).1]
  exact h
theorem Pc.sumAt (c : Pc) {j : Nat} {u : UInt8} (h : c.p.k.sum[j]? = some u) : c.cs[j]? = some (.int .u8 (u.toNat : Int)) := by
  refine c.keyAt ?_
  unfold Ky.cs
  have hj := (List.getElem?_eq_some_iff.1 h).1
  rw [List.getElem?_append_left (by simpa using hj), B8_getElem?, h]
  rfl
abbrev pl (l : List Pc) : List Pp := l.map Pc.p
def totB (l : List Pp) : Nat := (l.map fun p => p.bs.length).sum
def sizeP (l : List Pp) : Nat := 10 + 38 * l.length + totB l
theorem totB_take_succ (l : List Pp) (i : Nat) (h : i < l.length) : totB (l.take (i + 1)) = totB (l.take i) + l[i].bs.length := by
  unfold totB
  rw [List.take_succ_eq_append_getElem h, List.map_append, List.sum_append]
  simp only [List.map_cons, List.map_nil, List.sum_cons, List.sum_nil, Nat.add_zero]
theorem totB_take_le (l : List Pp) (i : Nat) : totB (l.take i) ≤ totB l := by
  unfold totB
  induction l generalizing i with
  | nil => simp
  | cons p l ih =>
    cases i with
    | zero => simp
    | succ i => have := ih i; simp only [List.take_succ_cons, List.map_cons, List.sum_cons]; omega
theorem totB_mem {l : List Pp} {p : Pp} (h : p ∈ l) : p.bs.length ≤ totB l := by
  unfold totB
  induction l with
  | nil => cases h
  | cons q l ih =>
    simp only [List.map_cons, List.sum_cons]
    rcases List.mem_cons.1 h with rfl | h
    · omega
    · have := ih h; omega
theorem trc_key {H : Type} {enc : TypeId × Value → H} {W : World} {es : List Value} (h : TrC enc Try.prog W 113 es) : ∃ k : Ky, es = k.cs := by
  obtain ⟨hl, hf⟩ := h.struct Try.underlying113
  rw [cel113] at hl
  have g0 := hf { name := "Sum", type := 111, offset := 0, embedded := false, tag := "", pkgPath := "", byteOffset := 0 } (by simp)
  have g1 := hf { name := "N", type := 23, offset := 32, embedded := false, tag := "", pkgPath := "", byteOffset := 32 } (by simp)
  simp only [cel111, cel23, List.drop_zero] at g0 g1
  obtain ⟨n, hn, hw⟩ := TrC.int Try.underlying23 g1
  obtain ⟨hl0, ha⟩ := g0.array Try.underlying111
  rw [cel111] at hl0
  have hall : ∀ i, i < (es.take 32).length → ∃ u : UInt8, (es.take 32)[i]? = some (.int .u8 ((u.toNat : Nat) : Int)) := by
    intro i hi
    have := ha i (by omega)
    rw [cel5, Nat.mul_one] at this
    obtain ⟨m, hm, hw⟩ := TrC.int Try.underlying5 this
    obtain ⟨u, rfl⟩ := u8_of_wf hw
    refine ⟨u, ?_⟩
    have h0 := congrArg (fun l => l[0]?) hm
    simp only [List.getElem?_cons_zero] at h0
    rw [List.getElem?_take, if_pos (by omega), List.getElem?_drop, Nat.add_zero] at h0
    exact h0
  obtain ⟨xs, hxs⟩ := b8_of hall
  have hxl : xs.length = 32 := by
    have := congrArg List.length hxs
    rw [hl0] at this
    simpa using this.symm
  simp [Lit.wf, IntKind.min, IntKind.max, IntKind.signed, IntKind.bits] at hw
  refine ⟨⟨xs, n.toNat, hxl, by omega⟩, ?_⟩
  unfold Ky.cs
  show es = B8 xs ++ [.int .u32 ((n.toNat : Nat) : Int)]
  rw [Int.toNat_of_nonneg hw.1, ← hxs, ← hn]
  have : (es.drop 32).take 1 = es.drop 32 := List.take_of_length_le (by rw [List.length_drop]; omega)
  rw [this, List.take_append_drop]
theorem trc_piece {H : Type} {enc : TypeId × Value → H} {W : World} {es : List Value} (h : TrC enc Try.prog W 115 es) : ∃ c : Pc, es = c.cs ∧ c.In W := by
  obtain ⟨hl, hf⟩ := h.struct Try.underlying115
  rw [cel115] at hl
  have g0 := hf { name := "Key", type := 113, offset := 0, embedded := false, tag := "", pkgPath := "", byteOffset := 0 } (by simp)
  have g1 := hf { name := "Data", type := 27, offset := 33, embedded := false, tag := "", pkgPath := "", byteOffset := 40 } (by simp)
  simp only [cel113, cel27, List.drop_zero] at g0 g1
  obtain ⟨k, hk⟩ := trc_key g0
  have e1 : (es.drop 33).take 1 = es.drop 33 := List.take_of_length_le (by rw [List.length_drop]; omega)
  rw [e1] at g1
  have hlen : (es.drop 33).length = 1 := by rw [List.length_drop]; omega
  match hd : es.drop 33, hlen with
  | [dv], _ =>
    rw [hd] at g1
    obtain ⟨bs, hb⟩ := TrC.bytes Try.underlying27 Try.underlying5 cel5 g1
    refine ⟨⟨⟨k, bs⟩, dv⟩, ?_, hb⟩
    unfold Pc.cs
    show es = k.cs ++ [dv]
    rw [← hk, ← hd, List.take_append_drop]
theorem arg_pieces {H : Type} {enc : TypeId × Value → H} {W : World} {base : Nat} {v : Value} {d : DataW H} {p : List MemPlace}
    (ok : Value.okWide Try.prog W .any base 100 v) (h : DataW.Trod enc Try.prog W 0 (fun _ => true) true 100 v d p) : ∃ l : List Pc, RowK 34 Pc.cs W v l ∧ ∀ c ∈ l, c.In W := by
  obtain ⟨a, n, c, rfl⟩ := okWide_slice Try.underlying100 ok
  exact TrC.rowK Try.underlying100 cel115 (fun es hes => trc_piece hes) (TrC.of h)
theorem X_takePiece {w : World} {v : Value} {l : List Pc} {i : Nat} {K : Value → Value → Value → World → Prop} (hl : RowK 34 Pc.cs w v l) (hi : i < l.length) (ha : l[i].In w)
    (hK : ∀ v1 v2 q w1, Ext w w1 → w.heap.size ≤ q → w1.heap[q]? = some (.cells l[i].cs.toArray 115 (0, 0)) → K v1 v2 (ptr q) w1) :
    X Try.prog (Instr.indexAt 100 v (.int .i64 (i : Int))) w fun v1 w1 => X Try.prog (Instr.loadAt 115 v1) w1 fun v2 w2 => X Try.prog (Instr.alloc 115 true (.tuple #[])) w2 fun v3 w3 => XU Try.prog (Instr.storeAt 115 v3 v2) w3 fun w4 => K v1 v2 v3 w4 := by
  obtain ⟨ad, hix, hcs⟩ := hl.at Try.underlying100 info_115 sz_115 (kd := .i64) i rfl hi
  refine X_of (hix _) ?_
  refine X_of (load_cells Try.underlying115 agg_115 info_115 (l := l[i].cs) (by rw [sz_115, Pc.len]) hcs) ?_
  refine X_alloc zero_115 ?_
  have hq := newB_get w (List.replicate 32 (Value.int .u8 0) ++ [Value.int .u32 0] ++ [Value.slice none 0 0]).toArray 115
  have hxq := newB_ext w (List.replicate 32 (Value.int .u8 0) ++ [Value.int .u32 0] ++ [Value.slice none 0 0]).toArray 115
  show XU _ _ (newB w (List.replicate 32 (Value.int .u8 0) ++ [Value.int .u32 0] ++ [Value.slice none 0 0]).toArray 115) _
  generalize newB w (List.replicate 32 (Value.int .u8 0) ++ [Value.int .u32 0] ++ [Value.slice none 0 0]).toArray 115 = w2 at hq hxq ⊢
  refine XU_storeAgg info_115 hq (by rw [sz_115]; simp) (by rw [sz_115, Pc.len]) (Pc.one ha) ?_
  exact hK _ _ _ _ (Ext.seq hxq (setAt_keep _ _ _ _ _) (fun j hj => by omega)) (Nat.le_refl _) (setAt_same (lt_of_blk hq))
theorem piece_dv {w : World} {q : Nat} {c : Pc} {fr : Nat × Nat} (h : w.heap[q]? = some (.cells c.cs.toArray 115 fr)) : w.cell? ⟨q, 0 + 33, none⟩ = some c.dv := (cell_blk h).trans (by simpa using c.dvAt)
theorem piece_num {w : World} {q : Nat} {c : Pc} {fr : Nat × Nat} (h : w.heap[q]? = some (.cells c.cs.toArray 115 fr)) : w.cell? ⟨q, 0 + 32, none⟩ = some (.int .u32 (c.p.k.num : Int)) := (cell_blk h).trans (by simpa using c.numAt)
theorem piece_key {w : World} {q : Nat} {c : Pc} {fr : Nat × Nat} (h : w.heap[q]? = some (.cells c.cs.toArray 115 fr)) : (Instr.loadAt 113 (ptr q)).run Try.prog w = .ok c.p.k.v w := by
  refine load_cells Try.underlying113 agg_113 info_113 (l := c.p.k.cs) (by rw [sz_113, Ky.cs_len]) (fun j u hj => ?_)
  rw [add_plain, Nat.zero_add, cell_blk h]
  simpa using c.keyAt hj
theorem run_idx_cap {α : Type} {k : Nat} {f : α → List Value} {w : World} {v : Value} {l : List α} (h : RowK k f w v l) : l.length ≤ 9223372036854775807 := by
  obtain ⟨_, c, _, h1, h2, _⟩ := h
  omega
section
variable {w : World} {K : Value → World → Prop}
/-- How many bytes a container has. -/
theorem Size_pieces {v : Value} {l : List Pc} (hl : RowK 34 Pc.cs w v l) (hin : ∀ c ∈ l, c.In w) (hT : 38 * l.length + totB (pl l) ≤ 1000000000000) (hK : ∀ w1, Ext w w1 → K (i64v ((sizeP (pl l) : Nat) : Int)) w1) : CALL Try.prog 89 #[v] w K := by
  obtain ⟨a, c, ev⟩ := hl.slice
  apply call_cont_Size
  unfold B_cont_Size
  rw [ev, X_len_100, X_mul, w64 (by omega) (by omega), X_add, w64 (by omega) (by omega), X_len_100, ← ev]
  refine loopE (fun ρ wr => ∃ i : Nat, i ≤ l.length ∧ Ext w wr ∧ ρ 12 = .int .i64 (i : Int) ∧ ρ 11 = .int .i64 (l.length : Int) ∧ ρ 10 = v ∧ ρ 3 = .int .i64 ((10 + 38 * l.length + totB ((pl l).take i) : Nat) : Int))
    (fun ρ wr => match ρ 12 with | .int _ s => (l.length - s).toNat | _ => 0)
    (fun ρ wr => Ext w wr ∧ ρ 3 = .int .i64 ((sizeP (pl l) : Nat) : Int)) ?_ ?_ ?_
  · exact ⟨0, by omega, Keep.refl _ _, rfl, rfl, rfl, by show Value.int .i64 (10 + 38 * (l.length : Int)) = _; congr 1⟩
  · rintro J hJ ρ wr ⟨i, hi, hx, r12, r11, r10, r3⟩
    rw [r12, r11, r10, X_lss, condS_bool]
    by_cases hie : i = l.length
    · rw [if_neg (by simp; omega)]
      refine hJ _ _ ⟨hx, ?_⟩
      show ρ 3 = _
      rw [r3, hie]
      have : (pl l).take l.length = pl l := List.take_of_length_le (by simp)
      rw [this]
      have hll : (pl l).length = l.length := by simp
      unfold sizeP
      rw [hll]
    rw [if_pos (by simp; omega)]
    have hlt : i < l.length := by omega
    refine X_takePiece (hl.ext hx) hlt ((hin _ (List.getElem_mem hlt)).ext hx) ?_
    intro u1 u2 q w4 hx4 hq hqb
    have hin4 := ((hin _ (List.getElem_mem hlt)).ext hx).ext hx4
    have hts := totB_take_succ (pl l) i (by simpa using hlt)
    have hle := totB_take_le (pl l) (i + 1)
    have hget : (pl l)[i]'(by simpa using hlt) = l[i].p := by simp
    rw [hget] at hts
    generalize l[i] = A at hqb hin4 hts
    obtain ⟨aA, cA, eA⟩ := Bts.slice hin4
    rw [X_field_115_1]
    refine X_of (run_loadAt agg_27 (piece_dv hqb)) ?_
    rw [eA, X_len_27, r3, X_add, w64 (by omega) (by omega), X_add]
    show _ ∧ _
    refine ⟨⟨i + 1, by omega, hx.trans hx4, next64 (n := 1000000000000) (by decide) (by omega), r11, r10, ?_⟩, ?_⟩
    · show Value.int .i64 _ = _
      congr 1
      rw [hts]
      omega
    · show (_ - IntKind.i64.wrap _).toNat < _
      rw [w64 (by omega) (by omega)]
      first | omega | (show _ < (_ : Int).toNat; omega)
  · rintro ρ wr ⟨hx, r3⟩
    rw [r3]
    exact hK _ hx
end
end Go.Proofs.Ytggggfcgnkllgaa
end
section
/- Why pieces are no container: check. -/
set_option linter.unusedVariables false
set_option linter.unusedSimpArgs false
namespace Go.Proofs.Ytggggfcgnkllgaa
open Go Go.Sh Go.RowKit
attribute [local irreducible] X XU XP XR CALL loopS resC closS
abbrev kys (l : List Pp) : List Ky := l.map Pp.k
def chk (l : List Pp) : Int :=
  if ∃ p ∈ l, p.bs = [] then 1
  else if 1000 < l.length ∨ (∃ p ∈ l, 4096 < p.bs.length) ∨ 65536 < sizeP l then 4
  else if (kys l).Nodup then 0 else 3
theorem nodup_succ {l : List Ky} {j : Nat} (h : j < l.length) : (l.take (j + 1)).Nodup ↔ (l.take j).Nodup ∧ l[j] ∉ l.take j := by
  rw [List.take_succ_eq_append_getElem h, List.nodup_append]
  constructor
  · rintro ⟨h1, _, h3⟩
    exact ⟨h1, fun hm => h3 _ hm _ (by simp) rfl⟩
  · rintro ⟨h1, h2⟩
    refine ⟨h1, by simp, fun a ha b hb => ?_⟩
    rw [List.mem_singleton.1 hb]
    rintro rfl
    exact h2 ha
theorem any_succ {l : List Pp} {P : Pp → Prop} {i : Nat} (h : i < l.length) : (∃ p ∈ l.take (i + 1), P p) ↔ (∃ p ∈ l.take i, P p) ∨ P l[i] := by
  rw [List.take_succ_eq_append_getElem h]
  constructor
  · rintro ⟨p, hp, h⟩
    rcases List.mem_append.1 hp with hp | hp
    · exact .inl ⟨p, hp, h⟩
    · rw [List.mem_singleton.1 hp] at h; exact .inr h
  · rintro (⟨p, hp, h⟩ | h)
    · exact ⟨p, List.mem_append_left _ hp, h⟩
    · exact ⟨_, List.mem_append_right _ (by simp), h⟩
/-- Too long, as far as one has looked. -/
def longB (l : List Pp) (i : Nat) : Bool := decide (1000 < l.length ∨ ∃ p ∈ l.take i, 4096 < p.bs.length)
section
variable {w : World} {K : Value → World → Prop}
set_option maxHeartbeats 1000000 in
theorem check_spec {v : Value} {l : List Pc} (hl : RowK 34 Pc.cs w v l) (hin : ∀ c ∈ l, c.In w) (hT : 38 * l.length + totB (pl l) ≤ 1000000000000) (hK : ∀ w1, Ext w w1 → K (i64v (chk (pl l))) w1) : CALL Try.prog 136 #[v] w K := by
  obtain ⟨a, c, ev⟩ := hl.slice
  have hll : (pl l).length = l.length := by simp
  have e0 : decide ((0 : Int) = 0) = true := by decide
  apply call_cont_check
  unfold B_cont_check
  rw [ev, X_len_100, X_gtr, X_len_100, ← ev]
  refine loopE (fun ρ wr => ∃ i : Nat, i ≤ l.length ∧ Ext w wr ∧ (¬ ∃ p ∈ (pl l).take i, p.bs = []) ∧ ρ 14 = .int .i64 (i : Int) ∧ ρ 13 = .int .i64 (l.length : Int) ∧ ρ 12 = v ∧ ρ 3 = .bool (longB (pl l) i) ∧ ρ 0 = v)
    (fun ρ wr => match ρ 14 with | .int _ s => (l.length - s).toNat | _ => 0)
    (fun ρ wr => Ext w wr ∧ (¬ ∃ p ∈ pl l, p.bs = []) ∧ ρ 3 = .bool (longB (pl l) l.length) ∧ ρ 0 = v) ?_ ?_ ?_
  · refine ⟨0, by omega, Keep.refl _ _, by simp, rfl, rfl, rfl, ?_, rfl⟩
    show Value.bool (decide ((l.length : Int) > 1000)) = _
    unfold longB
    congr 1
    apply decide_eq_decide.2
    rw [hll]
    constructor
    · intro h; left; omega
    · rintro (h | ⟨p, hp, _⟩)
      · omega
      · simp at hp
  · rintro J hJ ρ wr ⟨i, hi, hx, hne, r14, r13, r12, r3, r0⟩
    rw [r14, r13, r12, X_lss, condS_bool]
    by_cases hie : i = l.length
    · rw [if_neg (by simp; omega)]
      subst hie
      have ht : (pl l).take l.length = pl l := List.take_of_length_le (by simp)
      rw [ht] at hne
      exact hJ _ _ ⟨hx, hne, r3, r0⟩
    rw [if_pos (by simp; omega)]
    have hlt : i < l.length := by omega
    have hltp : i < (pl l).length := by rw [hll]; exact hlt
    refine X_takePiece (hl.ext hx) hlt ((hin _ (List.getElem_mem hlt)).ext hx) ?_
    intro u1 u2 q w4 hx4 hq hqb
    have hin4 := ((hin _ (List.getElem_mem hlt)).ext hx).ext hx4
    have hget : (pl l)[i]'hltp = l[i].p := by simp
    have s1 := any_succ (P := fun p => p.bs = []) hltp
    have s2 := any_succ (P := fun p => 4096 < p.bs.length) hltp
    have hmem : l[i].p ∈ pl l := List.mem_map.2 ⟨_, List.getElem_mem hlt, rfl⟩
    have hble := totB_mem hmem
    rw [hget] at s1 s2
    generalize l[i] = A at hqb hin4 s1 s2 hmem hble
    obtain ⟨aA, cA, eA⟩ := Bts.slice hin4
    rw [X_field_115_1]
    refine X_of (run_loadAt agg_27 (piece_dv hqb)) ?_
    rw [eA, X_len_27]
    (repeat (simp only [XP_extract0, XP_extract1, XP_extract2, XP_extract3, X_extract0, X_extract1, X_extract2, X_extract3, X_nilS, X_eql_nil_74, X_neq_nil_74, X_eql_nil_124, X_neq_nil_124, X_eql, X_neq, X_lss, X_leq, X_gtr, X_geq, X_not, X_min, X_max, X_len_27, X_len_9, X_len_79, XP_nilS, XP_eql, XP_neq, XP_lss, XP_leq, XP_gtr, XP_geq, XP_not, XP_min, XP_max, XP_len_27, XP_len_9, XP_eql_nil_74, X_str_eql, X_str_neq, XP_str_eql, XP_str_neq, GS, gs_u, decide_true, decide_false, Option.isNone_some, Option.isSome_some, Option.isNone_none, Option.isSome_none, eq_self, Bool.not_true, Bool.not_false, Int.reduceEq, Int.reduceNe, Int.reduceLT, Int.reduceLE, Int.reduceGT, Int.reduceGE]))
    by_cases h0 : A.p.bs = []
    · have c : decide ((A.p.bs.length : Int) = 0) = true := by rw [h0]; decide
      (repeat (simp only [XP_extract0, XP_extract1, XP_extract2, XP_extract3, X_extract0, X_extract1, X_extract2, X_extract3, X_nilS, X_eql_nil_74, X_neq_nil_74, X_eql_nil_124, X_neq_nil_124, X_eql, X_neq, X_lss, X_leq, X_gtr, X_geq, X_not, X_min, X_max, X_len_27, X_len_9, X_len_79, XP_nilS, XP_eql, XP_neq, XP_lss, XP_leq, XP_gtr, XP_geq, XP_not, XP_min, XP_max, XP_len_27, XP_len_9, XP_eql_nil_74, X_str_eql, X_str_neq, XP_str_eql, XP_str_neq, GS, gs_u, decide_true, decide_false, Option.isNone_some, Option.isSome_some, Option.isNone_none, Option.isSome_none, eq_self, Bool.not_true, Bool.not_false, Int.reduceEq, Int.reduceNe, Int.reduceLT, Int.reduceLE, Int.reduceGT, Int.reduceGE, c]))
      show K (i64v 1) w4
      have := hK w4 (hx.trans hx4)
      have ec : chk (pl l) = 1 := by
        unfold chk
        rw [if_pos ⟨_, hmem, h0⟩]
      rw [ec] at this
      exact this
    have hpos : 0 < A.p.bs.length := List.length_pos_iff.2 h0
    have c : decide ((A.p.bs.length : Int) = 0) = false := by simp; omega
    (repeat (simp only [XP_extract0, XP_extract1, XP_extract2, XP_extract3, X_extract0, X_extract1, X_extract2, X_extract3, X_nilS, X_eql_nil_74, X_neq_nil_74, X_eql_nil_124, X_neq_nil_124, X_eql, X_neq, X_lss, X_leq, X_gtr, X_geq, X_not, X_min, X_max, X_len_27, X_len_9, X_len_79, XP_nilS, XP_eql, XP_neq, XP_lss, XP_leq, XP_gtr, XP_geq, XP_not, XP_min, XP_max, XP_len_27, XP_len_9, XP_eql_nil_74, X_str_eql, X_str_neq, XP_str_eql, XP_str_neq, GS, gs_u, decide_true, decide_false, Option.isNone_some, Option.isSome_some, Option.isNone_none, Option.isSome_none, eq_self, Bool.not_true, Bool.not_false, Int.reduceEq, Int.reduceNe, Int.reduceLT, Int.reduceLE, Int.reduceGT, Int.reduceGE, c]))
    have fin : ∀ ρ' : Env, ρ' 14 = .int .i64 (IntKind.i64.wrap ((i : Int) + 1)) → ρ' 13 = .int .i64 (l.length : Int) → ρ' 12 = v → ρ' 3 = .bool (longB (pl l) (i + 1)) → ρ' 0 = v →
        (∃ i : Nat, i ≤ l.length ∧ Ext w w4 ∧ (¬ ∃ p ∈ (pl l).take i, p.bs = []) ∧ ρ' 14 = .int .i64 (i : Int) ∧ ρ' 13 = .int .i64 (l.length : Int) ∧ ρ' 12 = v ∧ ρ' 3 = .bool (longB (pl l) i) ∧ ρ' 0 = v) ∧
          (match ρ' 14 with | .int _ s => (l.length - s).toNat | _ => 0) < ((l.length : Int) - (i : Int)).toNat := by
      intro ρ' g14 g13 g12 g3 g0
      refine ⟨⟨i + 1, by omega, hx.trans hx4, ?_, by rw [g14]; exact next64 (n := 1000000000000) (by decide) (by omega), g13, g12, g3, g0⟩, ?_⟩
      · rw [s1]; rintro (h | h)
        · exact hne h
        · exact h0 h
      · rw [g14]
        show (_ - IntKind.i64.wrap _).toNat < _
        rw [w64 (by omega) (by omega)]
        first | omega | (show _ < (_ : Int).toNat; omega)
    rw [r3]
    cases hb : longB (pl l) i with
    | true =>
      have hb1 : longB (pl l) (i + 1) = true := by
        unfold longB at hb ⊢
        have hb := of_decide_eq_true hb
        refine decide_eq_true ?_
        rcases hb with h | h
        · exact .inl h
        · exact .inr (s2.2 (.inl h))
      (repeat (simp only [XP_extract0, XP_extract1, XP_extract2, XP_extract3, X_extract0, X_extract1, X_extract2, X_extract3, X_nilS, X_eql_nil_74, X_neq_nil_74, X_eql_nil_124, X_neq_nil_124, X_eql, X_neq, X_lss, X_leq, X_gtr, X_geq, X_not, X_min, X_max, X_len_27, X_len_9, X_len_79, XP_nilS, XP_eql, XP_neq, XP_lss, XP_leq, XP_gtr, XP_geq, XP_not, XP_min, XP_max, XP_len_27, XP_len_9, XP_eql_nil_74, X_str_eql, X_str_neq, XP_str_eql, XP_str_neq, GS, gs_u, decide_true, decide_false, Option.isNone_some, Option.isSome_some, Option.isNone_none, Option.isSome_none, eq_self, Bool.not_true, Bool.not_false, Int.reduceEq, Int.reduceNe, Int.reduceLT, Int.reduceLE, Int.reduceGT, Int.reduceGE]))
      rw [X_add]
      exact fin _ rfl r13 r12 (by rw [hb1]; rfl) r0
    | false =>
      have hb1 : longB (pl l) (i + 1) = decide ((A.p.bs.length : Int) > 4096) := by
        unfold longB at hb ⊢
        have hb := of_decide_eq_false hb
        apply decide_eq_decide.2
        rw [s2]
        constructor
        · rintro (h | h | h)
          · exact absurd (.inl h) hb
          · exact absurd (.inr h) hb
          · omega
        · intro h; exact .inr (.inr (by omega))
      (repeat (simp only [XP_extract0, XP_extract1, XP_extract2, XP_extract3, X_extract0, X_extract1, X_extract2, X_extract3, X_nilS, X_eql_nil_74, X_neq_nil_74, X_eql_nil_124, X_neq_nil_124, X_eql, X_neq, X_lss, X_leq, X_gtr, X_geq, X_not, X_min, X_max, X_len_27, X_len_9, X_len_79, XP_nilS, XP_eql, XP_neq, XP_lss, XP_leq, XP_gtr, XP_geq, XP_not, XP_min, XP_max, XP_len_27, XP_len_9, XP_eql_nil_74, X_str_eql, X_str_neq, XP_str_eql, XP_str_neq, GS, gs_u, decide_true, decide_false, Option.isNone_some, Option.isSome_some, Option.isNone_none, Option.isSome_none, eq_self, Bool.not_true, Bool.not_false, Int.reduceEq, Int.reduceNe, Int.reduceLT, Int.reduceLE, Int.reduceGT, Int.reduceGE, X_field_115_1]))
      refine X_of (run_loadAt agg_27 (piece_dv hqb)) ?_
      rw [eA]
      (repeat (simp only [XP_extract0, XP_extract1, XP_extract2, XP_extract3, X_extract0, X_extract1, X_extract2, X_extract3, X_nilS, X_eql_nil_74, X_neq_nil_74, X_eql_nil_124, X_neq_nil_124, X_eql, X_neq, X_lss, X_leq, X_gtr, X_geq, X_not, X_min, X_max, X_len_27, X_len_9, X_len_79, XP_nilS, XP_eql, XP_neq, XP_lss, XP_leq, XP_gtr, XP_geq, XP_not, XP_min, XP_max, XP_len_27, XP_len_9, XP_eql_nil_74, X_str_eql, X_str_neq, XP_str_eql, XP_str_neq, GS, gs_u, decide_true, decide_false, Option.isNone_some, Option.isSome_some, Option.isNone_none, Option.isSome_none, eq_self, Bool.not_true, Bool.not_false, Int.reduceEq, Int.reduceNe, Int.reduceLT, Int.reduceLE, Int.reduceGT, Int.reduceGE]))
      rw [X_add]
      exact fin _ rfl r13 r12 (by rw [hb1]; rfl) r0
  · rintro ρ wr ⟨hx, hne, r3, r0⟩
    rw [r3, r0]
    have four : (longB (pl l) l.length = true ∨ 65536 < sizeP (pl l)) → ∀ w', Ext w w' → K (.int .i64 4) w' := by
      intro h w' hx'
      have := hK w' hx'
      have ec : chk (pl l) = 4 := by
        unfold chk
        rw [if_neg hne, if_pos]
        rcases h with h | h
        · have h := of_decide_eq_true h
          rw [List.take_of_length_le (by simp)] at h
          rcases h with h | h
          · exact .inl h
          · exact .inr (.inl h)
        · exact .inr (.inr h)
      rw [ec] at this
      exact this
    have htot : sizeP (pl l) ≤ 1000000000010 := by unfold sizeP; rw [hll]; omega
    cases hb : longB (pl l) l.length with
    | true =>
      (repeat (simp only [XP_extract0, XP_extract1, XP_extract2, XP_extract3, X_extract0, X_extract1, X_extract2, X_extract3, X_nilS, X_eql_nil_74, X_neq_nil_74, X_eql_nil_124, X_neq_nil_124, X_eql, X_neq, X_lss, X_leq, X_gtr, X_geq, X_not, X_min, X_max, X_len_27, X_len_9, X_len_79, XP_nilS, XP_eql, XP_neq, XP_lss, XP_leq, XP_gtr, XP_geq, XP_not, XP_min, XP_max, XP_len_27, XP_len_9, XP_eql_nil_74, X_str_eql, X_str_neq, XP_str_eql, XP_str_neq, GS, gs_u, decide_true, decide_false, Option.isNone_some, Option.isSome_some, Option.isNone_none, Option.isSome_none, eq_self, Bool.not_true, Bool.not_false, Int.reduceEq, Int.reduceNe, Int.reduceLT, Int.reduceLE, Int.reduceGT, Int.reduceGE]))
      exact four (.inl hb) _ hx
    | false =>
      (repeat (simp only [XP_extract0, XP_extract1, XP_extract2, XP_extract3, X_extract0, X_extract1, X_extract2, X_extract3, X_nilS, X_eql_nil_74, X_neq_nil_74, X_eql_nil_124, X_neq_nil_124, X_eql, X_neq, X_lss, X_leq, X_gtr, X_geq, X_not, X_min, X_max, X_len_27, X_len_9, X_len_79, XP_nilS, XP_eql, XP_neq, XP_lss, XP_leq, XP_gtr, XP_geq, XP_not, XP_min, XP_max, XP_len_27, XP_len_9, XP_eql_nil_74, X_str_eql, X_str_neq, XP_str_eql, XP_str_neq, GS, gs_u, decide_true, decide_false, Option.isNone_some, Option.isSome_some, Option.isNone_none, Option.isSome_none, eq_self, Bool.not_true, Bool.not_false, Int.reduceEq, Int.reduceNe, Int.reduceLT, Int.reduceLE, Int.reduceGT, Int.reduceGE]))
      refine Size_pieces (hl.ext hx) (fun c hc => (hin c hc).ext hx) hT ?_
      intro w1 hx1
      have hx01 : Ext w w1 := hx.trans hx1
      (repeat (simp only [XP_extract0, XP_extract1, XP_extract2, XP_extract3, X_extract0, X_extract1, X_extract2, X_extract3, X_nilS, X_eql_nil_74, X_neq_nil_74, X_eql_nil_124, X_neq_nil_124, X_eql, X_neq, X_lss, X_leq, X_gtr, X_geq, X_not, X_min, X_max, X_len_27, X_len_9, X_len_79, XP_nilS, XP_eql, XP_neq, XP_lss, XP_leq, XP_gtr, XP_geq, XP_not, XP_min, XP_max, XP_len_27, XP_len_9, XP_eql_nil_74, X_str_eql, X_str_neq, XP_str_eql, XP_str_neq, GS, gs_u, decide_true, decide_false, Option.isNone_some, Option.isSome_some, Option.isNone_none, Option.isSome_none, eq_self, Bool.not_true, Bool.not_false, Int.reduceEq, Int.reduceNe, Int.reduceLT, Int.reduceLE, Int.reduceGT, Int.reduceGE]))
      by_cases hsz : 65536 < sizeP (pl l)
      · have c : decide (((sizeP (pl l) : Nat) : Int) > 65536) = true := by simp; omega
        (repeat (simp only [XP_extract0, XP_extract1, XP_extract2, XP_extract3, X_extract0, X_extract1, X_extract2, X_extract3, X_nilS, X_eql_nil_74, X_neq_nil_74, X_eql_nil_124, X_neq_nil_124, X_eql, X_neq, X_lss, X_leq, X_gtr, X_geq, X_not, X_min, X_max, X_len_27, X_len_9, X_len_79, XP_nilS, XP_eql, XP_neq, XP_lss, XP_leq, XP_gtr, XP_geq, XP_not, XP_min, XP_max, XP_len_27, XP_len_9, XP_eql_nil_74, X_str_eql, X_str_neq, XP_str_eql, XP_str_neq, GS, gs_u, decide_true, decide_false, Option.isNone_some, Option.isSome_some, Option.isNone_none, Option.isSome_none, eq_self, Bool.not_true, Bool.not_false, Int.reduceEq, Int.reduceNe, Int.reduceLT, Int.reduceLE, Int.reduceGT, Int.reduceGE, c]))
        exact four (.inr hsz) _ hx01
      have c : decide (((sizeP (pl l) : Nat) : Int) > 65536) = false := by simp; omega
      (repeat (simp only [XP_extract0, XP_extract1, XP_extract2, XP_extract3, X_extract0, X_extract1, X_extract2, X_extract3, X_nilS, X_eql_nil_74, X_neq_nil_74, X_eql_nil_124, X_neq_nil_124, X_eql, X_neq, X_lss, X_leq, X_gtr, X_geq, X_not, X_min, X_max, X_len_27, X_len_9, X_len_79, XP_nilS, XP_eql, XP_neq, XP_lss, XP_leq, XP_gtr, XP_geq, XP_not, XP_min, XP_max, XP_len_27, XP_len_9, XP_eql_nil_74, X_str_eql, X_str_neq, XP_str_eql, XP_str_neq, GS, gs_u, decide_true, decide_false, Option.isNone_some, Option.isSome_some, Option.isNone_none, Option.isSome_none, eq_self, Bool.not_true, Bool.not_false, Int.reduceEq, Int.reduceNe, Int.reduceLT, Int.reduceLE, Int.reduceGT, Int.reduceGE, c]))
      have hb' := of_decide_eq_false hb
      rw [List.take_of_length_le (by simp)] at hb'
      have n4 : ¬ (1000 < (pl l).length ∨ (∃ p ∈ pl l, 4096 < p.bs.length) ∨ 65536 < sizeP (pl l)) := by
        rintro (h | h | h)
        · exact hb' (.inl h)
        · exact hb' (.inr h)
        · exact hsz h
      rw [ev]
      (repeat (simp only [XP_extract0, XP_extract1, XP_extract2, XP_extract3, X_extract0, X_extract1, X_extract2, X_extract3, X_nilS, X_eql_nil_74, X_neq_nil_74, X_eql_nil_124, X_neq_nil_124, X_eql, X_neq, X_lss, X_leq, X_gtr, X_geq, X_not, X_min, X_max, X_len_27, X_len_9, X_len_79, XP_nilS, XP_eql, XP_neq, XP_lss, XP_leq, XP_gtr, XP_geq, XP_not, XP_min, XP_max, XP_len_27, XP_len_9, XP_eql_nil_74, X_str_eql, X_str_neq, XP_str_eql, XP_str_neq, GS, gs_u, decide_true, decide_false, Option.isNone_some, Option.isSome_some, Option.isNone_none, Option.isSome_none, eq_self, Bool.not_true, Bool.not_false, Int.reduceEq, Int.reduceNe, Int.reduceLT, Int.reduceLE, Int.reduceGT, Int.reduceGE, X_len_100]))
      refine X_makeMap Try.underlying210 _ ?_
      have hm0 := newM_at w1
      have hxm := newM_ext w1
      have hmlt : w.heap.size ≤ w1.heap.size := hx01.size
      generalize newM w1 = w2 at hm0 hxm ⊢
      generalize w1.heap.size = mb at hm0 hmlt ⊢
      rw [← ev]
      have hkl : (kys (pl l)).length = l.length := by simp
      refine loopE (fun ρ3 w3 => ∃ j : Nat, j ≤ l.length ∧ Ext w w3 ∧ MapAt w3 mb (((kys (pl l)).take j).map fun k => (k.v, Value.bool true)) ∧ ((kys (pl l)).take j).Nodup ∧ ρ3 41 = .int .i64 (j : Int) ∧ ρ3 40 = .int .i64 (l.length : Int) ∧ ρ3 39 = v ∧ ρ3 6 = .map (some mb))
        (fun ρ3 w3 => match ρ3 41 with | .int _ s => (l.length - s).toNat | _ => 0)
        (fun ρ3 w3 => Ext w w3 ∧ (kys (pl l)).Nodup) ?_ ?_ ?_
      · exact ⟨0, by omega, hx01.trans hxm, by rw [List.take_zero]; exact hm0, by rw [List.take_zero]; exact List.nodup_nil, rfl, rfl, rfl, rfl⟩
      · rintro J hJ ρ3 w3 ⟨j, hj, hx3, hm3, hnd, r41, r40, r39, r6⟩
        rw [r41, r40, r39, r6, X_lss, condS_bool]
        by_cases hje : j = l.length
        · rw [if_neg (by simp; omega)]
          rw [hje, List.take_of_length_le (by simp)] at hnd
          exact hJ _ _ ⟨hx3, hnd⟩
        rw [if_pos (by simp; omega)]
        have hlt : j < l.length := by omega
        have hltk : j < (kys (pl l)).length := by rw [hkl]; exact hlt
        refine X_takePiece (hl.ext hx3) hlt ((hin _ (List.getElem_mem hlt)).ext hx3) ?_
        intro u1 u2 q w4 hx4 hq hqb
        have hgk : (kys (pl l))[j]'hltk = l[j].p.k := by simp
        have hns := nodup_succ hltk
        rw [hgk] at hns
        have htk : (kys (pl l)).take (j + 1) = (kys (pl l)).take j ++ [l[j].p.k] := by rw [List.take_succ_eq_append_getElem hltk, hgk]
        generalize l[j] = A at hqb hns htk
        obtain ⟨kl, hkl'⟩ := keyOf_ky A.p.k
        have hm4 := hm3.ext hx4
        have hall : ∀ p ∈ (((kys (pl l)).take j).map fun k => (k.v, Value.bool true)), ∃ x, keyOf Try.prog 113 p.1 = some x := by
          intro p hp
          obtain ⟨k, _, rfl⟩ := List.mem_map.1 hp
          exact keyOf_ky k
        rw [X_field_115_0]
        refine X_of (piece_key hqb) ?_
        rcases run_lookupM keyed113 Try.underlying210 zero_4 hm4 hall hkl' false with ⟨hno, hrun⟩ | ⟨p, hp, hpk, hrun⟩
        · refine X_of hrun ?_
          (repeat (simp only [XP_extract0, XP_extract1, XP_extract2, XP_extract3, X_extract0, X_extract1, X_extract2, X_extract3, X_nilS, X_eql_nil_74, X_neq_nil_74, X_eql_nil_124, X_neq_nil_124, X_eql, X_neq, X_lss, X_leq, X_gtr, X_geq, X_not, X_min, X_max, X_len_27, X_len_9, X_len_79, XP_nilS, XP_eql, XP_neq, XP_lss, XP_leq, XP_gtr, XP_geq, XP_not, XP_min, XP_max, XP_len_27, XP_len_9, XP_eql_nil_74, X_str_eql, X_str_neq, XP_str_eql, XP_str_neq, GS, gs_u, decide_true, decide_false, Option.isNone_some, Option.isSome_some, Option.isNone_none, Option.isSome_none, eq_self, Bool.not_true, Bool.not_false, Int.reduceEq, Int.reduceNe, Int.reduceLT, Int.reduceLE, Int.reduceGT, Int.reduceGE, X_field_115_0]))
          refine X_of (piece_key hqb) ?_
          refine XU_updateNew keyed113 Try.underlying210 hm4 hall hkl' hno ?_
          intro w5 hm5 hk5
          rw [X_add]
          show _ ∧ _
          refine ⟨⟨j + 1, by omega, Ext.seq (hx3.trans hx4) hk5 (fun k hk => by omega), ?_, hns.2 ⟨hnd, fun hmem => ?_⟩, next64 (n := 1000000000000) (by decide) (by omega), r40, r39, r6⟩, ?_⟩
          · rw [htk, List.map_append]
            exact hm5
          · exact hno (A.p.k.v, .bool true) (List.mem_map.2 ⟨_, hmem, rfl⟩) rfl
          · show (_ - IntKind.i64.wrap _).toNat < _
            rw [w64 (by omega) (by omega)]
            first | omega | (show _ < (_ : Int).toNat; omega)
        · obtain ⟨k, hk, rfl⟩ := List.mem_map.1 hp
          have hkk : k = A.p.k := Ky.v_inj hpk
          refine X_of hrun ?_
          (repeat (simp only [XP_extract0, XP_extract1, XP_extract2, XP_extract3, X_extract0, X_extract1, X_extract2, X_extract3, X_nilS, X_eql_nil_74, X_neq_nil_74, X_eql_nil_124, X_neq_nil_124, X_eql, X_neq, X_lss, X_leq, X_gtr, X_geq, X_not, X_min, X_max, X_len_27, X_len_9, X_len_79, XP_nilS, XP_eql, XP_neq, XP_lss, XP_leq, XP_gtr, XP_geq, XP_not, XP_min, XP_max, XP_len_27, XP_len_9, XP_eql_nil_74, X_str_eql, X_str_neq, XP_str_eql, XP_str_neq, GS, gs_u, decide_true, decide_false, Option.isNone_some, Option.isSome_some, Option.isNone_none, Option.isSome_none, eq_self, Bool.not_true, Bool.not_false, Int.reduceEq, Int.reduceNe, Int.reduceLT, Int.reduceLE, Int.reduceGT, Int.reduceGE]))
          show K (i64v 3) w4
          have := hK w4 (hx3.trans hx4)
          have ec : chk (pl l) = 3 := by
            unfold chk
            rw [if_neg hne, if_neg n4, if_neg]
            intro hnd'
            have hnd2 : ((kys (pl l)).take (j + 1)).Nodup := hnd'.sublist (List.take_sublist _ _)
            have := (hns.1 hnd2).2
            rw [hkk] at hk
            exact this hk
          rw [ec] at this
          exact this
      · rintro ρ4 w4 ⟨hx4, hnd⟩
        have := hK w4 hx4
        have ec : chk (pl l) = 0 := by
          unfold chk
          rw [if_neg hne, if_neg n4, if_pos hnd]
        rw [ec] at this
        exact this
end
end Go.Proofs.Ytggggfcgnkllgaa
end
section
/- Check sums: plain Lean over words of 32 bits. -/
set_option linter.unusedSimpArgs false
namespace Go.Sh
abbrev W32 := BitVec 32
def poly : W32 := BitVec.ofNat 32 79764919
def bit1 (c : W32) : W32 := (c <<< 1) ^^^ (if c.msb = true then poly else 0#32)
def iter : Nat → W32 → W32
  | 0, c => c
  | k + 1, c => iter k (bit1 c)
/-- A byte at the top of a word. -/
def top (u : UInt8) : W32 := BitVec.ofNat 32 u.toNat <<< 24
def step8 (u : UInt8) : W32 := iter 8 (top u)
def upd1 (c : W32) (u : UInt8) : W32 := iter 8 (c ^^^ top u)
def fold (c : W32) (l : List UInt8) : W32 := l.foldl upd1 c
def more (c : W32) (l : List UInt8) : W32 := ~~~ (fold (~~~ c) l)
def crc (l : List UInt8) : W32 := more 0#32 l

theorem bit1_xor (a b : W32) : bit1 (a ^^^ b) = bit1 a ^^^ bit1 b := by
  unfold bit1
  rw [BitVec.shiftLeft_xor_distrib, BitVec.msb_xor]
  cases ha : a.msb <;> cases hb : b.msb
  · simp
  · simp [BitVec.xor_assoc]
  · simp only [Bool.xor_false, if_true, Bool.false_eq_true, if_false, BitVec.xor_zero]
    rw [BitVec.xor_assoc, BitVec.xor_comm (b <<< 1), ← BitVec.xor_assoc]
  · simp only [Bool.xor_self, Bool.false_eq_true, if_false, if_true, BitVec.xor_zero]
    rw [BitVec.xor_assoc, BitVec.xor_comm poly, BitVec.xor_assoc (b <<< 1), BitVec.xor_self, BitVec.xor_zero]
theorem bit1_zero : bit1 0#32 = 0#32 := by decide
theorem iter_xor (k : Nat) (a b : W32) : iter k (a ^^^ b) = iter k a ^^^ iter k b := by
  induction k generalizing a b with
  | zero => rfl
  | succ k ih => show iter k (bit1 _) = _; rw [bit1_xor, ih]; rfl
theorem iter_zero (k : Nat) : iter k 0#32 = 0#32 := by
  induction k with
  | zero => rfl
  | succ k ih => show iter k (bit1 0#32) = 0#32; rw [bit1_zero, ih]
theorem iter_add (j k : Nat) (c : W32) : iter (j + k) c = iter k (iter j c) := by
  induction j generalizing c with
  | zero => rw [Nat.zero_add]; rfl
  | succ j ih => rw [Nat.succ_add]; show iter (j + k) (bit1 c) = _; rw [ih]; rfl
theorem iter_succ (k : Nat) (c : W32) : iter (k + 1) c = bit1 (iter k c) := iter_add k 1 c
theorem iter_small (k : Nat) (c : W32) (h : c.toNat * 2 ^ k < 2 ^ 32) : iter k c = c <<< k := by
  induction k generalizing c with
  | zero => simp [iter]
  | succ k ih =>
    have hp : 1 ≤ 2 ^ k := Nat.one_le_two_pow
    have h2 : c.toNat * 2 < 2 ^ 32 := by
      have : c.toNat * 2 * 1 ≤ c.toNat * 2 * 2 ^ k := Nat.mul_le_mul_left _ hp
      rw [Nat.pow_succ, Nat.mul_comm (2 ^ k), ← Nat.mul_assoc] at h
      omega
    have hm : c.msb = false := by
      rw [BitVec.msb_eq_decide]
      simp
      omega
    have hb : bit1 c = c <<< 1 := by simp [bit1, hm]
    have ht : (c <<< 1).toNat = c.toNat * 2 := by
      rw [BitVec.toNat_shiftLeft, Nat.shiftLeft_eq, Nat.pow_one, Nat.mod_eq_of_lt h2]
    show iter k (bit1 c) = _
    rw [hb, ih _ (by rw [ht]; rw [Nat.pow_succ, Nat.mul_comm (2 ^ k), ← Nat.mul_assoc] at h; exact h), ← BitVec.shiftLeft_add, Nat.add_comm]

theorem top_xor (a b : UInt8) : top (a ^^^ b) = top a ^^^ top b := by
  unfold top
  rw [← BitVec.shiftLeft_xor_distrib, UInt8.toNat_xor]
  congr 1
  apply BitVec.eq_of_toNat_eq
  rw [BitVec.toNat_xor, BitVec.toNat_ofNat, BitVec.toNat_ofNat, BitVec.toNat_ofNat]
  have ha := a.toNat_lt
  have hb := b.toNat_lt
  have hx : a.toNat ^^^ b.toNat < 2 ^ 8 := Nat.xor_lt_two_pow ha hb
  rw [Nat.mod_eq_of_lt (by omega), Nat.mod_eq_of_lt (by omega), Nat.mod_eq_of_lt (by omega)]
theorem split_word (c : W32) : c = ((c >>> 24) <<< 24) ^^^ ((c <<< 8) >>> 8) := by
  apply BitVec.eq_of_getLsbD_eq
  intro i hi
  simp only [BitVec.getLsbD_xor, BitVec.getLsbD_shiftLeft, BitVec.getLsbD_ushiftRight]
  by_cases h : i < 24
  · have h1 : decide (i < 24) = true := by simpa using h
    have h2 : decide (8 + i < 32) = true := by simp; omega
    have h3 : decide (8 + i < 8) = false := by simp
    have h4 : 8 + i - 8 = i := by omega
    simp [h1, h2, h3, h4]
  · have h1 : decide (i < 24) = false := by simpa using h
    have h2 : decide (8 + i < 32) = false := by simp; omega
    have h4 : 24 + (i - 24) = i := by omega
    simp [h1, h2, h4, hi]
theorem shl8_back (c : W32) : ((c <<< 8) >>> 8) <<< 8 = c <<< 8 := by
  apply BitVec.eq_of_getLsbD_eq
  intro i hi
  simp only [BitVec.getLsbD_shiftLeft, BitVec.getLsbD_ushiftRight]
  by_cases h : i < 8
  · simp [h]
  · have h2 : 8 + (i - 8) = i := by omega
    simp [h, h2, hi]
/-- The high byte of a word. -/
def hi8 (c : W32) : UInt8 := UInt8.ofNat (c >>> 24).toNat
theorem hi8_lt (c : W32) : (c >>> 24).toNat < 256 := by
  rw [BitVec.toNat_ushiftRight, Nat.shiftRight_eq_div_pow]
  have := c.isLt
  omega
theorem hi8_toNat (c : W32) : (hi8 c).toNat = (c >>> 24).toNat := by
  unfold hi8
  rw [UInt8.toNat_ofNat']
  exact Nat.mod_eq_of_lt (hi8_lt c)
theorem top_hi8 (c : W32) : top (hi8 c) = (c >>> 24) <<< 24 := by
  unfold top
  rw [hi8_toNat]
  congr 1
  apply BitVec.eq_of_toNat_eq
  rw [BitVec.toNat_ofNat]
  have := hi8_lt c
  exact Nat.mod_eq_of_lt (by omega)
theorem upd_eq (c : W32) (u : UInt8) : (c <<< 8) ^^^ step8 (hi8 c ^^^ u) = upd1 c u := by
  have h1 : iter 8 ((c <<< 8) >>> 8) = c <<< 8 := by
    rw [iter_small, shl8_back]
    rw [BitVec.toNat_ushiftRight, Nat.shiftRight_eq_div_pow]
    have := (c <<< 8).isLt
    omega
  unfold upd1 step8
  rw [top_xor, top_hi8, ← h1, ← iter_xor]
  congr 1
  conv => rhs; rw [split_word c]
  rw [← BitVec.xor_assoc, BitVec.xor_comm ((c <<< 8) >>> 8)]
theorem fold_nil (c : W32) : fold c [] = c := rfl
theorem fold_cons (c : W32) (u : UInt8) (l : List UInt8) : fold c (u :: l) = fold (upd1 c u) l := rfl
theorem fold_append (c : W32) (a b : List UInt8) : fold c (a ++ b) = fold (fold c a) b := List.foldl_append
theorem more_append (c : W32) (a b : List UInt8) : more (more c a) b = more c (a ++ b) := by
  unfold more
  rw [BitVec.not_not, fold_append]
/-- Four bytes of a word, at once. -/
theorem fold_be4 (c d : W32) : fold c (be 4 d.toNat) = iter 32 (c ^^^ d) := by
  obtain ⟨n, hn⟩ : ∃ n, n = d.toNat := ⟨_, rfl⟩
  have hlt := d.isLt
  have small : ∀ (u : UInt8) (k : Nat), k ≤ 3 → iter (8 * k) (BitVec.ofNat 32 u.toNat <<< (24 - 8 * k)) = top u := by
    intro u k hk
    have hu := u.toNat_lt
    rw [iter_small, ← BitVec.shiftLeft_add]
    · unfold top; congr 1; omega
    · rw [BitVec.toNat_shiftLeft, Nat.shiftLeft_eq, BitVec.toNat_ofNat, Nat.mod_eq_of_lt (a := u.toNat) (by omega)]
      have hk' : k = 0 ∨ k = 1 ∨ k = 2 ∨ k = 3 := by omega
      rcases hk' with rfl | rfl | rfl | rfl <;> simp <;> omega
  have hd : d = (BitVec.ofNat 32 (UInt8.ofNat (n / 256 ^ 3)).toNat <<< 24) ^^^ (BitVec.ofNat 32 (UInt8.ofNat (n / 256 ^ 2)).toNat <<< 16) ^^^ (BitVec.ofNat 32 (UInt8.ofNat (n / 256 ^ 1)).toNat <<< 8) ^^^ BitVec.ofNat 32 (UInt8.ofNat (n / 256 ^ 0)).toNat := by
    apply BitVec.eq_of_getLsbD_eq
    intro i hi
    simp only [BitVec.getLsbD_xor, BitVec.getLsbD_shiftLeft, BitVec.getLsbD_ofNat, UInt8.toNat_ofNat']
    have e : d.getLsbD i = n.testBit i := by rw [hn]; rfl
    have p3 : 256 ^ 3 = 2 ^ 24 := by decide
    have p2 : 256 ^ 2 = 2 ^ 16 := by decide
    have p1 : 256 ^ 1 = 2 ^ 8 := by decide
    have p0 : 256 ^ 0 = 2 ^ 0 := by decide
    have pm : (2 : Nat) ^ 8 = 2 ^ 8 := rfl
    rw [e, p3, p2, p1, p0]
    simp only [Nat.testBit_mod_two_pow, Nat.testBit_div_two_pow]
    have hc : i < 8 ∨ (8 ≤ i ∧ i < 16) ∨ (16 ≤ i ∧ i < 24) ∨ 24 ≤ i := by omega
    rcases hc with h | ⟨h, h'⟩ | ⟨h, h'⟩ | h
    · have a1 : i < 16 := by omega
      have a2 : i < 24 := by omega
      have a3 : i < 32 := by omega
      simp [h, a1, a2, a3]
    · have a1 : ¬ i < 8 := by omega
      have a2 : i < 24 := by omega
      have a3 : i - 8 < 8 := by omega
      have a4 : i - 8 < 32 := by omega
      have a5 : i - 8 + 8 = i := by omega
      have a6 : 8 + (i - 8) = i := by omega
      simp [h', a1, a2, a3, a4, a5, a6, hi]
    · have a1 : ¬ i < 8 := by omega
      have a2 : ¬ i < 16 := by omega
      have a3 : ¬ i - 8 < 8 := by omega
      have a4 : i - 16 < 8 := by omega
      have a7 : i - 16 < 32 := by omega
      have a5 : i - 16 + 16 = i := by omega
      have a6 : 16 + (i - 16) = i := by omega
      simp [h', a1, a2, a3, a4, a5, a6, a7, hi]
    · have a1 : ¬ i < 8 := by omega
      have a2 : ¬ i < 16 := by omega
      have a3 : ¬ i < 24 := by omega
      have a4 : ¬ i - 8 < 8 := by omega
      have a5 : ¬ i - 16 < 8 := by omega
      have a6 : i - 24 < 8 := by omega
      have a9 : i - 24 < 32 := by omega
      have a7 : i - 24 + 24 = i := by omega
      have a8 : 24 + (i - 24) = i := by omega
      simp [a1, a2, a3, a4, a5, a6, a7, a8, a9, hi]
  rw [← hn]
  show upd1 (upd1 (upd1 (upd1 c _) _) _) _ = _
  unfold upd1
  have e2 := small (UInt8.ofNat (n / 256 ^ 2)) 1 (by omega)
  have e1 := small (UInt8.ofNat (n / 256 ^ 1)) 2 (by omega)
  have e0 := small (UInt8.ofNat (n / 256 ^ 0)) 3 (by omega)
  rw [← e2, ← e1, ← e0]
  have i1 : ∀ x y : W32, iter 8 x ^^^ iter (8 * 1) y = iter 8 (x ^^^ y) := fun x y => (iter_xor 8 x y).symm
  have i2 : ∀ x y : W32, iter 8 (iter 8 x) ^^^ iter (8 * 2) y = iter 8 (iter 8 (x ^^^ y)) := fun x y => by
    rw [← iter_add, ← iter_add, iter_xor]
  have i3 : ∀ x y : W32, iter 8 (iter 8 (iter 8 x)) ^^^ iter (8 * 3) y = iter 8 (iter 8 (iter 8 (x ^^^ y))) := fun x y => by
    have a : ∀ z, iter 8 (iter 8 (iter 8 z)) = iter (8 * 3) z := fun z => by rw [← iter_add, ← iter_add]
    rw [a, a, iter_xor]
  rw [i1, i2, i3]
  rw [← iter_add, ← iter_add, ← iter_add]
  show iter 32 _ = iter 32 _
  congr 1
  conv => rhs; rw [hd]
  simp only [← BitVec.xor_assoc, top, Nat.mul_one, Nat.reduceMul, Nat.reduceSub, BitVec.shiftLeft_zero]

/-- The sum of sealed bytes is always the same. -/
theorem crc_sealed (l : List UInt8) : crc (l ++ be 4 (crc l).toNat) = BitVec.ofNat 32 955982468 := by
  unfold crc more
  have e : ∀ x : W32, x ^^^ ~~~x = BitVec.allOnes 32 := fun x => by
    apply BitVec.eq_of_getLsbD_eq
    intro i hi
    rw [BitVec.getLsbD_xor, BitVec.getLsbD_not, BitVec.getLsbD_allOnes]
    cases x.getLsbD i <;> simp [hi]
  rw [fold_append, fold_be4, e]
  decide
end Go.Sh
end
section
set_option linter.unusedVariables false
namespace Go.Proofs.Ytggggfcgnkllgaa
open Go Go.Sh
attribute [local irreducible] X XU XP XR CALL loopS resC closS
/-- cellarage/crc.step -/
def B_crc_step (x0 : Value) (w : World) (K : Value → World → Prop) : Prop :=
  X Try.prog (convert 5 23 x0) w fun v1_6 w1 =>
  X Try.prog (binOp .shl 23 v1_6 (.int .u64 24)) w1 fun v2_7 w2 =>
  loopS (fun Q1 ρ1 w3 =>
  X Try.prog (binOp .lss 3 (ρ1 8) (.int .i64 8)) w3 fun v3_9 w4 =>
  condS v3_9 (
  X Try.prog (binOp .shr 23 (ρ1 3) (.int .u64 31)) w4 fun v4_11 w5 =>
  X Try.prog (binOp .shl 23 (ρ1 3) (.int .u64 1)) w5 fun v5_13 w6 =>
  X Try.prog (binOp .mul 23 (.int .u32 79764919) v4_11) w6 fun v6_15 w7 =>
  X Try.prog (binOp .xor 23 v5_13 v6_15) w7 fun v7_16 w8 =>
  X Try.prog (binOp .add 3 (ρ1 8) (.int .i64 1)) w8 fun v8_17 w9 =>
  Q1 .normal (upds ρ1 [(8, v8_17), (17, v8_17), (3, v7_16), (16, v7_16), (15, v6_15), (14, v4_11), (13, v5_13), (12, (ρ1 3)), (4, v4_11), (11, v4_11), (10, (ρ1 3)), (9, v3_9)]) w9) (
  Q1 (.exit 0) (upds ρ1 [(9, v3_9)]) w4)) (inBlockS 0 (thenS (fun ρ2 w10 =>
  K (ρ2 3) w10) (retS Try.prog (Try.f126).results K))) (upds (env0 #[x0]) [(8, (.int .i64 0)), (3, v2_7), (7, v2_7), (6, v1_6), (5, x0), (2, (.int .u32 0))]) w2

theorem eq_crc_step (x0 : Value) (w : World) (K : Value → World → Prop) :
    sh Try.prog (Try.f126.body.getD .skip) (retS Try.prog Try.f126.results K) (env0 #[x0]) w = B_crc_step x0 w K := by kernel_rfl

theorem call_crc_step (x0 : Value) (w : World) (K : Value → World → Prop) (h : B_crc_step x0 w K) : CALL Try.prog 126 #[x0] w K :=
  call_of_eq (c := Try.f126.body.getD .skip) mixed Try.func126 (by kernel_rfl) (by kernel_rfl) (by kernel_rfl) (Nat.le_of_ble_eq_true (by kernel_rfl)) (eq_crc_step x0 w K) h

/-- cellarage/crc.table -/
def B_crc_table (w : World) (K : Value → World → Prop) : Prop :=
  X Try.prog (Instr.alloc 209 true (.tuple #[])) w fun v1_1 w1 =>
  loopS (fun Q1 ρ1 w2 =>
  X Try.prog (binOp .lss 3 (ρ1 3) (.int .i64 256)) w2 fun v2_4 w3 =>
  condS v2_4 (
  X Try.prog (convert 3 5 (ρ1 3)) w3 fun v3_8 w4 =>
  CALL Try.prog 126 #[v3_8] w4 fun v4_9 w5 =>
  X Try.prog (Instr.indexAt 209 (ρ1 1) (ρ1 3)) w5 fun v5_10 w6 =>
  XU Try.prog (Instr.storeAt 23 v5_10 v4_9) w6 fun w7 =>
  X Try.prog (binOp .add 3 (ρ1 3) (.int .i64 1)) w7 fun v6_11 w8 =>
  Q1 .normal (upds ρ1 [(3, v6_11), (11, v6_11), (10, v5_10), (9, v4_9), (8, v3_8), (7, (ρ1 3)), (6, (ρ1 3)), (2, (ρ1 3)), (5, (ρ1 3)), (4, v2_4)]) w8) (
  Q1 (.exit 0) (upds ρ1 [(4, v2_4)]) w3)) (inBlockS 0 (thenS (fun ρ2 w9 =>
  K (ρ2 1) w9) (retS Try.prog (Try.f127).results K))) (upds (env0 #[]) [(3, (.int .i64 0)), (1, v1_1), (0, (.pointer none))]) w1

theorem eq_crc_table (w : World) (K : Value → World → Prop) :
    sh Try.prog (Try.f127.body.getD .skip) (retS Try.prog Try.f127.results K) (env0 #[]) w = B_crc_table  w K := by kernel_rfl

theorem call_crc_table (w : World) (K : Value → World → Prop) (h : B_crc_table  w K) : CALL Try.prog 127 #[] w K :=
  call_of_eq (c := Try.f127.body.getD .skip) mixed Try.func127 (by kernel_rfl) (by kernel_rfl) (by kernel_rfl) (Nat.le_of_ble_eq_true (by kernel_rfl)) (eq_crc_table  w K) h

/-- cellarage/crc.More -/
def B_crc_More (x0 x1 : Value) (w : World) (K : Value → World → Prop) : Prop :=
  X Try.prog (Op.unary .xor x0) w fun v1_12 w1 =>
  X Try.prog (Builtin.len_ #[27] 3 #[x1]) w1 fun v2_14 w2 =>
  X Try.prog (binOp .lss 3 v2_14 (.int .i64 64)) w2 fun v3_15 w3 =>
  condS v3_15 (
  X Try.prog (Builtin.len_ #[27] 3 #[x1]) w3 fun v4_17 w4 =>
  loopS (fun Q1 ρ1 w5 =>
  X Try.prog (binOp .lss 3 (ρ1 18) (ρ1 17)) w5 fun v5_19 w6 =>
  condS v5_19 (
  X Try.prog (Instr.indexAt 27 (ρ1 16) (ρ1 18)) w6 fun v6_20 w7 =>
  X Try.prog (Instr.loadAt 5 v6_20) w7 fun v7_21 w8 =>
  X Try.prog (binOp .shl 23 (ρ1 5) (.int .u64 8)) w8 fun v8_23 w9 =>
  X Try.prog (binOp .shr 23 (ρ1 5) (.int .u64 24)) w9 fun v9_25 w10 =>
  X Try.prog (convert 23 5 v9_25) w10 fun v10_26 w11 =>
  X Try.prog (binOp .xor 5 v10_26 v7_21) w11 fun v11_28 w12 =>
  CALL Try.prog 126 #[v11_28] w12 fun v12_29 w13 =>
  X Try.prog (binOp .xor 23 v8_23 v12_29) w13 fun v13_30 w14 =>
  X Try.prog (binOp .add 3 (ρ1 18) (.int .i64 1)) w14 fun v14_31 w15 =>
  Q1 .normal (upds ρ1 [(18, v14_31), (31, v14_31), (5, v13_30), (30, v13_30), (29, v12_29), (28, v11_28), (27, v7_21), (26, v10_26), (25, v9_25), (24, (ρ1 5)), (23, v8_23), (22, (ρ1 5)), (7, v7_21), (21, v7_21), (20, v6_20), (19, v5_19)]) w15) (
  Q1 (.exit 0) (upds ρ1 [(19, v5_19)]) w6)) (inBlockS 0 (thenS (fun ρ2 w16 =>
  X Try.prog (Op.unary .xor (ρ2 5)) w16 fun v15_33 w17 =>
  K v15_33 w17) (thenS (fun ρ3 w18 =>
  CALL Try.prog 127 #[] w18 fun v16_34 w19 =>
  X Try.prog (Builtin.len_ #[27] 3 #[(ρ3 1)]) w19 fun v17_36 w20 =>
  loopS (fun Q4 ρ4 w21 =>
  X Try.prog (binOp .lss 3 (ρ4 37) (ρ4 36)) w21 fun v18_38 w22 =>
  condS v18_38 (
  X Try.prog (Instr.indexAt 27 (ρ4 35) (ρ4 37)) w22 fun v19_39 w23 =>
  X Try.prog (Instr.loadAt 5 v19_39) w23 fun v20_40 w24 =>
  X Try.prog (binOp .shl 23 (ρ4 5) (.int .u64 8)) w24 fun v21_42 w25 =>
  X Try.prog (binOp .shr 23 (ρ4 5) (.int .u64 24)) w25 fun v22_45 w26 =>
  X Try.prog (convert 23 5 v22_45) w26 fun v23_46 w27 =>
  X Try.prog (binOp .xor 5 v23_46 v20_40) w27 fun v24_48 w28 =>
  X Try.prog (nilS (ρ4 8)) w28 fun v25_49 w29 =>
  X Try.prog (Instr.indexAt 209 v25_49 v24_48) w29 fun v26_50 w30 =>
  X Try.prog (Instr.loadAt 23 v26_50) w30 fun v27_51 w31 =>
  X Try.prog (binOp .xor 23 v21_42 v27_51) w31 fun v28_52 w32 =>
  X Try.prog (binOp .add 3 (ρ4 37) (.int .i64 1)) w32 fun v29_53 w33 =>
  Q4 .normal (upds ρ4 [(37, v29_53), (53, v29_53), (5, v28_52), (52, v28_52), (51, v27_51), (50, v26_50), (49, v25_49), (48, v24_48), (47, v20_40), (46, v23_46), (45, v22_45), (44, (ρ4 5)), (43, (ρ4 8)), (42, v21_42), (41, (ρ4 5)), (10, v20_40), (40, v20_40), (39, v19_39), (38, v18_38)]) w33) (
  Q4 (.exit 2) (upds ρ4 [(38, v18_38)]) w22)) (inBlockS 2 (thenS (fun ρ5 w34 =>
  X Try.prog (Op.unary .xor (ρ5 5)) w34 fun v30_55 w35 =>
  K v30_55 w35) (retS Try.prog (Try.f53).results K))) (upds ρ3 [(37, (.int .i64 0)), (36, v17_36), (35, (ρ3 1)), (8, v16_34), (34, v16_34)]) w20) (retS Try.prog (Try.f53).results K)))) (upds (env0 #[x0, x1]) [(18, (.int .i64 0)), (17, v4_17), (16, x1), (15, v3_15), (14, v2_14), (13, x1), (5, v1_12), (12, v1_12), (11, x0), (4, (.int .u32 0))]) w4) (
  CALL Try.prog 127 #[] w3 fun v31_34 w36 =>
  X Try.prog (Builtin.len_ #[27] 3 #[x1]) w36 fun v32_36 w37 =>
  loopS (fun Q6 ρ6 w38 =>
  X Try.prog (binOp .lss 3 (ρ6 37) (ρ6 36)) w38 fun v33_38 w39 =>
  condS v33_38 (
  X Try.prog (Instr.indexAt 27 (ρ6 35) (ρ6 37)) w39 fun v34_39 w40 =>
  X Try.prog (Instr.loadAt 5 v34_39) w40 fun v35_40 w41 =>
  X Try.prog (binOp .shl 23 (ρ6 5) (.int .u64 8)) w41 fun v36_42 w42 =>
  X Try.prog (binOp .shr 23 (ρ6 5) (.int .u64 24)) w42 fun v37_45 w43 =>
  X Try.prog (convert 23 5 v37_45) w43 fun v38_46 w44 =>
  X Try.prog (binOp .xor 5 v38_46 v35_40) w44 fun v39_48 w45 =>
  X Try.prog (nilS (ρ6 8)) w45 fun v40_49 w46 =>
  X Try.prog (Instr.indexAt 209 v40_49 v39_48) w46 fun v41_50 w47 =>
  X Try.prog (Instr.loadAt 23 v41_50) w47 fun v42_51 w48 =>
  X Try.prog (binOp .xor 23 v36_42 v42_51) w48 fun v43_52 w49 =>
  X Try.prog (binOp .add 3 (ρ6 37) (.int .i64 1)) w49 fun v44_53 w50 =>
  Q6 .normal (upds ρ6 [(37, v44_53), (53, v44_53), (5, v43_52), (52, v43_52), (51, v42_51), (50, v41_50), (49, v40_49), (48, v39_48), (47, v35_40), (46, v38_46), (45, v37_45), (44, (ρ6 5)), (43, (ρ6 8)), (42, v36_42), (41, (ρ6 5)), (10, v35_40), (40, v35_40), (39, v34_39), (38, v33_38)]) w50) (
  Q6 (.exit 2) (upds ρ6 [(38, v33_38)]) w39)) (inBlockS 2 (thenS (fun ρ7 w51 =>
  X Try.prog (Op.unary .xor (ρ7 5)) w51 fun v45_55 w52 =>
  K v45_55 w52) (retS Try.prog (Try.f53).results K))) (upds (env0 #[x0, x1]) [(37, (.int .i64 0)), (36, v32_36), (35, x1), (8, v31_34), (34, v31_34), (15, v3_15), (14, v2_14), (13, x1), (5, v1_12), (12, v1_12), (11, x0), (4, (.int .u32 0))]) w37)

theorem eq_crc_More (x0 x1 : Value) (w : World) (K : Value → World → Prop) :
    sh Try.prog (Try.f53.body.getD .skip) (retS Try.prog Try.f53.results K) (env0 #[x0, x1]) w = B_crc_More x0 x1 w K := by kernel_rfl

theorem call_crc_More (x0 x1 : Value) (w : World) (K : Value → World → Prop) (h : B_crc_More x0 x1 w K) : CALL Try.prog 53 #[x0, x1] w K :=
  call_of_eq (c := Try.f53.body.getD .skip) mixed Try.func53 (by kernel_rfl) (by kernel_rfl) (by kernel_rfl) (Nat.le_of_ble_eq_true (by kernel_rfl)) (eq_crc_More x0 x1 w K) h

/-- cellarage/crc.Sum -/
def B_crc_Sum (x0 : Value) (w : World) (K : Value → World → Prop) : Prop :=
  CALL Try.prog 53 #[(.int .u32 0), x0] w fun v1_4 w1 =>
  K v1_4 w1

theorem eq_crc_Sum (x0 : Value) (w : World) (K : Value → World → Prop) :
    sh Try.prog (Try.f51.body.getD .skip) (retS Try.prog Try.f51.results K) (env0 #[x0]) w = B_crc_Sum x0 w K := by kernel_rfl

theorem call_crc_Sum (x0 : Value) (w : World) (K : Value → World → Prop) (h : B_crc_Sum x0 w K) : CALL Try.prog 51 #[x0] w K :=
  call_of_eq (c := Try.f51.body.getD .skip) mixed Try.func51 (by kernel_rfl) (by kernel_rfl) (by kernel_rfl) (Nat.le_of_ble_eq_true (by kernel_rfl)) (eq_crc_Sum x0 w K) h

/-- cellarage/crc.Seal -/
def B_crc_Seal (x0 : Value) (w : World) (K : Value → World → Prop) : Prop :=
  CALL Try.prog 51 #[x0] w fun v1_5 w1 =>
  X Try.prog (convert 23 22 v1_5) w1 fun v2_6 w2 =>
  CALL Try.prog 46 #[x0, v2_6, (.int .i64 4)] w2 fun v3_7 w3 =>
  K v3_7 w3

theorem eq_crc_Seal (x0 : Value) (w : World) (K : Value → World → Prop) :
    sh Try.prog (Try.f56.body.getD .skip) (retS Try.prog Try.f56.results K) (env0 #[x0]) w = B_crc_Seal x0 w K := by kernel_rfl

theorem call_crc_Seal (x0 : Value) (w : World) (K : Value → World → Prop) (h : B_crc_Seal x0 w K) : CALL Try.prog 56 #[x0] w K :=
  call_of_eq (c := Try.f56.body.getD .skip) mixed Try.func56 (by kernel_rfl) (by kernel_rfl) (by kernel_rfl) (Nat.le_of_ble_eq_true (by kernel_rfl)) (eq_crc_Seal x0 w K) h

/-- cellarage/crc.Open -/
def B_crc_Open (x0 : Value) (w : World) (K : Value → World → Prop) : Prop :=
  X Try.prog (Builtin.len_ #[27] 3 #[x0]) w fun v1_6 w1 =>
  X Try.prog (binOp .sub 3 v1_6 (.int .i64 4)) w1 fun v2_7 w2 =>
  ∃ R, Frame? R ∧
  XP Try.prog (binOp .lss 3 v2_7 (.int .i64 0)) (drewW w2) fun v3_9 w3 =>
  gstep v3_9 false (fun w4 K => K x0 w4) w3 fun v4_11 w5 =>
  gstep v3_9 false (fun w6 K => K v2_7 w6) w5 fun v5_12 w7 =>
  gstep v3_9 false (fun w8 K => XP Try.prog (Instr.sliceAt 27 v4_11 (some v5_12) none none) w8 K) w7 fun v6_13 w9 =>
  gstep v3_9 false (fun w10 K => K x0 w10) w9 fun v7_16 w11 =>
  gstep v3_9 false (fun w12 K => K v2_7 w12) w11 fun v8_17 w13 =>
  gstep v3_9 false (fun w14 K => XP Try.prog (Instr.sliceAt 27 v7_16 none (some v8_17) none) w14 K) w13 fun v9_18 w15 =>
  gstep v3_9 false (fun w16 K => CALL Try.prog 58 #[v6_13] w16 K) w15 fun v10_14 w17 =>
  gstep v3_9 false (fun w18 K => CALL Try.prog 61 #[v10_14, (.int .i64 4)] w18 K) w17 fun v11_15 w19 =>
  gstep v3_9 false (fun w20 K => CALL Try.prog 51 #[v9_18] w20 K) w19 fun v12_19 w21 =>
  gstep v3_9 false (fun w22 K => XR Try.prog R (convert 23 22 v12_19) w22 K) w21 fun v13_20 w23 =>
  gstep v3_9 false (fun w24 K => XP Try.prog (binOpG .neq 22 (.tmp 15) (.tmp 20) v11_15 v13_20) w24 K) w23 fun v14_21 w25 =>
  XP Try.prog (pickS v3_9 (.bool true) v14_21) w25 fun v15_22 w26 =>
  condS v15_22 (
  K (.tuple #[(.slice none 0 0), (.bool false)]) w26) (
  X Try.prog (Instr.sliceAt 27 x0 none (some v2_7) none) w26 fun v16_25 w27 =>
  X Try.prog (Builtin.append_ #[27, 27] 27 #[(.slice none 0 0), v16_25]) w27 fun v17_26 w28 =>
  K (.tuple #[v17_26, (.bool true)]) w28)

theorem eq_crc_Open (x0 : Value) (w : World) (K : Value → World → Prop) :
    sh Try.prog (Try.f54.body.getD .skip) (retS Try.prog Try.f54.results K) (env0 #[x0]) w = B_crc_Open x0 w K := by kernel_rfl

theorem call_crc_Open (x0 : Value) (w : World) (K : Value → World → Prop) (h : B_crc_Open x0 w K) : CALL Try.prog 54 #[x0] w K :=
  call_of_eq (c := Try.f54.body.getD .skip) mixed Try.func54 (by kernel_rfl) (by kernel_rfl) (by kernel_rfl) (Nat.le_of_ble_eq_true (by kernel_rfl)) (eq_crc_Open x0 w K) h

/-- cellarage/cellarageref02.More -/
def B_ref02_More (x0 x1 : Value) (w : World) (K : Value → World → Prop) : Prop :=
  X Try.prog (binOp .sub 23 (.int .u32 4294967295) x0) w fun v1_10 w1 =>
  loopS (fun Q1 ρ1 w2 =>
  X Try.prog (Builtin.len_ #[27] 3 #[(ρ1 1)]) w2 fun v2_13 w3 =>
  X Try.prog (binOp .lss 3 (ρ1 6) v2_13) w3 fun v3_14 w4 =>
  condS v3_14 (
  X Try.prog (Instr.indexAt 27 (ρ1 1) (ρ1 6)) w4 fun v4_20 w5 =>
  X Try.prog (Instr.loadAt 5 v4_20) w5 fun v5_21 w6 =>
  X Try.prog (convert 5 23 v5_21) w6 fun v6_22 w7 =>
  X Try.prog (binOp .mul 23 v6_22 (.int .u32 16777216)) w7 fun v7_23 w8 =>
  X Try.prog (binOp .xor 23 (ρ1 5) v7_23) w8 fun v8_24 w9 =>
  loopS (fun Q2 ρ2 w10 =>
  X Try.prog (binOp .lss 3 (ρ2 7) (.int .i64 8)) w10 fun v9_26 w11 =>
  condS v9_26 (
  joinS (fun ρ3 w12 =>
  X Try.prog (binOp .add 3 (ρ3 7) (.int .i64 1)) w12 fun v10_28 w13 =>
  Q2 .normal (upds ρ3 [(7, v10_28), (28, v10_28), (27, (ρ3 7))]) w13) fun J3 =>
  X Try.prog (binOp .quo 23 (ρ2 5) (.int .u32 2147483648)) w11 fun v11_30 w14 =>
  X Try.prog (binOp .mul 23 (ρ2 5) (.int .u32 2)) w14 fun v12_32 w15 =>
  X Try.prog (binOpG .eql 23 (.tmp 33) (.const (.int .u32 1)) v11_30 (.int .u32 1)) w15 fun v13_34 w16 =>
  condS v13_34 (
  X Try.prog (binOp .xor 23 v12_32 (.int .u32 79764919)) w16 fun v14_36 w17 =>
  J3 (upds ρ2 [(5, v14_36), (36, v14_36), (35, v12_32), (34, v13_34), (33, v11_30), (5, v12_32), (32, v12_32), (31, (ρ2 5)), (8, v11_30), (30, v11_30), (29, (ρ2 5)), (26, v9_26), (25, (ρ2 7))]) w17) (
  J3 (upds ρ2 [(34, v13_34), (33, v11_30), (5, v12_32), (32, v12_32), (31, (ρ2 5)), (8, v11_30), (30, v11_30), (29, (ρ2 5)), (26, v9_26), (25, (ρ2 7))]) w16)) (
  Q2 (.exit 2) (upds ρ2 [(26, v9_26), (25, (ρ2 7))]) w11)) (inBlockS 2 (inBlockS 1 (thenS (fun ρ4 w18 =>
  X Try.prog (binOp .add 3 (ρ4 6) (.int .i64 1)) w18 fun v15_16 w19 =>
  Q1 .normal (upds ρ4 [(6, v15_16), (16, v15_16), (15, (ρ4 6))]) w19) Q1))) (upds ρ1 [(7, (.int .i64 0)), (5, v8_24), (24, v8_24), (23, v7_23), (22, v6_22), (21, v5_21), (20, v4_20), (19, (ρ1 6)), (18, (ρ1 1)), (17, (ρ1 5)), (14, v3_14), (13, v2_13), (12, (ρ1 1)), (11, (ρ1 6))]) w9) (
  Q1 (.exit 0) (upds ρ1 [(14, v3_14), (13, v2_13), (12, (ρ1 1)), (11, (ρ1 6))]) w4)) (inBlockS 0 (thenS (fun ρ5 w20 =>
  X Try.prog (binOp .sub 23 (.int .u32 4294967295) (ρ5 5)) w20 fun v16_38 w21 =>
  K v16_38 w21) (retS Try.prog (Try.f52).results K))) (upds (env0 #[x0, x1]) [(6, (.int .i64 0)), (5, v1_10), (10, v1_10), (9, x0), (4, (.int .u32 0))]) w1

theorem eq_ref02_More (x0 x1 : Value) (w : World) (K : Value → World → Prop) :
    sh Try.prog (Try.f52.body.getD .skip) (retS Try.prog Try.f52.results K) (env0 #[x0, x1]) w = B_ref02_More x0 x1 w K := by kernel_rfl

theorem call_ref02_More (x0 x1 : Value) (w : World) (K : Value → World → Prop) (h : B_ref02_More x0 x1 w K) : CALL Try.prog 52 #[x0, x1] w K :=
  call_of_eq (c := Try.f52.body.getD .skip) mixed Try.func52 (by kernel_rfl) (by kernel_rfl) (by kernel_rfl) (Nat.le_of_ble_eq_true (by kernel_rfl)) (eq_ref02_More x0 x1 w K) h

/-- cellarage/cellarageref02.Seal -/
def B_ref02_Seal (x0 : Value) (w : World) (K : Value → World → Prop) : Prop :=
  X Try.prog (Builtin.append_ #[27, 27] 27 #[(.slice none 0 0), x0]) w fun v1_6 w1 =>
  CALL Try.prog 52 #[(.int .u32 0), x0] w1 fun v2_9 w2 =>
  X Try.prog (convert 23 22 v2_9) w2 fun v3_10 w3 =>
  CALL Try.prog 125 #[v3_10, (.int .i64 4)] w3 fun v4_11 w4 =>
  X Try.prog (Builtin.append_ #[27, 27] 27 #[v1_6, v4_11]) w4 fun v5_12 w5 =>
  K v5_12 w5

theorem eq_ref02_Seal (x0 : Value) (w : World) (K : Value → World → Prop) :
    sh Try.prog (Try.f57.body.getD .skip) (retS Try.prog Try.f57.results K) (env0 #[x0]) w = B_ref02_Seal x0 w K := by kernel_rfl

theorem call_ref02_Seal (x0 : Value) (w : World) (K : Value → World → Prop) (h : B_ref02_Seal x0 w K) : CALL Try.prog 57 #[x0] w K :=
  call_of_eq (c := Try.f57.body.getD .skip) mixed Try.func57 (by kernel_rfl) (by kernel_rfl) (by kernel_rfl) (Nat.le_of_ble_eq_true (by kernel_rfl)) (eq_ref02_Seal x0 w K) h

/-- cellarage/cellarageref02.Open -/
def B_ref02_Open (x0 : Value) (w : World) (K : Value → World → Prop) : Prop :=
  X Try.prog (Builtin.len_ #[27] 3 #[x0]) w fun v1_6 w1 =>
  X Try.prog (binOp .sub 3 v1_6 (.int .i64 4)) w1 fun v2_7 w2 =>
  ∃ R, Frame? R ∧
  XP Try.prog (binOp .lss 3 v2_7 (.int .i64 0)) (drewW w2) fun v3_9 w3 =>
  gstep v3_9 false (fun w4 K => K x0 w4) w3 fun v4_11 w5 =>
  gstep v3_9 false (fun w6 K => K v2_7 w6) w5 fun v5_12 w7 =>
  gstep v3_9 false (fun w8 K => XP Try.prog (Instr.sliceAt 27 v4_11 none (some v5_12) none) w8 K) w7 fun v6_13 w9 =>
  gstep v3_9 false (fun w10 K => K x0 w10) w9 fun v7_16 w11 =>
  gstep v3_9 false (fun w12 K => XR Try.prog R (convert 27 9 v7_16) w12 K) w11 fun v8_17 w13 =>
  gstep v3_9 false (fun w14 K => CALL Try.prog 57 #[v6_13] w14 K) w13 fun v9_14 w15 =>
  R w13 w15 ∧
  gstep v3_9 false (fun w16 K => XR Try.prog R (convert 27 9 v9_14) w16 K) w15 fun v10_15 w17 =>
  gstep v3_9 false (fun w18 K => XP Try.prog (binOpG .neq 9 (.tmp 15) (.tmp 17) v10_15 v8_17) w18 K) w17 fun v11_18 w19 =>
  XP Try.prog (pickS v3_9 (.bool true) v11_18) w19 fun v12_19 w20 =>
  condS v12_19 (
  K (.tuple #[(.slice none 0 0), (.bool false)]) w20) (
  X Try.prog (Instr.sliceAt 27 x0 none (some v2_7) none) w20 fun v13_22 w21 =>
  K (.tuple #[v13_22, (.bool true)]) w21)

theorem eq_ref02_Open (x0 : Value) (w : World) (K : Value → World → Prop) :
    sh Try.prog (Try.f55.body.getD .skip) (retS Try.prog Try.f55.results K) (env0 #[x0]) w = B_ref02_Open x0 w K := by kernel_rfl

theorem call_ref02_Open (x0 : Value) (w : World) (K : Value → World → Prop) (h : B_ref02_Open x0 w K) : CALL Try.prog 55 #[x0] w K :=
  call_of_eq (c := Try.f55.body.getD .skip) mixed Try.func55 (by kernel_rfl) (by kernel_rfl) (by kernel_rfl) (Nat.le_of_ble_eq_true (by kernel_rfl)) (eq_ref02_Open x0 w K) h

end Go.Proofs.Ytggggfcgnkllgaa
end
section
/- cellarage/crc and the reference's check sums, by contract. -/
set_option linter.unusedVariables false
set_option linter.unusedSimpArgs false
namespace Go.Sh
open Go
/-- A word as a value. -/
def U32 (c : W32) : Value := .int .u32 ((c.toNat : Nat) : Int)
section
variable {P : Program}
theorem u32_xor (T : TypeId) (a b : W32) (w : World) : (binOp .xor T (U32 a) (U32 b)).run P w = .ok (U32 (a ^^^ b)) w := by
  unfold U32
  rw [run_xor (k := .u32) rfl T a.toNat b.toNat a.isLt b.isLt w, BitVec.toNat_xor]
theorem u32_not (c : W32) (w : World) : (Op.unary .xor (U32 c)).run P w = .ok (U32 (~~~c)) w := by
  have h : (Op.unary .xor (U32 c)) = binOp .xor 0 (U32 (BitVec.allOnes 32)) (U32 c) := rfl
  rw [h, u32_xor]
  congr 2
theorem u32_shl (T : TypeId) (k : IntKind) (c : W32) (n : Nat) (hn : n ≤ 32) (w : World) : (binOp .shl T (U32 c) (.int k (n : Int))).run P w = .ok (U32 (c <<< n)) w := by
  unfold U32
  rw [run_shl _ _ (by omega) w, BitVec.toNat_shiftLeft, Nat.shiftLeft_eq]
  have e1 : min ((n : Int).toNat) IntKind.u32.bits = n := by show min _ 32 = _; omega
  rw [e1, wrap_u32]
  congr 2
theorem u32_shr (T : TypeId) (k : IntKind) (c : W32) (n : Nat) (hn : n ≤ 32) (w : World) : (binOp .shr T (U32 c) (.int k (n : Int))).run P w = .ok (U32 (c >>> n)) w := by
  unfold U32
  rw [run_shr _ _ (by omega) w, BitVec.toNat_ushiftRight, Nat.shiftRight_eq_div_pow]
  have e1 : min ((n : Int).toNat) IntKind.u32.bits = n := by show min _ 32 = _; omega
  rw [e1, fdiv_pow]
theorem u32_of_u8 {S T : TypeId} {d : TypeDesc} (hS : P.underlying S = some d) (hT : P.underlying T = some (.int .u32)) (u : UInt8) (w : World) : (convert S T (.int .u8 ((u.toNat : Nat) : Int))).run P w = .ok (U32 (BitVec.ofNat 32 u.toNat)) w := by
  rw [run_conv_int hS hT]
  unfold U32
  have := u.toNat_lt
  rw [BitVec.toNat_ofNat, Nat.mod_eq_of_lt (by omega), wrap_u32]
  congr 2
  omega
theorem u8_of_u32 {S T : TypeId} {d : TypeDesc} (hS : P.underlying S = some d) (hT : P.underlying T = some (.int .u8)) (c : W32) (w : World) : (convert S T (U32 (c >>> 24))).run P w = .ok (.int .u8 (((hi8 c).toNat : Nat) : Int)) w := by
  unfold U32
  rw [run_conv_int hS hT, hi8_toNat, wrap_u8]
  have := hi8_lt c
  congr 2
  omega
theorem u8_xor (T : TypeId) (a b : UInt8) (w : World) : (binOp .xor T (.int .u8 ((a.toNat : Nat) : Int)) (.int .u8 ((b.toNat : Nat) : Int))).run P w = .ok (.int .u8 (((a ^^^ b).toNat : Nat) : Int)) w := by
  rw [run_xor (k := .u8) rfl T a.toNat b.toNat a.toNat_lt b.toNat_lt w, UInt8.toNat_xor]
theorem msb_top (c : W32) : (c >>> 31).toNat = c.msb.toNat := by
  rw [BitVec.toNat_ushiftRight, Nat.shiftRight_eq_div_pow, BitVec.msb_eq_decide]
  have := c.isLt
  by_cases h : 2 ^ 31 ≤ c.toNat
  · simp [h]; omega
  · simp [h]; omega
theorem u32_polymul (T : TypeId) (c : W32) (w : World) : (binOp .mul T (.int .u32 79764919) (U32 (c >>> 31))).run P w = .ok (U32 (if c.msb = true then poly else 0#32)) w := by
  unfold U32
  rw [msb_top, run_mul, wrap_u32]
  cases c.msb <;> rfl
theorem u32_comp (T : TypeId) (c : W32) (w : World) : (binOp .sub T (.int .u32 4294967295) (U32 c)).run P w = .ok (U32 (~~~c)) w := by
  unfold U32
  rw [run_sub, wrap_u32, BitVec.toNat_not]
  have := c.isLt
  congr 2
  omega
theorem u32_top2 (T : TypeId) (c : W32) (w : World) : (binOp .quo T (U32 c) (.int .u32 2147483648)).run P w = .ok (.int .u32 ((c.msb.toNat : Nat) : Int)) w := by
  unfold U32
  rw [run_quo _ _ _ _ (by decide), wrap_u32, BitVec.msb_eq_decide]
  have := c.isLt
  have e : ((c.toNat : Nat) : Int).tdiv 2147483648 = ((c.toNat / 2147483648 : Nat) : Int) := by
    rw [Int.tdiv_eq_ediv_of_nonneg (by omega)]
    omega
  rw [e]
  by_cases h : 2 ^ 31 ≤ c.toNat
  · congr 2; simp [h]; omega
  · congr 2; simp [h]; omega
theorem u32_dbl (T : TypeId) (c : W32) (w : World) : (binOp .mul T (U32 c) (.int .u32 2)).run P w = .ok (U32 (c <<< 1)) w := by
  unfold U32
  rw [run_mul, wrap_u32, BitVec.toNat_shiftLeft, Nat.shiftLeft_eq]
  congr 2
theorem u32_topmul (T : TypeId) (u : UInt8) (w : World) : (binOp .mul T (U32 (BitVec.ofNat 32 u.toNat)) (.int .u32 16777216)).run P w = .ok (U32 (top u)) w := by
  unfold U32 top
  have := u.toNat_lt
  rw [run_mul, wrap_u32, BitVec.toNat_shiftLeft, Nat.shiftLeft_eq]
  congr 2
theorem u32_eq (T : TypeId) (a b : Operand) (x y : W32) (w : World) (K : Value → World → Prop) : X P (binOpG .eql T a b (U32 x) (U32 y)) w K = K (.bool (decide (x = y))) w := by
  unfold U32
  rw [X_ok (run_eql T .u32 a b _ _ w)]
  have : decide ((x.toNat : Int) = (y.toNat : Int)) = decide (x = y) := by
    rw [Bool.eq_iff_iff]
    simp only [decide_eq_true_eq]
    constructor
    · intro h; exact BitVec.eq_of_toNat_eq (by omega)
    · rintro rfl; rfl
  rw [this]
theorem xp_u32_eq (T : TypeId) (a b : Operand) (x y : W32) (w : World) (K : Value → World → Prop) : XP P (binOpG .eql T a b (U32 x) (U32 y)) w K = K (.bool (decide (x = y))) w := by
  unfold U32
  rw [XP_ok (fun w => run_eql T .u32 a b _ _ w)]
  have : decide ((x.toNat : Int) = (y.toNat : Int)) = decide (x = y) := by
    rw [Bool.eq_iff_iff]
    simp only [decide_eq_true_eq]
    constructor
    · intro h; exact BitVec.eq_of_toNat_eq (by omega)
    · rintro rfl; rfl
  rw [this]
end
end Go.Sh
namespace Go.Proofs.Ytggggfcgnkllgaa
open Go Go.Sh Go.RowKit
attribute [local irreducible] X XU XP XR CALL loopS resC closS

theorem step_spec {u : UInt8} {w : World} {K : Value → World → Prop} (h : K (U32 (step8 u)) w) : CALL Try.prog 126 #[.int .u8 ((u.toNat : Nat) : Int)] w K := by
  apply call_crc_step
  unfold B_crc_step
  refine X_of (u32_of_u8 Try.underlying5 Try.underlying23 u w) ?_
  refine X_of (u32_shl 23 .u64 _ 24 (by decide) w) ?_
  refine loopS_of (fun ρ wr => ∃ i : Nat, i ≤ 8 ∧ wr = w ∧ ρ 8 = .int .i64 (i : Nat) ∧ ρ 3 = U32 (iter i (top u))) (fun ρ wr => match ρ 8 with | .int _ s => (8 - s).toNat | _ => 0) ?_ ?_
  · exact ⟨0, by omega, rfl, rfl, rfl⟩
  · rintro ρ wr ⟨i, hi, rfl, h8, h3⟩
    simp only [SS, ST, h8, h3]
    by_cases hin : i = 8
    · subst hin
      rw [if_neg (by simp)]
      show K (ρ 3) wr
      rw [h3]
      exact h
    · rw [if_pos (by simp; omega)]
      refine X_of (u32_shr 23 .u64 _ 31 (by decide) _) ?_
      refine X_of (u32_shl 23 .u64 _ 1 (by decide) _) ?_
      refine X_of (u32_polymul 23 _ _) ?_
      refine X_of (u32_xor 23 _ _ _) ?_
      show _ ∧ _
      refine ⟨⟨i + 1, by omega, rfl, ?_, ?_⟩, ?_⟩
      · show Value.int .i64 _ = _
        congr 1
        rw [w64 (by omega) (by omega)]
        omega
      · rw [iter_succ]
        rfl
      · show (_ - IntKind.i64.wrap _).toNat < _
        rw [w64 (by omega) (by omega)]
        omega

/-- The table: 256 words. -/
def tabCells : List Value := (List.range 256).map fun i => U32 (step8 (UInt8.ofNat i))
theorem tab_len : tabCells.length = 256 := by simp [tabCells]
theorem tab_get (j : Nat) (h : j < 256) : tabCells[j]? = some (U32 (step8 (UInt8.ofNat j))) := by simp [tabCells, h]
attribute [local irreducible] tabCells
theorem table_spec {w : World} {K : Value → World → Prop} (h : ∀ b w1, Ext w w1 → w.heap.size ≤ b → w1.heap[b]? = some (.cells tabCells.toArray 209 (0, 0)) → K (.pointer (some ⟨b, 0, none⟩)) w1) :
    CALL Try.prog 127 #[] w K := by
  apply call_crc_table
  unfold B_crc_table
  refine X_alloc zero_209 ?_
  have hc : (Value.agg ((List.replicate 256 (Value.int .u32 0)).toArray)).cells = (List.replicate 256 (Value.int .u32 0)).toArray := rfl
  rw [hc]
  have hg := newB_get w (List.replicate 256 (Value.int .u32 0)).toArray 209
  have hx := newB_ext w (List.replicate 256 (Value.int .u32 0)).toArray 209
  have hz := newB_size w (List.replicate 256 (Value.int .u32 0)).toArray 209
  obtain ⟨l0, hl0⟩ : ∃ l, l = List.replicate 256 (Value.int .u32 0) := ⟨_, rfl⟩
  have hl0' : l0.length = 256 := by rw [hl0]; exact List.length_replicate
  rw [← hl0] at hg hx hz ⊢
  generalize newB w l0.toArray 209 = w0 at hg hx hz ⊢
  refine loopS_of (fun ρ wr => ∃ (i : Nat) (l : List Value), i ≤ 256 ∧ Ext w wr ∧ ρ 3 = .int .i64 (i : Nat) ∧ ρ 1 = .pointer (some ⟨w.heap.size, 0, none⟩) ∧ wr.heap[w.heap.size]? = some (.cells l.toArray 209 (0, 0)) ∧ l.length = 256 ∧ ∀ j, j < i → l[j]? = tabCells[j]?)
    (fun ρ wr => match ρ 3 with | .int _ s => (256 - s).toNat | _ => 0) ?_ ?_
  · exact ⟨0, l0, by omega, hx, rfl, rfl, hg, hl0', fun j hj => absurd hj (by omega)⟩
  · rintro ρ wr ⟨i, l, hi, hxr, h3, h1, hb, hl, hj⟩
    rcases Nat.lt_or_ge i 256 with hin | hin
    rotate_left
    · have hin : i = 256 := by omega
      subst hin
      simp only [SS, ST, h3, h1]
      rw [if_neg (by simp)]
      show K (ρ 1) wr
      rw [h1]
      refine h _ wr hxr (Nat.le_refl _) ?_
      have : l = tabCells := by
        apply List.ext_getElem?
        intro j
        by_cases hj' : j < 256
        · exact hj j hj'
        · rw [List.getElem?_eq_none (by omega), List.getElem?_eq_none (by rw [tab_len]; omega)]
      rw [← this]
      exact hb
    · simp only [SS, ST, h3, h1]
      rw [if_pos (by simp; omega)]
      have e8 : IntKind.u8.wrap ((i : Nat) : Int) = (((UInt8.ofNat i).toNat : Nat) : Int) := u8_wrap i
      rw [e8]
      refine step_spec ?_
      refine X_of (ix_arr Try.underlying209 info_23 i rfl (by omega) _) ?_
      have ea : (⟨w.heap.size, 0, none⟩ : Addr).add (i * szT Try.prog 23) = ⟨w.heap.size, i, none⟩ := by
        rw [sz_23, add_plain, Nat.mul_one, Nat.zero_add]
      rw [ea]
      refine XU_store info_23 sz_23 rfl hb (by simp [hl]; omega) (by show ¬ ((0 : Nat) ≤ i ∧ i < 0); omega) ?_
      show _ ∧ _
      refine ⟨⟨i + 1, l.set i (U32 (step8 (UInt8.ofNat i))), by omega, Ext.seq hxr (setAt_keep _ _ _ _ _) (fun k hk => by omega), ?_, h1, ?_, by simp [hl], ?_⟩, ?_⟩
      · exact next64 (n := 256) (by decide) hi
      · have e : l.toArray.setIfInBounds i (U32 (step8 (UInt8.ofNat i))) = (l.set i (U32 (step8 (UInt8.ofNat i)))).toArray := by simp
        rw [← e]
        exact setAt_same (lt_of_blk hb)
      · intro j hj'
        by_cases hji : j = i
        · subst hji
          rw [List.getElem?_set_self (by omega), tab_get j (by omega)]
        · rw [List.getElem?_set_ne (by omega)]
          exact hj j (by omega)
      · show (_ - IntKind.i64.wrap _).toNat < _
        rw [w64 (by omega) (by omega)]
        omega
end Go.Proofs.Ytggggfcgnkllgaa
end
section
/- cellarage/crc's More, Sum, Seal, Open and the reference's, by contract. -/
set_option linter.unusedVariables false
set_option linter.unusedSimpArgs false
namespace Go.Proofs.Ytggggfcgnkllgaa
open Go Go.Sh Go.RowKit
attribute [local irreducible] X XU XP XR CALL loopS resC closS

theorem fold_take_succ (c : W32) (bs : List UInt8) (i : Nat) (h : i < bs.length) : fold c (bs.take (i + 1)) = upd1 (fold c (bs.take i)) bs[i] := by
  rw [take_succ' bs i h, fold_append]; rfl

theorem More_spec {c : W32} {v : Value} {bs : List UInt8} {w : World} {K : Value → World → Prop} (hb : Bts w v bs) (h : ∀ w1, Ext w w1 → K (U32 (more c bs)) w1) : CALL Try.prog 53 #[U32 c, v] w K := by
  obtain ⟨a, cp, e, h1, h2, h3⟩ := id hb
  subst e
  apply call_crc_More
  unfold B_crc_More
  refine X_of (u32_not c w) ?_
  simp only [SS, ST]
  by_cases hl : bs.length < 64
  · rw [if_pos (by simp; omega)]
    refine loopS_of (fun ρ wr => ∃ i : Nat, i ≤ bs.length ∧ wr = w ∧ ρ 18 = .int .i64 (i : Nat) ∧ ρ 17 = .int .i64 (bs.length : Nat) ∧ ρ 16 = .slice a bs.length cp ∧ ρ 5 = U32 (fold (~~~c) (bs.take i)))
      (fun ρ wr => match ρ 18 with | .int _ s => (bs.length - s).toNat | _ => 0) ?_ ?_
    · exact ⟨0, by omega, rfl, rfl, rfl, rfl, rfl⟩
    · rintro ρ wr ⟨i, hi, rfl, h18, h17, h16, h5⟩
      simp only [SS, ST, h18, h17, h16, h5]
      by_cases hin : i = bs.length
      · subst hin
        rw [if_neg (by simp)]
        simp only [upds_cons, upds_nil, Nat.reduceEqDiff, if_false, h5]
        refine X_of (u32_not _ _) ?_
        rw [List.take_length]
        exact h _ (Keep.refl _ _)
      · rw [if_pos (by simp; omega)]
        obtain ⟨ad, hix, hcell, _⟩ := at_bts Try.underlying27 info_5 sz_5 hb (k := .i64) i rfl (by omega)
        refine X_of (hix _) ?_
        refine X_load agg_5 hcell ?_
        refine X_of (u32_shl 23 .u64 _ 8 (by decide) _) ?_
        refine X_of (u32_shr 23 .u64 _ 24 (by decide) _) ?_
        refine X_of (u8_of_u32 Try.underlying23 Try.underlying5 _ _) ?_
        refine X_of (u8_xor 5 _ _ _) ?_
        refine step_spec ?_
        refine X_of (u32_xor 23 _ _ _) ?_
        rw [upd_eq, ← fold_take_succ]
        show _ ∧ _
        refine ⟨⟨i + 1, by omega, rfl, next64 (n := bs.length - 1) (by omega) (by omega), h17, h16, rfl⟩, ?_⟩
        · show (_ - IntKind.i64.wrap _).toNat < _
          rw [w64 (by omega) (by omega)]
          omega
  · rw [if_neg (by simp; omega)]
    refine table_spec ?_
    intro b w1 hx hbs hg
    have hb1 := hb.ext hx
    refine loopS_of (fun ρ wr => ∃ i : Nat, i ≤ bs.length ∧ wr = w1 ∧ ρ 37 = .int .i64 (i : Nat) ∧ ρ 36 = .int .i64 (bs.length : Nat) ∧ ρ 35 = .slice a bs.length cp ∧ ρ 8 = .pointer (some ⟨b, 0, none⟩) ∧ ρ 5 = U32 (fold (~~~c) (bs.take i)))
      (fun ρ wr => match ρ 37 with | .int _ s => (bs.length - s).toNat | _ => 0) ?_ ?_
    · exact ⟨0, by omega, rfl, rfl, rfl, rfl, rfl, rfl⟩
    · rintro ρ wr ⟨i, hi, rfl, h18, h17, h16, h8, h5⟩
      simp only [SS, ST, h18, h17, h16, h5, h8]
      by_cases hin : i = bs.length
      · subst hin
        rw [if_neg (by simp)]
        simp only [upds_cons, upds_nil, Nat.reduceEqDiff, if_false, h5]
        refine X_of (u32_not _ _) ?_
        rw [List.take_length]
        exact h _ hx
      · rw [if_pos (by simp; omega)]
        obtain ⟨ad, hix, hcell, _⟩ := at_bts Try.underlying27 info_5 sz_5 hb1 (k := .i64) i rfl (by omega)
        refine X_of (hix _) ?_
        refine X_load agg_5 hcell ?_
        refine X_of (u32_shl 23 .u64 _ 8 (by decide) _) ?_
        refine X_of (u32_shr 23 .u64 _ 24 (by decide) _) ?_
        refine X_of (u8_of_u32 Try.underlying23 Try.underlying5 _ _) ?_
        refine X_of (u8_xor 5 _ _ _) ?_
        refine X_of (ix_arr Try.underlying209 info_23 _ rfl (UInt8.toNat_lt _) _) ?_
        rw [sz_23, Nat.mul_one, add_plain, Nat.zero_add]
        refine X_loadL agg_23 hg (tab_get _ (UInt8.toNat_lt _)) ?_
        rw [UInt8.ofNat_toNat]
        refine X_of (u32_xor 23 _ _ _) ?_
        rw [upd_eq, ← fold_take_succ]
        show _ ∧ _
        refine ⟨⟨i + 1, by omega, rfl, next64 (n := bs.length - 1) (by omega) (by omega), h17, h16, h8, rfl⟩, ?_⟩
        · show (_ - IntKind.i64.wrap _).toNat < _
          rw [w64 (by omega) (by omega)]
          omega

theorem Sum_spec {v : Value} {bs : List UInt8} {w : World} {K : Value → World → Prop} (hb : Bts w v bs) (h : ∀ w1, Ext w w1 → K (U32 (crc bs)) w1) : CALL Try.prog 51 #[v] w K := by
  apply call_crc_Sum
  unfold B_crc_Sum
  exact More_spec (c := 0#32) hb h

theorem u64_of_u32 (c : W32) (w : World) : (convert 23 22 (U32 c)).run Try.prog w = .ok (.int .u64 ((c.toNat : Nat) : Int)) w := by
  unfold U32
  rw [run_conv_int Try.underlying23 Try.underlying22, wrap_u64]
  have := c.isLt
  congr 2
  omega
def sealB (bs : List UInt8) : List UInt8 := bs ++ be 4 (crc bs).toNat
theorem sealB_len (bs : List UInt8) : (sealB bs).length = bs.length + 4 := by simp [sealB]
theorem Seal_spec {v : Value} {bs : List UInt8} {w : World} {K : Value → World → Prop} (hb : Bts w v bs) (hl : bs.length ≤ 140737488351232)
    (h : ∀ v' w1, Ext w w1 → w1.ownsRow w.heap.size 5 1 v' (sealB bs).length (B8 (sealB bs)) → K v' w1) : CALL Try.prog 56 #[v] w K := by
  apply call_crc_Seal
  unfold B_crc_Seal
  refine Sum_spec hb ?_
  intro w1 hx
  refine X_of (u64_of_u32 _ _) ?_
  have := (crc bs).isLt
  refine Put_spec (hb.ext hx) (by omega) (by omega) ?_
  intro v' w2 hx2 ho
  rw [putB_4] at ho
  exact h v' w2 (hx.trans hx2) (own_mono ho hx.size)

/-- What Open finds: the bytes ahead of their sum, or nothing. -/
def openB (bs : List UInt8) : Option (List UInt8) :=
  if bs.length < 4 then none else if num (bs.drop (bs.length - 4)) = (crc (bs.take (bs.length - 4))).toNat then some (bs.take (bs.length - 4)) else none

theorem getR4 (x : List UInt8) (h : x.length = 4) : getR x 0 4 = (num x, [], 0) := by
  have e4 : (4 : Int).toNat = 4 := rfl
  simp only [getR, e4, h]
  rw [if_neg (by simp), if_neg (by decide), if_neg (by decide), List.take_of_length_le (by omega), List.drop_eq_nil_of_le (by omega)]
theorem Open_spec {v : Value} {bs : List UInt8} {w : World} {K : Value → World → Prop} (hb : Bts w v bs) (hl : bs.length ≤ 140737488351232)
    (h0 : openB bs = none → ∀ w1, Ext w w1 → K (.tuple #[.slice none 0 0, .bool false]) w1)
    (h1 : ∀ cs v' w1, openB bs = some cs → Ext w w1 → w1.ownsRow w.heap.size 5 1 v' cs.length (B8 cs) → K (.tuple #[v', .bool true]) w1) : CALL Try.prog 54 #[v] w K := by
  obtain ⟨a, cp, e, _, _, _⟩ := id hb
  subst e
  apply call_crc_Open
  unfold B_crc_Open
  simp only [SS, ST]
  refine ⟨Ext, Ext.frame, ?_⟩
  by_cases h4 : bs.length < 4
  · have e1 : decide (IntKind.i64.wrap ((bs.length : Int) - 4) < 0) = true := by rw [w64 (by omega) (by omega)]; simp only [decide_eq_true_eq]; omega
    simp only [SS, ST, e1, if_true, Bool.true_eq_false, if_false]
    exact h0 (by simp [openB, h4]) _ (Keep.drew _ w)
  · have e0 : IntKind.i64.wrap ((bs.length : Int) - 4) = ((bs.length - 4 : Nat) : Int) := by rw [w64 (by omega) (by omega)]; omega
    have e1 : decide (((bs.length - 4 : Nat) : Int) < 0) = false := by simp only [decide_eq_false_iff_not]; omega
    simp only [e0, SS, ST, e1, if_true, Bool.false_eq_true, if_false]
    have hbd := hb.drew
    obtain ⟨u, hu, hub, huo⟩ := cut_lo Try.underlying27 info_5 sz_5 hbd (kl := .i64) (bs.length - 4) rfl (by omega)
    obtain ⟨u2, hu2, hub2, huo2⟩ := cut_hi Try.underlying27 info_5 hbd (kh := .i64) (bs.length - 4) rfl (by omega)
    refine XP_of hu ?_
    refine XP_of hu2 ?_
    refine New_spec hub (by simp; omega) ?_
    intro b w1 hx1 hb1 hr1
    refine Get_spec hr1 ?_
    have eg := getR4 (bs.drop (bs.length - 4)) (by simp; omega)
    rw [eg]
    intro w2 hk2 hr2
    have hx2 : Ext w w2 := Ext.seq ((Keep.drew _ w).trans hx1) hk2 (fun i hi => by subst hi; exact hb1)
    refine Sum_spec (hub2.ext ((Ext.seq hx1 hk2 (fun i hi => by subst hi; exact hb1)))) ?_
    intro w3 hx3
    refine XR_of_all (fun w' => u64_of_u32 _ w') ?_
    have hx : Ext w w3 := hx2.trans hx3
    simp only [SS, ST]
    by_cases heq : num (bs.drop (bs.length - 4)) = (crc (bs.take (bs.length - 4))).toNat
    · have ed : decide (((num (bs.drop (bs.length - 4)) : Nat) : Int) ≠ (((crc (bs.take (bs.length - 4))).toNat : Nat) : Int)) = false := by simp [heq]
      simp only [ed, Bool.false_eq_true, if_false]
      have hb3 := hb.ext hx
      obtain ⟨u3, hu3, hub3, huo3⟩ := cut_hi Try.underlying27 info_5 hb3 (kh := .i64) (bs.length - 4) rfl (by omega)
      refine X_of (hu3 _) ?_
      refine X_append_bts Try.underlying27 el_5 (xs := []) (World.ownsRow_nil w3 w3.heap.size 5 1) hub3 (by simp; omega) (Nat.le_refl _) ?_
      intro v4 w4 ho4 hk4
      refine h1 (bs.take (bs.length - 4)) v4 w4 (by simp [openB, h4, heq]) (Ext.seq hx hk4 (fun i hi => by cases hi)) ?_
      simp only [List.nil_append, Nat.zero_add] at ho4
      exact own_mono ho4 hx.size
    · have ed : decide (((num (bs.drop (bs.length - 4)) : Nat) : Int) ≠ (((crc (bs.take (bs.length - 4))).toNat : Nat) : Int)) = true := by simp; omega
      simp only [ed, if_true]
      exact h0 (by simp [openB, h4, heq]) _ hx
end Go.Proofs.Ytggggfcgnkllgaa
end
section
set_option linter.unusedVariables false
namespace Go.Proofs.Ytggggfcgnkllgaa
open Go Go.Sh
attribute [local irreducible] X XU XP XR CALL loopS resC closS
/-- cellarage/cellaragelaw02.shown -/
def B_law02_shown (w : World) (K : Value → World → Prop) : Prop :=
  X Try.prog (Instr.buildSlice 27 3 #[(0, (.int .u8 1)), (1, (.int .u8 2)), (2, (.int .u8 3))]) w fun v1_4 w1 =>
  CALL Try.prog 54 #[v1_4] w1 fun v2_5 w2 =>
  X Try.prog (Instr.extract v2_5 0) w2 fun v3_6 w3 =>
  X Try.prog (Instr.extract v2_5 1) w3 fun v4_7 w4 =>
  CALL Try.prog 51 #[(.slice none 0 0)] w4 fun v5_8 w5 =>
  X Try.prog (binOpG .eql 23 (.tmp 8) (.const (.int .u32 0)) v5_8 (.int .u32 0)) w5 fun v6_9 w6 =>
  gstep v6_9 true (fun w7 K => X Try.prog (Instr.buildSlice 27 9 #[(0, (.int .u8 49)), (1, (.int .u8 50)), (2, (.int .u8 51)), (3, (.int .u8 52)), (4, (.int .u8 53)), (5, (.int .u8 54)), (6, (.int .u8 55)), (7, (.int .u8 56)), (8, (.int .u8 57))]) w7 K) w6 fun v7_11 w8 =>
  gstep v6_9 true (fun w9 K => X Try.prog (convert 27 27 v7_11) w9 K) w8 fun v8_12 w10 =>
  gstep v6_9 true (fun w11 K => CALL Try.prog 51 #[v8_12] w11 K) w10 fun v9_13 w12 =>
  gstep v6_9 true (fun w13 K => X Try.prog (binOpG .eql 23 (.tmp 13) (.const (.int .u32 4236843288)) v9_13 (.int .u32 4236843288)) w13 K) w12 fun v10_14 w14 =>
  X Try.prog (pickS v6_9 v10_14 (.bool false)) w14 fun v11_15 w15 =>
  gstep v11_15 true (fun w16 K => CALL Try.prog 56 #[(.slice none 0 0)] w16 K) w15 fun v12_17 w17 =>
  gstep v11_15 true (fun w18 K => X Try.prog (convert 27 9 v12_17) w18 K) w17 fun v13_18 w19 =>
  gstep v11_15 true (fun w20 K => X Try.prog (binOpG .eql 9 (.tmp 18) (.const (.string { data := #[0, 0, 0, 0] })) v13_18 (.string { data := #[0, 0, 0, 0] })) w20 K) w19 fun v14_19 w21 =>
  X Try.prog (pickS v11_15 v14_19 (.bool false)) w21 fun v15_20 w22 =>
  gstep v15_20 true (fun w23 K => K v4_7 w23) w22 fun v16_22 w24 =>
  gstep v15_20 true (fun w25 K => X Try.prog (Op.unary .not v16_22) w25 K) w24 fun v17_23 w26 =>
  X Try.prog (pickS v15_20 v17_23 (.bool false)) w26 fun v18_24 w27 =>
  K v18_24 w27

theorem eq_law02_shown (w : World) (K : Value → World → Prop) :
    sh Try.prog (Try.f50.body.getD .skip) (retS Try.prog Try.f50.results K) (env0 #[]) w = B_law02_shown  w K := by kernel_rfl

theorem call_law02_shown (w : World) (K : Value → World → Prop) (h : B_law02_shown  w K) : CALL Try.prog 50 #[] w K :=
  call_of_eq (c := Try.f50.body.getD .skip) mixed Try.func50 (by kernel_rfl) (by kernel_rfl) (by kernel_rfl) (Nat.le_of_ble_eq_true (by kernel_rfl)) (eq_law02_shown  w K) h

/-- cellarage/cellaragelaw01.CodecOrder -/
def B_law01_CodecOrder (x0 x1 : Value) (w : World) (K : Value → World → Prop) : Prop :=
  ∃ R, Frame? R ∧
  CALL Try.prog 46 #[(.slice none 0 0), x0, (.int .i64 8)] (drewW w) fun v1_8 w1 =>
  XR Try.prog R (convert 27 9 v1_8) w1 fun v2_9 w2 =>
  CALL Try.prog 46 #[(.slice none 0 0), x1, (.int .i64 8)] w2 fun v3_11 w3 =>
  R w2 w3 ∧
  XR Try.prog R (convert 27 9 v3_11) w3 fun v4_12 w4 =>
  CALL Try.prog 47 #[] w4 fun v5_13 w5 =>
  gstep v5_13 true (fun w6 K => K v2_9 w6) w5 fun v6_15 w7 =>
  gstep v5_13 true (fun w8 K => X Try.prog (Builtin.len_ #[9] 3 #[v6_15]) w8 K) w7 fun v7_16 w9 =>
  gstep v5_13 true (fun w10 K => X Try.prog (binOpG .eql 3 (.tmp 16) (.const (.int .i64 8)) v7_16 (.int .i64 8)) w10 K) w9 fun v8_17 w11 =>
  X Try.prog (pickS v5_13 v8_17 (.bool false)) w11 fun v9_18 w12 =>
  gstep v9_18 true (fun w13 K => K v4_12 w13) w12 fun v10_20 w14 =>
  gstep v9_18 true (fun w15 K => X Try.prog (Builtin.len_ #[9] 3 #[v10_20]) w15 K) w14 fun v11_21 w16 =>
  gstep v9_18 true (fun w17 K => X Try.prog (binOpG .eql 3 (.tmp 21) (.const (.int .i64 8)) v11_21 (.int .i64 8)) w17 K) w16 fun v12_22 w18 =>
  X Try.prog (pickS v9_18 v12_22 (.bool false)) w18 fun v13_23 w19 =>
  gstep v13_23 true (fun w20 K => K v2_9 w20) w19 fun v14_25 w21 =>
  gstep v13_23 true (fun w22 K => K v4_12 w22) w21 fun v15_26 w23 =>
  gstep v13_23 true (fun w24 K => X Try.prog (binOp .lss 9 v14_25 v15_26) w24 K) w23 fun v16_27 w25 =>
  gstep v13_23 true (fun w26 K => K x0 w26) w25 fun v17_28 w27 =>
  gstep v13_23 true (fun w28 K => K x1 w28) w27 fun v18_29 w29 =>
  gstep v13_23 true (fun w30 K => X Try.prog (binOp .lss 22 v17_28 v18_29) w30 K) w29 fun v19_30 w31 =>
  gstep v13_23 true (fun w32 K => X Try.prog (binOpG .eql 4 (.tmp 27) (.tmp 30) v16_27 v19_30) w32 K) w31 fun v20_31 w33 =>
  X Try.prog (pickS v13_23 v20_31 (.bool false)) w33 fun v21_32 w34 =>
  K v21_32 w34

theorem eq_law01_CodecOrder (x0 x1 : Value) (w : World) (K : Value → World → Prop) :
    sh Try.prog (Try.f7.body.getD .skip) (retS Try.prog Try.f7.results K) (env0 #[x0, x1]) w = B_law01_CodecOrder x0 x1 w K := by kernel_rfl

theorem call_law01_CodecOrder (x0 x1 : Value) (w : World) (K : Value → World → Prop) (h : B_law01_CodecOrder x0 x1 w K) : CALL Try.prog 7 #[x0, x1] w K :=
  call_of_eq (c := Try.f7.body.getD .skip) mixed Try.func7 (by kernel_rfl) (by kernel_rfl) (by kernel_rfl) (Nat.le_of_ble_eq_true (by kernel_rfl)) (eq_law01_CodecOrder x0 x1 w K) h

/-- cellarage/cellaragelaw01.CodecTakes -/
def B_law01_CodecTakes (x0 x1 : Value) (w : World) (K : Value → World → Prop) : Prop :=
  CALL Try.prog 47 #[] w fun v1_12 w1 =>
  X Try.prog (Builtin.len_ #[27] 3 #[x0]) w1 fun v2_14 w2 =>
  X Try.prog (binOp .gtr 3 v2_14 (.int .i64 100000)) w2 fun v3_15 w3 =>
  condS v3_15 (
  K v1_12 w3) (
  X Try.prog (Instr.buildSlice 27 0 #[]) w3 fun v4_17 w4 =>
  X Try.prog (Builtin.append_ #[27, 27] 27 #[v4_17, x0]) w4 fun v5_19 w5 =>
  CALL Try.prog 58 #[v5_19] w5 fun v6_21 w6 =>
  X Try.prog (binOpG .eql 54 (.tmp 22) (.const (.pointer none)) v6_21 (.pointer none)) w6 fun v7_23 w7 =>
  condS v7_23 (
  K (.bool false) w7) (
  X Try.prog (Instr.build 57 #[(0, x0)]) w7 fun v8_25 w8 =>
  X Try.prog (Instr.alloc 57 true (.tuple #[])) w8 fun v9_8 w9 =>
  XU Try.prog (Instr.storeAt 57 v9_8 v8_25) w9 fun w10 =>
  X Try.prog (Builtin.len_ #[27] 3 #[v5_19]) w10 fun v10_27 w11 =>
  loopS (fun Q1 ρ1 w12 =>
  X Try.prog (binOp .lss 3 (ρ1 28) (ρ1 27)) w12 fun v11_29 w13 =>
  condS v11_29 (
  X Try.prog (Instr.indexAt 27 (ρ1 6) (ρ1 28)) w13 fun v12_33 w14 =>
  X Try.prog (Instr.loadAt 5 v12_33) w14 fun v13_34 w15 =>
  X Try.prog (binOp .xor 5 v13_34 (.int .u8 85)) w15 fun v14_35 w16 =>
  X Try.prog (Instr.indexAt 27 (ρ1 6) (ρ1 28)) w16 fun v15_36 w17 =>
  XU Try.prog (Instr.storeAt 5 v15_36 v14_35) w17 fun w18 =>
  X Try.prog (binOp .add 3 (ρ1 28) (.int .i64 1)) w18 fun v16_37 w19 =>
  Q1 .normal (upds ρ1 [(28, v16_37), (37, v16_37), (36, v15_36), (35, v14_35), (34, v13_34), (33, v12_33), (32, (ρ1 28)), (31, (ρ1 6)), (9, (ρ1 28)), (30, (ρ1 28)), (29, v11_29)]) w19) (
  Q1 (.exit 0) (upds ρ1 [(29, v11_29)]) w13)) (inBlockS 0 (thenS (fun ρ2 w20 =>
  X Try.prog (Builtin.len_ #[53] 3 #[(ρ2 1)]) w20 fun v17_39 w21 =>
  loopS (fun Q3 ρ3 w22 =>
  X Try.prog (binOp .lss 3 (ρ3 40) (ρ3 39)) w22 fun v18_41 w23 =>
  condS v18_41 (
  X Try.prog (binOp .geq 3 (ρ3 40) (.int .i64 1000)) w23 fun v19_44 w24 =>
  condS v19_44 (
  Q3 (.exit 2) (upds ρ3 [(44, v19_44), (43, (ρ3 40)), (10, (ρ3 40)), (42, (ρ3 40)), (41, v18_41)]) w24) (
  joinS (fun ρ4 w25 =>
  ∃ R, Frame? R ∧
  XP Try.prog (Op.unary .not (ρ4 11)) (drewW w25) fun v20_79 w26 =>
  gstep v20_79 false (fun w27 K => K (ρ4 7) w27) w26 fun v21_81 w28 =>
  gstep v20_79 false (fun w29 K => K (ρ4 0) w29) w28 fun v22_83 w30 =>
  gstep v20_79 false (fun w31 K => XP Try.prog (Builtin.len_ #[27] 3 #[v22_83]) w31 K) w30 fun v23_84 w32 =>
  gstep v20_79 false (fun w33 K => XP Try.prog (Instr.fieldAt 57 (ρ4 8) 1) w33 K) w32 fun v24_85 w34 =>
  gstep v20_79 false (fun w35 K => XR Try.prog R (Instr.loadAt 3 v24_85) w35 K) w34 fun v25_86 w36 =>
  gstep v20_79 false (fun w37 K => XP Try.prog (binOp .sub 3 v23_84 v25_86) w37 K) w36 fun v26_87 w38 =>
  gstep v20_79 false (fun w39 K => CALL Try.prog 63 #[v21_81] w39 K) w38 fun v27_82 w40 =>
  R w38 w40 ∧
  gstep v20_79 false (fun w41 K => XP Try.prog (binOpG .neq 3 (.tmp 82) (.tmp 87) v27_82 v26_87) w41 K) w40 fun v28_88 w42 =>
  XP Try.prog (pickS v20_79 (.bool true) v28_88) w42 fun v29_89 w43 =>
  gstep v29_89 false (fun w44 K => K (ρ4 7) w44) w43 fun v30_91 w45 =>
  gstep v29_89 false (fun w46 K => XP Try.prog (Instr.fieldAt 57 (ρ4 8) 2) w46 K) w45 fun v31_93 w47 =>
  gstep v29_89 false (fun w48 K => XR Try.prog R (Instr.loadAt 30 v31_93) w48 K) w47 fun v32_94 w49 =>
  gstep v29_89 false (fun w50 K => CALL Try.prog 64 #[v30_91] w50 K) w49 fun v33_92 w51 =>
  R w49 w51 ∧
  gstep v29_89 false (fun w52 K => XP Try.prog (binOpG .neq 30 (.tmp 92) (.tmp 94) v33_92 v32_94) w52 K) w51 fun v34_95 w53 =>
  XP Try.prog (pickS v29_89 (.bool true) v34_95) w53 fun v35_96 w54 =>
  gstep v35_96 false (fun w55 K => K (ρ4 7) w55) w54 fun v36_98 w56 =>
  gstep v35_96 false (fun w57 K => CALL Try.prog 65 #[v36_98] w57 K) w56 fun v37_99 w58 =>
  R w56 w58 ∧
  gstep v35_96 false (fun w59 K => CALL Try.prog 66 #[(ρ4 8)] w59 K) w58 fun v38_100 w60 =>
  R w58 w60 ∧
  gstep v35_96 false (fun w61 K => XP Try.prog (binOpG .neq 30 (.tmp 99) (.tmp 100) v37_99 v38_100) w61 K) w60 fun v39_101 w62 =>
  XP Try.prog (pickS v35_96 (.bool true) v39_101) w62 fun v40_102 w63 =>
  condS v40_102 (
  Q3 .ret (upds ρ4 [(4, (.bool false)), (102, v40_102), (101, v39_101), (100, v38_100), (99, v37_99), (98, v36_98), (97, v35_96), (96, v35_96), (95, v34_95), (92, v33_92), (94, v32_94), (93, v31_93), (91, v30_91), (90, v29_89), (89, v29_89), (88, v28_88), (82, v27_82), (87, v26_87), (86, v25_86), (85, v24_85), (84, v23_84), (83, v22_83), (81, v21_81), (80, v20_79), (79, v20_79), (78, (ρ4 11))]) w63) (
  X Try.prog (binOp .add 3 (ρ4 40) (.int .i64 1)) w63 fun v41_103 w64 =>
  Q3 .normal (upds ρ4 [(40, v41_103), (103, v41_103), (102, v40_102), (101, v39_101), (100, v38_100), (99, v37_99), (98, v36_98), (97, v35_96), (96, v35_96), (95, v34_95), (92, v33_92), (94, v32_94), (93, v31_93), (91, v30_91), (90, v29_89), (89, v29_89), (88, v28_88), (82, v27_82), (87, v26_87), (86, v25_86), (85, v24_85), (84, v23_84), (83, v22_83), (81, v21_81), (80, v20_79), (79, v20_79), (78, (ρ4 11))]) w64)) fun J4 =>
  X Try.prog (Instr.indexAt 53 (ρ3 1) (ρ3 40)) w24 fun v42_47 w65 =>
  X Try.prog (Instr.fieldAt 59 v42_47 0) w65 fun v43_48 w66 =>
  X Try.prog (Instr.loadAt 4 v43_48) w66 fun v44_49 w67 =>
  condS v44_49 (
  ∃ R, Frame? R ∧
  XP Try.prog (Instr.indexAt 53 (ρ3 1) (ρ3 40)) (drewW w67) fun v45_53 w68 =>
  XP Try.prog (Instr.fieldAt 59 v45_53 1) w68 fun v46_54 w69 =>
  XR Try.prog R (Instr.loadAt 3 v46_54) w69 fun v47_55 w70 =>
  XP Try.prog (Instr.indexAt 53 (ρ3 1) (ρ3 40)) w70 fun v48_59 w71 =>
  XP Try.prog (Instr.fieldAt 59 v48_59 1) w71 fun v49_60 w72 =>
  XR Try.prog R (Instr.loadAt 3 v49_60) w72 fun v50_61 w73 =>
  CALL Try.prog 59 #[(ρ3 7), v47_55] w73 fun v51_56 w74 =>
  R w73 w74 ∧
  CALL Try.prog 60 #[(ρ3 8), v50_61] w74 fun v52_62 w75 =>
  R w74 w75 ∧
  XP Try.prog (binOpG .eql 9 (.tmp 56) (.tmp 62) v51_56 v52_62) w75 fun v53_63 w76 =>
  J4 (upds ρ3 [(11, v53_63), (63, v53_63), (62, v52_62), (56, v51_56), (61, v50_61), (60, v49_60), (59, v48_59), (58, (ρ3 40)), (57, (ρ3 1)), (55, v47_55), (54, v46_54), (53, v45_53), (52, (ρ3 40)), (51, (ρ3 1)), (50, (ρ3 7)), (49, v44_49), (48, v43_48), (47, v42_47), (46, (ρ3 40)), (45, (ρ3 1)), (11, (.bool true)), (44, v19_44), (43, (ρ3 40)), (10, (ρ3 40)), (42, (ρ3 40)), (41, v18_41)]) w76) (
  ∃ R, Frame? R ∧
  XP Try.prog (Instr.indexAt 53 (ρ3 1) (ρ3 40)) (drewW w67) fun v54_67 w77 =>
  XP Try.prog (Instr.fieldAt 59 v54_67 1) w77 fun v55_68 w78 =>
  XR Try.prog R (Instr.loadAt 3 v55_68) w78 fun v56_69 w79 =>
  XP Try.prog (Instr.indexAt 53 (ρ3 1) (ρ3 40)) w79 fun v57_73 w80 =>
  XP Try.prog (Instr.fieldAt 59 v57_73 1) w80 fun v58_74 w81 =>
  XR Try.prog R (Instr.loadAt 3 v58_74) w81 fun v59_75 w82 =>
  CALL Try.prog 61 #[(ρ3 7), v56_69] w82 fun v60_70 w83 =>
  R w82 w83 ∧
  CALL Try.prog 62 #[(ρ3 8), v59_75] w83 fun v61_76 w84 =>
  R w83 w84 ∧
  XP Try.prog (binOpG .eql 22 (.tmp 70) (.tmp 76) v60_70 v61_76) w84 fun v62_77 w85 =>
  J4 (upds ρ3 [(11, v62_77), (77, v62_77), (76, v61_76), (70, v60_70), (75, v59_75), (74, v58_74), (73, v57_73), (72, (ρ3 40)), (71, (ρ3 1)), (69, v56_69), (68, v55_68), (67, v54_67), (66, (ρ3 40)), (65, (ρ3 1)), (64, (ρ3 7)), (49, v44_49), (48, v43_48), (47, v42_47), (46, (ρ3 40)), (45, (ρ3 1)), (11, (.bool true)), (44, v19_44), (43, (ρ3 40)), (10, (ρ3 40)), (42, (ρ3 40)), (41, v18_41)]) w85))) (
  Q3 (.exit 2) (upds ρ3 [(41, v18_41)]) w23)) (inBlockS 2 (thenS (fun ρ5 w86 =>
  K (ρ5 5) w86) (retS Try.prog (Try.f16).results K))) (upds ρ2 [(40, (.int .i64 0)), (39, v17_39), (38, (ρ2 1))]) w21) (retS Try.prog (Try.f16).results K))) (upds (env0 #[x0, x1]) [(28, (.int .i64 0)), (27, v10_27), (26, v5_19), (8, v9_8), (25, v8_25), (24, x0), (23, v7_23), (22, v6_21), (7, v6_21), (21, v6_21), (20, v5_19), (6, v5_19), (19, v5_19), (18, x0), (17, v4_17), (15, v3_15), (14, v2_14), (13, x0), (5, v1_12), (12, v1_12), (4, (.bool false))]) w11))

theorem eq_law01_CodecTakes (x0 x1 : Value) (w : World) (K : Value → World → Prop) :
    sh Try.prog (Try.f16.body.getD .skip) (retS Try.prog Try.f16.results K) (env0 #[x0, x1]) w = B_law01_CodecTakes x0 x1 w K := by kernel_rfl

theorem call_law01_CodecTakes (x0 x1 : Value) (w : World) (K : Value → World → Prop) (h : B_law01_CodecTakes x0 x1 w K) : CALL Try.prog 16 #[x0, x1] w K :=
  call_of_eq (c := Try.f16.body.getD .skip) mixed Try.func16 (by kernel_rfl) (by kernel_rfl) (by kernel_rfl) (Nat.le_of_ble_eq_true (by kernel_rfl)) (eq_law01_CodecTakes x0 x1 w K) h

/-- cellarage/cellaragelaw01.CodecBack -/
def B_law01_CodecBack (x0 x1 x2 : Value) (w : World) (K : Value → World → Prop) : Prop :=
  CALL Try.prog 47 #[] w fun v1_18 w1 =>
  ∃ R, Frame? R ∧
  XP Try.prog (Builtin.len_ #[65] 3 #[x0]) (drewW w1) fun v2_21 w2 =>
  XP Try.prog (Builtin.min_ #[3, 3] 3 #[v2_21, (.int .i64 100)]) w2 fun v3_22 w3 =>
  XP Try.prog (Instr.sliceAt 65 x0 none (some v3_22) none) w3 fun v4_23 w4 =>
  XP Try.prog (Builtin.len_ #[66] 3 #[x1]) w4 fun v5_26 w5 =>
  XP Try.prog (Builtin.min_ #[3, 3] 3 #[v5_26, (.int .i64 100)]) w5 fun v6_27 w6 =>
  XP Try.prog (Instr.sliceAt 66 x1 none (some v6_27) none) w6 fun v7_28 w7 =>
  X Try.prog (Builtin.len_ #[65] 3 #[v4_23]) w7 fun v8_30 w8 =>
  loopS (fun Q1 ρ1 w9 =>
  X Try.prog (binOp .lss 3 (ρ1 31) (ρ1 30)) w9 fun v9_32 w10 =>
  condS v9_32 (
  X Try.prog (Instr.indexAt 65 (ρ1 8) (ρ1 31)) w10 fun v10_37 w11 =>
  X Try.prog (Instr.loadAt 22 v10_37) w11 fun v11_38 w12 =>
  CALL Try.prog 46 #[(ρ1 10), v11_38, (.int .i64 8)] w12 fun v12_39 w13 =>
  X Try.prog (binOp .add 3 (ρ1 31) (.int .i64 1)) w13 fun v13_40 w14 =>
  Q1 .normal (upds ρ1 [(31, v13_40), (40, v13_40), (10, v12_39), (39, v12_39), (38, v11_38), (37, v10_37), (36, (ρ1 31)), (35, (ρ1 8)), (34, (ρ1 10)), (11, (ρ1 31)), (33, (ρ1 31)), (32, v9_32)]) w14) (
  Q1 (.exit 0) (upds ρ1 [(32, v9_32)]) w10)) (inBlockS 0 (thenS (fun ρ2 w15 =>
  X Try.prog (Builtin.len_ #[66] 3 #[(ρ2 9)]) w15 fun v14_42 w16 =>
  loopS (fun Q3 ρ3 w17 =>
  X Try.prog (binOp .lss 3 (ρ3 43) (ρ3 42)) w17 fun v15_44 w18 =>
  condS v15_44 (
  X Try.prog (Instr.indexAt 66 (ρ3 9) (ρ3 43)) w18 fun v16_48 w19 =>
  X Try.prog (Instr.loadAt 9 v16_48) w19 fun v17_49 w20 =>
  X Try.prog (Builtin.len_ #[9] 3 #[v17_49]) w20 fun v18_50 w21 =>
  X Try.prog (binOp .gtr 3 v18_50 (.int .i64 10000)) w21 fun v19_51 w22 =>
  condS v19_51 (
  Q3 .ret (upds ρ3 [(6, (ρ3 7)), (52, (ρ3 7)), (51, v19_51), (50, v18_50), (49, v17_49), (48, v16_48), (47, (ρ3 43)), (46, (ρ3 9)), (12, (ρ3 43)), (45, (ρ3 43)), (44, v15_44)]) w22) (
  X Try.prog (Instr.indexAt 66 (ρ3 9) (ρ3 43)) w22 fun v20_56 w23 =>
  X Try.prog (Instr.loadAt 9 v20_56) w23 fun v21_57 w24 =>
  CALL Try.prog 67 #[(ρ3 10), v21_57] w24 fun v22_58 w25 =>
  X Try.prog (binOp .add 3 (ρ3 43) (.int .i64 1)) w25 fun v23_59 w26 =>
  Q3 .normal (upds ρ3 [(43, v23_59), (59, v23_59), (10, v22_58), (58, v22_58), (57, v21_57), (56, v20_56), (55, (ρ3 43)), (54, (ρ3 9)), (53, (ρ3 10)), (51, v19_51), (50, v18_50), (49, v17_49), (48, v16_48), (47, (ρ3 43)), (46, (ρ3 9)), (12, (ρ3 43)), (45, (ρ3 43)), (44, v15_44)]) w26)) (
  Q3 (.exit 2) (upds ρ3 [(44, v15_44)]) w18)) (inBlockS 2 (thenS (fun ρ4 w27 =>
  X Try.prog (binOp .rem 5 (ρ4 2) (.int .u8 9)) w27 fun v24_61 w28 =>
  X Try.prog (convert 5 3 v24_61) w28 fun v25_62 w29 =>
  CALL Try.prog 46 #[(ρ4 10), (.int .u64 9223372036854775813), v25_62] w29 fun v26_65 w30 =>
  CALL Try.prog 58 #[v26_65] w30 fun v27_67 w31 =>
  X Try.prog (binOpG .eql 54 (.tmp 68) (.const (.pointer none)) v27_67 (.pointer none)) w31 fun v28_69 w32 =>
  condS v28_69 (
  K (.bool false) w32) (
  X Try.prog (Builtin.len_ #[65] 3 #[(ρ4 8)]) w32 fun v29_71 w33 =>
  loopS (fun Q5 ρ5 w34 =>
  X Try.prog (binOp .lss 3 (ρ5 72) (ρ5 71)) w34 fun v30_73 w35 =>
  condS v30_73 (
  ∃ R, Frame? R ∧
  XP Try.prog (Instr.indexAt 65 (ρ5 8) (ρ5 72)) (drewW w35) fun v31_79 w36 =>
  XR Try.prog R (Instr.loadAt 22 v31_79) w36 fun v32_80 w37 =>
  CALL Try.prog 61 #[(ρ5 14), (.int .i64 8)] w37 fun v33_76 w38 =>
  R w37 w38 ∧
  XP Try.prog (binOpG .neq 22 (.tmp 76) (.tmp 80) v33_76 v32_80) w38 fun v34_81 w39 =>
  condS v34_81 (
  Q5 .ret (upds ρ5 [(6, (.bool false)), (81, v34_81), (76, v33_76), (80, v32_80), (79, v31_79), (78, (ρ5 72)), (77, (ρ5 8)), (75, (ρ5 14)), (15, (ρ5 72)), (74, (ρ5 72)), (73, v30_73)]) w39) (
  X Try.prog (binOp .add 3 (ρ5 72) (.int .i64 1)) w39 fun v35_82 w40 =>
  Q5 .normal (upds ρ5 [(72, v35_82), (82, v35_82), (81, v34_81), (76, v33_76), (80, v32_80), (79, v31_79), (78, (ρ5 72)), (77, (ρ5 8)), (75, (ρ5 14)), (15, (ρ5 72)), (74, (ρ5 72)), (73, v30_73)]) w40)) (
  Q5 (.exit 4) (upds ρ5 [(73, v30_73)]) w35)) (inBlockS 4 (thenS (fun ρ6 w41 =>
  X Try.prog (Builtin.len_ #[66] 3 #[(ρ6 9)]) w41 fun v36_84 w42 =>
  loopS (fun Q7 ρ7 w43 =>
  X Try.prog (binOp .lss 3 (ρ7 85) (ρ7 84)) w43 fun v37_86 w44 =>
  condS v37_86 (
  ∃ R, Frame? R ∧
  XP Try.prog (Instr.indexAt 66 (ρ7 9) (ρ7 85)) (drewW w44) fun v38_91 w45 =>
  XR Try.prog R (Instr.loadAt 9 v38_91) w45 fun v39_92 w46 =>
  XP Try.prog (Builtin.len_ #[9] 3 #[v39_92]) w46 fun v40_93 w47 =>
  XP Try.prog (Instr.indexAt 66 (ρ7 9) (ρ7 85)) w47 fun v41_97 w48 =>
  XR Try.prog R (Instr.loadAt 9 v41_97) w48 fun v42_98 w49 =>
  CALL Try.prog 59 #[(ρ7 14), v40_93] w49 fun v43_94 w50 =>
  R w49 w50 ∧
  XP Try.prog (binOpG .neq 9 (.tmp 94) (.tmp 98) v43_94 v42_98) w50 fun v44_99 w51 =>
  condS v44_99 (
  Q7 .ret (upds ρ7 [(6, (.bool false)), (99, v44_99), (94, v43_94), (98, v42_98), (97, v41_97), (96, (ρ7 85)), (95, (ρ7 9)), (93, v40_93), (92, v39_92), (91, v38_91), (90, (ρ7 85)), (89, (ρ7 9)), (88, (ρ7 14)), (16, (ρ7 85)), (87, (ρ7 85)), (86, v37_86)]) w51) (
  X Try.prog (binOp .add 3 (ρ7 85) (.int .i64 1)) w51 fun v45_100 w52 =>
  Q7 .normal (upds ρ7 [(85, v45_100), (100, v45_100), (99, v44_99), (94, v43_94), (98, v42_98), (97, v41_97), (96, (ρ7 85)), (95, (ρ7 9)), (93, v40_93), (92, v39_92), (91, v38_91), (90, (ρ7 85)), (89, (ρ7 9)), (88, (ρ7 14)), (16, (ρ7 85)), (87, (ρ7 85)), (86, v37_86)]) w52)) (
  Q7 (.exit 6) (upds ρ7 [(86, v37_86)]) w44)) (inBlockS 6 (thenS (fun ρ8 w53 =>
  CALL Try.prog 61 #[(ρ8 14), (ρ8 13)] w53 fun v46_103 w54 =>
  gstep (ρ8 7) true (fun w55 K => K (ρ8 14) w55) w54 fun v47_106 w56 =>
  gstep (ρ8 7) true (fun w57 K => CALL Try.prog 65 #[v47_106] w57 K) w56 fun v48_107 w58 =>
  gstep (ρ8 7) true (fun w59 K => X Try.prog (binOpG .eql 30 (.tmp 107) (.const (.int .i64 0)) v48_107 (.int .i64 0)) w59 K) w58 fun v49_108 w60 =>
  X Try.prog (pickS (ρ8 7) v49_108 (.bool false)) w60 fun v50_109 w61 =>
  gstep v50_109 true (fun w62 K => K (ρ8 13) w62) w61 fun v51_111 w63 =>
  gstep v50_109 true (fun w64 K => X Try.prog (binOpG .eql 3 (.tmp 111) (.const (.int .i64 0)) v51_111 (.int .i64 0)) w64 K) w63 fun v52_112 w65 =>
  gstep v50_109 true (fun w66 K => K v46_103 w66) w65 fun v53_113 w67 =>
  gstep v50_109 true (fun w68 K => X Try.prog (binOpG .eql 22 (.tmp 113) (.const (.int .u64 0)) v53_113 (.int .u64 0)) w68 K) w67 fun v54_114 w69 =>
  gstep v50_109 true (fun w70 K => X Try.prog (binOpG .eql 4 (.tmp 112) (.tmp 114) v52_112 v54_114) w70 K) w69 fun v55_115 w71 =>
  X Try.prog (pickS v50_109 v55_115 (.bool false)) w71 fun v56_116 w72 =>
  K v56_116 w72) (retS Try.prog (Try.f17).results K))) (upds ρ6 [(85, (.int .i64 0)), (84, v36_84), (83, (ρ6 9))]) w42) (retS Try.prog (Try.f17).results K))) (upds ρ4 [(72, (.int .i64 0)), (71, v29_71), (70, (ρ4 8)), (69, v28_69), (68, v27_67), (14, v27_67), (67, v27_67), (66, v26_65), (10, v26_65), (65, v26_65), (64, v25_62), (63, (ρ4 10)), (13, v25_62), (62, v25_62), (61, v24_61), (60, (ρ4 2))]) w33)) (retS Try.prog (Try.f17).results K))) (upds ρ2 [(43, (.int .i64 0)), (42, v14_42), (41, (ρ2 9))]) w16) (retS Try.prog (Try.f17).results K))) (upds (env0 #[x0, x1, x2]) [(31, (.int .i64 0)), (30, v8_30), (29, v4_23), (10, (.slice none 0 0)), (9, v7_28), (8, v4_23), (28, v7_28), (27, v6_27), (26, v5_26), (25, x1), (24, x1), (23, v4_23), (22, v3_22), (21, v2_21), (20, x0), (19, x0), (7, v1_18), (18, v1_18), (6, (.bool false))]) w8

theorem eq_law01_CodecBack (x0 x1 x2 : Value) (w : World) (K : Value → World → Prop) :
    sh Try.prog (Try.f17.body.getD .skip) (retS Try.prog Try.f17.results K) (env0 #[x0, x1, x2]) w = B_law01_CodecBack x0 x1 x2 w K := by kernel_rfl

theorem call_law01_CodecBack (x0 x1 x2 : Value) (w : World) (K : Value → World → Prop) (h : B_law01_CodecBack x0 x1 x2 w K) : CALL Try.prog 17 #[x0, x1, x2] w K :=
  call_of_eq (c := Try.f17.body.getD .skip) mixed Try.func17 (by kernel_rfl) (by kernel_rfl) (by kernel_rfl) (Nat.le_of_ble_eq_true (by kernel_rfl)) (eq_law01_CodecBack x0 x1 x2 w K) h

/-- cellarage/cellaragelaw01.CodecShort -/
def B_law01_CodecShort (x0 x1 x2 : Value) (w : World) (K : Value → World → Prop) : Prop :=
  CALL Try.prog 47 #[] w fun v1_13 w1 =>
  X Try.prog (Builtin.len_ #[9] 3 #[x1]) w1 fun v2_15 w2 =>
  X Try.prog (binOp .gtr 3 v2_15 (.int .i64 100000)) w2 fun v3_16 w3 =>
  condS v3_16 (
  K v1_13 w3) (
  CALL Try.prog 46 #[(.slice none 0 0), x0, (.int .i64 8)] w3 fun v4_19 w4 =>
  CALL Try.prog 67 #[(.slice none 0 0), x1] w4 fun v5_21 w5 =>
  X Try.prog (Instr.buildSlice 70 2 #[(0, v4_19), (1, v5_21)]) w5 fun v6_22 w6 =>
  X Try.prog (Builtin.len_ #[70] 3 #[v6_22]) w6 fun v7_23 w7 =>
  loopS (fun Q1 ρ1 w8 =>
  X Try.prog (binOp .lss 3 (ρ1 24) (ρ1 23)) w8 fun v8_25 w9 =>
  condS v8_25 (
  X Try.prog (Instr.indexAt 70 (ρ1 22) (ρ1 24)) w9 fun v9_27 w10 =>
  X Try.prog (Instr.loadAt 27 v9_27) w10 fun v10_28 w11 =>
  X Try.prog (Builtin.len_ #[27] 3 #[v10_28]) w11 fun v11_30 w12 =>
  X Try.prog (binOpG .eql 3 (.tmp 30) (.const (.int .i64 0)) v11_30 (.int .i64 0)) w12 fun v12_31 w13 =>
  condS v12_31 (
  Q1 .ret (upds ρ1 [(6, (.bool false)), (31, v12_31), (30, v11_30), (29, v10_28), (9, v10_28), (8, (ρ1 24)), (28, v10_28), (27, v9_27), (26, (ρ1 24)), (25, v8_25)]) w13) (
  X Try.prog (convert 69 3 (ρ1 2)) w13 fun v13_33 w14 =>
  X Try.prog (Builtin.len_ #[27] 3 #[v10_28]) w14 fun v14_35 w15 =>
  X Try.prog (binOp .rem 3 v13_33 v14_35) w15 fun v15_36 w16 =>
  X Try.prog (Instr.sliceAt 27 v10_28 none (some v15_36) none) w16 fun v16_39 w17 =>
  CALL Try.prog 58 #[v16_39] w17 fun v17_40 w18 =>
  X Try.prog (binOpG .eql 54 (.tmp 41) (.const (.pointer none)) v17_40 (.pointer none)) w18 fun v18_42 w19 =>
  condS v18_42 (
  Q1 .ret (upds ρ1 [(6, (.bool false)), (42, v18_42), (41, v17_40), (11, v17_40), (40, v17_40), (39, v16_39), (38, v15_36), (37, v10_28), (10, v15_36), (36, v15_36), (35, v14_35), (34, v10_28), (33, v13_33), (32, (ρ1 2)), (31, v12_31), (30, v11_30), (29, v10_28), (9, v10_28), (8, (ρ1 24)), (28, v10_28), (27, v9_27), (26, (ρ1 24)), (25, v8_25)]) w19) (
  joinS (fun ρ2 w20 =>
  X Try.prog (Op.unary .not (ρ2 12)) w20 fun v19_54 w21 =>
  gstep v19_54 false (fun w22 K => K (ρ2 11) w22) w21 fun v20_56 w23 =>
  gstep v19_54 false (fun w24 K => CALL Try.prog 64 #[v20_56] w24 K) w23 fun v21_57 w25 =>
  gstep v19_54 false (fun w26 K => X Try.prog (binOpG .neq 30 (.tmp 57) (.const (.int .i64 10)) v21_57 (.int .i64 10)) w26 K) w25 fun v22_58 w27 =>
  X Try.prog (pickS v19_54 (.bool true) v22_58) w27 fun v23_59 w28 =>
  gstep v23_59 false (fun w29 K => K (ρ2 11) w29) w28 fun v24_61 w30 =>
  gstep v23_59 false (fun w31 K => CALL Try.prog 63 #[v24_61] w31 K) w30 fun v25_62 w32 =>
  gstep v23_59 false (fun w33 K => K (ρ2 10) w33) w32 fun v26_63 w34 =>
  gstep v23_59 false (fun w35 K => X Try.prog (binOpG .neq 3 (.tmp 62) (.tmp 63) v25_62 v26_63) w35 K) w34 fun v27_64 w36 =>
  X Try.prog (pickS v23_59 (.bool true) v27_64) w36 fun v28_65 w37 =>
  gstep v28_65 false (fun w38 K => K (ρ2 11) w38) w37 fun v29_67 w39 =>
  gstep v28_65 false (fun w40 K => CALL Try.prog 61 #[v29_67, (.int .i64 0)] w40 K) w39 fun v30_68 w41 =>
  gstep v28_65 false (fun w42 K => X Try.prog (binOpG .neq 22 (.tmp 68) (.const (.int .u64 0)) v30_68 (.int .u64 0)) w42 K) w41 fun v31_69 w43 =>
  X Try.prog (pickS v28_65 (.bool true) v31_69) w43 fun v32_70 w44 =>
  gstep v32_70 false (fun w45 K => K (ρ2 11) w45) w44 fun v33_72 w46 =>
  gstep v32_70 false (fun w47 K => CALL Try.prog 59 #[v33_72, (.int .i64 9)] w47 K) w46 fun v34_73 w48 =>
  gstep v32_70 false (fun w49 K => X Try.prog (binOpG .neq 9 (.tmp 73) (.const (.string { data := #[] })) v34_73 (.string { data := #[] })) w49 K) w48 fun v35_74 w50 =>
  X Try.prog (pickS v32_70 (.bool true) v35_74) w50 fun v36_75 w51 =>
  gstep v36_75 false (fun w52 K => K (ρ2 11) w52) w51 fun v37_77 w53 =>
  gstep v36_75 false (fun w54 K => CALL Try.prog 65 #[v37_77] w54 K) w53 fun v38_78 w55 =>
  gstep v36_75 false (fun w56 K => X Try.prog (binOpG .neq 30 (.tmp 78) (.const (.int .i64 10)) v38_78 (.int .i64 10)) w56 K) w55 fun v39_79 w57 =>
  X Try.prog (pickS v36_75 (.bool true) v39_79) w57 fun v40_80 w58 =>
  condS v40_80 (
  Q1 .ret (upds ρ2 [(6, (.bool false)), (80, v40_80), (79, v39_79), (78, v38_78), (77, v37_77), (76, v36_75), (75, v36_75), (74, v35_74), (73, v34_73), (72, v33_72), (71, v32_70), (70, v32_70), (69, v31_69), (68, v30_68), (67, v29_67), (66, v28_65), (65, v28_65), (64, v27_64), (63, v26_63), (62, v25_62), (61, v24_61), (60, v23_59), (59, v23_59), (58, v22_58), (57, v21_57), (56, v20_56), (55, v19_54), (54, v19_54), (53, (ρ2 12))]) w58) (
  X Try.prog (binOp .add 3 (ρ2 24) (.int .i64 1)) w58 fun v41_81 w59 =>
  Q1 .normal (upds ρ2 [(24, v41_81), (81, v41_81), (80, v40_80), (79, v39_79), (78, v38_78), (77, v37_77), (76, v36_75), (75, v36_75), (74, v35_74), (73, v34_73), (72, v33_72), (71, v32_70), (70, v32_70), (69, v31_69), (68, v30_68), (67, v29_67), (66, v28_65), (65, v28_65), (64, v27_64), (63, v26_63), (62, v25_62), (61, v24_61), (60, v23_59), (59, v23_59), (58, v22_58), (57, v21_57), (56, v20_56), (55, v19_54), (54, v19_54), (53, (ρ2 12))]) w59)) fun J2 =>
  X Try.prog (binOpG .eql 3 (.tmp 43) (.const (.int .i64 0)) (ρ1 24) (.int .i64 0)) w19 fun v42_44 w60 =>
  condS v42_44 (
  CALL Try.prog 61 #[v17_40, (.int .i64 8)] w60 fun v43_46 w61 =>
  X Try.prog (binOpG .eql 22 (.tmp 46) (.const (.int .u64 0)) v43_46 (.int .u64 0)) w61 fun v44_47 w62 =>
  J2 (upds ρ1 [(12, v44_47), (47, v44_47), (46, v43_46), (45, v17_40), (44, v42_44), (43, (ρ1 24)), (12, (.bool true)), (42, v18_42), (41, v17_40), (11, v17_40), (40, v17_40), (39, v16_39), (38, v15_36), (37, v10_28), (10, v15_36), (36, v15_36), (35, v14_35), (34, v10_28), (33, v13_33), (32, (ρ1 2)), (31, v12_31), (30, v11_30), (29, v10_28), (9, v10_28), (8, (ρ1 24)), (28, v10_28), (27, v9_27), (26, (ρ1 24)), (25, v8_25)]) w62) (
  X Try.prog (Builtin.len_ #[9] 3 #[(ρ1 1)]) w60 fun v45_50 w63 =>
  CALL Try.prog 59 #[v17_40, v45_50] w63 fun v46_51 w64 =>
  X Try.prog (binOpG .eql 9 (.tmp 51) (.const (.string { data := #[] })) v46_51 (.string { data := #[] })) w64 fun v47_52 w65 =>
  J2 (upds ρ1 [(12, v47_52), (52, v47_52), (51, v46_51), (50, v45_50), (49, (ρ1 1)), (48, v17_40), (44, v42_44), (43, (ρ1 24)), (12, (.bool true)), (42, v18_42), (41, v17_40), (11, v17_40), (40, v17_40), (39, v16_39), (38, v15_36), (37, v10_28), (10, v15_36), (36, v15_36), (35, v14_35), (34, v10_28), (33, v13_33), (32, (ρ1 2)), (31, v12_31), (30, v11_30), (29, v10_28), (9, v10_28), (8, (ρ1 24)), (28, v10_28), (27, v9_27), (26, (ρ1 24)), (25, v8_25)]) w65)))) (
  Q1 (.exit 0) (upds ρ1 [(25, v8_25)]) w9)) (inBlockS 0 (thenS (fun ρ3 w66 =>
  K (ρ3 7) w66) (retS Try.prog (Try.f18).results K))) (upds (env0 #[x0, x1, x2]) [(24, (.int .i64 0)), (23, v7_23), (22, v6_22), (21, v5_21), (20, x1), (19, v4_19), (18, x0), (16, v3_16), (15, v2_15), (14, x1), (7, v1_13), (13, v1_13), (6, (.bool false))]) w7)

theorem eq_law01_CodecShort (x0 x1 x2 : Value) (w : World) (K : Value → World → Prop) :
    sh Try.prog (Try.f18.body.getD .skip) (retS Try.prog Try.f18.results K) (env0 #[x0, x1, x2]) w = B_law01_CodecShort x0 x1 x2 w K := by kernel_rfl

theorem call_law01_CodecShort (x0 x1 x2 : Value) (w : World) (K : Value → World → Prop) (h : B_law01_CodecShort x0 x1 x2 w K) : CALL Try.prog 18 #[x0, x1, x2] w K :=
  call_of_eq (c := Try.f18.body.getD .skip) mixed Try.func18 (by kernel_rfl) (by kernel_rfl) (by kernel_rfl) (Nat.le_of_ble_eq_true (by kernel_rfl)) (eq_law01_CodecShort x0 x1 x2 w K) h

/-- cellarage/cellaragelaw01.CodecNil -/
def B_law01_CodecNil (x0 : Value) (w : World) (K : Value → World → Prop) : Prop :=
  CALL Try.prog 47 #[] w fun v1_4 w1 =>
  gstep v1_4 true (fun w2 K => K (.pointer none) w2) w1 fun v2_6 w3 =>
  gstep v1_4 true (fun w4 K => K x0 w4) w3 fun v3_7 w5 =>
  gstep v1_4 true (fun w6 K => CALL Try.prog 61 #[v2_6, v3_7] w6 K) w5 fun v4_8 w7 =>
  gstep v1_4 true (fun w8 K => X Try.prog (binOpG .eql 22 (.tmp 8) (.const (.int .u64 0)) v4_8 (.int .u64 0)) w8 K) w7 fun v5_9 w9 =>
  X Try.prog (pickS v1_4 v5_9 (.bool false)) w9 fun v6_10 w10 =>
  gstep v6_10 true (fun w11 K => K (.pointer none) w11) w10 fun v7_12 w12 =>
  gstep v6_10 true (fun w13 K => K x0 w13) w12 fun v8_13 w14 =>
  gstep v6_10 true (fun w15 K => CALL Try.prog 59 #[v7_12, v8_13] w15 K) w14 fun v9_14 w16 =>
  gstep v6_10 true (fun w17 K => X Try.prog (binOpG .eql 9 (.tmp 14) (.const (.string { data := #[] })) v9_14 (.string { data := #[] })) w17 K) w16 fun v10_15 w18 =>
  X Try.prog (pickS v6_10 v10_15 (.bool false)) w18 fun v11_16 w19 =>
  gstep v11_16 true (fun w20 K => K (.pointer none) w20) w19 fun v12_18 w21 =>
  gstep v11_16 true (fun w22 K => CALL Try.prog 63 #[v12_18] w22 K) w21 fun v13_19 w23 =>
  gstep v11_16 true (fun w24 K => X Try.prog (binOpG .eql 3 (.tmp 19) (.const (.int .i64 0)) v13_19 (.int .i64 0)) w24 K) w23 fun v14_20 w25 =>
  X Try.prog (pickS v11_16 v14_20 (.bool false)) w25 fun v15_21 w26 =>
  gstep v15_21 true (fun w27 K => K (.pointer none) w27) w26 fun v16_23 w28 =>
  gstep v15_21 true (fun w29 K => CALL Try.prog 64 #[v16_23] w29 K) w28 fun v17_24 w30 =>
  gstep v15_21 true (fun w31 K => X Try.prog (binOpG .eql 30 (.tmp 24) (.const (.int .i64 0)) v17_24 (.int .i64 0)) w31 K) w30 fun v18_25 w32 =>
  X Try.prog (pickS v15_21 v18_25 (.bool false)) w32 fun v19_26 w33 =>
  gstep v19_26 true (fun w34 K => K (.pointer none) w34) w33 fun v20_28 w35 =>
  gstep v19_26 true (fun w36 K => CALL Try.prog 65 #[v20_28] w36 K) w35 fun v21_29 w37 =>
  gstep v19_26 true (fun w38 K => X Try.prog (binOpG .eql 30 (.tmp 29) (.const (.int .i64 0)) v21_29 (.int .i64 0)) w38 K) w37 fun v22_30 w39 =>
  X Try.prog (pickS v19_26 v22_30 (.bool false)) w39 fun v23_31 w40 =>
  K v23_31 w40

theorem eq_law01_CodecNil (x0 : Value) (w : World) (K : Value → World → Prop) :
    sh Try.prog (Try.f19.body.getD .skip) (retS Try.prog Try.f19.results K) (env0 #[x0]) w = B_law01_CodecNil x0 w K := by kernel_rfl

theorem call_law01_CodecNil (x0 : Value) (w : World) (K : Value → World → Prop) (h : B_law01_CodecNil x0 w K) : CALL Try.prog 19 #[x0] w K :=
  call_of_eq (c := Try.f19.body.getD .skip) mixed Try.func19 (by kernel_rfl) (by kernel_rfl) (by kernel_rfl) (Nat.le_of_ble_eq_true (by kernel_rfl)) (eq_law01_CodecNil x0 w K) h

end Go.Proofs.Ytggggfcgnkllgaa
end
section
/- The reference's check sums, by contract; and what cellaragelaw02.shown computes: true. -/
set_option linter.unusedVariables false
set_option linter.unusedSimpArgs false
namespace Go.Proofs.Ytggggfcgnkllgaa
open Go Go.Sh Go.RowKit
attribute [local irreducible] X XU XP XR CALL loopS resC closS

theorem bit1_eq (c : W32) : bit1 c = if c.msb = true then (c <<< 1) ^^^ poly else c <<< 1 := by
  unfold bit1
  cases c.msb <;> simp

theorem RMore_spec {c : W32} {v : Value} {bs : List UInt8} {w : World} {K : Value → World → Prop} (hb : Bts w v bs) (h : K (U32 (more c bs)) w) : CALL Try.prog 52 #[U32 c, v] w K := by
  obtain ⟨a, cp, e, h1, h2, h3⟩ := id hb
  subst e
  apply call_ref02_More
  unfold B_ref02_More
  refine X_of (u32_comp 23 c w) ?_
  refine loopS_of (fun ρ wr => ∃ i : Nat, i ≤ bs.length ∧ wr = w ∧ ρ 6 = .int .i64 (i : Nat) ∧ ρ 1 = .slice a bs.length cp ∧ ρ 5 = U32 (fold (~~~c) (bs.take i)))
    (fun ρ wr => match ρ 6 with | .int _ s => (bs.length - s).toNat | _ => 0) ?_ ?_
  · exact ⟨0, by omega, rfl, rfl, rfl, rfl⟩
  · rintro ρ wr ⟨i, hi, rfl, h6, h1', h5⟩
    simp only [SS, ST, h6, h1', h5]
    by_cases hin : i = bs.length
    · subst hin
      rw [if_neg (by simp)]
      simp only [upds_cons, upds_nil, Nat.reduceEqDiff, if_false, h5]
      refine X_of (u32_comp 23 _ _) ?_
      rw [List.take_length]
      exact h
    · rw [if_pos (by simp; omega)]
      obtain ⟨ad, hix, hcell, _⟩ := at_bts Try.underlying27 info_5 sz_5 hb (k := .i64) i rfl (by omega)
      refine X_of (hix _) ?_
      refine X_load agg_5 hcell ?_
      refine X_of (u32_of_u8 Try.underlying5 Try.underlying23 _ _) ?_
      refine X_of (u32_topmul 23 _ _) ?_
      refine X_of (u32_xor 23 _ _ _) ?_
      refine loopS_of (fun ρ' wr' => ∃ j : Nat, j ≤ 8 ∧ wr' = wr ∧ ρ' 7 = .int .i64 (j : Nat) ∧ ρ' 6 = .int .i64 (i : Nat) ∧ ρ' 1 = .slice a bs.length cp ∧ ρ' 5 = U32 (iter j (fold (~~~c) (bs.take i) ^^^ top bs[i])))
        (fun ρ wr => match ρ 7 with | .int _ s => (8 - s).toNat | _ => 0) ?_ ?_
      · exact ⟨0, by omega, rfl, rfl, h6, h1', rfl⟩
      · rintro ρ' wr' ⟨j, hj, rfl, h7, h6', h1'', h5'⟩
        simp only [SS, ST, h7, h6', h1'', h5']
        by_cases hjn : j = 8
        · subst hjn
          rw [if_neg (by simp)]
          simp only [upds_cons, upds_nil, Nat.reduceEqDiff, if_false, h6', SS, ST]
          show _ ∧ _
          refine ⟨⟨i + 1, by omega, trivial, next64 (n := bs.length - 1) (by omega) (by omega), h1'', ?_⟩, ?_⟩
          · rw [fold_take_succ (~~~c) bs i (by omega)]
            exact h5'
          · show (_ - IntKind.i64.wrap _).toNat < _
            rw [w64 (by omega) (by omega)]
            omega
        · rw [if_pos (by simp; omega)]
          refine X_of (u32_top2 23 _ _) ?_
          refine X_of (u32_dbl 23 _ _) ?_
          simp only [SS, ST]
          have key : iter (j + 1) (fold (~~~c) (bs.take i) ^^^ top bs[i]) = bit1 (iter j (fold (~~~c) (bs.take i) ^^^ top bs[i])) := iter_succ _ _
          rw [bit1_eq] at key
          cases hm : (iter j (fold (~~~c) (bs.take i) ^^^ top bs[i])).msb with
          | true =>
            rw [if_pos (by simp)]
            rw [hm, if_pos rfl] at key
            refine X_of (u32_xor 23 _ poly _) ?_
            simp only [upds_cons, upds_nil, Nat.reduceEqDiff, if_false, h7, SS, ST]
            show _ ∧ _
            refine ⟨⟨j + 1, by omega, trivial, next64 (n := 8) (by decide) hj, h6', h1'', ?_⟩, ?_⟩
            · rw [key]; rfl
            · show (_ - IntKind.i64.wrap _).toNat < _
              rw [w64 (by omega) (by omega)]
              omega
          | false =>
            rw [if_neg (by simp)]
            rw [hm, if_neg (by decide)] at key
            simp only [upds_cons, upds_nil, Nat.reduceEqDiff, if_false, h7, SS, ST]
            show _ ∧ _
            refine ⟨⟨j + 1, by omega, trivial, next64 (n := 8) (by decide) hj, h6', h1'', ?_⟩, ?_⟩
            · rw [key]; rfl
            · show (_ - IntKind.i64.wrap _).toNat < _
              rw [w64 (by omega) (by omega)]
              omega

theorem RSeal_spec {v : Value} {bs : List UInt8} {w : World} {K : Value → World → Prop} (hb : Bts w v bs) (hl : bs.length ≤ 140737488351232)
    (h : ∀ v' w1, Ext w w1 → w1.ownsRow w.heap.size 5 1 v' (sealB bs).length (B8 (sealB bs)) → K v' w1) : CALL Try.prog 57 #[v] w K := by
  apply call_ref02_Seal
  unfold B_ref02_Seal
  refine X_append_bts Try.underlying27 el_5 (xs := []) (World.ownsRow_nil w w.heap.size 5 1) hb (by omega) (Nat.le_refl _) ?_
  intro v1 w1 ho hk
  have hx : Ext w w1 := hk.mono (fun i _ h => by cases h)
  refine RMore_spec (c := 0#32) (hb.ext hx) ?_
  refine X_of (u64_of_u32 _ _) ?_
  have := (crc bs).isLt
  refine RPut_spec (by show (crc bs).toNat < _; omega) ?_
  intro v2 w2 hx2 ho2
  rw [putB_4] at ho2
  have ho1 : w2.ownsRow w.heap.size 5 1 v1 (0 + bs.length) (B8 ([] ++ bs)) := by
    refine ho.kept ⟨hx2.os, hx2.tape, hx2.output, hx2.size, fun k hk _ => hx2.block k hk (fun h => h)⟩ (row := none) ?_
    cases v1.ownBlock <;> simp
  refine X_append_bts Try.underlying27 el_5 ho1 (own_bts ho2).1 (by simp; omega) (Nat.le_trans hx.size hx2.size) ?_
  intro v3 w3 ho3 hk3
  refine h v3 w3 (Ext.seq (hx.trans hx2) hk3 (fun i hi => (ho1.lt i hi.symm).1)) ?_
  have e : 0 + bs.length + (be 4 (more 0#32 bs).toNat).length = (sealB bs).length := by simp [sealB]
  rw [e] at ho3
  exact ho3

theorem ROpen_spec {v : Value} {bs : List UInt8} {w : World} {K : Value → World → Prop} (hb : Bts w v bs) (hl : bs.length ≤ 140737488351232)
    (h0 : openB bs = none → ∀ w1, Ext w w1 → K (.tuple #[.slice none 0 0, .bool false]) w1)
    (h1 : ∀ cs v' w1, openB bs = some cs → Ext w w1 → Bts w1 v' cs → K (.tuple #[v', .bool true]) w1) : CALL Try.prog 55 #[v] w K := by
  obtain ⟨a, cp, e, _, _, _⟩ := id hb
  subst e
  apply call_ref02_Open
  unfold B_ref02_Open
  simp only [SS, ST]
  refine ⟨Ext, Ext.frame, ?_⟩
  by_cases h4 : bs.length < 4
  · have e1 : decide (IntKind.i64.wrap ((bs.length : Int) - 4) < 0) = true := by rw [w64 (by omega) (by omega)]; simp only [decide_eq_true_eq]; omega
    simp only [SS, ST, e1, if_true, Bool.true_eq_false, if_false]
    refine ⟨Ext.frame.refl _, ?_⟩
    exact h0 (by simp [openB, h4]) _ (Keep.drew _ w)
  · have e0 : IntKind.i64.wrap ((bs.length : Int) - 4) = ((bs.length - 4 : Nat) : Int) := by rw [w64 (by omega) (by omega)]; omega
    have e1 : decide (((bs.length - 4 : Nat) : Int) < 0) = false := by simp only [decide_eq_false_iff_not]; omega
    simp only [e0, SS, ST, e1, if_true, Bool.false_eq_true, if_false]
    have hbd := hb.drew
    obtain ⟨u2, hu2, hub2, huo2⟩ := cut_hi Try.underlying27 info_5 hbd (kh := .i64) (bs.length - 4) rfl (by omega)
    refine XP_of hu2 ?_
    refine XR_str Try.underlying27 Try.underlying5 Try.underlying9 hbd ?_
    refine RSeal_spec hub2 (by simp; omega) ?_
    intro v1 w1 hx1 ho1
    refine ⟨hx1, ?_⟩
    refine XR_str Try.underlying27 Try.underlying5 Try.underlying9 (own_bts ho1).1 ?_
    have hx : Ext w w1 := (Keep.drew _ w).trans hx1
    have hiff : sealB (bs.take (bs.length - 4)) = bs ↔ num (bs.drop (bs.length - 4)) = (crc (bs.take (bs.length - 4))).toNat := by
      unfold sealB
      have hlt : (crc (bs.take (bs.length - 4))).toNat < 256 ^ 4 := (crc (bs.take (bs.length - 4))).isLt
      constructor
      · intro h
        have := congrArg (List.drop (bs.length - 4)) h
        rw [List.drop_append_of_le_length (by simp), List.drop_eq_nil_of_le (by simp), List.nil_append] at this
        rw [← this, num_be, Nat.mod_eq_of_lt hlt]
      · intro h
        rw [← h]
        have hb4 := be_num (bs.drop (bs.length - 4))
        have hl4 : (bs.drop (bs.length - 4)).length = 4 := by simp; omega
        rw [hl4] at hb4
        rw [hb4, List.take_append_drop]
    simp only [str_toList, SS, ST, l8_bne]
    by_cases heq : num (bs.drop (bs.length - 4)) = (crc (bs.take (bs.length - 4))).toNat
    · have ed : decide (sealB (bs.take (bs.length - 4)) ≠ bs) = false := by simp only [ne_eq, decide_not, hiff.2 heq, decide_true, Bool.not_true]
      simp only [ed, Bool.false_eq_true, if_false]
      obtain ⟨u3, hu3, hub3, huo3⟩ := cut_hi Try.underlying27 info_5 (hb.ext hx) (kh := .i64) (bs.length - 4) rfl (by omega)
      refine X_of (hu3 _) ?_
      exact h1 (bs.take (bs.length - 4)) u3 w1 (by simp [openB, h4, heq]) hx hub3
    · have ed : decide (sealB (bs.take (bs.length - 4)) ≠ bs) = true := by simp only [ne_eq, decide_eq_true_eq]; exact fun h => heq (hiff.1 h)
      simp only [ed, if_true]
      exact h0 (by simp [openB, h4, heq]) _ hx
end Go.Proofs.Ytggggfcgnkllgaa
end
