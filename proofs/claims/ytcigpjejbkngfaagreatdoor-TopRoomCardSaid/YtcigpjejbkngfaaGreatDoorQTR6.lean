/- Part 6 of what the law is proved with. -/
import Derived.Great.FillDense
import Derived.Test.YtcigpjejbkngfaaGreatDoorQTR5
set_option linter.unusedVariables false
set_option linter.unusedSimpArgs false
section
namespace Go.Sh
open Go Go.RowKit
theorem loopGR {B : (Exit → Env → World → Prop) → Env → World → Prop} {Q : Exit → Env → World → Prop} {ρ : Env} {w : World} (id : Nat) (I : Env → World → Prop) (μ : Env → World → Nat) (E R : Env → World → Prop) (h0 : I ρ w)
    (h : ∀ J : Exit → Env → World → Prop, (∀ ρ w, E ρ w → J (.exit id) ρ w) → (∀ ρ w, R ρ w → J .ret ρ w) → ∀ ρ w, I ρ w → B (thenS (fun ρ' w' => I ρ' w' ∧ μ ρ' w' < μ ρ w) J) ρ w) (hE : ∀ ρ w, E ρ w → Q (.exit id) ρ w) (hR : ∀ ρ w, R ρ w → Q .ret ρ w) : loopS B Q ρ w :=
  ⟨I, μ, h0, h Q hE hR⟩
theorem closS_of {P : Program} {f : FuncId} {first captured args : Array Value} {w : World} {K : Value → World → Prop} (h : CALL P f (first ++ args ++ captured) w K) : closS P (.func (.func f) first captured) args w K := h
theorem X_buildSliceK {P : Program} {w : World} {K : Value → World → Prop} {T e k bytes : Nat} {z : Value} (hT : P.underlying T = some (.slice e)) (hE : El P e k z bytes) (hk : 0 < k) (hk2 : k ≤ 16777216) {cs : List Value} (hc : cs.length = k)
    (h : K (.slice (some ⟨w.heap.size, 0, none⟩) 1 1) (newB w cs.toArray e)) : X P (Instr.buildSlice T 1 #[(0, .agg cs.toArray)]) w K := by
  obtain ⟨⟨i, hi, hs, hz, _⟩, hzc⟩ := hE
  refine X_of (v := .slice (some ⟨w.heap.size, 0, none⟩) 1 1) (w1 := newB w cs.toArray e) ?_ h
  have h1 : ¬ (1 * k > 2 ^ 24) := by omega
  have h2 : ¬ (1 * k = 0) := by omega
  have hf : ∀ cells : Array Value, cells.size = k → Instr.fill (fun i => some (i * k, k)) cells [(0, .agg cs.toArray)] = some cs.toArray := by
    intro cells hcs
    have := Great.fill_whole hk [Value.agg cs.toArray] cells (by intro v hv; rw [List.mem_singleton.1 hv]; simpa [Value.cells] using hc) (by rw [List.length_singleton, Nat.one_mul, hcs])
    simpa [Value.cells] using this
  have hf' := hf ((Array.range (1 * k)).map fun x => (z.cells)[x % z.cells.size]!) (by simp)
  have q1 : infoB P e = true := by unfold infoB; rw [hi]; rfl
  have q2 : szT P e = k := by unfold szT; rw [hi]; exact hs
  have q3 : zeroT P e = some z := by unfold zeroT; rw [hi]; exact hz
  simp only [Instr.buildSlice, Sem.run_bind, run_underlying hT, Result.andThen_ok, sizeOf_run q1, q2, if_neg h1, if_neg h2, zeroValue_run q3, Sem.run_pure, hf', newRow, run_newObj]
  rfl
theorem fill_app {place : Nat → Option (Nat × Nat)} {i off a : Nat} (hp : place i = some (off, a)) {v : Value} (hv : v.cells.size = a) {cells : Array Value} (hle : off + a ≤ cells.size) (rest : List (Nat × Value)) :
    Instr.fill place cells ((i, v) :: rest) = Instr.fill place (cells.toList.take off ++ v.cells.toList ++ cells.toList.drop (off + a)).toArray rest := by
  rw [Instr.fill, hp]
  simp only [hv]
  rw [if_neg (by simp; omega)]
  congr 1
  apply Array.ext_getElem?
  intro k
  obtain ⟨g1, g2⟩ := Great.foldl_set off v.cells.toList 0 cells
  have e : (v.cells.zipIdx.foldl (fun cs (x : Value × Nat) => cs.setIfInBounds (off + x.2) x.1) cells) = ((v.cells.toList.zipIdx 0).foldl (fun cs (x : Value × Nat) => cs.setIfInBounds (off + x.2) x.1) cells) := by
    rw [← Array.foldl_toList]
    simp
  have g := g2 k
  rw [← e] at g
  refine Eq.trans g ?_
  have hvl : v.cells.toList.length = a := by simpa using hv
  refine Eq.trans ?_ (List.getElem?_toArray).symm
  rw [List.append_assoc]
  have htl : (cells.toList.take off).length = off := by rw [List.length_take]; simp; omega
  by_cases h1 : k < off
  · rw [if_neg (by omega), List.getElem?_append_left (by omega), List.getElem?_take, if_pos h1]
    simp
  · by_cases h2 : k < off + a
    · rw [if_pos (by rw [hvl]; omega), List.getElem?_append_right (by omega), htl, List.getElem?_append_left (by omega), Nat.add_zero]
    · rw [if_neg (by rw [hvl]; omega), List.getElem?_append_right (by omega), htl, List.getElem?_append_right (by omega), hvl, List.getElem?_drop]
      rw [show off + a + (k - off - a) = k by omega]
      simp
theorem run_build2 {P : Program} {t : TypeId} {f0 f1 : Field} {a b : Nat} {z : List Value} (ht : P.underlying t = some (.struct #[f0, f1])) (hz : zeroT P t = some (.agg z.toArray)) (o0 : f0.offset = 0) (o1 : f1.offset = a) (s0 : szT P f0.type = a) (s1 : szT P f1.type = b) (i0 : infoB P f0.type = true) (i1 : infoB P f1.type = true)
    {parts : Array (Nat × Value)} {cells : Array Value} (hf : Instr.fill (fun i => (#[(0, a), (a, b)] : Array (Nat × Nat))[i]?) z.toArray parts.toList = some cells) (w : World) : (Instr.build t parts).run P w = .ok (.agg cells) w := by
  have hm : ((#[f0, f1] : Array Field).mapM fun f => do pure (f.offset, ← sizeOf f.type) : Sem (Array (Nat × Nat))).run P w = .ok #[(0, a), (a, b)] w := by
    rw [Array.mapM_eq_mapM_toList]
    simp [sizeOf_run i0, sizeOf_run i1, s0, s1, o0, o1, List.mapM_cons, List.mapM_nil]
  simp only [Instr.build, Sem.run_bind, zeroValue_run hz, Result.andThen_ok, run_underlying ht, hm]
  have hc : (Value.agg z.toArray).cells = z.toArray := rfl
  rw [hc, hf]
  rfl
theorem fill_both {a b : Nat} {v0 v1 : Value} (h0 : v0.cells.size = a) (h1 : v1.cells.size = b) {z : List Value} (hz : z.length = a + b) :
    Instr.fill (fun i => (#[(0, a), (a, b)] : Array (Nat × Nat))[i]?) z.toArray [(0, v0), (1, v1)] = some (v0.cells.toList ++ v1.cells.toList).toArray := by
  have l0 : v0.cells.toList.length = a := by simpa using h0
  rw [fill_app (a := a) (off := 0) rfl h0 (by simp; omega), fill_app (a := b) (off := a) rfl h1 (by simp; omega)]
  unfold Instr.fill
  congr 2
  simp only [List.take_zero, List.nil_append, Nat.zero_add]
  rw [List.take_append_of_le_length (by simp; omega), List.take_of_length_le (by simp; omega), List.drop_eq_nil_of_le (by simp; omega), List.append_nil]
theorem fill_left {a b : Nat} {v0 : Value} (h0 : v0.cells.size = a) {z : List Value} (hz : z.length = a + b) :
    Instr.fill (fun i => (#[(0, a), (a, b)] : Array (Nat × Nat))[i]?) z.toArray [(0, v0)] = some (v0.cells.toList ++ z.drop a).toArray := by
  rw [fill_app (a := a) (off := 0) rfl h0 (by simp; omega)]
  unfold Instr.fill
  congr 2
  simp
theorem fill_right {a b : Nat} {v1 : Value} (h1 : v1.cells.size = b) {z : List Value} (hz : z.length = a + b) :
    Instr.fill (fun i => (#[(0, a), (a, b)] : Array (Nat × Nat))[i]?) z.toArray [(1, v1)] = some (z.take a ++ v1.cells.toList).toArray := by
  rw [fill_app (a := b) (off := a) rfl h1 (by simp; omega)]
  unfold Instr.fill
  congr 2
  simp only [List.toList_toArray]
  rw [List.drop_eq_nil_of_le (by omega), List.append_nil]
end Go.Sh
end
section
namespace Go.Sh
open Go
theorem gs_u (b : Bool) (S : World → (Value → World → Prop) → Prop) (w : World) (K : Value → World → Prop) : gstep undef b S w K = K undef w := (And.intro rfl trivial : _ ∧ True).1
end Go.Sh
namespace Go.Proofs.YtcigpjejbkngfaaGreatDoor
open Go Go.Sh
theorem oNs {α : Type} (a : α) : Option.isNone (some a) = false := rfl
theorem oSs {α : Type} (a : α) : Option.isSome (some a) = true := rfl
theorem oNn {α : Type} : Option.isNone (none : Option α) = true := rfl
theorem oSn {α : Type} : Option.isSome (none : Option α) = false := rfl
theorem eqS {α : Type} (a : α) : (a = a) = True := eq_self a
abbrev SLB := And.intro (And.intro (And.intro (And.intro (And.intro (And.intro (@XP_extract0) (And.intro (@XP_extract1) (@XP_extract2))) (And.intro (@XP_extract3) (And.intro (@X_extract0) (@X_extract1)))) (And.intro (And.intro (@X_extract2) (And.intro (@X_extract3) (@X_nilS))) (And.intro (And.intro (@XP_eql_nil_101) (@XP_eql_nil_120)) (And.intro (@XP_eql_nil_127) (@XP_eql_nil_130))))) (And.intro (And.intro (And.intro (@XP_eql_nil_185) (And.intro (@XP_eql_nil_24) (@XP_eql_nil_54))) (And.intro (And.intro (@XP_eql_nil_57) (@XP_eql_nil_68)) (And.intro (@XP_eql_nil_69) (@XP_eql_nil_97)))) (And.intro (And.intro (@XP_len_115) (And.intro (@XP_len_124) (@XP_len_141))) (And.intro (And.intro (@XP_len_150) (@XP_len_22)) (And.intro (@XP_len_28) (@XP_len_41)))))) (And.intro (And.intro (And.intro (And.intro (@XP_len_43) (And.intro (@XP_len_46) (@XP_len_67))) (And.intro (@XP_len_87) (And.intro (@XP_neq_nil_101) (@XP_neq_nil_120)))) (And.intro (And.intro (@XP_neq_nil_127) (And.intro (@XP_neq_nil_130) (@XP_neq_nil_185))) (And.intro (And.intro (@XP_neq_nil_24) (@XP_neq_nil_54)) (And.intro (@XP_neq_nil_57) (@XP_neq_nil_68))))) (And.intro (And.intro (And.intro (@XP_neq_nil_69) (And.intro (@XP_neq_nil_97) (@X_eql_nil_101))) (And.intro (And.intro (@X_eql_nil_120) (@X_eql_nil_127)) (And.intro (@X_eql_nil_130) (@X_eql_nil_185)))) (And.intro (And.intro (@X_eql_nil_24) (And.intro (@X_eql_nil_54) (@X_eql_nil_57))) (And.intro (And.intro (@X_eql_nil_68) (@X_eql_nil_69)) (And.intro (@X_eql_nil_97) (@X_len_115))))))) (And.intro (And.intro (And.intro (And.intro (And.intro (@X_len_124) (And.intro (@X_len_141) (@X_len_150))) (And.intro (@X_len_22) (And.intro (@X_len_28) (@X_len_41)))) (And.intro (And.intro (@X_len_43) (And.intro (@X_len_46) (@X_len_67))) (And.intro (And.intro (@X_len_87) (@X_neq_nil_101)) (And.intro (@X_neq_nil_120) (@X_neq_nil_127))))) (And.intro (And.intro (And.intro (@X_neq_nil_130) (And.intro (@X_neq_nil_185) (@X_neq_nil_24))) (And.intro (And.intro (@X_neq_nil_54) (@X_neq_nil_57)) (And.intro (@X_neq_nil_68) (@X_neq_nil_69)))) (And.intro (And.intro (@X_neq_nil_97) (And.intro (@X_eql) (@X_neq))) (And.intro (And.intro (@X_lss) (@X_leq)) (And.intro (@X_gtr) (@X_geq)))))) (And.intro (And.intro (And.intro (And.intro (@X_not) (And.intro (@X_min) (@X_max))) (And.intro (And.intro (@XP_nilS) (@XP_eql)) (And.intro (@XP_neq) (@XP_lss)))) (And.intro (And.intro (@XP_leq) (And.intro (@XP_gtr) (@XP_geq))) (And.intro (And.intro (@XP_not) (@XP_min)) (And.intro (@XP_max) (@X_str_eql))))) (And.intro (And.intro (And.intro (@X_str_neq) (And.intro (@XP_str_eql) (@XP_str_neq))) (And.intro (And.intro (GS) (@gs_u)) (And.intro (@decide_true) (@decide_false)))) (And.intro (And.intro (@oNs) (And.intro (@oSs) (@oNn))) (And.intro (And.intro (@oSn) (@eqS)) (And.intro (@Bool.not_true) (@Bool.not_false)))))))
end Go.Proofs.YtcigpjejbkngfaaGreatDoor
end
section
namespace Go.Proofs.YtcigpjejbkngfaaGreatDoor
open Go Go.Sh
attribute [local irreducible] X XU XP XR CALL loopS resC closS
def B_digest_Sum (x0 : Value) (w : World) (K : Value → World → Prop) : Prop :=
  X Tryz.prog (Instr.alloc 30 true (.tuple #[])) w fun v1 w1 =>
  CALL Tryz.prog 37 #[] w1 fun v2 w2 =>
  X Tryz.prog (Builtin.len_ #[22] 3 #[x0]) w2 fun v3 w3 =>
  loopS (fun Q1 ρ1 w4 =>
  X Tryz.prog (binOp .lss 3 (ρ1 9) (ρ1 8)) w4 fun v4 w5 =>
  condS v4 (
  X Tryz.prog (Instr.indexAt 22 (ρ1 7) (ρ1 9)) w5 fun v5 w6 =>
  X Tryz.prog (Instr.loadAt 28 v5) w6 fun v6 w7 =>
  CALL Tryz.prog 38 #[(ρ1 3), v6] w7 fun v7 w8 =>
  X Tryz.prog (binOp .add 3 (ρ1 9) (.int .i64 1)) w8 fun v8 w9 =>
  Q1 .normal (upds ρ1 [(9, v8), (16, v8), (15, v7), (14, v6), (13, (ρ1 3)), (5, v6), (12, v6), (11, v5), (10, v4)]) w9) (
  Q1 (.exit 0) (upds ρ1 [(10, v4)]) w5)) (inBlockS 0 (thenS (fun ρ2 w10 =>
  CALL Tryz.prog 39 #[(ρ2 3)] w10 fun v9 w11 =>
  XU Tryz.prog (Instr.storeAt 30 (ρ2 2) v9) w11 fun w12 =>
  resC Tryz.prog 30 (ρ2 2) w12 fun r0 =>
  K r0 w12) (retS Tryz.prog (Tryz.f18).results K))) (upds (env0 #[x0]) [(9, (.int .i64 0)), (8, v3), (7, x0), (3, v2), (6, v2), (2, v1)]) w3
theorem eq_digest_Sum (x0 : Value) (w : World) (K : Value → World → Prop) :
    sh Tryz.prog (Tryz.f18.body.getD .skip) (retS Tryz.prog Tryz.f18.results K) (env0 #[x0]) w = B_digest_Sum x0 w K := by kernel_rfl
theorem call_digest_Sum (x0 : Value) (w : World) (K : Value → World → Prop) (h : B_digest_Sum x0 w K) : CALL Tryz.prog 18 #[x0] w K :=
  call_of_eq (c := Tryz.f18.body.getD .skip) mixed Tryz.func18 (by kernel_rfl) (by kernel_rfl) (by kernel_rfl) (Nat.le_of_ble_eq_true (by kernel_rfl)) (eq_digest_Sum x0 w K) h
def B_digest_New (w : World) (K : Value → World → Prop) : Prop :=
  CALL Tryz.prog 60 #[] w fun v1 w1 =>
  X Tryz.prog (Instr.build 139 #[(0, v1)]) w1 fun v2 w2 =>
  X Tryz.prog (Instr.box 139 v2) w2 fun v3 w3 =>
  ∃ R, Frame? R ∧
  XP Tryz.prog (nilS v3) (drewW w3) fun v4 w4 =>
  XP Tryz.prog (Instr.fieldAt 139 v4 0) w4 fun v5 w5 =>
  XP Tryz.prog (Instr.indexAt 135 v5 (.int .i64 0)) w5 fun v6 w6 =>
  XR Tryz.prog R (Instr.loadAt 31 v6) w6 fun v7 w7 =>
  XP Tryz.prog (binOp .xor 31 v7 (.int .u32 16842784)) w7 fun v8 w8 =>
  XP Tryz.prog (nilS v3) w8 fun v9 w9 =>
  XP Tryz.prog (Instr.fieldAt 139 v9 0) w9 fun v10 w10 =>
  XP Tryz.prog (Instr.indexAt 135 v10 (.int .i64 0)) w10 fun v11 w11 =>
  XU Tryz.prog (Instr.storeAt 31 v11 v8) w11 fun w12 =>
  K v3 w12
theorem eq_digest_New (w : World) (K : Value → World → Prop) :
    sh Tryz.prog (Tryz.f37.body.getD .skip) (retS Tryz.prog Tryz.f37.results K) (env0 #[]) w = B_digest_New  w K := by kernel_rfl
theorem call_digest_New (w : World) (K : Value → World → Prop) (h : B_digest_New  w K) : CALL Tryz.prog 37 #[] w K :=
  call_of_eq (c := Tryz.f37.body.getD .skip) mixed Tryz.func37 (by kernel_rfl) (by kernel_rfl) (by kernel_rfl) (Nat.le_of_ble_eq_true (by kernel_rfl)) (eq_digest_New  w K) h
def B_digest_State_Write (x0 x1 : Value) (w : World) (K : Value → World → Prop) : Prop :=
  X Tryz.prog (binOpG .eql 97 (.tmp 6) (.const (.pointer none)) x0 (.pointer none)) w fun v1 w1 =>
  condS v1 (
  K (.tuple #[]) w1) (
  loopS (fun Q1 ρ1 w2 =>
  X Tryz.prog (Builtin.len_ #[28] 3 #[(ρ1 1)]) w2 fun v2 w3 =>
  X Tryz.prog (binOp .gtr 3 v2 (.int .i64 0)) w3 fun v3 w4 =>
  condS v3 (
  CALL Tryz.prog 61 #[(ρ1 0)] w4 fun v4 w5 =>
  joinS (fun ρ2 w6 =>
  X Tryz.prog (nilS (ρ2 0)) w6 fun v5 w7 =>
  X Tryz.prog (Instr.fieldAt 139 v5 1) w7 fun v6 w8 =>
  X Tryz.prog (Instr.sliceAt 137 v6 (some (ρ2 4)) none none) w8 fun v7 w9 =>
  X Tryz.prog (Builtin.copy_ #[28, 28] 3 #[v7, (ρ2 1)]) w9 fun v8 w10 =>
  X Tryz.prog (nilS (ρ2 0)) w10 fun v9 w11 =>
  X Tryz.prog (Instr.fieldAt 139 v9 2) w11 fun v10 w12 =>
  X Tryz.prog (Instr.loadAt 37 v10) w12 fun v11 w13 =>
  X Tryz.prog (convert 3 37 v8) w13 fun v12 w14 =>
  X Tryz.prog (binOp .add 37 v11 v12) w14 fun v13 w15 =>
  X Tryz.prog (nilS (ρ2 0)) w15 fun v14 w16 =>
  X Tryz.prog (Instr.fieldAt 139 v14 2) w16 fun v15 w17 =>
  XU Tryz.prog (Instr.storeAt 37 v15 v13) w17 fun w18 =>
  X Tryz.prog (Instr.sliceAt 28 (ρ2 1) (some v8) none none) w18 fun v16 w19 =>
  Q1 .normal (upds ρ2 [(1, v16), (35, v16), (34, v8), (33, (ρ2 1)), (32, v15), (31, v14), (30, v13), (29, v12), (28, v8), (27, v11), (26, v10), (25, v9), (24, (ρ2 0)), (5, v8), (23, v8), (22, (ρ2 1)), (21, v7), (20, (ρ2 4)), (19, v6), (18, v5), (17, (ρ2 0))]) w19) fun J2 =>
  X Tryz.prog (binOpG .eql 3 (.tmp 13) (.const (.int .i64 64)) v4 (.int .i64 64)) w5 fun v17 w20 =>
  condS v17 (
  CALL Tryz.prog 62 #[(ρ1 0), (.bool false)] w20 fun v18 w21 =>
  J2 (upds ρ1 [(4, (.int .i64 0)), (16, v18), (15, (ρ1 0)), (14, v17), (13, v4), (4, v4), (12, v4), (11, (ρ1 0)), (10, v3), (9, v2), (8, (ρ1 1))]) w21) (
  J2 (upds ρ1 [(14, v17), (13, v4), (4, v4), (12, v4), (11, (ρ1 0)), (10, v3), (9, v2), (8, (ρ1 1))]) w20)) (
  Q1 (.exit 0) (upds ρ1 [(10, v3), (9, v2), (8, (ρ1 1))]) w4)) (inBlockS 0 (retS Tryz.prog (Tryz.f38).results K)) (upds (env0 #[x0, x1]) [(7, v1), (6, x0)]) w1)
theorem eq_digest_State_Write (x0 x1 : Value) (w : World) (K : Value → World → Prop) :
    sh Tryz.prog (Tryz.f38.body.getD .skip) (retS Tryz.prog Tryz.f38.results K) (env0 #[x0, x1]) w = B_digest_State_Write x0 x1 w K := by kernel_rfl
theorem call_digest_State_Write (x0 x1 : Value) (w : World) (K : Value → World → Prop) (h : B_digest_State_Write x0 x1 w K) : CALL Tryz.prog 38 #[x0, x1] w K :=
  call_of_eq (c := Tryz.f38.body.getD .skip) mixed Tryz.func38 (by kernel_rfl) (by kernel_rfl) (by kernel_rfl) (Nat.le_of_ble_eq_true (by kernel_rfl)) (eq_digest_State_Write x0 x1 w K) h
def B_digest_State_Sum (x0 : Value) (w : World) (K : Value → World → Prop) : Prop :=
  X Tryz.prog (Instr.alloc 30 true (.tuple #[])) w fun v1 w1 =>
  X Tryz.prog (binOpG .eql 97 (.tmp 6) (.const (.pointer none)) x0 (.pointer none)) w1 fun v2 w2 =>
  condS v2 (
  CALL Tryz.prog 37 #[] w2 fun v3 w3 =>
  CALL Tryz.prog 39 #[v3] w3 fun v4 w4 =>
  XU Tryz.prog (Instr.storeAt 30 v1 v4) w4 fun w5 =>
  resC Tryz.prog 30 v1 w5 fun r0 =>
  K r0 w5) (
  X Tryz.prog (nilS x0) w2 fun v5 w6 =>
  X Tryz.prog (Instr.loadAt 139 v5) w6 fun v6 w7 =>
  X Tryz.prog (Instr.alloc 139 true (.tuple #[])) w7 fun v7 w8 =>
  XU Tryz.prog (Instr.storeAt 139 v7 v6) w8 fun w9 =>
  X Tryz.prog (Instr.fieldAt 139 v7 1) w9 fun v8 w10 =>
  CALL Tryz.prog 61 #[v7] w10 fun v9 w11 =>
  X Tryz.prog (Instr.sliceAt 137 v8 (some v9) none none) w11 fun v10 w12 =>
  X Tryz.prog (Builtin.clear_ #[28] 0 #[v10]) w12 fun _ w13 =>
  CALL Tryz.prog 62 #[v7, (.bool true)] w13 fun v11 w14 =>
  X Tryz.prog (Instr.alloc 30 true (.tuple #[])) w14 fun v12 w15 =>
  loopS (fun Q1 ρ1 w16 =>
  X Tryz.prog (binOp .lss 3 (ρ1 17) (.int .i64 32)) w16 fun v13 w17 =>
  condS v13 (
  X Tryz.prog (binOp .shr 3 (ρ1 17) (.int .u64 2)) w17 fun v14 w18 =>
  X Tryz.prog (Instr.fieldAt 139 (ρ1 3) 0) w18 fun v15 w19 =>
  X Tryz.prog (Instr.indexAt 135 v15 v14) w19 fun v16 w20 =>
  X Tryz.prog (Instr.loadAt 31 v16) w20 fun v17 w21 =>
  X Tryz.prog (binOp .and 3 (ρ1 17) (.int .i64 3)) w21 fun v18 w22 =>
  X Tryz.prog (binOp .mul 3 (.int .i64 8) v18) w22 fun v19 w23 =>
  X Tryz.prog (binOp .shr 31 v17 v19) w23 fun v20 w24 =>
  X Tryz.prog (convert 31 5 v20) w24 fun v21 w25 =>
  X Tryz.prog (Instr.indexAt 30 (ρ1 4) (ρ1 17)) w25 fun v22 w26 =>
  XU Tryz.prog (Instr.storeAt 5 v22 v21) w26 fun w27 =>
  X Tryz.prog (binOp .add 3 (ρ1 17) (.int .i64 1)) w27 fun v23 w28 =>
  Q1 .normal (upds ρ1 [(17, v23), (32, v23), (31, v22), (30, v21), (29, v20), (28, v19), (27, v18), (26, (ρ1 17)), (25, v17), (24, v16), (23, v15), (22, v14), (21, (ρ1 17)), (20, (ρ1 17)), (5, (ρ1 17)), (19, (ρ1 17)), (18, v13)]) w28) (
  Q1 (.exit 0) (upds ρ1 [(18, v13)]) w17)) (inBlockS 0 (thenS (fun ρ2 w29 =>
  X Tryz.prog (Instr.loadAt 30 (ρ2 4)) w29 fun v24 w30 =>
  XU Tryz.prog (Instr.storeAt 30 (ρ2 2) v24) w30 fun w31 =>
  resC Tryz.prog 30 (ρ2 2) w31 fun r0 =>
  K r0 w31) (retS Tryz.prog (Tryz.f39).results K))) (upds (env0 #[x0]) [(17, (.int .i64 0)), (4, v12), (16, v11), (15, v10), (14, v9), (13, v8), (3, v7), (12, v6), (11, v5), (10, x0), (7, v2), (6, x0), (2, v1)]) w15)
theorem eq_digest_State_Sum (x0 : Value) (w : World) (K : Value → World → Prop) :
    sh Tryz.prog (Tryz.f39.body.getD .skip) (retS Tryz.prog Tryz.f39.results K) (env0 #[x0]) w = B_digest_State_Sum x0 w K := by kernel_rfl
theorem call_digest_State_Sum (x0 : Value) (w : World) (K : Value → World → Prop) (h : B_digest_State_Sum x0 w K) : CALL Tryz.prog 39 #[x0] w K :=
  call_of_eq (c := Tryz.f39.body.getD .skip) mixed Tryz.func39 (by kernel_rfl) (by kernel_rfl) (by kernel_rfl) (Nat.le_of_ble_eq_true (by kernel_rfl)) (eq_digest_State_Sum x0 w K) h
def B_digest_first (w : World) (K : Value → World → Prop) : Prop :=
  X Tryz.prog (Instr.alloc 135 true (.tuple #[])) w fun v1 w1 =>
  X Tryz.prog (Instr.build 135 #[(0, (.int .u32 1779033703)), (1, (.int .u32 3144134277)), (2, (.int .u32 1013904242)), (3, (.int .u32 2773480762)), (4, (.int .u32 1359893119)), (5, (.int .u32 2600822924)), (6, (.int .u32 528734635)), (7, (.int .u32 1541459225))]) w1 fun v2 w2 =>
  XU Tryz.prog (Instr.storeAt 135 v1 v2) w2 fun w3 =>
  resC Tryz.prog 135 v1 w3 fun r0 =>
  K r0 w3
theorem eq_digest_first (w : World) (K : Value → World → Prop) :
    sh Tryz.prog (Tryz.f60.body.getD .skip) (retS Tryz.prog Tryz.f60.results K) (env0 #[]) w = B_digest_first  w K := by kernel_rfl
theorem call_digest_first (w : World) (K : Value → World → Prop) (h : B_digest_first  w K) : CALL Tryz.prog 60 #[] w K :=
  call_of_eq (c := Tryz.f60.body.getD .skip) mixed Tryz.func60 (by kernel_rfl) (by kernel_rfl) (by kernel_rfl) (Nat.le_of_ble_eq_true (by kernel_rfl)) (eq_digest_first  w K) h
def B_digest_State_held (x0 : Value) (w : World) (K : Value → World → Prop) : Prop :=
  X Tryz.prog (nilS x0) w fun v1 w1 =>
  X Tryz.prog (Instr.fieldAt 139 v1 2) w1 fun v2 w2 =>
  X Tryz.prog (Instr.loadAt 37 v2) w2 fun v3 w3 =>
  X Tryz.prog (binOpG .eql 37 (.tmp 6) (.const (.int .u64 0)) v3 (.int .u64 0)) w3 fun v4 w4 =>
  condS v4 (
  K (.int .i64 0) w4) (
  X Tryz.prog (nilS x0) w4 fun v5 w5 =>
  X Tryz.prog (Instr.fieldAt 139 v5 2) w5 fun v6 w6 =>
  X Tryz.prog (Instr.loadAt 37 v6) w6 fun v7 w7 =>
  X Tryz.prog (binOp .sub 37 v7 (.int .u64 1)) w7 fun v8 w8 =>
  X Tryz.prog (binOp .rem 37 v8 (.int .u64 64)) w8 fun v9 w9 =>
  X Tryz.prog (convert 37 3 v9) w9 fun v10 w10 =>
  X Tryz.prog (binOp .add 3 v10 (.int .i64 1)) w10 fun v11 w11 =>
  K v11 w11)
theorem eq_digest_State_held (x0 : Value) (w : World) (K : Value → World → Prop) :
    sh Tryz.prog (Tryz.f61.body.getD .skip) (retS Tryz.prog Tryz.f61.results K) (env0 #[x0]) w = B_digest_State_held x0 w K := by kernel_rfl
theorem call_digest_State_held (x0 : Value) (w : World) (K : Value → World → Prop) (h : B_digest_State_held x0 w K) : CALL Tryz.prog 61 #[x0] w K :=
  call_of_eq (c := Tryz.f61.body.getD .skip) mixed Tryz.func61 (by kernel_rfl) (by kernel_rfl) (by kernel_rfl) (Nat.le_of_ble_eq_true (by kernel_rfl)) (eq_digest_State_held x0 w K) h
def B_digest_order (x0 : Value) (w : World) (K : Value → World → Prop) : Prop :=
  X Tryz.prog (Instr.build 200 #[(0, (.int .u64 81985529216486895)), (1, (.int .u64 16881918945140062035)), (2, (.int .u64 13312731748010193300)), (3, (.int .u64 8733003861693448440)), (4, (.int .u64 10400822202260547645)), (5, (.int .u64 3200383143768358425)), (6, (.int .u64 14204332651957162635)), (7, (.int .u64 15816291393287259690)), (8, (.int .u64 8064173457993569445)), (9, (.int .u64 11710614767857974480))]) w fun v1 w1 =>
  X Tryz.prog (Instr.index 200 v1 x0) w1 fun v2 w2 =>
  K v2 w2
theorem eq_digest_order (x0 : Value) (w : World) (K : Value → World → Prop) :
    sh Tryz.prog (Tryz.f84.body.getD .skip) (retS Tryz.prog Tryz.f84.results K) (env0 #[x0]) w = B_digest_order x0 w K := by kernel_rfl
theorem call_digest_order (x0 : Value) (w : World) (K : Value → World → Prop) (h : B_digest_order x0 w K) : CALL Tryz.prog 84 #[x0] w K :=
  call_of_eq (c := Tryz.f84.body.getD .skip) mixed Tryz.func84 (by kernel_rfl) (by kernel_rfl) (by kernel_rfl) (Nat.le_of_ble_eq_true (by kernel_rfl)) (eq_digest_order x0 w K) h
def B_digest_State_press_1 (x0 x1 : Value) (w : World) (K : Value → World → Prop) : Prop :=
  X Tryz.prog (Instr.loadAt 37 x1) w fun v1 w1 =>
  X Tryz.prog (binOp .shr 37 v1 (.int .u64 60)) w1 fun v2 w2 =>
  X Tryz.prog (Instr.indexAt 176 x0 v2) w2 fun v3 w3 =>
  X Tryz.prog (Instr.loadAt 31 v3) w3 fun v4 w4 =>
  X Tryz.prog (Instr.loadAt 37 x1) w4 fun v5 w5 =>
  X Tryz.prog (binOp .shl 37 v5 (.int .u64 4)) w5 fun v6 w6 =>
  XU Tryz.prog (Instr.storeAt 37 x1 v6) w6 fun w7 =>
  K v4 w7
theorem eq_digest_State_press_1 (x0 x1 : Value) (w : World) (K : Value → World → Prop) :
    sh Tryz.prog (Tryz.f85.body.getD .skip) (retS Tryz.prog Tryz.f85.results K) (env0 #[x0, x1]) w = B_digest_State_press_1 x0 x1 w K := by kernel_rfl
theorem call_digest_State_press_1 (x0 x1 : Value) (w : World) (K : Value → World → Prop) (h : B_digest_State_press_1 x0 x1 w K) : CALL Tryz.prog 85 #[x0, x1] w K :=
  call_of_eq (c := Tryz.f85.body.getD .skip) mixed Tryz.func85 (by kernel_rfl) (by kernel_rfl) (by kernel_rfl) (Nat.le_of_ble_eq_true (by kernel_rfl)) (eq_digest_State_press_1 x0 x1 w K) h
def B_digest_quarter (x0 x1 x2 x3 x4 x5 : Value) (w : World) (K : Value → World → Prop) : Prop :=
  X Tryz.prog (binOp .add 31 x1 x4) w fun v1 w1 =>
  X Tryz.prog (binOp .add 31 x0 v1) w1 fun v2 w2 =>
  X Tryz.prog (binOp .xor 31 x3 v2) w2 fun v3 w3 =>
  CALL Tryz.prog 108 #[v3, (.int .i64 (-16))] w3 fun v4 w4 =>
  X Tryz.prog (binOp .add 31 x2 v4) w4 fun v5 w5 =>
  X Tryz.prog (binOp .xor 31 x1 v5) w5 fun v6 w6 =>
  CALL Tryz.prog 108 #[v6, (.int .i64 (-12))] w6 fun v7 w7 =>
  X Tryz.prog (binOp .add 31 v7 x5) w7 fun v8 w8 =>
  X Tryz.prog (binOp .add 31 v2 v8) w8 fun v9 w9 =>
  X Tryz.prog (binOp .xor 31 v4 v9) w9 fun v10 w10 =>
  CALL Tryz.prog 108 #[v10, (.int .i64 (-8))] w10 fun v11 w11 =>
  X Tryz.prog (binOp .add 31 v5 v11) w11 fun v12 w12 =>
  X Tryz.prog (binOp .xor 31 v7 v12) w12 fun v13 w13 =>
  CALL Tryz.prog 108 #[v13, (.int .i64 (-7))] w13 fun v14 w14 =>
  K (.tuple #[v9, v14, v12, v11]) w14
theorem eq_digest_quarter (x0 x1 x2 x3 x4 x5 : Value) (w : World) (K : Value → World → Prop) :
    sh Tryz.prog (Tryz.f86.body.getD .skip) (retS Tryz.prog Tryz.f86.results K) (env0 #[x0, x1, x2, x3, x4, x5]) w = B_digest_quarter x0 x1 x2 x3 x4 x5 w K := by kernel_rfl
theorem call_digest_quarter (x0 x1 x2 x3 x4 x5 : Value) (w : World) (K : Value → World → Prop) (h : B_digest_quarter x0 x1 x2 x3 x4 x5 w K) : CALL Tryz.prog 86 #[x0, x1, x2, x3, x4, x5] w K :=
  call_of_eq (c := Tryz.f86.body.getD .skip) mixed Tryz.func86 (by kernel_rfl) (by kernel_rfl) (by kernel_rfl) (Nat.le_of_ble_eq_true (by kernel_rfl)) (eq_digest_quarter x0 x1 x2 x3 x4 x5 w K) h
def B_math_bits_RotateLeft32 (x0 x1 : Value) (w : World) (K : Value → World → Prop) : Prop :=
  X Tryz.prog (convert 3 118 x1) w fun v1 w1 =>
  X Tryz.prog (binOp .and 118 v1 (.int .u64 31)) w1 fun v2 w2 =>
  X Tryz.prog (binOp .shl 31 x0 v2) w2 fun v3 w3 =>
  X Tryz.prog (binOp .sub 118 (.int .u64 32) v2) w3 fun v4 w4 =>
  X Tryz.prog (binOp .shr 31 x0 v4) w4 fun v5 w5 =>
  X Tryz.prog (binOp .or 31 v3 v5) w5 fun v6 w6 =>
  K v6 w6
theorem eq_math_bits_RotateLeft32 (x0 x1 : Value) (w : World) (K : Value → World → Prop) :
    sh Tryz.prog (Tryz.f108.body.getD .skip) (retS Tryz.prog Tryz.f108.results K) (env0 #[x0, x1]) w = B_math_bits_RotateLeft32 x0 x1 w K := by kernel_rfl
theorem call_math_bits_RotateLeft32 (x0 x1 : Value) (w : World) (K : Value → World → Prop) (h : B_math_bits_RotateLeft32 x0 x1 w K) : CALL Tryz.prog 108 #[x0, x1] w K :=
  call_of_eq (c := Tryz.f108.body.getD .skip) mixed Tryz.func108 (by kernel_rfl) (by kernel_rfl) (by kernel_rfl) (Nat.le_of_ble_eq_true (by kernel_rfl)) (eq_math_bits_RotateLeft32 x0 x1 w K) h
end Go.Proofs.YtcigpjejbkngfaaGreatDoor
end
section
set_option maxRecDepth 8000
namespace Go.Sh
open Go Go.Proofs.YtcigpjejbkngfaaGreatDoor
abbrev W64 := BitVec 64
def U64 (c : W64) : Value := .int .u64 ((c.toNat : Nat) : Int)
section
variable {P : Program}
theorem u32_add (T : TypeId) (a b : W32) (w : World) : (binOp .add T (U32 a) (U32 b)).run P w = .ok (U32 (a + b)) w := by
  unfold U32
  rw [run_add, wrap_u32, BitVec.toNat_add]
  congr 2
theorem u32_or (T : TypeId) (a b : W32) (w : World) : (binOp .or T (U32 a) (U32 b)).run P w = .ok (U32 (a ||| b)) w := by
  unfold U32
  rw [run_or (k := .u32) rfl T a.toNat b.toNat a.isLt b.isLt w, BitVec.toNat_or]
theorem run_and {k : IntKind} (T : TypeId) (x y : Nat) (hx : x < 2 ^ k.bits) (hy : y < 2 ^ k.bits) (h2 : k.wrap ((x &&& y : Nat) : Int) = ((x &&& y : Nat) : Int)) (w : World) : (binOp .and T (.int k (x : Int)) (.int k (y : Int))).run P w = .ok (.int k ((x &&& y : Nat) : Int)) w := by
  simp [binOp, Op.intBits, Nat.mod_eq_of_lt hx, Nat.mod_eq_of_lt hy, h2]
theorem and_3 (T : TypeId) (x : Nat) (hx : x < 1000) (w : World) : (binOp .and T (.int .i64 (x : Int)) (.int .i64 3)).run P w = .ok (.int .i64 ((x % 4 : Nat) : Int)) w := by
  have e : x &&& 3 = x % 4 := Nat.and_two_pow_sub_one_eq_mod x 2
  have := run_and (P := P) (k := .i64) T x 3 (by show x < 2 ^ 64; omega) (by decide) (by rw [e, w64 (by omega) (by omega)]) w
  rw [e] at this
  exact this
theorem u64_shl (T : TypeId) (k : IntKind) (c : W64) (n : Nat) (hn : n ≤ 64) (w : World) : (binOp .shl T (U64 c) (.int k (n : Int))).run P w = .ok (U64 (c <<< n)) w := by
  unfold U64
  rw [run_shl _ _ (by omega) w, BitVec.toNat_shiftLeft, Nat.shiftLeft_eq]
  have e1 : min ((n : Int).toNat) IntKind.u64.bits = n := by show min _ 64 = _; omega
  rw [e1, wrap_u64]
  congr 2
theorem u64_shr (T : TypeId) (k : IntKind) (c : W64) (n : Nat) (hn : n ≤ 64) (w : World) : (binOp .shr T (U64 c) (.int k (n : Int))).run P w = .ok (U64 (c >>> n)) w := by
  unfold U64
  rw [run_shr _ _ (by omega) w, BitVec.toNat_ushiftRight, Nat.shiftRight_eq_div_pow]
  have e1 : min ((n : Int).toNat) IntKind.u64.bits = n := by show min _ 64 = _; omega
  rw [e1, fdiv_pow]
end
def rotW (c : W32) (s : Nat) : W32 := (c <<< s) ||| (c >>> (32 - s))
def quart (a b c d x y : W32) : W32 × W32 × W32 × W32 :=
  let a1 := a + (b + x)
  let d1 := rotW (d ^^^ a1) 16
  let c1 := c + d1
  let b1 := rotW (b ^^^ c1) 20
  let a2 := a1 + (b1 + y)
  let d2 := rotW (d1 ^^^ a2) 24
  let c2 := c1 + d2
  let b2 := rotW (b1 ^^^ c2) 25
  (a2, b2, c2, d2)
def UL (l : List W32) : List Value := l.map U32
theorem UL_len (l : List W32) : (UL l).length = l.length := List.length_map ..
theorem UL_get (l : List W32) (i : Nat) (h : i < l.length) : (UL l)[i]? = some (U32 (l.getD i 0)) := by
  unfold UL
  rw [List.getElem?_map, List.getElem?_eq_getElem h]
  simp [List.getD_eq_getElem?_getD, h]
theorem UL_set (l : List W32) (i : Nat) (c : W32) : (UL l).toArray.setIfInBounds i (U32 c) = (UL (l.set i c)).toArray := by
  unfold UL
  rw [List.map_set]
  simp
theorem UL_one (l : List W32) : ∀ v ∈ UL l, v.oneCell' = true := by
  intro v hv
  obtain ⟨c, _, rfl⟩ := List.mem_map.1 hv
  rfl
end Go.Sh
namespace Go.Proofs.YtcigpjejbkngfaaGreatDoor
open Go Go.Sh Go.RowKit
attribute [local irreducible] X XU XP XR CALL loopS resC closS
theorem ix135 (b o i : Nat) (k : IntKind) (h : i < 8) (w : World) : (Instr.indexAt 135 (.pointer (some ⟨b, o, none⟩)) (.int k (i : Int))).run Tryz.prog w = .ok (.pointer (some ⟨b, o + i, none⟩)) w := by
  rw [ix_arr Tryz.underlying135 info_31 i rfl h w, sz_31, Nat.mul_one, add_plain]
theorem ix176 (b o i : Nat) (k : IntKind) (h : i < 16) (w : World) : (Instr.indexAt 176 (.pointer (some ⟨b, o, none⟩)) (.int k (i : Int))).run Tryz.prog w = .ok (.pointer (some ⟨b, o + i, none⟩)) w := by
  rw [ix_arr Tryz.underlying176 info_31 i rfl h w, sz_31, Nat.mul_one, add_plain]
section
variable {w : World} {K : Value → World → Prop}
theorem rot_spec {c : W32} {m : Int} {s : Nat} (hs : s < 32) (h0 : 0 < s) (hm : IntKind.u64.wrap m = ((s + 18446744073709551584 : Nat) : Int)) (hK : K (U32 (rotW c s)) w) : CALL Tryz.prog 108 #[U32 c, .int .i64 m] w K := by
  apply call_math_bits_RotateLeft32
  unfold B_math_bits_RotateLeft32
  rw [X_conv_3_118, hm]
  have ea : (binOp .and 118 (.int .u64 ((s + 18446744073709551584 : Nat) : Int)) (.int .u64 31)).run Tryz.prog w = .ok (.int .u64 (s : Int)) w := by
    have e : (s + 18446744073709551584) &&& 31 = s := by
      have := Nat.and_two_pow_sub_one_eq_mod (s + 18446744073709551584) 5
      rw [show (31 : Nat) = 2 ^ 5 - 1 from rfl, this]
      omega
    have := run_and (P := Tryz.prog) (k := .u64) 118 (s + 18446744073709551584) 31 (by show _ < 2 ^ 64; omega) (by decide) (by rw [e, wrap_u64]; omega) w
    rw [e] at this
    exact this
  refine X_of ea ?_
  refine X_of (u32_shl 31 .u64 c s (by omega) w) ?_
  have es : (binOp .sub 118 (.int .u64 32) (.int .u64 (s : Int))).run Tryz.prog w = .ok (.int .u64 ((32 - s : Nat) : Int)) w := by
    rw [run_sub, wrap_u64]
    congr 2
    omega
  refine X_of es ?_
  refine X_of (u32_shr 31 .u64 c (32 - s) (by omega) w) ?_
  refine X_of (u32_or 31 _ _ w) ?_
  exact hK
theorem quart_spec {a b c d x y : W32} (hK : ∀ q, q = quart a b c d x y → K (.tuple #[U32 q.1, U32 q.2.1, U32 q.2.2.1, U32 q.2.2.2]) w) : CALL Tryz.prog 86 #[U32 a, U32 b, U32 c, U32 d, U32 x, U32 y] w K := by
  apply call_digest_quarter
  unfold B_digest_quarter
  refine X_of (u32_add 31 _ _ w) ?_
  refine X_of (u32_add 31 _ _ w) ?_
  refine X_of (u32_xor 31 _ _ w) ?_
  refine rot_spec (s := 16) (by decide) (by decide) rfl ?_
  refine X_of (u32_add 31 _ _ w) ?_
  refine X_of (u32_xor 31 _ _ w) ?_
  refine rot_spec (s := 20) (by decide) (by decide) rfl ?_
  refine X_of (u32_add 31 _ _ w) ?_
  refine X_of (u32_add 31 _ _ w) ?_
  refine X_of (u32_xor 31 _ _ w) ?_
  refine rot_spec (s := 24) (by decide) (by decide) rfl ?_
  refine X_of (u32_add 31 _ _ w) ?_
  refine X_of (u32_xor 31 _ _ w) ?_
  refine rot_spec (s := 25) (by decide) (by decide) rfl ?_
  exact hK _ rfl
end
end Go.Proofs.YtcigpjejbkngfaaGreatDoor
end
section
namespace Go.Proofs.YtcigpjejbkngfaaGreatDoor
open Go Go.Sh
attribute [local irreducible] X XU XP XR CALL loopS resC closS
def B_digest_State_press (x0 x1 : Value) (w : World) (K : Value → World → Prop) : Prop :=
  X Tryz.prog (Instr.alloc 176 true (.tuple #[])) w fun v1 w1 =>
  X Tryz.prog (nilS x0) w1 fun v2 w2 =>
  X Tryz.prog (Instr.fieldAt 139 v2 1) w2 fun v3 w3 =>
  X Tryz.prog (Instr.loadAt 137 v3) w3 fun v4 w4 =>
  loopS (fun Q1 ρ1 w5 =>
  X Tryz.prog (binOp .lss 3 (ρ1 26) (.int .i64 64)) w5 fun v5 w6 =>
  condS v5 (
  X Tryz.prog (Instr.index 137 (ρ1 25) (ρ1 26)) w6 fun v6 w7 =>
  ∃ R, Frame? R ∧
  XP Tryz.prog (binOp .shr 3 (ρ1 26) (.int .u64 2)) (drewW w7) fun v7 w8 =>
  XP Tryz.prog (Instr.indexAt 176 (ρ1 4) v7) w8 fun v8 w9 =>
  XR Tryz.prog R (Instr.loadAt 31 v8) w9 fun v9 w10 =>
  XR Tryz.prog R (convert 5 31 v6) w10 fun v10 w11 =>
  XP Tryz.prog (binOp .and 3 (ρ1 26) (.int .i64 3)) w11 fun v11 w12 =>
  XP Tryz.prog (binOp .mul 3 (.int .i64 8) v11) w12 fun v12 w13 =>
  XP Tryz.prog (binOp .shl 31 v10 v12) w13 fun v13 w14 =>
  XP Tryz.prog (binOp .or 31 v9 v13) w14 fun v14 w15 =>
  XP Tryz.prog (Instr.indexAt 176 (ρ1 4) v7) w15 fun v15 w16 =>
  XU Tryz.prog (Instr.storeAt 31 v15 v14) w16 fun w17 =>
  X Tryz.prog (binOp .add 3 (ρ1 26) (.int .i64 1)) w17 fun v16 w18 =>
  Q1 .normal (upds ρ1 [(26, v16), (42, v16), (41, v15), (40, v14), (39, v13), (38, v12), (37, v11), (36, (ρ1 26)), (35, v10), (34, v6), (33, v9), (32, v8), (31, v7), (30, (ρ1 26)), (6, v6), (5, (ρ1 26)), (29, v6), (28, (ρ1 26)), (27, v5)]) w18) (
  Q1 (.exit 0) (upds ρ1 [(27, v5)]) w6)) (inBlockS 0 (thenS (fun ρ2 w19 =>
  joinS (fun ρ3 w20 =>
  ∃ R, Frame? R ∧
  XP Tryz.prog (Instr.indexAt 135 (ρ3 8) (.int .i64 4)) (drewW w20) fun v17 w21 =>
  XR Tryz.prog R (Instr.loadAt 31 v17) w21 fun v18 w22 =>
  XP Tryz.prog (nilS (ρ3 0)) w22 fun v19 w23 =>
  XP Tryz.prog (Instr.fieldAt 139 v19 2) w23 fun v20 w24 =>
  XR Tryz.prog R (Instr.loadAt 37 v20) w24 fun v21 w25 =>
  XR Tryz.prog R (convert 37 31 v21) w25 fun v22 w26 =>
  XP Tryz.prog (binOp .xor 31 v18 v22) w26 fun v23 w27 =>
  XP Tryz.prog (Instr.indexAt 135 (ρ3 8) (.int .i64 4)) w27 fun v24 w28 =>
  XU Tryz.prog (Instr.storeAt 31 v24 v23) w28 fun w29 =>
  ∃ R, Frame? R ∧
  XP Tryz.prog (Instr.indexAt 135 (ρ3 8) (.int .i64 5)) (drewW w29) fun v25 w30 =>
  XR Tryz.prog R (Instr.loadAt 31 v25) w30 fun v26 w31 =>
  XP Tryz.prog (nilS (ρ3 0)) w31 fun v27 w32 =>
  XP Tryz.prog (Instr.fieldAt 139 v27 2) w32 fun v28 w33 =>
  XR Tryz.prog R (Instr.loadAt 37 v28) w33 fun v29 w34 =>
  XP Tryz.prog (binOp .shr 37 v29 (.int .u64 32)) w34 fun v30 w35 =>
  XR Tryz.prog R (convert 37 31 v30) w35 fun v31 w36 =>
  XP Tryz.prog (binOp .xor 31 v26 v31) w36 fun v32 w37 =>
  XP Tryz.prog (Instr.indexAt 135 (ρ3 8) (.int .i64 5)) w37 fun v33 w38 =>
  XU Tryz.prog (Instr.storeAt 31 v33 v32) w38 fun w39 =>
  joinS (fun ρ4 w40 =>
  loopS (fun Q5 ρ5 w41 =>
  X Tryz.prog (binOp .lss 3 (ρ5 72) (.int .i64 10)) w41 fun v34 w42 =>
  condS v34 (
  CALL Tryz.prog 84 #[(ρ5 72)] w42 fun v35 w43 =>
  X Tryz.prog (Instr.alloc 37 true (.tuple #[])) w43 fun v36 w44 =>
  XU Tryz.prog (Instr.storeAt 37 v36 v35) w44 fun w45 =>
  X Tryz.prog (Instr.makeFunc (.func 85) #[] #[(ρ5 4), v36]) w45 fun v37 w46 =>
  loopS (fun Q6 ρ6 w47 =>
  X Tryz.prog (binOp .lss 3 (ρ6 78) (.int .i64 4)) w47 fun v38 w48 =>
  condS v38 (
  closS Tryz.prog (ρ6 11) #[] w48 fun v39 w49 =>
  closS Tryz.prog (ρ6 11) #[] w49 fun v40 w50 =>
  ∃ R, Frame? R ∧
  XP Tryz.prog (binOp .add 3 (ρ6 78) (.int .i64 4)) (drewW w50) fun v41 w51 =>
  XP Tryz.prog (binOp .add 3 (ρ6 78) (.int .i64 4)) w51 fun v42 w52 =>
  XP Tryz.prog (Instr.indexAt 135 (ρ6 7) (ρ6 78)) w52 fun v43 w53 =>
  XR Tryz.prog R (Instr.loadAt 31 v43) w53 fun v44 w54 =>
  XP Tryz.prog (binOp .add 3 (ρ6 78) (.int .i64 4)) w54 fun v45 w55 =>
  XP Tryz.prog (Instr.indexAt 135 (ρ6 7) v45) w55 fun v46 w56 =>
  XR Tryz.prog R (Instr.loadAt 31 v46) w56 fun v47 w57 =>
  XP Tryz.prog (Instr.indexAt 135 (ρ6 8) (ρ6 78)) w57 fun v48 w58 =>
  XR Tryz.prog R (Instr.loadAt 31 v48) w58 fun v49 w59 =>
  XP Tryz.prog (binOp .add 3 (ρ6 78) (.int .i64 4)) w59 fun v50 w60 =>
  XP Tryz.prog (Instr.indexAt 135 (ρ6 8) v50) w60 fun v51 w61 =>
  XR Tryz.prog R (Instr.loadAt 31 v51) w61 fun v52 w62 =>
  CALL Tryz.prog 86 #[v44, v47, v49, v52, v39, v40] w62 fun v53 w63 =>
  XP Tryz.prog (Instr.extract v53 0) w63 fun v54 w64 =>
  XP Tryz.prog (Instr.extract v53 1) w64 fun v55 w65 =>
  XP Tryz.prog (Instr.extract v53 2) w65 fun v56 w66 =>
  XP Tryz.prog (Instr.extract v53 3) w66 fun v57 w67 =>
  XP Tryz.prog (Instr.indexAt 135 (ρ6 7) (ρ6 78)) w67 fun v58 w68 =>
  XU Tryz.prog (Instr.storeAt 31 v58 v54) w68 fun w69 =>
  XP Tryz.prog (Instr.indexAt 135 (ρ6 7) v41) w69 fun v59 w70 =>
  XU Tryz.prog (Instr.storeAt 31 v59 v55) w70 fun w71 =>
  XP Tryz.prog (Instr.indexAt 135 (ρ6 8) (ρ6 78)) w71 fun v60 w72 =>
  XU Tryz.prog (Instr.storeAt 31 v60 v56) w72 fun w73 =>
  XP Tryz.prog (Instr.indexAt 135 (ρ6 8) v42) w73 fun v61 w74 =>
  XU Tryz.prog (Instr.storeAt 31 v61 v57) w74 fun w75 =>
  X Tryz.prog (binOp .add 3 (ρ6 78) (.int .i64 1)) w75 fun v62 w76 =>
  Q6 .normal (upds ρ6 [(78, v62), (117, v62), (116, v61), (115, v60), (114, v59), (113, v58), (112, v57), (111, v56), (110, v55), (109, v54), (85, v53), (108, v53), (107, v40), (106, v39), (105, v52), (104, v51), (103, v50), (102, (ρ6 78)), (101, v49), (100, v48), (99, (ρ6 78)), (98, v47), (97, v46), (96, v45), (95, (ρ6 78)), (94, v44), (93, v43), (92, (ρ6 78)), (91, v42), (90, (ρ6 78)), (89, (ρ6 78)), (88, v41), (87, (ρ6 78)), (86, (ρ6 78)), (14, v40), (13, v39), (84, v40), (83, (ρ6 11)), (82, v39), (81, (ρ6 11)), (12, (ρ6 78)), (80, (ρ6 78)), (79, v38)]) w76) (
  Q6 (.exit 4) (upds ρ6 [(79, v38)]) w48)) (inBlockS 4 (thenS (fun ρ7 w77 =>
  loopS (fun Q8 ρ8 w78 =>
  X Tryz.prog (binOp .lss 3 (ρ8 118) (.int .i64 4)) w78 fun v63 w79 =>
  condS v63 (
  X Tryz.prog (binOp .add 3 (ρ8 118) (.int .i64 1)) w79 fun v64 w80 =>
  X Tryz.prog (binOp .rem 3 v64 (.int .i64 4)) w80 fun v65 w81 =>
  X Tryz.prog (binOp .add 3 (.int .i64 4) v65) w81 fun v66 w82 =>
  X Tryz.prog (binOp .add 3 (ρ8 118) (.int .i64 2)) w82 fun v67 w83 =>
  X Tryz.prog (binOp .rem 3 v67 (.int .i64 4)) w83 fun v68 w84 =>
  X Tryz.prog (binOp .add 3 (ρ8 118) (.int .i64 3)) w84 fun v69 w85 =>
  X Tryz.prog (binOp .rem 3 v69 (.int .i64 4)) w85 fun v70 w86 =>
  X Tryz.prog (binOp .add 3 (.int .i64 4) v70) w86 fun v71 w87 =>
  closS Tryz.prog (ρ8 11) #[] w87 fun v72 w88 =>
  closS Tryz.prog (ρ8 11) #[] w88 fun v73 w89 =>
  ∃ R, Frame? R ∧
  XP Tryz.prog (Instr.indexAt 135 (ρ8 7) (ρ8 118)) (drewW w89) fun v74 w90 =>
  XR Tryz.prog R (Instr.loadAt 31 v74) w90 fun v75 w91 =>
  XP Tryz.prog (Instr.indexAt 135 (ρ8 7) v66) w91 fun v76 w92 =>
  XR Tryz.prog R (Instr.loadAt 31 v76) w92 fun v77 w93 =>
  XP Tryz.prog (Instr.indexAt 135 (ρ8 8) v68) w93 fun v78 w94 =>
  XR Tryz.prog R (Instr.loadAt 31 v78) w94 fun v79 w95 =>
  XP Tryz.prog (Instr.indexAt 135 (ρ8 8) v71) w95 fun v80 w96 =>
  XR Tryz.prog R (Instr.loadAt 31 v80) w96 fun v81 w97 =>
  CALL Tryz.prog 86 #[v75, v77, v79, v81, v72, v73] w97 fun v82 w98 =>
  XP Tryz.prog (Instr.extract v82 0) w98 fun v83 w99 =>
  XP Tryz.prog (Instr.extract v82 1) w99 fun v84 w100 =>
  XP Tryz.prog (Instr.extract v82 2) w100 fun v85 w101 =>
  XP Tryz.prog (Instr.extract v82 3) w101 fun v86 w102 =>
  XP Tryz.prog (Instr.indexAt 135 (ρ8 7) (ρ8 118)) w102 fun v87 w103 =>
  XU Tryz.prog (Instr.storeAt 31 v87 v83) w103 fun w104 =>
  XP Tryz.prog (Instr.indexAt 135 (ρ8 7) v66) w104 fun v88 w105 =>
  XU Tryz.prog (Instr.storeAt 31 v88 v84) w105 fun w106 =>
  XP Tryz.prog (Instr.indexAt 135 (ρ8 8) v68) w106 fun v89 w107 =>
  XU Tryz.prog (Instr.storeAt 31 v89 v85) w107 fun w108 =>
  XP Tryz.prog (Instr.indexAt 135 (ρ8 8) v71) w108 fun v90 w109 =>
  XU Tryz.prog (Instr.storeAt 31 v90 v86) w109 fun w110 =>
  X Tryz.prog (binOp .add 3 (ρ8 118) (.int .i64 1)) w110 fun v91 w111 =>
  Q8 .normal (upds ρ8 [(118, v91), (164, v91), (163, v90), (162, v89), (161, v88), (160, v87), (159, v86), (158, v85), (157, v84), (156, v83), (136, v82), (155, v82), (154, v73), (153, v72), (152, v81), (151, v80), (150, v71), (149, v79), (148, v78), (147, v68), (146, v77), (145, v76), (144, v66), (143, v75), (142, v74), (141, (ρ8 118)), (140, v71), (139, v68), (138, v66), (137, (ρ8 118)), (20, v73), (19, v72), (135, v73), (134, (ρ8 11)), (133, v72), (132, (ρ8 11)), (18, v71), (17, v68), (16, v66), (131, v71), (130, v70), (129, v69), (128, (ρ8 118)), (127, v68), (126, v67), (125, (ρ8 118)), (124, v66), (123, v65), (122, v64), (121, (ρ8 118)), (15, (ρ8 118)), (120, (ρ8 118)), (119, v63)]) w111) (
  Q8 (.exit 6) (upds ρ8 [(119, v63)]) w79)) (inBlockS 6 (inBlockS 3 (thenS (fun ρ9 w112 =>
  X Tryz.prog (binOp .add 3 (ρ9 72) (.int .i64 1)) w112 fun v92 w113 =>
  Q5 .normal (upds ρ9 [(72, v92), (165, v92)]) w113) Q5))) (upds ρ7 [(118, (.int .i64 0))]) w77) (inBlockS 3 (thenS (fun ρ10 w114 =>
  X Tryz.prog (binOp .add 3 (ρ10 72) (.int .i64 1)) w114 fun v93 w115 =>
  Q5 .normal (upds ρ10 [(72, v93), (165, v93)]) w115) Q5)))) (upds ρ5 [(78, (.int .i64 0)), (11, v37), (77, v37), (10, v36), (76, v35), (75, (ρ5 72)), (9, (ρ5 72)), (74, (ρ5 72)), (73, v34)]) w46) (
  Q5 (.exit 2) (upds ρ5 [(73, v34)]) w42)) (inBlockS 2 (thenS (fun ρ11 w116 =>
  loopS (fun Q12 ρ12 w117 =>
  X Tryz.prog (binOp .lss 3 (ρ12 166) (.int .i64 8)) w117 fun v94 w118 =>
  condS v94 (
  ∃ R, Frame? R ∧
  XP Tryz.prog (nilS (ρ12 0)) (drewW w118) fun v95 w119 =>
  XP Tryz.prog (Instr.fieldAt 139 v95 0) w119 fun v96 w120 =>
  XP Tryz.prog (Instr.indexAt 135 v96 (ρ12 166)) w120 fun v97 w121 =>
  XR Tryz.prog R (Instr.loadAt 31 v97) w121 fun v98 w122 =>
  XP Tryz.prog (Instr.indexAt 135 (ρ12 7) (ρ12 166)) w122 fun v99 w123 =>
  XR Tryz.prog R (Instr.loadAt 31 v99) w123 fun v100 w124 =>
  XP Tryz.prog (Instr.indexAt 135 (ρ12 8) (ρ12 166)) w124 fun v101 w125 =>
  XR Tryz.prog R (Instr.loadAt 31 v101) w125 fun v102 w126 =>
  XP Tryz.prog (binOp .xor 31 v100 v102) w126 fun v103 w127 =>
  XP Tryz.prog (binOp .xor 31 v98 v103) w127 fun v104 w128 =>
  XP Tryz.prog (nilS (ρ12 0)) w128 fun v105 w129 =>
  XP Tryz.prog (Instr.fieldAt 139 v105 0) w129 fun v106 w130 =>
  XP Tryz.prog (Instr.indexAt 135 v106 (ρ12 166)) w130 fun v107 w131 =>
  XU Tryz.prog (Instr.storeAt 31 v107 v104) w131 fun w132 =>
  X Tryz.prog (binOp .add 3 (ρ12 166) (.int .i64 1)) w132 fun v108 w133 =>
  Q12 .normal (upds ρ12 [(166, v108), (186, v108), (185, v107), (184, v106), (183, v105), (182, v104), (181, v103), (180, v102), (179, v101), (178, (ρ12 166)), (177, v100), (176, v99), (175, (ρ12 166)), (174, v98), (173, v97), (172, v96), (171, v95), (170, (ρ12 166)), (169, (ρ12 0)), (21, (ρ12 166)), (168, (ρ12 166)), (167, v94)]) w133) (
  Q12 (.exit 8) (upds ρ12 [(167, v94)]) w118)) (inBlockS 8 (retS Tryz.prog (Tryz.f62).results K)) (upds ρ11 [(166, (.int .i64 0))]) w116) (retS Tryz.prog (Tryz.f62).results K))) (upds ρ4 [(72, (.int .i64 0))]) w40) fun J4 =>
  condS (ρ3 1) (
  X Tryz.prog (Instr.indexAt 135 (ρ3 8) (.int .i64 6)) w39 fun v109 w134 =>
  X Tryz.prog (Instr.loadAt 31 v109) w134 fun v110 w135 =>
  X Tryz.prog (Op.unary .xor v110) w135 fun v111 w136 =>
  X Tryz.prog (Instr.indexAt 135 (ρ3 8) (.int .i64 6)) w136 fun v112 w137 =>
  XU Tryz.prog (Instr.storeAt 31 v112 v111) w137 fun w138 =>
  J4 (upds ρ3 [(71, v112), (70, v111), (69, v110), (68, v109), (67, (ρ3 1)), (66, v33), (65, v32), (64, v31), (63, v30), (62, v29), (61, v28), (60, v27), (59, (ρ3 0)), (58, v26), (57, v25), (56, v24), (55, v23), (54, v22), (53, v21), (52, v20), (51, v19), (50, (ρ3 0)), (49, v18), (48, v17)]) w138) (
  J4 (upds ρ3 [(67, (ρ3 1)), (66, v33), (65, v32), (64, v31), (63, v30), (62, v29), (61, v28), (60, v27), (59, (ρ3 0)), (58, v26), (57, v25), (56, v24), (55, v23), (54, v22), (53, v21), (52, v20), (51, v19), (50, (ρ3 0)), (49, v18), (48, v17)]) w39)) fun J3 =>
  ∃ R, Frame? R ∧
  XP Tryz.prog (nilS (ρ2 0)) (drewW w19) fun v113 w139 =>
  XP Tryz.prog (Instr.fieldAt 139 v113 0) w139 fun v114 w140 =>
  XR Tryz.prog R (Instr.loadAt 135 v114) w140 fun v115 w141 =>
  (CALL Tryz.prog 60 #[] w141 fun v116 w142 =>
  R w141 w142 ∧
  (X Tryz.prog (Instr.alloc 135 true (.tuple #[])) w142 fun v117 w143 =>
  R w142 w143 ∧
  X Tryz.prog (Instr.alloc 135 true (.tuple #[])) w143 fun v118 w144 =>
  R w143 w144 ∧
  XU Tryz.prog (Instr.storeAt 135 v117 v115) w144 fun w145 =>
  XU Tryz.prog (Instr.storeAt 135 v118 v116) w145 fun w146 =>
  J3 (upds ρ2 [(8, v118), (7, v117), (47, v116), (46, v115), (45, v114), (44, v113), (43, (ρ2 0))]) w146) ∧
  (X Tryz.prog (Instr.alloc 135 true (.tuple #[])) w142 fun v119 w147 =>
  R w142 w147 ∧
  X Tryz.prog (Instr.alloc 135 true (.tuple #[])) w147 fun v120 w148 =>
  R w147 w148 ∧
  XU Tryz.prog (Instr.storeAt 135 v120 v115) w148 fun w149 =>
  XU Tryz.prog (Instr.storeAt 135 v119 v116) w149 fun w150 =>
  J3 (upds ρ2 [(7, v120), (8, v119), (47, v116), (46, v115), (45, v114), (44, v113), (43, (ρ2 0))]) w150)) ∧
  (X Tryz.prog (Instr.alloc 135 true (.tuple #[])) w141 fun v121 w151 =>
  R w141 w151 ∧
  (CALL Tryz.prog 60 #[] w151 fun v122 w152 =>
  R w151 w152 ∧
  X Tryz.prog (Instr.alloc 135 true (.tuple #[])) w152 fun v123 w153 =>
  R w152 w153 ∧
  XU Tryz.prog (Instr.storeAt 135 v121 v115) w153 fun w154 =>
  XU Tryz.prog (Instr.storeAt 135 v123 v122) w154 fun w155 =>
  J3 (upds ρ2 [(8, v123), (47, v122), (7, v121), (46, v115), (45, v114), (44, v113), (43, (ρ2 0))]) w155) ∧
  (X Tryz.prog (Instr.alloc 135 true (.tuple #[])) w151 fun v124 w156 =>
  R w151 w156 ∧
  CALL Tryz.prog 60 #[] w156 fun v125 w157 =>
  R w156 w157 ∧
  XU Tryz.prog (Instr.storeAt 135 v121 v115) w157 fun w158 =>
  XU Tryz.prog (Instr.storeAt 135 v124 v125) w158 fun w159 =>
  J3 (upds ρ2 [(47, v125), (8, v124), (7, v121), (46, v115), (45, v114), (44, v113), (43, (ρ2 0))]) w159)) ∧
  (X Tryz.prog (Instr.alloc 135 true (.tuple #[])) w141 fun v126 w160 =>
  R w141 w160 ∧
  (CALL Tryz.prog 60 #[] w160 fun v127 w161 =>
  R w160 w161 ∧
  X Tryz.prog (Instr.alloc 135 true (.tuple #[])) w161 fun v128 w162 =>
  R w161 w162 ∧
  XU Tryz.prog (Instr.storeAt 135 v128 v115) w162 fun w163 =>
  XU Tryz.prog (Instr.storeAt 135 v126 v127) w163 fun w164 =>
  J3 (upds ρ2 [(7, v128), (47, v127), (8, v126), (46, v115), (45, v114), (44, v113), (43, (ρ2 0))]) w164) ∧
  (X Tryz.prog (Instr.alloc 135 true (.tuple #[])) w160 fun v129 w165 =>
  R w160 w165 ∧
  CALL Tryz.prog 60 #[] w165 fun v130 w166 =>
  R w165 w166 ∧
  XU Tryz.prog (Instr.storeAt 135 v129 v115) w166 fun w167 =>
  XU Tryz.prog (Instr.storeAt 135 v126 v130) w167 fun w168 =>
  J3 (upds ρ2 [(47, v130), (7, v129), (8, v126), (46, v115), (45, v114), (44, v113), (43, (ρ2 0))]) w168))) (retS Tryz.prog (Tryz.f62).results K))) (upds (env0 #[x0, x1]) [(26, (.int .i64 0)), (25, v4), (24, v3), (23, v2), (22, x0), (4, v1)]) w4
theorem eq_digest_State_press (x0 x1 : Value) (w : World) (K : Value → World → Prop) :
    sh Tryz.prog (Tryz.f62.body.getD .skip) (retS Tryz.prog Tryz.f62.results K) (env0 #[x0, x1]) w = B_digest_State_press x0 x1 w K := by kernel_rfl
theorem call_digest_State_press (x0 x1 : Value) (w : World) (K : Value → World → Prop) (h : B_digest_State_press x0 x1 w K) : CALL Tryz.prog 62 #[x0, x1] w K :=
  call_of_eq (c := Tryz.f62.body.getD .skip) mixed Tryz.func62 (by kernel_rfl) (by kernel_rfl) (by kernel_rfl) (Nat.le_of_ble_eq_true (by kernel_rfl)) (eq_digest_State_press x0 x1 w K) h
end Go.Proofs.YtcigpjejbkngfaaGreatDoor
end
