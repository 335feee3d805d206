/- Part 9 of what the law is proved with. -/
import Derived.Maps.Own
import Derived.DeepKeys4
import Derived.Lib.SliceRun
import Derived.Test.YtcigpjejbkngfaaGreatDoorQTR8
set_option linter.unusedVariables false
set_option linter.unusedSimpArgs false
section
namespace Go.Sh
open Go Go.RowKit
theorem part_agg {P : Program} {e : TypeId} {d : TypeDesc} (hu : P.underlying e = some d) (ha : aggB P e = true) (hi : infoB P e = true) (cs : Array Value) (i : Nat) (w : World) : (part e cs i).run P w = .ok (.agg (cs.extract i (i + szT P e))) w := by
  simp [part, isAgg_run' hu ha, sizeOf_run hi]
theorem mapM_all {β γ : Type} (g : β → Option γ) : ∀ (l : List β), (∀ x ∈ l, ∃ y, g x = some y) → ∃ r, l.mapM g = some r
  | [], _ => ⟨[], rfl⟩
  | a :: l, h => by
    obtain ⟨y, hy⟩ := h a (by simp)
    obtain ⟨r, hr⟩ := mapM_all g l (fun x hx => h x (by simp [hx]))
    exact ⟨y :: r, by rw [List.mapM_cons, hy]; simp [hr]⟩
def MapAt (w : World) (mb : Nat) (l : List (Value × Value)) : Prop := ∃ es clock, w.heap[mb]? = some (.map es clock) ∧ es.toList.map (fun e => (e.key, e.val)) = l
theorem MapAt.keep {D : Nat → Prop} {w w' : World} {mb : Nat} {l : List (Value × Value)} (h : MapAt w mb l) (k : Keep D w w') (hd : ¬ D mb) : MapAt w' mb l := by
  obtain ⟨es, c, h1, h2⟩ := h
  exact ⟨es, c, k.get hd h1, h2⟩
theorem MapAt.ext {w w' : World} {mb : Nat} {l : List (Value × Value)} (h : MapAt w mb l) (k : Ext w w') : MapAt w' mb l := h.keep k (fun h => h)
theorem MapAt.lt {w : World} {mb : Nat} {l : List (Value × Value)} (h : MapAt w mb l) : mb < w.heap.size := by
  obtain ⟨es, c, h1, h2⟩ := h
  exact lt_of_blk h1
def newM (w : World) : World := { w with heap := w.heap.push (.map #[] 0) }
theorem newM_ext (w : World) : Ext w (newM w) :=
  ⟨rfl, rfl, rfl, by show _ ≤ (w.heap.push _).size; rw [Array.size_push]; omega, fun i hi _ => by
    show (w.heap.push _)[i]? = _
    exact Array.getElem?_push_lt hi |>.trans (Array.getElem?_eq_getElem hi).symm⟩
theorem newM_at (w : World) : MapAt (newM w) w.heap.size [] := ⟨#[], 0, by show (w.heap.push _)[w.heap.size]? = _; exact Array.getElem?_push_size, rfl⟩
theorem X_makeMap {P : Program} {t k e : TypeId} (ht : P.underlying t = some (.map k e)) (n : Int) {w : World} {K : Value → World → Prop} (h : K (.map (some w.heap.size)) (newM w)) : X P (Instr.makeMap t (some (.int .i64 n))) w K := by
  have hr : (Instr.makeMap t (some (.int .i64 n))).run P w = .ok (.map (some w.heap.size)) (newM w) := by
    simp [Instr.makeMap, run_underlying ht, asInt, run_newObj]
    rfl
  exact X_of hr h
theorem X_makeMap0 {P : Program} {t : TypeId} {w : World} {K : Value → World → Prop} (h : K (.map (some w.heap.size)) (newM w)) : X P (Instr.makeMap t none) w K := by
  have hr : (Instr.makeMap t none).run P w = .ok (.map (some w.heap.size)) (newM w) := by
    simp [Instr.makeMap, run_newObj]
    rfl
  exact X_of hr h
section
variable {P : Program} {t k e : TypeId} {w : World} {mb : Nat} {l : List (Value × Value)}
theorem run_lookupM (K : Maps.Keyed P k) (ht : P.underlying t = some (.map k e)) {z : Value} (hz : zeroT P e = some z) (hm : MapAt w mb l) (hl : ∀ p ∈ l, ∃ x, keyOf P k p.1 = some x) {key : Value} {kl : Lit} (hkey : keyOf P k key = some kl) (c : Bool) :
    ((∀ p ∈ l, p.1 ≠ key) ∧ (Instr.lookup t (.map (some mb)) key c).run P w = .ok (if c then .tuple #[z, .bool false] else z) w) ∨
    ∃ p ∈ l, p.1 = key ∧ (Instr.lookup t (.map (some mb)) key c).run P w = .ok (if c then .tuple #[p.2, .bool true] else p.2) w := by
  obtain ⟨es, clock, hb, rfl⟩ := hm
  have hes : ∀ x ∈ es.toList, ∃ y, keyOf P k x.key = some y := fun x hx => hl (x.key, x.val) (List.mem_map.2 ⟨x, hx, rfl⟩)
  rcases K.find w hkey es.toList hes with ⟨h1, h2⟩ | ⟨j, e0, h1, h2, h3⟩
  · refine .inl ⟨fun p hp => ?_, ?_⟩
    · obtain ⟨x, hx, rfl⟩ := List.mem_map.1 hp
      exact h2 x hx
    · cases c <;> simp [Instr.lookup, run_underlying ht, MapKept.run_getObj_map hb, K.check w _ hkey, h1, zeroValue_run hz, Result.andThen]
  · refine .inr ⟨(e0.key, e0.val), List.mem_map.2 ⟨e0, List.mem_of_getElem? h2, rfl⟩, h3, ?_⟩
    cases c <;> simp [Instr.lookup, run_underlying ht, MapKept.run_getObj_map hb, K.check w _ hkey, h1, Result.andThen]
theorem XU_updateNew (K : Maps.Keyed P k) (ht : P.underlying t = some (.map k e)) (hm : MapAt w mb l) (hl : ∀ p ∈ l, ∃ x, keyOf P k p.1 = some x) {key v : Value} {kl : Lit} (hkey : keyOf P k key = some kl) (hnew : ∀ p ∈ l, p.1 ≠ key) {Q : World → Prop}
    (h : ∀ w1, MapAt w1 mb (l ++ [(key, v)]) → Keep (· = mb) w w1 → Q w1) : XU P (Instr.mapUpdate t (.map (some mb)) key v) w Q := by
  obtain ⟨es, clock, hb, rfl⟩ := hm
  have hes : ∀ x ∈ es.toList, ∃ y, keyOf P k x.key = some y := fun x hx => hl (x.key, x.val) (List.mem_map.2 ⟨x, hx, rfl⟩)
  rcases K.find w hkey es.toList hes with ⟨h1, h2⟩ | ⟨j, e0, h1, h2, h3⟩
  · have hr : (Instr.mapUpdate t (.map (some mb)) key v).run P w = .ok () { w with heap := w.heap.setIfInBounds mb (.map (es.push { key, val := v, born := clock }) (clock + 1)) } := by
      simp [Instr.mapUpdate, run_underlying ht, MapKept.run_getObj_map hb, K.check w _ hkey, h1, Result.andThen, MapKept.run_setObj_map _ hb]
    unfold XU
    rw [hr]
    have hlt := lt_of_blk hb
    refine h _ ⟨_, _, by show (w.heap.setIfInBounds mb _)[mb]? = _; simp [hlt]; exact ⟨rfl, rfl⟩, by simp⟩ ⟨rfl, rfl, rfl, by show _ ≤ (w.heap.setIfInBounds mb _).size; simp, fun i _ hi => by show (w.heap.setIfInBounds mb _)[i]? = _; rw [Array.getElem?_setIfInBounds_ne (Ne.symm hi)]⟩
  · exact absurd h3 (hnew (e0.key, e0.val) (List.mem_map.2 ⟨e0, List.mem_of_getElem? h2, rfl⟩))
end
theorem eqFields_two {P : Program} {d : Nat} {xs ys : Array Value} {f0 f1 : Field} {w : World} {x0 y0 x1 y1 : Value} {r0 r1 : Bool} (n0 : f0.name ≠ "_") (n1 : f1.name ≠ "_")
    (hx0 : (part f0.type xs f0.offset).run P w = .ok x0 w) (hy0 : (part f0.type ys f0.offset).run P w = .ok y0 w) (hx1 : (part f1.type xs f1.offset).run P w = .ok x1 w) (hy1 : (part f1.type ys f1.offset).run P w = .ok y1 w)
    (q0 : (Op.equalIn d f0.type x0 y0).run P w = .ok r0 w) (q1 : (Op.equalIn d f1.type x1 y1).run P w = .ok r1 w) : (Op.eqFields d xs ys [f0, f1]).run P w = .ok (r0 && r1) w := by
  cases r0 <;> cases r1 <;> simp [Op.eqFields, n0, n1, hx0, hy0, hx1, hy1, q0, q1]
end Go.Sh
end
section
namespace Go.Proofs.YtcigpjejbkngfaaGreatDoor
open Go Go.Sh Go.RowKit Go.ChangeShapes Go.WideShapes Go.ChangeAt
theorem laidOut : laidOutB Tryz.prog = true := by kernel_rfl
attribute [local irreducible] X XU XP XR CALL loopS resC closS Value.okWide
structure Ky where
  sum : List UInt8
  num : Nat
  len : sum.length = 32
  lt : num < 4294967296
theorem Ky.ext' {a b : Ky} (h1 : a.sum = b.sum) (h2 : a.num = b.num) : a = b := by
  cases a; cases b; simp at h1 h2; subst h1; subst h2; rfl
instance : DecidableEq Ky := fun a b => if h1 : a.sum = b.sum then if h2 : a.num = b.num then isTrue (Ky.ext' h1 h2) else isFalse (fun h => h2 (by rw [h])) else isFalse (fun h => h1 (by rw [h]))
def Ky.cs (k : Ky) : List Value := B8 k.sum ++ [.int .u32 (k.num : Int)]
abbrev Ky.v (k : Ky) : Value := .agg k.cs.toArray
theorem Ky.cs_len (k : Ky) : k.cs.length = 33 := by simp [Ky.cs, k.len]
theorem Ky.one (k : Ky) : ∀ x ∈ k.cs, x.oneCell' = true := by
  intro x hx
  rcases List.mem_append.1 hx with h | h
  · exact B8_one x h
  · rw [List.mem_singleton.1 h]; rfl
theorem Ky.v_inj {a b : Ky} (h : a.v = b.v) : a = b := by
  have h1 : a.cs = b.cs := by
    injection h with h
    exact congrArg Array.toList h
  unfold Ky.cs at h1
  obtain ⟨h2, h3⟩ := List.append_inj h1 (by simp [a.len, b.len])
  refine Ky.ext' (B8_inj h2) ?_
  injection h3 with h3 _
  injection h3 with _ h3
  omega
def nilKy : Ky := ⟨List.replicate 32 0, 0, List.length_replicate, by decide⟩
theorem Ky.cs_take (k : Ky) : k.cs.take 32 = B8 k.sum := by
  unfold Ky.cs
  rw [List.take_append_of_le_length (by simp [k.len]), List.take_of_length_le (by simp [k.len])]
theorem Ky.cs_num (k : Ky) : k.cs.toArray[32]? = some (.int .u32 (k.num : Int)) := by
  have hl : (B8 k.sum).length = 32 := by simp [k.len]
  show (B8 k.sum ++ [Value.int .u32 (k.num : Int)]).toArray[32]? = _
  rw [List.getElem?_toArray, List.getElem?_append_right (by omega), hl]
  rfl
theorem fields33 : (Tryz.prog.fieldsOf 33).toList = [{ name := "Sum", type := 30, offset := 0, embedded := false, tag := "", pkgPath := "", byteOffset := 0 }, { name := "N", type := 31, offset := 32, embedded := false, tag := "", pkgPath := "", byteOffset := 32 }] := by kernel_rfl
theorem struct33 : Tryz.prog.underlying 33 = some (.struct (Tryz.prog.fieldsOf 33)) := by kernel_rfl
theorem held33 : Tryz.prog.stoodInHeld 33 = false := by kernel_rfl
theorem guard33 : Tryz.prog.eqGuardType Tryz.prog.depth 33 = false := by kernel_rfl
theorem inf5 : Tryz.prog.info? 5 = some Tryz.t5 := by kernel_rfl
theorem cel5 : Tryz.prog.cellsOf 5 = 1 := by kernel_rfl
theorem cel31 : Tryz.prog.cellsOf 31 = 1 := by kernel_rfl
theorem cel30 : Tryz.prog.cellsOf 30 = 32 := by kernel_rfl
theorem cel33 : Tryz.prog.cellsOf 33 = 33 := by kernel_rfl
theorem sum_equal (x y : List UInt8) (hx : x.length = 32) (hy : y.length = 32) (w : World) : (Op.equalIn 9999 30 (.agg (B8 x).toArray) (.agg (B8 y).toArray)).run Tryz.prog w = .ok (decide (x = y)) w := by
  rw [show (9999 : Nat) = 9998 + 1 from rfl, run_equalIn_array w 9998 _ _ Tryz.underlying30 inf5, cel5, List.range_eq_range']
  have := eqItems_bytes (P := Tryz.prog) 9997 Tryz.underlying5 agg_5 x y (by rw [hx, hy]) w 32 0 (by rw [hx])
  simpa using this
theorem part_sum (k : Ky) (w : World) : (part 30 k.cs.toArray 0).run Tryz.prog w = .ok (.agg (B8 k.sum).toArray) w := by
  rw [part_agg Tryz.underlying30 agg_30 info_30, sz_30]
  have : k.cs.toArray.extract 0 (0 + 32) = (B8 k.sum).toArray := by
    apply Array.ext'
    simp [Ky.cs_take]
  rw [this]
theorem part_num (k : Ky) (w : World) : (part 31 k.cs.toArray 32).run Tryz.prog w = .ok (.int .u32 (k.num : Int)) w := part_cell agg_31 k.cs_num w
theorem num_equal (a b : Ky) (w : World) : (Op.equalIn 9999 31 (.int .u32 (a.num : Int)) (.int .u32 (b.num : Int))).run Tryz.prog w = .ok (decide (a.num = b.num)) w := by
  have bz : ((a.num : Int) == (b.num : Int)) = decide (a.num = b.num) := by
    rw [Bool.eq_iff_iff]; simp; omega
  have := run_equalIn_int (P := Tryz.prog) w 9998 31 .u32 .u32 (a.num : Int) (b.num : Int) Tryz.underlying31
  rw [bz] at this
  exact this
theorem ky_dec (a b : Ky) : decide (a = b) = (decide (a.sum = b.sum) && decide (a.num = b.num)) := by
  rw [← Bool.decide_and]
  exact decide_eq_decide.2 ⟨fun h => by rw [h]; exact ⟨rfl, rfl⟩, fun h => Ky.ext' h.1 h.2⟩
theorem ke1 (a b : Ky) (w : World) : (Op.equalIn (9999 + 1) 33 a.v b.v).run Tryz.prog w = (Op.eqFields 9999 a.cs.toArray b.cs.toArray (Tryz.prog.fieldsOf 33).toList).run Tryz.prog w := run_equalIn_struct w 9999 33 _ _ struct33 held33
theorem ke2 (a b : Ky) (w : World) : (Op.equalIn 10000 33 a.v b.v).run Tryz.prog w = (Op.eqFields 9999 a.cs.toArray b.cs.toArray (Tryz.prog.fieldsOf 33).toList).run Tryz.prog w := ke1 a b w
theorem key_equal (a b : Ky) (w : World) : (Op.equalIn 10000 33 a.v b.v).run Tryz.prog w = .ok (decide (a = b)) w := by
  rw [ke2, fields33, ky_dec]
  exact eqFields_two (by decide) (by decide) (part_sum a w) (part_sum b w) (part_num a w) (part_num b w) (sum_equal a.sum b.sum a.len b.len w) (num_equal a b w)
theorem run_key_neq (a b : Ky) (o1 o2 : Operand) (w : World) : (binOpG .neq 33 o1 o2 a.v b.v).run Tryz.prog w = .ok (.bool (decide (a ≠ b))) w := by
  rw [agg_neq guard33 o1 o2 (key_equal a b w)]
  simp
theorem run_key_eql (a b : Ky) (o1 o2 : Operand) (w : World) : (binOpG .eql 33 o1 o2 a.v b.v).run Tryz.prog w = .ok (.bool (decide (a = b))) w := agg_eql guard33 o1 o2 (key_equal a b w)
theorem size33 : 33 < Tryz.prog.types.size := Nat.lt_of_lt_of_le (Nat.lt_succ_self 33) (Nat.le_of_ble_eq_true (by kernel_rfl))
theorem keyAt33 : Tryz.prog.keyTypeAt 5 33 = true := by kernel_rfl
theorem keyTy33 : Tryz.prog.keyType 33 = true := by kernel_rfl
theorem keyed33 : Maps.Keyed Tryz.prog 33 := Maps.Keyed.of_law (deep_law_laid laidOut (m := 5) (Nat.le_of_ble_eq_true rfl) size33 keyAt33 (by rw [Tryz.underlying33]))
theorem keyOf_ky (k : Ky) : ∃ l, keyOf Tryz.prog 33 k.v = some l := by
  have hkt := keyTy33
  have hfm : k.v.formed Tryz.prog 33 = true := by
    unfold Value.formed
    rw [Tryz.underlying33]
    show decide (k.cs.toArray.size = Tryz.prog.cellsOf 33) = true
    rw [cel33]
    simp [k.cs_len]
  unfold keyOf
  rw [Tryz.underlying33]
  simp only [hkt, hfm, Bool.and_self, if_true]
  have hk : ∃ ls, Tryz.prog.keyLits (Tryz.prog.types.size + 1) 33 k.v.cells.toList = some ls := by
    obtain ⟨n, hn⟩ : ∃ n, Tryz.prog.types.size + 1 = n + 3 := ⟨Tryz.prog.types.size - 2, by
      have h2 : 2 ≤ Tryz.prog.types.size := Nat.le_of_ble_eq_true (by kernel_rfl)
      omega⟩
    rw [hn]
    have hsum : ∃ ls, Tryz.prog.keyLits (n + 2) 30 (B8 k.sum) = some ls := by
      unfold Program.keyLits
      rw [Tryz.underlying30]
      simp only [cel30, cel5, B8_length, k.len, if_true]
      obtain ⟨r, hr⟩ := mapM_all (fun i => Tryz.prog.keyLits (n + 1) 5 ((List.drop (i * 1) (B8 k.sum)).take 1)) (List.range 32) (fun i hi => by
        have hi' : i < 32 := List.mem_range.1 hi
        have hd : (List.drop (i * 1) (B8 k.sum)).take 1 = [.int .u8 ((k.sum[i]'(by rw [k.len]; exact hi')).toNat : Int)] := by
          have hl : i < (B8 k.sum).length := by simp [k.len]; exact hi'
          rw [Nat.mul_one, List.drop_eq_getElem_cons hl]
          simp [B8]
        rw [hd]
        unfold Program.keyLits
        rw [Tryz.underlying5]
        refine ⟨_, if_pos ⟨rfl, ?_⟩⟩
        have := (k.sum[i]'(by rw [k.len]; exact hi')).toNat_lt
        simp [Lit.wf, IntKind.min, IntKind.max, IntKind.signed, IntKind.bits]
        omega)
      rw [hr]
      exact ⟨_, rfl⟩
    obtain ⟨l1, h1⟩ := hsum
    have hnum : Tryz.prog.keyLits (n + 2) 31 [.int .u32 (k.num : Int)] = some [.int .u32 (k.num : Int)] := by
      unfold Program.keyLits
      rw [Tryz.underlying31]
      refine if_pos ⟨rfl, ?_⟩
      have := k.lt
      simp [Lit.wf, IntKind.min, IntKind.max, IntKind.signed, IntKind.bits]
      omega
    have ecs : k.v.cells.toList = k.cs := rfl
    rw [ecs]
    unfold Program.keyLits
    rw [Tryz.underlying33]
    have e1 : (k.cs.drop 0).take 32 = B8 k.sum := by rw [List.drop_zero]; exact k.cs_take
    have e2 : (k.cs.drop 32).take 1 = [.int .u32 (k.num : Int)] := by
      unfold Ky.cs
      rw [List.drop_append_of_le_length (by simp [k.len]), List.drop_eq_nil_of_le (by simp [k.len])]
      rfl
    simp only [cel33, k.cs_len]
    have e1' : List.take 32 k.cs = B8 k.sum := k.cs_take
    simp [cel30, cel31, e1', e2, h1, hnum]
  obtain ⟨ls, hls⟩ := hk
  rw [hls]
  exact ⟨_, rfl⟩
end Go.Proofs.YtcigpjejbkngfaaGreatDoor
end
section
namespace Go.Proofs.YtcigpjejbkngfaaGreatDoor
open Go Go.Sh
attribute [local irreducible] X XU XP XR CALL loopS resC closS
def B_extent_Join (x0 : Value) (w : World) (K : Value → World → Prop) : Prop :=
  X Tryz.prog (Builtin.len_ #[124] 3 #[x0]) w fun v1 w1 =>
  loopS (fun Q1 ρ1 w2 =>
  X Tryz.prog (binOp .lss 3 (ρ1 11) (ρ1 10)) w2 fun v2 w3 =>
  condS v2 (
  X Tryz.prog (Instr.indexAt 124 (ρ1 9) (ρ1 11)) w3 fun v3 w4 =>
  X Tryz.prog (Instr.loadAt 46 v3) w4 fun v4 w5 =>
  CALL Tryz.prog 56 #[v4] w5 fun v5 w6 =>
  X Tryz.prog (Op.unary .not v5) w6 fun v6 w7 =>
  condS v6 (
  Q1 .ret (upds ρ1 [(2, (.slice none 0 0)), (17, v6), (16, v5), (15, v4), (5, v4), (14, v4), (13, v3), (12, v2)]) w7) (
  X Tryz.prog (Builtin.len_ #[46] 3 #[v4]) w7 fun v7 w8 =>
  loopS (fun Q2 ρ2 w9 =>
  X Tryz.prog (binOp .lss 3 (ρ2 20) (ρ2 19)) w9 fun v8 w10 =>
  condS v8 (
  joinS (fun ρ3 w11 =>
  X Tryz.prog (binOp .add 3 (ρ3 20) (.int .i64 1)) w11 fun v9 w12 =>
  Q2 .normal (upds ρ3 [(20, v9), (66, v9)]) w12) fun J3 =>
  X Tryz.prog (Instr.indexAt 46 (ρ2 18) (ρ2 20)) w10 fun v10 w13 =>
  X Tryz.prog (Instr.loadAt 84 v10) w13 fun v11 w14 =>
  X Tryz.prog (Instr.alloc 84 true (.tuple #[])) w14 fun v12 w15 =>
  XU Tryz.prog (Instr.storeAt 84 v12 v11) w15 fun w16 =>
  joinS (fun ρ4 w17 =>
  X Tryz.prog (Instr.loadAt 84 (ρ4 7)) w17 fun v13 w18 =>
  X Tryz.prog (Instr.buildSlice 46 1 #[(0, v13)]) w18 fun v14 w19 =>
  X Tryz.prog (Builtin.append_ #[46, 46] 46 #[(ρ4 3), v14]) w19 fun v15 w20 =>
  J3 (upds ρ4 [(3, v15), (65, v15), (64, v14), (63, v13), (62, (ρ4 3))]) w20) fun J4 =>
  X Tryz.prog (Builtin.len_ #[46] 3 #[(ρ2 3)]) w16 fun v16 w21 =>
  X Tryz.prog (binOp .gtr 3 v16 (.int .i64 0)) w21 fun v17 w22 =>
  condS v17 (
  X Tryz.prog (Builtin.len_ #[46] 3 #[(ρ2 3)]) w22 fun v18 w23 =>
  X Tryz.prog (binOp .sub 3 v18 (.int .i64 1)) w23 fun v19 w24 =>
  X Tryz.prog (Instr.indexAt 46 (ρ2 3) v19) w24 fun v20 w25 =>
  ∃ R, Frame? R ∧
  XP Tryz.prog (nilS v20) (drewW w25) fun v21 w26 =>
  XP Tryz.prog (Instr.fieldAt 84 v21 0) w26 fun v22 w27 =>
  XR Tryz.prog R (Instr.loadAt 33 v22) w27 fun v23 w28 =>
  XP Tryz.prog (Instr.fieldAt 84 v12 0) w28 fun v24 w29 =>
  XR Tryz.prog R (Instr.loadAt 33 v24) w29 fun v25 w30 =>
  XP Tryz.prog (binOpG .eql 33 (.tmp 35) (.tmp 37) v23 v25) w30 fun v26 w31 =>
  gstep v26 true (fun w32 K => K v20 w32) w31 fun v27 w33 =>
  gstep v26 true (fun w34 K => XP Tryz.prog (nilS v27) w34 K) w33 fun v28 w35 =>
  gstep v26 true (fun w36 K => XP Tryz.prog (Instr.fieldAt 84 v28 1) w36 K) w35 fun v29 w37 =>
  gstep v26 true (fun w38 K => XR Tryz.prog R (Instr.loadAt 3 v29) w38 K) w37 fun v30 w39 =>
  gstep v26 true (fun w40 K => K v20 w40) w39 fun v31 w41 =>
  gstep v26 true (fun w42 K => XP Tryz.prog (nilS v31) w42 K) w41 fun v32 w43 =>
  gstep v26 true (fun w44 K => XP Tryz.prog (Instr.fieldAt 84 v32 2) w44 K) w43 fun v33 w45 =>
  gstep v26 true (fun w46 K => XR Tryz.prog R (Instr.loadAt 3 v33) w46 K) w45 fun v34 w47 =>
  gstep v26 true (fun w48 K => XP Tryz.prog (binOp .add 3 v30 v34) w48 K) w47 fun v35 w49 =>
  gstep v26 true (fun w50 K => XP Tryz.prog (Instr.fieldAt 84 v12 1) w50 K) w49 fun v36 w51 =>
  gstep v26 true (fun w52 K => XR Tryz.prog R (Instr.loadAt 3 v36) w52 K) w51 fun v37 w53 =>
  gstep v26 true (fun w54 K => XP Tryz.prog (binOpG .eql 3 (.tmp 48) (.tmp 50) v35 v37) w54 K) w53 fun v38 w55 =>
  XP Tryz.prog (pickS v26 v38 (.bool false)) w55 fun v39 w56 =>
  condS v39 (
  ∃ R, Frame? R ∧
  XP Tryz.prog (nilS v20) (drewW w56) fun v40 w57 =>
  XP Tryz.prog (Instr.fieldAt 84 v40 2) w57 fun v41 w58 =>
  XR Tryz.prog R (Instr.loadAt 3 v41) w58 fun v42 w59 =>
  XP Tryz.prog (Instr.fieldAt 84 v12 2) w59 fun v43 w60 =>
  XR Tryz.prog R (Instr.loadAt 3 v43) w60 fun v44 w61 =>
  XP Tryz.prog (binOp .add 3 v42 v44) w61 fun v45 w62 =>
  XP Tryz.prog (nilS v20) w62 fun v46 w63 =>
  XP Tryz.prog (Instr.fieldAt 84 v46 2) w63 fun v47 w64 =>
  XU Tryz.prog (Instr.storeAt 3 v47 v45) w64 fun w65 =>
  J3 (upds ρ2 [(61, v47), (60, v46), (59, v45), (58, v44), (57, v43), (56, v42), (55, v41), (54, v40), (53, v20), (52, v39), (51, v38), (50, v37), (49, v36), (48, v35), (47, v34), (46, v33), (45, v32), (44, v31), (43, v30), (42, v29), (41, v28), (40, v27), (39, v26), (38, v26), (37, v25), (36, v24), (35, v23), (34, v22), (33, v21), (32, v20), (8, v20), (31, v20), (30, v19), (29, v18), (28, (ρ2 3)), (27, (ρ2 3)), (26, v17), (25, v16), (24, (ρ2 3)), (7, v12), (23, v11), (22, v10), (21, v8)]) w65) (
  J4 (upds ρ2 [(52, v39), (51, v38), (50, v37), (49, v36), (48, v35), (47, v34), (46, v33), (45, v32), (44, v31), (43, v30), (42, v29), (41, v28), (40, v27), (39, v26), (38, v26), (37, v25), (36, v24), (35, v23), (34, v22), (33, v21), (32, v20), (8, v20), (31, v20), (30, v19), (29, v18), (28, (ρ2 3)), (27, (ρ2 3)), (26, v17), (25, v16), (24, (ρ2 3)), (7, v12), (23, v11), (22, v10), (21, v8)]) w56)) (
  J4 (upds ρ2 [(26, v17), (25, v16), (24, (ρ2 3)), (7, v12), (23, v11), (22, v10), (21, v8)]) w22)) (
  Q2 (.exit 2) (upds ρ2 [(21, v8)]) w10)) (inBlockS 2 (inBlockS 1 (thenS (fun ρ5 w66 =>
  X Tryz.prog (binOp .add 3 (ρ5 11) (.int .i64 1)) w66 fun v48 w67 =>
  Q1 .normal (upds ρ5 [(11, v48), (67, v48)]) w67) Q1))) (upds ρ1 [(20, (.int .i64 0)), (19, v7), (18, v4), (17, v6), (16, v5), (15, v4), (5, v4), (14, v4), (13, v3), (12, v2)]) w8)) (
  Q1 (.exit 0) (upds ρ1 [(12, v2)]) w3)) (inBlockS 0 (thenS (fun ρ6 w68 =>
  CALL Tryz.prog 56 #[(ρ6 3)] w68 fun v49 w69 =>
  X Tryz.prog (Op.unary .not v49) w69 fun v50 w70 =>
  condS v50 (
  K (.slice none 0 0) w70) (
  K (ρ6 3) w70)) (retS Tryz.prog (Tryz.f30).results K))) (upds (env0 #[x0]) [(11, (.int .i64 0)), (10, v1), (9, x0), (3, (.slice none 0 0)), (2, (.slice none 0 0))]) w1
theorem eq_extent_Join (x0 : Value) (w : World) (K : Value → World → Prop) :
    sh Tryz.prog (Tryz.f30.body.getD .skip) (retS Tryz.prog Tryz.f30.results K) (env0 #[x0]) w = B_extent_Join x0 w K := by kernel_rfl
theorem call_extent_Join (x0 : Value) (w : World) (K : Value → World → Prop) (h : B_extent_Join x0 w K) : CALL Tryz.prog 30 #[x0] w K :=
  call_of_eq (c := Tryz.f30.body.getD .skip) mixed Tryz.func30 (by kernel_rfl) (by kernel_rfl) (by kernel_rfl) (Nat.le_of_ble_eq_true (by kernel_rfl)) (eq_extent_Join x0 w K) h
def B_extent_Right (x0 : Value) (w : World) (K : Value → World → Prop) : Prop :=
  X Tryz.prog (Builtin.len_ #[46] 3 #[x0]) w fun v1 w1 =>
  X Tryz.prog (binOp .leq 3 v1 (.int .i64 16384)) w1 fun v2 w2 =>
  gstep v2 true (fun w3 K => K x0 w3) w2 fun v3 w4 =>
  gstep v2 true (fun w5 K => CALL Tryz.prog 82 #[v3, (.func (.func 83) #[] #[])] w5 K) w4 fun v4 w6 =>
  gstep v2 true (fun w7 K => X Tryz.prog (Op.unary .not v4) w7 K) w6 fun v5 w8 =>
  X Tryz.prog (pickS v2 v5 (.bool false)) w8 fun v6 w9 =>
  K v6 w9
theorem eq_extent_Right (x0 : Value) (w : World) (K : Value → World → Prop) :
    sh Tryz.prog (Tryz.f56.body.getD .skip) (retS Tryz.prog Tryz.f56.results K) (env0 #[x0]) w = B_extent_Right x0 w K := by kernel_rfl
theorem call_extent_Right (x0 : Value) (w : World) (K : Value → World → Prop) (h : B_extent_Right x0 w K) : CALL Tryz.prog 56 #[x0] w K :=
  call_of_eq (c := Tryz.f56.body.getD .skip) mixed Tryz.func56 (by kernel_rfl) (by kernel_rfl) (by kernel_rfl) (Nat.le_of_ble_eq_true (by kernel_rfl)) (eq_extent_Right x0 w K) h
def B_extent_wrong (x0 : Value) (w : World) (K : Value → World → Prop) : Prop :=
  X Tryz.prog (Instr.box 84 x0) w fun v1 w1 =>
  X Tryz.prog (Instr.fieldAt 84 v1 1) w1 fun v2 w2 =>
  X Tryz.prog (Instr.loadAt 3 v2) w2 fun v3 w3 =>
  X Tryz.prog (binOp .lss 3 v3 (.int .i64 0)) w3 fun v4 w4 =>
  gstep v4 false (fun w5 K => X Tryz.prog (Instr.fieldAt 84 v1 2) w5 K) w4 fun v5 w6 =>
  gstep v4 false (fun w7 K => X Tryz.prog (Instr.loadAt 3 v5) w7 K) w6 fun v6 w8 =>
  gstep v4 false (fun w9 K => X Tryz.prog (binOp .lss 3 v6 (.int .i64 1)) w9 K) w8 fun v7 w10 =>
  X Tryz.prog (pickS v4 (.bool true) v7) w10 fun v8 w11 =>
  gstep v8 false (fun w12 K => X Tryz.prog (Instr.fieldAt 84 v1 1) w12 K) w11 fun v9 w13 =>
  gstep v8 false (fun w14 K => X Tryz.prog (Instr.loadAt 3 v9) w14 K) w13 fun v10 w15 =>
  gstep v8 false (fun w16 K => X Tryz.prog (binOp .gtr 3 v10 (.int .i64 4096)) w16 K) w15 fun v11 w17 =>
  X Tryz.prog (pickS v8 (.bool true) v11) w17 fun v12 w18 =>
  gstep v12 false (fun w19 K => X Tryz.prog (Instr.fieldAt 84 v1 2) w19 K) w18 fun v13 w20 =>
  gstep v12 false (fun w21 K => X Tryz.prog (Instr.loadAt 3 v13) w21 K) w20 fun v14 w22 =>
  gstep v12 false (fun w23 K => X Tryz.prog (Instr.fieldAt 84 v1 1) w23 K) w22 fun v15 w24 =>
  gstep v12 false (fun w25 K => X Tryz.prog (Instr.loadAt 3 v15) w25 K) w24 fun v16 w26 =>
  gstep v12 false (fun w27 K => X Tryz.prog (binOp .sub 3 (.int .i64 4096) v16) w27 K) w26 fun v17 w28 =>
  gstep v12 false (fun w29 K => X Tryz.prog (binOp .gtr 3 v14 v17) w29 K) w28 fun v18 w30 =>
  X Tryz.prog (pickS v12 (.bool true) v18) w30 fun v19 w31 =>
  K v19 w31
theorem eq_extent_wrong (x0 : Value) (w : World) (K : Value → World → Prop) :
    sh Tryz.prog (Tryz.f83.body.getD .skip) (retS Tryz.prog Tryz.f83.results K) (env0 #[x0]) w = B_extent_wrong x0 w K := by kernel_rfl
theorem call_extent_wrong (x0 : Value) (w : World) (K : Value → World → Prop) (h : B_extent_wrong x0 w K) : CALL Tryz.prog 83 #[x0] w K :=
  call_of_eq (c := Tryz.f83.body.getD .skip) mixed Tryz.func83 (by kernel_rfl) (by kernel_rfl) (by kernel_rfl) (Nat.le_of_ble_eq_true (by kernel_rfl)) (eq_extent_wrong x0 w K) h
def B_slices_ContainsFunc_api_Extent (x0 x1 : Value) (w : World) (K : Value → World → Prop) : Prop :=
  CALL Tryz.prog 107 #[x0, x1] w fun v1 w1 =>
  X Tryz.prog (binOp .geq 3 v1 (.int .i64 0)) w1 fun v2 w2 =>
  K v2 w2
theorem eq_slices_ContainsFunc_api_Extent (x0 x1 : Value) (w : World) (K : Value → World → Prop) :
    sh Tryz.prog (Tryz.f82.body.getD .skip) (retS Tryz.prog Tryz.f82.results K) (env0 #[x0, x1]) w = B_slices_ContainsFunc_api_Extent x0 x1 w K := by kernel_rfl
theorem call_slices_ContainsFunc_api_Extent (x0 x1 : Value) (w : World) (K : Value → World → Prop) (h : B_slices_ContainsFunc_api_Extent x0 x1 w K) : CALL Tryz.prog 82 #[x0, x1] w K :=
  call_of_eq (c := Tryz.f82.body.getD .skip) mixed Tryz.func82 (by kernel_rfl) (by kernel_rfl) (by kernel_rfl) (Nat.le_of_ble_eq_true (by kernel_rfl)) (eq_slices_ContainsFunc_api_Extent x0 x1 w K) h
def B_slices_IndexFunc_api_Extent (x0 x1 : Value) (w : World) (K : Value → World → Prop) : Prop :=
  X Tryz.prog (Builtin.len_ #[46] 3 #[x0]) w fun v1 w1 =>
  loopS (fun Q1 ρ1 w2 =>
  X Tryz.prog (binOp .lss 3 (ρ1 8) (ρ1 7)) w2 fun v2 w3 =>
  condS v2 (
  X Tryz.prog (Instr.indexAt 46 (ρ1 0) (ρ1 8)) w3 fun v3 w4 =>
  X Tryz.prog (Instr.loadAt 84 v3) w4 fun v4 w5 =>
  closS Tryz.prog (ρ1 1) #[v4] w5 fun v5 w6 =>
  condS v5 (
  Q1 .ret (upds ρ1 [(4, (ρ1 8)), (17, (ρ1 8)), (16, v5), (15, v4), (14, v3), (13, (ρ1 8)), (12, (ρ1 0)), (11, (ρ1 1)), (5, (ρ1 8)), (10, (ρ1 8)), (9, v2)]) w6) (
  X Tryz.prog (binOp .add 3 (ρ1 8) (.int .i64 1)) w6 fun v6 w7 =>
  Q1 .normal (upds ρ1 [(8, v6), (18, v6), (16, v5), (15, v4), (14, v3), (13, (ρ1 8)), (12, (ρ1 0)), (11, (ρ1 1)), (5, (ρ1 8)), (10, (ρ1 8)), (9, v2)]) w7)) (
  Q1 (.exit 0) (upds ρ1 [(9, v2)]) w3)) (inBlockS 0 (thenS (fun ρ2 w8 =>
  K (.int .i64 (-1)) w8) (retS Tryz.prog (Tryz.f107).results K))) (upds (env0 #[x0, x1]) [(8, (.int .i64 0)), (7, v1), (6, x0), (4, (.int .i64 0))]) w1
theorem eq_slices_IndexFunc_api_Extent (x0 x1 : Value) (w : World) (K : Value → World → Prop) :
    sh Tryz.prog (Tryz.f107.body.getD .skip) (retS Tryz.prog Tryz.f107.results K) (env0 #[x0, x1]) w = B_slices_IndexFunc_api_Extent x0 x1 w K := by kernel_rfl
theorem call_slices_IndexFunc_api_Extent (x0 x1 : Value) (w : World) (K : Value → World → Prop) (h : B_slices_IndexFunc_api_Extent x0 x1 w K) : CALL Tryz.prog 107 #[x0, x1] w K :=
  call_of_eq (c := Tryz.f107.body.getD .skip) mixed Tryz.func107 (by kernel_rfl) (by kernel_rfl) (by kernel_rfl) (Nat.le_of_ble_eq_true (by kernel_rfl)) (eq_slices_IndexFunc_api_Extent x0 x1 w K) h
end Go.Proofs.YtcigpjejbkngfaaGreatDoor
end
section
namespace Go.Proofs.YtcigpjejbkngfaaGreatDoor
open Go Go.Sh Go.RowKit Go.ChangeShapes Go.WideShapes Go.ChangeAt
attribute [local irreducible] X XU XP XR CALL loopS resC closS Value.okWide
structure Ex where
  k : Ky
  off : Int
  len : Int
  o1 : -9223372036854775808 ≤ off
  o2 : off ≤ 9223372036854775807
  l1 : -9223372036854775808 ≤ len
  l2 : len ≤ 9223372036854775807
def Ex.cs (e : Ex) : List Value := e.k.cs ++ [.int .i64 e.off, .int .i64 e.len]
theorem Ex.cs_len (e : Ex) : e.cs.length = 35 := by simp [Ex.cs, Ky.cs_len]
theorem Ex.one (e : Ex) : ∀ v ∈ e.cs, v.oneCell' = true := by
  intro v hv
  rcases List.mem_append.1 hv with hv | hv
  · exact Ky.one _ _ hv
  · simp only [List.mem_cons, List.not_mem_nil, or_false] at hv
    rcases hv with rfl | rfl <;> rfl
theorem Ex.offAt (e : Ex) : e.cs[33]? = some (.int .i64 e.off) := by
  unfold Ex.cs
  rw [List.getElem?_append_right (by rw [Ky.cs_len]; omega), Ky.cs_len]
  rfl
theorem Ex.lenAt (e : Ex) : e.cs[34]? = some (.int .i64 e.len) := by
  unfold Ex.cs
  rw [List.getElem?_append_right (by rw [Ky.cs_len]; omega), Ky.cs_len]
  rfl
theorem Ex.keyAt (e : Ex) {j : Nat} {u : Value} (h : e.k.cs[j]? = some u) : e.cs[j]? = some u := by
  unfold Ex.cs
  rw [List.getElem?_append_left (List.getElem?_eq_some_iff.1 h).1]
  exact h
def right1 (e : Ex) : Prop := 0 ≤ e.off ∧ 1 ≤ e.len ∧ e.off ≤ 4096 ∧ e.len ≤ 4096 - e.off
instance (e : Ex) : Decidable (right1 e) := inferInstanceAs (Decidable (_ ∧ _ ∧ _ ∧ _))
def RightP (l : List Ex) : Prop := l.length ≤ 16384 ∧ ∀ e ∈ l, right1 e
instance (l : List Ex) : Decidable (RightP l) := inferInstanceAs (Decidable (_ ∧ _))
section
variable {w : World} {K : Value → World → Prop}
theorem wrong_spec (e : Ex) (hK : ∀ w1, Ext w w1 → K (.bool (decide (¬ right1 e))) w1) : CALL Tryz.prog 83 #[.agg e.cs.toArray] w K := by
  apply call_extent_wrong
  unfold B_extent_wrong
  refine X_box ?_
  have hx := newB_ext w e.cs.toArray 84
  have hg := newB_get w e.cs.toArray 84
  show X _ _ (newB w e.cs.toArray 84) _
  generalize newB w e.cs.toArray 84 = w1 at hx hg ⊢
  have ho : w1.cell? ⟨w.heap.size, 0 + 33, none⟩ = some (.int .i64 e.off) := (cell_blk hg).trans (by simpa using e.offAt)
  have hl : w1.cell? ⟨w.heap.size, 0 + 34, none⟩ = some (.int .i64 e.len) := (cell_blk hg).trans (by simpa using e.lenAt)
  have no : ¬ right1 e → K (.bool true) w1 := fun h => by have := hK w1 hx; rwa [decide_eq_true h] at this
  have b1 := e.o1
  have b2 := e.o2
  rw [X_field_84_1]
  refine X_of (run_loadAt agg_3 ho) ?_
  rw [X_lss]
  by_cases h1 : e.off < 0
  · have c : decide (e.off < 0) = true := by simpa using h1
    (repeat (simp only [SLB, Int.reduceEq, Int.reduceNe, Int.reduceLT, Int.reduceLE, Int.reduceGT, Int.reduceGE, c]))
    exact no (fun h => by have := h.1; omega)
  have c : decide (e.off < 0) = false := by simpa using h1
  (repeat (simp only [SLB, Int.reduceEq, Int.reduceNe, Int.reduceLT, Int.reduceLE, Int.reduceGT, Int.reduceGE, c, X_field_84_2]))
  refine X_of (run_loadAt agg_3 hl) ?_
  rw [X_lss]
  by_cases h2 : e.len < 1
  · have c : decide (e.len < 1) = true := by simpa using h2
    (repeat (simp only [SLB, Int.reduceEq, Int.reduceNe, Int.reduceLT, Int.reduceLE, Int.reduceGT, Int.reduceGE, c]))
    exact no (fun h => by have := h.2.1; omega)
  have c : decide (e.len < 1) = false := by simpa using h2
  (repeat (simp only [SLB, Int.reduceEq, Int.reduceNe, Int.reduceLT, Int.reduceLE, Int.reduceGT, Int.reduceGE, c, X_field_84_1]))
  refine X_of (run_loadAt agg_3 ho) ?_
  rw [X_gtr]
  by_cases h3 : e.off > 4096
  · have c : decide (e.off > 4096) = true := by simpa using h3
    (repeat (simp only [SLB, Int.reduceEq, Int.reduceNe, Int.reduceLT, Int.reduceLE, Int.reduceGT, Int.reduceGE, c]))
    exact no (fun h => by have := h.2.2.1; omega)
  have c : decide (e.off > 4096) = false := by simpa using h3
  (repeat (simp only [SLB, Int.reduceEq, Int.reduceNe, Int.reduceLT, Int.reduceLE, Int.reduceGT, Int.reduceGE, c, X_field_84_2]))
  refine X_of (run_loadAt agg_3 hl) ?_
  (repeat (simp only [SLB, Int.reduceEq, Int.reduceNe, Int.reduceLT, Int.reduceLE, Int.reduceGT, Int.reduceGE, X_field_84_1]))
  refine X_of (run_loadAt agg_3 ho) ?_
  rw [X_sub, w64 (by omega) (by omega), X_gtr]
  have := hK w1 hx
  have ed : decide (¬ right1 e) = decide (e.len > 4096 - e.off) := by
    apply decide_eq_decide.2
    unfold right1
    omega
  rw [ed] at this
  by_cases h4 : e.len > 4096 - e.off
  · have c : decide (e.len > 4096 - e.off) = true := by simpa using h4
    rw [c] at this
    (repeat (simp only [SLB, Int.reduceEq, Int.reduceNe, Int.reduceLT, Int.reduceLE, Int.reduceGT, Int.reduceGE, c]))
    exact this
  · have c : decide (e.len > 4096 - e.off) = false := by simpa using h4
    rw [c] at this
    (repeat (simp only [SLB, Int.reduceEq, Int.reduceNe, Int.reduceLT, Int.reduceLE, Int.reduceGT, Int.reduceGE, c]))
    exact this
theorem ext_at {v : Value} {l : List Ex} {i : Nat} (hl : RowK 35 Ex.cs w v l) (hi : i < l.length) :
    ∃ g o, (∀ w', (Instr.indexAt 46 v (.int .i64 (i : Int))).run Tryz.prog w' = .ok (.pointer (some ⟨g, o, none⟩)) w') ∧ (∀ j u, l[i].cs[j]? = some u → w.cell? ⟨g, o + j, none⟩ = some u) := by
  obtain ⟨ad, hix, hcs⟩ := hl.at Tryz.underlying46 info_84 sz_84 (kd := .i64) (ii := (i : Int)) i rfl hi
  obtain ⟨g, o, sp⟩ := ad
  have h0 := hcs 0 _ (List.getElem?_eq_getElem (by rw [Ex.cs_len]; omega))
  have : sp = none := by simpa [Addr.add] using World.cell?_spot h0
  subst this
  exact ⟨g, o, hix, fun j u hu => by have := hcs j u hu; rw [add_plain] at this; exact this⟩
theorem run_ext {e : Ex} {g o : Nat} {w0 : World} (hc : ∀ j u, e.cs[j]? = some u → w0.cell? ⟨g, o + j, none⟩ = some u) : (Instr.loadAt 84 (.pointer (some ⟨g, o, none⟩))).run Tryz.prog w0 = .ok (.agg e.cs.toArray) w0 := by
  refine load_cells Tryz.underlying84 agg_84 info_84 (l := e.cs) (by rw [sz_84, Ex.cs_len]) (fun j u hj => ?_)
  rw [add_plain]
  exact hc j u hj
theorem X_takeExt {v : Value} {l : List Ex} {i : Nat} {K : Value → Value → Value → World → Prop} (hl : RowK 35 Ex.cs w v l) (hi : i < l.length)
    (hK : ∀ v1 v2 q w1, Ext w w1 → w.heap.size ≤ q → w1.heap[q]? = some (.cells l[i].cs.toArray 84 (0, 0)) → K v1 v2 (ptr q) w1) :
    X Tryz.prog (Instr.indexAt 46 v (.int .i64 (i : Int))) w fun v1 w1 => X Tryz.prog (Instr.loadAt 84 v1) w1 fun v2 w2 => X Tryz.prog (Instr.alloc 84 true (.tuple #[])) w2 fun v3 w3 => XU Tryz.prog (Instr.storeAt 84 v3 v2) w3 fun w4 => K v1 v2 v3 w4 := by
  obtain ⟨g, o, hix, hc⟩ := ext_at hl hi
  refine X_of (hix _) ?_
  refine X_of (run_ext hc) ?_
  refine X_alloc zero_84 ?_
  have hq := newB_get w (List.replicate 32 (Value.int .u8 0) ++ [Value.int .u32 0] ++ [Value.int .i64 0, Value.int .i64 0]).toArray 84
  have hxq := newB_ext w (List.replicate 32 (Value.int .u8 0) ++ [Value.int .u32 0] ++ [Value.int .i64 0, Value.int .i64 0]).toArray 84
  show XU _ _ (newB w (List.replicate 32 (Value.int .u8 0) ++ [Value.int .u32 0] ++ [Value.int .i64 0, Value.int .i64 0]).toArray 84) _
  generalize newB w (List.replicate 32 (Value.int .u8 0) ++ [Value.int .u32 0] ++ [Value.int .i64 0, Value.int .i64 0]).toArray 84 = w2 at hq hxq ⊢
  refine XU_storeAgg info_84 hq (by rw [sz_84]; simp) (by rw [sz_84, Ex.cs_len]) (Ex.one _) ?_
  exact hK _ _ _ _ (Ext.seq hxq (setAt_keep _ _ _ _ _) (fun j hj => by omega)) (Nat.le_refl _) (setAt_same (lt_of_blk hq))
theorem ext_len {v : Value} {l : List Ex} (h : RowK 35 Ex.cs w v l) : l.length ≤ 9223372036854775807 := by
  obtain ⟨_, c, _, h1, h2, _⟩ := h
  omega
theorem Any_spec {v : Value} {l : List Ex} (hl : RowK 35 Ex.cs w v l) (hn : l.length ≤ 1000000000) (hK : ∀ w1, Ext w w1 → K (.bool (decide (¬ ∀ e ∈ l, right1 e))) w1) : CALL Tryz.prog 82 #[v, .func (.func 83) #[] #[]] w K := by
  obtain ⟨a, c, ev⟩ := hl.slice
  have yes : (∃ e ∈ l, ¬ right1 e) → ∀ w1, Ext w w1 → K (.bool true) w1 := by
    intro h w1 hx
    have := hK w1 hx
    have e : decide (¬ ∀ e ∈ l, right1 e) = true := by
      refine decide_eq_true ?_
      intro h'
      obtain ⟨e, he, hr⟩ := h
      exact hr (h' e he)
    rwa [e] at this
  apply call_slices_ContainsFunc_api_Extent
  unfold B_slices_ContainsFunc_api_Extent
  apply call_slices_IndexFunc_api_Extent
  unfold B_slices_IndexFunc_api_Extent
  rw [ev, X_len_46, ← ev]
  refine loopE (fun ρ wr => ∃ i : Nat, i ≤ l.length ∧ Ext w wr ∧ (∀ e ∈ l.take i, right1 e) ∧ ρ 8 = .int .i64 (i : Int) ∧ ρ 7 = .int .i64 (l.length : Int) ∧ ρ 0 = v ∧ ρ 1 = .func (.func 83) #[] #[])
    (fun ρ wr => match ρ 8 with | .int _ s => (l.length - s).toNat | _ => 0)
    (fun ρ wr => Ext w wr ∧ ∀ e ∈ l, right1 e) ?_ ?_ ?_
  · exact ⟨0, by omega, Keep.refl _ _, by simp, rfl, rfl, rfl, rfl⟩
  · rintro J hJ ρ wr ⟨i, hi, hx, hr, r8, r7, r0, r1⟩
    rw [r8, r7, r0, r1, X_lss, condS_bool]
    by_cases hie : i = l.length
    · rw [if_neg (by simp; omega)]
      rw [hie, List.take_of_length_le (Nat.le_refl _)] at hr
      exact hJ _ _ ⟨hx, hr⟩
    rw [if_pos (by simp; omega)]
    have hlt : i < l.length := by omega
    obtain ⟨g, o, hix, hc⟩ := ext_at (hl.ext hx) hlt
    refine X_of (hix _) ?_
    refine X_of (run_ext hc) ?_
    refine closS_of ?_
    refine wrong_spec l[i] ?_
    intro w1 hx1
    have hx01 := hx.trans hx1
    rw [condS_bool]
    by_cases hw : right1 l[i]
    · rw [if_neg (by simpa using hw), X_add]
      show _ ∧ _
      refine ⟨⟨i + 1, by omega, hx01, ?_, next64 (n := 1000000000) (by decide) (by omega), r7, r0, r1⟩, ?_⟩
      · rw [List.take_succ_eq_append_getElem hlt]
        intro e he
        rcases List.mem_append.1 he with he | he
        · exact hr e he
        · rw [List.mem_singleton.1 he]; exact hw
      · show (_ - IntKind.i64.wrap _).toNat < _
        rw [w64 (by omega) (by omega)]
        first | omega | (show _ < (_ : Int).toNat; omega)
    · rw [if_pos (by simpa using hw)]
      show X _ (binOp .geq 3 (.int .i64 (i : Int)) (.int .i64 0)) _ _
      rw [X_geq]
      have c0 : decide ((i : Int) ≥ 0) = true := by simp
      rw [c0]
      exact yes ⟨_, List.getElem_mem hlt, hw⟩ w1 hx01
  · rintro ρ wr ⟨hx, hr⟩
    show X _ (binOp .geq 3 (.int .i64 (-1)) (.int .i64 0)) _ _
    rw [X_geq]
    have := hK wr hx
    have e : decide (¬ ∀ e ∈ l, right1 e) = false := by simpa using hr
    rw [e] at this
    have c0 : decide ((-1 : Int) ≥ 0) = false := by decide
    rw [c0]
    exact this
theorem Right_spec {v : Value} {l : List Ex} (hl : RowK 35 Ex.cs w v l) (hK : ∀ w1, Ext w w1 → K (.bool (decide (RightP l))) w1) : CALL Tryz.prog 56 #[v] w K := by
  obtain ⟨a, c, ev⟩ := hl.slice
  have hn := ext_len hl
  apply call_extent_Right
  unfold B_extent_Right
  rw [ev, X_len_46, X_leq, ← ev]
  by_cases h : l.length ≤ 16384
  · have c : decide ((l.length : Int) ≤ 16384) = true := by simp; omega
    (repeat (simp only [SLB, Int.reduceEq, Int.reduceNe, Int.reduceLT, Int.reduceLE, Int.reduceGT, Int.reduceGE, c]))
    refine Any_spec hl (by omega) ?_
    intro w1 hx1
    have := hK w1 hx1
    by_cases hr : ∀ e ∈ l, right1 e
    · have e1 : decide (¬ ∀ e ∈ l, right1 e) = false := by simpa using hr
      have e2 : decide (RightP l) = true := decide_eq_true ⟨h, hr⟩
      rw [e2] at this
      (repeat (simp only [SLB, Int.reduceEq, Int.reduceNe, Int.reduceLT, Int.reduceLE, Int.reduceGT, Int.reduceGE, e1]))
      exact this
    · have e1 : decide (¬ ∀ e ∈ l, right1 e) = true := decide_eq_true hr
      have e2 : decide (RightP l) = false := decide_eq_false (fun h => hr h.2)
      rw [e2] at this
      (repeat (simp only [SLB, Int.reduceEq, Int.reduceNe, Int.reduceLT, Int.reduceLE, Int.reduceGT, Int.reduceGE, e1]))
      exact this
  · have c : decide ((l.length : Int) ≤ 16384) = false := by simp; omega
    have e2 : decide (RightP l) = false := decide_eq_false (fun h' => h h'.1)
    have := hK w (Keep.refl _ _)
    rw [e2] at this
    (repeat (simp only [SLB, Int.reduceEq, Int.reduceNe, Int.reduceLT, Int.reduceLE, Int.reduceGT, Int.reduceGE, c]))
    exact this
end
end Go.Proofs.YtcigpjejbkngfaaGreatDoor
end
section
namespace Go.Proofs.YtcigpjejbkngfaaGreatDoor
open Go Go.Sh Go.RowKit
attribute [local irreducible] X XU XP XR CALL loopS resC closS
theorem Ex.ext' {a b : Ex} (h1 : a.k = b.k) (h2 : a.off = b.off) (h3 : a.len = b.len) : a = b := by
  cases a; cases b; simp at h1 h2 h3; subst h1; subst h2; subst h3; rfl
instance : DecidableEq Ex := fun a b => if h1 : a.k = b.k then if h2 : a.off = b.off then if h3 : a.len = b.len then isTrue (Ex.ext' h1 h2 h3) else isFalse (fun h => h3 (by rw [h])) else isFalse (fun h => h2 (by rw [h])) else isFalse (fun h => h1 (by rw [h]))
theorem Ex.cs_take (e : Ex) : e.cs.take 33 = e.k.cs := by
  unfold Ex.cs
  rw [List.take_append_of_le_length (by simp [Ky.cs_len]), List.take_of_length_le (by simp [Ky.cs_len])]
section
variable {w : World} {K : Value → World → Prop}
end
end Go.Proofs.YtcigpjejbkngfaaGreatDoor
end
section
namespace Go.Proofs.YtcigpjejbkngfaaGreatDoor
open Go Go.Sh
attribute [local irreducible] X XU XP XR CALL loopS resC closS
def B_cache_New (x0 : Value) (w : World) (K : Value → World → Prop) : Prop :=
  X Tryz.prog (binOp .lss 3 x0 (.int .i64 0)) w fun v1 w1 =>
  gstep v1 false (fun w2 K => K x0 w2) w1 fun v2 w3 =>
  gstep v1 false (fun w4 K => X Tryz.prog (binOp .gtr 3 v2 (.int .i64 4096)) w4 K) w3 fun v3 w5 =>
  X Tryz.prog (pickS v1 (.bool true) v3) w5 fun v4 w6 =>
  condS v4 (
  K (.tuple #[(.pointer none), (.int .i64 1)]) w6) (
  X Tryz.prog (Instr.makeMap 173 none) w6 fun v5 w7 =>
  X Tryz.prog (Instr.build 175 #[(0, x0), (2, v5)]) w7 fun v6 w8 =>
  X Tryz.prog (Instr.box 175 v6) w8 fun v7 w9 =>
  K (.tuple #[v7, (.int .i64 0)]) w9)
theorem eq_cache_New (x0 : Value) (w : World) (K : Value → World → Prop) :
    sh Tryz.prog (Tryz.f58.body.getD .skip) (retS Tryz.prog Tryz.f58.results K) (env0 #[x0]) w = B_cache_New x0 w K := by kernel_rfl
theorem call_cache_New (x0 : Value) (w : World) (K : Value → World → Prop) (h : B_cache_New x0 w K) : CALL Tryz.prog 58 #[x0] w K :=
  call_of_eq (c := Tryz.f58.body.getD .skip) mixed Tryz.func58 (by kernel_rfl) (by kernel_rfl) (by kernel_rfl) (Nat.le_of_ble_eq_true (by kernel_rfl)) (eq_cache_New x0 w K) h
def B_cache_Cache_Drop (x0 x1 : Value) (w : World) (K : Value → World → Prop) : Prop :=
  CALL Tryz.prog 89 #[x0, x1] w fun v1 w1 =>
  X Tryz.prog (Op.unary .not v1) w1 fun v2 w2 =>
  condS v2 (
  K (.bool false) w2) (
  X Tryz.prog (nilS x0) w2 fun v3 w3 =>
  X Tryz.prog (Instr.fieldAt 175 v3 2) w3 fun v4 w4 =>
  X Tryz.prog (Instr.loadAt 173 v4) w4 fun v5 w5 =>
  X Tryz.prog (Builtin.delete_ #[173, 3] 0 #[v5, x1]) w5 fun _ w6 =>
  X Tryz.prog (nilS x0) w6 fun v6 w7 =>
  X Tryz.prog (Instr.fieldAt 175 v6 1) w7 fun v7 w8 =>
  X Tryz.prog (Instr.loadAt 43 v7) w8 fun v8 w9 =>
  CALL Tryz.prog 98 #[v8, x1] w9 fun v9 w10 =>
  X Tryz.prog (nilS x0) w10 fun v10 w11 =>
  X Tryz.prog (Instr.fieldAt 175 v10 1) w11 fun v11 w12 =>
  X Tryz.prog (Instr.loadAt 43 v11) w12 fun v12 w13 =>
  X Tryz.prog (binOp .add 3 v9 (.int .i64 1)) w13 fun v13 w14 =>
  CALL Tryz.prog 99 #[v12, v9, v13] w14 fun v14 w15 =>
  X Tryz.prog (nilS x0) w15 fun v15 w16 =>
  X Tryz.prog (Instr.fieldAt 175 v15 1) w16 fun v16 w17 =>
  XU Tryz.prog (Instr.storeAt 43 v16 v14) w17 fun w18 =>
  K (.bool true) w18)
theorem eq_cache_Cache_Drop (x0 x1 : Value) (w : World) (K : Value → World → Prop) :
    sh Tryz.prog (Tryz.f74.body.getD .skip) (retS Tryz.prog Tryz.f74.results K) (env0 #[x0, x1]) w = B_cache_Cache_Drop x0 x1 w K := by kernel_rfl
theorem call_cache_Cache_Drop (x0 x1 : Value) (w : World) (K : Value → World → Prop) (h : B_cache_Cache_Drop x0 x1 w K) : CALL Tryz.prog 74 #[x0, x1] w K :=
  call_of_eq (c := Tryz.f74.body.getD .skip) mixed Tryz.func74 (by kernel_rfl) (by kernel_rfl) (by kernel_rfl) (Nat.le_of_ble_eq_true (by kernel_rfl)) (eq_cache_Cache_Drop x0 x1 w K) h
def B_cache_Cache_Get (x0 x1 : Value) (w : World) (K : Value → World → Prop) : Prop :=
  X Tryz.prog (Instr.box 33 x1) w fun v1 w1 =>
  X Tryz.prog (Instr.alloc 104 true (.tuple #[])) w1 fun v2 w2 =>
  X Tryz.prog (binOpG .eql 130 (.tmp 10) (.const (.pointer none)) x0 (.pointer none)) w2 fun v3 w3 =>
  condS v3 (
  X Tryz.prog (Instr.build 104 #[]) w3 fun v4 w4 =>
  XU Tryz.prog (Instr.storeAt 104 v2 v4) w4 fun w5 =>
  resC Tryz.prog 104 v2 w5 fun r0 =>
  K (.tuple #[r0, (.bool false)]) w5) (
  X Tryz.prog (nilS x0) w3 fun v5 w6 =>
  X Tryz.prog (Instr.fieldAt 175 v5 1) w6 fun v6 w7 =>
  X Tryz.prog (Instr.loadAt 43 v6) w7 fun v7 w8 =>
  X Tryz.prog (Builtin.len_ #[43] 3 #[v7]) w8 fun v8 w9 =>
  loopS (fun Q1 ρ1 w10 =>
  X Tryz.prog (binOp .lss 3 (ρ1 18) (ρ1 17)) w10 fun v9 w11 =>
  condS v9 (
  X Tryz.prog (Instr.indexAt 43 (ρ1 16) (ρ1 18)) w11 fun v10 w12 =>
  X Tryz.prog (Instr.loadAt 3 v10) w12 fun v11 w13 =>
  ∃ R, Frame? R ∧
  XP Tryz.prog (nilS (ρ1 0)) (drewW w13) fun v12 w14 =>
  XP Tryz.prog (Instr.fieldAt 175 v12 2) w14 fun v13 w15 =>
  XR Tryz.prog R (Instr.loadAt 173 v13) w15 fun v14 w16 =>
  XR Tryz.prog R (Instr.lookup 173 v14 v11 false) w16 fun v15 w17 =>
  XR Tryz.prog R (Instr.loadAt 33 (ρ1 3)) w17 fun v16 w18 =>
  XR Tryz.prog R (Instr.lookup 142 v15 v16 true) w18 fun v17 w19 =>
  XP Tryz.prog (Instr.extract v17 0) w19 fun v18 w20 =>
  XP Tryz.prog (Instr.extract v17 1) w20 fun v19 w21 =>
  X Tryz.prog (Instr.alloc 104 true (.tuple #[])) w21 fun v20 w22 =>
  R w21 w22 ∧
  XU Tryz.prog (Instr.storeAt 104 v20 v18) w22 fun w23 =>
  condS v19 (
  X Tryz.prog (Instr.loadAt 104 v20) w23 fun v21 w24 =>
  XU Tryz.prog (Instr.storeAt 104 (ρ1 4) v21) w24 fun w25 =>
  Q1 .ret (upds ρ1 [(5, (.bool true)), (34, v21), (33, v19), (9, v19), (8, v20), (32, v19), (31, v18), (22, v17), (30, v17), (29, v16), (28, v15), (27, v11), (26, v14), (25, v13), (24, v12), (23, (ρ1 0)), (7, v11), (21, v11), (20, v10), (19, v9)]) w25) (
  X Tryz.prog (binOp .add 3 (ρ1 18) (.int .i64 1)) w23 fun v22 w26 =>
  Q1 .normal (upds ρ1 [(18, v22), (35, v22), (33, v19), (9, v19), (8, v20), (32, v19), (31, v18), (22, v17), (30, v17), (29, v16), (28, v15), (27, v11), (26, v14), (25, v13), (24, v12), (23, (ρ1 0)), (7, v11), (21, v11), (20, v10), (19, v9)]) w26)) (
  Q1 (.exit 0) (upds ρ1 [(19, v9)]) w11)) (inBlockS 0 (thenS (fun ρ2 w27 =>
  X Tryz.prog (Instr.build 104 #[]) w27 fun v23 w28 =>
  XU Tryz.prog (Instr.storeAt 104 (ρ2 4) v23) w28 fun w29 =>
  resC Tryz.prog 104 (ρ2 4) w29 fun r0 =>
  K (.tuple #[r0, (.bool false)]) w29) (retS Tryz.prog (Tryz.f64).results K))) (upds (env0 #[x0, x1]) [(18, (.int .i64 0)), (17, v8), (16, v7), (15, v6), (14, v5), (13, x0), (11, v3), (10, x0), (5, (.bool false)), (4, v2), (3, v1)]) w9)
theorem eq_cache_Cache_Get (x0 x1 : Value) (w : World) (K : Value → World → Prop) :
    sh Tryz.prog (Tryz.f64.body.getD .skip) (retS Tryz.prog Tryz.f64.results K) (env0 #[x0, x1]) w = B_cache_Cache_Get x0 x1 w K := by kernel_rfl
theorem call_cache_Cache_Get (x0 x1 : Value) (w : World) (K : Value → World → Prop) (h : B_cache_Cache_Get x0 x1 w K) : CALL Tryz.prog 64 #[x0, x1] w K :=
  call_of_eq (c := Tryz.f64.body.getD .skip) mixed Tryz.func64 (by kernel_rfl) (by kernel_rfl) (by kernel_rfl) (Nat.le_of_ble_eq_true (by kernel_rfl)) (eq_cache_Cache_Get x0 x1 w K) h
def B_cache_Cache_Has (x0 x1 : Value) (w : World) (K : Value → World → Prop) : Prop :=
  X Tryz.prog (binOpG .eql 130 (.tmp 7) (.const (.pointer none)) x0 (.pointer none)) w fun v1 w1 =>
  condS v1 (
  K (.bool false) w1) (
  X Tryz.prog (nilS x0) w1 fun v2 w2 =>
  X Tryz.prog (Instr.fieldAt 175 v2 2) w2 fun v3 w3 =>
  X Tryz.prog (Instr.loadAt 173 v3) w3 fun v4 w4 =>
  X Tryz.prog (Instr.lookup 173 v4 x1 true) w4 fun v5 w5 =>
  X Tryz.prog (Instr.extract v5 0) w5 fun v6 w6 =>
  X Tryz.prog (Instr.extract v5 1) w6 fun v7 w7 =>
  K v7 w7)
theorem eq_cache_Cache_Has (x0 x1 : Value) (w : World) (K : Value → World → Prop) :
    sh Tryz.prog (Tryz.f89.body.getD .skip) (retS Tryz.prog Tryz.f89.results K) (env0 #[x0, x1]) w = B_cache_Cache_Has x0 x1 w K := by kernel_rfl
theorem call_cache_Cache_Has (x0 x1 : Value) (w : World) (K : Value → World → Prop) (h : B_cache_Cache_Has x0 x1 w K) : CALL Tryz.prog 89 #[x0, x1] w K :=
  call_of_eq (c := Tryz.f89.body.getD .skip) mixed Tryz.func89 (by kernel_rfl) (by kernel_rfl) (by kernel_rfl) (Nat.le_of_ble_eq_true (by kernel_rfl)) (eq_cache_Cache_Has x0 x1 w K) h
def B_slices_Index_int (x0 x1 : Value) (w : World) (K : Value → World → Prop) : Prop :=
  X Tryz.prog (Builtin.len_ #[43] 3 #[x0]) w fun v1 w1 =>
  loopS (fun Q1 ρ1 w2 =>
  X Tryz.prog (binOp .lss 3 (ρ1 8) (ρ1 7)) w2 fun v2 w3 =>
  condS v2 (
  X Tryz.prog (Instr.indexAt 43 (ρ1 0) (ρ1 8)) w3 fun v3 w4 =>
  X Tryz.prog (Instr.loadAt 3 v3) w4 fun v4 w5 =>
  X Tryz.prog (binOpG .eql 3 (.tmp 11) (.tmp 15) (ρ1 1) v4) w5 fun v5 w6 =>
  condS v5 (
  Q1 .ret (upds ρ1 [(4, (ρ1 8)), (17, (ρ1 8)), (16, v5), (15, v4), (14, v3), (13, (ρ1 8)), (12, (ρ1 0)), (11, (ρ1 1)), (5, (ρ1 8)), (10, (ρ1 8)), (9, v2)]) w6) (
  X Tryz.prog (binOp .add 3 (ρ1 8) (.int .i64 1)) w6 fun v6 w7 =>
  Q1 .normal (upds ρ1 [(8, v6), (18, v6), (16, v5), (15, v4), (14, v3), (13, (ρ1 8)), (12, (ρ1 0)), (11, (ρ1 1)), (5, (ρ1 8)), (10, (ρ1 8)), (9, v2)]) w7)) (
  Q1 (.exit 0) (upds ρ1 [(9, v2)]) w3)) (inBlockS 0 (thenS (fun ρ2 w8 =>
  K (.int .i64 (-1)) w8) (retS Tryz.prog (Tryz.f98).results K))) (upds (env0 #[x0, x1]) [(8, (.int .i64 0)), (7, v1), (6, x0), (4, (.int .i64 0))]) w1
theorem eq_slices_Index_int (x0 x1 : Value) (w : World) (K : Value → World → Prop) :
    sh Tryz.prog (Tryz.f98.body.getD .skip) (retS Tryz.prog Tryz.f98.results K) (env0 #[x0, x1]) w = B_slices_Index_int x0 x1 w K := by kernel_rfl
theorem call_slices_Index_int (x0 x1 : Value) (w : World) (K : Value → World → Prop) (h : B_slices_Index_int x0 x1 w K) : CALL Tryz.prog 98 #[x0, x1] w K :=
  call_of_eq (c := Tryz.f98.body.getD .skip) mixed Tryz.func98 (by kernel_rfl) (by kernel_rfl) (by kernel_rfl) (Nat.le_of_ble_eq_true (by kernel_rfl)) (eq_slices_Index_int x0 x1 w K) h
def B_slices_Delete_int (x0 x1 x2 : Value) (w : World) (K : Value → World → Prop) : Prop :=
  X Tryz.prog (Builtin.len_ #[43] 3 #[x0]) w fun v1 w1 =>
  X Tryz.prog (Instr.sliceAt 43 x0 (some x1) (some x2) (some v1)) w1 fun v2 w2 =>
  X Tryz.prog (binOpG .eql 3 (.tmp 14) (.tmp 15) x1 x2) w2 fun v3 w3 =>
  condS v3 (
  K x0 w3) (
  X Tryz.prog (Builtin.len_ #[43] 3 #[x0]) w3 fun v4 w4 =>
  ∃ R, Frame? R ∧
  XP Tryz.prog (Instr.sliceAt 43 x0 none (some x1) none) (drewW w4) fun v5 w5 =>
  XP Tryz.prog (Instr.sliceAt 43 x0 (some x2) none none) w5 fun v6 w6 =>
  X Tryz.prog (Builtin.append_ #[43, 43] 43 #[v5, v6]) w6 fun v7 w7 =>
  X Tryz.prog (Builtin.len_ #[43] 3 #[v7]) w7 fun v8 w8 =>
  X Tryz.prog (Instr.sliceAt 43 v7 (some v8) (some v4) none) w8 fun v9 w9 =>
  X Tryz.prog (Builtin.clear_ #[43] 0 #[v9]) w9 fun _ w10 =>
  K v7 w10)
theorem eq_slices_Delete_int (x0 x1 x2 : Value) (w : World) (K : Value → World → Prop) :
    sh Tryz.prog (Tryz.f99.body.getD .skip) (retS Tryz.prog Tryz.f99.results K) (env0 #[x0, x1, x2]) w = B_slices_Delete_int x0 x1 x2 w K := by kernel_rfl
theorem call_slices_Delete_int (x0 x1 x2 : Value) (w : World) (K : Value → World → Prop) (h : B_slices_Delete_int x0 x1 x2 w K) : CALL Tryz.prog 99 #[x0, x1, x2] w K :=
  call_of_eq (c := Tryz.f99.body.getD .skip) mixed Tryz.func99 (by kernel_rfl) (by kernel_rfl) (by kernel_rfl) (Nat.le_of_ble_eq_true (by kernel_rfl)) (eq_slices_Delete_int x0 x1 x2 w K) h
end Go.Proofs.YtcigpjejbkngfaaGreatDoor
end
section
namespace Go.Sh
open Go Go.RowKit
theorem setRow_eq {w : World} {g : Nat} {cur cs : Array Value} {T : TypeId} (hg : w.heap[g]? = some (.cells cur T (0, 0))) : w.setRow g cs = setAt w g cs T (0, 0) := by
  unfold World.setRow setAt
  congr 1
  apply Array.ext_getElem?
  intro i
  have hl := lt_of_blk hg
  by_cases hi : i = g
  · subst hi
    rw [Array.getElem?_modify, if_pos rfl, hg]
    simp [hl]
  · rw [Array.getElem?_setIfInBounds_ne (Ne.symm hi), Array.getElem?_modify]
    simp [Ne.symm hi]
section
variable {P : Program} {t k e : TypeId} {w : World} {mb : Nat} {l : List (Value × Value)}
theorem X_delete {ty : TypeId} (K : Maps.Keyed P k) (ht : P.underlying t = some (.map k e)) (hm : MapAt w mb l) (hl : ∀ p ∈ l, ∃ x, keyOf P k p.1 = some x) {key : Value} {kl : Lit} (hkey : keyOf P k key = some kl) (hin : ∃ p ∈ l, p.1 = key) {Q : Value → World → Prop}
    (h : ∀ w1 j p, l[j]? = some p → p.1 = key → MapAt w1 mb (l.eraseIdx j) → Keep (· = mb) w w1 → Q (.tuple #[]) w1) : X P (Builtin.delete_ #[t, k] ty #[.map (some mb), key]) w Q := by
  obtain ⟨es, clock, hb, rfl⟩ := hm
  have hes : ∀ x ∈ es.toList, ∃ y, keyOf P k x.key = some y := fun x hx => hl (x.key, x.val) (List.mem_map.2 ⟨x, hx, rfl⟩)
  rcases K.find w hkey es.toList hes with ⟨h1, h2⟩ | ⟨j, e0, h1, h2, h3⟩
  · obtain ⟨p, hp, hpk⟩ := hin
    obtain ⟨x, hx, rfl⟩ := List.mem_map.1 hp
    exact absurd hpk (h2 x hx)
  · have hr : (Builtin.delete_ #[t, k] ty #[.map (some mb), key]).run P w = .ok (.tuple #[]) { w with heap := w.heap.setIfInBounds mb (.map (es.eraseIdxIfInBounds j) clock) } := by
      simp [Builtin.delete_, run_underlying ht, MapKept.run_getObj_map hb, K.check w _ hkey, h1, MapKept.run_setObj_map _ hb, Result.andThen]
    refine X_of hr (h _ j (e0.key, e0.val) ?_ h3 ⟨es.eraseIdxIfInBounds j, clock, ?_, ?_⟩ ⟨rfl, rfl, rfl, ?_, ?_⟩)
    · rw [List.getElem?_map, h2]; rfl
    · show (w.heap.setIfInBounds mb _)[mb]? = _
      have hlt := lt_of_blk hb
      simp [hlt]
    · have e1 : (es.eraseIdxIfInBounds j).toList = es.toList.eraseIdx j := by
        have hj : j < es.size := by
          have := (List.getElem?_eq_some_iff.1 h2).1
          simpa using this
        rw [Array.eraseIdxIfInBounds, dif_pos hj]
        simp
      rw [e1, List.eraseIdx_eq_take_drop_succ, List.eraseIdx_eq_take_drop_succ, List.map_append, List.map_take, List.map_drop]
    · show _ ≤ (w.heap.setIfInBounds mb _).size
      simp
    · intro i _ hi
      show (w.heap.setIfInBounds mb _)[i]? = _
      rw [Array.getElem?_setIfInBounds_ne (Ne.symm hi)]
end
end Go.Sh
namespace Go.Proofs.YtcigpjejbkngfaaGreatDoor
open Go Go.Sh Go.RowKit
attribute [local irreducible] X XU XP XR CALL loopS resC closS
abbrev intC (n : Int) : List Value := [.int .i64 n]
theorem intC_len : ∀ n : Int, (intC n).length = 1 := fun _ => rfl
def I64 (n : Int) : Prop := -9223372036854775808 ≤ n ∧ n ≤ 9223372036854775807
theorem int_atK (kd : IntKind) {w : World} {v : Value} {l : List Int} {i : Nat} (hl : RowK 1 intC w v l) (hi : i < l.length) :
    ∃ a, (∀ w', (Instr.indexAt 43 v (.int kd (i : Int))).run Tryz.prog w' = .ok (.pointer (some a)) w') ∧ w.cell? a = some (.int .i64 l[i]) ∧ v.ownBlock = some a.block := by
  have hl0 := hl
  obtain ⟨ad, hix, hcs⟩ := hl.at Tryz.underlying43 info_3 sz_3 (kd := kd) (ii := (i : Int)) i rfl hi
  have h0 := hcs 0 _ rfl
  have e : ad.add 0 = ad := by simp [Addr.add]
  rw [e] at h0
  refine ⟨ad, hix, h0, ?_⟩
  obtain ⟨a, c, rfl, h3, h4, h5⟩ := hl0
  obtain ⟨ad', rfl, hc⟩ := h5 (by omega)
  have := ix Tryz.underlying43 info_3 (a := ad') (n := l.length) (c := c) (k := kd) (ii := (i : Int)) i rfl hi w
  have h := (hix w).symm.trans this
  simp only [Result.ok.injEq, Value.pointer.injEq, Option.some.injEq, and_true] at h
  rw [h]
  show some ad'.block = some (ad'.add _).block
  rw [add_block]
theorem int_at {w : World} {v : Value} {l : List Int} {i : Nat} (hl : RowK 1 intC w v l) (hi : i < l.length) :
    ∃ a, (∀ w', (Instr.indexAt 43 v (.int .i64 (i : Int))).run Tryz.prog w' = .ok (.pointer (some a)) w') ∧ w.cell? a = some (.int .i64 l[i]) ∧ v.ownBlock = some a.block := int_atK .i64 hl hi
theorem wf_i64 {n : Int} (h : I64 n) : (Lit.int .i64 n).wf = true := by
  unfold I64 at h
  simp [Lit.wf, IntKind.min, IntKind.max, IntKind.signed, IntKind.bits]
  omega
theorem keyed3 : Maps.Keyed Tryz.prog 3 := Maps.int_keyed Tryz.underlying3
theorem keyOf_i64 {n : Int} (h : I64 n) : keyOf Tryz.prog 3 (.int .i64 n) = some (.int .i64 n) := Maps.keyOf_int_mk Tryz.underlying3 (wf_i64 h)
section
variable {w : World} {K : Value → World → Prop}
theorem Index_spec {v : Value} {l : List Int} {s : Int} (hl : RowK 1 intC w v l) (hn : l.length ≤ 1000000) (hs : s ∈ l) (hK : ∀ i (h : i < l.length), l[i] = s → K (.int .i64 (i : Int)) w) : CALL Tryz.prog 98 #[v, .int .i64 s] w K := by
  obtain ⟨a, c, ev⟩ := hl.slice
  apply call_slices_Index_int
  unfold B_slices_Index_int
  rw [ev, X_len_43, ← ev]
  refine loopGR 0 (fun ρ wr => ∃ i : Nat, i ≤ l.length ∧ wr = w ∧ (∀ j (h : j < l.length), j < i → l[j] ≠ s) ∧ ρ 8 = .int .i64 (i : Int) ∧ ρ 7 = .int .i64 (l.length : Int) ∧ ρ 0 = v ∧ ρ 1 = .int .i64 s)
    (fun ρ wr => match ρ 8 with | .int _ s => (l.length - s).toNat | _ => 0)
    (fun ρ wr => False) (fun ρ wr => wr = w ∧ ∃ i, ∃ h : i < l.length, l[i] = s ∧ ρ 4 = .int .i64 (i : Int)) ?_ ?_ ?_ ?_
  · exact ⟨0, by omega, rfl, fun j h h' => by omega, rfl, rfl, rfl, rfl⟩
  · rintro J hJ hJR ρ wr ⟨i, hi, rfl, hno, r8, r7, r0, r1⟩
    rw [r8, r7, r0, r1, X_lss, condS_bool]
    by_cases hie : i = l.length
    · obtain ⟨j, hj, hjs⟩ := List.mem_iff_getElem.1 hs
      exact absurd hjs (hno j hj (by omega))
    rw [if_pos (by simp; omega)]
    have hlt : i < l.length := by omega
    obtain ⟨g, hix, hc, _⟩ := int_at hl hlt
    refine X_of (hix _) ?_
    refine X_of (run_loadAt agg_3 hc) ?_
    rw [X_eql, condS_bool]
    by_cases he : s = l[i]
    · rw [if_pos (by simpa using he)]
      exact hJR _ _ ⟨rfl, i, hlt, he.symm, rfl⟩
    · rw [if_neg (by simpa using he), X_add]
      show _ ∧ _
      refine ⟨⟨i + 1, by omega, rfl, fun j h h' => ?_, next64 (n := 1000000) (by decide) (by omega), r7, r0, r1⟩, ?_⟩
      · by_cases hj : j = i
        · subst hj; exact fun h2 => he h2.symm
        · exact hno j h (by omega)
      · show (_ - IntKind.i64.wrap _).toNat < _
        rw [w64 (by omega) (by omega)]
        first | omega | (show _ < (_ : Int).toNat; omega)
  · intro ρ wr h
    exact h.elim
  · rintro ρ wr ⟨rfl, i, hi, h1, r4⟩
    show K (ρ 4) _
    rw [r4]
    exact hK i hi h1
theorem run_slice3i {T e : TypeId} {P : Program} (hT : P.underlying T = some (.slice e)) (hi : infoB P e = true) (a : Option Addr) (n c : Nat) (lo hi' mx : Nat) (h1 : lo ≤ hi') (h2 : hi' ≤ mx) (h3 : mx ≤ c) (w : World) :
    ∃ u, (Instr.sliceAt T (.slice a n c) (some (.int .i64 lo)) (some (.int .i64 hi')) (some (.int .i64 mx))).run P w = .ok u w := by
  refine ⟨.slice (if mx = lo then a else a.map (·.add (lo * szT P e))) (hi' - lo) (mx - lo), ?_⟩
  simp [Instr.sliceAt, Instr.slice, run_underlying hT, Instr.sliceBounds, Instr.sliceBound, asIntOf, sizeOf_run hi, h1, h2, h3]
theorem cellsK_int (l : List Int) : cellsK intC l = l.map (fun n => Value.int .i64 n) := by
  unfold cellsK
  induction l with
  | nil => rfl
  | cons a l ih => simp [ih]
theorem Delete_spec {base : Nat} {v : Value} {l : List Int} {i : Nat} (ho : OwnK 1 3 intC w base v l) (hi : i < l.length) (hn : l.length ≤ 1000000)
    (hK : ∀ v' w1, OwnK 1 3 intC w1 base v' (l.take i ++ l.drop (i + 1)) → v'.ownBlock = v.ownBlock → Keep (fun g => v.ownBlock = some g) w w1 → K v' w1) : CALL Tryz.prog 99 #[v, .int .i64 (i : Int), .int .i64 ((i + 1 : Nat) : Int)] w K := by
  rcases id ho.2 with ⟨_, h0⟩ | ⟨g, cap, cur, hv, hg, hh, hnc, hm, hs, ht⟩
  · omega
  rw [Nat.mul_one] at ht hs
  subst hv
  simp only [maxLen] at hm
  apply call_slices_Delete_int
  unfold B_slices_Delete_int
  rw [X_len_43]
  obtain ⟨u3, hu3⟩ := run_slice3i (P := Tryz.prog) Tryz.underlying43 info_3 (some ⟨g, 0, none⟩) l.length cap i (i + 1) l.length (by omega) (by omega) hnc w
  refine X_of hu3 ?_
  have c : decide ((i : Int) = ((i + 1 : Nat) : Int)) = false := decide_eq_false (by omega)
  (repeat (simp only [SLB, Int.reduceEq, Int.reduceNe, Int.reduceLT, Int.reduceLE, Int.reduceGT, Int.reduceGE, c]))
  have kd := Keep.drew (fun _ => False) w
  have hhd : (drewW w).heap[g]? = some (.cells cur 3 (0, 0)) := hh
  refine ⟨Ext, Ext.frame, ?_⟩
  generalize drewW w = wd at kd hhd ⊢
  refine XP_of (fun w' => sl_hi Tryz.underlying43 info_3 i rfl (by omega) w') ?_
  refine XP_of (fun w' => sl_lo Tryz.underlying43 info_3 (i + 1) rfl (by omega) w') ?_
  have hcl : (cellsK intC l) = l.map (fun n => Value.int .i64 n) := cellsK_int l
  rw [hcl] at ht
  have hget : ∀ j (h : j < l.length), cur[j]? = some (.int .i64 l[j]) := by
    intro j h
    have := congrArg (fun x => x[j]?) ht
    simp only [List.getElem?_take, if_pos h, List.getElem?_map, List.getElem?_eq_getElem h, Option.map_some] at this
    simpa using this
  have hnews : ∀ j u, ((l.drop (i + 1)).map (fun n => Value.int .i64 n))[j]? = some u → wd.cell? ((if cap = i + 1 then (⟨g, 0, none⟩ : Addr) else (⟨g, 0, none⟩ : Addr).add ((i + 1) * szT Tryz.prog 3)).add j) = some u := by
    intro j u hu
    rw [List.getElem?_map, List.getElem?_drop] at hu
    obtain ⟨x, hx, rfl⟩ := Option.map_eq_some_iff.1 hu
    have hlt := (List.getElem?_eq_some_iff.1 hx).1
    rw [if_neg (by omega), sz_3, Nat.mul_one, add_plain, add_plain, cell_blk hhd, Nat.zero_add, hget _ hlt]
    exact congrArg (fun y => some (Value.int .i64 y)) (List.getElem?_eq_some_iff.1 hx).2
  obtain ⟨ti, hti, htsz⟩ : ∃ ti, Tryz.prog.info? 3 = some ti ∧ ti.size = 1 := by
    have h1 := info_3
    have h2 := sz_3
    unfold infoB at h1
    unfold szT at h2
    cases hx : Tryz.prog.info? 3 with
    | none => rw [hx] at h1; cases h1
    | some ti => rw [hx] at h2; exact ⟨ti, rfl, h2⟩
  have ev : (if cap = i + 1 then some (⟨g, 0, none⟩ : Addr) else (some (⟨g, 0, none⟩ : Addr)).map (·.add ((i + 1) * szT Tryz.prog 3))) = some (if cap = i + 1 then (⟨g, 0, none⟩ : Addr) else (⟨g, 0, none⟩ : Addr).add ((i + 1) * szT Tryz.prog 3)) := by
    split <;> rfl
  rw [ev]
  have hl2 : ((l.drop (i + 1)).map (fun n => Value.int .i64 n)).length = l.length - (i + 1) := by simp
  have hr := run_append_room (P := Tryz.prog) wd 43 43 3 ti Tryz.underlying43 hti g i cap cur hhd _ (l.length - (i + 1)) (cap - (i + 1)) _ (by rw [hl2, htsz, Nat.mul_one]) hnews (by intro u hu; obtain ⟨x, _, rfl⟩ := List.mem_map.1 hu; rfl) (by omega) (by rw [htsz, hl2]; omega)
  rw [htsz, Nat.mul_one, hl2, setRow_eq hhd] at hr
  refine X_of hr ?_
  have hk2 := setAt_keep wd g (cur.toList.take i ++ (l.drop (i + 1)).map (fun n => Value.int .i64 n) ++ cur.toList.drop (i + (l.length - (i + 1)))).toArray 3 (0, 0)
  have hg2 : (setAt wd g (cur.toList.take i ++ (l.drop (i + 1)).map (fun n => Value.int .i64 n) ++ cur.toList.drop (i + (l.length - (i + 1)))).toArray 3 (0, 0)).heap[g]? = some (.cells (cur.toList.take i ++ (l.drop (i + 1)).map (fun n => Value.int .i64 n) ++ cur.toList.drop (i + (l.length - (i + 1)))).toArray 3 (0, 0)) := setAt_same (lt_of_blk hhd)
  have hcs : (cur.toList.take i ++ (l.drop (i + 1)).map (fun n => Value.int .i64 n) ++ cur.toList.drop (i + (l.length - (i + 1)))).length = cap := by
    simp only [List.length_append, List.length_take, List.length_drop, List.length_map, Array.length_toList]
    omega
  have htk : (cur.toList.take i ++ (l.drop (i + 1)).map (fun n => Value.int .i64 n) ++ cur.toList.drop (i + (l.length - (i + 1)))).take (l.length - 1) = (l.take i ++ l.drop (i + 1)).map (fun n => Value.int .i64 n) := by
    have e1 : cur.toList.take i = (l.take i).map (fun n => Value.int .i64 n) := by
      have : cur.toList.take i = (cur.toList.take l.length).take i := by rw [List.take_take, Nat.min_eq_left (by omega)]
      rw [this, ht, List.map_take]
    rw [e1, ← List.map_append]
    refine List.take_left' ?_
    simp
    omega
  generalize (cur.toList.take i ++ (l.drop (i + 1)).map (fun n => Value.int .i64 n) ++ cur.toList.drop (i + (l.length - (i + 1)))) = cs2 at hk2 hg2 hcs htk ⊢
  generalize setAt wd g cs2.toArray 3 (0, 0) = w2 at hk2 hg2 ⊢
  have hlen2 : i + (l.length - (i + 1)) = l.length - 1 := by omega
  rw [hlen2, X_len_43]
  refine X_of (sl_both Tryz.underlying43 info_3 (l.length - 1) l.length rfl rfl (by omega) hnc _) ?_
  have hone : l.length - (l.length - 1) = 1 := by omega
  rw [if_neg (by omega), sz_3, Nat.mul_one, hone]
  have hclr := Go.Lib.run_clear_slice (P := Tryz.prog) w2 43 3 0 (.int .i64 0) Tryz.underlying43 (fun w => zeroValue_run zero_3 w) rfl rfl g (l.length - 1) 1 (cap - (l.length - 1)) (by decide)
    (fun j hj => by
      have hj0 : j = 0 := by omega
      subst hj0
      rw [cell_blk hg2, Nat.add_zero, Array.getElem?_eq_getElem (by simp; omega)]
      rfl) (fun j hj => frozen_no hg2)
  have e3 : (some (⟨g, 0, none⟩ : Addr)).map (·.add (l.length - 1)) = some ⟨g, l.length - 1, none⟩ := by
    rw [Option.map_some, add_plain, Nat.zero_add]
  rw [e3]
  refine X_of hclr ?_
  have e4 : w2.setCells g (l.length - 1) (List.replicate 1 (.int .i64 0)) = setAt w2 g (cs2.toArray.setIfInBounds (l.length - 1) (.int .i64 0)) 3 (0, 0) := by
    show w2.setCell ⟨g, l.length - 1, none⟩ (.int .i64 0) = _
    exact setCell_setAt hg2
  rw [e4]
  have hk3 := setAt_keep w2 g (cs2.toArray.setIfInBounds (l.length - 1) (.int .i64 0)) 3 (0, 0)
  have hg3 : (setAt w2 g (cs2.toArray.setIfInBounds (l.length - 1) (.int .i64 0)) 3 (0, 0)).heap[g]? = some (.cells (cs2.toArray.setIfInBounds (l.length - 1) (.int .i64 0)) 3 (0, 0)) := setAt_same (lt_of_blk hg2)
  generalize setAt w2 g (cs2.toArray.setIfInBounds (l.length - 1) (.int .i64 0)) 3 (0, 0) = w3 at hk3 hg3 ⊢
  have hll : (l.take i ++ l.drop (i + 1)).length = l.length - 1 := by simp; omega
  refine hK _ _ ?_ rfl ?_
  · unfold OwnK
    rw [hll]
    refine ⟨by rw [cellsK_len intC_len, hll], .inr ⟨g, cap, _, rfl, hg, hg3, by omega, by simp only [maxLen]; omega, by simp [hcs], ?_⟩⟩
    rw [cellsK_int, ← htk, Nat.mul_one, Array.toList_setIfInBounds, List.take_set_of_le (by omega)]
  · have := Keep.trans (Keep.trans (Keep.ext (D := (· = g)) kd) hk2) hk3
    exact this.mono (fun q _ hq => by rw [hq]; rfl)
end
end Go.Proofs.YtcigpjejbkngfaaGreatDoor
end
section
set_option maxRecDepth 8000
namespace Go.Proofs.YtcigpjejbkngfaaGreatDoor
open Go Go.Sh Go.RowKit
attribute [local irreducible] X XU XP XR CALL loopS resC closS
def w8 (u : UInt8) : W32 := BitVec.ofNat 32 u.toNat
def wordW (l : List UInt8) : W32 := (((w8 (l.getD 0 0) <<< 24) ||| (w8 (l.getD 1 0) <<< 16)) ||| (w8 (l.getD 2 0) <<< 8)) ||| w8 (l.getD 3 0)
def plX (k : Ky) : W32 := wordW (k.sum.take 4) + BitVec.ofNat 32 k.num
def plS (k : Ky) : W32 := wordW ((k.sum.drop 4).take 4) ||| 1
def plI (k : Ky) : Nat → W32
  | 0 => plX k
  | n + 1 => plI k n + plS k
def plc (k : Ky) (bits i : Nat) : Nat := (plI k i).toNat % bits
def bitAt (bs : List UInt8) (p : Nat) : Bool := (bs.getD (p / 8) 0).toNat.testBit (p % 8)
def setB (bs : List UInt8) (p : Nat) : List UInt8 := bs.set (p / 8) (UInt8.ofNat ((bs.getD (p / 8) 0).toNat ||| 2 ^ (p % 8)))
theorem or_lt {n p : Nat} (h : n < 256) : n ||| 2 ^ (p % 8) < 256 := by
  have h2 : 2 ^ (p % 8) < 2 ^ 8 := Nat.pow_lt_pow_right (by decide) (by omega)
  exact Nat.or_lt_two_pow (n := 8) h h2
theorem getD_set_self {l : List UInt8} {i : Nat} {u : UInt8} (h : i < l.length) : (l.set i u).getD i 0 = u := by simp [List.getD_eq_getElem?_getD, h]
theorem getD_set_ne {l : List UInt8} {i j : Nat} {u : UInt8} (h : i ≠ j) : (l.set i u).getD j 0 = l.getD j 0 := by simp [List.getD_eq_getElem?_getD, List.getElem?_set_ne h]
theorem bit_new {bs : List UInt8} {p : Nat} (h : p / 8 < bs.length) : bitAt (setB bs p) p = true := by
  unfold bitAt setB
  rw [getD_set_self h, UInt8.toNat_ofNat', Nat.mod_eq_of_lt (or_lt (UInt8.toNat_lt _)), Nat.testBit_or, Nat.testBit_two_pow_self]
  simp
theorem bit_old {bs : List UInt8} {p q : Nat} (h : p / 8 < bs.length) (hq : bitAt bs q = true) : bitAt (setB bs p) q = true := by
  unfold bitAt setB at *
  by_cases he : p / 8 = q / 8
  · rw [← he, getD_set_self h, UInt8.toNat_ofNat', Nat.mod_eq_of_lt (or_lt (UInt8.toNat_lt _)), Nat.testBit_or]
    rw [← he] at hq
    rw [hq]
    simp
  · rw [getD_set_ne he]
    exact hq
theorem bts_at {w : World} {v : Value} {l : List UInt8} (hb : Bts w v l) {i : Nat} {k : IntKind} (h : i < l.length) : ∃ a, (∀ w', (Instr.indexAt 28 v (.int k (i : Int))).run Tryz.prog w' = .ok (.pointer (some a)) w') ∧ w.cell? a = some (.int .u8 (((l.getD i 0).toNat : Nat) : Int)) := by
  obtain ⟨a, c, rfl, h1, h2, h3⟩ := hb
  obtain ⟨ad, rfl, hc⟩ := h3 (by omega)
  refine ⟨ad.add i, fun w' => by rw [ix Tryz.underlying28 info_5 i rfl h w', sz_5, Nat.mul_one], ?_⟩
  have := hc i (l.getD i 0) (by simp [List.getD_eq_getElem?_getD, h])
  exact this
section
variable {w : World} {K : Value → World → Prop}
theorem word_spec {v : Value} {l : List UInt8} (hb : Bts w v l) (h4 : l.length = 4) (hK : ∀ w1, Ext w w1 → K (U32 (wordW l)) w1) : CALL Tryz.prog 109 #[v] w K := by
  apply call_bloom_word
  unfold B_bloom_word
  have at_ : ∀ i : Nat, i < 4 → ∃ a, (∀ w', (Instr.indexAt 28 v (.int .i64 (i : Int))).run Tryz.prog w' = .ok (.pointer (some a)) w') ∧ w.cell? a = some (.int .u8 (((l.getD i 0).toNat : Nat) : Int)) := fun i hi => bts_at hb (by omega)
  obtain ⟨a0, i0, c0⟩ := at_ 0 (by decide)
  obtain ⟨a1, i1, c1⟩ := at_ 1 (by decide)
  obtain ⟨a2, i2, c2⟩ := at_ 2 (by decide)
  obtain ⟨a3, i3, c3⟩ := at_ 3 (by decide)
  have kd := Keep.drew (fun _ => False) w
  refine ⟨Ext, Ext.frame, ?_⟩
  generalize drewW w = wd at kd ⊢
  refine XP_of i0 ?_
  refine XR_ok Ext.frame (fun w' kk => run_loadAt agg_5 (Keep.cell (kd.trans kk) (fun h => h) c0)) ?_
  refine XR_all (fun w' => u32_of_u8 Tryz.underlying5 Tryz.underlying31 (l.getD 0 0) w') ?_
  refine XP_of (fun w' => u32_shl 31 .u64 _ 24 (by decide) w') ?_
  refine XP_of i1 ?_
  refine XR_ok Ext.frame (fun w' kk => run_loadAt agg_5 (Keep.cell (kd.trans kk) (fun h => h) c1)) ?_
  refine XR_all (fun w' => u32_of_u8 Tryz.underlying5 Tryz.underlying31 (l.getD 1 0) w') ?_
  refine XP_of (fun w' => u32_shl 31 .u64 _ 16 (by decide) w') ?_
  refine XP_of (fun w' => u32_or 31 _ _ w') ?_
  refine XP_of i2 ?_
  refine XR_ok Ext.frame (fun w' kk => run_loadAt agg_5 (Keep.cell (kd.trans kk) (fun h => h) c2)) ?_
  refine XR_all (fun w' => u32_of_u8 Tryz.underlying5 Tryz.underlying31 (l.getD 2 0) w') ?_
  refine XP_of (fun w' => u32_shl 31 .u64 _ 8 (by decide) w') ?_
  refine XP_of (fun w' => u32_or 31 _ _ w') ?_
  refine XP_of i3 ?_
  refine XR_ok Ext.frame (fun w' kk => run_loadAt agg_5 (Keep.cell (kd.trans kk) (fun h => h) c3)) ?_
  refine XR_all (fun w' => u32_of_u8 Tryz.underlying5 Tryz.underlying31 (l.getD 3 0) w') ?_
  refine XP_of (fun w' => u32_or 31 _ _ w') ?_
  exact hK _ kd
theorem beach_spec {vb bits probes : Nat} {f : FuncId} {k : Ky} {I : Nat → World → Prop} (hb : 0 < bits) (hb2 : bits ≤ 1048576) (hp : probes ≤ 30) (h0 : I 0 w) (hvb : ∀ i w, I i w → ∃ vs, w.heap[vb]? = some (.cells #[vs, .int .i64 (bits : Int), .int .i64 (probes : Int)] 172 (0, 0)))
    (hext : ∀ i w w', I i w → Ext w w' → I i w')
    (hstep : ∀ i w, i < probes → I i w → ∀ K : Value → World → Prop, (∀ w', I (i + 1) w' → K (.bool true) w') → CALL Tryz.prog f #[ptr vb, .int .u32 ((plc k bits i : Nat) : Int)] w K)
    (hK : ∀ w1, I probes w1 → K (.bool true) w1) : CALL Tryz.prog 88 #[ptr vb, k.v, .func (.func f) #[ptr vb] #[]] w K := by
  obtain ⟨vs, hg⟩ := hvb 0 w h0
  apply call_bloom_Vector_each
  unfold B_bloom_Vector_each
  refine X_box ?_
  have hx1 := newB_ext w k.v.cells 33
  have hk1 : (newB w k.v.cells 33).heap[w.heap.size]? = some (.cells k.cs.toArray 33 (0, 0)) := newB_get w k.v.cells 33
  generalize newB w k.v.cells 33 = w1 at hx1 hk1 ⊢
  generalize w.heap.size = kb at hk1 ⊢
  have hI1 := hext 0 w w1 h0 hx1
  have c : decide ((bits : Int) = 0) = false := decide_eq_false (by omega)
  (repeat (simp only [SLB, Int.reduceEq, Int.reduceNe, Int.reduceLT, Int.reduceLE, Int.reduceGT, Int.reduceGE, X_field_172_1]))
  refine X_of (run_loadAt (v := .int .i64 (bits : Int)) agg_3 ((cell_blk (Ext.get hx1 hg)).trans rfl)) ?_
  (repeat (simp only [SLB, Int.reduceEq, Int.reduceNe, Int.reduceLT, Int.reduceLE, Int.reduceGT, Int.reduceGE, c]))
  have kd := Keep.drew (fun _ => False) w1
  have hId := hext 0 w1 _ hI1 kd
  have hkd : (drewW w1).heap[kb]? = some (.cells k.cs.toArray 33 (0, 0)) := hk1
  refine ⟨Ext, Ext.frame, ?_⟩
  generalize drewW w1 = wd at hId hkd ⊢
  have hsum : ∀ {i : Nat}, i < 32 → k.cs.toArray[i]? = some (.int .u8 (((k.sum.getD i 0).toNat : Nat) : Int)) := fun {i} hi => by
    have h1 := B8_at (l := k.sum) (i := i) (by rw [k.len]; exact hi)
    rw [List.getElem?_toArray]
    unfold Ky.cs
    rw [List.getElem?_append_left (by simp [k.len]; omega)]
    exact h1
  have b1 : ∀ w', Ext wd w' → Bts w' (.slice (some ⟨kb, 0, none⟩) 4 32) (k.sum.take 4) := fun w' kk => by
    have e : (k.sum.take 4).length = 4 := by simp [k.len]
    have : Bts w' (.slice (some ⟨kb, 0, none⟩) (k.sum.take 4).length 32) (k.sum.take 4) := ⟨_, 32, rfl, by omega, by decide, fun _ => ⟨_, rfl, fun j u hj => by
      rw [add_plain, Nat.zero_add, cell_blk (Ext.get kk hkd)]
      rw [List.getElem?_take] at hj
      split at hj
      · rw [hsum (by omega)]
        simp [List.getD_eq_getElem?_getD, hj]
      · cases hj⟩⟩
    rw [e] at this
    exact this
  have b2 : ∀ w', Ext wd w' → Bts w' (.slice (some ⟨kb, 4, none⟩) 4 28) ((k.sum.drop 4).take 4) := fun w' kk => by
    have e : ((k.sum.drop 4).take 4).length = 4 := by simp [k.len]
    have : Bts w' (.slice (some ⟨kb, 4, none⟩) ((k.sum.drop 4).take 4).length 28) ((k.sum.drop 4).take 4) := ⟨_, 28, rfl, by omega, by decide, fun _ => ⟨_, rfl, fun j u hj => by
      rw [add_plain, cell_blk (Ext.get kk hkd)]
      rw [List.getElem?_take] at hj
      split at hj
      · rw [List.getElem?_drop] at hj
        rw [hsum (by omega)]
        simp [List.getD_eq_getElem?_getD, hj]
      · cases hj⟩⟩
    rw [e] at this
    exact this
  rw [XP_field_33_0]
  refine XP_of (fun w' => run_slice_arr_hi Tryz.underlying30 info_5 _ .i64 4 (by decide) w') ?_
  rw [XP_field_33_1]
  have hnum : k.cs.toArray[32]? = some (.int .u32 (k.num : Int)) := by
    rw [List.getElem?_toArray]
    unfold Ky.cs
    rw [List.getElem?_append_right (by simp [k.len])]
    simp [k.len]
  refine XR_ok Ext.frame (fun w' kk => run_loadAt (v := .int .u32 (k.num : Int)) agg_31 ((cell_blk (Ext.get kk hkd)).trans hnum)) ?_
  rw [XP_field_33_0]
  refine XP_of (fun w' => run_slice_arr Tryz.underlying30 info_5 _ .i64 .i64 4 8 (by decide) (by decide) w') ?_
  rw [if_neg (by decide), sz_5, add_plain]
  refine word_spec (b1 wd (Keep.refl _ _)) (by simp [k.len]) ?_
  intro w2 hx2
  refine ⟨hx2, ?_⟩
  have en : Value.int .u32 (k.num : Int) = U32 (BitVec.ofNat 32 k.num) := by
    unfold U32
    rw [BitVec.toNat_ofNat, Nat.mod_eq_of_lt k.lt]
  rw [en]
  refine XP_of (fun w' => u32_add 31 _ _ w') ?_
  refine word_spec (b2 w2 hx2) (by simp [k.len]) ?_
  intro w3 hx3
  refine ⟨hx3, ?_⟩
  refine XP_of (fun w' => u32_or 31 _ 1 w') ?_
  have hI3 := hext 0 _ _ hId (hx2.trans hx3)
  obtain ⟨vs3, hg3⟩ := hvb 0 w3 hI3
  (repeat (simp only [SLB, Int.reduceEq, Int.reduceNe, Int.reduceLT, Int.reduceLE, Int.reduceGT, Int.reduceGE, X_field_172_2]))
  refine X_of (run_loadAt (v := .int .i64 (probes : Int)) agg_3 ((cell_blk hg3).trans rfl)) ?_
  refine loopG 0 (fun ρ wr => ∃ i : Nat, i ≤ probes ∧ I i wr ∧ ρ 32 = .int .i64 (i : Int) ∧ ρ 31 = .int .i64 (probes : Int) ∧ ρ 7 = U32 (plI k i) ∧ ρ 8 = U32 (plS k) ∧ ρ 0 = ptr vb ∧ ρ 2 = .func (.func f) #[ptr vb] #[])
    (fun ρ wr => match ρ 32 with | .int _ s => (probes - s).toNat | _ => 0)
    (fun ρ wr => I probes wr) ?_ ?_ ?_
  · exact ⟨0, by omega, hI3, rfl, rfl, rfl, rfl, rfl, rfl⟩
  · rintro J hJ ρ wr ⟨i, hi, hI, r32, r31, r7, r8, r0, r2⟩
    rw [r32, r31, r7, r8, r0, r2, X_lss, condS_bool]
    by_cases hie : i = probes
    · rw [if_neg (by simp; omega)]
      rw [hie] at hI
      exact hJ _ _ hI
    rw [if_pos (by simp; omega)]
    obtain ⟨vsr, hgr⟩ := hvb i wr hI
    (repeat (simp only [SLB, Int.reduceEq, Int.reduceNe, Int.reduceLT, Int.reduceLE, Int.reduceGT, Int.reduceGE, X_field_172_1]))
    refine X_of (run_loadAt (v := .int .i64 (bits : Int)) agg_3 ((cell_blk hgr).trans rfl)) ?_
    rw [X_conv_3_31, wrap_u32, Int.emod_eq_of_lt (by omega) (by omega)]
    have er : (binOp .rem 31 (U32 (plI k i)) (.int .u32 (bits : Int))).run Tryz.prog wr = .ok (.int .u32 ((plc k bits i : Nat) : Int)) wr := by
      unfold U32 plc
      rw [run_rem _ _ _ _ (by omega), Int.tmod_eq_emod_of_nonneg (by omega)]
      rfl
    refine X_of er ?_
    refine closS_of ?_
    refine hstep i wr (by omega) hI _ ?_
    intro w' hI'
    (repeat (simp only [SLB, Int.reduceEq, Int.reduceNe, Int.reduceLT, Int.reduceLE, Int.reduceGT, Int.reduceGE]))
    refine X_of (u32_add 31 _ _ _) ?_
    rw [X_add]
    show _ ∧ _
    refine ⟨⟨i + 1, by omega, hI', next64 (n := 1000) (by decide) (by omega), r31, rfl, r8, r0, r2⟩, ?_⟩
    show (_ - IntKind.i64.wrap _).toNat < _
    rw [w64 (by omega) (by omega)]
    first | omega | (show _ < (_ : Int).toNat; omega)
  · intro ρ wr hI
    exact hK wr hI
end
end Go.Proofs.YtcigpjejbkngfaaGreatDoor
end
section
set_option maxRecDepth 8000
namespace Go.Proofs.YtcigpjejbkngfaaGreatDoor
open Go Go.Sh Go.RowKit
attribute [local irreducible] X XU XP XR CALL loopS resC closS plc plI
structure VecAt (w : World) (D : Nat → Prop) (vb bits probes : Nat) (ks : List Ky) : Prop where
  ex : ∃ (vs : Value) (bs : List UInt8), w.heap[vb]? = some (.cells #[vs, .int .i64 (bits : Int), .int .i64 (probes : Int)] 172 (0, 0)) ∧ w.ownsRow 0 5 1 vs bs.length (B8 bs) ∧ bs.length = (bits + 7) / 8 ∧
    (0 < bits → ∀ k ∈ ks, ∀ i < probes, bitAt bs (plc k bits i) = true) ∧ ∀ g, vs.ownBlock = some g → D g
  vb : D vb
  lt : ∀ g, D g → g < w.heap.size
  small : bits ≤ 1048576
  probes : probes ≤ 30
theorem VecAt.keep {w w1 : World} {D E : Nat → Prop} {vb bits probes : Nat} {ks : List Ky} (h : VecAt w D vb bits probes ks) (k : Keep E w w1) (hd : ∀ g, D g → ¬ E g) : VecAt w1 D vb bits probes ks := by
  obtain ⟨⟨vs, bs, h1, h2, h3, h4, h5⟩, hb, hlt, hs, hp⟩ := h
  exact ⟨⟨vs, bs, k.get (hd _ hb) h1, own_keepD h2 k (fun g hg => hd _ (h5 g hg)), h3, h4, h5⟩, hb, fun g hg => by have := hlt g hg; have := k.size; omega, hs, hp⟩
theorem VecAt.ext {w w1 : World} {D : Nat → Prop} {vb bits probes : Nat} {ks : List Ky} (h : VecAt w D vb bits probes ks) (k : Ext w w1) : VecAt w1 D vb bits probes ks := h.keep k (fun _ _ h => h)
theorem u8_shr1 (a : UInt8) (j : Nat) (hj : j < 8) (w : World) : (binOp .shr 5 (.int .u8 ((a.toNat : Nat) : Int)) (.int .u32 (j : Int))).run Tryz.prog w = .ok (.int .u8 ((a.toNat / 2 ^ j : Nat) : Int)) w := by
  rw [run_shr _ _ (by omega) w]
  have e1 : min ((j : Int).toNat) IntKind.u8.bits = j := by show min _ 8 = _; omega
  rw [e1, fdiv_pow]
theorem u8_and1 (n : Nat) (hn : n < 256) (w : World) : (binOp .and 5 (.int .u8 (n : Int)) (.int .u8 1)).run Tryz.prog w = .ok (.int .u8 ((n % 2 : Nat) : Int)) w := by
  have e : n &&& 1 = n % 2 := Nat.and_two_pow_sub_one_eq_mod n 1
  have := run_and (P := Tryz.prog) (k := .u8) 5 n 1 (by exact hn) (by decide) (by rw [e, wrap_u8]; omega) w
  rw [e] at this
  exact this
theorem u8_shl1 (j : Nat) (hj : j < 8) (w : World) : (binOp .shl 5 (.int .u8 1) (.int .u32 (j : Int))).run Tryz.prog w = .ok (.int .u8 ((2 ^ j : Nat) : Int)) w := by
  rw [run_shl _ _ (by omega) w]
  have e1 : min ((j : Int).toNat) IntKind.u8.bits = j := by show min _ 8 = _; omega
  have h2 : 2 ^ j < 256 := (by
    have : 2 ^ j < 2 ^ 8 := Nat.pow_lt_pow_right (by decide) hj
    exact this)
  rw [e1, wrap_u8, Int.one_mul, Int.emod_eq_of_lt]
  · congr 2
  · exact_mod_cast Nat.zero_le (2 ^ j)
  · exact_mod_cast h2
theorem u32_and7 (p : Nat) (hp : p < 4294967296) (w : World) : (binOp .and 31 (.int .u32 (p : Int)) (.int .u32 7)).run Tryz.prog w = .ok (.int .u32 ((p % 8 : Nat) : Int)) w := by
  have e : p &&& 7 = p % 8 := Nat.and_two_pow_sub_one_eq_mod p 3
  have := run_and (P := Tryz.prog) (k := .u32) 31 p 7 (by exact hp) (by decide) (by rw [e, wrap_u32]; omega) w
  rw [e] at this
  exact this
theorem u32_shr3 (p : Nat) (w : World) : (binOp .shr 31 (.int .u32 (p : Int)) (.int .u64 3)).run Tryz.prog w = .ok (.int .u32 ((p / 8 : Nat) : Int)) w := by
  rw [run_shr _ _ (by decide) w]
  have e1 : min ((3 : Int).toNat) IntKind.u32.bits = 3 := rfl
  rw [e1, fdiv_pow]
theorem own_btsB {w : World} {base : Nat} {v : Value} {bs : List UInt8} (h : w.ownsRow base 5 1 v bs.length (B8 bs)) : Bts w v bs := (own_bts h).1
theorem run_build_172 (a : Option Addr) (n c : Nat) (x y : Int) (w : World) : (Instr.build 172 #[(0, .slice a n c), (1, .int .i64 x), (2, .int .i64 y)]).run Tryz.prog w = .ok (.agg #[.slice a n c, .int .i64 x, .int .i64 y]) w := by kernel_rfl
section
variable {w : World} {K : Value → World → Prop}
theorem is_spec {vb : Nat} {vs p1 p2 : Value} {bs : List UInt8} {p : Nat} (hg : w.heap[vb]? = some (.cells #[vs, p1, p2] 172 (0, 0))) (hb : Bts w vs bs) (hp : p / 8 < bs.length) (hp2 : p < 4294967296) (hK : K (.bool (bitAt bs p)) w) : CALL Tryz.prog 87 #[ptr vb, .int .u32 (p : Int)] w K := by
  apply call_bloom_Vector_is
  unfold B_bloom_Vector_is
  (repeat (simp only [SLB, Int.reduceEq, Int.reduceNe, Int.reduceLT, Int.reduceLE, Int.reduceGT, Int.reduceGE, X_field_172_0]))
  refine X_of (run_loadAt (v := vs) agg_28 ((cell_blk hg).trans rfl)) ?_
  refine X_of (u32_shr3 p _) ?_
  obtain ⟨a, hix, hc⟩ := bts_at hb (k := .u32) hp
  refine X_of (hix _) ?_
  refine X_of (run_loadAt agg_5 hc) ?_
  refine X_of (u32_and7 p hp2 _) ?_
  have hu := UInt8.toNat_lt (bs.getD (p / 8) 0)
  refine X_of (u8_shr1 _ (p % 8) (by omega) _) ?_
  refine X_of (u8_and1 _ (Nat.lt_of_le_of_lt (Nat.div_le_self _ _) hu) _) ?_
  have e : decide (((((bs.getD (p / 8) 0).toNat / 2 ^ (p % 8)) % 2 : Nat) : Int) = 1) = bitAt bs p := by
    unfold bitAt
    rw [Nat.testBit_eq_decide_div_mod_eq]
    apply Bool.eq_iff_iff.2
    simp only [decide_eq_true_eq]
    omega
  refine X_of (run_eql 5 .u8 _ _ _ _ w) ?_
  rw [e]
  exact hK
theorem set_spec {vb : Nat} {vs p1 p2 : Value} {bs : List UInt8} {p : Nat} (hg : w.heap[vb]? = some (.cells #[vs, p1, p2] 172 (0, 0))) (ho : w.ownsRow 0 5 1 vs bs.length (B8 bs)) (hp : p / 8 < bs.length) (hp2 : p < 4294967296)
    (hK : ∀ w1, Keep (fun g => vs.ownBlock = some g) w w1 → w1.ownsRow 0 5 1 vs (setB bs p).length (B8 (setB bs p)) → K (.bool true) w1) : CALL Tryz.prog 100 #[ptr vb, .int .u32 (p : Int)] w K := by
  have hb := own_btsB ho
  apply call_bloom_Vector_set
  unfold B_bloom_Vector_set
  (repeat (simp only [SLB, Int.reduceEq, Int.reduceNe, Int.reduceLT, Int.reduceLE, Int.reduceGT, Int.reduceGE, X_field_172_0]))
  refine X_of (run_loadAt (v := vs) agg_28 ((cell_blk hg).trans rfl)) ?_
  refine X_of (u32_shr3 p _) ?_
  obtain ⟨a, hix, hc⟩ := bts_at hb (k := .u32) hp
  refine X_of (hix _) ?_
  refine X_of (run_loadAt agg_5 hc) ?_
  refine X_of (u32_and7 p hp2 _) ?_
  have hu := UInt8.toNat_lt (bs.getD (p / 8) 0)
  refine X_of (u8_shl1 (p % 8) (by omega) _) ?_
  have h2 : 2 ^ (p % 8) < 2 ^ 8 := Nat.pow_lt_pow_right (by decide) (by omega)
  refine X_of (run_or (k := .u8) rfl 5 _ _ hu h2 _) ?_
  rcases ho.2 with ⟨_, h0⟩ | ⟨g, cap, cur, hv, hgb, hh, hnc, hm, hs, ht⟩
  · omega
  rw [Nat.mul_one] at ht hs
  subst hv
  refine X_of (ix Tryz.underlying28 info_5 (p / 8) rfl hp _) ?_
  rw [sz_5, Nat.mul_one, add_plain, Nat.zero_add]
  refine XU_store info_5 sz_5 rfl hh (by rw [hs]; omega) (by show ¬ (0 ≤ _ ∧ _ < 0); omega) ?_
  refine hK _ ((setAt_keep _ _ _ _ _).mono (fun q _ hq => by rw [hq]; rfl)) ?_
  have hl : (setB bs p).length = bs.length := by simp [setB]
  rw [hl]
  refine ⟨by simp [setB], .inr ⟨g, cap, _, rfl, hgb, setAt_same (lt_of_blk hh), hnc, hm, by simp [hs], ?_⟩⟩
  rw [Nat.mul_one, Array.toList_setIfInBounds]
  have e : (cur.toList.set (p / 8) (.int .u8 (((bs.getD (p / 8) 0).toNat ||| 2 ^ (p % 8) : Nat) : Int))).take bs.length = (cur.toList.take bs.length).set (p / 8) (.int .u8 (((bs.getD (p / 8) 0).toNat ||| 2 ^ (p % 8) : Nat) : Int)) := by
    rw [List.take_set]
  rw [e, ht]
  unfold setB B8
  rw [List.map_set]
  congr 3
  rw [UInt8.toNat_ofNat', Nat.mod_eq_of_lt (or_lt hu)]
theorem plc_lt {k : Ky} {bits i : Nat} (hb : 0 < bits) : plc k bits i < bits := by unfold plc; exact Nat.mod_lt _ hb
theorem May_spec {D : Nat → Prop} {vb bits probes : Nat} {ks : List Ky} {k : Ky} (h : VecAt w D vb bits probes ks) (hk : k ∈ ks) (hK : ∀ w1, Ext w w1 → K (.bool true) w1) : CALL Tryz.prog 63 #[ptr vb, k.v] w K := by
  obtain ⟨⟨vs, bs, h1, h2, h3, h4, h5⟩, hvb, hlt, hs, hp⟩ := h
  apply call_bloom_Vector_May
  unfold B_bloom_Vector_May
  refine X_box ?_
  have hx1 := newB_ext w k.v.cells 33
  have hk1 : (newB w k.v.cells 33).heap[w.heap.size]? = some (.cells k.cs.toArray 33 (0, 0)) := newB_get w k.v.cells 33
  generalize newB w k.v.cells 33 = w1 at hx1 hk1 ⊢
  refine X_of (w1 := w1) (v := .func (.func 87) #[ptr vb] #[]) rfl ?_
  refine X_of (load_cells Tryz.underlying33 agg_33 info_33 (l := k.cs) (by rw [sz_33, Ky.cs_len]) (fun j u hj => by rw [add_plain, Nat.zero_add, cell_blk hk1]; rw [← List.getElem?_toArray] at hj; exact hj)) ?_
  show CALL _ 88 #[_, k.v, _] _ _
  by_cases hb0 : bits = 0
  · apply call_bloom_Vector_each
    unfold B_bloom_Vector_each
    refine X_box ?_
    have hx2 := newB_ext w1 k.v.cells 33
    have c : decide ((bits : Int) = 0) = true := decide_eq_true (by omega)
    generalize newB w1 k.v.cells 33 = w2 at hx2 ⊢
    (repeat (simp only [SLB, Int.reduceEq, Int.reduceNe, Int.reduceLT, Int.reduceLE, Int.reduceGT, Int.reduceGE, X_field_172_1]))
    refine X_of (run_loadAt (v := .int .i64 (bits : Int)) agg_3 ((cell_blk (Ext.get (hx1.trans hx2) h1)).trans rfl)) ?_
    (repeat (simp only [SLB, Int.reduceEq, Int.reduceNe, Int.reduceLT, Int.reduceLE, Int.reduceGT, Int.reduceGE, c]))
    exact hK _ (hx1.trans hx2)
  · refine beach_spec (I := fun _ w' => Ext w w') (by omega) hs hp hx1 (fun i w' hi => ⟨vs, Ext.get hi h1⟩) (fun i w' w'' hi hx => hi.trans hx) (fun i w' hi hI K' hK' => ?_) (fun w' hI => ?_)
    · have hpl := plc_lt (k := k) (i := i) (show 0 < bits by omega)
      refine is_spec (Ext.get hI h1) (Bts.ext (own_btsB h2) hI) (by rw [h3]; omega) (by omega) ?_
      rw [h4 (by omega) k hk i hi]
      exact hK' _ hI
    · exact hK _ hI
theorem Add_spec {D : Nat → Prop} {vb bits probes : Nat} {ks : List Ky} {k : Ky} (h : VecAt w D vb bits probes ks) (hK : ∀ w1, Keep D w w1 → VecAt w1 D vb bits probes (ks ++ [k]) → K (.tuple #[]) w1) : CALL Tryz.prog 75 #[ptr vb, k.v] w K := by
  obtain ⟨⟨vs, bs, h1, h2, h3, h4, h5⟩, hvb, hlt, hs, hp⟩ := h
  have hne : vs.ownBlock ≠ some vb := own_neT h2 h1 (by decide)
  apply call_bloom_Vector_Add
  unfold B_bloom_Vector_Add
  refine X_box ?_
  have hx1 := newB_ext w k.v.cells 33
  have hk1 : (newB w k.v.cells 33).heap[w.heap.size]? = some (.cells k.cs.toArray 33 (0, 0)) := newB_get w k.v.cells 33
  generalize newB w k.v.cells 33 = w1 at hx1 hk1 ⊢
  refine X_of (w1 := w1) (v := .func (.func 100) #[ptr vb] #[]) rfl ?_
  refine X_of (load_cells Tryz.underlying33 agg_33 info_33 (l := k.cs) (by rw [sz_33, Ky.cs_len]) (fun j u hj => by rw [add_plain, Nat.zero_add, cell_blk hk1]; rw [← List.getElem?_toArray] at hj; exact hj)) ?_
  show CALL _ 88 #[_, k.v, _] _ _
  by_cases hb0 : bits = 0
  · apply call_bloom_Vector_each
    unfold B_bloom_Vector_each
    refine X_box ?_
    have hx2 := newB_ext w1 k.v.cells 33
    have c : decide ((bits : Int) = 0) = true := decide_eq_true (by omega)
    generalize newB w1 k.v.cells 33 = w2 at hx2 ⊢
    (repeat (simp only [SLB, Int.reduceEq, Int.reduceNe, Int.reduceLT, Int.reduceLE, Int.reduceGT, Int.reduceGE, X_field_172_1]))
    refine X_of (run_loadAt (v := .int .i64 (bits : Int)) agg_3 ((cell_blk (Ext.get (hx1.trans hx2) h1)).trans rfl)) ?_
    (repeat (simp only [SLB, Int.reduceEq, Int.reduceNe, Int.reduceLT, Int.reduceLE, Int.reduceGT, Int.reduceGE, c]))
    have hx := hx1.trans hx2
    refine hK _ (Keep.ext hx) ⟨⟨vs, bs, Ext.get hx h1, own_extD h2 hx, h3, fun h => by omega, h5⟩, hvb, fun g hg => by have := hlt g hg; have := hx.size; omega, hs, hp⟩
  · refine beach_spec (I := fun n w' => Keep (fun g => vs.ownBlock = some g) w w' ∧ ∃ bs' : List UInt8, w'.ownsRow 0 5 1 vs bs'.length (B8 bs') ∧ bs'.length = bs.length ∧ (∀ q, bitAt bs q = true → bitAt bs' q = true) ∧ ∀ i < n, bitAt bs' (plc k bits i) = true) (by omega) hs hp
      ⟨Keep.ext hx1, bs, own_extD h2 hx1, rfl, fun _ h => h, fun i hi => by omega⟩ (fun i w' hi => ⟨vs, hi.1.get hne h1⟩) (fun i w' w'' hi hx => ?_) (fun i w' hi hI K' hK' => ?_) (fun w' hI => ?_)
    · obtain ⟨a1, bs', a2, a3, a4, a5⟩ := hi
      exact ⟨a1.trans (Keep.ext hx), bs', own_extD a2 hx, a3, a4, a5⟩
    · obtain ⟨a1, bs', a2, a3, a4, a5⟩ := hI
      have hpl := plc_lt (k := k) (i := i) (show 0 < bits by omega)
      have hin : plc k bits i / 8 < bs'.length := by rw [a3, h3]; omega
      refine set_spec (a1.get hne h1) a2 hin (by omega) ?_
      intro w2 hk2 ho2
      refine hK' _ ⟨a1.trans hk2, setB bs' (plc k bits i), ho2, by simp [setB, a3], fun q hq => bit_old hin (a4 q hq), fun j hj => ?_⟩
      by_cases hji : j = i
      · subst hji; exact bit_new hin
      · exact bit_old hin (a5 j (by omega))
    · obtain ⟨a1, bs', a2, a3, a4, a5⟩ := hI
      refine hK _ (a1.mono (fun g _ hg => h5 g hg)) ⟨⟨vs, bs', a1.get hne h1, a2, by rw [a3]; exact h3, fun hb k' hk' i hi => ?_, h5⟩, hvb, fun g hg => by have := hlt g hg; have := a1.size; omega, hs, hp⟩
      rcases List.mem_append.1 hk' with hk' | hk'
      · exact a4 _ (h4 hb k' hk' i hi)
      · rw [List.mem_singleton.1 hk']
        exact a5 i hi
theorem BNew_spec {bits probes : Nat} (hb : bits ≤ 1048576) (hp : probes ≤ 30) (hK : ∀ vb w1, Ext w w1 → VecAt w1 (fun g => w.heap.size ≤ g ∧ g < w1.heap.size) vb bits probes [] → K (.tuple #[ptr vb, .int .i64 0]) w1) : CALL Tryz.prog 57 #[.int .i64 (bits : Int), .int .i64 (probes : Int)] w K := by
  apply call_bloom_New
  unfold B_bloom_New
  have c1 : decide ((bits : Int) < 0) = false := decide_eq_false (by omega)
  have c2 : decide ((bits : Int) > 1048576) = false := decide_eq_false (by omega)
  have c3 : decide ((probes : Int) < 0) = false := decide_eq_false (by omega)
  have c4 : decide ((probes : Int) > 30) = false := decide_eq_false (by omega)
  (repeat (simp only [SLB, Int.reduceEq, Int.reduceNe, Int.reduceLT, Int.reduceLE, Int.reduceGT, Int.reduceGE, c1, c2, c3, c4]))
  refine X_of (addN 3 (a := bits) (b := 7) (by omega) _) ?_
  have es : (binOp .shr 3 (.int .i64 ((bits + 7 : Nat) : Int)) (.int .u64 3)).run Tryz.prog w = .ok (.int .i64 (((bits + 7) / 8 : Nat) : Int)) w := by
    rw [run_shr _ _ (by decide) w]
    have e1 : min ((3 : Int).toNat) IntKind.i64.bits = 3 := rfl
    rw [e1, fdiv_pow]
  refine X_of es ?_
  have hn : (bits + 7) / 8 ≤ 200000 := by omega
  generalize hnn : (bits + 7) / 8 = n at hn
  refine X_make Tryz.underlying28 el_5 n n rfl rfl (Nat.le_refl _) (by omega) (by omega) ?_
  have hcells : madeCells (Value.int .u8 0).cells (n * 1) = (B8 (List.replicate n 0)).toArray := by
    rw [Nat.mul_one]
    apply Array.ext'
    have : (Value.int .u8 0).cells = #[Value.int .u8 0] := rfl
    rw [this, made_one]
    unfold B8
    rw [List.map_replicate]
    rfl
  rw [hcells]
  have hx1 := newB_ext w (B8 (List.replicate n 0)).toArray 5
  have hg1 := newB_get w (B8 (List.replicate n 0)).toArray 5
  have hs1 : (newB w (B8 (List.replicate n 0)).toArray 5).heap.size = w.heap.size + 1 := newB_size _ _ _
  generalize newB w (B8 (List.replicate n 0)).toArray 5 = w1 at hx1 hg1 hs1 ⊢
  refine X_of (run_build_172 _ _ _ _ _ _) ?_
  refine X_box ?_
  have hx2 := newB_ext w1 (Value.agg #[.slice (some ⟨w.heap.size, 0, none⟩) n n, .int .i64 (bits : Int), .int .i64 (probes : Int)]).cells 172
  have hg2 : (newB w1 (Value.agg #[.slice (some ⟨w.heap.size, 0, none⟩) n n, .int .i64 (bits : Int), .int .i64 (probes : Int)]).cells 172).heap[w1.heap.size]? = some (.cells #[.slice (some ⟨w.heap.size, 0, none⟩) n n, .int .i64 (bits : Int), .int .i64 (probes : Int)] 172 (0, 0)) := newB_get _ _ _
  have hs2 : (newB w1 (Value.agg #[.slice (some ⟨w.heap.size, 0, none⟩) n n, .int .i64 (bits : Int), .int .i64 (probes : Int)]).cells 172).heap.size = w1.heap.size + 1 := newB_size _ _ _
  generalize newB w1 (Value.agg #[.slice (some ⟨w.heap.size, 0, none⟩) n n, .int .i64 (bits : Int), .int .i64 (probes : Int)]).cells 172 = w2 at hx2 hg2 hs2 ⊢
  have hl : (List.replicate n (0 : UInt8)).length = n := List.length_replicate ..
  refine hK _ w2 (hx1.trans hx2) ⟨⟨_, List.replicate n 0, hg2, ?_, by rw [hl, ← hnn], by simp, fun g hg => ?_⟩, by omega, fun g hg => hg.2, hb, hp⟩
  · rw [hl]
    exact ⟨by simp, .inr ⟨w.heap.size, n, _, rfl, Nat.zero_le _, Ext.get hx2 hg1, Nat.le_refl _, by simp only [maxLen]; omega, by simp, by rw [Nat.mul_one]; exact List.take_of_length_le (by simp)⟩⟩
  · have hg' : w.heap.size = g := by simpa [Value.ownBlock] using hg
    show w.heap.size ≤ g ∧ g < w2.heap.size
    omega
end
end Go.Proofs.YtcigpjejbkngfaaGreatDoor
end
section
namespace Go.Proofs.YtcigpjejbkngfaaGreatDoor
open Go Go.Sh
attribute [local irreducible] X XU XP XR CALL loopS resC closS
def B_cmp_Or_int_ (x0 : Value) (w : World) (K : Value → World → Prop) : Prop :=
  X Tryz.prog (Builtin.len_ #[43] 3 #[x0]) w fun v1 w1 =>
  loopS (fun Q1 ρ1 w2 =>
  X Tryz.prog (binOp .lss 3 (ρ1 8) (ρ1 7)) w2 fun v2 w3 =>
  condS v2 (
  X Tryz.prog (Instr.indexAt 43 (ρ1 6) (ρ1 8)) w3 fun v3 w4 =>
  X Tryz.prog (Instr.loadAt 3 v3) w4 fun v4 w5 =>
  X Tryz.prog (binOpG .neq 3 (.tmp 12) (.tmp 13) v4 (ρ1 3)) w5 fun v5 w6 =>
  condS v5 (
  Q1 .ret (upds ρ1 [(2, v4), (15, v4), (14, v5), (13, (ρ1 3)), (12, v4), (5, v4), (11, v4), (10, v3), (9, v2)]) w6) (
  X Tryz.prog (binOp .add 3 (ρ1 8) (.int .i64 1)) w6 fun v6 w7 =>
  Q1 .normal (upds ρ1 [(8, v6), (16, v6), (14, v5), (13, (ρ1 3)), (12, v4), (5, v4), (11, v4), (10, v3), (9, v2)]) w7)) (
  Q1 (.exit 0) (upds ρ1 [(9, v2)]) w3)) (inBlockS 0 (thenS (fun ρ2 w8 =>
  K (ρ2 3) w8) (retS Tryz.prog (Tryz.f112).results K))) (upds (env0 #[x0]) [(8, (.int .i64 0)), (7, v1), (6, x0), (3, (.int .i64 0)), (2, (.int .i64 0))]) w1
theorem eq_cmp_Or_int_ (x0 : Value) (w : World) (K : Value → World → Prop) :
    sh Tryz.prog (Tryz.f112.body.getD .skip) (retS Tryz.prog Tryz.f112.results K) (env0 #[x0]) w = B_cmp_Or_int_ x0 w K := by kernel_rfl
theorem call_cmp_Or_int_ (x0 : Value) (w : World) (K : Value → World → Prop) (h : B_cmp_Or_int_ x0 w K) : CALL Tryz.prog 112 #[x0] w K :=
  call_of_eq (c := Tryz.f112.body.getD .skip) mixed Tryz.func112 (by kernel_rfl) (by kernel_rfl) (by kernel_rfl) (Nat.le_of_ble_eq_true (by kernel_rfl)) (eq_cmp_Or_int_ x0 w K) h
def B_cmp_Compare_int_ (x0 x1 : Value) (w : World) (K : Value → World → Prop) : Prop :=
  CALL Tryz.prog 129 #[x0] w fun v1 w1 =>
  CALL Tryz.prog 129 #[x1] w1 fun v2 w2 =>
  condS v1 (
  condS v2 (
  K (.int .i64 0) w2) (
  K (.int .i64 (-1)) w2)) (
  condS v2 (
  K (.int .i64 1) w2) (
  X Tryz.prog (binOp .lss 3 x0 x1) w2 fun v3 w3 =>
  condS v3 (
  K (.int .i64 (-1)) w3) (
  X Tryz.prog (binOp .gtr 3 x0 x1) w3 fun v4 w4 =>
  condS v4 (
  K (.int .i64 1) w4) (
  K (.int .i64 0) w4))))
theorem eq_cmp_Compare_int_ (x0 x1 : Value) (w : World) (K : Value → World → Prop) :
    sh Tryz.prog (Tryz.f113.body.getD .skip) (retS Tryz.prog Tryz.f113.results K) (env0 #[x0, x1]) w = B_cmp_Compare_int_ x0 x1 w K := by kernel_rfl
theorem call_cmp_Compare_int_ (x0 x1 : Value) (w : World) (K : Value → World → Prop) (h : B_cmp_Compare_int_ x0 x1 w K) : CALL Tryz.prog 113 #[x0, x1] w K :=
  call_of_eq (c := Tryz.f113.body.getD .skip) mixed Tryz.func113 (by kernel_rfl) (by kernel_rfl) (by kernel_rfl) (Nat.le_of_ble_eq_true (by kernel_rfl)) (eq_cmp_Compare_int_ x0 x1 w K) h
def B_cmp_Compare_uint32_ (x0 x1 : Value) (w : World) (K : Value → World → Prop) : Prop :=
  CALL Tryz.prog 132 #[x0] w fun v1 w1 =>
  CALL Tryz.prog 132 #[x1] w1 fun v2 w2 =>
  condS v1 (
  condS v2 (
  K (.int .i64 0) w2) (
  K (.int .i64 (-1)) w2)) (
  condS v2 (
  K (.int .i64 1) w2) (
  X Tryz.prog (binOp .lss 31 x0 x1) w2 fun v3 w3 =>
  condS v3 (
  K (.int .i64 (-1)) w3) (
  X Tryz.prog (binOp .gtr 31 x0 x1) w3 fun v4 w4 =>
  condS v4 (
  K (.int .i64 1) w4) (
  K (.int .i64 0) w4))))
theorem eq_cmp_Compare_uint32_ (x0 x1 : Value) (w : World) (K : Value → World → Prop) :
    sh Tryz.prog (Tryz.f131.body.getD .skip) (retS Tryz.prog Tryz.f131.results K) (env0 #[x0, x1]) w = B_cmp_Compare_uint32_ x0 x1 w K := by kernel_rfl
theorem call_cmp_Compare_uint32_ (x0 x1 : Value) (w : World) (K : Value → World → Prop) (h : B_cmp_Compare_uint32_ x0 x1 w K) : CALL Tryz.prog 131 #[x0, x1] w K :=
  call_of_eq (c := Tryz.f131.body.getD .skip) mixed Tryz.func131 (by kernel_rfl) (by kernel_rfl) (by kernel_rfl) (Nat.le_of_ble_eq_true (by kernel_rfl)) (eq_cmp_Compare_uint32_ x0 x1 w K) h
def B_cmp_isNaN_int_ (x0 : Value) (w : World) (K : Value → World → Prop) : Prop :=
  X Tryz.prog (binOpG .neq 3 (.tmp 3) (.tmp 4) x0 x0) w fun v1 w1 =>
  K v1 w1
theorem eq_cmp_isNaN_int_ (x0 : Value) (w : World) (K : Value → World → Prop) :
    sh Tryz.prog (Tryz.f129.body.getD .skip) (retS Tryz.prog Tryz.f129.results K) (env0 #[x0]) w = B_cmp_isNaN_int_ x0 w K := by kernel_rfl
theorem call_cmp_isNaN_int_ (x0 : Value) (w : World) (K : Value → World → Prop) (h : B_cmp_isNaN_int_ x0 w K) : CALL Tryz.prog 129 #[x0] w K :=
  call_of_eq (c := Tryz.f129.body.getD .skip) mixed Tryz.func129 (by kernel_rfl) (by kernel_rfl) (by kernel_rfl) (Nat.le_of_ble_eq_true (by kernel_rfl)) (eq_cmp_isNaN_int_ x0 w K) h
def B_cmp_isNaN_uint32_ (x0 : Value) (w : World) (K : Value → World → Prop) : Prop :=
  X Tryz.prog (binOpG .neq 31 (.tmp 3) (.tmp 4) x0 x0) w fun v1 w1 =>
  K v1 w1
theorem eq_cmp_isNaN_uint32_ (x0 : Value) (w : World) (K : Value → World → Prop) :
    sh Tryz.prog (Tryz.f132.body.getD .skip) (retS Tryz.prog Tryz.f132.results K) (env0 #[x0]) w = B_cmp_isNaN_uint32_ x0 w K := by kernel_rfl
theorem call_cmp_isNaN_uint32_ (x0 : Value) (w : World) (K : Value → World → Prop) (h : B_cmp_isNaN_uint32_ x0 w K) : CALL Tryz.prog 132 #[x0] w K :=
  call_of_eq (c := Tryz.f132.body.getD .skip) mixed Tryz.func132 (by kernel_rfl) (by kernel_rfl) (by kernel_rfl) (Nat.le_of_ble_eq_true (by kernel_rfl)) (eq_cmp_isNaN_uint32_ x0 w K) h
def B_slices_BinarySearch_uint32 (x0 x1 : Value) (w : World) (K : Value → World → Prop) : Prop :=
  X Tryz.prog (Builtin.len_ #[141] 3 #[x0]) w fun v1 w1 =>
  loopS (fun Q1 ρ1 w2 =>
  X Tryz.prog (binOp .lss 3 (ρ1 7) (ρ1 8)) w2 fun v2 w3 =>
  condS v2 (
  X Tryz.prog (binOp .add 3 (ρ1 7) (ρ1 8)) w3 fun v3 w4 =>
  X Tryz.prog (convert 3 118 v3) w4 fun v4 w5 =>
  X Tryz.prog (binOp .shr 118 v4 (.int .u64 1)) w5 fun v5 w6 =>
  X Tryz.prog (convert 118 3 v5) w6 fun v6 w7 =>
  X Tryz.prog (Instr.indexAt 141 (ρ1 0) v6) w7 fun v7 w8 =>
  X Tryz.prog (Instr.loadAt 31 v7) w8 fun v8 w9 =>
  CALL Tryz.prog 119 #[v8, (ρ1 1)] w9 fun v9 w10 =>
  condS v9 (
  X Tryz.prog (binOp .add 3 v6 (.int .i64 1)) w10 fun v10 w11 =>
  Q1 .normal (upds ρ1 [(7, v10), (29, v10), (28, v6), (27, v9), (26, (ρ1 1)), (25, v8), (24, v7), (23, v6), (22, (ρ1 0)), (9, v6), (21, v6), (20, v5), (19, v4), (18, v3), (17, (ρ1 8)), (16, (ρ1 7)), (15, v2), (14, (ρ1 8)), (13, (ρ1 7))]) w11) (
  Q1 .normal (upds ρ1 [(8, v6), (30, v6), (27, v9), (26, (ρ1 1)), (25, v8), (24, v7), (23, v6), (22, (ρ1 0)), (9, v6), (21, v6), (20, v5), (19, v4), (18, v3), (17, (ρ1 8)), (16, (ρ1 7)), (15, v2), (14, (ρ1 8)), (13, (ρ1 7))]) w10)) (
  Q1 (.exit 0) (upds ρ1 [(15, v2), (14, (ρ1 8)), (13, (ρ1 7))]) w3)) (inBlockS 0 (thenS (fun ρ2 w12 =>
  X Tryz.prog (binOp .lss 3 (ρ2 7) (ρ2 6)) w12 fun v11 w13 =>
  gstep v11 true (fun w14 K => K (ρ2 0) w14) w13 fun v12 w15 =>
  gstep v11 true (fun w16 K => K (ρ2 7) w16) w15 fun v13 w17 =>
  gstep v11 true (fun w18 K => X Tryz.prog (Instr.indexAt 141 v12 v13) w18 K) w17 fun v14 w19 =>
  gstep v11 true (fun w20 K => X Tryz.prog (Instr.loadAt 31 v14) w20 K) w19 fun v15 w21 =>
  gstep v11 true (fun w22 K => K (ρ2 1) w22) w21 fun v16 w23 =>
  gstep v11 true (fun w24 K => X Tryz.prog (binOpG .eql 31 (.tmp 39) (.tmp 40) v15 v16) w24 K) w23 fun v17 w25 =>
  gstep v11 true (fun w26 K => K v17 w26) w25 fun v18 w27 =>
  gstep v18 false (fun w28 K => K (ρ2 0) w28) w27 fun v19 w29 =>
  gstep v18 false (fun w30 K => K (ρ2 7) w30) w29 fun v20 w31 =>
  gstep v18 false (fun w32 K => X Tryz.prog (Instr.indexAt 141 v19 v20) w32 K) w31 fun v21 w33 =>
  gstep v18 false (fun w34 K => X Tryz.prog (Instr.loadAt 31 v21) w34 K) w33 fun v22 w35 =>
  gstep v18 false (fun w36 K => CALL Tryz.prog 120 #[v22] w36 K) w35 fun v23 w37 =>
  gstep v18 false (fun w38 K => K v23 w38) w37 fun v24 w39 =>
  gstep v24 true (fun w40 K => K (ρ2 1) w40) w39 fun v25 w41 =>
  gstep v24 true (fun w42 K => CALL Tryz.prog 120 #[v25] w42 K) w41 fun v26 w43 =>
  gstep v18 false (fun w44 K => X Tryz.prog (pickS v24 v26 (.bool false)) w44 K) w43 fun v27 w45 =>
  gstep v11 true (fun w46 K => X Tryz.prog (pickS v18 (.bool true) v27) w46 K) w45 fun v28 w47 =>
  X Tryz.prog (pickS v11 v28 (.bool false)) w47 fun v29 w48 =>
  K (.tuple #[(ρ2 7), v29]) w48) (retS Tryz.prog (Tryz.f102).results K))) (upds (env0 #[x0, x1]) [(8, v1), (7, (.int .i64 0)), (12, v1), (6, v1), (11, v1), (10, x0), (5, (.bool false)), (4, (.int .i64 0))]) w1
theorem eq_slices_BinarySearch_uint32 (x0 x1 : Value) (w : World) (K : Value → World → Prop) :
    sh Tryz.prog (Tryz.f102.body.getD .skip) (retS Tryz.prog Tryz.f102.results K) (env0 #[x0, x1]) w = B_slices_BinarySearch_uint32 x0 x1 w K := by kernel_rfl
theorem call_slices_BinarySearch_uint32 (x0 x1 : Value) (w : World) (K : Value → World → Prop) (h : B_slices_BinarySearch_uint32 x0 x1 w K) : CALL Tryz.prog 102 #[x0, x1] w K :=
  call_of_eq (c := Tryz.f102.body.getD .skip) mixed Tryz.func102 (by kernel_rfl) (by kernel_rfl) (by kernel_rfl) (Nat.le_of_ble_eq_true (by kernel_rfl)) (eq_slices_BinarySearch_uint32 x0 x1 w K) h
def B_cmp_Less_uint32_ (x0 x1 : Value) (w : World) (K : Value → World → Prop) : Prop :=
  CALL Tryz.prog 132 #[x0] w fun v1 w1 =>
  gstep v1 true (fun w2 K => K x1 w2) w1 fun v2 w3 =>
  gstep v1 true (fun w4 K => CALL Tryz.prog 132 #[v2] w4 K) w3 fun v3 w5 =>
  gstep v1 true (fun w6 K => X Tryz.prog (Op.unary .not v3) w6 K) w5 fun v4 w7 =>
  X Tryz.prog (pickS v1 v4 (.bool false)) w7 fun v5 w8 =>
  gstep v5 false (fun w9 K => K x0 w9) w8 fun v6 w10 =>
  gstep v5 false (fun w11 K => K x1 w11) w10 fun v7 w12 =>
  gstep v5 false (fun w13 K => X Tryz.prog (binOp .lss 31 v6 v7) w13 K) w12 fun v8 w14 =>
  X Tryz.prog (pickS v5 (.bool true) v8) w14 fun v9 w15 =>
  K v9 w15
theorem eq_cmp_Less_uint32_ (x0 x1 : Value) (w : World) (K : Value → World → Prop) :
    sh Tryz.prog (Tryz.f119.body.getD .skip) (retS Tryz.prog Tryz.f119.results K) (env0 #[x0, x1]) w = B_cmp_Less_uint32_ x0 x1 w K := by kernel_rfl
theorem call_cmp_Less_uint32_ (x0 x1 : Value) (w : World) (K : Value → World → Prop) (h : B_cmp_Less_uint32_ x0 x1 w K) : CALL Tryz.prog 119 #[x0, x1] w K :=
  call_of_eq (c := Tryz.f119.body.getD .skip) mixed Tryz.func119 (by kernel_rfl) (by kernel_rfl) (by kernel_rfl) (Nat.le_of_ble_eq_true (by kernel_rfl)) (eq_cmp_Less_uint32_ x0 x1 w K) h
def B_bytes_Compare (x0 x1 : Value) (w : World) (K : Value → World → Prop) : Prop :=
  CALL Tryz.prog 144 #[x0, x1] w fun v1 w1 =>
  K v1 w1
theorem eq_bytes_Compare (x0 x1 : Value) (w : World) (K : Value → World → Prop) :
    sh Tryz.prog (Tryz.f130.body.getD .skip) (retS Tryz.prog Tryz.f130.results K) (env0 #[x0, x1]) w = B_bytes_Compare x0 x1 w K := by kernel_rfl
theorem call_bytes_Compare (x0 x1 : Value) (w : World) (K : Value → World → Prop) (h : B_bytes_Compare x0 x1 w K) : CALL Tryz.prog 130 #[x0, x1] w K :=
  call_of_eq (c := Tryz.f130.body.getD .skip) mixed Tryz.func130 (by kernel_rfl) (by kernel_rfl) (by kernel_rfl) (Nat.le_of_ble_eq_true (by kernel_rfl)) (eq_bytes_Compare x0 x1 w K) h
def B_bytes_Equal (x0 x1 : Value) (w : World) (K : Value → World → Prop) : Prop :=
  X Tryz.prog (convert 28 9 x0) w fun v1 w1 =>
  X Tryz.prog (convert 28 9 x1) w1 fun v2 w2 =>
  X Tryz.prog (binOpG .eql 9 (.tmp 6) (.tmp 8) v1 v2) w2 fun v3 w3 =>
  K v3 w3
theorem eq_bytes_Equal (x0 x1 : Value) (w : World) (K : Value → World → Prop) :
    sh Tryz.prog (Tryz.f21.body.getD .skip) (retS Tryz.prog Tryz.f21.results K) (env0 #[x0, x1]) w = B_bytes_Equal x0 x1 w K := by kernel_rfl
theorem call_bytes_Equal (x0 x1 : Value) (w : World) (K : Value → World → Prop) (h : B_bytes_Equal x0 x1 w K) : CALL Tryz.prog 21 #[x0, x1] w K :=
  call_of_eq (c := Tryz.f21.body.getD .skip) mixed Tryz.func21 (by kernel_rfl) (by kernel_rfl) (by kernel_rfl) (Nat.le_of_ble_eq_true (by kernel_rfl)) (eq_bytes_Equal x0 x1 w K) h
end Go.Proofs.YtcigpjejbkngfaaGreatDoor
end
section
namespace Go.Proofs.YtcigpjejbkngfaaGreatDoor
open Go Go.Sh
attribute [local irreducible] X XU XP XR CALL loopS resC closS
def B_math_bits_Len (x0 : Value) (w : World) (K : Value → World → Prop) : Prop :=
  condS (.bool false) (
  X Tryz.prog (convert 118 31 x0) w fun v1 w1 =>
  CALL Tryz.prog 142 #[v1] w1 fun v2 w2 =>
  K v2 w2) (
  CALL Tryz.prog 143 #[x0] w fun v3 w3 =>
  K v3 w3)
theorem eq_math_bits_Len (x0 : Value) (w : World) (K : Value → World → Prop) :
    sh Tryz.prog (Tryz.f128.body.getD .skip) (retS Tryz.prog Tryz.f128.results K) (env0 #[x0]) w = B_math_bits_Len x0 w K := by kernel_rfl
theorem call_math_bits_Len (x0 : Value) (w : World) (K : Value → World → Prop) (h : B_math_bits_Len x0 w K) : CALL Tryz.prog 128 #[x0] w K :=
  call_of_eq (c := Tryz.f128.body.getD .skip) mixed Tryz.func128 (by kernel_rfl) (by kernel_rfl) (by kernel_rfl) (Nat.le_of_ble_eq_true (by kernel_rfl)) (eq_math_bits_Len x0 w K) h
def B_math_bits_Len64 (x0 : Value) (w : World) (K : Value → World → Prop) : Prop :=
  joinS (fun ρ1 w1 =>
  joinS (fun ρ2 w2 =>
  joinS (fun ρ3 w3 =>
  X Tryz.prog (convert 37 5 (ρ3 0)) w3 fun v1 w4 =>
  X Tryz.prog (Instr.index 9 (.string { data := #[0, 1, 2, 2, 3, 3, 3, 3, 4, 4, 4, 4, 4, 4, 4, 4, 5, 5, 5, 5, 5, 5, 5, 5, 5, 5, 5, 5, 5, 5, 5, 5, 6, 6, 6, 6, 6, 6, 6, 6, 6, 6, 6, 6, 6, 6, 6, 6, 6, 6, 6, 6, 6, 6, 6, 6, 6, 6, 6, 6, 6, 6, 6, 6, 7, 7, 7, 7, 7, 7, 7, 7, 7, 7, 7, 7, 7, 7, 7, 7, 7, 7, 7, 7, 7, 7, 7, 7, 7, 7, 7, 7, 7, 7, 7, 7, 7, 7, 7, 7, 7, 7, 7, 7, 7, 7, 7, 7, 7, 7, 7, 7, 7, 7, 7, 7, 7, 7, 7, 7, 7, 7, 7, 7, 7, 7, 7, 7, 8, 8, 8, 8, 8, 8, 8, 8, 8, 8, 8, 8, 8, 8, 8, 8, 8, 8, 8, 8, 8, 8, 8, 8, 8, 8, 8, 8, 8, 8, 8, 8, 8, 8, 8, 8, 8, 8, 8, 8, 8, 8, 8, 8, 8, 8, 8, 8, 8, 8, 8, 8, 8, 8, 8, 8, 8, 8, 8, 8, 8, 8, 8, 8, 8, 8, 8, 8, 8, 8, 8, 8, 8, 8, 8, 8, 8, 8, 8, 8, 8, 8, 8, 8, 8, 8, 8, 8, 8, 8, 8, 8, 8, 8, 8, 8, 8, 8, 8, 8, 8, 8, 8, 8, 8, 8, 8, 8, 8, 8, 8, 8, 8, 8, 8, 8, 8, 8, 8, 8, 8, 8, 8, 8, 8, 8, 8, 8] }) v1) w4 fun v2 w5 =>
  X Tryz.prog (convert 5 3 v2) w5 fun v3 w6 =>
  X Tryz.prog (binOp .add 3 (ρ3 2) v3) w6 fun v4 w7 =>
  K v4 w7) fun J3 =>
  X Tryz.prog (binOp .geq 37 (ρ2 0) (.int .u64 256)) w2 fun v5 w8 =>
  condS v5 (
  X Tryz.prog (binOp .shr 37 (ρ2 0) (.int .u64 8)) w8 fun v6 w9 =>
  X Tryz.prog (binOp .add 3 (ρ2 2) (.int .i64 8)) w9 fun v7 w10 =>
  J3 (upds ρ2 [(2, v7), (18, v7), (17, (ρ2 2)), (0, v6), (16, v6), (15, (ρ2 0)), (14, v5), (13, (ρ2 0))]) w10) (
  J3 (upds ρ2 [(14, v5), (13, (ρ2 0))]) w8)) fun J2 =>
  X Tryz.prog (binOp .geq 37 (ρ1 0) (.int .u64 65536)) w1 fun v8 w11 =>
  condS v8 (
  X Tryz.prog (binOp .shr 37 (ρ1 0) (.int .u64 16)) w11 fun v9 w12 =>
  X Tryz.prog (binOp .add 3 (ρ1 2) (.int .i64 16)) w12 fun v10 w13 =>
  J2 (upds ρ1 [(2, v10), (12, v10), (11, (ρ1 2)), (0, v9), (10, v9), (9, (ρ1 0)), (8, v8), (7, (ρ1 0))]) w13) (
  J2 (upds ρ1 [(8, v8), (7, (ρ1 0))]) w11)) fun J1 =>
  X Tryz.prog (binOp .geq 37 x0 (.int .u64 4294967296)) w fun v11 w14 =>
  condS v11 (
  X Tryz.prog (binOp .shr 37 x0 (.int .u64 32)) w14 fun v12 w15 =>
  J1 (upds (env0 #[x0]) [(2, (.int .i64 32)), (0, v12), (6, v12), (5, x0), (4, v11), (3, x0), (2, (.int .i64 0))]) w15) (
  J1 (upds (env0 #[x0]) [(4, v11), (3, x0), (2, (.int .i64 0))]) w14)
theorem eq_math_bits_Len64 (x0 : Value) (w : World) (K : Value → World → Prop) :
    sh Tryz.prog (Tryz.f143.body.getD .skip) (retS Tryz.prog Tryz.f143.results K) (env0 #[x0]) w = B_math_bits_Len64 x0 w K := by kernel_rfl
theorem call_math_bits_Len64 (x0 : Value) (w : World) (K : Value → World → Prop) (h : B_math_bits_Len64 x0 w K) : CALL Tryz.prog 143 #[x0] w K :=
  call_of_eq (c := Tryz.f143.body.getD .skip) mixed Tryz.func143 (by kernel_rfl) (by kernel_rfl) (by kernel_rfl) (Nat.le_of_ble_eq_true (by kernel_rfl)) (eq_math_bits_Len64 x0 w K) h
end Go.Proofs.YtcigpjejbkngfaaGreatDoor
end
