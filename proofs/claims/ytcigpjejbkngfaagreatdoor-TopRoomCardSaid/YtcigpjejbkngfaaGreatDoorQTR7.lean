/- Part 7 of what the law is proved with. -/
import Derived.ChangeKeysEq
import Derived.Laws.StructEq
import Derived.Test.YtcigpjejbkngfaaGreatDoorQTR6
set_option linter.unusedVariables false
set_option linter.unusedSimpArgs false
section
namespace Go.Sh
open Go Go.RowKit
section
variable {P : Program}
theorem guard_eql {t : TypeId} (hg : P.eqGuardType P.depth t = false) (a b : Operand) (xs ys : Array Value) (w : World) : (eqGuard .eql t a b (.agg xs) (.agg ys)).run P w = .ok () w := by
  simp [eqGuard, hg]
theorem guard_neq {t : TypeId} (hg : P.eqGuardType P.depth t = false) (a b : Operand) (xs ys : Array Value) (w : World) : (eqGuard .neq t a b (.agg xs) (.agg ys)).run P w = .ok () w := by
  simp [eqGuard, hg]
theorem agg_eql {t : TypeId} (hg : P.eqGuardType P.depth t = false) (a b : Operand) {xs ys : Array Value} {w : World} {r : Bool} (h : (Op.equalIn 10000 t (.agg xs) (.agg ys)).run P w = .ok r w) : (binOpG .eql t a b (.agg xs) (.agg ys)).run P w = .ok (.bool r) w := by
  unfold binOpG
  simp only [Sem.run_bind, guard_eql hg, Result.andThen_ok, run_eql_struct, h]
theorem agg_neq {t : TypeId} (hg : P.eqGuardType P.depth t = false) (a b : Operand) {xs ys : Array Value} {w : World} {r : Bool} (h : (Op.equalIn 10000 t (.agg xs) (.agg ys)).run P w = .ok r w) : (binOpG .neq t a b (.agg xs) (.agg ys)).run P w = .ok (.bool (!r)) w := by
  unfold binOpG
  simp only [Sem.run_bind, guard_neq hg, Result.andThen_ok, run_neq_struct, h]
theorem part_cell {e : TypeId} (ha : aggB P e = false) {cs : Array Value} {i : Nat} {v : Value} (h : cs[i]? = some v) (w : World) : (part e cs i).run P w = .ok v w := by
  simp [part, isAgg_run ha, h]
theorem eqItems_bytes (d : Nat) {e : TypeId} (he : P.underlying e = some (.int .u8)) (ha : aggB P e = false) (xs ys : List UInt8) (hl : xs.length = ys.length) (w : World) :
    ∀ (m k : Nat), k + m = xs.length → (Op.eqItems (d + 1) e 1 (B8 xs).toArray (B8 ys).toArray (List.range' k m)).run P w = .ok (decide (xs.drop k = ys.drop k)) w
  | 0, k, h => by
    have h1 : xs.drop k = [] := List.drop_eq_nil_of_le (by omega)
    have h2 : ys.drop k = [] := List.drop_eq_nil_of_le (by omega)
    simp [Op.eqItems, h1, h2]
  | m + 1, k, h => by
    have hx : k < xs.length := by omega
    have hy : k < ys.length := by omega
    have e1 : (B8 xs).toArray[k * 1]? = some (.int .u8 (xs[k].toNat : Int)) := by simp [B8_getElem?, List.getElem?_eq_getElem hx]
    have e2 : (B8 ys).toArray[k * 1]? = some (.int .u8 (ys[k].toNat : Int)) := by simp [B8_getElem?, List.getElem?_eq_getElem hy]
    rw [List.range'_succ]
    simp only [Op.eqItems, Sem.run_bind, part_cell ha e1, part_cell ha e2, Result.andThen_ok, run_equalIn_int w d e .u8 .u8 _ _ he]
    have hdx := List.drop_eq_getElem_cons hx
    have hdy := List.drop_eq_getElem_cons hy
    by_cases hxy : xs[k] = ys[k]
    · have : ((xs[k].toNat : Int) == (ys[k].toNat : Int)) = true := by simp [hxy]
      rw [this]
      simp only [Bool.not_true, Bool.false_eq_true, if_false]
      rw [eqItems_bytes d he ha xs ys hl w m (k + 1) (by omega)]
      have hi : (xs.drop k = ys.drop k) ↔ (xs.drop (k + 1) = ys.drop (k + 1)) := by
        rw [hdx, hdy, hxy]
        constructor
        · intro h; injection h
        · intro h; rw [h]
      rw [decide_eq_decide.2 hi]
    · have : ((xs[k].toNat : Int) == (ys[k].toNat : Int)) = false := by
        simp only [beq_eq_false_iff_ne, ne_eq]
        intro h
        exact hxy (UInt8.toNat_inj.1 (by omega))
      rw [this]
      have hi : ¬ (xs.drop k = ys.drop k) := by
        rw [hdx, hdy]
        intro h
        injection h with h _
        exact hxy h
      simp only [Bool.not_false, if_true, Sem.run_pure, hi, decide_false]
end
end Go.Sh
end
section
set_option maxRecDepth 8000
namespace Go.Sh
open Go Go.Proofs.YtcigpjejbkngfaaGreatDoor
structure RS where
  v : List W32
  x : List W32
  o : W64
def nextW (m : List W32) (o : W64) : W32 := m.getD (o >>> 60).toNat 0
def st1 (m : List W32) (i : Nat) (s : RS) : RS :=
  let q := quart (s.v.getD i 0) (s.v.getD (i + 4) 0) (s.x.getD i 0) (s.x.getD (i + 4) 0) (nextW m s.o) (nextW m (s.o <<< 4))
  ⟨(s.v.set i q.1).set (i + 4) q.2.1, (s.x.set i q.2.2.1).set (i + 4) q.2.2.2, s.o <<< 4 <<< 4⟩
def st2 (m : List W32) (i : Nat) (s : RS) : RS :=
  let q := quart (s.v.getD i 0) (s.v.getD (4 + (i + 1) % 4) 0) (s.x.getD ((i + 2) % 4) 0) (s.x.getD (4 + (i + 3) % 4) 0) (nextW m s.o) (nextW m (s.o <<< 4))
  ⟨(s.v.set i q.1).set (4 + (i + 1) % 4) q.2.1, (s.x.set ((i + 2) % 4) q.2.2.1).set (4 + (i + 3) % 4) q.2.2.2, s.o <<< 4 <<< 4⟩
def itF (f : Nat → RS → RS) : Nat → RS → RS
  | 0, s => s
  | n + 1, s => f n (itF f n s)
def RS.Len (s : RS) : Prop := s.v.length = 8 ∧ s.x.length = 8
def ordL : List W64 := [0x0123456789ABCDEF#64, 0xEA489FD61C02B753#64, 0xB8C052FDAE367194#64, 0x7931DCBE265A40F8#64, 0x905724AFE1BC683D#64, 0x2C6A0B834D75FE19#64, 0xC51FED4A0763928B#64, 0xDB7EC13950F4862A#64, 0x6FE9B308C2D714A5#64, 0xA2847615FB9E3CD0#64]
def ordW (r : Nat) : W64 := ordL.getD r 0
def rndW (m : List W32) (r : Nat) (v x : List W32) : RS := itF (st2 m) 4 (itF (st1 m) 4 ⟨v, x, ordW r⟩)
def rndsW (m : List W32) : Nat → List W32 → List W32 → List W32 × List W32
  | 0, v, x => (v, x)
  | n + 1, v, x => let s := rndW m n (rndsW m n v x).1 (rndsW m n v x).2; (s.v, s.x)
def mStep (rest : List UInt8) (i : Nat) (m : List W32) : List W32 := m.set (i / 4) (m.getD (i / 4) 0 ||| (BitVec.ofNat 32 (rest.getD i 0).toNat <<< (8 * (i % 4))))
def mUpto (rest : List UInt8) : Nat → List W32
  | 0 => List.replicate 16 0
  | i + 1 => mStep rest i (mUpto rest i)
theorem mUpto_len (rest : List UInt8) : ∀ i, (mUpto rest i).length = 16
  | 0 => by simp [mUpto]
  | i + 1 => by unfold mUpto mStep; rw [List.length_set]; exact mUpto_len rest i
def firstW : List W32 := [0x6A09E667#32, 0xBB67AE85#32, 0x3C6EF372#32, 0xA54FF53A#32, 0x510E527F#32, 0x9B05688C#32, 0x1F83D9AB#32, 0x5BE0CD19#32]
def setX (l : List W32) (i : Nat) (c : W32) : List W32 := l.set i (l.getD i 0 ^^^ c)
theorem setX_len (l : List W32) (i : Nat) (c : W32) : (setX l i c).length = l.length := by simp [setX]
def finU (v x : List W32) : Nat → List W32 → List W32
  | 0, ws => ws
  | n + 1, ws => setX (finU v x n ws) n (v.getD n 0 ^^^ x.getD n 0)
theorem finU_len (v x : List W32) : ∀ n ws, (finU v x n ws).length = ws.length
  | 0, _ => rfl
  | n + 1, ws => by unfold finU; rw [setX_len]; exact finU_len v x n ws
structure Dg where
  ws : List W32
  rest : List UInt8
  n : Nat
  hw : ws.length = 8
  hr : rest.length = 64
  hn : n < 18446744073709551616
def startX (n : Nat) (last : Bool) : List W32 :=
  let x2 := setX (setX firstW 4 (BitVec.ofNat 32 n)) 5 (BitVec.ofNat 32 (n / 4294967296))
  if last then x2.set 6 (~~~ (x2.getD 6 0)) else x2
theorem startX_len (n : Nat) (last : Bool) : (startX n last).length = 8 := by unfold startX; cases last <;> simp [setX, firstW]
def pressW (d : Dg) (last : Bool) : List W32 :=
  finU (rndsW (mUpto d.rest 64) 10 d.ws (startX d.n last)).1 (rndsW (mUpto d.rest 64) 10 d.ws (startX d.n last)).2 8 d.ws
theorem pressW_len (d : Dg) (last : Bool) : (pressW d last).length = 8 := by unfold pressW; rw [finU_len]; exact d.hw
def Dg.press (d : Dg) (last : Bool) : Dg := ⟨pressW d last, d.rest, d.n, pressW_len d last, d.hr, d.hn⟩
def Dg.cs (d : Dg) : List Value := UL d.ws ++ B8 d.rest ++ [.int .u64 (d.n : Int)]
theorem Dg.cs_len (d : Dg) : d.cs.length = 73 := by simp [Dg.cs, UL_len, d.hw, d.hr]
theorem B8_at {l : List UInt8} {i : Nat} (h : i < l.length) : (B8 l)[i]? = some (.int .u8 (((l.getD i 0).toNat : Nat) : Int)) := by
  unfold B8
  rw [List.getElem?_map, List.getElem?_eq_getElem h]
  simp [List.getD_eq_getElem?_getD, h]
theorem Dg.wsAt (d : Dg) {i : Nat} (h : i < 8) : d.cs[i]? = some (U32 (d.ws.getD i 0)) := by
  unfold Dg.cs
  rw [List.append_assoc, List.getElem?_append_left (by rw [UL_len, d.hw]; exact h)]
  exact UL_get _ _ (by rw [d.hw]; exact h)
theorem Dg.restAt (d : Dg) {i : Nat} {u : Value} (h : (B8 d.rest)[i]? = some u) : d.cs[8 + i]? = some u := by
  have hl : i < (B8 d.rest).length := (List.getElem?_eq_some_iff.1 h).1
  unfold Dg.cs
  rw [List.append_assoc, List.getElem?_append_right (by rw [UL_len, d.hw]; omega), UL_len, d.hw, Nat.add_sub_cancel_left, List.getElem?_append_left hl]
  exact h
theorem Dg.nAt (d : Dg) : d.cs[72]? = some (.int .u64 (d.n : Int)) := by
  unfold Dg.cs
  rw [List.getElem?_append_right (by simp [UL_len, d.hw, d.hr])]
  simp [UL_len, d.hw, d.hr]
theorem Dg.cs_one (d : Dg) : ∀ v ∈ d.cs, v.oneCell' = true := by
  intro v hv
  unfold Dg.cs at hv
  rcases List.mem_append.1 hv with hv | hv
  · rcases List.mem_append.1 hv with hv | hv
    · exact UL_one _ v hv
    · unfold B8 at hv
      obtain ⟨c, _, rfl⟩ := List.mem_map.1 hv
      rfl
  · rw [List.mem_singleton.1 hv]; rfl
end Go.Sh
namespace Go.Proofs.YtcigpjejbkngfaaGreatDoor
open Go Go.Sh Go.RowKit
attribute [local irreducible] X XU XP XR CALL loopS resC closS
theorem run_ixA {P : Program} {T e m : Nat} (hT : P.underlying T = some (.array m e)) (ha : aggB P e = false) (hi : infoB P e = true) (hs : szT P e = 1) {cs : Array Value} {v : Value} {k : IntKind} (i : Nat) (h : i < m) (hv : cs[i]? = some v) (w : World) :
    (Instr.index T (.agg cs) (.int k (i : Int))).run P w = .ok v w := by
  have h2 : (i : Int) < (m : Int) := by omega
  have hp := part_cell (P := P) (e := e) ha hv w
  have h3 : ¬ m ≤ i := by omega
  simp [Instr.index, asIntOf, run_underlying hT, sizeOf_run hi, hs, h2, hp, h3, h]
def StAt (w : World) (b : Nat) (d : Dg) : Prop := w.heap[b]? = some (.cells d.cs.toArray 139 (0, 0))
section
variable {w : World} {K : Value → World → Prop}
theorem next_spec {bm bo : Nat} {m : List W32} {o : W64} (hm : w.heap[bm]? = some (.cells (UL m).toArray 176 (0, 0))) (hl : m.length = 16) (ho : w.heap[bo]? = some (.cells #[U64 o] 37 (0, 0)))
    (hK : K (U32 (nextW m o)) (setAt w bo #[U64 (o <<< 4)] 37 (0, 0))) : CALL Tryz.prog 85 #[ptr bm, ptr bo] w K := by
  apply call_digest_State_press_1
  unfold B_digest_State_press_1
  refine X_of (run_loadAt agg_37 ((cell_blk ho).trans rfl)) ?_
  refine X_of (u64_shr 37 .u64 o 60 (by decide) w) ?_
  have h16 : (o >>> 60).toNat < 16 := by
    rw [BitVec.toNat_ushiftRight, Nat.shiftRight_eq_div_pow]
    have := o.isLt
    omega
  refine X_of (ix176 bm 0 (o >>> 60).toNat .u64 h16 w) ?_
  refine X_of (run_loadAt (v := U32 (nextW m o)) agg_31 ((cell_blk hm).trans ?_)) ?_
  · rw [Nat.zero_add]
    have := UL_get m (o >>> 60).toNat (by rw [hl]; exact h16)
    rw [← List.getElem?_toArray] at this
    exact this
  refine X_of (run_loadAt agg_37 ((cell_blk ho).trans rfl)) ?_
  refine X_of (u64_shl 37 .u64 o 4 (by decide) w) ?_
  refine XU_store info_37 sz_37 rfl ho (by show 0 < 1; decide) (by show ¬ (0 ≤ _ ∧ _ < 0); omega) ?_
  exact hK
theorem run_ord (w : World) : (Instr.build 200 #[(0, (.int .u64 81985529216486895)), (1, (.int .u64 16881918945140062035)), (2, (.int .u64 13312731748010193300)), (3, (.int .u64 8733003861693448440)), (4, (.int .u64 10400822202260547645)), (5, (.int .u64 3200383143768358425)), (6, (.int .u64 14204332651957162635)), (7, (.int .u64 15816291393287259690)), (8, (.int .u64 8064173457993569445)), (9, (.int .u64 11710614767857974480))]).run Tryz.prog w = .ok (.agg (ordL.map U64).toArray) w := by kernel_rfl
theorem run_fst (w : World) : (Instr.build 135 #[(0, (.int .u32 1779033703)), (1, (.int .u32 3144134277)), (2, (.int .u32 1013904242)), (3, (.int .u32 2773480762)), (4, (.int .u32 1359893119)), (5, (.int .u32 2600822924)), (6, (.int .u32 528734635)), (7, (.int .u32 1541459225))]).run Tryz.prog w = .ok (.agg (UL firstW).toArray) w := by kernel_rfl
theorem order_spec {r : Nat} (hr : r < 10) (hK : K (U64 (ordW r)) w) : CALL Tryz.prog 84 #[.int .i64 (r : Int)] w K := by
  apply call_digest_order
  unfold B_digest_order
  refine X_of (run_ord _) ?_
  refine X_of (run_ixA Tryz.underlying200 agg_37 info_37 sz_37 r hr (v := U64 (ordW r)) ?_ _) hK
  have e : (ordL.map U64)[r]? = some (U64 (ordW r)) := by
    rw [List.getElem?_map, List.getElem?_eq_getElem (show r < ordL.length from hr)]
    simp [ordW, List.getD_eq_getElem?_getD, show r < ordL.length from hr]
  simpa using e
theorem first_spec (hK : ∀ w1, Ext w w1 → K (.agg (UL firstW).toArray) w1) : CALL Tryz.prog 60 #[] w K := by
  apply call_digest_first
  unfold B_digest_first
  refine X_alloc zero_135 ?_
  have hx1 := newB_ext w (UL (List.replicate 8 0)).toArray 135
  have hg1 := newB_get w (UL (List.replicate 8 0)).toArray 135
  refine X_of (run_fst _) ?_
  show XU _ _ (newB w (UL (List.replicate 8 0)).toArray 135) _
  generalize newB w (UL (List.replicate 8 0)).toArray 135 = w1 at hx1 hg1 ⊢
  refine XU_storeAgg (l := UL firstW) info_135 hg1 (by rw [sz_135]; rfl) (by rw [sz_135]; rfl) (UL_one _) ?_
  have hk2 := setAt_keep w1 w.heap.size (UL firstW).toArray 135 (0, 0)
  have hg2 : (setAt w1 w.heap.size (UL firstW).toArray 135 (0, 0)).heap[w.heap.size]? = some (.cells (UL firstW).toArray 135 (0, 0)) := setAt_same (lt_of_blk hg1)
  generalize setAt w1 w.heap.size (UL firstW).toArray 135 (0, 0) = w2 at hk2 hg2 ⊢
  refine resC_agg Tryz.underlying135 agg_135 info_135 hg2 (by rw [sz_135]; rfl) ?_
  exact hK _ (Ext.seq hx1 hk2 (fun g hg => by omega))
theorem held_spec {b : Nat} {d : Dg} (h : StAt w b d) (hK : K (.int .i64 ((if d.n = 0 then 0 else (d.n - 1) % 64 + 1 : Nat) : Int)) w) : CALL Tryz.prog 61 #[ptr b] w K := by
  apply call_digest_State_held
  unfold B_digest_State_held
  (repeat (simp only [SLB, Int.reduceEq, Int.reduceNe, Int.reduceLT, Int.reduceLE, Int.reduceGT, Int.reduceGE, X_field_139_2]))
  have ln : (Instr.loadAt 37 (.pointer (some ⟨b, 0 + 72, none⟩))).run Tryz.prog w = .ok (.int .u64 (d.n : Int)) w := run_loadAt agg_37 ((cell_blk h).trans (by have := d.nAt; rw [← List.getElem?_toArray] at this; exact this))
  refine X_of ln ?_
  by_cases h0 : d.n = 0
  · have c : decide ((d.n : Int) = 0) = true := decide_eq_true (by omega)
    rw [if_pos h0] at hK
    (repeat (simp only [SLB, Int.reduceEq, Int.reduceNe, Int.reduceLT, Int.reduceLE, Int.reduceGT, Int.reduceGE, c]))
    exact hK
  · have c : decide ((d.n : Int) = 0) = false := decide_eq_false (by omega)
    rw [if_neg h0] at hK
    (repeat (simp only [SLB, Int.reduceEq, Int.reduceNe, Int.reduceLT, Int.reduceLE, Int.reduceGT, Int.reduceGE, c, X_field_139_2]))
    refine X_of ln ?_
    have hn := d.hn
    have e1 : (binOp .sub 37 (.int .u64 (d.n : Int)) (.int .u64 1)).run Tryz.prog w = .ok (.int .u64 ((d.n - 1 : Nat) : Int)) w := by
      rw [run_sub, wrap_u64]
      congr 2
      omega
    refine X_of e1 ?_
    refine X_of (run_rem _ _ _ _ (by decide) _) ?_
    have e2 : ((d.n - 1 : Nat) : Int).tmod 64 = (((d.n - 1) % 64 : Nat) : Int) := by rw [Int.tmod_eq_emod_of_nonneg (by omega)]; rfl
    rw [e2, X_conv_37_3, w64 (by omega) (by omega), X_add, w64 (by omega) (by omega)]
    exact hK
end
end Go.Proofs.YtcigpjejbkngfaaGreatDoor
end
section
set_option maxRecDepth 8000
namespace Go.Proofs.YtcigpjejbkngfaaGreatDoor
open Go Go.Sh Go.RowKit
attribute [local irreducible] X XU XP XR CALL loopS resC closS quart st1 st2 itF rndW rndsW mUpto mStep finU setX pressW nextW startX firstW UL
theorem setX_eq (x : List W32) (i : Nat) (c : W32) : x.set i (x.getD i 0 ^^^ c) = setX x i c := by unfold setX; rfl
theorem Dg.cs_set (d : Dg) {i : Nat} (hi : i < 8) (c : W32) {ws' : List W32} (hl : ws'.length = 8) (he : ws' = d.ws.set i c) : d.cs.toArray.setIfInBounds i (U32 c) = (⟨ws', d.rest, d.n, hl, d.hr, d.hn⟩ : Dg).cs.toArray := by
  have e : d.cs.set i (U32 c) = (⟨ws', d.rest, d.n, hl, d.hr, d.hn⟩ : Dg).cs := by
    unfold Dg.cs
    rw [List.append_assoc, List.append_assoc, List.set_append_left _ _ (by rw [UL_len, d.hw]; exact hi)]
    simp only [he]
    unfold UL
    rw [List.map_set]
  rw [← e]
  simp
structure Blk (wr : World) (bm bv bx : Nat) (m v x : List W32) : Prop where
  hm : wr.heap[bm]? = some (.cells (UL m).toArray 176 (0, 0))
  hv : wr.heap[bv]? = some (.cells (UL v).toArray 135 (0, 0))
  hx : wr.heap[bx]? = some (.cells (UL x).toArray 135 (0, 0))
  ml : m.length = 16
  vl : v.length = 8
  xl : x.length = 8
  mv : bm ≠ bv
  mx : bm ≠ bx
  vx : bv ≠ bx
theorem Blk.keep {E : Nat → Prop} {w w1 : World} {bm bv bx : Nat} {m v x : List W32} (h : Blk w bm bv bx m v x) (k : Keep E w w1) (h1 : ¬ E bm) (h2 : ¬ E bv) (h3 : ¬ E bx) : Blk w1 bm bv bx m v x :=
  ⟨k.get h1 h.hm, k.get h2 h.hv, k.get h3 h.hx, h.ml, h.vl, h.xl, h.mv, h.mx, h.vx⟩
theorem Blk.ext {w w1 : World} {bm bv bx : Nat} {m v x : List W32} (h : Blk w bm bv bx m v x) (k : Ext w w1) : Blk w1 bm bv bx m v x := h.keep k (fun h => h) (fun h => h) (fun h => h)
theorem Blk.setv {w : World} {bm bv bx : Nat} {m v x : List W32} (h : Blk w bm bv bx m v x) (i : Nat) (c : W32) : Blk (setAt w bv ((UL v).toArray.setIfInBounds i (U32 c)) 135 (0, 0)) bm bv bx m (v.set i c) x := by
  rw [UL_set]
  exact ⟨(setAt_other h.mv).trans h.hm, setAt_same (lt_of_blk h.hv), (setAt_other (Ne.symm h.vx)).trans h.hx, h.ml, by rw [List.length_set]; exact h.vl, h.xl, h.mv, h.mx, h.vx⟩
theorem Blk.setx {w : World} {bm bv bx : Nat} {m v x : List W32} (h : Blk w bm bv bx m v x) (i : Nat) (c : W32) : Blk (setAt w bx ((UL x).toArray.setIfInBounds i (U32 c)) 135 (0, 0)) bm bv bx m v (x.set i c) := by
  rw [UL_set]
  exact ⟨(setAt_other h.mx).trans h.hm, (setAt_other h.vx).trans h.hv, setAt_same (lt_of_blk h.hx), h.ml, h.vl, by rw [List.length_set]; exact h.xl, h.mv, h.mx, h.vx⟩
theorem Blk.atv {w : World} {bm bv bx : Nat} {m v x : List W32} (h : Blk w bm bv bx m v x) {i : Nat} (hi : i < 8) : w.cell? ⟨bv, 0 + i, none⟩ = some (U32 (v.getD i 0)) := by
  rw [Nat.zero_add, cell_blk h.hv]
  have := UL_get v i (by rw [h.vl]; exact hi)
  rw [← List.getElem?_toArray] at this
  exact this
theorem Blk.atx {w : World} {bm bv bx : Nat} {m v x : List W32} (h : Blk w bm bv bx m v x) {i : Nat} (hi : i < 8) : w.cell? ⟨bx, 0 + i, none⟩ = some (U32 (x.getD i 0)) := by
  rw [Nat.zero_add, cell_blk h.hx]
  have := UL_get x i (by rw [h.xl]; exact hi)
  rw [← List.getElem?_toArray] at this
  exact this
theorem ul_atm {w : World} {bm : Nat} {m : List W32} (hm : w.heap[bm]? = some (.cells (UL m).toArray 176 (0, 0))) {i : Nat} (hi : i < m.length) : w.cell? ⟨bm, 0 + i, none⟩ = some (U32 (m.getD i 0)) := by
  rw [Nat.zero_add, cell_blk hm]
  have := UL_get m i hi
  rw [← List.getElem?_toArray] at this
  exact this
theorem shr_2 (T : TypeId) (i : Nat) (w : World) : (binOp .shr T (.int .i64 (i : Int)) (.int .u64 2)).run Tryz.prog w = .ok (.int .i64 ((i / 4 : Nat) : Int)) w := by
  rw [run_shr _ _ (by decide) w]
  have e1 : min ((2 : Int).toNat) IntKind.i64.bits = 2 := rfl
  rw [e1, fdiv_pow]
theorem addN (T : TypeId) {a b : Nat} (h : a + b < 9223372036854775807) (w : World) : (binOp .add T (.int .i64 (a : Int)) (.int .i64 (b : Int))).run Tryz.prog w = .ok (.int .i64 ((a + b : Nat) : Int)) w := by
  rw [run_add, w64 (by omega) (by omega)]; rfl
theorem mulN (T : TypeId) {a b : Nat} (h : a * b < 9223372036854775807) (w : World) : (binOp .mul T (.int .i64 (a : Int)) (.int .i64 (b : Int))).run Tryz.prog w = .ok (.int .i64 ((a * b : Nat) : Int)) w := by
  rw [run_mul, ← Int.natCast_mul, w64 (by omega) (by omega)]
theorem rem4N (T : TypeId) (a : Nat) (w : World) : (binOp .rem T (.int .i64 (a : Int)) (.int .i64 4)).run Tryz.prog w = .ok (.int .i64 ((a % 4 : Nat) : Int)) w := by
  rw [run_rem _ _ _ _ (by decide), Int.tmod_eq_emod_of_nonneg (by omega)]; rfl
theorem Blk.putv {w : World} {bm bv bx : Nat} {m v x : List W32} (h : Blk w bm bv bx m v x) {i : Nat} (hi : i < 8) (c : W32) {Q : World → Prop} (hQ : ∀ w1, Blk w1 bm bv bx m (v.set i c) x → Keep (· = bv) w w1 → Q w1) : XU Tryz.prog (Instr.storeAt 31 (.pointer (some ⟨bv, 0 + i, none⟩)) (U32 c)) w Q := by
  refine XU_store info_31 sz_31 rfl h.hv (by simp [UL_len, h.vl]; omega) (by show ¬ (0 ≤ _ ∧ _ < 0); omega) ?_
  rw [Nat.zero_add]
  exact hQ _ (h.setv i c) (setAt_keep _ _ _ _ _)
theorem Blk.putx {w : World} {bm bv bx : Nat} {m v x : List W32} (h : Blk w bm bv bx m v x) {i : Nat} (hi : i < 8) (c : W32) {Q : World → Prop} (hQ : ∀ w1, Blk w1 bm bv bx m v (x.set i c) → Keep (· = bx) w w1 → Q w1) : XU Tryz.prog (Instr.storeAt 31 (.pointer (some ⟨bx, 0 + i, none⟩)) (U32 c)) w Q := by
  refine XU_store info_31 sz_31 rfl h.hx (by simp [UL_len, h.xl]; omega) (by show ¬ (0 ≤ _ ∧ _ < 0); omega) ?_
  rw [Nat.zero_add]
  exact hQ _ (h.setx i c) (setAt_keep _ _ _ _ _)
theorem two_next {w : World} {bm bv bx bo : Nat} {m v x : List W32} {o : W64} (hB : Blk w bm bv bx m v x) (ho : w.heap[bo]? = some (.cells #[U64 o] 37 (0, 0))) (h1 : bm < bo) (h2 : bv < bo) (h3 : bx < bo) {K : Value → Value → World → Prop}
    (hK : ∀ w1, Keep (· = bo) w w1 → Blk w1 bm bv bx m v x → w1.heap[bo]? = some (.cells #[U64 (o <<< 4 <<< 4)] 37 (0, 0)) → K (U32 (nextW m o)) (U32 (nextW m (o <<< 4))) w1) :
    closS Tryz.prog (.func (.func 85) #[] #[ptr bm, ptr bo]) #[] w fun a w1 => closS Tryz.prog (.func (.func 85) #[] #[ptr bm, ptr bo]) #[] w1 fun b w2 => K a b w2 := by
  refine closS_of ?_
  refine next_spec hB.hm hB.ml ho ?_
  have k1 := setAt_keep w bo #[U64 (o <<< 4)] 37 (0, 0)
  have g1 : (setAt w bo #[U64 (o <<< 4)] 37 (0, 0)).heap[bo]? = some (.cells #[U64 (o <<< 4)] 37 (0, 0)) := setAt_same (lt_of_blk ho)
  generalize setAt w bo #[U64 (o <<< 4)] 37 (0, 0) = w1 at k1 g1 ⊢
  have hB1 := hB.keep k1 (by omega) (by omega) (by omega)
  refine closS_of ?_
  refine next_spec hB1.hm hB1.ml g1 ?_
  have k2 := setAt_keep w1 bo #[U64 (o <<< 4 <<< 4)] 37 (0, 0)
  exact hK _ (k1.trans k2) (hB1.keep k2 (by omega) (by omega) (by omega)) (setAt_same (lt_of_blk g1))
abbrev z8 : Array Value := (UL (List.replicate 8 0)).toArray
theorem z8_eq : (Value.agg #[(.int .u32 0), (.int .u32 0), (.int .u32 0), (.int .u32 0), (.int .u32 0), (.int .u32 0), (.int .u32 0), (.int .u32 0)]).cells = z8 := by unfold z8 UL; rfl
theorem two_store {w : World} {bv bx : Nat} {ws xs : List W32} (hv : w.heap[bv]? = some (.cells z8 135 (0, 0))) (hx : w.heap[bx]? = some (.cells z8 135 (0, 0))) (hne : bv ≠ bx) (h1 : ws.length = 8) (h2 : xs.length = 8) {Q : World → Prop}
    (h : ∀ w', Keep (fun g => g = bv ∨ g = bx) w w' → w'.heap[bv]? = some (.cells (UL ws).toArray 135 (0, 0)) → w'.heap[bx]? = some (.cells (UL xs).toArray 135 (0, 0)) → Q w') :
    XU Tryz.prog (Instr.storeAt 135 (ptr bv) (.agg (UL ws).toArray)) w fun w1 => XU Tryz.prog (Instr.storeAt 135 (ptr bx) (.agg (UL xs).toArray)) w1 Q := by
  have hz : z8.size = szT Tryz.prog 135 := by rw [sz_135]; simp [UL_len]
  refine XU_storeAgg (l := UL ws) info_135 hv hz (by rw [sz_135, UL_len, h1]) (UL_one _) ?_
  have hx' : (setAt w bv (UL ws).toArray 135 (0, 0)).heap[bx]? = some (.cells z8 135 (0, 0)) := (setAt_other (Ne.symm hne)).trans hx
  refine XU_storeAgg (l := UL xs) info_135 hx' hz (by rw [sz_135, UL_len, h2]) (UL_one _) ?_
  refine h _ (((setAt_keep _ _ _ _ _).mono (fun _ _ h => .inl h)).trans ((setAt_keep _ _ _ _ _).mono (fun _ _ h => .inr h))) ?_ ?_
  · exact (setAt_other hne).trans (setAt_same (lt_of_blk hv))
  · exact setAt_same (lt_of_blk hx')
section
variable {w : World} {K : Value → World → Prop}
theorem alloc8 {K : Value → World → Prop} (hK : ∀ b w1, b = w.heap.size → Ext w w1 → w1.heap.size = w.heap.size + 1 → w1.heap[b]? = some (.cells z8 135 (0, 0)) → K (ptr b) w1) : X Tryz.prog (Instr.alloc 135 true (.tuple #[])) w K := by
  refine X_alloc zero_135 ?_
  rw [z8_eq]
  exact hK _ _ rfl (newB_ext _ _ _) (newB_size _ _ _) (newB_get _ _ _)
set_option maxHeartbeats 4000000 in
theorem press_spec {b : Nat} {d : Dg} {last : Bool} (h : StAt w b d) (hK : ∀ w1, StAt w1 b (d.press last) → Keep (· = b) w w1 → K (.tuple #[]) w1) : CALL Tryz.prog 62 #[ptr b, .bool last] w K := by
  apply call_digest_State_press
  unfold B_digest_State_press
  refine X_alloc zero_176 ?_
  have hx1 := newB_ext w (UL (List.replicate 16 0)).toArray 176
  have hg1 := newB_get w (UL (List.replicate 16 0)).toArray 176
  have e16 : (Value.agg (List.replicate 16 (Value.int .u32 0)).toArray).cells = (UL (List.replicate 16 0)).toArray := by unfold UL; rw [List.map_replicate]; rfl
  rw [e16]
  have hsz1 : (newB w (UL (List.replicate 16 0)).toArray 176).heap.size = w.heap.size + 1 := newB_size _ _ _
  generalize newB w (UL (List.replicate 16 0)).toArray 176 = w1 at hx1 hg1 hsz1 ⊢
  have hb : b < w.heap.size := lt_of_blk h
  have h1 : StAt w1 b d := Ext.get hx1 h
  (repeat (simp only [SLB, Int.reduceEq, Int.reduceNe, Int.reduceLT, Int.reduceLE, Int.reduceGT, Int.reduceGE, X_field_139_1]))
  refine X_of (load_cells Tryz.underlying137 agg_137 info_137 (l := B8 d.rest) (by rw [sz_137]; simp [d.hr]) (fun j u hj => by
    rw [add_plain, cell_blk h1, Nat.zero_add]
    have := d.restAt hj
    rw [← List.getElem?_toArray] at this
    exact this)) ?_
  generalize hbm : w.heap.size = bm at hg1 hsz1 hb
  refine loopG 0 (fun ρ wr => ∃ i : Nat, i ≤ 64 ∧ Ext w wr ∧ wr.heap[bm]? = some (.cells (UL (mUpto d.rest i)).toArray 176 (0, 0)) ∧ ρ 26 = .int .i64 (i : Int) ∧ ρ 25 = .agg (B8 d.rest).toArray ∧ ρ 4 = ptr bm ∧ ρ 0 = ptr b ∧ ρ 1 = .bool last)
    (fun ρ wr => match ρ 26 with | .int _ s => (64 - s).toNat | _ => 0)
    (fun ρ wr => Ext w wr ∧ wr.heap[bm]? = some (.cells (UL (mUpto d.rest 64)).toArray 176 (0, 0)) ∧ ρ 4 = ptr bm ∧ ρ 0 = ptr b ∧ ρ 1 = .bool last) ?_ ?_ ?_
  · refine ⟨0, by omega, hx1, ?_, rfl, rfl, rfl, rfl, rfl⟩
    rw [mUpto]; exact hg1
  · rintro J hJ ρ wr ⟨i, hi, hx, hm, r26, r25, r4, r0, r1⟩
    rw [r26, r25, r4, X_lss, condS_bool]
    by_cases hie : i = 64
    · rw [if_neg (by simp; omega)]
      rw [hie] at hm
      exact hJ _ _ ⟨hx, hm, r4, r0, r1⟩
    rw [if_pos (by simp; omega)]
    have hil : i < 64 := by omega
    refine X_of (run_ixA Tryz.underlying137 agg_5 info_5 sz_5 i hil (v := .int .u8 (((d.rest.getD i 0).toNat : Nat) : Int)) (by have := B8_at (l := d.rest) (i := i) (by rw [d.hr]; exact hil); rw [← List.getElem?_toArray] at this; exact this) _) ?_
    have hml := mUpto_len d.rest i
    have kd := hx.trans (Keep.drew (fun _ => False) wr)
    have hmd : (drewW wr).heap[bm]? = some (.cells (UL (mUpto d.rest i)).toArray 176 (0, 0)) := hm
    refine ⟨Ext, Ext.frame, ?_⟩
    generalize drewW wr = wd at kd hmd ⊢
    have hi4 : i / 4 < 16 := by omega
    refine XP_of (fun w' => shr_2 3 i w') ?_
    refine XP_of (fun w' => ix176 bm 0 (i / 4) .i64 hi4 w') ?_
    refine XR_ok Ext.frame (fun w' kk => run_loadAt (v := U32 ((mUpto d.rest i).getD (i / 4) 0)) agg_31 (ul_atm (Ext.get kk hmd) (by rw [hml]; exact hi4))) ?_
    refine XR_all (fun w' => u32_of_u8 Tryz.underlying5 Tryz.underlying31 (d.rest.getD i 0) w') ?_
    refine XP_of (fun w' => and_3 3 i (by omega) w') ?_
    refine XP_of (fun w' => mulN 3 (a := 8) (b := i % 4) (by omega) w') ?_
    refine XP_of (fun w' => u32_shl 31 .i64 _ (8 * (i % 4)) (by omega) w') ?_
    refine XP_of (fun w' => u32_or 31 _ _ w') ?_
    refine XP_of (fun w' => ix176 bm 0 (i / 4) .i64 hi4 w') ?_
    refine XU_store info_31 sz_31 rfl hmd (by simp [UL_len, hml]; omega) (by show ¬ (0 ≤ _ ∧ _ < 0); omega) ?_
    rw [UL_set, Nat.zero_add, X_add]
    show _ ∧ _
    refine ⟨⟨i + 1, by omega, Ext.seq kd (setAt_keep _ _ _ _ _) (fun g hg => by omega), ?_, next64 (n := 1000) (by decide) (by omega), r25, r4, r0, r1⟩, ?_⟩
    · rw [mUpto, mStep]
      exact setAt_same (lt_of_blk hmd)
    · show (_ - IntKind.i64.wrap _).toNat < _
      rw [w64 (by omega) (by omega)]
      first | omega | (show _ < (_ : Int).toNat; omega)
  · rintro ρ wr ⟨hx, hm, r4, r0, r1⟩
    simp only [inBlockS_same, thenS_normal]
    refine joinS_of (fun ρ3 w3 => ∃ bv bx : Nat, Ext w w3 ∧ Blk w3 bm bv bx (mUpto d.rest 64) d.ws firstW ∧ bm ≤ bv ∧ bm ≤ bx ∧ ρ3 7 = ptr bv ∧ ρ3 8 = ptr bx ∧ ρ3 4 = ptr bm ∧ ρ3 0 = ptr b ∧ ρ3 1 = .bool last) ?_ ?_
    · rintro ρ3 w3 ⟨bv, bx, hx3, hB, hbv, hbx, q7, q8, q4, q0, q1⟩
      have kd := hx3.trans (Keep.drew (fun _ => False) w3)
      have hBd := hB.ext (Keep.drew (fun _ => False) w3)
      rw [q8, q0]
      refine ⟨Ext, Ext.frame, ?_⟩
      generalize drewW w3 = wd at kd hBd ⊢
      have hn : ∀ w', Ext w w' → (Instr.loadAt 37 (.pointer (some ⟨b, 0 + 72, none⟩))).run Tryz.prog w' = .ok (.int .u64 (d.n : Int)) w' := fun w' kk => run_loadAt agg_37 ((cell_blk (Ext.get kk h)).trans (by have := d.nAt; rw [← List.getElem?_toArray] at this; exact this))
      have ec : ∀ n : Nat, Value.int .u32 (IntKind.u32.wrap (n : Int)) = U32 (BitVec.ofNat 32 n) := fun n => by
        unfold U32
        rw [wrap_u32, BitVec.toNat_ofNat]
        rfl
      refine XP_of (fun w' => ix135 bx 0 4 .i64 (by decide) w') ?_
      refine XR_ok Ext.frame (fun w' kk => run_loadAt agg_31 ((hBd.ext kk).atx (i := 4) (by decide))) ?_
      (repeat (simp only [SLB, Int.reduceEq, Int.reduceNe, Int.reduceLT, Int.reduceLE, Int.reduceGT, Int.reduceGE, XP_field_139_2]))
      refine XR_ok Ext.frame (fun w' kk => hn w' (kd.trans kk)) ?_
      rw [XR_conv_37_31, ec]
      refine XP_of (fun w' => u32_xor 31 _ _ w') ?_
      refine XP_of (fun w' => ix135 bx 0 4 .i64 (by decide) w') ?_
      refine XU_store info_31 sz_31 rfl hBd.hx (by simp [UL_len, hBd.xl]) (by show ¬ (0 ≤ _ ∧ _ < 0); omega) ?_
      have hB4 := hBd.setx 4 (firstW.getD 4 0 ^^^ BitVec.ofNat 32 d.n)
      have hk4 : Ext w (setAt wd bx ((UL firstW).toArray.setIfInBounds 4 (U32 (firstW.getD 4 0 ^^^ BitVec.ofNat 32 d.n))) 135 (0, 0)) := Ext.seq kd (setAt_keep _ _ _ _ _) (fun g hg => by omega)
      rw [Nat.zero_add]
      rw [setX_eq] at hB4
      generalize setAt wd bx ((UL firstW).toArray.setIfInBounds 4 (U32 (firstW.getD 4 0 ^^^ BitVec.ofNat 32 d.n))) 135 (0, 0) = w4 at hB4 hk4 ⊢
      have kd4 := hk4.trans (Keep.drew (fun _ => False) w4)
      have hBd4 := hB4.ext (Keep.drew (fun _ => False) w4)
      refine ⟨Ext, Ext.frame, ?_⟩
      generalize drewW w4 = wd4 at kd4 hBd4 ⊢
      refine XP_of (fun w' => ix135 bx 0 5 .i64 (by decide) w') ?_
      refine XR_ok Ext.frame (fun w' kk => run_loadAt agg_31 ((hBd4.ext kk).atx (i := 5) (by decide))) ?_
      (repeat (simp only [SLB, Int.reduceEq, Int.reduceNe, Int.reduceLT, Int.reduceLE, Int.reduceGT, Int.reduceGE, XP_field_139_2]))
      refine XR_ok Ext.frame (fun w' kk => hn w' (kd4.trans kk)) ?_
      have e32 : ∀ w' : World, (binOp .shr 37 (.int .u64 (d.n : Int)) (.int .u64 32)).run Tryz.prog w' = .ok (.int .u64 ((d.n / 4294967296 : Nat) : Int)) w' := fun w' => by
        rw [run_shr _ _ (by decide) w']
        have e1 : min ((32 : Int).toNat) IntKind.u64.bits = 32 := rfl
        rw [e1, fdiv_pow]
      refine XP_of e32 ?_
      rw [XR_conv_37_31, ec]
      refine XP_of (fun w' => u32_xor 31 _ _ w') ?_
      refine XP_of (fun w' => ix135 bx 0 5 .i64 (by decide) w') ?_
      refine XU_store info_31 sz_31 rfl hBd4.hx (by simp [UL_len, hBd4.xl]) (by show ¬ (0 ≤ _ ∧ _ < 0); omega) ?_
      have hB5 := hBd4.setx 5 ((setX firstW 4 (BitVec.ofNat 32 d.n)).getD 5 0 ^^^ BitVec.ofNat 32 (d.n / 4294967296))
      have hk5 : Ext w (setAt wd4 bx ((UL (setX firstW 4 (BitVec.ofNat 32 d.n))).toArray.setIfInBounds 5 (U32 ((setX firstW 4 (BitVec.ofNat 32 d.n)).getD 5 0 ^^^ BitVec.ofNat 32 (d.n / 4294967296)))) 135 (0, 0)) := Ext.seq kd4 (setAt_keep _ _ _ _ _) (fun g hg => by omega)
      rw [Nat.zero_add]
      rw [setX_eq] at hB5
      generalize setAt wd4 bx ((UL (setX firstW 4 (BitVec.ofNat 32 d.n))).toArray.setIfInBounds 5 (U32 ((setX firstW 4 (BitVec.ofNat 32 d.n)).getD 5 0 ^^^ BitVec.ofNat 32 (d.n / 4294967296)))) 135 (0, 0) = w5 at hB5 hk5 ⊢
      refine joinS_of (fun ρ4 w6 => Ext w w6 ∧ Blk w6 bm bv bx (mUpto d.rest 64) d.ws (startX d.n last) ∧ ρ4 7 = ptr bv ∧ ρ4 8 = ptr bx ∧ ρ4 4 = ptr bm ∧ ρ4 0 = ptr b) ?_ ?_
      · rintro ρ4 w6 ⟨hx6, hB6, p7, p8, p4, p0⟩
        have hxl := startX_len d.n last
        refine loopG 2 (fun ρ wr => ∃ r : Nat, r ≤ 10 ∧ Ext w wr ∧ Blk wr bm bv bx (mUpto d.rest 64) (rndsW (mUpto d.rest 64) r d.ws (startX d.n last)).1 (rndsW (mUpto d.rest 64) r d.ws (startX d.n last)).2 ∧ ρ 72 = .int .i64 (r : Int) ∧ ρ 7 = ptr bv ∧ ρ 8 = ptr bx ∧ ρ 4 = ptr bm ∧ ρ 0 = ptr b)
          (fun ρ wr => match ρ 72 with | .int _ s => (10 - s).toNat | _ => 0)
          (fun ρ wr => Ext w wr ∧ Blk wr bm bv bx (mUpto d.rest 64) (rndsW (mUpto d.rest 64) 10 d.ws (startX d.n last)).1 (rndsW (mUpto d.rest 64) 10 d.ws (startX d.n last)).2 ∧ ρ 7 = ptr bv ∧ ρ 8 = ptr bx ∧ ρ 0 = ptr b) ?_ ?_ ?_
        · refine ⟨0, by omega, hx6, ?_, rfl, p7, p8, p4, p0⟩
          rw [rndsW]
          exact hB6
        · rintro J hJ ρ wr ⟨r, hr, hx, hBr, s72, s7, s8, s4, s0⟩
          rw [s72, s4, X_lss, condS_bool]
          by_cases hre : r = 10
          · rw [if_neg (by simp; omega)]
            rw [hre] at hBr
            exact hJ _ _ ⟨hx, hBr, s7, s8, s0⟩
          rw [if_pos (by simp; omega)]
          have hr10 : r < 10 := by omega
          have hnx : ((rndsW (mUpto d.rest 64) (r + 1) d.ws (startX d.n last)).1, (rndsW (mUpto d.rest 64) (r + 1) d.ws (startX d.n last)).2) = ((rndW (mUpto d.rest 64) r (rndsW (mUpto d.rest 64) r d.ws (startX d.n last)).1 (rndsW (mUpto d.rest 64) r d.ws (startX d.n last)).2).v, (rndW (mUpto d.rest 64) r (rndsW (mUpto d.rest 64) r d.ws (startX d.n last)).1 (rndsW (mUpto d.rest 64) r d.ws (startX d.n last)).2).x) := by rw [rndsW]
          have hn1 := congrArg Prod.fst hnx
          have hn2 := congrArg Prod.snd hnx
          simp only at hn1 hn2
          have step : ∀ (ρ' : Env) (w' : World), Ext w w' → Blk w' bm bv bx (mUpto d.rest 64) (rndsW (mUpto d.rest 64) (r + 1) d.ws (startX d.n last)).1 (rndsW (mUpto d.rest 64) (r + 1) d.ws (startX d.n last)).2 → ρ' 72 = .int .i64 (r : Int) → ρ' 7 = ptr bv → ρ' 8 = ptr bx → ρ' 4 = ptr bm → ρ' 0 = ptr b →
              X Tryz.prog (binOp .add 3 (ρ' 72) (.int .i64 1)) w' fun v w'' => (∃ r : Nat, r ≤ 10 ∧ Ext w w'' ∧ Blk w'' bm bv bx (mUpto d.rest 64) (rndsW (mUpto d.rest 64) r d.ws (startX d.n last)).1 (rndsW (mUpto d.rest 64) r d.ws (startX d.n last)).2 ∧ (upds ρ' [(72, v), (165, v)]) 72 = .int .i64 (r : Int) ∧ (upds ρ' [(72, v), (165, v)]) 7 = ptr bv ∧ (upds ρ' [(72, v), (165, v)]) 8 = ptr bx ∧ (upds ρ' [(72, v), (165, v)]) 4 = ptr bm ∧ (upds ρ' [(72, v), (165, v)]) 0 = ptr b) ∧
                (match (upds ρ' [(72, v), (165, v)]) 72 with | .int _ s => (10 - s).toNat | _ => 0) < ((10 : Int) - (r : Int)).toNat := by
            intro ρ' w' hx' hB' e72 e7 e8 e4 e0
            rw [e72, X_add]
            refine ⟨⟨r + 1, by omega, hx', hB', next64 (n := 1000) (by decide) (by omega), e7, e8, e4, e0⟩, ?_⟩
            show (_ - IntKind.i64.wrap _).toNat < _
            rw [w64 (by omega) (by omega)]
            omega
          rw [hn1, hn2] at step
          have hv8 := hBr.vl
          have hx8 := hBr.xl
          generalize (rndsW (mUpto d.rest 64) r d.ws (startX d.n last)).1 = v0 at hBr step hv8
          generalize (rndsW (mUpto d.rest 64) r d.ws (startX d.n last)).2 = x0 at hBr step hx8
          have er : rndW (mUpto d.rest 64) r v0 x0 = itF (st2 (mUpto d.rest 64)) 4 (itF (st1 (mUpto d.rest 64)) 4 ⟨v0, x0, ordW r⟩) := by rw [rndW]
          rw [er] at step
          have hL0 : (⟨v0, x0, ordW r⟩ : RS).Len := by unfold RS.Len; exact ⟨hv8, hx8⟩
          refine order_spec hr10 ?_
          refine X_alloc zero_37 ?_
          have hxo := newB_ext wr (Value.int .u64 0).cells 37
          have hgo : (newB wr (Value.int .u64 0).cells 37).heap[wr.heap.size]? = some (.cells #[Value.int .u64 0] 37 (0, 0)) := newB_get _ _ _
          have hwsz := hx.size
          generalize newB wr (Value.int .u64 0).cells 37 = wo at hxo hgo ⊢
          refine XU_store info_37 sz_37 rfl hgo (by show 0 < 1; decide) (by show ¬ (0 ≤ _ ∧ _ < 0); omega) ?_
          have hko := setAt_keep wo wr.heap.size (#[Value.int .u64 0].setIfInBounds 0 (U64 (ordW r))) 37 (0, 0)
          have hgo2 : (setAt wo wr.heap.size (#[Value.int .u64 0].setIfInBounds 0 (U64 (ordW r))) 37 (0, 0)).heap[wr.heap.size]? = some (.cells #[U64 (ordW r)] 37 (0, 0)) := setAt_same (lt_of_blk hgo)
          generalize setAt wo wr.heap.size (#[Value.int .u64 0].setIfInBounds 0 (U64 (ordW r))) 37 (0, 0) = wp at hko hgo2 ⊢
          have hxp : Ext wr wp := Ext.seq hxo hko (fun g hg => by omega)
          have hBp := hBr.ext hxp
          have hob : bm < wr.heap.size ∧ bv < wr.heap.size ∧ bx < wr.heap.size := ⟨lt_of_blk hBr.hm, lt_of_blk hBr.hv, lt_of_blk hBr.hx⟩
          generalize wr.heap.size = bo at hgo2 hob hwsz ⊢
          refine X_of (w1 := wp) (v := .func (.func 85) #[] #[ptr bm, ptr bo]) rfl ?_
          generalize hs0 : (⟨v0, x0, ordW r⟩ : RS) = s0' at step hL0
          have ev0 : v0 = s0'.v := by rw [← hs0]
          have ex0 : x0 = s0'.x := by rw [← hs0]
          have eo0 : ordW r = s0'.o := by rw [← hs0]
          rw [ev0, ex0] at hBp
          rw [eo0] at hgo2
          have hxwp : Ext w wp := hx.trans hxp
          have hm16 := mUpto_len d.rest 64
          generalize mUpto d.rest 64 = m at hBp step hm16
          refine loopG 4 (fun ρ6 w' => ∃ i : Nat, i ≤ 4 ∧ Ext w w' ∧ Blk w' bm bv bx m (itF (st1 m) i s0').v (itF (st1 m) i s0').x ∧ w'.heap[bo]? = some (.cells #[U64 (itF (st1 m) i s0').o] 37 (0, 0)) ∧ ρ6 78 = .int .i64 (i : Int) ∧ ρ6 72 = .int .i64 (r : Int) ∧ ρ6 11 = .func (.func 85) #[] #[ptr bm, ptr bo] ∧ ρ6 7 = ptr bv ∧ ρ6 8 = ptr bx ∧ ρ6 4 = ptr bm ∧ ρ6 0 = ptr b)
            (fun ρ wr => match ρ 78 with | .int _ s => (4 - s).toNat | _ => 0)
            (fun ρ6 w' => Ext w w' ∧ Blk w' bm bv bx m (itF (st1 m) 4 s0').v (itF (st1 m) 4 s0').x ∧ w'.heap[bo]? = some (.cells #[U64 (itF (st1 m) 4 s0').o] 37 (0, 0)) ∧ ρ6 72 = .int .i64 (r : Int) ∧ ρ6 11 = .func (.func 85) #[] #[ptr bm, ptr bo] ∧ ρ6 7 = ptr bv ∧ ρ6 8 = ptr bx ∧ ρ6 4 = ptr bm ∧ ρ6 0 = ptr b) ?_ ?_ ?_
          · refine ⟨0, by omega, hxwp, ?_, ?_, rfl, s72, rfl, s7, s8, s4, s0⟩
            · rw [itF]; exact hBp
            · rw [itF]; exact hgo2
          · rintro J6 hJ6 ρ6 w7 ⟨i, hi, hx7, hB7, ho7, t78, t72, t11, t7, t8, t4, t0⟩
            rw [t78, t11, t7, t8, X_lss, condS_bool]
            by_cases hie : i = 4
            · rw [if_neg (by simp; omega)]
              rw [hie] at hB7 ho7
              exact hJ6 _ _ ⟨hx7, hB7, ho7, t72, t11, t7, t8, t4, t0⟩
            rw [if_pos (by simp; omega)]
            have hi4 : i < 4 := by omega
            have hit : itF (st1 m) (i + 1) s0' = st1 m i (itF (st1 m) i s0') := by rw [itF]
            generalize itF (st1 m) i s0' = si at hB7 ho7 hit
            refine two_next hB7 ho7 hob.1 hob.2.1 hob.2.2 ?_
            intro w8 hk8 hB8 ho8
            have hx8 : Ext w w8 := Ext.seq hx7 hk8 (fun g hg => by omega)
            have hxd := hx8.trans (Keep.drew (fun _ => False) w8)
            have hBd := hB8.ext (Keep.drew (fun _ => False) w8)
            have hod : (drewW w8).heap[bo]? = some (.cells #[U64 (si.o <<< 4 <<< 4)] 37 (0, 0)) := ho8
            refine ⟨Ext, Ext.frame, ?_⟩
            generalize drewW w8 = wd at hxd hBd hod ⊢
            refine XP_of (fun w' => addN 3 (a := i) (b := 4) (by omega) w') ?_
            refine XP_of (fun w' => addN 3 (a := i) (b := 4) (by omega) w') ?_
            refine XP_of (fun w' => ix135 bv 0 i .i64 (by omega) w') ?_
            refine XR_ok Ext.frame (fun w' kk => run_loadAt agg_31 ((hBd.ext kk).atv (i := i) (by omega))) ?_
            refine XP_of (fun w' => addN 3 (a := i) (b := 4) (by omega) w') ?_
            refine XP_of (fun w' => ix135 bv 0 (i + 4) .i64 (by omega) w') ?_
            refine XR_ok Ext.frame (fun w' kk => run_loadAt agg_31 ((hBd.ext kk).atv (i := i + 4) (by omega))) ?_
            refine XP_of (fun w' => ix135 bx 0 i .i64 (by omega) w') ?_
            refine XR_ok Ext.frame (fun w' kk => run_loadAt agg_31 ((hBd.ext kk).atx (i := i) (by omega))) ?_
            refine XP_of (fun w' => addN 3 (a := i) (b := 4) (by omega) w') ?_
            refine XP_of (fun w' => ix135 bx 0 (i + 4) .i64 (by omega) w') ?_
            refine XR_ok Ext.frame (fun w' kk => run_loadAt agg_31 ((hBd.ext kk).atx (i := i + 4) (by omega))) ?_
            refine quart_spec ?_
            intro q hq
            have hst : st1 m i si = ⟨(si.v.set i q.1).set (i + 4) q.2.1, (si.x.set i q.2.2.1).set (i + 4) q.2.2.2, si.o <<< 4 <<< 4⟩ := by rw [st1, hq]
            (repeat (simp only [SLB, Int.reduceEq, Int.reduceNe, Int.reduceLT, Int.reduceLE, Int.reduceGT, Int.reduceGE]))
            refine XP_of (fun w' => ix135 bv 0 i .i64 (by omega) w') ?_
            refine hBd.putv (i := i) (by omega) _ ?_
            intro w9 hB9 hk9
            refine XP_of (fun w' => ix135 bv 0 (i + 4) .i64 (by omega) w') ?_
            refine hB9.putv (i := i + 4) (by omega) _ ?_
            intro w10 hB10 hk10
            refine XP_of (fun w' => ix135 bx 0 i .i64 (by omega) w') ?_
            refine hB10.putx (i := i) (by omega) _ ?_
            intro w11 hB11 hk11
            refine XP_of (fun w' => ix135 bx 0 (i + 4) .i64 (by omega) w') ?_
            refine hB11.putx (i := i + 4) (by omega) _ ?_
            intro w12 hB12 hk12
            have hx12 : Ext w w12 := Ext.seq (Ext.seq (Ext.seq (Ext.seq hxd hk9 (fun g hg => by omega)) hk10 (fun g hg => by omega)) hk11 (fun g hg => by omega)) hk12 (fun g hg => by omega)
            have ho12 := hk12.get (by omega) (hk11.get (by omega) (hk10.get (by omega) (hk9.get (by omega) hod)))
            rw [X_add]
            show _ ∧ _
            refine ⟨⟨i + 1, by omega, hx12, ?_, ?_, next64 (n := 1000) (by decide) (by omega), t72, t11, t7, t8, t4, t0⟩, ?_⟩
            · rw [hit, hst]; exact hB12
            · rw [hit, hst]; exact ho12
            · show (_ - IntKind.i64.wrap _).toNat < _
              rw [w64 (by omega) (by omega)]
              first | omega | (show _ < (_ : Int).toNat; omega)
          · rintro ρ6 w7 ⟨hx7, hB7, ho7, t72, t11, t7, t8, t4, t0⟩
            simp only [inBlockS_same, thenS_normal]
            generalize itF (st1 m) 4 s0' = s1 at hB7 ho7 step
            refine loopG 6 (fun ρ6 w' => ∃ i : Nat, i ≤ 4 ∧ Ext w w' ∧ Blk w' bm bv bx m (itF (st2 m) i s1).v (itF (st2 m) i s1).x ∧ w'.heap[bo]? = some (.cells #[U64 (itF (st2 m) i s1).o] 37 (0, 0)) ∧ ρ6 118 = .int .i64 (i : Int) ∧ ρ6 72 = .int .i64 (r : Int) ∧ ρ6 11 = .func (.func 85) #[] #[ptr bm, ptr bo] ∧ ρ6 7 = ptr bv ∧ ρ6 8 = ptr bx ∧ ρ6 4 = ptr bm ∧ ρ6 0 = ptr b)
              (fun ρ wr => match ρ 118 with | .int _ s => (4 - s).toNat | _ => 0)
              (fun ρ6 w' => Ext w w' ∧ Blk w' bm bv bx m (itF (st2 m) 4 s1).v (itF (st2 m) 4 s1).x ∧ ρ6 72 = .int .i64 (r : Int) ∧ ρ6 7 = ptr bv ∧ ρ6 8 = ptr bx ∧ ρ6 4 = ptr bm ∧ ρ6 0 = ptr b) ?_ ?_ ?_
            · refine ⟨0, by omega, hx7, ?_, ?_, rfl, t72, t11, t7, t8, t4, t0⟩
              · rw [itF]; exact hB7
              · rw [itF]; exact ho7
            · rintro J8 hJ8 ρ8 w8 ⟨i, hi, hx8, hB8, ho8, u118, u72, u11, u7, u8, u4, u0⟩
              rw [u118, u11, u7, u8, X_lss, condS_bool]
              by_cases hie : i = 4
              · rw [if_neg (by simp; omega)]
                rw [hie] at hB8
                exact hJ8 _ _ ⟨hx8, hB8, u72, u7, u8, u4, u0⟩
              rw [if_pos (by simp; omega)]
              have hi4 : i < 4 := by omega
              have hit : itF (st2 m) (i + 1) s1 = st2 m i (itF (st2 m) i s1) := by rw [itF]
              generalize itF (st2 m) i s1 = si at hB8 ho8 hit
              refine X_of (addN 3 (a := i) (b := 1) (by omega) _) ?_
              refine X_of (rem4N 3 (i + 1) _) ?_
              refine X_of (addN 3 (a := 4) (b := (i + 1) % 4) (by omega) _) ?_
              refine X_of (addN 3 (a := i) (b := 2) (by omega) _) ?_
              refine X_of (rem4N 3 (i + 2) _) ?_
              refine X_of (addN 3 (a := i) (b := 3) (by omega) _) ?_
              refine X_of (rem4N 3 (i + 3) _) ?_
              refine X_of (addN 3 (a := 4) (b := (i + 3) % 4) (by omega) _) ?_
              refine two_next hB8 ho8 hob.1 hob.2.1 hob.2.2 ?_
              intro w9 hk9 hB9 ho9
              have hx9 : Ext w w9 := Ext.seq hx8 hk9 (fun g hg => by omega)
              have hxd := hx9.trans (Keep.drew (fun _ => False) w9)
              have hBd := hB9.ext (Keep.drew (fun _ => False) w9)
              have hod : (drewW w9).heap[bo]? = some (.cells #[U64 (si.o <<< 4 <<< 4)] 37 (0, 0)) := ho9
              refine ⟨Ext, Ext.frame, ?_⟩
              generalize drewW w9 = wd at hxd hBd hod ⊢
              have hb8 : 4 + (i + 1) % 4 < 8 := by omega
              have hc8 : (i + 2) % 4 < 8 := by omega
              have hd8 : 4 + (i + 3) % 4 < 8 := by omega
              refine XP_of (fun w' => ix135 bv 0 i .i64 (by omega) w') ?_
              refine XR_ok Ext.frame (fun w' kk => run_loadAt agg_31 ((hBd.ext kk).atv (i := i) (by omega))) ?_
              refine XP_of (fun w' => ix135 bv 0 (4 + (i + 1) % 4) .i64 hb8 w') ?_
              refine XR_ok Ext.frame (fun w' kk => run_loadAt agg_31 ((hBd.ext kk).atv (i := 4 + (i + 1) % 4) hb8)) ?_
              refine XP_of (fun w' => ix135 bx 0 ((i + 2) % 4) .i64 hc8 w') ?_
              refine XR_ok Ext.frame (fun w' kk => run_loadAt agg_31 ((hBd.ext kk).atx (i := (i + 2) % 4) hc8)) ?_
              refine XP_of (fun w' => ix135 bx 0 (4 + (i + 3) % 4) .i64 hd8 w') ?_
              refine XR_ok Ext.frame (fun w' kk => run_loadAt agg_31 ((hBd.ext kk).atx (i := 4 + (i + 3) % 4) hd8)) ?_
              refine quart_spec ?_
              intro q hq
              have hst : st2 m i si = ⟨(si.v.set i q.1).set (4 + (i + 1) % 4) q.2.1, (si.x.set ((i + 2) % 4) q.2.2.1).set (4 + (i + 3) % 4) q.2.2.2, si.o <<< 4 <<< 4⟩ := by rw [st2, hq]
              (repeat (simp only [SLB, Int.reduceEq, Int.reduceNe, Int.reduceLT, Int.reduceLE, Int.reduceGT, Int.reduceGE]))
              refine XP_of (fun w' => ix135 bv 0 i .i64 (by omega) w') ?_
              refine hBd.putv (i := i) (by omega) _ ?_
              intro w10 hB10 hk10
              refine XP_of (fun w' => ix135 bv 0 (4 + (i + 1) % 4) .i64 hb8 w') ?_
              refine hB10.putv (i := 4 + (i + 1) % 4) hb8 _ ?_
              intro w11 hB11 hk11
              refine XP_of (fun w' => ix135 bx 0 ((i + 2) % 4) .i64 hc8 w') ?_
              refine hB11.putx (i := (i + 2) % 4) hc8 _ ?_
              intro w12 hB12 hk12
              refine XP_of (fun w' => ix135 bx 0 (4 + (i + 3) % 4) .i64 hd8 w') ?_
              refine hB12.putx (i := 4 + (i + 3) % 4) hd8 _ ?_
              intro w13 hB13 hk13
              have hx13 : Ext w w13 := Ext.seq (Ext.seq (Ext.seq (Ext.seq hxd hk10 (fun g hg => by omega)) hk11 (fun g hg => by omega)) hk12 (fun g hg => by omega)) hk13 (fun g hg => by omega)
              have ho13 := hk13.get (by omega) (hk12.get (by omega) (hk11.get (by omega) (hk10.get (by omega) hod)))
              rw [X_add]
              show _ ∧ _
              refine ⟨⟨i + 1, by omega, hx13, ?_, ?_, next64 (n := 1000) (by decide) (by omega), u72, u11, u7, u8, u4, u0⟩, ?_⟩
              · rw [hit, hst]; exact hB13
              · rw [hit, hst]; exact ho13
              · show (_ - IntKind.i64.wrap _).toNat < _
                rw [w64 (by omega) (by omega)]
                first | omega | (show _ < (_ : Int).toNat; omega)
            · rintro ρ8 w8 ⟨hx8, hB8, u72, u7, u8, u4, u0⟩
              exact step ρ8 w8 hx8 hB8 u72 u7 u8 u4 u0
        · rintro ρ wr ⟨hx, hBr, s7, s8, s0⟩
          simp only [inBlockS_same, thenS_normal]
          have epw : pressW d last = finU (rndsW (mUpto d.rest 64) 10 d.ws (startX d.n last)).1 (rndsW (mUpto d.rest 64) 10 d.ws (startX d.n last)).2 8 d.ws := by rw [pressW]
          have hfin : ∀ w', StAt w' b ⟨pressW d last, d.rest, d.n, pressW_len d last, d.hr, d.hn⟩ → Keep (· = b) w w' → K (.tuple #[]) w' := fun w' h1 h2 => hK w' h1 h2
          have hpl := pressW_len d last
          generalize (rndsW (mUpto d.rest 64) 10 d.ws (startX d.n last)).1 = v at hBr epw
          generalize (rndsW (mUpto d.rest 64) 10 d.ws (startX d.n last)).2 = x at hBr epw
          have hfl : ∀ i, (finU v x i d.ws).length = 8 := fun i => (finU_len v x i d.ws).trans d.hw
          refine loopG 8 (fun ρ w' => ∃ i : Nat, i ≤ 8 ∧ Keep (· = b) w w' ∧ Blk w' bm bv bx (mUpto d.rest 64) v x ∧ StAt w' b ⟨finU v x i d.ws, d.rest, d.n, hfl i, d.hr, d.hn⟩ ∧ ρ 166 = .int .i64 (i : Int) ∧ ρ 7 = ptr bv ∧ ρ 8 = ptr bx ∧ ρ 0 = ptr b)
            (fun ρ wr => match ρ 166 with | .int _ s => (8 - s).toNat | _ => 0)
            (fun ρ w' => Keep (· = b) w w' ∧ StAt w' b ⟨finU v x 8 d.ws, d.rest, d.n, hfl 8, d.hr, d.hn⟩) ?_ ?_ ?_
          · refine ⟨0, by omega, Keep.ext hx, hBr, ?_, rfl, s7, s8, s0⟩
            have := Ext.get hx h
            unfold StAt
            simp only [finU]
            exact this
          · rintro J hJ ρ' w' ⟨i, hi, hk, hB, hst, t166, t7, t8, t0⟩
            rw [t166, t7, t8, t0, X_lss, condS_bool]
            by_cases hie : i = 8
            · subst hie
              rw [if_neg (by simp)]
              exact hJ _ _ ⟨hk, hst⟩
            rw [if_pos (by simp; omega)]
            have hi8 : i < 8 := by omega
            have hkd := hk.trans (Keep.drew (· = b) w')
            have hBd := hB.ext (Keep.drew (fun _ => False) w')
            have hstd : StAt (drewW w') b ⟨finU v x i d.ws, d.rest, d.n, hfl i, d.hr, d.hn⟩ := hst
            refine ⟨Ext, Ext.frame, ?_⟩
            generalize drewW w' = wd at hkd hBd hstd ⊢
            (repeat (simp only [SLB, Int.reduceEq, Int.reduceNe, Int.reduceLT, Int.reduceLE, Int.reduceGT, Int.reduceGE, XP_field_139_0]))
            refine XP_of (fun w' => ix135 b 0 i .i64 hi8 w') ?_
            refine XR_ok Ext.frame (fun w' kk => run_loadAt (v := U32 ((finU v x i d.ws).getD i 0)) agg_31 ((by rw [Nat.zero_add]; exact (cell_blk (Ext.get kk hstd)).trans (by have := Dg.wsAt ⟨finU v x i d.ws, d.rest, d.n, hfl i, d.hr, d.hn⟩ hi8; rw [← List.getElem?_toArray] at this; exact this)))) ?_
            refine XP_of (fun w' => ix135 bv 0 i .i64 hi8 w') ?_
            refine XR_ok Ext.frame (fun w' kk => run_loadAt agg_31 ((hBd.ext kk).atv hi8)) ?_
            refine XP_of (fun w' => ix135 bx 0 i .i64 hi8 w') ?_
            refine XR_ok Ext.frame (fun w' kk => run_loadAt agg_31 ((hBd.ext kk).atx hi8)) ?_
            refine XP_of (fun w' => u32_xor 31 _ _ w') ?_
            refine XP_of (fun w' => u32_xor 31 _ _ w') ?_
            (repeat (simp only [SLB, Int.reduceEq, Int.reduceNe, Int.reduceLT, Int.reduceLE, Int.reduceGT, Int.reduceGE, XP_field_139_0]))
            refine XP_of (fun w' => ix135 b 0 i .i64 hi8 w') ?_
            refine XU_store info_31 sz_31 rfl hstd (by simp [Dg.cs_len]; omega) (by show ¬ (0 ≤ _ ∧ _ < 0); omega) ?_
            rw [Nat.zero_add]
            have hset := Dg.cs_set ⟨finU v x i d.ws, d.rest, d.n, hfl i, d.hr, d.hn⟩ hi8 ((finU v x i d.ws).getD i 0 ^^^ (v.getD i 0 ^^^ x.getD i 0)) (hfl (i + 1)) (by simp only [finU, setX_eq])
            rw [hset, X_add]
            have hbne : bm ≠ b ∧ bv ≠ b ∧ bx ≠ b := by omega
            show _ ∧ _
            refine ⟨⟨i + 1, by omega, hkd.trans (setAt_keep _ _ _ _ _), hBd.keep (setAt_keep _ _ _ _ _) hbne.1 hbne.2.1 hbne.2.2, setAt_same (lt_of_blk hstd), next64 (n := 1000) (by decide) (by omega), t7, t8, t0⟩, ?_⟩
            show (_ - IntKind.i64.wrap _).toNat < _
            rw [w64 (by omega) (by omega)]
            first | omega | (show _ < (_ : Int).toNat; omega)
          · rintro ρ' w' ⟨hk, hst⟩
            refine hfin w' ?_ hk
            unfold StAt at hst ⊢
            simp only [epw]
            exact hst
      · intro J4 hJ4
        rw [q1]
        cases last with
        | false =>
          rw [condS_bool, if_neg (by decide)]
          have e : startX d.n false = setX (setX firstW 4 (BitVec.ofNat 32 d.n)) 5 (BitVec.ofNat 32 (d.n / 4294967296)) := by rw [startX]; rfl
          rw [e] at hJ4
          exact hJ4 _ _ ⟨hk5, hB5, q7, q8, q4, q0⟩
        | true =>
          rw [condS_bool, if_pos rfl]
          have e : startX d.n true = (setX (setX firstW 4 (BitVec.ofNat 32 d.n)) 5 (BitVec.ofNat 32 (d.n / 4294967296))).set 6 (~~~ ((setX (setX firstW 4 (BitVec.ofNat 32 d.n)) 5 (BitVec.ofNat 32 (d.n / 4294967296))).getD 6 0)) := by rw [startX]; rfl
          rw [e] at hJ4
          generalize setX (setX firstW 4 (BitVec.ofNat 32 d.n)) 5 (BitVec.ofNat 32 (d.n / 4294967296)) = x2 at hB5 hJ4
          refine X_of (ix135 bx 0 6 .i64 (by decide) _) ?_
          refine X_of (run_loadAt agg_31 (hB5.atx (i := 6) (by decide))) ?_
          refine X_of (u32_not _ _) ?_
          refine X_of (ix135 bx 0 6 .i64 (by decide) _) ?_
          refine XU_store info_31 sz_31 rfl hB5.hx (by simp [UL_len, hB5.xl]) (by show ¬ (0 ≤ _ ∧ _ < 0); omega) ?_
          rw [Nat.zero_add]
          exact hJ4 _ _ ⟨Ext.seq hk5 (setAt_keep _ _ _ _ _) (fun g hg => by omega), hB5.setx 6 _, q7, q8, q4, q0⟩
    · intro J3 hJ3
      have kd := Keep.drew (fun _ => False) wr
      have hmd : (drewW wr).heap[bm]? = some (.cells (UL (mUpto d.rest 64)).toArray 176 (0, 0)) := hm
      have sd : (drewW wr).heap.size = wr.heap.size := rfl
      refine ⟨Ext, Ext.frame, ?_⟩
      generalize drewW wr = wd at kd hmd sd ⊢
      have hxd := hx.trans kd
      have hbd : StAt wd b d := Ext.get hxd h
      have hs8 : d.ws.length = 8 := d.hw
      have hf8 : firstW.length = 8 := by unfold firstW; rfl
      have hmlt := lt_of_blk hmd
      rw [r0]
      (repeat (simp only [SLB, Int.reduceEq, Int.reduceNe, Int.reduceLT, Int.reduceLE, Int.reduceGT, Int.reduceGE, XP_field_139_0]))
      refine XR_ok Ext.frame (fun w' kk => load_cells Tryz.underlying135 agg_135 info_135 (l := UL d.ws) (by rw [sz_135, UL_len, d.hw]) (fun j u hj => by
        have hj8 : j < 8 := by have := (List.getElem?_eq_some_iff.1 hj).1; rw [UL_len, d.hw] at this; exact this
        rw [add_plain, Nat.zero_add, cell_blk (Ext.get kk hbd)]
        have h1 := d.wsAt hj8
        have h2 := UL_get d.ws j (by rw [d.hw]; exact hj8)
        rw [h2] at hj
        rw [← List.getElem?_toArray, hj] at h1
        exact h1)) ?_
      have fin : ∀ (bv bx : Nat) (w5 : World) (l : List (Nat × Value)), bm < bv → bm < bx → bv ≠ bx → Ext wd w5 → w5.heap[bv]? = some (.cells z8 135 (0, 0)) → w5.heap[bx]? = some (.cells z8 135 (0, 0)) → (upds ρ l) 7 = ptr bv → (upds ρ l) 8 = ptr bx → (upds ρ l) 4 = ρ 4 → (upds ρ l) 0 = ρ 0 → (upds ρ l) 1 = ρ 1 →
          XU Tryz.prog (Instr.storeAt 135 (ptr bv) (.agg (UL d.ws).toArray)) w5 fun w1 => XU Tryz.prog (Instr.storeAt 135 (ptr bx) (.agg (UL firstW).toArray)) w1 fun w2 => J3 (upds ρ l) w2 := by
        intro bv bx w5 l h1 h2 h3 h4 h5 h6 e7 e8 e4 e0 e1
        refine two_store h5 h6 h3 hs8 hf8 ?_
        intro w6 hk6 hv6 hx6
        refine hJ3 _ _ ⟨bv, bx, Ext.seq (hxd.trans h4) hk6 (fun g hg => by rcases hg with rfl | rfl <;> omega), ⟨hk6.get (by omega) (Ext.get h4 hmd), hv6, hx6, mUpto_len _ _, hs8, hf8, by omega, by omega, h3⟩, by omega, by omega, e7, e8, e4.trans r4, e0.trans r0, e1.trans r1⟩
      refine ⟨?_, ?_, ?_⟩
      · refine first_spec ?_
        intro wF hxF
        have sF := hxF.size
        refine ⟨hxF, ?_, ?_⟩
        · refine alloc8 ?_
          intro ba wa ea hxa sa hga
          refine ⟨hxa, ?_⟩
          refine alloc8 ?_
          intro bc wc ec hxc sc hgc
          refine ⟨hxc, ?_⟩
          exact fin ba bc wc _ (by omega) (by omega) (by omega) ((hxF.trans hxa).trans hxc) (Ext.get hxc hga) hgc rfl rfl rfl rfl rfl
        · refine alloc8 ?_
          intro ba wa ea hxa sa hga
          refine ⟨hxa, ?_⟩
          refine alloc8 ?_
          intro bc wc ec hxc sc hgc
          refine ⟨hxc, ?_⟩
          exact fin bc ba wc _ (by omega) (by omega) (by omega) ((hxF.trans hxa).trans hxc) hgc (Ext.get hxc hga) rfl rfl rfl rfl rfl
      · refine alloc8 ?_
        intro ba wa ea hxa sa hga
        refine ⟨hxa, ?_, ?_⟩
        · refine first_spec ?_
          intro wF hxF
          have sF := hxF.size
          refine ⟨hxF, ?_⟩
          refine alloc8 ?_
          intro bc wc ec hxc sc hgc
          refine ⟨hxc, ?_⟩
          exact fin ba bc wc _ (by omega) (by omega) (by omega) ((hxa.trans hxF).trans hxc) (Ext.get hxc (Ext.get hxF hga)) hgc rfl rfl rfl rfl rfl
        · refine alloc8 ?_
          intro bc wc ec hxc sc hgc
          refine ⟨hxc, ?_⟩
          refine first_spec ?_
          intro wF hxF
          refine ⟨hxF, ?_⟩
          exact fin ba bc wF _ (by omega) (by omega) (by omega) ((hxa.trans hxc).trans hxF) (Ext.get hxF (Ext.get hxc hga)) (Ext.get hxF hgc) rfl rfl rfl rfl rfl
      · refine alloc8 ?_
        intro ba wa ea hxa sa hga
        refine ⟨hxa, ?_, ?_⟩
        · refine first_spec ?_
          intro wF hxF
          have sF := hxF.size
          refine ⟨hxF, ?_⟩
          refine alloc8 ?_
          intro bc wc ec hxc sc hgc
          refine ⟨hxc, ?_⟩
          exact fin bc ba wc _ (by omega) (by omega) (by omega) ((hxa.trans hxF).trans hxc) hgc (Ext.get hxc (Ext.get hxF hga)) rfl rfl rfl rfl rfl
        · refine alloc8 ?_
          intro bc wc ec hxc sc hgc
          refine ⟨hxc, ?_⟩
          refine first_spec ?_
          intro wF hxF
          refine ⟨hxF, ?_⟩
          exact fin bc ba wF _ (by omega) (by omega) (by omega) ((hxa.trans hxc).trans hxF) (Ext.get hxF hgc) (Ext.get hxF (Ext.get hxc hga)) rfl rfl rfl rfl rfl
end
end Go.Proofs.YtcigpjejbkngfaaGreatDoor
end
