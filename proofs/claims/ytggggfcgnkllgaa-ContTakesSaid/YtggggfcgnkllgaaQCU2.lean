/- Part 2 of what the law is proved with: Ops2 Agg Ty. -/
import Derived.Lib.AppendStr
import Derived.Laws.Strings
import Derived.ChangeKeysEq
import Derived.Laws.StructEq
import Derived.Test.YtggggfcgnkllgaaProg
import Derived.Test.YtggggfcgnkllgaaQCU1
section
/- More operations' laws: strings of bytes, bits, structs and arrays in memory. -/
set_option linter.unusedSimpArgs false
set_option linter.unusedVariables false
namespace Go.Sh
open Go Go.RowKit

/-- A string of these bytes. -/
def str (bs : List UInt8) : ByteArray := ⟨bs.toArray⟩
theorem str_toList (bs : List UInt8) : (str bs).toList = bs := ByteArray.toList_mk bs
theorem l8_beq (x y : List UInt8) : (x == y) = decide (x = y) := by rw [Bool.eq_iff_iff]; simp
theorem l8_bne (x y : List UInt8) : (x != y) = decide (x ≠ y) := by rw [Bool.eq_iff_iff]; simp
theorem str_size (bs : List UInt8) : (str bs).size = bs.length := by simp [str, ByteArray.size]
theorem str_of (s : ByteArray) : s = str s.data.toList := by simp [str]
theorem strCells_str (bs : List UInt8) : Lib.strCells (str bs) = B8 bs := by simp [Lib.strCells, str, B8]

theorem wrap_u64 (n : Int) : IntKind.u64.wrap n = n % 18446744073709551616 := by simp [IntKind.wrap, IntKind.bits, IntKind.signed]
theorem wrap_u32 (n : Int) : IntKind.u32.wrap n = n % 4294967296 := by simp [IntKind.wrap, IntKind.bits, IntKind.signed]
theorem wrap_u8 (n : Int) : IntKind.u8.wrap n = n % 256 := by simp [IntKind.wrap, IntKind.bits, IntKind.signed]

section
variable {P : Program}

theorem X_loadL {t : TypeId} {b o : Nat} {l : List Value} {T : TypeId} {fr : Nat × Nat} {v : Value} {w : World} {K : Value → World → Prop} (ht : aggB P t = false)
    (hb : w.heap[b]? = some (.cells l.toArray T fr)) (hv : l[o]? = some v) (h : K v w) : X P (Instr.loadAt t (.pointer (some ⟨b, o, none⟩))) w K :=
  X_loadB ht hb (by simpa using hv) h
/-- A cell of a block that R keeps. -/
theorem XR_loadL {t : TypeId} {b o : Nat} {l : List Value} {T : TypeId} {fr : Nat × Nat} {v : Value} {w : World} {K : Value → World → Prop} (ht : aggB P t = false)
    (hb : w.heap[b]? = some (.cells l.toArray T fr)) (hv : l[o]? = some v) (h : K v w) : XR P Ext (Instr.loadAt t (.pointer (some ⟨b, o, none⟩))) w K :=
  XR_ok Ext.frame (fun w' k => run_loadAt ht ((cell_blk (k.get hb)).trans (by simpa using hv))) h
theorem own_mono {w : World} {base base' : Nat} {e : TypeId} {size : Nat} {v : Value} {n : Nat} {xs : List Value} (h : w.ownsRow base e size v n xs) (hb : base' ≤ base) : w.ownsRow base' e size v n xs :=
  ⟨h.1, h.2.imp id fun ⟨g, cap, cur, he, hg, rest⟩ => ⟨g, cap, cur, he, Nat.le_trans hb hg, rest⟩⟩
theorem XR_of_all {R : World → World → Prop} {s : Sem Value} {w : World} {v : Value} {K : Value → World → Prop} (h : ∀ w', s.run P w' = .ok v w') (hK : K v w) : XR P R s w K := by
  rw [XR_eq h]; exact hK
theorem run_str {src dst e : TypeId} (hs : P.underlying src = some (.slice e)) (he : P.underlying e = some (.int .u8)) (hd : P.underlying dst = some .string) {v : Value} {bs : List UInt8} {w : World} (hb : Bts w v bs) :
    (convert src dst v).run P w = .ok (.string (str bs)) w := by
  obtain ⟨a, c, rfl, h1, h2, h3⟩ := hb
  rw [run_convert_bytes_string w src dst e _ _ c hs he hd]
  by_cases h0 : 0 < bs.length
  · obtain ⟨ad, rfl, hc⟩ := h3 h0
    have hl : (loadCells ad bs.length).run P w = .ok ((bs.map fun u => (u.toNat : Int)).map (Value.int .u8)).toArray w := by
      have := run_loadCells_list (P := P) w ad ((bs.map fun u => (u.toNat : Int)).map (Value.int .u8)) (fun j v hj => by
        simp only [List.map_map, List.getElem?_map] at hj
        obtain ⟨u, hu, rfl⟩ := Option.map_eq_some_iff.1 hj
        exact hc j u hu)
      simpa using this
    rw [run_bytesToString w _ _ c _ hl, foldl_push_bytes]
    congr 2
    simp [str, List.map_map, Function.comp_def, ByteArray.empty, ByteArray.emptyWithCapacity]
    rfl
  · have : bs = [] := List.eq_nil_of_length_eq_zero (by omega)
    subst this
    cases a with
    | none => simp [Conv.bytesToString, str]; rfl
    | some ad => simp [Conv.bytesToString, loadCells, loadCellsFrom, str]; rfl
theorem X_str {src dst e : TypeId} (hs : P.underlying src = some (.slice e)) (he : P.underlying e = some (.int .u8)) (hd : P.underlying dst = some .string) {v : Value} {bs : List UInt8} {w : World} {K : Value → World → Prop} (hb : Bts w v bs)
    (h : K (.string (str bs)) w) : X P (convert src dst v) w K := X_of (run_str hs he hd hb) h
theorem XR_str {src dst e : TypeId} (hs : P.underlying src = some (.slice e)) (he : P.underlying e = some (.int .u8)) (hd : P.underlying dst = some .string) {v : Value} {bs : List UInt8} {w : World} {K : Value → World → Prop} (hb : Bts w v bs)
    (h : K (.string (str bs)) w) : XR P Ext (convert src dst v) w K := XR_ok Ext.frame (fun w' k => run_str hs he hd (hb.ext k)) h
theorem X_eq_str (T : TypeId) (a b : Operand) (x y : List UInt8) (w : World) (K : Value → World → Prop) : X P (binOpG .eql T a b (.string (str x)) (.string (str y))) w K = K (.bool (decide (x = y))) w := by
  rw [X_ok (run_string_eql T a b _ _ w), str_toList, str_toList]
  have : (x == y) = decide (x = y) := by rw [Bool.eq_iff_iff]; simp
  rw [this]
theorem XP_eq_str (T : TypeId) (a b : Operand) (x y : List UInt8) (w : World) (K : Value → World → Prop) : XP P (binOpG .eql T a b (.string (str x)) (.string (str y))) w K = K (.bool (decide (x = y))) w := by
  rw [XP_ok (fun w => run_string_eql T a b _ _ w), str_toList, str_toList]
  have : (x == y) = decide (x = y) := by rw [Bool.eq_iff_iff]; simp
  rw [this]
theorem X_ne_str (T : TypeId) (a b : Operand) (x y : List UInt8) (w : World) (K : Value → World → Prop) : X P (binOpG .neq T a b (.string (str x)) (.string (str y))) w K = K (.bool (decide (x ≠ y))) w := by
  rw [X_ok (run_string_neq T a b _ _ w), str_toList, str_toList]
  have : (x != y) = decide (x ≠ y) := by rw [Bool.eq_iff_iff]; simp
  rw [this]
theorem XP_ne_str (T : TypeId) (a b : Operand) (x y : List UInt8) (w : World) (K : Value → World → Prop) : XP P (binOpG .neq T a b (.string (str x)) (.string (str y))) w K = K (.bool (decide (x ≠ y))) w := by
  rw [XP_ok (fun w => run_string_neq T a b _ _ w), str_toList, str_toList]
  have : (x != y) = decide (x ≠ y) := by rw [Bool.eq_iff_iff]; simp
  rw [this]
/-- append of a string to bytes of the call's own. -/
theorem X_append_str {base : Nat} {t u U e : TypeId} (ht : P.underlying t = some (.slice e)) (hu : P.underlying u = some .string) (hE : El P e 1 (.int .u8 0) 1) {v : Value} {n : Nat} {xs : List UInt8} {w : World} {K : Value → World → Prop} (hown : w.ownsRow base e 1 v n (B8 xs))
    {bs : List UInt8} (hb : n + bs.length ≤ 140737488355328) (hbase : base ≤ w.heap.size)
    (h : ∀ v' w1, w1.ownsRow base e 1 v' (n + bs.length) (B8 (xs ++ bs)) → Keep (fun k => some k = v.ownBlock) w w1 → K v' w1) : X P (Builtin.append_ #[t, u] U #[v, .string (str bs)]) w K := by
  obtain ⟨⟨i, hi, hs, hz, hby⟩, hzc⟩ := hE
  obtain ⟨v', w1, hr, h2, h3, _⟩ := Lib.run_append_own_string (P := P) w base t u U e i ht hu hi hz hs hby v n (B8 xs) hown (str bs) (by rw [str_size]; simp only [maxLen]; omega) (by rw [str_size]; exact hb) hbase
  rw [X_ok hr]
  rw [str_size, strCells_str, ← B8_append] at h2
  exact h v' w1 h2 (keep_grown h3)

/-! ### Bits -/
theorem run_xor {k : IntKind} (hk : k.signed = false) (T : TypeId) (x y : Nat) (hx : x < 2 ^ k.bits) (hy : y < 2 ^ k.bits) (w : World) : (binOp .xor T (.int k (x : Int)) (.int k (y : Int))).run P w = .ok (.int k ((x ^^^ y : Nat) : Int)) w := by
  have h1 : (BitVec.ofInt k.bits (x : Int) ^^^ BitVec.ofInt k.bits (y : Int)).toNat = x ^^^ y := by
    rw [BitVec.toNat_xor, BitVec.ofInt_natCast, BitVec.ofInt_natCast, BitVec.toNat_ofNat, BitVec.toNat_ofNat, Nat.mod_eq_of_lt hx, Nat.mod_eq_of_lt hy]
  have h2 : k.wrap ((x ^^^ y : Nat) : Int) = ((x ^^^ y : Nat) : Int) := by
    have h3 : x ^^^ y < 2 ^ k.bits := Nat.xor_lt_two_pow hx hy
    have h4 : ((x ^^^ y : Nat) : Int) % (2 ^ k.bits : Nat) = ((x ^^^ y : Nat) : Int) := by
      rw [← Int.natCast_emod, Nat.mod_eq_of_lt h3]
    simp only [IntKind.wrap, hk]
    simpa using h4
  simp [binOp, Op.intBits, Nat.mod_eq_of_lt hx, Nat.mod_eq_of_lt hy, h2]
theorem run_or {k : IntKind} (hk : k.signed = false) (T : TypeId) (x y : Nat) (hx : x < 2 ^ k.bits) (hy : y < 2 ^ k.bits) (w : World) : (binOp .or T (.int k (x : Int)) (.int k (y : Int))).run P w = .ok (.int k ((x ||| y : Nat) : Int)) w := by
  have h1 : (BitVec.ofInt k.bits (x : Int) ||| BitVec.ofInt k.bits (y : Int)).toNat = x ||| y := by
    rw [BitVec.toNat_or, BitVec.ofInt_natCast, BitVec.ofInt_natCast, BitVec.toNat_ofNat, BitVec.toNat_ofNat, Nat.mod_eq_of_lt hx, Nat.mod_eq_of_lt hy]
  have h2 : k.wrap ((x ||| y : Nat) : Int) = ((x ||| y : Nat) : Int) := by
    have h3 : x ||| y < 2 ^ k.bits := Nat.or_lt_two_pow hx hy
    have h4 : ((x ||| y : Nat) : Int) % (2 ^ k.bits : Nat) = ((x ||| y : Nat) : Int) := by
      rw [← Int.natCast_emod, Nat.mod_eq_of_lt h3]
    simp only [IntKind.wrap, hk]
    simpa using h4
  simp [binOp, Op.intBits, Nat.mod_eq_of_lt hx, Nat.mod_eq_of_lt hy, h2]

/-! ### Structs and arrays in memory -/
/-- A whole block of that type is loaded. -/
theorem run_loadAgg {t : TypeId} {d : TypeDesc} (hu : P.underlying t = some d) (ha : aggB P t = true) (hi : infoB P t = true) {b o : Nat} {cs : Array Value} {T : TypeId} {fr : Nat × Nat} {w : World} (hb : w.heap[b]? = some (.cells cs T fr))
    {l : List Value} (hl : (cs.toList.drop o).take (szT P t) = l) (hn : l.length = szT P t) : (Instr.loadAt t (.pointer (some ⟨b, o, none⟩))).run P w = .ok (.agg l.toArray) w := by
  have hload : (loadCells ⟨b, o, none⟩ l.length).run P w = .ok l.toArray w := by
    refine run_loadCells_list w _ l fun j v hj => ?_
    have e : (⟨b, o, none⟩ : Addr).add j = ⟨b, o + j, none⟩ := by unfold Addr.add; split <;> simp_all
    rw [e, cell_blk hb]
    rw [← hl, List.getElem?_take] at hj
    split at hj
    · rw [List.getElem?_drop] at hj
      rwa [Array.getElem?_toList] at hj
    · cases hj
  rw [hn] at hload
  simp [Instr.loadAt, Instr.sureAddr, loadVar, isAgg_run' hu ha, sizeOf_run hi, hload]
theorem X_loadAgg {t : TypeId} {d : TypeDesc} (hu : P.underlying t = some d) (ha : aggB P t = true) (hi : infoB P t = true) {b : Nat} {l : List Value} {T : TypeId} {fr : Nat × Nat} {w : World} {K : Value → World → Prop}
    (hb : w.heap[b]? = some (.cells l.toArray T fr)) (hn : l.length = szT P t) (h : K (.agg l.toArray) w) : X P (Instr.loadAt t (.pointer (some ⟨b, 0, none⟩))) w K :=
  X_of (run_loadAgg hu ha hi hb (by rw [List.drop_zero]; exact List.take_of_length_le (by simp [hn])) hn) h
theorem XR_loadAgg {t : TypeId} {d : TypeDesc} (hu : P.underlying t = some d) (ha : aggB P t = true) (hi : infoB P t = true) {b : Nat} {l : List Value} {T : TypeId} {fr : Nat × Nat} {w : World} {K : Value → World → Prop}
    (hb : w.heap[b]? = some (.cells l.toArray T fr)) (hn : l.length = szT P t) (h : K (.agg l.toArray) w) : XR P Ext (Instr.loadAt t (.pointer (some ⟨b, 0, none⟩))) w K :=
  XR_ok Ext.frame (fun w' k => run_loadAgg hu ha hi (k.get hb) (by rw [List.drop_zero]; exact List.take_of_length_le (by simp [hn])) hn) h
theorem resC_agg {t : TypeId} {d : TypeDesc} (hu : P.underlying t = some d) (ha : aggB P t = true) (hi : infoB P t = true) {b : Nat} {l : List Value} {T : TypeId} {fr : Nat × Nat} {w : World} {K : Value → Prop}
    (hb : w.heap[b]? = some (.cells l.toArray T fr)) (hn : l.length = szT P t) (h : K (.agg l.toArray)) : resC P t (.pointer (some ⟨b, 0, none⟩)) w K := by
  have := run_loadAgg hu ha hi hb (by rw [List.drop_zero]; exact List.take_of_length_le (by simp [hn])) hn
  simp only [Instr.loadAt, Instr.sureAddr] at this
  unfold resC
  have e : (do loadVar t (← asAddr (.pointer (some ⟨b, 0, none⟩))) : Sem Value).run P w = .ok (.agg l.toArray) w := by
    simp only [asAddr]
    simpa using this
  rw [e]
  exact ⟨rfl, h⟩
theorem run_storeAgg {t : TypeId} (hi : infoB P t = true) {b : Nat} {cs : Array Value} {l : List Value} {T : TypeId} {w : World} (hb : w.heap[b]? = some (.cells cs T (0, 0))) (hc : cs.size = szT P t) (hn : l.length = szT P t)
    (h1 : ∀ v ∈ l, v.oneCell' = true) : (Instr.storeAt t (.pointer (some ⟨b, 0, none⟩)) (.agg l.toArray)).run P w = .ok () (setAt w b l.toArray T (0, 0)) := by
  have hst := run_storeCells_at P b 0 T l 0 cs w hb (by omega) h1
  have e : w.setRow b ((cs.toList.take (0 + 0) ++ l ++ cs.toList.drop (0 + 0 + l.length)).toArray) = setAt w b l.toArray T (0, 0) := by
    have e1 : cs.toList.drop (0 + 0 + l.length) = [] := List.drop_eq_nil_of_le (by simp; omega)
    rw [e1, List.take_zero, List.nil_append, List.append_nil]
    unfold World.setRow setAt
    congr 1
    apply Array.ext_getElem?
    intro i
    have hl := lt_of_blk hb
    by_cases hi : i = b
    · subst hi
      rw [Array.getElem?_modify, if_pos rfl, hb]
      simp [hl]
    · rw [Array.getElem?_setIfInBounds_ne (Ne.symm hi), Array.getElem?_modify]
      simp [Ne.symm hi]
  rw [e] at hst
  simp [Instr.storeAt, Instr.sureAddr, storeVar, sizeOf_run hi, Value.cells, hn, hst]
theorem XU_storeAgg {t : TypeId} (hi : infoB P t = true) {b : Nat} {cs : Array Value} {l : List Value} {T : TypeId} {w : World} {K : World → Prop} (hb : w.heap[b]? = some (.cells cs T (0, 0))) (hc : cs.size = szT P t) (hn : l.length = szT P t)
    (h1 : ∀ v ∈ l, v.oneCell' = true) (h : K (setAt w b l.toArray T (0, 0))) : XU P (Instr.storeAt t (.pointer (some ⟨b, 0, none⟩)) (.agg l.toArray)) w K := by
  unfold XU; rw [run_storeAgg hi hb hc hn h1]; exact h
theorem run_arrayAt {arr e n : Nat} (ha : P.underlying arr = some (.array n e)) (a : Option Addr) {l : Nat} (hl : n ≤ l) (c : Nat) (w : World) : (Instr.arrayAt arr (.slice a l c)).run P w = .ok (.pointer a) w := by
  have : ¬ l < n := by omega
  simp [Instr.arrayAt, run_underlying ha, this]
end
end Go.Sh
end
section
/- Structs and arrays compared; arrays read from wherever they lie. -/
set_option linter.unusedSimpArgs false
set_option linter.unusedVariables false
namespace Go.Sh
open Go Go.RowKit
section
variable {P : Program}

theorem guard_eql {t : TypeId} (hg : P.eqGuardType P.depth t = false) (a b : Operand) (xs ys : Array Value) (w : World) : (eqGuard .eql t a b (.agg xs) (.agg ys)).run P w = .ok () w := by
  simp [eqGuard, hg]
theorem guard_neq {t : TypeId} (hg : P.eqGuardType P.depth t = false) (a b : Operand) (xs ys : Array Value) (w : World) : (eqGuard .neq t a b (.agg xs) (.agg ys)).run P w = .ok () w := by
  simp [eqGuard, hg]
theorem agg_eql {t : TypeId} (hg : P.eqGuardType P.depth t = false) (a b : Operand) {xs ys : Array Value} {w : World} {r : Bool} (h : (Op.equalIn 10000 t (.agg xs) (.agg ys)).run P w = .ok r w) : (binOpG .eql t a b (.agg xs) (.agg ys)).run P w = .ok (.bool r) w := by
  unfold binOpG
  simp only [Sem.run_bind, guard_eql hg, Result.andThen_ok, run_eql_struct, h]
theorem agg_neq {t : TypeId} (hg : P.eqGuardType P.depth t = false) (a b : Operand) {xs ys : Array Value} {w : World} {r : Bool} (h : (Op.equalIn 10000 t (.agg xs) (.agg ys)).run P w = .ok r w) : (binOpG .neq t a b (.agg xs) (.agg ys)).run P w = .ok (.bool (!r)) w := by
  unfold binOpG
  simp only [Sem.run_bind, guard_neq hg, Result.andThen_ok, run_neq_struct, h]

theorem part_cell {e : TypeId} (ha : aggB P e = false) {cs : Array Value} {i : Nat} {v : Value} (h : cs[i]? = some v) (w : World) : (part e cs i).run P w = .ok v w := by
  simp [part, isAgg_run ha, h]
theorem eqItems_bytes (d : Nat) {e : TypeId} (he : P.underlying e = some (.int .u8)) (ha : aggB P e = false) (xs ys : List UInt8) (hl : xs.length = ys.length) (w : World) :
    ∀ (m k : Nat), k + m = xs.length → (Op.eqItems (d + 1) e 1 (B8 xs).toArray (B8 ys).toArray (List.range' k m)).run P w = .ok (decide (xs.drop k = ys.drop k)) w
  | 0, k, h => by
    have h1 : xs.drop k = [] := List.drop_eq_nil_of_le (by omega)
    have h2 : ys.drop k = [] := List.drop_eq_nil_of_le (by omega)
    simp [Op.eqItems, h1, h2]
  | m + 1, k, h => by
    have hx : k < xs.length := by omega
    have hy : k < ys.length := by omega
    have e1 : (B8 xs).toArray[k * 1]? = some (.int .u8 (xs[k].toNat : Int)) := by simp [B8_getElem?, List.getElem?_eq_getElem hx]
    have e2 : (B8 ys).toArray[k * 1]? = some (.int .u8 (ys[k].toNat : Int)) := by simp [B8_getElem?, List.getElem?_eq_getElem hy]
    rw [List.range'_succ]
    simp only [Op.eqItems, Sem.run_bind, part_cell ha e1, part_cell ha e2, Result.andThen_ok, run_equalIn_int w d e .u8 .u8 _ _ he]
    have hdx := List.drop_eq_getElem_cons hx
    have hdy := List.drop_eq_getElem_cons hy
    by_cases hxy : xs[k] = ys[k]
    · have : ((xs[k].toNat : Int) == (ys[k].toNat : Int)) = true := by simp [hxy]
      rw [this]
      simp only [Bool.not_true, Bool.false_eq_true, if_false]
      rw [eqItems_bytes d he ha xs ys hl w m (k + 1) (by omega)]
      have hi : (xs.drop k = ys.drop k) ↔ (xs.drop (k + 1) = ys.drop (k + 1)) := by
        rw [hdx, hdy, hxy]
        constructor
        · intro h; injection h
        · intro h; rw [h]
      rw [decide_eq_decide.2 hi]
    · have : ((xs[k].toNat : Int) == (ys[k].toNat : Int)) = false := by
        simp only [beq_eq_false_iff_ne, ne_eq]
        intro h
        exact hxy (UInt8.toNat_inj.1 (by omega))
      rw [this]
      have hi : ¬ (xs.drop k = ys.drop k) := by
        rw [hdx, hdy]
        intro h
        injection h with h _
        exact hxy h
      simp only [Bool.not_false, if_true, Sem.run_pure, hi, decide_false]
/-- Two arrays of bytes are the same. -/
theorem arr_equal {t e n : Nat} (hu : P.underlying t = some (.array n e)) (he : P.underlying e = some (.int .u8)) (ha : aggB P e = false) {i : TypeInfo} (hi : P.info? e = some i) (hc : P.cellsOf e = 1) (xs ys : List UInt8) (hx : xs.length = n) (hy : ys.length = n) (w : World) :
    (Op.equalIn 10000 t (.agg (B8 xs).toArray) (.agg (B8 ys).toArray)).run P w = .ok (decide (xs = ys)) w := by
  rw [show (10000 : Nat) = 9999 + 1 from rfl, run_equalIn_array w 9999 _ _ hu hi, hc, List.range_eq_range']
  have := eqItems_bytes (P := P) 9998 he ha xs ys (by omega) w n 0 (by omega)
  simpa using this
/-- An array of bytes, read through a slice's own address. -/
theorem run_loadBytes {t : TypeId} {d : TypeDesc} (hu : P.underlying t = some d) (ha : aggB P t = true) (hi : infoB P t = true) {a : Addr} {l : List UInt8} {w : World} (hn : l.length = szT P t)
    (hc : ∀ j u, l[j]? = some u → w.cell? (a.add j) = some (.int .u8 (u.toNat : Int))) : (Instr.loadAt t (.pointer (some a))).run P w = .ok (.agg (B8 l).toArray) w := by
  have hload : (loadCells a (B8 l).length).run P w = .ok (B8 l).toArray w := by
    refine run_loadCells_list w _ (B8 l) fun j v hj => ?_
    rw [B8_getElem?] at hj
    obtain ⟨u, hu, rfl⟩ := Option.map_eq_some_iff.1 hj
    exact hc j u hu
  rw [B8_length, hn] at hload
  simp [Instr.loadAt, Instr.sureAddr, loadVar, isAgg_run' hu ha, sizeOf_run hi, hload]
end
end Go.Sh
end
section
/- The closed facts on types that the operations of this seat ask. Printed by wip/tyfacts.py. -/
set_option linter.unusedVariables false
set_option linter.unusedSimpArgs false
namespace Go.Proofs.Ytggggfcgnkllgaa
open Go Go.Sh
theorem mixed : Try.prog.follows .mixedOrders = true := by kernel_rfl
theorem agg_3 : aggB Try.prog 3 = false := by kernel_rfl
theorem sz_3 : szT Try.prog 3 = 1 := by kernel_rfl
theorem info_3 : infoB Try.prog 3 = true := by kernel_rfl
theorem zero_3 : zeroT Try.prog 3 = some (.int .i64 0) := by kernel_rfl
theorem el_3 : El Try.prog 3 1 (.int .i64 0) 8 := El.mk' (by kernel_rfl) rfl
theorem agg_4 : aggB Try.prog 4 = false := by kernel_rfl
theorem sz_4 : szT Try.prog 4 = 1 := by kernel_rfl
theorem info_4 : infoB Try.prog 4 = true := by kernel_rfl
theorem zero_4 : zeroT Try.prog 4 = some (.bool false) := by kernel_rfl
theorem el_4 : El Try.prog 4 1 (.bool false) 1 := El.mk' (by kernel_rfl) rfl
theorem agg_5 : aggB Try.prog 5 = false := by kernel_rfl
theorem sz_5 : szT Try.prog 5 = 1 := by kernel_rfl
theorem info_5 : infoB Try.prog 5 = true := by kernel_rfl
theorem zero_5 : zeroT Try.prog 5 = some (.int .u8 0) := by kernel_rfl
theorem el_5 : El Try.prog 5 1 (.int .u8 0) 1 := El.mk' (by kernel_rfl) rfl
theorem agg_9 : aggB Try.prog 9 = false := by kernel_rfl
theorem sz_9 : szT Try.prog 9 = 1 := by kernel_rfl
theorem info_9 : infoB Try.prog 9 = true := by kernel_rfl
theorem zero_9 : zeroT Try.prog 9 = some (.string { data := #[] }) := by kernel_rfl
theorem el_9 : El Try.prog 9 1 (.string { data := #[] }) 16 := El.mk' (by kernel_rfl) rfl
theorem agg_22 : aggB Try.prog 22 = false := by kernel_rfl
theorem sz_22 : szT Try.prog 22 = 1 := by kernel_rfl
theorem info_22 : infoB Try.prog 22 = true := by kernel_rfl
theorem zero_22 : zeroT Try.prog 22 = some (.int .u64 0) := by kernel_rfl
theorem el_22 : El Try.prog 22 1 (.int .u64 0) 8 := El.mk' (by kernel_rfl) rfl
theorem agg_23 : aggB Try.prog 23 = false := by kernel_rfl
theorem sz_23 : szT Try.prog 23 = 1 := by kernel_rfl
theorem info_23 : infoB Try.prog 23 = true := by kernel_rfl
theorem zero_23 : zeroT Try.prog 23 = some (.int .u32 0) := by kernel_rfl
theorem el_23 : El Try.prog 23 1 (.int .u32 0) 4 := El.mk' (by kernel_rfl) rfl
theorem agg_25 : aggB Try.prog 25 = true := by kernel_rfl
theorem sz_25 : szT Try.prog 25 = 4 := by kernel_rfl
theorem info_25 : infoB Try.prog 25 = true := by kernel_rfl
theorem zero_25 : zeroT Try.prog 25 = some (.agg #[(.int .u64 0), (.int .u8 0), (.int .u32 0), (.int .u32 0)]) := by kernel_rfl
theorem el_25 : El Try.prog 25 4 (.agg #[(.int .u64 0), (.int .u8 0), (.int .u32 0), (.int .u32 0)]) 24 := El.mk' (by kernel_rfl) rfl
theorem agg_27 : aggB Try.prog 27 = false := by kernel_rfl
theorem sz_27 : szT Try.prog 27 = 1 := by kernel_rfl
theorem info_27 : infoB Try.prog 27 = true := by kernel_rfl
theorem zero_27 : zeroT Try.prog 27 = some (.slice none 0 0) := by kernel_rfl
theorem el_27 : El Try.prog 27 1 (.slice none 0 0) 24 := El.mk' (by kernel_rfl) rfl
theorem agg_30 : aggB Try.prog 30 = false := by kernel_rfl
theorem sz_30 : szT Try.prog 30 = 1 := by kernel_rfl
theorem info_30 : infoB Try.prog 30 = true := by kernel_rfl
theorem zero_30 : zeroT Try.prog 30 = some (.int .i64 0) := by kernel_rfl
theorem el_30 : El Try.prog 30 1 (.int .i64 0) 8 := El.mk' (by kernel_rfl) rfl
theorem agg_31 : aggB Try.prog 31 = false := by kernel_rfl
theorem sz_31 : szT Try.prog 31 = 1 := by kernel_rfl
theorem info_31 : infoB Try.prog 31 = true := by kernel_rfl
theorem agg_38 : aggB Try.prog 38 = false := by kernel_rfl
theorem sz_38 : szT Try.prog 38 = 1 := by kernel_rfl
theorem info_38 : infoB Try.prog 38 = true := by kernel_rfl
theorem agg_41 : aggB Try.prog 41 = true := by kernel_rfl
theorem sz_41 : szT Try.prog 41 = 2 := by kernel_rfl
theorem info_41 : infoB Try.prog 41 = true := by kernel_rfl
theorem zero_41 : zeroT Try.prog 41 = some (.agg #[(.int .u8 0), (.int .u8 0)]) := by kernel_rfl
theorem el_41 : El Try.prog 41 2 (.agg #[(.int .u8 0), (.int .u8 0)]) 2 := El.mk' (by kernel_rfl) rfl
theorem agg_46 : aggB Try.prog 46 = false := by kernel_rfl
theorem sz_46 : szT Try.prog 46 = 1 := by kernel_rfl
theorem info_46 : infoB Try.prog 46 = true := by kernel_rfl
theorem agg_49 : aggB Try.prog 49 = false := by kernel_rfl
theorem sz_49 : szT Try.prog 49 = 1 := by kernel_rfl
theorem info_49 : infoB Try.prog 49 = true := by kernel_rfl
theorem zero_49 : zeroT Try.prog 49 = some (.int .u64 0) := by kernel_rfl
theorem el_49 : El Try.prog 49 1 (.int .u64 0) 8 := El.mk' (by kernel_rfl) rfl
theorem agg_53 : aggB Try.prog 53 = false := by kernel_rfl
theorem sz_53 : szT Try.prog 53 = 1 := by kernel_rfl
theorem info_53 : infoB Try.prog 53 = true := by kernel_rfl
theorem zero_53 : zeroT Try.prog 53 = some (.slice none 0 0) := by kernel_rfl
theorem el_53 : El Try.prog 53 1 (.slice none 0 0) 24 := El.mk' (by kernel_rfl) rfl
theorem agg_54 : aggB Try.prog 54 = false := by kernel_rfl
theorem sz_54 : szT Try.prog 54 = 1 := by kernel_rfl
theorem info_54 : infoB Try.prog 54 = true := by kernel_rfl
theorem zero_54 : zeroT Try.prog 54 = some (.pointer none) := by kernel_rfl
theorem el_54 : El Try.prog 54 1 (.pointer none) 8 := El.mk' (by kernel_rfl) rfl
theorem agg_57 : aggB Try.prog 57 = true := by kernel_rfl
theorem sz_57 : szT Try.prog 57 = 3 := by kernel_rfl
theorem info_57 : infoB Try.prog 57 = true := by kernel_rfl
theorem zero_57 : zeroT Try.prog 57 = some (.agg #[(.slice none 0 0), (.int .i64 0), (.int .i64 0)]) := by kernel_rfl
theorem el_57 : El Try.prog 57 3 (.agg #[(.slice none 0 0), (.int .i64 0), (.int .i64 0)]) 40 := El.mk' (by kernel_rfl) rfl
theorem agg_59 : aggB Try.prog 59 = true := by kernel_rfl
theorem sz_59 : szT Try.prog 59 = 2 := by kernel_rfl
theorem info_59 : infoB Try.prog 59 = true := by kernel_rfl
theorem zero_59 : zeroT Try.prog 59 = some (.agg #[(.bool false), (.int .i64 0)]) := by kernel_rfl
theorem el_59 : El Try.prog 59 2 (.agg #[(.bool false), (.int .i64 0)]) 16 := El.mk' (by kernel_rfl) rfl
theorem agg_65 : aggB Try.prog 65 = false := by kernel_rfl
theorem sz_65 : szT Try.prog 65 = 1 := by kernel_rfl
theorem info_65 : infoB Try.prog 65 = true := by kernel_rfl
theorem zero_65 : zeroT Try.prog 65 = some (.slice none 0 0) := by kernel_rfl
theorem el_65 : El Try.prog 65 1 (.slice none 0 0) 24 := El.mk' (by kernel_rfl) rfl
theorem agg_66 : aggB Try.prog 66 = false := by kernel_rfl
theorem sz_66 : szT Try.prog 66 = 1 := by kernel_rfl
theorem info_66 : infoB Try.prog 66 = true := by kernel_rfl
theorem zero_66 : zeroT Try.prog 66 = some (.slice none 0 0) := by kernel_rfl
theorem el_66 : El Try.prog 66 1 (.slice none 0 0) 24 := El.mk' (by kernel_rfl) rfl
theorem agg_69 : aggB Try.prog 69 = false := by kernel_rfl
theorem sz_69 : szT Try.prog 69 = 1 := by kernel_rfl
theorem info_69 : infoB Try.prog 69 = true := by kernel_rfl
theorem zero_69 : zeroT Try.prog 69 = some (.int .u16 0) := by kernel_rfl
theorem el_69 : El Try.prog 69 1 (.int .u16 0) 2 := El.mk' (by kernel_rfl) rfl
theorem agg_70 : aggB Try.prog 70 = false := by kernel_rfl
theorem sz_70 : szT Try.prog 70 = 1 := by kernel_rfl
theorem info_70 : infoB Try.prog 70 = true := by kernel_rfl
theorem zero_70 : zeroT Try.prog 70 = some (.slice none 0 0) := by kernel_rfl
theorem el_70 : El Try.prog 70 1 (.slice none 0 0) 24 := El.mk' (by kernel_rfl) rfl
theorem agg_73 : aggB Try.prog 73 = true := by kernel_rfl
theorem sz_73 : szT Try.prog 73 = 128 := by kernel_rfl
theorem info_73 : infoB Try.prog 73 = true := by kernel_rfl
theorem zero_73 : zeroT Try.prog 73 = some (.agg (List.replicate 128 (Value.int .u8 0)).toArray) := by kernel_rfl
theorem el_73 : El Try.prog 73 128 (.agg (List.replicate 128 (Value.int .u8 0)).toArray) 128 := El.mk' (by kernel_rfl) (by simp only [Value.cells, List.size_toArray, List.length_replicate, List.length_append, List.length_cons, List.length_nil])
theorem agg_74 : aggB Try.prog 74 = false := by kernel_rfl
theorem sz_74 : szT Try.prog 74 = 1 := by kernel_rfl
theorem info_74 : infoB Try.prog 74 = true := by kernel_rfl
theorem zero_74 : zeroT Try.prog 74 = some (.pointer none) := by kernel_rfl
theorem el_74 : El Try.prog 74 1 (.pointer none) 8 := El.mk' (by kernel_rfl) rfl
theorem agg_75 : aggB Try.prog 75 = false := by kernel_rfl
theorem sz_75 : szT Try.prog 75 = 1 := by kernel_rfl
theorem info_75 : infoB Try.prog 75 = true := by kernel_rfl
theorem agg_79 : aggB Try.prog 79 = false := by kernel_rfl
theorem sz_79 : szT Try.prog 79 = 1 := by kernel_rfl
theorem info_79 : infoB Try.prog 79 = true := by kernel_rfl
theorem zero_79 : zeroT Try.prog 79 = some (.slice none 0 0) := by kernel_rfl
theorem el_79 : El Try.prog 79 1 (.slice none 0 0) 24 := El.mk' (by kernel_rfl) rfl
theorem agg_80 : aggB Try.prog 80 = false := by kernel_rfl
theorem sz_80 : szT Try.prog 80 = 1 := by kernel_rfl
theorem info_80 : infoB Try.prog 80 = true := by kernel_rfl
theorem agg_83 : aggB Try.prog 83 = false := by kernel_rfl
theorem sz_83 : szT Try.prog 83 = 1 := by kernel_rfl
theorem info_83 : infoB Try.prog 83 = true := by kernel_rfl
theorem zero_83 : zeroT Try.prog 83 = some (.slice none 0 0) := by kernel_rfl
theorem el_83 : El Try.prog 83 1 (.slice none 0 0) 24 := El.mk' (by kernel_rfl) rfl
theorem agg_86 : aggB Try.prog 86 = true := by kernel_rfl
theorem sz_86 : szT Try.prog 86 = 5 := by kernel_rfl
theorem info_86 : infoB Try.prog 86 = true := by kernel_rfl
theorem zero_86 : zeroT Try.prog 86 = some (.agg #[(.int .u8 0), (.int .i64 0), (.int .i64 0), (.slice none 0 0), (.slice none 0 0)]) := by kernel_rfl
theorem el_86 : El Try.prog 86 5 (.agg #[(.int .u8 0), (.int .i64 0), (.int .i64 0), (.slice none 0 0), (.slice none 0 0)]) 72 := El.mk' (by kernel_rfl) rfl
theorem agg_89 : aggB Try.prog 89 = true := by kernel_rfl
theorem sz_89 : szT Try.prog 89 = 20 := by kernel_rfl
theorem info_89 : infoB Try.prog 89 = true := by kernel_rfl
theorem zero_89 : zeroT Try.prog 89 = some (.agg (List.replicate 20 (Value.string { data := #[] })).toArray) := by kernel_rfl
theorem el_89 : El Try.prog 89 20 (.agg (List.replicate 20 (Value.string { data := #[] })).toArray) 320 := El.mk' (by kernel_rfl) (by simp only [Value.cells, List.size_toArray, List.length_replicate, List.length_append, List.length_cons, List.length_nil])
theorem agg_92 : aggB Try.prog 92 = false := by kernel_rfl
theorem sz_92 : szT Try.prog 92 = 1 := by kernel_rfl
theorem info_92 : infoB Try.prog 92 = true := by kernel_rfl
theorem zero_92 : zeroT Try.prog 92 = some (.pointer none) := by kernel_rfl
theorem el_92 : El Try.prog 92 1 (.pointer none) 8 := El.mk' (by kernel_rfl) rfl
theorem agg_93 : aggB Try.prog 93 = false := by kernel_rfl
theorem sz_93 : szT Try.prog 93 = 1 := by kernel_rfl
theorem info_93 : infoB Try.prog 93 = true := by kernel_rfl
theorem agg_100 : aggB Try.prog 100 = false := by kernel_rfl
theorem sz_100 : szT Try.prog 100 = 1 := by kernel_rfl
theorem info_100 : infoB Try.prog 100 = true := by kernel_rfl
theorem zero_100 : zeroT Try.prog 100 = some (.slice none 0 0) := by kernel_rfl
theorem el_100 : El Try.prog 100 1 (.slice none 0 0) 24 := El.mk' (by kernel_rfl) rfl
theorem agg_105 : aggB Try.prog 105 = false := by kernel_rfl
theorem sz_105 : szT Try.prog 105 = 1 := by kernel_rfl
theorem info_105 : infoB Try.prog 105 = true := by kernel_rfl
theorem agg_108 : aggB Try.prog 108 = true := by kernel_rfl
theorem sz_108 : szT Try.prog 108 = 2 := by kernel_rfl
theorem info_108 : infoB Try.prog 108 = true := by kernel_rfl
theorem zero_108 : zeroT Try.prog 108 = some (.agg #[(.int .u32 0), (.int .u32 0)]) := by kernel_rfl
theorem el_108 : El Try.prog 108 2 (.agg #[(.int .u32 0), (.int .u32 0)]) 8 := El.mk' (by kernel_rfl) rfl
theorem agg_111 : aggB Try.prog 111 = true := by kernel_rfl
theorem sz_111 : szT Try.prog 111 = 32 := by kernel_rfl
theorem info_111 : infoB Try.prog 111 = true := by kernel_rfl
theorem zero_111 : zeroT Try.prog 111 = some (.agg (List.replicate 32 (Value.int .u8 0)).toArray) := by kernel_rfl
theorem el_111 : El Try.prog 111 32 (.agg (List.replicate 32 (Value.int .u8 0)).toArray) 32 := El.mk' (by kernel_rfl) (by simp only [Value.cells, List.size_toArray, List.length_replicate, List.length_append, List.length_cons, List.length_nil])
theorem agg_113 : aggB Try.prog 113 = true := by kernel_rfl
theorem sz_113 : szT Try.prog 113 = 33 := by kernel_rfl
theorem info_113 : infoB Try.prog 113 = true := by kernel_rfl
theorem zero_113 : zeroT Try.prog 113 = some (.agg (List.replicate 32 (Value.int .u8 0) ++ [Value.int .u32 0]).toArray) := by kernel_rfl
theorem el_113 : El Try.prog 113 33 (.agg (List.replicate 32 (Value.int .u8 0) ++ [Value.int .u32 0]).toArray) 36 := El.mk' (by kernel_rfl) (by simp only [Value.cells, List.size_toArray, List.length_replicate, List.length_append, List.length_cons, List.length_nil])
theorem agg_115 : aggB Try.prog 115 = true := by kernel_rfl
theorem sz_115 : szT Try.prog 115 = 34 := by kernel_rfl
theorem info_115 : infoB Try.prog 115 = true := by kernel_rfl
theorem zero_115 : zeroT Try.prog 115 = some (.agg (List.replicate 32 (Value.int .u8 0) ++ [Value.int .u32 0] ++ [Value.slice none 0 0]).toArray) := by kernel_rfl
theorem el_115 : El Try.prog 115 34 (.agg (List.replicate 32 (Value.int .u8 0) ++ [Value.int .u32 0] ++ [Value.slice none 0 0]).toArray) 64 := El.mk' (by kernel_rfl) (by simp only [Value.cells, List.size_toArray, List.length_replicate, List.length_append, List.length_cons, List.length_nil])
theorem agg_116 : aggB Try.prog 116 = false := by kernel_rfl
theorem sz_116 : szT Try.prog 116 = 1 := by kernel_rfl
theorem info_116 : infoB Try.prog 116 = true := by kernel_rfl
theorem zero_116 : zeroT Try.prog 116 = some (.slice none 0 0) := by kernel_rfl
theorem el_116 : El Try.prog 116 1 (.slice none 0 0) 24 := El.mk' (by kernel_rfl) rfl
theorem agg_117 : aggB Try.prog 117 = false := by kernel_rfl
theorem sz_117 : szT Try.prog 117 = 1 := by kernel_rfl
theorem info_117 : infoB Try.prog 117 = true := by kernel_rfl
theorem agg_119 : aggB Try.prog 119 = false := by kernel_rfl
theorem sz_119 : szT Try.prog 119 = 1 := by kernel_rfl
theorem info_119 : infoB Try.prog 119 = true := by kernel_rfl
theorem agg_124 : aggB Try.prog 124 = false := by kernel_rfl
theorem sz_124 : szT Try.prog 124 = 1 := by kernel_rfl
theorem info_124 : infoB Try.prog 124 = true := by kernel_rfl
theorem zero_124 : zeroT Try.prog 124 = some (.pointer none) := by kernel_rfl
theorem el_124 : El Try.prog 124 1 (.pointer none) 8 := El.mk' (by kernel_rfl) rfl
theorem agg_125 : aggB Try.prog 125 = false := by kernel_rfl
theorem sz_125 : szT Try.prog 125 = 1 := by kernel_rfl
theorem info_125 : infoB Try.prog 125 = true := by kernel_rfl
theorem agg_128 : aggB Try.prog 128 = false := by kernel_rfl
theorem sz_128 : szT Try.prog 128 = 1 := by kernel_rfl
theorem info_128 : infoB Try.prog 128 = true := by kernel_rfl
theorem zero_128 : zeroT Try.prog 128 = some (.slice none 0 0) := by kernel_rfl
theorem el_128 : El Try.prog 128 1 (.slice none 0 0) 24 := El.mk' (by kernel_rfl) rfl
theorem agg_129 : aggB Try.prog 129 = true := by kernel_rfl
theorem sz_129 : szT Try.prog 129 = 7 := by kernel_rfl
theorem info_129 : infoB Try.prog 129 = true := by kernel_rfl
theorem zero_129 : zeroT Try.prog 129 = some (.agg #[(.string { data := #[] }), (.string { data := #[] }), (.string { data := #[] }), (.string { data := #[] }), (.string { data := #[] }), (.string { data := #[] }), (.string { data := #[] })]) := by kernel_rfl
theorem el_129 : El Try.prog 129 7 (.agg #[(.string { data := #[] }), (.string { data := #[] }), (.string { data := #[] }), (.string { data := #[] }), (.string { data := #[] }), (.string { data := #[] }), (.string { data := #[] })]) 112 := El.mk' (by kernel_rfl) rfl
theorem agg_131 : aggB Try.prog 131 = true := by kernel_rfl
theorem sz_131 : szT Try.prog 131 = 2 := by kernel_rfl
theorem info_131 : infoB Try.prog 131 = true := by kernel_rfl
theorem zero_131 : zeroT Try.prog 131 = some (.agg #[(.int .u8 0), (.slice none 0 0)]) := by kernel_rfl
theorem el_131 : El Try.prog 131 2 (.agg #[(.int .u8 0), (.slice none 0 0)]) 32 := El.mk' (by kernel_rfl) rfl
theorem agg_135 : aggB Try.prog 135 = true := by kernel_rfl
theorem sz_135 : szT Try.prog 135 = 4 := by kernel_rfl
theorem info_135 : infoB Try.prog 135 = true := by kernel_rfl
theorem zero_135 : zeroT Try.prog 135 = some (.agg #[(.int .u8 0), (.int .i64 0), (.int .i64 0), (.int .i64 0)]) := by kernel_rfl
theorem el_135 : El Try.prog 135 4 (.agg #[(.int .u8 0), (.int .i64 0), (.int .i64 0), (.int .i64 0)]) 32 := El.mk' (by kernel_rfl) rfl
theorem agg_136 : aggB Try.prog 136 = false := by kernel_rfl
theorem sz_136 : szT Try.prog 136 = 1 := by kernel_rfl
theorem info_136 : infoB Try.prog 136 = true := by kernel_rfl
theorem zero_136 : zeroT Try.prog 136 = some (.slice none 0 0) := by kernel_rfl
theorem el_136 : El Try.prog 136 1 (.slice none 0 0) 24 := El.mk' (by kernel_rfl) rfl
theorem agg_138 : aggB Try.prog 138 = true := by kernel_rfl
theorem sz_138 : szT Try.prog 138 = 4 := by kernel_rfl
theorem info_138 : infoB Try.prog 138 = true := by kernel_rfl
theorem zero_138 : zeroT Try.prog 138 = some (.agg #[(.pointer none), (.int .i64 0), (.int .i64 0), (.int .i64 0)]) := by kernel_rfl
theorem el_138 : El Try.prog 138 4 (.agg #[(.pointer none), (.int .i64 0), (.int .i64 0), (.int .i64 0)]) 32 := El.mk' (by kernel_rfl) rfl
theorem agg_139 : aggB Try.prog 139 = false := by kernel_rfl
theorem sz_139 : szT Try.prog 139 = 1 := by kernel_rfl
theorem info_139 : infoB Try.prog 139 = true := by kernel_rfl
theorem agg_142 : aggB Try.prog 142 = true := by kernel_rfl
theorem sz_142 : szT Try.prog 142 = 5 := by kernel_rfl
theorem info_142 : infoB Try.prog 142 = true := by kernel_rfl
theorem zero_142 : zeroT Try.prog 142 = some (.agg #[(.int .u8 0), (.int .i64 0), (.int .i64 0), (.slice none 0 0), (.slice none 0 0)]) := by kernel_rfl
theorem el_142 : El Try.prog 142 5 (.agg #[(.int .u8 0), (.int .i64 0), (.int .i64 0), (.slice none 0 0), (.slice none 0 0)]) 72 := El.mk' (by kernel_rfl) rfl
theorem agg_144 : aggB Try.prog 144 = false := by kernel_rfl
theorem sz_144 : szT Try.prog 144 = 1 := by kernel_rfl
theorem info_144 : infoB Try.prog 144 = true := by kernel_rfl
theorem agg_146 : aggB Try.prog 146 = false := by kernel_rfl
theorem sz_146 : szT Try.prog 146 = 1 := by kernel_rfl
theorem info_146 : infoB Try.prog 146 = true := by kernel_rfl
theorem zero_146 : zeroT Try.prog 146 = some (.slice none 0 0) := by kernel_rfl
theorem el_146 : El Try.prog 146 1 (.slice none 0 0) 24 := El.mk' (by kernel_rfl) rfl
theorem agg_148 : aggB Try.prog 148 = true := by kernel_rfl
theorem sz_148 : szT Try.prog 148 = 5 := by kernel_rfl
theorem info_148 : infoB Try.prog 148 = true := by kernel_rfl
theorem zero_148 : zeroT Try.prog 148 = some (.agg #[(.slice none 0 0), (.slice none 0 0), (.bool false), (.int .i64 0), (.int .i64 0)]) := by kernel_rfl
theorem el_148 : El Try.prog 148 5 (.agg #[(.slice none 0 0), (.slice none 0 0), (.bool false), (.int .i64 0), (.int .i64 0)]) 72 := El.mk' (by kernel_rfl) rfl
theorem agg_150 : aggB Try.prog 150 = false := by kernel_rfl
theorem sz_150 : szT Try.prog 150 = 1 := by kernel_rfl
theorem info_150 : infoB Try.prog 150 = true := by kernel_rfl
theorem zero_150 : zeroT Try.prog 150 = some (.pointer none) := by kernel_rfl
theorem el_150 : El Try.prog 150 1 (.pointer none) 8 := El.mk' (by kernel_rfl) rfl
theorem agg_151 : aggB Try.prog 151 = false := by kernel_rfl
theorem sz_151 : szT Try.prog 151 = 1 := by kernel_rfl
theorem info_151 : infoB Try.prog 151 = true := by kernel_rfl
theorem agg_153 : aggB Try.prog 153 = false := by kernel_rfl
theorem sz_153 : szT Try.prog 153 = 1 := by kernel_rfl
theorem info_153 : infoB Try.prog 153 = true := by kernel_rfl
theorem agg_157 : aggB Try.prog 157 = false := by kernel_rfl
theorem sz_157 : szT Try.prog 157 = 1 := by kernel_rfl
theorem info_157 : infoB Try.prog 157 = true := by kernel_rfl
theorem zero_157 : zeroT Try.prog 157 = some (.slice none 0 0) := by kernel_rfl
theorem el_157 : El Try.prog 157 1 (.slice none 0 0) 24 := El.mk' (by kernel_rfl) rfl
theorem agg_159 : aggB Try.prog 159 = true := by kernel_rfl
theorem sz_159 : szT Try.prog 159 = 5 := by kernel_rfl
theorem info_159 : infoB Try.prog 159 = true := by kernel_rfl
theorem zero_159 : zeroT Try.prog 159 = some (.agg #[(.int .u8 0), (.int .i64 0), (.int .i64 0), (.slice none 0 0), (.slice none 0 0)]) := by kernel_rfl
theorem el_159 : El Try.prog 159 5 (.agg #[(.int .u8 0), (.int .i64 0), (.int .i64 0), (.slice none 0 0), (.slice none 0 0)]) 72 := El.mk' (by kernel_rfl) rfl
theorem agg_162 : aggB Try.prog 162 = true := by kernel_rfl
theorem sz_162 : szT Try.prog 162 = 2 := by kernel_rfl
theorem info_162 : infoB Try.prog 162 = true := by kernel_rfl
theorem zero_162 : zeroT Try.prog 162 = some (.agg #[(.pointer none), (.int .i64 0)]) := by kernel_rfl
theorem el_162 : El Try.prog 162 2 (.agg #[(.pointer none), (.int .i64 0)]) 16 := El.mk' (by kernel_rfl) rfl
theorem agg_163 : aggB Try.prog 163 = false := by kernel_rfl
theorem sz_163 : szT Try.prog 163 = 1 := by kernel_rfl
theorem info_163 : infoB Try.prog 163 = true := by kernel_rfl
theorem agg_166 : aggB Try.prog 166 = false := by kernel_rfl
theorem sz_166 : szT Try.prog 166 = 1 := by kernel_rfl
theorem info_166 : infoB Try.prog 166 = true := by kernel_rfl
theorem agg_169 : aggB Try.prog 169 = true := by kernel_rfl
theorem sz_169 : szT Try.prog 169 = 128 := by kernel_rfl
theorem info_169 : infoB Try.prog 169 = true := by kernel_rfl
theorem zero_169 : zeroT Try.prog 169 = some (.agg (List.replicate 128 (Value.int .u8 0)).toArray) := by kernel_rfl
theorem el_169 : El Try.prog 169 128 (.agg (List.replicate 128 (Value.int .u8 0)).toArray) 128 := El.mk' (by kernel_rfl) (by simp only [Value.cells, List.size_toArray, List.length_replicate, List.length_append, List.length_cons, List.length_nil])
theorem agg_173 : aggB Try.prog 173 = false := by kernel_rfl
theorem sz_173 : szT Try.prog 173 = 1 := by kernel_rfl
theorem info_173 : infoB Try.prog 173 = true := by kernel_rfl
theorem zero_173 : zeroT Try.prog 173 = some (.pointer none) := by kernel_rfl
theorem el_173 : El Try.prog 173 1 (.pointer none) 8 := El.mk' (by kernel_rfl) rfl
theorem agg_176 : aggB Try.prog 176 = true := by kernel_rfl
theorem sz_176 : szT Try.prog 176 = 2 := by kernel_rfl
theorem info_176 : infoB Try.prog 176 = true := by kernel_rfl
theorem zero_176 : zeroT Try.prog 176 = some (.agg #[(.slice none 0 0), (.int .i64 0)]) := by kernel_rfl
theorem el_176 : El Try.prog 176 2 (.agg #[(.slice none 0 0), (.int .i64 0)]) 32 := El.mk' (by kernel_rfl) rfl
theorem agg_178 : aggB Try.prog 178 = false := by kernel_rfl
theorem sz_178 : szT Try.prog 178 = 1 := by kernel_rfl
theorem info_178 : infoB Try.prog 178 = true := by kernel_rfl
theorem zero_178 : zeroT Try.prog 178 = some (.pointer none) := by kernel_rfl
theorem el_178 : El Try.prog 178 1 (.pointer none) 8 := El.mk' (by kernel_rfl) rfl
theorem agg_180 : aggB Try.prog 180 = false := by kernel_rfl
theorem sz_180 : szT Try.prog 180 = 1 := by kernel_rfl
theorem info_180 : infoB Try.prog 180 = true := by kernel_rfl
theorem zero_180 : zeroT Try.prog 180 = some (.slice none 0 0) := by kernel_rfl
theorem el_180 : El Try.prog 180 1 (.slice none 0 0) 24 := El.mk' (by kernel_rfl) rfl
theorem agg_181 : aggB Try.prog 181 = false := by kernel_rfl
theorem sz_181 : szT Try.prog 181 = 1 := by kernel_rfl
theorem info_181 : infoB Try.prog 181 = true := by kernel_rfl
theorem zero_181 : zeroT Try.prog 181 = some (.slice none 0 0) := by kernel_rfl
theorem el_181 : El Try.prog 181 1 (.slice none 0 0) 24 := El.mk' (by kernel_rfl) rfl
theorem agg_183 : aggB Try.prog 183 = true := by kernel_rfl
theorem sz_183 : szT Try.prog 183 = 6 := by kernel_rfl
theorem info_183 : infoB Try.prog 183 = true := by kernel_rfl
theorem zero_183 : zeroT Try.prog 183 = some (.agg #[(.slice none 0 0), (.slice none 0 0), (.slice none 0 0), (.bool false), (.int .i64 0), (.int .i64 0)]) := by kernel_rfl
theorem el_183 : El Try.prog 183 6 (.agg #[(.slice none 0 0), (.slice none 0 0), (.slice none 0 0), (.bool false), (.int .i64 0), (.int .i64 0)]) 96 := El.mk' (by kernel_rfl) rfl
theorem agg_184 : aggB Try.prog 184 = true := by kernel_rfl
theorem sz_184 : szT Try.prog 184 = 128 := by kernel_rfl
theorem info_184 : infoB Try.prog 184 = true := by kernel_rfl
theorem zero_184 : zeroT Try.prog 184 = some (.agg (List.replicate 128 (Value.int .u8 0)).toArray) := by kernel_rfl
theorem el_184 : El Try.prog 184 128 (.agg (List.replicate 128 (Value.int .u8 0)).toArray) 128 := El.mk' (by kernel_rfl) (by simp only [Value.cells, List.size_toArray, List.length_replicate, List.length_append, List.length_cons, List.length_nil])
theorem agg_186 : aggB Try.prog 186 = true := by kernel_rfl
theorem sz_186 : szT Try.prog 186 = 129 := by kernel_rfl
theorem info_186 : infoB Try.prog 186 = true := by kernel_rfl
theorem zero_186 : zeroT Try.prog 186 = some (.agg ([Value.int .i64 0] ++ List.replicate 128 (Value.int .u8 0)).toArray) := by kernel_rfl
theorem el_186 : El Try.prog 186 129 (.agg ([Value.int .i64 0] ++ List.replicate 128 (Value.int .u8 0)).toArray) 136 := El.mk' (by kernel_rfl) (by simp only [Value.cells, List.size_toArray, List.length_replicate, List.length_append, List.length_cons, List.length_nil])
theorem agg_191 : aggB Try.prog 191 = false := by kernel_rfl
theorem sz_191 : szT Try.prog 191 = 1 := by kernel_rfl
theorem info_191 : infoB Try.prog 191 = true := by kernel_rfl
theorem agg_193 : aggB Try.prog 193 = false := by kernel_rfl
theorem sz_193 : szT Try.prog 193 = 1 := by kernel_rfl
theorem info_193 : infoB Try.prog 193 = true := by kernel_rfl
theorem zero_193 : zeroT Try.prog 193 = some .nilFunc := by kernel_rfl
theorem el_193 : El Try.prog 193 1 .nilFunc 8 := El.mk' (by kernel_rfl) rfl
theorem agg_196 : aggB Try.prog 196 = true := by kernel_rfl
theorem sz_196 : szT Try.prog 196 = 4 := by kernel_rfl
theorem info_196 : infoB Try.prog 196 = true := by kernel_rfl
theorem zero_196 : zeroT Try.prog 196 = some (.agg #[(.pointer none), (.int .i64 0), (.int .i64 0), (.int .i64 0)]) := by kernel_rfl
theorem el_196 : El Try.prog 196 4 (.agg #[(.pointer none), (.int .i64 0), (.int .i64 0), (.int .i64 0)]) 32 := El.mk' (by kernel_rfl) rfl
theorem agg_197 : aggB Try.prog 197 = false := by kernel_rfl
theorem sz_197 : szT Try.prog 197 = 1 := by kernel_rfl
theorem info_197 : infoB Try.prog 197 = true := by kernel_rfl
theorem agg_200 : aggB Try.prog 200 = true := by kernel_rfl
theorem sz_200 : szT Try.prog 200 = 2 := by kernel_rfl
theorem info_200 : infoB Try.prog 200 = true := by kernel_rfl
theorem zero_200 : zeroT Try.prog 200 = some (.agg #[(.int .i64 0), (.string { data := #[] })]) := by kernel_rfl
theorem el_200 : El Try.prog 200 2 (.agg #[(.int .i64 0), (.string { data := #[] })]) 24 := El.mk' (by kernel_rfl) rfl
theorem agg_201 : aggB Try.prog 201 = false := by kernel_rfl
theorem sz_201 : szT Try.prog 201 = 1 := by kernel_rfl
theorem info_201 : infoB Try.prog 201 = true := by kernel_rfl
theorem agg_204 : aggB Try.prog 204 = true := by kernel_rfl
theorem sz_204 : szT Try.prog 204 = 2 := by kernel_rfl
theorem info_204 : infoB Try.prog 204 = true := by kernel_rfl
theorem zero_204 : zeroT Try.prog 204 = some (.agg #[(.pointer none), (.int .i64 0)]) := by kernel_rfl
theorem el_204 : El Try.prog 204 2 (.agg #[(.pointer none), (.int .i64 0)]) 16 := El.mk' (by kernel_rfl) rfl
theorem agg_206 : aggB Try.prog 206 = false := by kernel_rfl
theorem sz_206 : szT Try.prog 206 = 1 := by kernel_rfl
theorem info_206 : infoB Try.prog 206 = true := by kernel_rfl
theorem agg_209 : aggB Try.prog 209 = true := by kernel_rfl
theorem sz_209 : szT Try.prog 209 = 256 := by kernel_rfl
theorem info_209 : infoB Try.prog 209 = true := by kernel_rfl
theorem zero_209 : zeroT Try.prog 209 = some (.agg (List.replicate 256 (Value.int .u32 0)).toArray) := by kernel_rfl
theorem el_209 : El Try.prog 209 256 (.agg (List.replicate 256 (Value.int .u32 0)).toArray) 1024 := El.mk' (by kernel_rfl) (by simp only [Value.cells, List.size_toArray, List.length_replicate, List.length_append, List.length_cons, List.length_nil])
theorem agg_210 : aggB Try.prog 210 = false := by kernel_rfl
theorem sz_210 : szT Try.prog 210 = 1 := by kernel_rfl
theorem info_210 : infoB Try.prog 210 = true := by kernel_rfl
theorem zero_210 : zeroT Try.prog 210 = some (.map none) := by kernel_rfl
theorem el_210 : El Try.prog 210 1 (.map none) 8 := El.mk' (by kernel_rfl) rfl
section
variable (w : World) (K : Value → World → Prop) {R : World → World → Prop}
theorem X_len_9 (s : ByteArray) : X Try.prog (Builtin.len_ #[9] 3 #[.string s]) w K = K (.int .i64 (s.size : Int)) w := X_ok (run_len_str Try.underlying9 _ s w)
theorem XP_len_9 (s : ByteArray) : XP Try.prog (Builtin.len_ #[9] 3 #[.string s]) w K = K (.int .i64 (s.size : Int)) w := XP_ok (fun w' => run_len_str Try.underlying9 _ s w')
theorem X_len_27 (a : Option Addr) (n c : Nat) : X Try.prog (Builtin.len_ #[27] 3 #[.slice a n c]) w K = K (.int .i64 (n : Int)) w := X_ok (run_len_sl Try.underlying27 _ a n c w)
theorem XP_len_27 (a : Option Addr) (n c : Nat) : XP Try.prog (Builtin.len_ #[27] 3 #[.slice a n c]) w K = K (.int .i64 (n : Int)) w := XP_ok (fun w' => run_len_sl Try.underlying27 _ a n c w')
theorem X_len_53 (a : Option Addr) (n c : Nat) : X Try.prog (Builtin.len_ #[53] 3 #[.slice a n c]) w K = K (.int .i64 (n : Int)) w := X_ok (run_len_sl Try.underlying53 _ a n c w)
theorem XP_len_53 (a : Option Addr) (n c : Nat) : XP Try.prog (Builtin.len_ #[53] 3 #[.slice a n c]) w K = K (.int .i64 (n : Int)) w := XP_ok (fun w' => run_len_sl Try.underlying53 _ a n c w')
theorem X_len_65 (a : Option Addr) (n c : Nat) : X Try.prog (Builtin.len_ #[65] 3 #[.slice a n c]) w K = K (.int .i64 (n : Int)) w := X_ok (run_len_sl Try.underlying65 _ a n c w)
theorem XP_len_65 (a : Option Addr) (n c : Nat) : XP Try.prog (Builtin.len_ #[65] 3 #[.slice a n c]) w K = K (.int .i64 (n : Int)) w := XP_ok (fun w' => run_len_sl Try.underlying65 _ a n c w')
theorem X_len_66 (a : Option Addr) (n c : Nat) : X Try.prog (Builtin.len_ #[66] 3 #[.slice a n c]) w K = K (.int .i64 (n : Int)) w := X_ok (run_len_sl Try.underlying66 _ a n c w)
theorem XP_len_66 (a : Option Addr) (n c : Nat) : XP Try.prog (Builtin.len_ #[66] 3 #[.slice a n c]) w K = K (.int .i64 (n : Int)) w := XP_ok (fun w' => run_len_sl Try.underlying66 _ a n c w')
theorem X_len_70 (a : Option Addr) (n c : Nat) : X Try.prog (Builtin.len_ #[70] 3 #[.slice a n c]) w K = K (.int .i64 (n : Int)) w := X_ok (run_len_sl Try.underlying70 _ a n c w)
theorem XP_len_70 (a : Option Addr) (n c : Nat) : XP Try.prog (Builtin.len_ #[70] 3 #[.slice a n c]) w K = K (.int .i64 (n : Int)) w := XP_ok (fun w' => run_len_sl Try.underlying70 _ a n c w')
theorem X_len_79 (a : Option Addr) (n c : Nat) : X Try.prog (Builtin.len_ #[79] 3 #[.slice a n c]) w K = K (.int .i64 (n : Int)) w := X_ok (run_len_sl Try.underlying79 _ a n c w)
theorem XP_len_79 (a : Option Addr) (n c : Nat) : XP Try.prog (Builtin.len_ #[79] 3 #[.slice a n c]) w K = K (.int .i64 (n : Int)) w := XP_ok (fun w' => run_len_sl Try.underlying79 _ a n c w')
theorem X_len_83 (a : Option Addr) (n c : Nat) : X Try.prog (Builtin.len_ #[83] 3 #[.slice a n c]) w K = K (.int .i64 (n : Int)) w := X_ok (run_len_sl Try.underlying83 _ a n c w)
theorem XP_len_83 (a : Option Addr) (n c : Nat) : XP Try.prog (Builtin.len_ #[83] 3 #[.slice a n c]) w K = K (.int .i64 (n : Int)) w := XP_ok (fun w' => run_len_sl Try.underlying83 _ a n c w')
theorem X_len_100 (a : Option Addr) (n c : Nat) : X Try.prog (Builtin.len_ #[100] 3 #[.slice a n c]) w K = K (.int .i64 (n : Int)) w := X_ok (run_len_sl Try.underlying100 _ a n c w)
theorem XP_len_100 (a : Option Addr) (n c : Nat) : XP Try.prog (Builtin.len_ #[100] 3 #[.slice a n c]) w K = K (.int .i64 (n : Int)) w := XP_ok (fun w' => run_len_sl Try.underlying100 _ a n c w')
theorem X_len_116 (a : Option Addr) (n c : Nat) : X Try.prog (Builtin.len_ #[116] 3 #[.slice a n c]) w K = K (.int .i64 (n : Int)) w := X_ok (run_len_sl Try.underlying116 _ a n c w)
theorem XP_len_116 (a : Option Addr) (n c : Nat) : XP Try.prog (Builtin.len_ #[116] 3 #[.slice a n c]) w K = K (.int .i64 (n : Int)) w := XP_ok (fun w' => run_len_sl Try.underlying116 _ a n c w')
theorem X_len_128 (a : Option Addr) (n c : Nat) : X Try.prog (Builtin.len_ #[128] 3 #[.slice a n c]) w K = K (.int .i64 (n : Int)) w := X_ok (run_len_sl Try.underlying128 _ a n c w)
theorem XP_len_128 (a : Option Addr) (n c : Nat) : XP Try.prog (Builtin.len_ #[128] 3 #[.slice a n c]) w K = K (.int .i64 (n : Int)) w := XP_ok (fun w' => run_len_sl Try.underlying128 _ a n c w')
theorem X_len_136 (a : Option Addr) (n c : Nat) : X Try.prog (Builtin.len_ #[136] 3 #[.slice a n c]) w K = K (.int .i64 (n : Int)) w := X_ok (run_len_sl Try.underlying136 _ a n c w)
theorem XP_len_136 (a : Option Addr) (n c : Nat) : XP Try.prog (Builtin.len_ #[136] 3 #[.slice a n c]) w K = K (.int .i64 (n : Int)) w := XP_ok (fun w' => run_len_sl Try.underlying136 _ a n c w')
theorem X_len_146 (a : Option Addr) (n c : Nat) : X Try.prog (Builtin.len_ #[146] 3 #[.slice a n c]) w K = K (.int .i64 (n : Int)) w := X_ok (run_len_sl Try.underlying146 _ a n c w)
theorem XP_len_146 (a : Option Addr) (n c : Nat) : XP Try.prog (Builtin.len_ #[146] 3 #[.slice a n c]) w K = K (.int .i64 (n : Int)) w := XP_ok (fun w' => run_len_sl Try.underlying146 _ a n c w')
theorem X_len_157 (a : Option Addr) (n c : Nat) : X Try.prog (Builtin.len_ #[157] 3 #[.slice a n c]) w K = K (.int .i64 (n : Int)) w := X_ok (run_len_sl Try.underlying157 _ a n c w)
theorem XP_len_157 (a : Option Addr) (n c : Nat) : XP Try.prog (Builtin.len_ #[157] 3 #[.slice a n c]) w K = K (.int .i64 (n : Int)) w := XP_ok (fun w' => run_len_sl Try.underlying157 _ a n c w')
theorem X_len_180 (a : Option Addr) (n c : Nat) : X Try.prog (Builtin.len_ #[180] 3 #[.slice a n c]) w K = K (.int .i64 (n : Int)) w := X_ok (run_len_sl Try.underlying180 _ a n c w)
theorem XP_len_180 (a : Option Addr) (n c : Nat) : XP Try.prog (Builtin.len_ #[180] 3 #[.slice a n c]) w K = K (.int .i64 (n : Int)) w := XP_ok (fun w' => run_len_sl Try.underlying180 _ a n c w')
theorem X_len_181 (a : Option Addr) (n c : Nat) : X Try.prog (Builtin.len_ #[181] 3 #[.slice a n c]) w K = K (.int .i64 (n : Int)) w := X_ok (run_len_sl Try.underlying181 _ a n c w)
theorem XP_len_181 (a : Option Addr) (n c : Nat) : XP Try.prog (Builtin.len_ #[181] 3 #[.slice a n c]) w K = K (.int .i64 (n : Int)) w := XP_ok (fun w' => run_len_sl Try.underlying181 _ a n c w')
theorem X_conv_3_5 (j : IntKind) (n : Int) : X Try.prog (convert 3 5 (.int j n)) w K = K (.int .u8 (IntKind.u8.wrap n)) w := X_ok (run_conv_int Try.underlying3 Try.underlying5 j n w)
theorem XP_conv_3_5 (j : IntKind) (n : Int) : XP Try.prog (convert 3 5 (.int j n)) w K = K (.int .u8 (IntKind.u8.wrap n)) w := XP_ok (fun w' => run_conv_int Try.underlying3 Try.underlying5 j n w')
theorem XR_conv_3_5 (j : IntKind) (n : Int) : XR Try.prog R (convert 3 5 (.int j n)) w K = K (.int .u8 (IntKind.u8.wrap n)) w := XR_eq (fun w' => run_conv_int Try.underlying3 Try.underlying5 j n w')
theorem X_conv_3_22 (j : IntKind) (n : Int) : X Try.prog (convert 3 22 (.int j n)) w K = K (.int .u64 (IntKind.u64.wrap n)) w := X_ok (run_conv_int Try.underlying3 Try.underlying22 j n w)
theorem XP_conv_3_22 (j : IntKind) (n : Int) : XP Try.prog (convert 3 22 (.int j n)) w K = K (.int .u64 (IntKind.u64.wrap n)) w := XP_ok (fun w' => run_conv_int Try.underlying3 Try.underlying22 j n w')
theorem XR_conv_3_22 (j : IntKind) (n : Int) : XR Try.prog R (convert 3 22 (.int j n)) w K = K (.int .u64 (IntKind.u64.wrap n)) w := XR_eq (fun w' => run_conv_int Try.underlying3 Try.underlying22 j n w')
theorem X_conv_3_23 (j : IntKind) (n : Int) : X Try.prog (convert 3 23 (.int j n)) w K = K (.int .u32 (IntKind.u32.wrap n)) w := X_ok (run_conv_int Try.underlying3 Try.underlying23 j n w)
theorem XP_conv_3_23 (j : IntKind) (n : Int) : XP Try.prog (convert 3 23 (.int j n)) w K = K (.int .u32 (IntKind.u32.wrap n)) w := XP_ok (fun w' => run_conv_int Try.underlying3 Try.underlying23 j n w')
theorem XR_conv_3_23 (j : IntKind) (n : Int) : XR Try.prog R (convert 3 23 (.int j n)) w K = K (.int .u32 (IntKind.u32.wrap n)) w := XR_eq (fun w' => run_conv_int Try.underlying3 Try.underlying23 j n w')
theorem X_conv_3_49 (j : IntKind) (n : Int) : X Try.prog (convert 3 49 (.int j n)) w K = K (.int .u64 (IntKind.u64.wrap n)) w := X_ok (run_conv_int Try.underlying3 Try.underlying49 j n w)
theorem XP_conv_3_49 (j : IntKind) (n : Int) : XP Try.prog (convert 3 49 (.int j n)) w K = K (.int .u64 (IntKind.u64.wrap n)) w := XP_ok (fun w' => run_conv_int Try.underlying3 Try.underlying49 j n w')
theorem XR_conv_3_49 (j : IntKind) (n : Int) : XR Try.prog R (convert 3 49 (.int j n)) w K = K (.int .u64 (IntKind.u64.wrap n)) w := XR_eq (fun w' => run_conv_int Try.underlying3 Try.underlying49 j n w')
theorem X_conv_5_3 (j : IntKind) (n : Int) : X Try.prog (convert 5 3 (.int j n)) w K = K (.int .i64 (IntKind.i64.wrap n)) w := X_ok (run_conv_int Try.underlying5 Try.underlying3 j n w)
theorem XP_conv_5_3 (j : IntKind) (n : Int) : XP Try.prog (convert 5 3 (.int j n)) w K = K (.int .i64 (IntKind.i64.wrap n)) w := XP_ok (fun w' => run_conv_int Try.underlying5 Try.underlying3 j n w')
theorem XR_conv_5_3 (j : IntKind) (n : Int) : XR Try.prog R (convert 5 3 (.int j n)) w K = K (.int .i64 (IntKind.i64.wrap n)) w := XR_eq (fun w' => run_conv_int Try.underlying5 Try.underlying3 j n w')
theorem X_conv_5_22 (j : IntKind) (n : Int) : X Try.prog (convert 5 22 (.int j n)) w K = K (.int .u64 (IntKind.u64.wrap n)) w := X_ok (run_conv_int Try.underlying5 Try.underlying22 j n w)
theorem XP_conv_5_22 (j : IntKind) (n : Int) : XP Try.prog (convert 5 22 (.int j n)) w K = K (.int .u64 (IntKind.u64.wrap n)) w := XP_ok (fun w' => run_conv_int Try.underlying5 Try.underlying22 j n w')
theorem XR_conv_5_22 (j : IntKind) (n : Int) : XR Try.prog R (convert 5 22 (.int j n)) w K = K (.int .u64 (IntKind.u64.wrap n)) w := XR_eq (fun w' => run_conv_int Try.underlying5 Try.underlying22 j n w')
theorem X_conv_5_23 (j : IntKind) (n : Int) : X Try.prog (convert 5 23 (.int j n)) w K = K (.int .u32 (IntKind.u32.wrap n)) w := X_ok (run_conv_int Try.underlying5 Try.underlying23 j n w)
theorem XP_conv_5_23 (j : IntKind) (n : Int) : XP Try.prog (convert 5 23 (.int j n)) w K = K (.int .u32 (IntKind.u32.wrap n)) w := XP_ok (fun w' => run_conv_int Try.underlying5 Try.underlying23 j n w')
theorem XR_conv_5_23 (j : IntKind) (n : Int) : XR Try.prog R (convert 5 23 (.int j n)) w K = K (.int .u32 (IntKind.u32.wrap n)) w := XR_eq (fun w' => run_conv_int Try.underlying5 Try.underlying23 j n w')
theorem X_conv_22_3 (j : IntKind) (n : Int) : X Try.prog (convert 22 3 (.int j n)) w K = K (.int .i64 (IntKind.i64.wrap n)) w := X_ok (run_conv_int Try.underlying22 Try.underlying3 j n w)
theorem XP_conv_22_3 (j : IntKind) (n : Int) : XP Try.prog (convert 22 3 (.int j n)) w K = K (.int .i64 (IntKind.i64.wrap n)) w := XP_ok (fun w' => run_conv_int Try.underlying22 Try.underlying3 j n w')
theorem XR_conv_22_3 (j : IntKind) (n : Int) : XR Try.prog R (convert 22 3 (.int j n)) w K = K (.int .i64 (IntKind.i64.wrap n)) w := XR_eq (fun w' => run_conv_int Try.underlying22 Try.underlying3 j n w')
theorem X_conv_22_5 (j : IntKind) (n : Int) : X Try.prog (convert 22 5 (.int j n)) w K = K (.int .u8 (IntKind.u8.wrap n)) w := X_ok (run_conv_int Try.underlying22 Try.underlying5 j n w)
theorem XP_conv_22_5 (j : IntKind) (n : Int) : XP Try.prog (convert 22 5 (.int j n)) w K = K (.int .u8 (IntKind.u8.wrap n)) w := XP_ok (fun w' => run_conv_int Try.underlying22 Try.underlying5 j n w')
theorem XR_conv_22_5 (j : IntKind) (n : Int) : XR Try.prog R (convert 22 5 (.int j n)) w K = K (.int .u8 (IntKind.u8.wrap n)) w := XR_eq (fun w' => run_conv_int Try.underlying22 Try.underlying5 j n w')
theorem X_conv_22_23 (j : IntKind) (n : Int) : X Try.prog (convert 22 23 (.int j n)) w K = K (.int .u32 (IntKind.u32.wrap n)) w := X_ok (run_conv_int Try.underlying22 Try.underlying23 j n w)
theorem XP_conv_22_23 (j : IntKind) (n : Int) : XP Try.prog (convert 22 23 (.int j n)) w K = K (.int .u32 (IntKind.u32.wrap n)) w := XP_ok (fun w' => run_conv_int Try.underlying22 Try.underlying23 j n w')
theorem XR_conv_22_23 (j : IntKind) (n : Int) : XR Try.prog R (convert 22 23 (.int j n)) w K = K (.int .u32 (IntKind.u32.wrap n)) w := XR_eq (fun w' => run_conv_int Try.underlying22 Try.underlying23 j n w')
theorem X_conv_23_3 (j : IntKind) (n : Int) : X Try.prog (convert 23 3 (.int j n)) w K = K (.int .i64 (IntKind.i64.wrap n)) w := X_ok (run_conv_int Try.underlying23 Try.underlying3 j n w)
theorem XP_conv_23_3 (j : IntKind) (n : Int) : XP Try.prog (convert 23 3 (.int j n)) w K = K (.int .i64 (IntKind.i64.wrap n)) w := XP_ok (fun w' => run_conv_int Try.underlying23 Try.underlying3 j n w')
theorem XR_conv_23_3 (j : IntKind) (n : Int) : XR Try.prog R (convert 23 3 (.int j n)) w K = K (.int .i64 (IntKind.i64.wrap n)) w := XR_eq (fun w' => run_conv_int Try.underlying23 Try.underlying3 j n w')
theorem X_conv_23_5 (j : IntKind) (n : Int) : X Try.prog (convert 23 5 (.int j n)) w K = K (.int .u8 (IntKind.u8.wrap n)) w := X_ok (run_conv_int Try.underlying23 Try.underlying5 j n w)
theorem XP_conv_23_5 (j : IntKind) (n : Int) : XP Try.prog (convert 23 5 (.int j n)) w K = K (.int .u8 (IntKind.u8.wrap n)) w := XP_ok (fun w' => run_conv_int Try.underlying23 Try.underlying5 j n w')
theorem XR_conv_23_5 (j : IntKind) (n : Int) : XR Try.prog R (convert 23 5 (.int j n)) w K = K (.int .u8 (IntKind.u8.wrap n)) w := XR_eq (fun w' => run_conv_int Try.underlying23 Try.underlying5 j n w')
theorem X_conv_23_22 (j : IntKind) (n : Int) : X Try.prog (convert 23 22 (.int j n)) w K = K (.int .u64 (IntKind.u64.wrap n)) w := X_ok (run_conv_int Try.underlying23 Try.underlying22 j n w)
theorem XP_conv_23_22 (j : IntKind) (n : Int) : XP Try.prog (convert 23 22 (.int j n)) w K = K (.int .u64 (IntKind.u64.wrap n)) w := XP_ok (fun w' => run_conv_int Try.underlying23 Try.underlying22 j n w')
theorem XR_conv_23_22 (j : IntKind) (n : Int) : XR Try.prog R (convert 23 22 (.int j n)) w K = K (.int .u64 (IntKind.u64.wrap n)) w := XR_eq (fun w' => run_conv_int Try.underlying23 Try.underlying22 j n w')
theorem X_conv_49_3 (j : IntKind) (n : Int) : X Try.prog (convert 49 3 (.int j n)) w K = K (.int .i64 (IntKind.i64.wrap n)) w := X_ok (run_conv_int Try.underlying49 Try.underlying3 j n w)
theorem XP_conv_49_3 (j : IntKind) (n : Int) : XP Try.prog (convert 49 3 (.int j n)) w K = K (.int .i64 (IntKind.i64.wrap n)) w := XP_ok (fun w' => run_conv_int Try.underlying49 Try.underlying3 j n w')
theorem XR_conv_49_3 (j : IntKind) (n : Int) : XR Try.prog R (convert 49 3 (.int j n)) w K = K (.int .i64 (IntKind.i64.wrap n)) w := XR_eq (fun w' => run_conv_int Try.underlying49 Try.underlying3 j n w')
theorem X_conv_69_3 (j : IntKind) (n : Int) : X Try.prog (convert 69 3 (.int j n)) w K = K (.int .i64 (IntKind.i64.wrap n)) w := X_ok (run_conv_int Try.underlying69 Try.underlying3 j n w)
theorem XP_conv_69_3 (j : IntKind) (n : Int) : XP Try.prog (convert 69 3 (.int j n)) w K = K (.int .i64 (IntKind.i64.wrap n)) w := XP_ok (fun w' => run_conv_int Try.underlying69 Try.underlying3 j n w')
theorem XR_conv_69_3 (j : IntKind) (n : Int) : XR Try.prog R (convert 69 3 (.int j n)) w K = K (.int .i64 (IntKind.i64.wrap n)) w := XR_eq (fun w' => run_conv_int Try.underlying69 Try.underlying3 j n w')
theorem run_field_25_0 (b o : Nat) (w : World) : Sem.run Try.prog (Instr.fieldAt 25 (.pointer (some ⟨b, o, none⟩)) 0) w = .ok (.pointer (some ⟨b, o, none⟩)) w := by kernel_rfl
theorem X_field_25_0 (b o : Nat) : X Try.prog (Instr.fieldAt 25 (.pointer (some ⟨b, o, none⟩)) 0) w K = K (.pointer (some ⟨b, o, none⟩)) w := X_ok (run_field_25_0 b o w)
theorem XP_field_25_0 (b o : Nat) : XP Try.prog (Instr.fieldAt 25 (.pointer (some ⟨b, o, none⟩)) 0) w K = K (.pointer (some ⟨b, o, none⟩)) w := XP_ok (fun w' => run_field_25_0 b o w')
theorem run_field_25_1 (b o : Nat) (w : World) : Sem.run Try.prog (Instr.fieldAt 25 (.pointer (some ⟨b, o, none⟩)) 1) w = .ok (.pointer (some ⟨b, o + 1, none⟩)) w := by kernel_rfl
theorem X_field_25_1 (b o : Nat) : X Try.prog (Instr.fieldAt 25 (.pointer (some ⟨b, o, none⟩)) 1) w K = K (.pointer (some ⟨b, o + 1, none⟩)) w := X_ok (run_field_25_1 b o w)
theorem XP_field_25_1 (b o : Nat) : XP Try.prog (Instr.fieldAt 25 (.pointer (some ⟨b, o, none⟩)) 1) w K = K (.pointer (some ⟨b, o + 1, none⟩)) w := XP_ok (fun w' => run_field_25_1 b o w')
theorem run_field_25_2 (b o : Nat) (w : World) : Sem.run Try.prog (Instr.fieldAt 25 (.pointer (some ⟨b, o, none⟩)) 2) w = .ok (.pointer (some ⟨b, o + 2, none⟩)) w := by kernel_rfl
theorem X_field_25_2 (b o : Nat) : X Try.prog (Instr.fieldAt 25 (.pointer (some ⟨b, o, none⟩)) 2) w K = K (.pointer (some ⟨b, o + 2, none⟩)) w := X_ok (run_field_25_2 b o w)
theorem XP_field_25_2 (b o : Nat) : XP Try.prog (Instr.fieldAt 25 (.pointer (some ⟨b, o, none⟩)) 2) w K = K (.pointer (some ⟨b, o + 2, none⟩)) w := XP_ok (fun w' => run_field_25_2 b o w')
theorem run_field_25_3 (b o : Nat) (w : World) : Sem.run Try.prog (Instr.fieldAt 25 (.pointer (some ⟨b, o, none⟩)) 3) w = .ok (.pointer (some ⟨b, o + 3, none⟩)) w := by kernel_rfl
theorem X_field_25_3 (b o : Nat) : X Try.prog (Instr.fieldAt 25 (.pointer (some ⟨b, o, none⟩)) 3) w K = K (.pointer (some ⟨b, o + 3, none⟩)) w := X_ok (run_field_25_3 b o w)
theorem XP_field_25_3 (b o : Nat) : XP Try.prog (Instr.fieldAt 25 (.pointer (some ⟨b, o, none⟩)) 3) w K = K (.pointer (some ⟨b, o + 3, none⟩)) w := XP_ok (fun w' => run_field_25_3 b o w')
theorem run_field_57_0 (b o : Nat) (w : World) : Sem.run Try.prog (Instr.fieldAt 57 (.pointer (some ⟨b, o, none⟩)) 0) w = .ok (.pointer (some ⟨b, o, none⟩)) w := by kernel_rfl
theorem X_field_57_0 (b o : Nat) : X Try.prog (Instr.fieldAt 57 (.pointer (some ⟨b, o, none⟩)) 0) w K = K (.pointer (some ⟨b, o, none⟩)) w := X_ok (run_field_57_0 b o w)
theorem XP_field_57_0 (b o : Nat) : XP Try.prog (Instr.fieldAt 57 (.pointer (some ⟨b, o, none⟩)) 0) w K = K (.pointer (some ⟨b, o, none⟩)) w := XP_ok (fun w' => run_field_57_0 b o w')
theorem run_field_57_1 (b o : Nat) (w : World) : Sem.run Try.prog (Instr.fieldAt 57 (.pointer (some ⟨b, o, none⟩)) 1) w = .ok (.pointer (some ⟨b, o + 1, none⟩)) w := by kernel_rfl
theorem X_field_57_1 (b o : Nat) : X Try.prog (Instr.fieldAt 57 (.pointer (some ⟨b, o, none⟩)) 1) w K = K (.pointer (some ⟨b, o + 1, none⟩)) w := X_ok (run_field_57_1 b o w)
theorem XP_field_57_1 (b o : Nat) : XP Try.prog (Instr.fieldAt 57 (.pointer (some ⟨b, o, none⟩)) 1) w K = K (.pointer (some ⟨b, o + 1, none⟩)) w := XP_ok (fun w' => run_field_57_1 b o w')
theorem run_field_57_2 (b o : Nat) (w : World) : Sem.run Try.prog (Instr.fieldAt 57 (.pointer (some ⟨b, o, none⟩)) 2) w = .ok (.pointer (some ⟨b, o + 2, none⟩)) w := by kernel_rfl
theorem X_field_57_2 (b o : Nat) : X Try.prog (Instr.fieldAt 57 (.pointer (some ⟨b, o, none⟩)) 2) w K = K (.pointer (some ⟨b, o + 2, none⟩)) w := X_ok (run_field_57_2 b o w)
theorem XP_field_57_2 (b o : Nat) : XP Try.prog (Instr.fieldAt 57 (.pointer (some ⟨b, o, none⟩)) 2) w K = K (.pointer (some ⟨b, o + 2, none⟩)) w := XP_ok (fun w' => run_field_57_2 b o w')
theorem run_field_59_0 (b o : Nat) (w : World) : Sem.run Try.prog (Instr.fieldAt 59 (.pointer (some ⟨b, o, none⟩)) 0) w = .ok (.pointer (some ⟨b, o, none⟩)) w := by kernel_rfl
theorem X_field_59_0 (b o : Nat) : X Try.prog (Instr.fieldAt 59 (.pointer (some ⟨b, o, none⟩)) 0) w K = K (.pointer (some ⟨b, o, none⟩)) w := X_ok (run_field_59_0 b o w)
theorem XP_field_59_0 (b o : Nat) : XP Try.prog (Instr.fieldAt 59 (.pointer (some ⟨b, o, none⟩)) 0) w K = K (.pointer (some ⟨b, o, none⟩)) w := XP_ok (fun w' => run_field_59_0 b o w')
theorem run_field_59_1 (b o : Nat) (w : World) : Sem.run Try.prog (Instr.fieldAt 59 (.pointer (some ⟨b, o, none⟩)) 1) w = .ok (.pointer (some ⟨b, o + 1, none⟩)) w := by kernel_rfl
theorem X_field_59_1 (b o : Nat) : X Try.prog (Instr.fieldAt 59 (.pointer (some ⟨b, o, none⟩)) 1) w K = K (.pointer (some ⟨b, o + 1, none⟩)) w := X_ok (run_field_59_1 b o w)
theorem XP_field_59_1 (b o : Nat) : XP Try.prog (Instr.fieldAt 59 (.pointer (some ⟨b, o, none⟩)) 1) w K = K (.pointer (some ⟨b, o + 1, none⟩)) w := XP_ok (fun w' => run_field_59_1 b o w')
theorem run_field_86_0 (b o : Nat) (w : World) : Sem.run Try.prog (Instr.fieldAt 86 (.pointer (some ⟨b, o, none⟩)) 0) w = .ok (.pointer (some ⟨b, o, none⟩)) w := by kernel_rfl
theorem X_field_86_0 (b o : Nat) : X Try.prog (Instr.fieldAt 86 (.pointer (some ⟨b, o, none⟩)) 0) w K = K (.pointer (some ⟨b, o, none⟩)) w := X_ok (run_field_86_0 b o w)
theorem XP_field_86_0 (b o : Nat) : XP Try.prog (Instr.fieldAt 86 (.pointer (some ⟨b, o, none⟩)) 0) w K = K (.pointer (some ⟨b, o, none⟩)) w := XP_ok (fun w' => run_field_86_0 b o w')
theorem run_field_86_1 (b o : Nat) (w : World) : Sem.run Try.prog (Instr.fieldAt 86 (.pointer (some ⟨b, o, none⟩)) 1) w = .ok (.pointer (some ⟨b, o + 1, none⟩)) w := by kernel_rfl
theorem X_field_86_1 (b o : Nat) : X Try.prog (Instr.fieldAt 86 (.pointer (some ⟨b, o, none⟩)) 1) w K = K (.pointer (some ⟨b, o + 1, none⟩)) w := X_ok (run_field_86_1 b o w)
theorem XP_field_86_1 (b o : Nat) : XP Try.prog (Instr.fieldAt 86 (.pointer (some ⟨b, o, none⟩)) 1) w K = K (.pointer (some ⟨b, o + 1, none⟩)) w := XP_ok (fun w' => run_field_86_1 b o w')
theorem run_field_86_2 (b o : Nat) (w : World) : Sem.run Try.prog (Instr.fieldAt 86 (.pointer (some ⟨b, o, none⟩)) 2) w = .ok (.pointer (some ⟨b, o + 2, none⟩)) w := by kernel_rfl
theorem X_field_86_2 (b o : Nat) : X Try.prog (Instr.fieldAt 86 (.pointer (some ⟨b, o, none⟩)) 2) w K = K (.pointer (some ⟨b, o + 2, none⟩)) w := X_ok (run_field_86_2 b o w)
theorem XP_field_86_2 (b o : Nat) : XP Try.prog (Instr.fieldAt 86 (.pointer (some ⟨b, o, none⟩)) 2) w K = K (.pointer (some ⟨b, o + 2, none⟩)) w := XP_ok (fun w' => run_field_86_2 b o w')
theorem run_field_86_3 (b o : Nat) (w : World) : Sem.run Try.prog (Instr.fieldAt 86 (.pointer (some ⟨b, o, none⟩)) 3) w = .ok (.pointer (some ⟨b, o + 3, none⟩)) w := by kernel_rfl
theorem X_field_86_3 (b o : Nat) : X Try.prog (Instr.fieldAt 86 (.pointer (some ⟨b, o, none⟩)) 3) w K = K (.pointer (some ⟨b, o + 3, none⟩)) w := X_ok (run_field_86_3 b o w)
theorem XP_field_86_3 (b o : Nat) : XP Try.prog (Instr.fieldAt 86 (.pointer (some ⟨b, o, none⟩)) 3) w K = K (.pointer (some ⟨b, o + 3, none⟩)) w := XP_ok (fun w' => run_field_86_3 b o w')
theorem run_field_86_4 (b o : Nat) (w : World) : Sem.run Try.prog (Instr.fieldAt 86 (.pointer (some ⟨b, o, none⟩)) 4) w = .ok (.pointer (some ⟨b, o + 4, none⟩)) w := by kernel_rfl
theorem X_field_86_4 (b o : Nat) : X Try.prog (Instr.fieldAt 86 (.pointer (some ⟨b, o, none⟩)) 4) w K = K (.pointer (some ⟨b, o + 4, none⟩)) w := X_ok (run_field_86_4 b o w)
theorem XP_field_86_4 (b o : Nat) : XP Try.prog (Instr.fieldAt 86 (.pointer (some ⟨b, o, none⟩)) 4) w K = K (.pointer (some ⟨b, o + 4, none⟩)) w := XP_ok (fun w' => run_field_86_4 b o w')
theorem run_field_113_0 (b o : Nat) (w : World) : Sem.run Try.prog (Instr.fieldAt 113 (.pointer (some ⟨b, o, none⟩)) 0) w = .ok (.pointer (some ⟨b, o, none⟩)) w := by kernel_rfl
theorem X_field_113_0 (b o : Nat) : X Try.prog (Instr.fieldAt 113 (.pointer (some ⟨b, o, none⟩)) 0) w K = K (.pointer (some ⟨b, o, none⟩)) w := X_ok (run_field_113_0 b o w)
theorem XP_field_113_0 (b o : Nat) : XP Try.prog (Instr.fieldAt 113 (.pointer (some ⟨b, o, none⟩)) 0) w K = K (.pointer (some ⟨b, o, none⟩)) w := XP_ok (fun w' => run_field_113_0 b o w')
theorem run_field_113_1 (b o : Nat) (w : World) : Sem.run Try.prog (Instr.fieldAt 113 (.pointer (some ⟨b, o, none⟩)) 1) w = .ok (.pointer (some ⟨b, o + 32, none⟩)) w := by kernel_rfl
theorem X_field_113_1 (b o : Nat) : X Try.prog (Instr.fieldAt 113 (.pointer (some ⟨b, o, none⟩)) 1) w K = K (.pointer (some ⟨b, o + 32, none⟩)) w := X_ok (run_field_113_1 b o w)
theorem XP_field_113_1 (b o : Nat) : XP Try.prog (Instr.fieldAt 113 (.pointer (some ⟨b, o, none⟩)) 1) w K = K (.pointer (some ⟨b, o + 32, none⟩)) w := XP_ok (fun w' => run_field_113_1 b o w')
theorem run_field_115_0 (b o : Nat) (w : World) : Sem.run Try.prog (Instr.fieldAt 115 (.pointer (some ⟨b, o, none⟩)) 0) w = .ok (.pointer (some ⟨b, o, none⟩)) w := by kernel_rfl
theorem X_field_115_0 (b o : Nat) : X Try.prog (Instr.fieldAt 115 (.pointer (some ⟨b, o, none⟩)) 0) w K = K (.pointer (some ⟨b, o, none⟩)) w := X_ok (run_field_115_0 b o w)
theorem XP_field_115_0 (b o : Nat) : XP Try.prog (Instr.fieldAt 115 (.pointer (some ⟨b, o, none⟩)) 0) w K = K (.pointer (some ⟨b, o, none⟩)) w := XP_ok (fun w' => run_field_115_0 b o w')
theorem run_field_115_1 (b o : Nat) (w : World) : Sem.run Try.prog (Instr.fieldAt 115 (.pointer (some ⟨b, o, none⟩)) 1) w = .ok (.pointer (some ⟨b, o + 33, none⟩)) w := by kernel_rfl
theorem X_field_115_1 (b o : Nat) : X Try.prog (Instr.fieldAt 115 (.pointer (some ⟨b, o, none⟩)) 1) w K = K (.pointer (some ⟨b, o + 33, none⟩)) w := X_ok (run_field_115_1 b o w)
theorem XP_field_115_1 (b o : Nat) : XP Try.prog (Instr.fieldAt 115 (.pointer (some ⟨b, o, none⟩)) 1) w K = K (.pointer (some ⟨b, o + 33, none⟩)) w := XP_ok (fun w' => run_field_115_1 b o w')
theorem run_field_131_0 (b o : Nat) (w : World) : Sem.run Try.prog (Instr.fieldAt 131 (.pointer (some ⟨b, o, none⟩)) 0) w = .ok (.pointer (some ⟨b, o, none⟩)) w := by kernel_rfl
theorem X_field_131_0 (b o : Nat) : X Try.prog (Instr.fieldAt 131 (.pointer (some ⟨b, o, none⟩)) 0) w K = K (.pointer (some ⟨b, o, none⟩)) w := X_ok (run_field_131_0 b o w)
theorem XP_field_131_0 (b o : Nat) : XP Try.prog (Instr.fieldAt 131 (.pointer (some ⟨b, o, none⟩)) 0) w K = K (.pointer (some ⟨b, o, none⟩)) w := XP_ok (fun w' => run_field_131_0 b o w')
theorem run_field_131_1 (b o : Nat) (w : World) : Sem.run Try.prog (Instr.fieldAt 131 (.pointer (some ⟨b, o, none⟩)) 1) w = .ok (.pointer (some ⟨b, o + 1, none⟩)) w := by kernel_rfl
theorem X_field_131_1 (b o : Nat) : X Try.prog (Instr.fieldAt 131 (.pointer (some ⟨b, o, none⟩)) 1) w K = K (.pointer (some ⟨b, o + 1, none⟩)) w := X_ok (run_field_131_1 b o w)
theorem XP_field_131_1 (b o : Nat) : XP Try.prog (Instr.fieldAt 131 (.pointer (some ⟨b, o, none⟩)) 1) w K = K (.pointer (some ⟨b, o + 1, none⟩)) w := XP_ok (fun w' => run_field_131_1 b o w')
theorem run_field_135_0 (b o : Nat) (w : World) : Sem.run Try.prog (Instr.fieldAt 135 (.pointer (some ⟨b, o, none⟩)) 0) w = .ok (.pointer (some ⟨b, o, none⟩)) w := by kernel_rfl
theorem X_field_135_0 (b o : Nat) : X Try.prog (Instr.fieldAt 135 (.pointer (some ⟨b, o, none⟩)) 0) w K = K (.pointer (some ⟨b, o, none⟩)) w := X_ok (run_field_135_0 b o w)
theorem XP_field_135_0 (b o : Nat) : XP Try.prog (Instr.fieldAt 135 (.pointer (some ⟨b, o, none⟩)) 0) w K = K (.pointer (some ⟨b, o, none⟩)) w := XP_ok (fun w' => run_field_135_0 b o w')
theorem run_field_135_1 (b o : Nat) (w : World) : Sem.run Try.prog (Instr.fieldAt 135 (.pointer (some ⟨b, o, none⟩)) 1) w = .ok (.pointer (some ⟨b, o + 1, none⟩)) w := by kernel_rfl
theorem X_field_135_1 (b o : Nat) : X Try.prog (Instr.fieldAt 135 (.pointer (some ⟨b, o, none⟩)) 1) w K = K (.pointer (some ⟨b, o + 1, none⟩)) w := X_ok (run_field_135_1 b o w)
theorem XP_field_135_1 (b o : Nat) : XP Try.prog (Instr.fieldAt 135 (.pointer (some ⟨b, o, none⟩)) 1) w K = K (.pointer (some ⟨b, o + 1, none⟩)) w := XP_ok (fun w' => run_field_135_1 b o w')
theorem run_field_135_2 (b o : Nat) (w : World) : Sem.run Try.prog (Instr.fieldAt 135 (.pointer (some ⟨b, o, none⟩)) 2) w = .ok (.pointer (some ⟨b, o + 2, none⟩)) w := by kernel_rfl
theorem X_field_135_2 (b o : Nat) : X Try.prog (Instr.fieldAt 135 (.pointer (some ⟨b, o, none⟩)) 2) w K = K (.pointer (some ⟨b, o + 2, none⟩)) w := X_ok (run_field_135_2 b o w)
theorem XP_field_135_2 (b o : Nat) : XP Try.prog (Instr.fieldAt 135 (.pointer (some ⟨b, o, none⟩)) 2) w K = K (.pointer (some ⟨b, o + 2, none⟩)) w := XP_ok (fun w' => run_field_135_2 b o w')
theorem run_field_135_3 (b o : Nat) (w : World) : Sem.run Try.prog (Instr.fieldAt 135 (.pointer (some ⟨b, o, none⟩)) 3) w = .ok (.pointer (some ⟨b, o + 3, none⟩)) w := by kernel_rfl
theorem X_field_135_3 (b o : Nat) : X Try.prog (Instr.fieldAt 135 (.pointer (some ⟨b, o, none⟩)) 3) w K = K (.pointer (some ⟨b, o + 3, none⟩)) w := X_ok (run_field_135_3 b o w)
theorem XP_field_135_3 (b o : Nat) : XP Try.prog (Instr.fieldAt 135 (.pointer (some ⟨b, o, none⟩)) 3) w K = K (.pointer (some ⟨b, o + 3, none⟩)) w := XP_ok (fun w' => run_field_135_3 b o w')
theorem run_field_138_0 (b o : Nat) (w : World) : Sem.run Try.prog (Instr.fieldAt 138 (.pointer (some ⟨b, o, none⟩)) 0) w = .ok (.pointer (some ⟨b, o, none⟩)) w := by kernel_rfl
theorem X_field_138_0 (b o : Nat) : X Try.prog (Instr.fieldAt 138 (.pointer (some ⟨b, o, none⟩)) 0) w K = K (.pointer (some ⟨b, o, none⟩)) w := X_ok (run_field_138_0 b o w)
theorem XP_field_138_0 (b o : Nat) : XP Try.prog (Instr.fieldAt 138 (.pointer (some ⟨b, o, none⟩)) 0) w K = K (.pointer (some ⟨b, o, none⟩)) w := XP_ok (fun w' => run_field_138_0 b o w')
theorem run_field_138_1 (b o : Nat) (w : World) : Sem.run Try.prog (Instr.fieldAt 138 (.pointer (some ⟨b, o, none⟩)) 1) w = .ok (.pointer (some ⟨b, o + 1, none⟩)) w := by kernel_rfl
theorem X_field_138_1 (b o : Nat) : X Try.prog (Instr.fieldAt 138 (.pointer (some ⟨b, o, none⟩)) 1) w K = K (.pointer (some ⟨b, o + 1, none⟩)) w := X_ok (run_field_138_1 b o w)
theorem XP_field_138_1 (b o : Nat) : XP Try.prog (Instr.fieldAt 138 (.pointer (some ⟨b, o, none⟩)) 1) w K = K (.pointer (some ⟨b, o + 1, none⟩)) w := XP_ok (fun w' => run_field_138_1 b o w')
theorem run_field_138_2 (b o : Nat) (w : World) : Sem.run Try.prog (Instr.fieldAt 138 (.pointer (some ⟨b, o, none⟩)) 2) w = .ok (.pointer (some ⟨b, o + 2, none⟩)) w := by kernel_rfl
theorem X_field_138_2 (b o : Nat) : X Try.prog (Instr.fieldAt 138 (.pointer (some ⟨b, o, none⟩)) 2) w K = K (.pointer (some ⟨b, o + 2, none⟩)) w := X_ok (run_field_138_2 b o w)
theorem XP_field_138_2 (b o : Nat) : XP Try.prog (Instr.fieldAt 138 (.pointer (some ⟨b, o, none⟩)) 2) w K = K (.pointer (some ⟨b, o + 2, none⟩)) w := XP_ok (fun w' => run_field_138_2 b o w')
theorem run_field_138_3 (b o : Nat) (w : World) : Sem.run Try.prog (Instr.fieldAt 138 (.pointer (some ⟨b, o, none⟩)) 3) w = .ok (.pointer (some ⟨b, o + 3, none⟩)) w := by kernel_rfl
theorem X_field_138_3 (b o : Nat) : X Try.prog (Instr.fieldAt 138 (.pointer (some ⟨b, o, none⟩)) 3) w K = K (.pointer (some ⟨b, o + 3, none⟩)) w := X_ok (run_field_138_3 b o w)
theorem XP_field_138_3 (b o : Nat) : XP Try.prog (Instr.fieldAt 138 (.pointer (some ⟨b, o, none⟩)) 3) w K = K (.pointer (some ⟨b, o + 3, none⟩)) w := XP_ok (fun w' => run_field_138_3 b o w')
theorem run_field_142_0 (b o : Nat) (w : World) : Sem.run Try.prog (Instr.fieldAt 142 (.pointer (some ⟨b, o, none⟩)) 0) w = .ok (.pointer (some ⟨b, o, none⟩)) w := by kernel_rfl
theorem X_field_142_0 (b o : Nat) : X Try.prog (Instr.fieldAt 142 (.pointer (some ⟨b, o, none⟩)) 0) w K = K (.pointer (some ⟨b, o, none⟩)) w := X_ok (run_field_142_0 b o w)
theorem XP_field_142_0 (b o : Nat) : XP Try.prog (Instr.fieldAt 142 (.pointer (some ⟨b, o, none⟩)) 0) w K = K (.pointer (some ⟨b, o, none⟩)) w := XP_ok (fun w' => run_field_142_0 b o w')
theorem run_field_142_1 (b o : Nat) (w : World) : Sem.run Try.prog (Instr.fieldAt 142 (.pointer (some ⟨b, o, none⟩)) 1) w = .ok (.pointer (some ⟨b, o + 1, none⟩)) w := by kernel_rfl
theorem X_field_142_1 (b o : Nat) : X Try.prog (Instr.fieldAt 142 (.pointer (some ⟨b, o, none⟩)) 1) w K = K (.pointer (some ⟨b, o + 1, none⟩)) w := X_ok (run_field_142_1 b o w)
theorem XP_field_142_1 (b o : Nat) : XP Try.prog (Instr.fieldAt 142 (.pointer (some ⟨b, o, none⟩)) 1) w K = K (.pointer (some ⟨b, o + 1, none⟩)) w := XP_ok (fun w' => run_field_142_1 b o w')
theorem run_field_142_2 (b o : Nat) (w : World) : Sem.run Try.prog (Instr.fieldAt 142 (.pointer (some ⟨b, o, none⟩)) 2) w = .ok (.pointer (some ⟨b, o + 2, none⟩)) w := by kernel_rfl
theorem X_field_142_2 (b o : Nat) : X Try.prog (Instr.fieldAt 142 (.pointer (some ⟨b, o, none⟩)) 2) w K = K (.pointer (some ⟨b, o + 2, none⟩)) w := X_ok (run_field_142_2 b o w)
theorem XP_field_142_2 (b o : Nat) : XP Try.prog (Instr.fieldAt 142 (.pointer (some ⟨b, o, none⟩)) 2) w K = K (.pointer (some ⟨b, o + 2, none⟩)) w := XP_ok (fun w' => run_field_142_2 b o w')
theorem run_field_142_3 (b o : Nat) (w : World) : Sem.run Try.prog (Instr.fieldAt 142 (.pointer (some ⟨b, o, none⟩)) 3) w = .ok (.pointer (some ⟨b, o + 3, none⟩)) w := by kernel_rfl
theorem X_field_142_3 (b o : Nat) : X Try.prog (Instr.fieldAt 142 (.pointer (some ⟨b, o, none⟩)) 3) w K = K (.pointer (some ⟨b, o + 3, none⟩)) w := X_ok (run_field_142_3 b o w)
theorem XP_field_142_3 (b o : Nat) : XP Try.prog (Instr.fieldAt 142 (.pointer (some ⟨b, o, none⟩)) 3) w K = K (.pointer (some ⟨b, o + 3, none⟩)) w := XP_ok (fun w' => run_field_142_3 b o w')
theorem run_field_142_4 (b o : Nat) (w : World) : Sem.run Try.prog (Instr.fieldAt 142 (.pointer (some ⟨b, o, none⟩)) 4) w = .ok (.pointer (some ⟨b, o + 4, none⟩)) w := by kernel_rfl
theorem X_field_142_4 (b o : Nat) : X Try.prog (Instr.fieldAt 142 (.pointer (some ⟨b, o, none⟩)) 4) w K = K (.pointer (some ⟨b, o + 4, none⟩)) w := X_ok (run_field_142_4 b o w)
theorem XP_field_142_4 (b o : Nat) : XP Try.prog (Instr.fieldAt 142 (.pointer (some ⟨b, o, none⟩)) 4) w K = K (.pointer (some ⟨b, o + 4, none⟩)) w := XP_ok (fun w' => run_field_142_4 b o w')
theorem run_field_148_0 (b o : Nat) (w : World) : Sem.run Try.prog (Instr.fieldAt 148 (.pointer (some ⟨b, o, none⟩)) 0) w = .ok (.pointer (some ⟨b, o, none⟩)) w := by kernel_rfl
theorem X_field_148_0 (b o : Nat) : X Try.prog (Instr.fieldAt 148 (.pointer (some ⟨b, o, none⟩)) 0) w K = K (.pointer (some ⟨b, o, none⟩)) w := X_ok (run_field_148_0 b o w)
theorem XP_field_148_0 (b o : Nat) : XP Try.prog (Instr.fieldAt 148 (.pointer (some ⟨b, o, none⟩)) 0) w K = K (.pointer (some ⟨b, o, none⟩)) w := XP_ok (fun w' => run_field_148_0 b o w')
theorem run_field_148_1 (b o : Nat) (w : World) : Sem.run Try.prog (Instr.fieldAt 148 (.pointer (some ⟨b, o, none⟩)) 1) w = .ok (.pointer (some ⟨b, o + 1, none⟩)) w := by kernel_rfl
theorem X_field_148_1 (b o : Nat) : X Try.prog (Instr.fieldAt 148 (.pointer (some ⟨b, o, none⟩)) 1) w K = K (.pointer (some ⟨b, o + 1, none⟩)) w := X_ok (run_field_148_1 b o w)
theorem XP_field_148_1 (b o : Nat) : XP Try.prog (Instr.fieldAt 148 (.pointer (some ⟨b, o, none⟩)) 1) w K = K (.pointer (some ⟨b, o + 1, none⟩)) w := XP_ok (fun w' => run_field_148_1 b o w')
theorem run_field_148_2 (b o : Nat) (w : World) : Sem.run Try.prog (Instr.fieldAt 148 (.pointer (some ⟨b, o, none⟩)) 2) w = .ok (.pointer (some ⟨b, o + 2, none⟩)) w := by kernel_rfl
theorem X_field_148_2 (b o : Nat) : X Try.prog (Instr.fieldAt 148 (.pointer (some ⟨b, o, none⟩)) 2) w K = K (.pointer (some ⟨b, o + 2, none⟩)) w := X_ok (run_field_148_2 b o w)
theorem XP_field_148_2 (b o : Nat) : XP Try.prog (Instr.fieldAt 148 (.pointer (some ⟨b, o, none⟩)) 2) w K = K (.pointer (some ⟨b, o + 2, none⟩)) w := XP_ok (fun w' => run_field_148_2 b o w')
theorem run_field_148_3 (b o : Nat) (w : World) : Sem.run Try.prog (Instr.fieldAt 148 (.pointer (some ⟨b, o, none⟩)) 3) w = .ok (.pointer (some ⟨b, o + 3, none⟩)) w := by kernel_rfl
theorem X_field_148_3 (b o : Nat) : X Try.prog (Instr.fieldAt 148 (.pointer (some ⟨b, o, none⟩)) 3) w K = K (.pointer (some ⟨b, o + 3, none⟩)) w := X_ok (run_field_148_3 b o w)
theorem XP_field_148_3 (b o : Nat) : XP Try.prog (Instr.fieldAt 148 (.pointer (some ⟨b, o, none⟩)) 3) w K = K (.pointer (some ⟨b, o + 3, none⟩)) w := XP_ok (fun w' => run_field_148_3 b o w')
theorem run_field_148_4 (b o : Nat) (w : World) : Sem.run Try.prog (Instr.fieldAt 148 (.pointer (some ⟨b, o, none⟩)) 4) w = .ok (.pointer (some ⟨b, o + 4, none⟩)) w := by kernel_rfl
theorem X_field_148_4 (b o : Nat) : X Try.prog (Instr.fieldAt 148 (.pointer (some ⟨b, o, none⟩)) 4) w K = K (.pointer (some ⟨b, o + 4, none⟩)) w := X_ok (run_field_148_4 b o w)
theorem XP_field_148_4 (b o : Nat) : XP Try.prog (Instr.fieldAt 148 (.pointer (some ⟨b, o, none⟩)) 4) w K = K (.pointer (some ⟨b, o + 4, none⟩)) w := XP_ok (fun w' => run_field_148_4 b o w')
theorem run_field_159_0 (b o : Nat) (w : World) : Sem.run Try.prog (Instr.fieldAt 159 (.pointer (some ⟨b, o, none⟩)) 0) w = .ok (.pointer (some ⟨b, o, none⟩)) w := by kernel_rfl
theorem X_field_159_0 (b o : Nat) : X Try.prog (Instr.fieldAt 159 (.pointer (some ⟨b, o, none⟩)) 0) w K = K (.pointer (some ⟨b, o, none⟩)) w := X_ok (run_field_159_0 b o w)
theorem XP_field_159_0 (b o : Nat) : XP Try.prog (Instr.fieldAt 159 (.pointer (some ⟨b, o, none⟩)) 0) w K = K (.pointer (some ⟨b, o, none⟩)) w := XP_ok (fun w' => run_field_159_0 b o w')
theorem run_field_159_1 (b o : Nat) (w : World) : Sem.run Try.prog (Instr.fieldAt 159 (.pointer (some ⟨b, o, none⟩)) 1) w = .ok (.pointer (some ⟨b, o + 1, none⟩)) w := by kernel_rfl
theorem X_field_159_1 (b o : Nat) : X Try.prog (Instr.fieldAt 159 (.pointer (some ⟨b, o, none⟩)) 1) w K = K (.pointer (some ⟨b, o + 1, none⟩)) w := X_ok (run_field_159_1 b o w)
theorem XP_field_159_1 (b o : Nat) : XP Try.prog (Instr.fieldAt 159 (.pointer (some ⟨b, o, none⟩)) 1) w K = K (.pointer (some ⟨b, o + 1, none⟩)) w := XP_ok (fun w' => run_field_159_1 b o w')
theorem run_field_159_2 (b o : Nat) (w : World) : Sem.run Try.prog (Instr.fieldAt 159 (.pointer (some ⟨b, o, none⟩)) 2) w = .ok (.pointer (some ⟨b, o + 2, none⟩)) w := by kernel_rfl
theorem X_field_159_2 (b o : Nat) : X Try.prog (Instr.fieldAt 159 (.pointer (some ⟨b, o, none⟩)) 2) w K = K (.pointer (some ⟨b, o + 2, none⟩)) w := X_ok (run_field_159_2 b o w)
theorem XP_field_159_2 (b o : Nat) : XP Try.prog (Instr.fieldAt 159 (.pointer (some ⟨b, o, none⟩)) 2) w K = K (.pointer (some ⟨b, o + 2, none⟩)) w := XP_ok (fun w' => run_field_159_2 b o w')
theorem run_field_159_3 (b o : Nat) (w : World) : Sem.run Try.prog (Instr.fieldAt 159 (.pointer (some ⟨b, o, none⟩)) 3) w = .ok (.pointer (some ⟨b, o + 3, none⟩)) w := by kernel_rfl
theorem X_field_159_3 (b o : Nat) : X Try.prog (Instr.fieldAt 159 (.pointer (some ⟨b, o, none⟩)) 3) w K = K (.pointer (some ⟨b, o + 3, none⟩)) w := X_ok (run_field_159_3 b o w)
theorem XP_field_159_3 (b o : Nat) : XP Try.prog (Instr.fieldAt 159 (.pointer (some ⟨b, o, none⟩)) 3) w K = K (.pointer (some ⟨b, o + 3, none⟩)) w := XP_ok (fun w' => run_field_159_3 b o w')
theorem run_field_159_4 (b o : Nat) (w : World) : Sem.run Try.prog (Instr.fieldAt 159 (.pointer (some ⟨b, o, none⟩)) 4) w = .ok (.pointer (some ⟨b, o + 4, none⟩)) w := by kernel_rfl
theorem X_field_159_4 (b o : Nat) : X Try.prog (Instr.fieldAt 159 (.pointer (some ⟨b, o, none⟩)) 4) w K = K (.pointer (some ⟨b, o + 4, none⟩)) w := X_ok (run_field_159_4 b o w)
theorem XP_field_159_4 (b o : Nat) : XP Try.prog (Instr.fieldAt 159 (.pointer (some ⟨b, o, none⟩)) 4) w K = K (.pointer (some ⟨b, o + 4, none⟩)) w := XP_ok (fun w' => run_field_159_4 b o w')
theorem run_field_162_0 (b o : Nat) (w : World) : Sem.run Try.prog (Instr.fieldAt 162 (.pointer (some ⟨b, o, none⟩)) 0) w = .ok (.pointer (some ⟨b, o, none⟩)) w := by kernel_rfl
theorem X_field_162_0 (b o : Nat) : X Try.prog (Instr.fieldAt 162 (.pointer (some ⟨b, o, none⟩)) 0) w K = K (.pointer (some ⟨b, o, none⟩)) w := X_ok (run_field_162_0 b o w)
theorem XP_field_162_0 (b o : Nat) : XP Try.prog (Instr.fieldAt 162 (.pointer (some ⟨b, o, none⟩)) 0) w K = K (.pointer (some ⟨b, o, none⟩)) w := XP_ok (fun w' => run_field_162_0 b o w')
theorem run_field_162_1 (b o : Nat) (w : World) : Sem.run Try.prog (Instr.fieldAt 162 (.pointer (some ⟨b, o, none⟩)) 1) w = .ok (.pointer (some ⟨b, o + 1, none⟩)) w := by kernel_rfl
theorem X_field_162_1 (b o : Nat) : X Try.prog (Instr.fieldAt 162 (.pointer (some ⟨b, o, none⟩)) 1) w K = K (.pointer (some ⟨b, o + 1, none⟩)) w := X_ok (run_field_162_1 b o w)
theorem XP_field_162_1 (b o : Nat) : XP Try.prog (Instr.fieldAt 162 (.pointer (some ⟨b, o, none⟩)) 1) w K = K (.pointer (some ⟨b, o + 1, none⟩)) w := XP_ok (fun w' => run_field_162_1 b o w')
theorem run_field_176_0 (b o : Nat) (w : World) : Sem.run Try.prog (Instr.fieldAt 176 (.pointer (some ⟨b, o, none⟩)) 0) w = .ok (.pointer (some ⟨b, o, none⟩)) w := by kernel_rfl
theorem X_field_176_0 (b o : Nat) : X Try.prog (Instr.fieldAt 176 (.pointer (some ⟨b, o, none⟩)) 0) w K = K (.pointer (some ⟨b, o, none⟩)) w := X_ok (run_field_176_0 b o w)
theorem XP_field_176_0 (b o : Nat) : XP Try.prog (Instr.fieldAt 176 (.pointer (some ⟨b, o, none⟩)) 0) w K = K (.pointer (some ⟨b, o, none⟩)) w := XP_ok (fun w' => run_field_176_0 b o w')
theorem run_field_176_1 (b o : Nat) (w : World) : Sem.run Try.prog (Instr.fieldAt 176 (.pointer (some ⟨b, o, none⟩)) 1) w = .ok (.pointer (some ⟨b, o + 1, none⟩)) w := by kernel_rfl
theorem X_field_176_1 (b o : Nat) : X Try.prog (Instr.fieldAt 176 (.pointer (some ⟨b, o, none⟩)) 1) w K = K (.pointer (some ⟨b, o + 1, none⟩)) w := X_ok (run_field_176_1 b o w)
theorem XP_field_176_1 (b o : Nat) : XP Try.prog (Instr.fieldAt 176 (.pointer (some ⟨b, o, none⟩)) 1) w K = K (.pointer (some ⟨b, o + 1, none⟩)) w := XP_ok (fun w' => run_field_176_1 b o w')
theorem run_field_183_0 (b o : Nat) (w : World) : Sem.run Try.prog (Instr.fieldAt 183 (.pointer (some ⟨b, o, none⟩)) 0) w = .ok (.pointer (some ⟨b, o, none⟩)) w := by kernel_rfl
theorem X_field_183_0 (b o : Nat) : X Try.prog (Instr.fieldAt 183 (.pointer (some ⟨b, o, none⟩)) 0) w K = K (.pointer (some ⟨b, o, none⟩)) w := X_ok (run_field_183_0 b o w)
theorem XP_field_183_0 (b o : Nat) : XP Try.prog (Instr.fieldAt 183 (.pointer (some ⟨b, o, none⟩)) 0) w K = K (.pointer (some ⟨b, o, none⟩)) w := XP_ok (fun w' => run_field_183_0 b o w')
theorem run_field_183_1 (b o : Nat) (w : World) : Sem.run Try.prog (Instr.fieldAt 183 (.pointer (some ⟨b, o, none⟩)) 1) w = .ok (.pointer (some ⟨b, o + 1, none⟩)) w := by kernel_rfl
theorem X_field_183_1 (b o : Nat) : X Try.prog (Instr.fieldAt 183 (.pointer (some ⟨b, o, none⟩)) 1) w K = K (.pointer (some ⟨b, o + 1, none⟩)) w := X_ok (run_field_183_1 b o w)
theorem XP_field_183_1 (b o : Nat) : XP Try.prog (Instr.fieldAt 183 (.pointer (some ⟨b, o, none⟩)) 1) w K = K (.pointer (some ⟨b, o + 1, none⟩)) w := XP_ok (fun w' => run_field_183_1 b o w')
theorem run_field_183_2 (b o : Nat) (w : World) : Sem.run Try.prog (Instr.fieldAt 183 (.pointer (some ⟨b, o, none⟩)) 2) w = .ok (.pointer (some ⟨b, o + 2, none⟩)) w := by kernel_rfl
theorem X_field_183_2 (b o : Nat) : X Try.prog (Instr.fieldAt 183 (.pointer (some ⟨b, o, none⟩)) 2) w K = K (.pointer (some ⟨b, o + 2, none⟩)) w := X_ok (run_field_183_2 b o w)
theorem XP_field_183_2 (b o : Nat) : XP Try.prog (Instr.fieldAt 183 (.pointer (some ⟨b, o, none⟩)) 2) w K = K (.pointer (some ⟨b, o + 2, none⟩)) w := XP_ok (fun w' => run_field_183_2 b o w')
theorem run_field_183_3 (b o : Nat) (w : World) : Sem.run Try.prog (Instr.fieldAt 183 (.pointer (some ⟨b, o, none⟩)) 3) w = .ok (.pointer (some ⟨b, o + 3, none⟩)) w := by kernel_rfl
theorem X_field_183_3 (b o : Nat) : X Try.prog (Instr.fieldAt 183 (.pointer (some ⟨b, o, none⟩)) 3) w K = K (.pointer (some ⟨b, o + 3, none⟩)) w := X_ok (run_field_183_3 b o w)
theorem XP_field_183_3 (b o : Nat) : XP Try.prog (Instr.fieldAt 183 (.pointer (some ⟨b, o, none⟩)) 3) w K = K (.pointer (some ⟨b, o + 3, none⟩)) w := XP_ok (fun w' => run_field_183_3 b o w')
theorem run_field_183_4 (b o : Nat) (w : World) : Sem.run Try.prog (Instr.fieldAt 183 (.pointer (some ⟨b, o, none⟩)) 4) w = .ok (.pointer (some ⟨b, o + 4, none⟩)) w := by kernel_rfl
theorem X_field_183_4 (b o : Nat) : X Try.prog (Instr.fieldAt 183 (.pointer (some ⟨b, o, none⟩)) 4) w K = K (.pointer (some ⟨b, o + 4, none⟩)) w := X_ok (run_field_183_4 b o w)
theorem XP_field_183_4 (b o : Nat) : XP Try.prog (Instr.fieldAt 183 (.pointer (some ⟨b, o, none⟩)) 4) w K = K (.pointer (some ⟨b, o + 4, none⟩)) w := XP_ok (fun w' => run_field_183_4 b o w')
theorem run_field_183_5 (b o : Nat) (w : World) : Sem.run Try.prog (Instr.fieldAt 183 (.pointer (some ⟨b, o, none⟩)) 5) w = .ok (.pointer (some ⟨b, o + 5, none⟩)) w := by kernel_rfl
theorem X_field_183_5 (b o : Nat) : X Try.prog (Instr.fieldAt 183 (.pointer (some ⟨b, o, none⟩)) 5) w K = K (.pointer (some ⟨b, o + 5, none⟩)) w := X_ok (run_field_183_5 b o w)
theorem XP_field_183_5 (b o : Nat) : XP Try.prog (Instr.fieldAt 183 (.pointer (some ⟨b, o, none⟩)) 5) w K = K (.pointer (some ⟨b, o + 5, none⟩)) w := XP_ok (fun w' => run_field_183_5 b o w')
theorem run_field_186_0 (b o : Nat) (w : World) : Sem.run Try.prog (Instr.fieldAt 186 (.pointer (some ⟨b, o, none⟩)) 0) w = .ok (.pointer (some ⟨b, o, none⟩)) w := by kernel_rfl
theorem X_field_186_0 (b o : Nat) : X Try.prog (Instr.fieldAt 186 (.pointer (some ⟨b, o, none⟩)) 0) w K = K (.pointer (some ⟨b, o, none⟩)) w := X_ok (run_field_186_0 b o w)
theorem XP_field_186_0 (b o : Nat) : XP Try.prog (Instr.fieldAt 186 (.pointer (some ⟨b, o, none⟩)) 0) w K = K (.pointer (some ⟨b, o, none⟩)) w := XP_ok (fun w' => run_field_186_0 b o w')
theorem run_field_186_1 (b o : Nat) (w : World) : Sem.run Try.prog (Instr.fieldAt 186 (.pointer (some ⟨b, o, none⟩)) 1) w = .ok (.pointer (some ⟨b, o + 1, none⟩)) w := by kernel_rfl
theorem X_field_186_1 (b o : Nat) : X Try.prog (Instr.fieldAt 186 (.pointer (some ⟨b, o, none⟩)) 1) w K = K (.pointer (some ⟨b, o + 1, none⟩)) w := X_ok (run_field_186_1 b o w)
theorem XP_field_186_1 (b o : Nat) : XP Try.prog (Instr.fieldAt 186 (.pointer (some ⟨b, o, none⟩)) 1) w K = K (.pointer (some ⟨b, o + 1, none⟩)) w := XP_ok (fun w' => run_field_186_1 b o w')
theorem run_field_196_0 (b o : Nat) (w : World) : Sem.run Try.prog (Instr.fieldAt 196 (.pointer (some ⟨b, o, none⟩)) 0) w = .ok (.pointer (some ⟨b, o, none⟩)) w := by kernel_rfl
theorem X_field_196_0 (b o : Nat) : X Try.prog (Instr.fieldAt 196 (.pointer (some ⟨b, o, none⟩)) 0) w K = K (.pointer (some ⟨b, o, none⟩)) w := X_ok (run_field_196_0 b o w)
theorem XP_field_196_0 (b o : Nat) : XP Try.prog (Instr.fieldAt 196 (.pointer (some ⟨b, o, none⟩)) 0) w K = K (.pointer (some ⟨b, o, none⟩)) w := XP_ok (fun w' => run_field_196_0 b o w')
theorem run_field_196_1 (b o : Nat) (w : World) : Sem.run Try.prog (Instr.fieldAt 196 (.pointer (some ⟨b, o, none⟩)) 1) w = .ok (.pointer (some ⟨b, o + 1, none⟩)) w := by kernel_rfl
theorem X_field_196_1 (b o : Nat) : X Try.prog (Instr.fieldAt 196 (.pointer (some ⟨b, o, none⟩)) 1) w K = K (.pointer (some ⟨b, o + 1, none⟩)) w := X_ok (run_field_196_1 b o w)
theorem XP_field_196_1 (b o : Nat) : XP Try.prog (Instr.fieldAt 196 (.pointer (some ⟨b, o, none⟩)) 1) w K = K (.pointer (some ⟨b, o + 1, none⟩)) w := XP_ok (fun w' => run_field_196_1 b o w')
theorem run_field_196_2 (b o : Nat) (w : World) : Sem.run Try.prog (Instr.fieldAt 196 (.pointer (some ⟨b, o, none⟩)) 2) w = .ok (.pointer (some ⟨b, o + 2, none⟩)) w := by kernel_rfl
theorem X_field_196_2 (b o : Nat) : X Try.prog (Instr.fieldAt 196 (.pointer (some ⟨b, o, none⟩)) 2) w K = K (.pointer (some ⟨b, o + 2, none⟩)) w := X_ok (run_field_196_2 b o w)
theorem XP_field_196_2 (b o : Nat) : XP Try.prog (Instr.fieldAt 196 (.pointer (some ⟨b, o, none⟩)) 2) w K = K (.pointer (some ⟨b, o + 2, none⟩)) w := XP_ok (fun w' => run_field_196_2 b o w')
theorem run_field_196_3 (b o : Nat) (w : World) : Sem.run Try.prog (Instr.fieldAt 196 (.pointer (some ⟨b, o, none⟩)) 3) w = .ok (.pointer (some ⟨b, o + 3, none⟩)) w := by kernel_rfl
theorem X_field_196_3 (b o : Nat) : X Try.prog (Instr.fieldAt 196 (.pointer (some ⟨b, o, none⟩)) 3) w K = K (.pointer (some ⟨b, o + 3, none⟩)) w := X_ok (run_field_196_3 b o w)
theorem XP_field_196_3 (b o : Nat) : XP Try.prog (Instr.fieldAt 196 (.pointer (some ⟨b, o, none⟩)) 3) w K = K (.pointer (some ⟨b, o + 3, none⟩)) w := XP_ok (fun w' => run_field_196_3 b o w')
theorem run_field_200_0 (b o : Nat) (w : World) : Sem.run Try.prog (Instr.fieldAt 200 (.pointer (some ⟨b, o, none⟩)) 0) w = .ok (.pointer (some ⟨b, o, none⟩)) w := by kernel_rfl
theorem X_field_200_0 (b o : Nat) : X Try.prog (Instr.fieldAt 200 (.pointer (some ⟨b, o, none⟩)) 0) w K = K (.pointer (some ⟨b, o, none⟩)) w := X_ok (run_field_200_0 b o w)
theorem XP_field_200_0 (b o : Nat) : XP Try.prog (Instr.fieldAt 200 (.pointer (some ⟨b, o, none⟩)) 0) w K = K (.pointer (some ⟨b, o, none⟩)) w := XP_ok (fun w' => run_field_200_0 b o w')
theorem run_field_200_1 (b o : Nat) (w : World) : Sem.run Try.prog (Instr.fieldAt 200 (.pointer (some ⟨b, o, none⟩)) 1) w = .ok (.pointer (some ⟨b, o + 1, none⟩)) w := by kernel_rfl
theorem X_field_200_1 (b o : Nat) : X Try.prog (Instr.fieldAt 200 (.pointer (some ⟨b, o, none⟩)) 1) w K = K (.pointer (some ⟨b, o + 1, none⟩)) w := X_ok (run_field_200_1 b o w)
theorem XP_field_200_1 (b o : Nat) : XP Try.prog (Instr.fieldAt 200 (.pointer (some ⟨b, o, none⟩)) 1) w K = K (.pointer (some ⟨b, o + 1, none⟩)) w := XP_ok (fun w' => run_field_200_1 b o w')
theorem run_field_204_0 (b o : Nat) (w : World) : Sem.run Try.prog (Instr.fieldAt 204 (.pointer (some ⟨b, o, none⟩)) 0) w = .ok (.pointer (some ⟨b, o, none⟩)) w := by kernel_rfl
theorem X_field_204_0 (b o : Nat) : X Try.prog (Instr.fieldAt 204 (.pointer (some ⟨b, o, none⟩)) 0) w K = K (.pointer (some ⟨b, o, none⟩)) w := X_ok (run_field_204_0 b o w)
theorem XP_field_204_0 (b o : Nat) : XP Try.prog (Instr.fieldAt 204 (.pointer (some ⟨b, o, none⟩)) 0) w K = K (.pointer (some ⟨b, o, none⟩)) w := XP_ok (fun w' => run_field_204_0 b o w')
theorem run_field_204_1 (b o : Nat) (w : World) : Sem.run Try.prog (Instr.fieldAt 204 (.pointer (some ⟨b, o, none⟩)) 1) w = .ok (.pointer (some ⟨b, o + 1, none⟩)) w := by kernel_rfl
theorem X_field_204_1 (b o : Nat) : X Try.prog (Instr.fieldAt 204 (.pointer (some ⟨b, o, none⟩)) 1) w K = K (.pointer (some ⟨b, o + 1, none⟩)) w := X_ok (run_field_204_1 b o w)
theorem XP_field_204_1 (b o : Nat) : XP Try.prog (Instr.fieldAt 204 (.pointer (some ⟨b, o, none⟩)) 1) w K = K (.pointer (some ⟨b, o + 1, none⟩)) w := XP_ok (fun w' => run_field_204_1 b o w')
theorem X_eql_nil_54 (a b : Operand) (p : Option Addr) : X Try.prog (binOpG .eql 54 a b (.pointer p) (.pointer none)) w K = K (.bool p.isNone) w := X_ok (run_eql_nil Try.underlying54 a b p w)
theorem XP_eql_nil_54 (a b : Operand) (p : Option Addr) : XP Try.prog (binOpG .eql 54 a b (.pointer p) (.pointer none)) w K = K (.bool p.isNone) w := XP_ok (fun w' => run_eql_nil Try.underlying54 a b p w')
theorem X_neq_nil_54 (a b : Operand) (p : Option Addr) : X Try.prog (binOpG .neq 54 a b (.pointer p) (.pointer none)) w K = K (.bool p.isSome) w := X_ok (run_neq_nil Try.underlying54 a b p w)
theorem XP_neq_nil_54 (a b : Operand) (p : Option Addr) : XP Try.prog (binOpG .neq 54 a b (.pointer p) (.pointer none)) w K = K (.bool p.isSome) w := XP_ok (fun w' => run_neq_nil Try.underlying54 a b p w')
theorem X_eql_nil_74 (a b : Operand) (p : Option Addr) : X Try.prog (binOpG .eql 74 a b (.pointer p) (.pointer none)) w K = K (.bool p.isNone) w := X_ok (run_eql_nil Try.underlying74 a b p w)
theorem XP_eql_nil_74 (a b : Operand) (p : Option Addr) : XP Try.prog (binOpG .eql 74 a b (.pointer p) (.pointer none)) w K = K (.bool p.isNone) w := XP_ok (fun w' => run_eql_nil Try.underlying74 a b p w')
theorem X_neq_nil_74 (a b : Operand) (p : Option Addr) : X Try.prog (binOpG .neq 74 a b (.pointer p) (.pointer none)) w K = K (.bool p.isSome) w := X_ok (run_neq_nil Try.underlying74 a b p w)
theorem XP_neq_nil_74 (a b : Operand) (p : Option Addr) : XP Try.prog (binOpG .neq 74 a b (.pointer p) (.pointer none)) w K = K (.bool p.isSome) w := XP_ok (fun w' => run_neq_nil Try.underlying74 a b p w')
theorem X_eql_nil_124 (a b : Operand) (p : Option Addr) : X Try.prog (binOpG .eql 124 a b (.pointer p) (.pointer none)) w K = K (.bool p.isNone) w := X_ok (run_eql_nil Try.underlying124 a b p w)
theorem XP_eql_nil_124 (a b : Operand) (p : Option Addr) : XP Try.prog (binOpG .eql 124 a b (.pointer p) (.pointer none)) w K = K (.bool p.isNone) w := XP_ok (fun w' => run_eql_nil Try.underlying124 a b p w')
theorem X_neq_nil_124 (a b : Operand) (p : Option Addr) : X Try.prog (binOpG .neq 124 a b (.pointer p) (.pointer none)) w K = K (.bool p.isSome) w := X_ok (run_neq_nil Try.underlying124 a b p w)
theorem XP_neq_nil_124 (a b : Operand) (p : Option Addr) : XP Try.prog (binOpG .neq 124 a b (.pointer p) (.pointer none)) w K = K (.bool p.isSome) w := XP_ok (fun w' => run_neq_nil Try.underlying124 a b p w')
theorem X_eql_nil_150 (a b : Operand) (p : Option Addr) : X Try.prog (binOpG .eql 150 a b (.pointer p) (.pointer none)) w K = K (.bool p.isNone) w := X_ok (run_eql_nil Try.underlying150 a b p w)
theorem XP_eql_nil_150 (a b : Operand) (p : Option Addr) : XP Try.prog (binOpG .eql 150 a b (.pointer p) (.pointer none)) w K = K (.bool p.isNone) w := XP_ok (fun w' => run_eql_nil Try.underlying150 a b p w')
theorem X_neq_nil_150 (a b : Operand) (p : Option Addr) : X Try.prog (binOpG .neq 150 a b (.pointer p) (.pointer none)) w K = K (.bool p.isSome) w := X_ok (run_neq_nil Try.underlying150 a b p w)
theorem XP_neq_nil_150 (a b : Operand) (p : Option Addr) : XP Try.prog (binOpG .neq 150 a b (.pointer p) (.pointer none)) w K = K (.bool p.isSome) w := XP_ok (fun w' => run_neq_nil Try.underlying150 a b p w')
theorem X_eql_bool_4 (a b : Operand) (x y : Bool) : X Try.prog (binOpG .eql 4 a b (.bool x) (.bool y)) w K = K (.bool (x == y)) w := X_ok (Go.Sh.run_eql_bool Try.underlying4 a b x y w)
theorem XP_eql_bool_4 (a b : Operand) (x y : Bool) : XP Try.prog (binOpG .eql 4 a b (.bool x) (.bool y)) w K = K (.bool (x == y)) w := XP_ok (fun w' => Go.Sh.run_eql_bool Try.underlying4 a b x y w')
theorem X_neq_bool_4 (a b : Operand) (x y : Bool) : X Try.prog (binOpG .neq 4 a b (.bool x) (.bool y)) w K = K (.bool (x != y)) w := X_ok (Go.Sh.run_neq_bool Try.underlying4 a b x y w)
theorem XP_neq_bool_4 (a b : Operand) (x y : Bool) : XP Try.prog (binOpG .neq 4 a b (.bool x) (.bool y)) w K = K (.bool (x != y)) w := XP_ok (fun w' => Go.Sh.run_neq_bool Try.underlying4 a b x y w')
end
set_option linter.defProp false in
/-- The rules, in one. -/
def ST := And.intro (And.intro (And.intro (And.intro (And.intro (And.intro (And.intro (And.intro (@agg_3) (And.intro (@sz_3) (@info_3))) (And.intro (And.intro (@agg_4) (@sz_4)) (And.intro (@info_4) (@agg_5)))) (And.intro (And.intro (@sz_5) (And.intro (@info_5) (@agg_9))) (And.intro (And.intro (@sz_9) (@info_9)) (And.intro (@agg_22) (@sz_22))))) (And.intro (And.intro (And.intro (@info_22) (And.intro (@agg_23) (@sz_23))) (And.intro (And.intro (@info_23) (@agg_25)) (And.intro (@sz_25) (@info_25)))) (And.intro (And.intro (And.intro (@agg_27) (@sz_27)) (And.intro (@info_27) (@agg_30))) (And.intro (And.intro (@sz_30) (@info_30)) (And.intro (@agg_31) (@sz_31)))))) (And.intro (And.intro (And.intro (And.intro (@info_31) (And.intro (@agg_38) (@sz_38))) (And.intro (And.intro (@info_38) (@agg_41)) (And.intro (@sz_41) (@info_41)))) (And.intro (And.intro (@agg_46) (And.intro (@sz_46) (@info_46))) (And.intro (And.intro (@agg_49) (@sz_49)) (And.intro (@info_49) (@agg_53))))) (And.intro (And.intro (And.intro (@sz_53) (And.intro (@info_53) (@agg_54))) (And.intro (And.intro (@sz_54) (@info_54)) (And.intro (@agg_57) (@sz_57)))) (And.intro (And.intro (And.intro (@info_57) (@agg_59)) (And.intro (@sz_59) (@info_59))) (And.intro (And.intro (@agg_65) (@sz_65)) (And.intro (@info_65) (@agg_66))))))) (And.intro (And.intro (And.intro (And.intro (And.intro (@sz_66) (And.intro (@info_66) (@agg_69))) (And.intro (And.intro (@sz_69) (@info_69)) (And.intro (@agg_70) (@sz_70)))) (And.intro (And.intro (@info_70) (And.intro (@agg_73) (@sz_73))) (And.intro (And.intro (@info_73) (@agg_74)) (And.intro (@sz_74) (@info_74))))) (And.intro (And.intro (And.intro (@agg_75) (And.intro (@sz_75) (@info_75))) (And.intro (And.intro (@agg_79) (@sz_79)) (And.intro (@info_79) (@agg_80)))) (And.intro (And.intro (And.intro (@sz_80) (@info_80)) (And.intro (@agg_83) (@sz_83))) (And.intro (And.intro (@info_83) (@agg_86)) (And.intro (@sz_86) (@info_86)))))) (And.intro (And.intro (And.intro (And.intro (@agg_89) (And.intro (@sz_89) (@info_89))) (And.intro (And.intro (@agg_92) (@sz_92)) (And.intro (@info_92) (@agg_93)))) (And.intro (And.intro (@sz_93) (And.intro (@info_93) (@agg_100))) (And.intro (And.intro (@sz_100) (@info_100)) (And.intro (@agg_105) (@sz_105))))) (And.intro (And.intro (And.intro (@info_105) (And.intro (@agg_108) (@sz_108))) (And.intro (And.intro (@info_108) (@agg_111)) (And.intro (@sz_111) (@info_111)))) (And.intro (And.intro (And.intro (@agg_113) (@sz_113)) (And.intro (@info_113) (@agg_115))) (And.intro (And.intro (@sz_115) (@info_115)) (And.intro (@agg_116) (@sz_116)))))))) (And.intro (And.intro (And.intro (And.intro (And.intro (And.intro (@info_116) (And.intro (@agg_117) (@sz_117))) (And.intro (And.intro (@info_117) (@agg_119)) (And.intro (@sz_119) (@info_119)))) (And.intro (And.intro (@agg_124) (And.intro (@sz_124) (@info_124))) (And.intro (And.intro (@agg_125) (@sz_125)) (And.intro (@info_125) (@agg_128))))) (And.intro (And.intro (And.intro (@sz_128) (And.intro (@info_128) (@agg_129))) (And.intro (And.intro (@sz_129) (@info_129)) (And.intro (@agg_131) (@sz_131)))) (And.intro (And.intro (And.intro (@info_131) (@agg_135)) (And.intro (@sz_135) (@info_135))) (And.intro (And.intro (@agg_136) (@sz_136)) (And.intro (@info_136) (@agg_138)))))) (And.intro (And.intro (And.intro (And.intro (@sz_138) (And.intro (@info_138) (@agg_139))) (And.intro (And.intro (@sz_139) (@info_139)) (And.intro (@agg_142) (@sz_142)))) (And.intro (And.intro (@info_142) (And.intro (@agg_144) (@sz_144))) (And.intro (And.intro (@info_144) (@agg_146)) (And.intro (@sz_146) (@info_146))))) (And.intro (And.intro (And.intro (@agg_148) (And.intro (@sz_148) (@info_148))) (And.intro (And.intro (@agg_150) (@sz_150)) (And.intro (@info_150) (@agg_151)))) (And.intro (And.intro (And.intro (@sz_151) (@info_151)) (And.intro (@agg_153) (@sz_153))) (And.intro (And.intro (@info_153) (@agg_157)) (And.intro (@sz_157) (@info_157))))))) (And.intro (And.intro (And.intro (And.intro (And.intro (@agg_159) (And.intro (@sz_159) (@info_159))) (And.intro (And.intro (@agg_162) (@sz_162)) (And.intro (@info_162) (@agg_163)))) (And.intro (And.intro (@sz_163) (And.intro (@info_163) (@agg_166))) (And.intro (And.intro (@sz_166) (@info_166)) (And.intro (@agg_169) (@sz_169))))) (And.intro (And.intro (And.intro (@info_169) (And.intro (@agg_173) (@sz_173))) (And.intro (And.intro (@info_173) (@agg_176)) (And.intro (@sz_176) (@info_176)))) (And.intro (And.intro (And.intro (@agg_178) (@sz_178)) (And.intro (@info_178) (@agg_180))) (And.intro (And.intro (@sz_180) (@info_180)) (And.intro (@agg_181) (@sz_181)))))) (And.intro (And.intro (And.intro (And.intro (@info_181) (And.intro (@agg_183) (@sz_183))) (And.intro (And.intro (@info_183) (@agg_184)) (And.intro (@sz_184) (@info_184)))) (And.intro (And.intro (And.intro (@agg_186) (@sz_186)) (And.intro (@info_186) (@agg_191))) (And.intro (And.intro (@sz_191) (@info_191)) (And.intro (@agg_193) (@sz_193))))) (And.intro (And.intro (And.intro (@info_193) (And.intro (@agg_196) (@sz_196))) (And.intro (And.intro (@info_196) (@agg_197)) (And.intro (@sz_197) (@info_197)))) (And.intro (And.intro (And.intro (@agg_200) (@sz_200)) (And.intro (@info_200) (@agg_201))) (And.intro (And.intro (@sz_201) (@info_201)) (And.intro (@agg_204) (@sz_204))))))))) (And.intro (And.intro (And.intro (And.intro (And.intro (And.intro (And.intro (@info_204) (And.intro (@agg_206) (@sz_206))) (And.intro (And.intro (@info_206) (@agg_209)) (And.intro (@sz_209) (@info_209)))) (And.intro (And.intro (@agg_210) (And.intro (@sz_210) (@info_210))) (And.intro (And.intro (@X_len_9) (@XP_len_9)) (And.intro (@X_len_27) (@XP_len_27))))) (And.intro (And.intro (And.intro (@X_len_53) (And.intro (@XP_len_53) (@X_len_65))) (And.intro (And.intro (@XP_len_65) (@X_len_66)) (And.intro (@XP_len_66) (@X_len_70)))) (And.intro (And.intro (And.intro (@XP_len_70) (@X_len_79)) (And.intro (@XP_len_79) (@X_len_83))) (And.intro (And.intro (@XP_len_83) (@X_len_100)) (And.intro (@XP_len_100) (@X_len_116)))))) (And.intro (And.intro (And.intro (And.intro (@XP_len_116) (And.intro (@X_len_128) (@XP_len_128))) (And.intro (And.intro (@X_len_136) (@XP_len_136)) (And.intro (@X_len_146) (@XP_len_146)))) (And.intro (And.intro (@X_len_157) (And.intro (@XP_len_157) (@X_len_180))) (And.intro (And.intro (@XP_len_180) (@X_len_181)) (And.intro (@XP_len_181) (@X_conv_3_5))))) (And.intro (And.intro (And.intro (@XP_conv_3_5) (And.intro (@XR_conv_3_5) (@X_conv_3_22))) (And.intro (And.intro (@XP_conv_3_22) (@XR_conv_3_22)) (And.intro (@X_conv_3_23) (@XP_conv_3_23)))) (And.intro (And.intro (And.intro (@XR_conv_3_23) (@X_conv_3_49)) (And.intro (@XP_conv_3_49) (@XR_conv_3_49))) (And.intro (And.intro (@X_conv_5_3) (@XP_conv_5_3)) (And.intro (@XR_conv_5_3) (@X_conv_5_22))))))) (And.intro (And.intro (And.intro (And.intro (And.intro (@XP_conv_5_22) (And.intro (@XR_conv_5_22) (@X_conv_5_23))) (And.intro (And.intro (@XP_conv_5_23) (@XR_conv_5_23)) (And.intro (@X_conv_22_3) (@XP_conv_22_3)))) (And.intro (And.intro (@XR_conv_22_3) (And.intro (@X_conv_22_5) (@XP_conv_22_5))) (And.intro (And.intro (@XR_conv_22_5) (@X_conv_22_23)) (And.intro (@XP_conv_22_23) (@XR_conv_22_23))))) (And.intro (And.intro (And.intro (@X_conv_23_3) (And.intro (@XP_conv_23_3) (@XR_conv_23_3))) (And.intro (And.intro (@X_conv_23_5) (@XP_conv_23_5)) (And.intro (@XR_conv_23_5) (@X_conv_23_22)))) (And.intro (And.intro (And.intro (@XP_conv_23_22) (@XR_conv_23_22)) (And.intro (@X_conv_49_3) (@XP_conv_49_3))) (And.intro (And.intro (@XR_conv_49_3) (@X_conv_69_3)) (And.intro (@XP_conv_69_3) (@XR_conv_69_3)))))) (And.intro (And.intro (And.intro (And.intro (@X_field_25_0) (And.intro (@XP_field_25_0) (@X_field_25_1))) (And.intro (And.intro (@XP_field_25_1) (@X_field_25_2)) (And.intro (@XP_field_25_2) (@X_field_25_3)))) (And.intro (And.intro (@XP_field_25_3) (And.intro (@X_field_57_0) (@XP_field_57_0))) (And.intro (And.intro (@X_field_57_1) (@XP_field_57_1)) (And.intro (@X_field_57_2) (@XP_field_57_2))))) (And.intro (And.intro (And.intro (@X_field_59_0) (And.intro (@XP_field_59_0) (@X_field_59_1))) (And.intro (And.intro (@XP_field_59_1) (@X_field_86_0)) (And.intro (@XP_field_86_0) (@X_field_86_1)))) (And.intro (And.intro (And.intro (@XP_field_86_1) (@X_field_86_2)) (And.intro (@XP_field_86_2) (@X_field_86_3))) (And.intro (And.intro (@XP_field_86_3) (@X_field_86_4)) (And.intro (@XP_field_86_4) (@X_field_113_0)))))))) (And.intro (And.intro (And.intro (And.intro (And.intro (And.intro (@XP_field_113_0) (And.intro (@X_field_113_1) (@XP_field_113_1))) (And.intro (And.intro (@X_field_115_0) (@XP_field_115_0)) (And.intro (@X_field_115_1) (@XP_field_115_1)))) (And.intro (And.intro (@X_field_131_0) (And.intro (@XP_field_131_0) (@X_field_131_1))) (And.intro (And.intro (@XP_field_131_1) (@X_field_135_0)) (And.intro (@XP_field_135_0) (@X_field_135_1))))) (And.intro (And.intro (And.intro (@XP_field_135_1) (And.intro (@X_field_135_2) (@XP_field_135_2))) (And.intro (And.intro (@X_field_135_3) (@XP_field_135_3)) (And.intro (@X_field_138_0) (@XP_field_138_0)))) (And.intro (And.intro (And.intro (@X_field_138_1) (@XP_field_138_1)) (And.intro (@X_field_138_2) (@XP_field_138_2))) (And.intro (And.intro (@X_field_138_3) (@XP_field_138_3)) (And.intro (@X_field_142_0) (@XP_field_142_0)))))) (And.intro (And.intro (And.intro (And.intro (@X_field_142_1) (And.intro (@XP_field_142_1) (@X_field_142_2))) (And.intro (And.intro (@XP_field_142_2) (@X_field_142_3)) (And.intro (@XP_field_142_3) (@X_field_142_4)))) (And.intro (And.intro (@XP_field_142_4) (And.intro (@X_field_148_0) (@XP_field_148_0))) (And.intro (And.intro (@X_field_148_1) (@XP_field_148_1)) (And.intro (@X_field_148_2) (@XP_field_148_2))))) (And.intro (And.intro (And.intro (@X_field_148_3) (And.intro (@XP_field_148_3) (@X_field_148_4))) (And.intro (And.intro (@XP_field_148_4) (@X_field_159_0)) (And.intro (@XP_field_159_0) (@X_field_159_1)))) (And.intro (And.intro (And.intro (@XP_field_159_1) (@X_field_159_2)) (And.intro (@XP_field_159_2) (@X_field_159_3))) (And.intro (And.intro (@XP_field_159_3) (@X_field_159_4)) (And.intro (@XP_field_159_4) (@X_field_162_0))))))) (And.intro (And.intro (And.intro (And.intro (And.intro (@XP_field_162_0) (And.intro (@X_field_162_1) (@XP_field_162_1))) (And.intro (And.intro (@X_field_176_0) (@XP_field_176_0)) (And.intro (@X_field_176_1) (@XP_field_176_1)))) (And.intro (And.intro (@X_field_183_0) (And.intro (@XP_field_183_0) (@X_field_183_1))) (And.intro (And.intro (@XP_field_183_1) (@X_field_183_2)) (And.intro (@XP_field_183_2) (@X_field_183_3))))) (And.intro (And.intro (And.intro (@XP_field_183_3) (And.intro (@X_field_183_4) (@XP_field_183_4))) (And.intro (And.intro (@X_field_183_5) (@XP_field_183_5)) (And.intro (@X_field_186_0) (@XP_field_186_0)))) (And.intro (And.intro (And.intro (@X_field_186_1) (@XP_field_186_1)) (And.intro (@X_field_196_0) (@XP_field_196_0))) (And.intro (And.intro (@X_field_196_1) (@XP_field_196_1)) (And.intro (@X_field_196_2) (@XP_field_196_2)))))) (And.intro (And.intro (And.intro (And.intro (@X_field_196_3) (And.intro (@XP_field_196_3) (@X_field_200_0))) (And.intro (And.intro (@XP_field_200_0) (@X_field_200_1)) (And.intro (@XP_field_200_1) (@X_field_204_0)))) (And.intro (And.intro (And.intro (@XP_field_204_0) (@X_field_204_1)) (And.intro (@XP_field_204_1) (@X_eql_nil_54))) (And.intro (And.intro (@XP_eql_nil_54) (@X_neq_nil_54)) (And.intro (@XP_neq_nil_54) (@X_eql_nil_74))))) (And.intro (And.intro (And.intro (@XP_eql_nil_74) (And.intro (@X_neq_nil_74) (@XP_neq_nil_74))) (And.intro (And.intro (@X_eql_nil_124) (@XP_eql_nil_124)) (And.intro (@X_neq_nil_124) (@XP_neq_nil_124)))) (And.intro (And.intro (And.intro (@X_eql_nil_150) (@XP_eql_nil_150)) (And.intro (@X_neq_nil_150) (@XP_neq_nil_150))) (And.intro (And.intro (@X_eql_bool_4) (@XP_eql_bool_4)) (And.intro (@X_neq_bool_4) (@XP_neq_bool_4)))))))))
end Go.Proofs.Ytggggfcgnkllgaa
end
