/- Part 2 of what the law is proved with: Ops2 Agg Ty. -/
import Derived.Lib.AppendStr
import Derived.Laws.Strings
import Derived.ChangeKeysEq
import Derived.Laws.StructEq
import Derived.Test.YtlnkdphecinnnaaProg
import Derived.Test.YtlnkdphecinnnaaQPC1
section
/- More operations' laws: strings of bytes, bits, structs and arrays in memory. -/
set_option linter.unusedSimpArgs false
set_option linter.unusedVariables false
namespace Go.Sh
open Go Go.RowKit

/-- A string of these bytes. -/
def str (bs : List UInt8) : ByteArray := ⟨bs.toArray⟩
theorem str_toList (bs : List UInt8) : (str bs).toList = bs := ByteArray.toList_mk bs
theorem l8_beq (x y : List UInt8) : (x == y) = decide (x = y) := by rw [Bool.eq_iff_iff]; simp
theorem l8_bne (x y : List UInt8) : (x != y) = decide (x ≠ y) := by rw [Bool.eq_iff_iff]; simp
theorem str_size (bs : List UInt8) : (str bs).size = bs.length := by simp [str, ByteArray.size]
theorem str_of (s : ByteArray) : s = str s.data.toList := by simp [str]
theorem strCells_str (bs : List UInt8) : Lib.strCells (str bs) = B8 bs := by simp [Lib.strCells, str, B8]

theorem wrap_u64 (n : Int) : IntKind.u64.wrap n = n % 18446744073709551616 := by simp [IntKind.wrap, IntKind.bits, IntKind.signed]
theorem wrap_u32 (n : Int) : IntKind.u32.wrap n = n % 4294967296 := by simp [IntKind.wrap, IntKind.bits, IntKind.signed]
theorem wrap_u8 (n : Int) : IntKind.u8.wrap n = n % 256 := by simp [IntKind.wrap, IntKind.bits, IntKind.signed]

section
variable {P : Program}

theorem X_loadL {t : TypeId} {b o : Nat} {l : List Value} {T : TypeId} {fr : Nat × Nat} {v : Value} {w : World} {K : Value → World → Prop} (ht : aggB P t = false)
    (hb : w.heap[b]? = some (.cells l.toArray T fr)) (hv : l[o]? = some v) (h : K v w) : X P (Instr.loadAt t (.pointer (some ⟨b, o, none⟩))) w K :=
  X_loadB ht hb (by simpa using hv) h
/-- A cell of a block that R keeps. -/
theorem XR_loadL {t : TypeId} {b o : Nat} {l : List Value} {T : TypeId} {fr : Nat × Nat} {v : Value} {w : World} {K : Value → World → Prop} (ht : aggB P t = false)
    (hb : w.heap[b]? = some (.cells l.toArray T fr)) (hv : l[o]? = some v) (h : K v w) : XR P Ext (Instr.loadAt t (.pointer (some ⟨b, o, none⟩))) w K :=
  XR_ok Ext.frame (fun w' k => run_loadAt ht ((cell_blk (k.get hb)).trans (by simpa using hv))) h
theorem own_mono {w : World} {base base' : Nat} {e : TypeId} {size : Nat} {v : Value} {n : Nat} {xs : List Value} (h : w.ownsRow base e size v n xs) (hb : base' ≤ base) : w.ownsRow base' e size v n xs :=
  ⟨h.1, h.2.imp id fun ⟨g, cap, cur, he, hg, rest⟩ => ⟨g, cap, cur, he, Nat.le_trans hb hg, rest⟩⟩
theorem XR_of_all {R : World → World → Prop} {s : Sem Value} {w : World} {v : Value} {K : Value → World → Prop} (h : ∀ w', s.run P w' = .ok v w') (hK : K v w) : XR P R s w K := by
  rw [XR_eq h]; exact hK
theorem run_str {src dst e : TypeId} (hs : P.underlying src = some (.slice e)) (he : P.underlying e = some (.int .u8)) (hd : P.underlying dst = some .string) {v : Value} {bs : List UInt8} {w : World} (hb : Bts w v bs) :
    (convert src dst v).run P w = .ok (.string (str bs)) w := by
  obtain ⟨a, c, rfl, h1, h2, h3⟩ := hb
  rw [run_convert_bytes_string w src dst e _ _ c hs he hd]
  by_cases h0 : 0 < bs.length
  · obtain ⟨ad, rfl, hc⟩ := h3 h0
    have hl : (loadCells ad bs.length).run P w = .ok ((bs.map fun u => (u.toNat : Int)).map (Value.int .u8)).toArray w := by
      have := run_loadCells_list (P := P) w ad ((bs.map fun u => (u.toNat : Int)).map (Value.int .u8)) (fun j v hj => by
        simp only [List.map_map, List.getElem?_map] at hj
        obtain ⟨u, hu, rfl⟩ := Option.map_eq_some_iff.1 hj
        exact hc j u hu)
      simpa using this
    rw [run_bytesToString w _ _ c _ hl, foldl_push_bytes]
    congr 2
    simp [str, List.map_map, Function.comp_def, ByteArray.empty, ByteArray.emptyWithCapacity]
    rfl
  · have : bs = [] := List.eq_nil_of_length_eq_zero (by omega)
    subst this
    cases a with
    | none => simp [Conv.bytesToString, str]; rfl
    | some ad => simp [Conv.bytesToString, loadCells, loadCellsFrom, str]; rfl
theorem X_str {src dst e : TypeId} (hs : P.underlying src = some (.slice e)) (he : P.underlying e = some (.int .u8)) (hd : P.underlying dst = some .string) {v : Value} {bs : List UInt8} {w : World} {K : Value → World → Prop} (hb : Bts w v bs)
    (h : K (.string (str bs)) w) : X P (convert src dst v) w K := X_of (run_str hs he hd hb) h
theorem XR_str {src dst e : TypeId} (hs : P.underlying src = some (.slice e)) (he : P.underlying e = some (.int .u8)) (hd : P.underlying dst = some .string) {v : Value} {bs : List UInt8} {w : World} {K : Value → World → Prop} (hb : Bts w v bs)
    (h : K (.string (str bs)) w) : XR P Ext (convert src dst v) w K := XR_ok Ext.frame (fun w' k => run_str hs he hd (hb.ext k)) h
theorem X_eq_str (T : TypeId) (a b : Operand) (x y : List UInt8) (w : World) (K : Value → World → Prop) : X P (binOpG .eql T a b (.string (str x)) (.string (str y))) w K = K (.bool (decide (x = y))) w := by
  rw [X_ok (run_string_eql T a b _ _ w), str_toList, str_toList]
  have : (x == y) = decide (x = y) := by rw [Bool.eq_iff_iff]; simp
  rw [this]
theorem XP_eq_str (T : TypeId) (a b : Operand) (x y : List UInt8) (w : World) (K : Value → World → Prop) : XP P (binOpG .eql T a b (.string (str x)) (.string (str y))) w K = K (.bool (decide (x = y))) w := by
  rw [XP_ok (fun w => run_string_eql T a b _ _ w), str_toList, str_toList]
  have : (x == y) = decide (x = y) := by rw [Bool.eq_iff_iff]; simp
  rw [this]
theorem X_ne_str (T : TypeId) (a b : Operand) (x y : List UInt8) (w : World) (K : Value → World → Prop) : X P (binOpG .neq T a b (.string (str x)) (.string (str y))) w K = K (.bool (decide (x ≠ y))) w := by
  rw [X_ok (run_string_neq T a b _ _ w), str_toList, str_toList]
  have : (x != y) = decide (x ≠ y) := by rw [Bool.eq_iff_iff]; simp
  rw [this]
theorem XP_ne_str (T : TypeId) (a b : Operand) (x y : List UInt8) (w : World) (K : Value → World → Prop) : XP P (binOpG .neq T a b (.string (str x)) (.string (str y))) w K = K (.bool (decide (x ≠ y))) w := by
  rw [XP_ok (fun w => run_string_neq T a b _ _ w), str_toList, str_toList]
  have : (x != y) = decide (x ≠ y) := by rw [Bool.eq_iff_iff]; simp
  rw [this]
/-- append of a string to bytes of the call's own. -/
theorem X_append_str {base : Nat} {t u U e : TypeId} (ht : P.underlying t = some (.slice e)) (hu : P.underlying u = some .string) (hE : El P e 1 (.int .u8 0) 1) {v : Value} {n : Nat} {xs : List UInt8} {w : World} {K : Value → World → Prop} (hown : w.ownsRow base e 1 v n (B8 xs))
    {bs : List UInt8} (hb : n + bs.length ≤ 140737488355328) (hbase : base ≤ w.heap.size)
    (h : ∀ v' w1, w1.ownsRow base e 1 v' (n + bs.length) (B8 (xs ++ bs)) → Keep (fun k => some k = v.ownBlock) w w1 → K v' w1) : X P (Builtin.append_ #[t, u] U #[v, .string (str bs)]) w K := by
  obtain ⟨⟨i, hi, hs, hz, hby⟩, hzc⟩ := hE
  obtain ⟨v', w1, hr, h2, h3, _⟩ := Lib.run_append_own_string (P := P) w base t u U e i ht hu hi hz hs hby v n (B8 xs) hown (str bs) (by rw [str_size]; simp only [maxLen]; omega) (by rw [str_size]; exact hb) hbase
  rw [X_ok hr]
  rw [str_size, strCells_str, ← B8_append] at h2
  exact h v' w1 h2 (keep_grown h3)

/-! ### Bits -/
theorem run_xor {k : IntKind} (hk : k.signed = false) (T : TypeId) (x y : Nat) (hx : x < 2 ^ k.bits) (hy : y < 2 ^ k.bits) (w : World) : (binOp .xor T (.int k (x : Int)) (.int k (y : Int))).run P w = .ok (.int k ((x ^^^ y : Nat) : Int)) w := by
  have h1 : (BitVec.ofInt k.bits (x : Int) ^^^ BitVec.ofInt k.bits (y : Int)).toNat = x ^^^ y := by
    rw [BitVec.toNat_xor, BitVec.ofInt_natCast, BitVec.ofInt_natCast, BitVec.toNat_ofNat, BitVec.toNat_ofNat, Nat.mod_eq_of_lt hx, Nat.mod_eq_of_lt hy]
  have h2 : k.wrap ((x ^^^ y : Nat) : Int) = ((x ^^^ y : Nat) : Int) := by
    have h3 : x ^^^ y < 2 ^ k.bits := Nat.xor_lt_two_pow hx hy
    have h4 : ((x ^^^ y : Nat) : Int) % (2 ^ k.bits : Nat) = ((x ^^^ y : Nat) : Int) := by
      rw [← Int.natCast_emod, Nat.mod_eq_of_lt h3]
    simp only [IntKind.wrap, hk]
    simpa using h4
  simp [binOp, Op.intBits, Nat.mod_eq_of_lt hx, Nat.mod_eq_of_lt hy, h2]
theorem run_or {k : IntKind} (hk : k.signed = false) (T : TypeId) (x y : Nat) (hx : x < 2 ^ k.bits) (hy : y < 2 ^ k.bits) (w : World) : (binOp .or T (.int k (x : Int)) (.int k (y : Int))).run P w = .ok (.int k ((x ||| y : Nat) : Int)) w := by
  have h1 : (BitVec.ofInt k.bits (x : Int) ||| BitVec.ofInt k.bits (y : Int)).toNat = x ||| y := by
    rw [BitVec.toNat_or, BitVec.ofInt_natCast, BitVec.ofInt_natCast, BitVec.toNat_ofNat, BitVec.toNat_ofNat, Nat.mod_eq_of_lt hx, Nat.mod_eq_of_lt hy]
  have h2 : k.wrap ((x ||| y : Nat) : Int) = ((x ||| y : Nat) : Int) := by
    have h3 : x ||| y < 2 ^ k.bits := Nat.or_lt_two_pow hx hy
    have h4 : ((x ||| y : Nat) : Int) % (2 ^ k.bits : Nat) = ((x ||| y : Nat) : Int) := by
      rw [← Int.natCast_emod, Nat.mod_eq_of_lt h3]
    simp only [IntKind.wrap, hk]
    simpa using h4
  simp [binOp, Op.intBits, Nat.mod_eq_of_lt hx, Nat.mod_eq_of_lt hy, h2]

/-! ### Structs and arrays in memory -/
/-- A whole block of that type is loaded. -/
theorem run_loadAgg {t : TypeId} {d : TypeDesc} (hu : P.underlying t = some d) (ha : aggB P t = true) (hi : infoB P t = true) {b o : Nat} {cs : Array Value} {T : TypeId} {fr : Nat × Nat} {w : World} (hb : w.heap[b]? = some (.cells cs T fr))
    {l : List Value} (hl : (cs.toList.drop o).take (szT P t) = l) (hn : l.length = szT P t) : (Instr.loadAt t (.pointer (some ⟨b, o, none⟩))).run P w = .ok (.agg l.toArray) w := by
  have hload : (loadCells ⟨b, o, none⟩ l.length).run P w = .ok l.toArray w := by
    refine run_loadCells_list w _ l fun j v hj => ?_
    have e : (⟨b, o, none⟩ : Addr).add j = ⟨b, o + j, none⟩ := by unfold Addr.add; split <;> simp_all
    rw [e, cell_blk hb]
    rw [← hl, List.getElem?_take] at hj
    split at hj
    · rw [List.getElem?_drop] at hj
      rwa [Array.getElem?_toList] at hj
    · cases hj
  rw [hn] at hload
  simp [Instr.loadAt, Instr.sureAddr, loadVar, isAgg_run' hu ha, sizeOf_run hi, hload]
theorem X_loadAgg {t : TypeId} {d : TypeDesc} (hu : P.underlying t = some d) (ha : aggB P t = true) (hi : infoB P t = true) {b : Nat} {l : List Value} {T : TypeId} {fr : Nat × Nat} {w : World} {K : Value → World → Prop}
    (hb : w.heap[b]? = some (.cells l.toArray T fr)) (hn : l.length = szT P t) (h : K (.agg l.toArray) w) : X P (Instr.loadAt t (.pointer (some ⟨b, 0, none⟩))) w K :=
  X_of (run_loadAgg hu ha hi hb (by rw [List.drop_zero]; exact List.take_of_length_le (by simp [hn])) hn) h
theorem XR_loadAgg {t : TypeId} {d : TypeDesc} (hu : P.underlying t = some d) (ha : aggB P t = true) (hi : infoB P t = true) {b : Nat} {l : List Value} {T : TypeId} {fr : Nat × Nat} {w : World} {K : Value → World → Prop}
    (hb : w.heap[b]? = some (.cells l.toArray T fr)) (hn : l.length = szT P t) (h : K (.agg l.toArray) w) : XR P Ext (Instr.loadAt t (.pointer (some ⟨b, 0, none⟩))) w K :=
  XR_ok Ext.frame (fun w' k => run_loadAgg hu ha hi (k.get hb) (by rw [List.drop_zero]; exact List.take_of_length_le (by simp [hn])) hn) h
theorem resC_agg {t : TypeId} {d : TypeDesc} (hu : P.underlying t = some d) (ha : aggB P t = true) (hi : infoB P t = true) {b : Nat} {l : List Value} {T : TypeId} {fr : Nat × Nat} {w : World} {K : Value → Prop}
    (hb : w.heap[b]? = some (.cells l.toArray T fr)) (hn : l.length = szT P t) (h : K (.agg l.toArray)) : resC P t (.pointer (some ⟨b, 0, none⟩)) w K := by
  have := run_loadAgg hu ha hi hb (by rw [List.drop_zero]; exact List.take_of_length_le (by simp [hn])) hn
  simp only [Instr.loadAt, Instr.sureAddr] at this
  unfold resC
  have e : (do loadVar t (← asAddr (.pointer (some ⟨b, 0, none⟩))) : Sem Value).run P w = .ok (.agg l.toArray) w := by
    simp only [asAddr]
    simpa using this
  rw [e]
  exact ⟨rfl, h⟩
theorem run_storeAgg {t : TypeId} (hi : infoB P t = true) {b : Nat} {cs : Array Value} {l : List Value} {T : TypeId} {w : World} (hb : w.heap[b]? = some (.cells cs T (0, 0))) (hc : cs.size = szT P t) (hn : l.length = szT P t)
    (h1 : ∀ v ∈ l, v.oneCell' = true) : (Instr.storeAt t (.pointer (some ⟨b, 0, none⟩)) (.agg l.toArray)).run P w = .ok () (setAt w b l.toArray T (0, 0)) := by
  have hst := run_storeCells_at P b 0 T l 0 cs w hb (by omega) h1
  have e : w.setRow b ((cs.toList.take (0 + 0) ++ l ++ cs.toList.drop (0 + 0 + l.length)).toArray) = setAt w b l.toArray T (0, 0) := by
    have e1 : cs.toList.drop (0 + 0 + l.length) = [] := List.drop_eq_nil_of_le (by simp; omega)
    rw [e1, List.take_zero, List.nil_append, List.append_nil]
    unfold World.setRow setAt
    congr 1
    apply Array.ext_getElem?
    intro i
    have hl := lt_of_blk hb
    by_cases hi : i = b
    · subst hi
      rw [Array.getElem?_modify, if_pos rfl, hb]
      simp [hl]
    · rw [Array.getElem?_setIfInBounds_ne (Ne.symm hi), Array.getElem?_modify]
      simp [Ne.symm hi]
  rw [e] at hst
  simp [Instr.storeAt, Instr.sureAddr, storeVar, sizeOf_run hi, Value.cells, hn, hst]
theorem XU_storeAgg {t : TypeId} (hi : infoB P t = true) {b : Nat} {cs : Array Value} {l : List Value} {T : TypeId} {w : World} {K : World → Prop} (hb : w.heap[b]? = some (.cells cs T (0, 0))) (hc : cs.size = szT P t) (hn : l.length = szT P t)
    (h1 : ∀ v ∈ l, v.oneCell' = true) (h : K (setAt w b l.toArray T (0, 0))) : XU P (Instr.storeAt t (.pointer (some ⟨b, 0, none⟩)) (.agg l.toArray)) w K := by
  unfold XU; rw [run_storeAgg hi hb hc hn h1]; exact h
theorem run_arrayAt {arr e n : Nat} (ha : P.underlying arr = some (.array n e)) (a : Option Addr) {l : Nat} (hl : n ≤ l) (c : Nat) (w : World) : (Instr.arrayAt arr (.slice a l c)).run P w = .ok (.pointer a) w := by
  have : ¬ l < n := by omega
  simp [Instr.arrayAt, run_underlying ha, this]
end
end Go.Sh
end
section
/- Structs and arrays compared; arrays read from wherever they lie. -/
set_option linter.unusedSimpArgs false
set_option linter.unusedVariables false
namespace Go.Sh
open Go Go.RowKit
section
variable {P : Program}

theorem guard_eql {t : TypeId} (hg : P.eqGuardType P.depth t = false) (a b : Operand) (xs ys : Array Value) (w : World) : (eqGuard .eql t a b (.agg xs) (.agg ys)).run P w = .ok () w := by
  simp [eqGuard, hg]
theorem guard_neq {t : TypeId} (hg : P.eqGuardType P.depth t = false) (a b : Operand) (xs ys : Array Value) (w : World) : (eqGuard .neq t a b (.agg xs) (.agg ys)).run P w = .ok () w := by
  simp [eqGuard, hg]
theorem agg_eql {t : TypeId} (hg : P.eqGuardType P.depth t = false) (a b : Operand) {xs ys : Array Value} {w : World} {r : Bool} (h : (Op.equalIn 10000 t (.agg xs) (.agg ys)).run P w = .ok r w) : (binOpG .eql t a b (.agg xs) (.agg ys)).run P w = .ok (.bool r) w := by
  unfold binOpG
  simp only [Sem.run_bind, guard_eql hg, Result.andThen_ok, run_eql_struct, h]
theorem agg_neq {t : TypeId} (hg : P.eqGuardType P.depth t = false) (a b : Operand) {xs ys : Array Value} {w : World} {r : Bool} (h : (Op.equalIn 10000 t (.agg xs) (.agg ys)).run P w = .ok r w) : (binOpG .neq t a b (.agg xs) (.agg ys)).run P w = .ok (.bool (!r)) w := by
  unfold binOpG
  simp only [Sem.run_bind, guard_neq hg, Result.andThen_ok, run_neq_struct, h]

theorem part_cell {e : TypeId} (ha : aggB P e = false) {cs : Array Value} {i : Nat} {v : Value} (h : cs[i]? = some v) (w : World) : (part e cs i).run P w = .ok v w := by
  simp [part, isAgg_run ha, h]
theorem eqItems_bytes (d : Nat) {e : TypeId} (he : P.underlying e = some (.int .u8)) (ha : aggB P e = false) (xs ys : List UInt8) (hl : xs.length = ys.length) (w : World) :
    ∀ (m k : Nat), k + m = xs.length → (Op.eqItems (d + 1) e 1 (B8 xs).toArray (B8 ys).toArray (List.range' k m)).run P w = .ok (decide (xs.drop k = ys.drop k)) w
  | 0, k, h => by
    have h1 : xs.drop k = [] := List.drop_eq_nil_of_le (by omega)
    have h2 : ys.drop k = [] := List.drop_eq_nil_of_le (by omega)
    simp [Op.eqItems, h1, h2]
  | m + 1, k, h => by
    have hx : k < xs.length := by omega
    have hy : k < ys.length := by omega
    have e1 : (B8 xs).toArray[k * 1]? = some (.int .u8 (xs[k].toNat : Int)) := by simp [B8_getElem?, List.getElem?_eq_getElem hx]
    have e2 : (B8 ys).toArray[k * 1]? = some (.int .u8 (ys[k].toNat : Int)) := by simp [B8_getElem?, List.getElem?_eq_getElem hy]
    rw [List.range'_succ]
    simp only [Op.eqItems, Sem.run_bind, part_cell ha e1, part_cell ha e2, Result.andThen_ok, run_equalIn_int w d e .u8 .u8 _ _ he]
    have hdx := List.drop_eq_getElem_cons hx
    have hdy := List.drop_eq_getElem_cons hy
    by_cases hxy : xs[k] = ys[k]
    · have : ((xs[k].toNat : Int) == (ys[k].toNat : Int)) = true := by simp [hxy]
      rw [this]
      simp only [Bool.not_true, Bool.false_eq_true, if_false]
      rw [eqItems_bytes d he ha xs ys hl w m (k + 1) (by omega)]
      have hi : (xs.drop k = ys.drop k) ↔ (xs.drop (k + 1) = ys.drop (k + 1)) := by
        rw [hdx, hdy, hxy]
        constructor
        · intro h; injection h
        · intro h; rw [h]
      rw [decide_eq_decide.2 hi]
    · have : ((xs[k].toNat : Int) == (ys[k].toNat : Int)) = false := by
        simp only [beq_eq_false_iff_ne, ne_eq]
        intro h
        exact hxy (UInt8.toNat_inj.1 (by omega))
      rw [this]
      have hi : ¬ (xs.drop k = ys.drop k) := by
        rw [hdx, hdy]
        intro h
        injection h with h _
        exact hxy h
      simp only [Bool.not_false, if_true, Sem.run_pure, hi, decide_false]
/-- Two arrays of bytes are the same. -/
theorem arr_equal {t e n : Nat} (hu : P.underlying t = some (.array n e)) (he : P.underlying e = some (.int .u8)) (ha : aggB P e = false) {i : TypeInfo} (hi : P.info? e = some i) (hc : P.cellsOf e = 1) (xs ys : List UInt8) (hx : xs.length = n) (hy : ys.length = n) (w : World) :
    (Op.equalIn 10000 t (.agg (B8 xs).toArray) (.agg (B8 ys).toArray)).run P w = .ok (decide (xs = ys)) w := by
  rw [show (10000 : Nat) = 9999 + 1 from rfl, run_equalIn_array w 9999 _ _ hu hi, hc, List.range_eq_range']
  have := eqItems_bytes (P := P) 9998 he ha xs ys (by omega) w n 0 (by omega)
  simpa using this
/-- An array of bytes, read through a slice's own address. -/
theorem run_loadBytes {t : TypeId} {d : TypeDesc} (hu : P.underlying t = some d) (ha : aggB P t = true) (hi : infoB P t = true) {a : Addr} {l : List UInt8} {w : World} (hn : l.length = szT P t)
    (hc : ∀ j u, l[j]? = some u → w.cell? (a.add j) = some (.int .u8 (u.toNat : Int))) : (Instr.loadAt t (.pointer (some a))).run P w = .ok (.agg (B8 l).toArray) w := by
  have hload : (loadCells a (B8 l).length).run P w = .ok (B8 l).toArray w := by
    refine run_loadCells_list w _ (B8 l) fun j v hj => ?_
    rw [B8_getElem?] at hj
    obtain ⟨u, hu, rfl⟩ := Option.map_eq_some_iff.1 hj
    exact hc j u hu
  rw [B8_length, hn] at hload
  simp [Instr.loadAt, Instr.sureAddr, loadVar, isAgg_run' hu ha, sizeOf_run hi, hload]
end
end Go.Sh
end
section
/- The closed facts on types that the operations of this seat ask. Printed by wip/tyfacts.py. -/
set_option linter.unusedVariables false
set_option linter.unusedSimpArgs false
namespace Go.Proofs.Ytlnkdphecinnnaa
open Go Go.Sh
theorem mixed : Try.prog.follows .mixedOrders = true := by kernel_rfl
theorem agg_3 : aggB Try.prog 3 = false := by kernel_rfl
theorem sz_3 : szT Try.prog 3 = 1 := by kernel_rfl
theorem info_3 : infoB Try.prog 3 = true := by kernel_rfl
theorem zero_3 : zeroT Try.prog 3 = some (.int .i64 0) := by kernel_rfl
theorem el_3 : El Try.prog 3 1 (.int .i64 0) 8 := El.mk' (by kernel_rfl) rfl
theorem agg_4 : aggB Try.prog 4 = false := by kernel_rfl
theorem sz_4 : szT Try.prog 4 = 1 := by kernel_rfl
theorem info_4 : infoB Try.prog 4 = true := by kernel_rfl
theorem zero_4 : zeroT Try.prog 4 = some (.bool false) := by kernel_rfl
theorem el_4 : El Try.prog 4 1 (.bool false) 1 := El.mk' (by kernel_rfl) rfl
theorem agg_5 : aggB Try.prog 5 = false := by kernel_rfl
theorem sz_5 : szT Try.prog 5 = 1 := by kernel_rfl
theorem info_5 : infoB Try.prog 5 = true := by kernel_rfl
theorem zero_5 : zeroT Try.prog 5 = some (.int .u8 0) := by kernel_rfl
theorem el_5 : El Try.prog 5 1 (.int .u8 0) 1 := El.mk' (by kernel_rfl) rfl
theorem agg_9 : aggB Try.prog 9 = false := by kernel_rfl
theorem sz_9 : szT Try.prog 9 = 1 := by kernel_rfl
theorem info_9 : infoB Try.prog 9 = true := by kernel_rfl
theorem zero_9 : zeroT Try.prog 9 = some (.string { data := #[] }) := by kernel_rfl
theorem el_9 : El Try.prog 9 1 (.string { data := #[] }) 16 := El.mk' (by kernel_rfl) rfl
theorem agg_22 : aggB Try.prog 22 = false := by kernel_rfl
theorem sz_22 : szT Try.prog 22 = 1 := by kernel_rfl
theorem info_22 : infoB Try.prog 22 = true := by kernel_rfl
theorem zero_22 : zeroT Try.prog 22 = some (.slice none 0 0) := by kernel_rfl
theorem el_22 : El Try.prog 22 1 (.slice none 0 0) 24 := El.mk' (by kernel_rfl) rfl
theorem agg_24 : aggB Try.prog 24 = false := by kernel_rfl
theorem sz_24 : szT Try.prog 24 = 1 := by kernel_rfl
theorem info_24 : infoB Try.prog 24 = true := by kernel_rfl
theorem zero_24 : zeroT Try.prog 24 = some (.pointer none) := by kernel_rfl
theorem el_24 : El Try.prog 24 1 (.pointer none) 8 := El.mk' (by kernel_rfl) rfl
theorem agg_25 : aggB Try.prog 25 = false := by kernel_rfl
theorem sz_25 : szT Try.prog 25 = 1 := by kernel_rfl
theorem info_25 : infoB Try.prog 25 = true := by kernel_rfl
theorem zero_25 : zeroT Try.prog 25 = some (.int .i64 0) := by kernel_rfl
theorem el_25 : El Try.prog 25 1 (.int .i64 0) 8 := El.mk' (by kernel_rfl) rfl
theorem agg_26 : aggB Try.prog 26 = false := by kernel_rfl
theorem sz_26 : szT Try.prog 26 = 1 := by kernel_rfl
theorem info_26 : infoB Try.prog 26 = true := by kernel_rfl
theorem agg_29 : aggB Try.prog 29 = false := by kernel_rfl
theorem sz_29 : szT Try.prog 29 = 1 := by kernel_rfl
theorem info_29 : infoB Try.prog 29 = true := by kernel_rfl
theorem zero_29 : zeroT Try.prog 29 = some (.slice none 0 0) := by kernel_rfl
theorem el_29 : El Try.prog 29 1 (.slice none 0 0) 24 := El.mk' (by kernel_rfl) rfl
theorem agg_30 : aggB Try.prog 30 = false := by kernel_rfl
theorem sz_30 : szT Try.prog 30 = 1 := by kernel_rfl
theorem info_30 : infoB Try.prog 30 = true := by kernel_rfl
theorem zero_30 : zeroT Try.prog 30 = some (.int .u64 0) := by kernel_rfl
theorem el_30 : El Try.prog 30 1 (.int .u64 0) 8 := El.mk' (by kernel_rfl) rfl
theorem agg_32 : aggB Try.prog 32 = true := by kernel_rfl
theorem sz_32 : szT Try.prog 32 = 4 := by kernel_rfl
theorem info_32 : infoB Try.prog 32 = true := by kernel_rfl
theorem zero_32 : zeroT Try.prog 32 = some (.agg #[(.bool false), (.int .i64 0), (.slice none 0 0), (.int .u64 0)]) := by kernel_rfl
theorem el_32 : El Try.prog 32 4 (.agg #[(.bool false), (.int .i64 0), (.slice none 0 0), (.int .u64 0)]) 48 := El.mk' (by kernel_rfl) rfl
theorem agg_35 : aggB Try.prog 35 = false := by kernel_rfl
theorem sz_35 : szT Try.prog 35 = 1 := by kernel_rfl
theorem info_35 : infoB Try.prog 35 = true := by kernel_rfl
theorem zero_35 : zeroT Try.prog 35 = some (.slice none 0 0) := by kernel_rfl
theorem el_35 : El Try.prog 35 1 (.slice none 0 0) 24 := El.mk' (by kernel_rfl) rfl
theorem agg_41 : aggB Try.prog 41 = true := by kernel_rfl
theorem sz_41 : szT Try.prog 41 = 32 := by kernel_rfl
theorem info_41 : infoB Try.prog 41 = true := by kernel_rfl
theorem zero_41 : zeroT Try.prog 41 = some (.agg (List.replicate 32 (Value.int .u8 0)).toArray) := by kernel_rfl
theorem el_41 : El Try.prog 41 32 (.agg (List.replicate 32 (Value.int .u8 0)).toArray) 32 := El.mk' (by kernel_rfl) (by simp only [Value.cells, List.size_toArray, List.length_replicate, List.length_append, List.length_cons, List.length_nil])
theorem agg_42 : aggB Try.prog 42 = false := by kernel_rfl
theorem sz_42 : szT Try.prog 42 = 1 := by kernel_rfl
theorem info_42 : infoB Try.prog 42 = true := by kernel_rfl
theorem zero_42 : zeroT Try.prog 42 = some (.int .u32 0) := by kernel_rfl
theorem el_42 : El Try.prog 42 1 (.int .u32 0) 4 := El.mk' (by kernel_rfl) rfl
theorem agg_44 : aggB Try.prog 44 = true := by kernel_rfl
theorem sz_44 : szT Try.prog 44 = 33 := by kernel_rfl
theorem info_44 : infoB Try.prog 44 = true := by kernel_rfl
theorem zero_44 : zeroT Try.prog 44 = some (.agg (List.replicate 32 (Value.int .u8 0) ++ [Value.int .u32 0]).toArray) := by kernel_rfl
theorem el_44 : El Try.prog 44 33 (.agg (List.replicate 32 (Value.int .u8 0) ++ [Value.int .u32 0]).toArray) 36 := El.mk' (by kernel_rfl) (by simp only [Value.cells, List.size_toArray, List.length_replicate, List.length_append, List.length_cons, List.length_nil])
theorem agg_46 : aggB Try.prog 46 = true := by kernel_rfl
theorem sz_46 : szT Try.prog 46 = 2 := by kernel_rfl
theorem info_46 : infoB Try.prog 46 = true := by kernel_rfl
theorem zero_46 : zeroT Try.prog 46 = some (.agg #[(.int .i64 0), (.int .i64 0)]) := by kernel_rfl
theorem el_46 : El Try.prog 46 2 (.agg #[(.int .i64 0), (.int .i64 0)]) 16 := El.mk' (by kernel_rfl) rfl
theorem agg_48 : aggB Try.prog 48 = true := by kernel_rfl
theorem sz_48 : szT Try.prog 48 = 35 := by kernel_rfl
theorem info_48 : infoB Try.prog 48 = true := by kernel_rfl
theorem zero_48 : zeroT Try.prog 48 = some (.agg (List.replicate 32 (Value.int .u8 0) ++ [Value.int .u32 0] ++ [Value.int .i64 0, Value.int .i64 0]).toArray) := by kernel_rfl
theorem el_48 : El Try.prog 48 35 (.agg (List.replicate 32 (Value.int .u8 0) ++ [Value.int .u32 0] ++ [Value.int .i64 0, Value.int .i64 0]).toArray) 56 := El.mk' (by kernel_rfl) (by simp only [Value.cells, List.size_toArray, List.length_replicate, List.length_append, List.length_cons, List.length_nil])
theorem agg_49 : aggB Try.prog 49 = false := by kernel_rfl
theorem sz_49 : szT Try.prog 49 = 1 := by kernel_rfl
theorem info_49 : infoB Try.prog 49 = true := by kernel_rfl
theorem zero_49 : zeroT Try.prog 49 = some (.pointer none) := by kernel_rfl
theorem el_49 : El Try.prog 49 1 (.pointer none) 8 := El.mk' (by kernel_rfl) rfl
theorem agg_50 : aggB Try.prog 50 = false := by kernel_rfl
theorem sz_50 : szT Try.prog 50 = 1 := by kernel_rfl
theorem info_50 : infoB Try.prog 50 = true := by kernel_rfl
theorem zero_50 : zeroT Try.prog 50 = some (.slice none 0 0) := by kernel_rfl
theorem el_50 : El Try.prog 50 1 (.slice none 0 0) 24 := El.mk' (by kernel_rfl) rfl
theorem agg_52 : aggB Try.prog 52 = true := by kernel_rfl
theorem sz_52 : szT Try.prog 52 = 2 := by kernel_rfl
theorem info_52 : infoB Try.prog 52 = true := by kernel_rfl
theorem zero_52 : zeroT Try.prog 52 = some (.agg #[(.slice none 0 0), (.int .i64 0)]) := by kernel_rfl
theorem el_52 : El Try.prog 52 2 (.agg #[(.slice none 0 0), (.int .i64 0)]) 32 := El.mk' (by kernel_rfl) rfl
theorem agg_53 : aggB Try.prog 53 = false := by kernel_rfl
theorem sz_53 : szT Try.prog 53 = 1 := by kernel_rfl
theorem info_53 : infoB Try.prog 53 = true := by kernel_rfl
theorem agg_56 : aggB Try.prog 56 = false := by kernel_rfl
theorem sz_56 : szT Try.prog 56 = 1 := by kernel_rfl
theorem info_56 : infoB Try.prog 56 = true := by kernel_rfl
theorem zero_56 : zeroT Try.prog 56 = some (.map none) := by kernel_rfl
theorem el_56 : El Try.prog 56 1 (.map none) 8 := El.mk' (by kernel_rfl) rfl
theorem agg_59 : aggB Try.prog 59 = false := by kernel_rfl
theorem sz_59 : szT Try.prog 59 = 1 := by kernel_rfl
theorem info_59 : infoB Try.prog 59 = true := by kernel_rfl
theorem zero_59 : zeroT Try.prog 59 = some (.slice none 0 0) := by kernel_rfl
theorem el_59 : El Try.prog 59 1 (.slice none 0 0) 24 := El.mk' (by kernel_rfl) rfl
theorem agg_64 : aggB Try.prog 64 = false := by kernel_rfl
theorem sz_64 : szT Try.prog 64 = 1 := by kernel_rfl
theorem info_64 : infoB Try.prog 64 = true := by kernel_rfl
theorem zero_64 : zeroT Try.prog 64 = some (.slice none 0 0) := by kernel_rfl
theorem el_64 : El Try.prog 64 1 (.slice none 0 0) 24 := El.mk' (by kernel_rfl) rfl
theorem agg_68 : aggB Try.prog 68 = false := by kernel_rfl
theorem sz_68 : szT Try.prog 68 = 1 := by kernel_rfl
theorem info_68 : infoB Try.prog 68 = true := by kernel_rfl
theorem zero_68 : zeroT Try.prog 68 = some (.int .u16 0) := by kernel_rfl
theorem el_68 : El Try.prog 68 1 (.int .u16 0) 2 := El.mk' (by kernel_rfl) rfl
theorem agg_72 : aggB Try.prog 72 = true := by kernel_rfl
theorem sz_72 : szT Try.prog 72 = 35 := by kernel_rfl
theorem info_72 : infoB Try.prog 72 = true := by kernel_rfl
theorem zero_72 : zeroT Try.prog 72 = some (.agg (List.replicate 32 (Value.int .u8 0) ++ [Value.int .u32 0] ++ [Value.int .i64 0, Value.int .i64 0]).toArray) := by kernel_rfl
theorem el_72 : El Try.prog 72 35 (.agg (List.replicate 32 (Value.int .u8 0) ++ [Value.int .u32 0] ++ [Value.int .i64 0, Value.int .i64 0]).toArray) 56 := El.mk' (by kernel_rfl) (by simp only [Value.cells, List.size_toArray, List.length_replicate, List.length_append, List.length_cons, List.length_nil])
theorem agg_74 : aggB Try.prog 74 = true := by kernel_rfl
theorem sz_74 : szT Try.prog 74 = 4 := by kernel_rfl
theorem info_74 : infoB Try.prog 74 = true := by kernel_rfl
theorem zero_74 : zeroT Try.prog 74 = some (.agg #[(.int .u16 0), (.int .u16 0), (.int .u16 0), (.int .u16 0)]) := by kernel_rfl
theorem el_74 : El Try.prog 74 4 (.agg #[(.int .u16 0), (.int .u16 0), (.int .u16 0), (.int .u16 0)]) 8 := El.mk' (by kernel_rfl) rfl
theorem agg_77 : aggB Try.prog 77 = false := by kernel_rfl
theorem sz_77 : szT Try.prog 77 = 1 := by kernel_rfl
theorem info_77 : infoB Try.prog 77 = true := by kernel_rfl
theorem zero_77 : zeroT Try.prog 77 = some (.slice none 0 0) := by kernel_rfl
theorem el_77 : El Try.prog 77 1 (.slice none 0 0) 24 := El.mk' (by kernel_rfl) rfl
theorem agg_79 : aggB Try.prog 79 = false := by kernel_rfl
theorem sz_79 : szT Try.prog 79 = 1 := by kernel_rfl
theorem info_79 : infoB Try.prog 79 = true := by kernel_rfl
theorem zero_79 : zeroT Try.prog 79 = some (.slice none 0 0) := by kernel_rfl
theorem el_79 : El Try.prog 79 1 (.slice none 0 0) 24 := El.mk' (by kernel_rfl) rfl
theorem agg_80 : aggB Try.prog 80 = false := by kernel_rfl
theorem sz_80 : szT Try.prog 80 = 1 := by kernel_rfl
theorem info_80 : infoB Try.prog 80 = true := by kernel_rfl
theorem agg_82 : aggB Try.prog 82 = false := by kernel_rfl
theorem sz_82 : szT Try.prog 82 = 1 := by kernel_rfl
theorem info_82 : infoB Try.prog 82 = true := by kernel_rfl
theorem agg_85 : aggB Try.prog 85 = false := by kernel_rfl
theorem sz_85 : szT Try.prog 85 = 1 := by kernel_rfl
theorem info_85 : infoB Try.prog 85 = true := by kernel_rfl
theorem zero_85 : zeroT Try.prog 85 = some (.map none) := by kernel_rfl
theorem el_85 : El Try.prog 85 1 (.map none) 8 := El.mk' (by kernel_rfl) rfl
theorem agg_87 : aggB Try.prog 87 = true := by kernel_rfl
theorem sz_87 : szT Try.prog 87 = 3 := by kernel_rfl
theorem info_87 : infoB Try.prog 87 = true := by kernel_rfl
theorem zero_87 : zeroT Try.prog 87 = some (.agg #[(.int .i64 0), (.slice none 0 0), (.map none)]) := by kernel_rfl
theorem el_87 : El Try.prog 87 3 (.agg #[(.int .i64 0), (.slice none 0 0), (.map none)]) 40 := El.mk' (by kernel_rfl) rfl
theorem agg_88 : aggB Try.prog 88 = false := by kernel_rfl
theorem sz_88 : szT Try.prog 88 = 1 := by kernel_rfl
theorem info_88 : infoB Try.prog 88 = true := by kernel_rfl
theorem zero_88 : zeroT Try.prog 88 = some (.map none) := by kernel_rfl
theorem el_88 : El Try.prog 88 1 (.map none) 8 := El.mk' (by kernel_rfl) rfl
theorem agg_89 : aggB Try.prog 89 = false := by kernel_rfl
theorem sz_89 : szT Try.prog 89 = 1 := by kernel_rfl
theorem info_89 : infoB Try.prog 89 = true := by kernel_rfl
theorem agg_96 : aggB Try.prog 96 = true := by kernel_rfl
theorem sz_96 : szT Try.prog 96 = 2 := by kernel_rfl
theorem info_96 : infoB Try.prog 96 = true := by kernel_rfl
theorem zero_96 : zeroT Try.prog 96 = some (.agg #[(.int .i64 0), (.slice none 0 0)]) := by kernel_rfl
theorem el_96 : El Try.prog 96 2 (.agg #[(.int .i64 0), (.slice none 0 0)]) 32 := El.mk' (by kernel_rfl) rfl
theorem agg_97 : aggB Try.prog 97 = false := by kernel_rfl
theorem sz_97 : szT Try.prog 97 = 1 := by kernel_rfl
theorem info_97 : infoB Try.prog 97 = true := by kernel_rfl
theorem zero_97 : zeroT Try.prog 97 = some (.pointer none) := by kernel_rfl
theorem el_97 : El Try.prog 97 1 (.pointer none) 8 := El.mk' (by kernel_rfl) rfl
theorem agg_99 : aggB Try.prog 99 = false := by kernel_rfl
theorem sz_99 : szT Try.prog 99 = 1 := by kernel_rfl
theorem info_99 : infoB Try.prog 99 = true := by kernel_rfl
theorem zero_99 : zeroT Try.prog 99 = some .nilFunc := by kernel_rfl
theorem el_99 : El Try.prog 99 1 .nilFunc 8 := El.mk' (by kernel_rfl) rfl
theorem agg_100 : aggB Try.prog 100 = false := by kernel_rfl
theorem sz_100 : szT Try.prog 100 = 1 := by kernel_rfl
theorem info_100 : infoB Try.prog 100 = true := by kernel_rfl
theorem zero_100 : zeroT Try.prog 100 = some (.map none) := by kernel_rfl
theorem el_100 : El Try.prog 100 1 (.map none) 8 := El.mk' (by kernel_rfl) rfl
theorem agg_103 : aggB Try.prog 103 = false := by kernel_rfl
theorem sz_103 : szT Try.prog 103 = 1 := by kernel_rfl
theorem info_103 : infoB Try.prog 103 = true := by kernel_rfl
theorem zero_103 : zeroT Try.prog 103 = some (.pointer none) := by kernel_rfl
theorem el_103 : El Try.prog 103 1 (.pointer none) 8 := El.mk' (by kernel_rfl) rfl
theorem agg_106 : aggB Try.prog 106 = false := by kernel_rfl
theorem sz_106 : szT Try.prog 106 = 1 := by kernel_rfl
theorem info_106 : infoB Try.prog 106 = true := by kernel_rfl
theorem zero_106 : zeroT Try.prog 106 = some (.pointer none) := by kernel_rfl
theorem el_106 : El Try.prog 106 1 (.pointer none) 8 := El.mk' (by kernel_rfl) rfl
theorem agg_108 : aggB Try.prog 108 = true := by kernel_rfl
theorem sz_108 : szT Try.prog 108 = 3 := by kernel_rfl
theorem info_108 : infoB Try.prog 108 = true := by kernel_rfl
theorem zero_108 : zeroT Try.prog 108 = some (.agg #[(.slice none 0 0), (.int .i64 0), (.int .i64 0)]) := by kernel_rfl
theorem el_108 : El Try.prog 108 3 (.agg #[(.slice none 0 0), (.int .i64 0), (.int .i64 0)]) 40 := El.mk' (by kernel_rfl) rfl
theorem agg_112 : aggB Try.prog 112 = true := by kernel_rfl
theorem sz_112 : szT Try.prog 112 = 2 := by kernel_rfl
theorem info_112 : infoB Try.prog 112 = true := by kernel_rfl
theorem zero_112 : zeroT Try.prog 112 = some (.agg #[(.slice none 0 0), (.int .i64 0)]) := by kernel_rfl
theorem el_112 : El Try.prog 112 2 (.agg #[(.slice none 0 0), (.int .i64 0)]) 32 := El.mk' (by kernel_rfl) rfl
section
variable (w : World) (K : Value → World → Prop) {R : World → World → Prop}
theorem X_len_22 (a : Option Addr) (n c : Nat) : X Try.prog (Builtin.len_ #[22] 3 #[.slice a n c]) w K = K (.int .i64 (n : Int)) w := X_ok (run_len_sl Try.underlying22 _ a n c w)
theorem XP_len_22 (a : Option Addr) (n c : Nat) : XP Try.prog (Builtin.len_ #[22] 3 #[.slice a n c]) w K = K (.int .i64 (n : Int)) w := XP_ok (fun w' => run_len_sl Try.underlying22 _ a n c w')
theorem X_len_29 (a : Option Addr) (n c : Nat) : X Try.prog (Builtin.len_ #[29] 3 #[.slice a n c]) w K = K (.int .i64 (n : Int)) w := X_ok (run_len_sl Try.underlying29 _ a n c w)
theorem XP_len_29 (a : Option Addr) (n c : Nat) : XP Try.prog (Builtin.len_ #[29] 3 #[.slice a n c]) w K = K (.int .i64 (n : Int)) w := XP_ok (fun w' => run_len_sl Try.underlying29 _ a n c w')
theorem X_len_35 (a : Option Addr) (n c : Nat) : X Try.prog (Builtin.len_ #[35] 3 #[.slice a n c]) w K = K (.int .i64 (n : Int)) w := X_ok (run_len_sl Try.underlying35 _ a n c w)
theorem XP_len_35 (a : Option Addr) (n c : Nat) : XP Try.prog (Builtin.len_ #[35] 3 #[.slice a n c]) w K = K (.int .i64 (n : Int)) w := XP_ok (fun w' => run_len_sl Try.underlying35 _ a n c w')
theorem X_len_50 (a : Option Addr) (n c : Nat) : X Try.prog (Builtin.len_ #[50] 3 #[.slice a n c]) w K = K (.int .i64 (n : Int)) w := X_ok (run_len_sl Try.underlying50 _ a n c w)
theorem XP_len_50 (a : Option Addr) (n c : Nat) : XP Try.prog (Builtin.len_ #[50] 3 #[.slice a n c]) w K = K (.int .i64 (n : Int)) w := XP_ok (fun w' => run_len_sl Try.underlying50 _ a n c w')
theorem X_len_59 (a : Option Addr) (n c : Nat) : X Try.prog (Builtin.len_ #[59] 3 #[.slice a n c]) w K = K (.int .i64 (n : Int)) w := X_ok (run_len_sl Try.underlying59 _ a n c w)
theorem XP_len_59 (a : Option Addr) (n c : Nat) : XP Try.prog (Builtin.len_ #[59] 3 #[.slice a n c]) w K = K (.int .i64 (n : Int)) w := XP_ok (fun w' => run_len_sl Try.underlying59 _ a n c w')
theorem X_len_64 (a : Option Addr) (n c : Nat) : X Try.prog (Builtin.len_ #[64] 3 #[.slice a n c]) w K = K (.int .i64 (n : Int)) w := X_ok (run_len_sl Try.underlying64 _ a n c w)
theorem XP_len_64 (a : Option Addr) (n c : Nat) : XP Try.prog (Builtin.len_ #[64] 3 #[.slice a n c]) w K = K (.int .i64 (n : Int)) w := XP_ok (fun w' => run_len_sl Try.underlying64 _ a n c w')
theorem X_len_77 (a : Option Addr) (n c : Nat) : X Try.prog (Builtin.len_ #[77] 3 #[.slice a n c]) w K = K (.int .i64 (n : Int)) w := X_ok (run_len_sl Try.underlying77 _ a n c w)
theorem XP_len_77 (a : Option Addr) (n c : Nat) : XP Try.prog (Builtin.len_ #[77] 3 #[.slice a n c]) w K = K (.int .i64 (n : Int)) w := XP_ok (fun w' => run_len_sl Try.underlying77 _ a n c w')
theorem X_len_79 (a : Option Addr) (n c : Nat) : X Try.prog (Builtin.len_ #[79] 3 #[.slice a n c]) w K = K (.int .i64 (n : Int)) w := X_ok (run_len_sl Try.underlying79 _ a n c w)
theorem XP_len_79 (a : Option Addr) (n c : Nat) : XP Try.prog (Builtin.len_ #[79] 3 #[.slice a n c]) w K = K (.int .i64 (n : Int)) w := XP_ok (fun w' => run_len_sl Try.underlying79 _ a n c w')
theorem X_conv_3_30 (j : IntKind) (n : Int) : X Try.prog (convert 3 30 (.int j n)) w K = K (.int .u64 (IntKind.u64.wrap n)) w := X_ok (run_conv_int Try.underlying3 Try.underlying30 j n w)
theorem XP_conv_3_30 (j : IntKind) (n : Int) : XP Try.prog (convert 3 30 (.int j n)) w K = K (.int .u64 (IntKind.u64.wrap n)) w := XP_ok (fun w' => run_conv_int Try.underlying3 Try.underlying30 j n w')
theorem XR_conv_3_30 (j : IntKind) (n : Int) : XR Try.prog R (convert 3 30 (.int j n)) w K = K (.int .u64 (IntKind.u64.wrap n)) w := XR_eq (fun w' => run_conv_int Try.underlying3 Try.underlying30 j n w')
theorem X_conv_5_3 (j : IntKind) (n : Int) : X Try.prog (convert 5 3 (.int j n)) w K = K (.int .i64 (IntKind.i64.wrap n)) w := X_ok (run_conv_int Try.underlying5 Try.underlying3 j n w)
theorem XP_conv_5_3 (j : IntKind) (n : Int) : XP Try.prog (convert 5 3 (.int j n)) w K = K (.int .i64 (IntKind.i64.wrap n)) w := XP_ok (fun w' => run_conv_int Try.underlying5 Try.underlying3 j n w')
theorem XR_conv_5_3 (j : IntKind) (n : Int) : XR Try.prog R (convert 5 3 (.int j n)) w K = K (.int .i64 (IntKind.i64.wrap n)) w := XR_eq (fun w' => run_conv_int Try.underlying5 Try.underlying3 j n w')
theorem X_conv_5_30 (j : IntKind) (n : Int) : X Try.prog (convert 5 30 (.int j n)) w K = K (.int .u64 (IntKind.u64.wrap n)) w := X_ok (run_conv_int Try.underlying5 Try.underlying30 j n w)
theorem XP_conv_5_30 (j : IntKind) (n : Int) : XP Try.prog (convert 5 30 (.int j n)) w K = K (.int .u64 (IntKind.u64.wrap n)) w := XP_ok (fun w' => run_conv_int Try.underlying5 Try.underlying30 j n w')
theorem XR_conv_5_30 (j : IntKind) (n : Int) : XR Try.prog R (convert 5 30 (.int j n)) w K = K (.int .u64 (IntKind.u64.wrap n)) w := XR_eq (fun w' => run_conv_int Try.underlying5 Try.underlying30 j n w')
theorem X_conv_30_3 (j : IntKind) (n : Int) : X Try.prog (convert 30 3 (.int j n)) w K = K (.int .i64 (IntKind.i64.wrap n)) w := X_ok (run_conv_int Try.underlying30 Try.underlying3 j n w)
theorem XP_conv_30_3 (j : IntKind) (n : Int) : XP Try.prog (convert 30 3 (.int j n)) w K = K (.int .i64 (IntKind.i64.wrap n)) w := XP_ok (fun w' => run_conv_int Try.underlying30 Try.underlying3 j n w')
theorem XR_conv_30_3 (j : IntKind) (n : Int) : XR Try.prog R (convert 30 3 (.int j n)) w K = K (.int .i64 (IntKind.i64.wrap n)) w := XR_eq (fun w' => run_conv_int Try.underlying30 Try.underlying3 j n w')
theorem X_conv_30_5 (j : IntKind) (n : Int) : X Try.prog (convert 30 5 (.int j n)) w K = K (.int .u8 (IntKind.u8.wrap n)) w := X_ok (run_conv_int Try.underlying30 Try.underlying5 j n w)
theorem XP_conv_30_5 (j : IntKind) (n : Int) : XP Try.prog (convert 30 5 (.int j n)) w K = K (.int .u8 (IntKind.u8.wrap n)) w := XP_ok (fun w' => run_conv_int Try.underlying30 Try.underlying5 j n w')
theorem XR_conv_30_5 (j : IntKind) (n : Int) : XR Try.prog R (convert 30 5 (.int j n)) w K = K (.int .u8 (IntKind.u8.wrap n)) w := XR_eq (fun w' => run_conv_int Try.underlying30 Try.underlying5 j n w')
theorem X_conv_30_42 (j : IntKind) (n : Int) : X Try.prog (convert 30 42 (.int j n)) w K = K (.int .u32 (IntKind.u32.wrap n)) w := X_ok (run_conv_int Try.underlying30 Try.underlying42 j n w)
theorem XP_conv_30_42 (j : IntKind) (n : Int) : XP Try.prog (convert 30 42 (.int j n)) w K = K (.int .u32 (IntKind.u32.wrap n)) w := XP_ok (fun w' => run_conv_int Try.underlying30 Try.underlying42 j n w')
theorem XR_conv_30_42 (j : IntKind) (n : Int) : XR Try.prog R (convert 30 42 (.int j n)) w K = K (.int .u32 (IntKind.u32.wrap n)) w := XR_eq (fun w' => run_conv_int Try.underlying30 Try.underlying42 j n w')
theorem X_conv_42_30 (j : IntKind) (n : Int) : X Try.prog (convert 42 30 (.int j n)) w K = K (.int .u64 (IntKind.u64.wrap n)) w := X_ok (run_conv_int Try.underlying42 Try.underlying30 j n w)
theorem XP_conv_42_30 (j : IntKind) (n : Int) : XP Try.prog (convert 42 30 (.int j n)) w K = K (.int .u64 (IntKind.u64.wrap n)) w := XP_ok (fun w' => run_conv_int Try.underlying42 Try.underlying30 j n w')
theorem XR_conv_42_30 (j : IntKind) (n : Int) : XR Try.prog R (convert 42 30 (.int j n)) w K = K (.int .u64 (IntKind.u64.wrap n)) w := XR_eq (fun w' => run_conv_int Try.underlying42 Try.underlying30 j n w')
theorem X_conv_68_3 (j : IntKind) (n : Int) : X Try.prog (convert 68 3 (.int j n)) w K = K (.int .i64 (IntKind.i64.wrap n)) w := X_ok (run_conv_int Try.underlying68 Try.underlying3 j n w)
theorem XP_conv_68_3 (j : IntKind) (n : Int) : XP Try.prog (convert 68 3 (.int j n)) w K = K (.int .i64 (IntKind.i64.wrap n)) w := XP_ok (fun w' => run_conv_int Try.underlying68 Try.underlying3 j n w')
theorem XR_conv_68_3 (j : IntKind) (n : Int) : XR Try.prog R (convert 68 3 (.int j n)) w K = K (.int .i64 (IntKind.i64.wrap n)) w := XR_eq (fun w' => run_conv_int Try.underlying68 Try.underlying3 j n w')
theorem run_field_32_0 (b o : Nat) (w : World) : Sem.run Try.prog (Instr.fieldAt 32 (.pointer (some ⟨b, o, none⟩)) 0) w = .ok (.pointer (some ⟨b, o, none⟩)) w := by kernel_rfl
theorem X_field_32_0 (b o : Nat) : X Try.prog (Instr.fieldAt 32 (.pointer (some ⟨b, o, none⟩)) 0) w K = K (.pointer (some ⟨b, o, none⟩)) w := X_ok (run_field_32_0 b o w)
theorem XP_field_32_0 (b o : Nat) : XP Try.prog (Instr.fieldAt 32 (.pointer (some ⟨b, o, none⟩)) 0) w K = K (.pointer (some ⟨b, o, none⟩)) w := XP_ok (fun w' => run_field_32_0 b o w')
theorem run_field_32_1 (b o : Nat) (w : World) : Sem.run Try.prog (Instr.fieldAt 32 (.pointer (some ⟨b, o, none⟩)) 1) w = .ok (.pointer (some ⟨b, o + 1, none⟩)) w := by kernel_rfl
theorem X_field_32_1 (b o : Nat) : X Try.prog (Instr.fieldAt 32 (.pointer (some ⟨b, o, none⟩)) 1) w K = K (.pointer (some ⟨b, o + 1, none⟩)) w := X_ok (run_field_32_1 b o w)
theorem XP_field_32_1 (b o : Nat) : XP Try.prog (Instr.fieldAt 32 (.pointer (some ⟨b, o, none⟩)) 1) w K = K (.pointer (some ⟨b, o + 1, none⟩)) w := XP_ok (fun w' => run_field_32_1 b o w')
theorem run_field_32_2 (b o : Nat) (w : World) : Sem.run Try.prog (Instr.fieldAt 32 (.pointer (some ⟨b, o, none⟩)) 2) w = .ok (.pointer (some ⟨b, o + 2, none⟩)) w := by kernel_rfl
theorem X_field_32_2 (b o : Nat) : X Try.prog (Instr.fieldAt 32 (.pointer (some ⟨b, o, none⟩)) 2) w K = K (.pointer (some ⟨b, o + 2, none⟩)) w := X_ok (run_field_32_2 b o w)
theorem XP_field_32_2 (b o : Nat) : XP Try.prog (Instr.fieldAt 32 (.pointer (some ⟨b, o, none⟩)) 2) w K = K (.pointer (some ⟨b, o + 2, none⟩)) w := XP_ok (fun w' => run_field_32_2 b o w')
theorem run_field_32_3 (b o : Nat) (w : World) : Sem.run Try.prog (Instr.fieldAt 32 (.pointer (some ⟨b, o, none⟩)) 3) w = .ok (.pointer (some ⟨b, o + 3, none⟩)) w := by kernel_rfl
theorem X_field_32_3 (b o : Nat) : X Try.prog (Instr.fieldAt 32 (.pointer (some ⟨b, o, none⟩)) 3) w K = K (.pointer (some ⟨b, o + 3, none⟩)) w := X_ok (run_field_32_3 b o w)
theorem XP_field_32_3 (b o : Nat) : XP Try.prog (Instr.fieldAt 32 (.pointer (some ⟨b, o, none⟩)) 3) w K = K (.pointer (some ⟨b, o + 3, none⟩)) w := XP_ok (fun w' => run_field_32_3 b o w')
theorem run_field_44_0 (b o : Nat) (w : World) : Sem.run Try.prog (Instr.fieldAt 44 (.pointer (some ⟨b, o, none⟩)) 0) w = .ok (.pointer (some ⟨b, o, none⟩)) w := by kernel_rfl
theorem X_field_44_0 (b o : Nat) : X Try.prog (Instr.fieldAt 44 (.pointer (some ⟨b, o, none⟩)) 0) w K = K (.pointer (some ⟨b, o, none⟩)) w := X_ok (run_field_44_0 b o w)
theorem XP_field_44_0 (b o : Nat) : XP Try.prog (Instr.fieldAt 44 (.pointer (some ⟨b, o, none⟩)) 0) w K = K (.pointer (some ⟨b, o, none⟩)) w := XP_ok (fun w' => run_field_44_0 b o w')
theorem run_field_44_1 (b o : Nat) (w : World) : Sem.run Try.prog (Instr.fieldAt 44 (.pointer (some ⟨b, o, none⟩)) 1) w = .ok (.pointer (some ⟨b, o + 32, none⟩)) w := by kernel_rfl
theorem X_field_44_1 (b o : Nat) : X Try.prog (Instr.fieldAt 44 (.pointer (some ⟨b, o, none⟩)) 1) w K = K (.pointer (some ⟨b, o + 32, none⟩)) w := X_ok (run_field_44_1 b o w)
theorem XP_field_44_1 (b o : Nat) : XP Try.prog (Instr.fieldAt 44 (.pointer (some ⟨b, o, none⟩)) 1) w K = K (.pointer (some ⟨b, o + 32, none⟩)) w := XP_ok (fun w' => run_field_44_1 b o w')
theorem run_field_46_0 (b o : Nat) (w : World) : Sem.run Try.prog (Instr.fieldAt 46 (.pointer (some ⟨b, o, none⟩)) 0) w = .ok (.pointer (some ⟨b, o, none⟩)) w := by kernel_rfl
theorem X_field_46_0 (b o : Nat) : X Try.prog (Instr.fieldAt 46 (.pointer (some ⟨b, o, none⟩)) 0) w K = K (.pointer (some ⟨b, o, none⟩)) w := X_ok (run_field_46_0 b o w)
theorem XP_field_46_0 (b o : Nat) : XP Try.prog (Instr.fieldAt 46 (.pointer (some ⟨b, o, none⟩)) 0) w K = K (.pointer (some ⟨b, o, none⟩)) w := XP_ok (fun w' => run_field_46_0 b o w')
theorem run_field_48_0 (b o : Nat) (w : World) : Sem.run Try.prog (Instr.fieldAt 48 (.pointer (some ⟨b, o, none⟩)) 0) w = .ok (.pointer (some ⟨b, o, none⟩)) w := by kernel_rfl
theorem X_field_48_0 (b o : Nat) : X Try.prog (Instr.fieldAt 48 (.pointer (some ⟨b, o, none⟩)) 0) w K = K (.pointer (some ⟨b, o, none⟩)) w := X_ok (run_field_48_0 b o w)
theorem XP_field_48_0 (b o : Nat) : XP Try.prog (Instr.fieldAt 48 (.pointer (some ⟨b, o, none⟩)) 0) w K = K (.pointer (some ⟨b, o, none⟩)) w := XP_ok (fun w' => run_field_48_0 b o w')
theorem run_field_48_1 (b o : Nat) (w : World) : Sem.run Try.prog (Instr.fieldAt 48 (.pointer (some ⟨b, o, none⟩)) 1) w = .ok (.pointer (some ⟨b, o + 33, none⟩)) w := by kernel_rfl
theorem X_field_48_1 (b o : Nat) : X Try.prog (Instr.fieldAt 48 (.pointer (some ⟨b, o, none⟩)) 1) w K = K (.pointer (some ⟨b, o + 33, none⟩)) w := X_ok (run_field_48_1 b o w)
theorem XP_field_48_1 (b o : Nat) : XP Try.prog (Instr.fieldAt 48 (.pointer (some ⟨b, o, none⟩)) 1) w K = K (.pointer (some ⟨b, o + 33, none⟩)) w := XP_ok (fun w' => run_field_48_1 b o w')
theorem run_field_52_0 (b o : Nat) (w : World) : Sem.run Try.prog (Instr.fieldAt 52 (.pointer (some ⟨b, o, none⟩)) 0) w = .ok (.pointer (some ⟨b, o, none⟩)) w := by kernel_rfl
theorem X_field_52_0 (b o : Nat) : X Try.prog (Instr.fieldAt 52 (.pointer (some ⟨b, o, none⟩)) 0) w K = K (.pointer (some ⟨b, o, none⟩)) w := X_ok (run_field_52_0 b o w)
theorem XP_field_52_0 (b o : Nat) : XP Try.prog (Instr.fieldAt 52 (.pointer (some ⟨b, o, none⟩)) 0) w K = K (.pointer (some ⟨b, o, none⟩)) w := XP_ok (fun w' => run_field_52_0 b o w')
theorem run_field_52_1 (b o : Nat) (w : World) : Sem.run Try.prog (Instr.fieldAt 52 (.pointer (some ⟨b, o, none⟩)) 1) w = .ok (.pointer (some ⟨b, o + 1, none⟩)) w := by kernel_rfl
theorem X_field_52_1 (b o : Nat) : X Try.prog (Instr.fieldAt 52 (.pointer (some ⟨b, o, none⟩)) 1) w K = K (.pointer (some ⟨b, o + 1, none⟩)) w := X_ok (run_field_52_1 b o w)
theorem XP_field_52_1 (b o : Nat) : XP Try.prog (Instr.fieldAt 52 (.pointer (some ⟨b, o, none⟩)) 1) w K = K (.pointer (some ⟨b, o + 1, none⟩)) w := XP_ok (fun w' => run_field_52_1 b o w')
theorem run_field_72_0 (b o : Nat) (w : World) : Sem.run Try.prog (Instr.fieldAt 72 (.pointer (some ⟨b, o, none⟩)) 0) w = .ok (.pointer (some ⟨b, o, none⟩)) w := by kernel_rfl
theorem X_field_72_0 (b o : Nat) : X Try.prog (Instr.fieldAt 72 (.pointer (some ⟨b, o, none⟩)) 0) w K = K (.pointer (some ⟨b, o, none⟩)) w := X_ok (run_field_72_0 b o w)
theorem XP_field_72_0 (b o : Nat) : XP Try.prog (Instr.fieldAt 72 (.pointer (some ⟨b, o, none⟩)) 0) w K = K (.pointer (some ⟨b, o, none⟩)) w := XP_ok (fun w' => run_field_72_0 b o w')
theorem run_field_72_1 (b o : Nat) (w : World) : Sem.run Try.prog (Instr.fieldAt 72 (.pointer (some ⟨b, o, none⟩)) 1) w = .ok (.pointer (some ⟨b, o + 33, none⟩)) w := by kernel_rfl
theorem X_field_72_1 (b o : Nat) : X Try.prog (Instr.fieldAt 72 (.pointer (some ⟨b, o, none⟩)) 1) w K = K (.pointer (some ⟨b, o + 33, none⟩)) w := X_ok (run_field_72_1 b o w)
theorem XP_field_72_1 (b o : Nat) : XP Try.prog (Instr.fieldAt 72 (.pointer (some ⟨b, o, none⟩)) 1) w K = K (.pointer (some ⟨b, o + 33, none⟩)) w := XP_ok (fun w' => run_field_72_1 b o w')
theorem run_field_72_2 (b o : Nat) (w : World) : Sem.run Try.prog (Instr.fieldAt 72 (.pointer (some ⟨b, o, none⟩)) 2) w = .ok (.pointer (some ⟨b, o + 34, none⟩)) w := by kernel_rfl
theorem X_field_72_2 (b o : Nat) : X Try.prog (Instr.fieldAt 72 (.pointer (some ⟨b, o, none⟩)) 2) w K = K (.pointer (some ⟨b, o + 34, none⟩)) w := X_ok (run_field_72_2 b o w)
theorem XP_field_72_2 (b o : Nat) : XP Try.prog (Instr.fieldAt 72 (.pointer (some ⟨b, o, none⟩)) 2) w K = K (.pointer (some ⟨b, o + 34, none⟩)) w := XP_ok (fun w' => run_field_72_2 b o w')
theorem run_field_87_0 (b o : Nat) (w : World) : Sem.run Try.prog (Instr.fieldAt 87 (.pointer (some ⟨b, o, none⟩)) 0) w = .ok (.pointer (some ⟨b, o, none⟩)) w := by kernel_rfl
theorem X_field_87_0 (b o : Nat) : X Try.prog (Instr.fieldAt 87 (.pointer (some ⟨b, o, none⟩)) 0) w K = K (.pointer (some ⟨b, o, none⟩)) w := X_ok (run_field_87_0 b o w)
theorem XP_field_87_0 (b o : Nat) : XP Try.prog (Instr.fieldAt 87 (.pointer (some ⟨b, o, none⟩)) 0) w K = K (.pointer (some ⟨b, o, none⟩)) w := XP_ok (fun w' => run_field_87_0 b o w')
theorem run_field_87_1 (b o : Nat) (w : World) : Sem.run Try.prog (Instr.fieldAt 87 (.pointer (some ⟨b, o, none⟩)) 1) w = .ok (.pointer (some ⟨b, o + 1, none⟩)) w := by kernel_rfl
theorem X_field_87_1 (b o : Nat) : X Try.prog (Instr.fieldAt 87 (.pointer (some ⟨b, o, none⟩)) 1) w K = K (.pointer (some ⟨b, o + 1, none⟩)) w := X_ok (run_field_87_1 b o w)
theorem XP_field_87_1 (b o : Nat) : XP Try.prog (Instr.fieldAt 87 (.pointer (some ⟨b, o, none⟩)) 1) w K = K (.pointer (some ⟨b, o + 1, none⟩)) w := XP_ok (fun w' => run_field_87_1 b o w')
theorem run_field_87_2 (b o : Nat) (w : World) : Sem.run Try.prog (Instr.fieldAt 87 (.pointer (some ⟨b, o, none⟩)) 2) w = .ok (.pointer (some ⟨b, o + 2, none⟩)) w := by kernel_rfl
theorem X_field_87_2 (b o : Nat) : X Try.prog (Instr.fieldAt 87 (.pointer (some ⟨b, o, none⟩)) 2) w K = K (.pointer (some ⟨b, o + 2, none⟩)) w := X_ok (run_field_87_2 b o w)
theorem XP_field_87_2 (b o : Nat) : XP Try.prog (Instr.fieldAt 87 (.pointer (some ⟨b, o, none⟩)) 2) w K = K (.pointer (some ⟨b, o + 2, none⟩)) w := XP_ok (fun w' => run_field_87_2 b o w')
theorem run_field_96_0 (b o : Nat) (w : World) : Sem.run Try.prog (Instr.fieldAt 96 (.pointer (some ⟨b, o, none⟩)) 0) w = .ok (.pointer (some ⟨b, o, none⟩)) w := by kernel_rfl
theorem X_field_96_0 (b o : Nat) : X Try.prog (Instr.fieldAt 96 (.pointer (some ⟨b, o, none⟩)) 0) w K = K (.pointer (some ⟨b, o, none⟩)) w := X_ok (run_field_96_0 b o w)
theorem XP_field_96_0 (b o : Nat) : XP Try.prog (Instr.fieldAt 96 (.pointer (some ⟨b, o, none⟩)) 0) w K = K (.pointer (some ⟨b, o, none⟩)) w := XP_ok (fun w' => run_field_96_0 b o w')
theorem run_field_96_1 (b o : Nat) (w : World) : Sem.run Try.prog (Instr.fieldAt 96 (.pointer (some ⟨b, o, none⟩)) 1) w = .ok (.pointer (some ⟨b, o + 1, none⟩)) w := by kernel_rfl
theorem X_field_96_1 (b o : Nat) : X Try.prog (Instr.fieldAt 96 (.pointer (some ⟨b, o, none⟩)) 1) w K = K (.pointer (some ⟨b, o + 1, none⟩)) w := X_ok (run_field_96_1 b o w)
theorem XP_field_96_1 (b o : Nat) : XP Try.prog (Instr.fieldAt 96 (.pointer (some ⟨b, o, none⟩)) 1) w K = K (.pointer (some ⟨b, o + 1, none⟩)) w := XP_ok (fun w' => run_field_96_1 b o w')
theorem run_field_108_0 (b o : Nat) (w : World) : Sem.run Try.prog (Instr.fieldAt 108 (.pointer (some ⟨b, o, none⟩)) 0) w = .ok (.pointer (some ⟨b, o, none⟩)) w := by kernel_rfl
theorem X_field_108_0 (b o : Nat) : X Try.prog (Instr.fieldAt 108 (.pointer (some ⟨b, o, none⟩)) 0) w K = K (.pointer (some ⟨b, o, none⟩)) w := X_ok (run_field_108_0 b o w)
theorem XP_field_108_0 (b o : Nat) : XP Try.prog (Instr.fieldAt 108 (.pointer (some ⟨b, o, none⟩)) 0) w K = K (.pointer (some ⟨b, o, none⟩)) w := XP_ok (fun w' => run_field_108_0 b o w')
theorem run_field_108_1 (b o : Nat) (w : World) : Sem.run Try.prog (Instr.fieldAt 108 (.pointer (some ⟨b, o, none⟩)) 1) w = .ok (.pointer (some ⟨b, o + 1, none⟩)) w := by kernel_rfl
theorem X_field_108_1 (b o : Nat) : X Try.prog (Instr.fieldAt 108 (.pointer (some ⟨b, o, none⟩)) 1) w K = K (.pointer (some ⟨b, o + 1, none⟩)) w := X_ok (run_field_108_1 b o w)
theorem XP_field_108_1 (b o : Nat) : XP Try.prog (Instr.fieldAt 108 (.pointer (some ⟨b, o, none⟩)) 1) w K = K (.pointer (some ⟨b, o + 1, none⟩)) w := XP_ok (fun w' => run_field_108_1 b o w')
theorem run_field_108_2 (b o : Nat) (w : World) : Sem.run Try.prog (Instr.fieldAt 108 (.pointer (some ⟨b, o, none⟩)) 2) w = .ok (.pointer (some ⟨b, o + 2, none⟩)) w := by kernel_rfl
theorem X_field_108_2 (b o : Nat) : X Try.prog (Instr.fieldAt 108 (.pointer (some ⟨b, o, none⟩)) 2) w K = K (.pointer (some ⟨b, o + 2, none⟩)) w := X_ok (run_field_108_2 b o w)
theorem XP_field_108_2 (b o : Nat) : XP Try.prog (Instr.fieldAt 108 (.pointer (some ⟨b, o, none⟩)) 2) w K = K (.pointer (some ⟨b, o + 2, none⟩)) w := XP_ok (fun w' => run_field_108_2 b o w')
theorem run_field_112_0 (b o : Nat) (w : World) : Sem.run Try.prog (Instr.fieldAt 112 (.pointer (some ⟨b, o, none⟩)) 0) w = .ok (.pointer (some ⟨b, o, none⟩)) w := by kernel_rfl
theorem X_field_112_0 (b o : Nat) : X Try.prog (Instr.fieldAt 112 (.pointer (some ⟨b, o, none⟩)) 0) w K = K (.pointer (some ⟨b, o, none⟩)) w := X_ok (run_field_112_0 b o w)
theorem XP_field_112_0 (b o : Nat) : XP Try.prog (Instr.fieldAt 112 (.pointer (some ⟨b, o, none⟩)) 0) w K = K (.pointer (some ⟨b, o, none⟩)) w := XP_ok (fun w' => run_field_112_0 b o w')
theorem run_field_112_1 (b o : Nat) (w : World) : Sem.run Try.prog (Instr.fieldAt 112 (.pointer (some ⟨b, o, none⟩)) 1) w = .ok (.pointer (some ⟨b, o + 1, none⟩)) w := by kernel_rfl
theorem X_field_112_1 (b o : Nat) : X Try.prog (Instr.fieldAt 112 (.pointer (some ⟨b, o, none⟩)) 1) w K = K (.pointer (some ⟨b, o + 1, none⟩)) w := X_ok (run_field_112_1 b o w)
theorem XP_field_112_1 (b o : Nat) : XP Try.prog (Instr.fieldAt 112 (.pointer (some ⟨b, o, none⟩)) 1) w K = K (.pointer (some ⟨b, o + 1, none⟩)) w := XP_ok (fun w' => run_field_112_1 b o w')
theorem X_eql_nil_24 (a b : Operand) (p : Option Addr) : X Try.prog (binOpG .eql 24 a b (.pointer p) (.pointer none)) w K = K (.bool p.isNone) w := X_ok (run_eql_nil Try.underlying24 a b p w)
theorem XP_eql_nil_24 (a b : Operand) (p : Option Addr) : XP Try.prog (binOpG .eql 24 a b (.pointer p) (.pointer none)) w K = K (.bool p.isNone) w := XP_ok (fun w' => run_eql_nil Try.underlying24 a b p w')
theorem X_neq_nil_24 (a b : Operand) (p : Option Addr) : X Try.prog (binOpG .neq 24 a b (.pointer p) (.pointer none)) w K = K (.bool p.isSome) w := X_ok (run_neq_nil Try.underlying24 a b p w)
theorem XP_neq_nil_24 (a b : Operand) (p : Option Addr) : XP Try.prog (binOpG .neq 24 a b (.pointer p) (.pointer none)) w K = K (.bool p.isSome) w := XP_ok (fun w' => run_neq_nil Try.underlying24 a b p w')
theorem X_eql_nil_103 (a b : Operand) (p : Option Addr) : X Try.prog (binOpG .eql 103 a b (.pointer p) (.pointer none)) w K = K (.bool p.isNone) w := X_ok (run_eql_nil Try.underlying103 a b p w)
theorem XP_eql_nil_103 (a b : Operand) (p : Option Addr) : XP Try.prog (binOpG .eql 103 a b (.pointer p) (.pointer none)) w K = K (.bool p.isNone) w := XP_ok (fun w' => run_eql_nil Try.underlying103 a b p w')
theorem X_neq_nil_103 (a b : Operand) (p : Option Addr) : X Try.prog (binOpG .neq 103 a b (.pointer p) (.pointer none)) w K = K (.bool p.isSome) w := X_ok (run_neq_nil Try.underlying103 a b p w)
theorem XP_neq_nil_103 (a b : Operand) (p : Option Addr) : XP Try.prog (binOpG .neq 103 a b (.pointer p) (.pointer none)) w K = K (.bool p.isSome) w := XP_ok (fun w' => run_neq_nil Try.underlying103 a b p w')
theorem X_eql_bool_4 (a b : Operand) (x y : Bool) : X Try.prog (binOpG .eql 4 a b (.bool x) (.bool y)) w K = K (.bool (x == y)) w := X_ok (Go.Sh.run_eql_bool Try.underlying4 a b x y w)
theorem XP_eql_bool_4 (a b : Operand) (x y : Bool) : XP Try.prog (binOpG .eql 4 a b (.bool x) (.bool y)) w K = K (.bool (x == y)) w := XP_ok (fun w' => Go.Sh.run_eql_bool Try.underlying4 a b x y w')
theorem X_neq_bool_4 (a b : Operand) (x y : Bool) : X Try.prog (binOpG .neq 4 a b (.bool x) (.bool y)) w K = K (.bool (x != y)) w := X_ok (Go.Sh.run_neq_bool Try.underlying4 a b x y w)
theorem XP_neq_bool_4 (a b : Operand) (x y : Bool) : XP Try.prog (binOpG .neq 4 a b (.bool x) (.bool y)) w K = K (.bool (x != y)) w := XP_ok (fun w' => Go.Sh.run_neq_bool Try.underlying4 a b x y w')
end
set_option linter.defProp false in
/-- The rules, in one. -/
def ST := And.intro (And.intro (And.intro (And.intro (And.intro (And.intro (And.intro (@agg_3) (And.intro (@sz_3) (@info_3))) (And.intro (And.intro (@agg_4) (@sz_4)) (And.intro (@info_4) (@agg_5)))) (And.intro (And.intro (@sz_5) (And.intro (@info_5) (@agg_9))) (And.intro (And.intro (@sz_9) (@info_9)) (And.intro (@agg_22) (@sz_22))))) (And.intro (And.intro (And.intro (@info_22) (And.intro (@agg_24) (@sz_24))) (And.intro (And.intro (@info_24) (@agg_25)) (And.intro (@sz_25) (@info_25)))) (And.intro (And.intro (@agg_26) (And.intro (@sz_26) (@info_26))) (And.intro (And.intro (@agg_29) (@sz_29)) (And.intro (@info_29) (@agg_30)))))) (And.intro (And.intro (And.intro (And.intro (@sz_30) (And.intro (@info_30) (@agg_32))) (And.intro (And.intro (@sz_32) (@info_32)) (And.intro (@agg_35) (@sz_35)))) (And.intro (And.intro (@info_35) (And.intro (@agg_41) (@sz_41))) (And.intro (And.intro (@info_41) (@agg_42)) (And.intro (@sz_42) (@info_42))))) (And.intro (And.intro (And.intro (@agg_44) (And.intro (@sz_44) (@info_44))) (And.intro (And.intro (@agg_46) (@sz_46)) (And.intro (@info_46) (@agg_48)))) (And.intro (And.intro (And.intro (@sz_48) (@info_48)) (And.intro (@agg_49) (@sz_49))) (And.intro (And.intro (@info_49) (@agg_50)) (And.intro (@sz_50) (@info_50))))))) (And.intro (And.intro (And.intro (And.intro (And.intro (@agg_52) (And.intro (@sz_52) (@info_52))) (And.intro (And.intro (@agg_53) (@sz_53)) (And.intro (@info_53) (@agg_56)))) (And.intro (And.intro (@sz_56) (And.intro (@info_56) (@agg_59))) (And.intro (And.intro (@sz_59) (@info_59)) (And.intro (@agg_64) (@sz_64))))) (And.intro (And.intro (And.intro (@info_64) (And.intro (@agg_68) (@sz_68))) (And.intro (And.intro (@info_68) (@agg_72)) (And.intro (@sz_72) (@info_72)))) (And.intro (And.intro (@agg_74) (And.intro (@sz_74) (@info_74))) (And.intro (And.intro (@agg_77) (@sz_77)) (And.intro (@info_77) (@agg_79)))))) (And.intro (And.intro (And.intro (And.intro (@sz_79) (And.intro (@info_79) (@agg_80))) (And.intro (And.intro (@sz_80) (@info_80)) (And.intro (@agg_82) (@sz_82)))) (And.intro (And.intro (@info_82) (And.intro (@agg_85) (@sz_85))) (And.intro (And.intro (@info_85) (@agg_87)) (And.intro (@sz_87) (@info_87))))) (And.intro (And.intro (And.intro (@agg_88) (And.intro (@sz_88) (@info_88))) (And.intro (And.intro (@agg_89) (@sz_89)) (And.intro (@info_89) (@agg_96)))) (And.intro (And.intro (And.intro (@sz_96) (@info_96)) (And.intro (@agg_97) (@sz_97))) (And.intro (And.intro (@info_97) (@agg_99)) (And.intro (@sz_99) (@info_99)))))))) (And.intro (And.intro (And.intro (And.intro (And.intro (And.intro (@agg_100) (And.intro (@sz_100) (@info_100))) (And.intro (And.intro (@agg_103) (@sz_103)) (And.intro (@info_103) (@agg_106)))) (And.intro (And.intro (@sz_106) (And.intro (@info_106) (@agg_108))) (And.intro (And.intro (@sz_108) (@info_108)) (And.intro (@agg_112) (@sz_112))))) (And.intro (And.intro (And.intro (@info_112) (And.intro (@X_len_22) (@XP_len_22))) (And.intro (And.intro (@X_len_29) (@XP_len_29)) (And.intro (@X_len_35) (@XP_len_35)))) (And.intro (And.intro (@X_len_50) (And.intro (@XP_len_50) (@X_len_59))) (And.intro (And.intro (@XP_len_59) (@X_len_64)) (And.intro (@XP_len_64) (@X_len_77)))))) (And.intro (And.intro (And.intro (And.intro (@XP_len_77) (And.intro (@X_len_79) (@XP_len_79))) (And.intro (And.intro (@X_conv_3_30) (@XP_conv_3_30)) (And.intro (@XR_conv_3_30) (@X_conv_5_3)))) (And.intro (And.intro (@XP_conv_5_3) (And.intro (@XR_conv_5_3) (@X_conv_5_30))) (And.intro (And.intro (@XP_conv_5_30) (@XR_conv_5_30)) (And.intro (@X_conv_30_3) (@XP_conv_30_3))))) (And.intro (And.intro (And.intro (@XR_conv_30_3) (And.intro (@X_conv_30_5) (@XP_conv_30_5))) (And.intro (And.intro (@XR_conv_30_5) (@X_conv_30_42)) (And.intro (@XP_conv_30_42) (@XR_conv_30_42)))) (And.intro (And.intro (And.intro (@X_conv_42_30) (@XP_conv_42_30)) (And.intro (@XR_conv_42_30) (@X_conv_68_3))) (And.intro (And.intro (@XP_conv_68_3) (@XR_conv_68_3)) (And.intro (@X_field_32_0) (@XP_field_32_0))))))) (And.intro (And.intro (And.intro (And.intro (And.intro (@X_field_32_1) (And.intro (@XP_field_32_1) (@X_field_32_2))) (And.intro (And.intro (@XP_field_32_2) (@X_field_32_3)) (And.intro (@XP_field_32_3) (@X_field_44_0)))) (And.intro (And.intro (@XP_field_44_0) (And.intro (@X_field_44_1) (@XP_field_44_1))) (And.intro (And.intro (@X_field_46_0) (@XP_field_46_0)) (And.intro (@X_field_48_0) (@XP_field_48_0))))) (And.intro (And.intro (And.intro (@X_field_48_1) (And.intro (@XP_field_48_1) (@X_field_52_0))) (And.intro (And.intro (@XP_field_52_0) (@X_field_52_1)) (And.intro (@XP_field_52_1) (@X_field_72_0)))) (And.intro (And.intro (And.intro (@XP_field_72_0) (@X_field_72_1)) (And.intro (@XP_field_72_1) (@X_field_72_2))) (And.intro (And.intro (@XP_field_72_2) (@X_field_87_0)) (And.intro (@XP_field_87_0) (@X_field_87_1)))))) (And.intro (And.intro (And.intro (And.intro (@XP_field_87_1) (And.intro (@X_field_87_2) (@XP_field_87_2))) (And.intro (And.intro (@X_field_96_0) (@XP_field_96_0)) (And.intro (@X_field_96_1) (@XP_field_96_1)))) (And.intro (And.intro (@X_field_108_0) (And.intro (@XP_field_108_0) (@X_field_108_1))) (And.intro (And.intro (@XP_field_108_1) (@X_field_108_2)) (And.intro (@XP_field_108_2) (@X_field_112_0))))) (And.intro (And.intro (And.intro (@XP_field_112_0) (And.intro (@X_field_112_1) (@XP_field_112_1))) (And.intro (And.intro (@X_eql_nil_24) (@XP_eql_nil_24)) (And.intro (@X_neq_nil_24) (@XP_neq_nil_24)))) (And.intro (And.intro (And.intro (@X_eql_nil_103) (@XP_eql_nil_103)) (And.intro (@X_neq_nil_103) (@XP_neq_nil_103))) (And.intro (And.intro (@X_eql_bool_4) (@XP_eql_bool_4)) (And.intro (@X_neq_bool_4) (@XP_neq_bool_4))))))))
end Go.Proofs.Ytlnkdphecinnnaa
end
