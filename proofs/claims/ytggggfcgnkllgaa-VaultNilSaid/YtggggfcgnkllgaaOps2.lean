/- More operations' laws: strings of bytes, bits, structs and arrays in memory. -/
import Derived.Test.YtggggfcgnkllgaaOpsX
import Derived.Lib.AppendStr
import Derived.Laws.Strings
set_option linter.unusedSimpArgs false
set_option linter.unusedVariables false
namespace Go.Sh
open Go Go.RowKit

/-- A string of these bytes. -/
def str (bs : List UInt8) : ByteArray := ⟨bs.toArray⟩
theorem str_toList (bs : List UInt8) : (str bs).toList = bs := ByteArray.toList_mk bs
theorem l8_beq (x y : List UInt8) : (x == y) = decide (x = y) := by rw [Bool.eq_iff_iff]; simp
theorem l8_bne (x y : List UInt8) : (x != y) = decide (x ≠ y) := by rw [Bool.eq_iff_iff]; simp
theorem str_size (bs : List UInt8) : (str bs).size = bs.length := by simp [str, ByteArray.size]
theorem str_of (s : ByteArray) : s = str s.data.toList := by simp [str]
theorem strCells_str (bs : List UInt8) : Lib.strCells (str bs) = B8 bs := by simp [Lib.strCells, str, B8]

theorem wrap_u64 (n : Int) : IntKind.u64.wrap n = n % 18446744073709551616 := by simp [IntKind.wrap, IntKind.bits, IntKind.signed]
theorem wrap_u32 (n : Int) : IntKind.u32.wrap n = n % 4294967296 := by simp [IntKind.wrap, IntKind.bits, IntKind.signed]
theorem wrap_u8 (n : Int) : IntKind.u8.wrap n = n % 256 := by simp [IntKind.wrap, IntKind.bits, IntKind.signed]

section
variable {P : Program}

theorem X_loadL {t : TypeId} {b o : Nat} {l : List Value} {T : TypeId} {fr : Nat × Nat} {v : Value} {w : World} {K : Value → World → Prop} (ht : aggB P t = false)
    (hb : w.heap[b]? = some (.cells l.toArray T fr)) (hv : l[o]? = some v) (h : K v w) : X P (Instr.loadAt t (.pointer (some ⟨b, o, none⟩))) w K :=
  X_loadB ht hb (by simpa using hv) h
/-- A cell of a block that R keeps. -/
theorem XR_loadL {t : TypeId} {b o : Nat} {l : List Value} {T : TypeId} {fr : Nat × Nat} {v : Value} {w : World} {K : Value → World → Prop} (ht : aggB P t = false)
    (hb : w.heap[b]? = some (.cells l.toArray T fr)) (hv : l[o]? = some v) (h : K v w) : XR P Ext (Instr.loadAt t (.pointer (some ⟨b, o, none⟩))) w K :=
  XR_ok Ext.frame (fun w' k => run_loadAt ht ((cell_blk (k.get hb)).trans (by simpa using hv))) h
theorem own_mono {w : World} {base base' : Nat} {e : TypeId} {size : Nat} {v : Value} {n : Nat} {xs : List Value} (h : w.ownsRow base e size v n xs) (hb : base' ≤ base) : w.ownsRow base' e size v n xs :=
  ⟨h.1, h.2.imp id fun ⟨g, cap, cur, he, hg, rest⟩ => ⟨g, cap, cur, he, Nat.le_trans hb hg, rest⟩⟩
theorem XR_of_all {R : World → World → Prop} {s : Sem Value} {w : World} {v : Value} {K : Value → World → Prop} (h : ∀ w', s.run P w' = .ok v w') (hK : K v w) : XR P R s w K := by
  rw [XR_eq h]; exact hK
theorem run_str {src dst e : TypeId} (hs : P.underlying src = some (.slice e)) (he : P.underlying e = some (.int .u8)) (hd : P.underlying dst = some .string) {v : Value} {bs : List UInt8} {w : World} (hb : Bts w v bs) :
    (convert src dst v).run P w = .ok (.string (str bs)) w := by
  obtain ⟨a, c, rfl, h1, h2, h3⟩ := hb
  rw [run_convert_bytes_string w src dst e _ _ c hs he hd]
  by_cases h0 : 0 < bs.length
  · obtain ⟨ad, rfl, hc⟩ := h3 h0
    have hl : (loadCells ad bs.length).run P w = .ok ((bs.map fun u => (u.toNat : Int)).map (Value.int .u8)).toArray w := by
      have := run_loadCells_list (P := P) w ad ((bs.map fun u => (u.toNat : Int)).map (Value.int .u8)) (fun j v hj => by
        simp only [List.map_map, List.getElem?_map] at hj
        obtain ⟨u, hu, rfl⟩ := Option.map_eq_some_iff.1 hj
        exact hc j u hu)
      simpa using this
    rw [run_bytesToString w _ _ c _ hl, foldl_push_bytes]
    congr 2
    simp [str, List.map_map, Function.comp_def, ByteArray.empty, ByteArray.emptyWithCapacity]
    rfl
  · have : bs = [] := List.eq_nil_of_length_eq_zero (by omega)
    subst this
    cases a with
    | none => simp [Conv.bytesToString, str]; rfl
    | some ad => simp [Conv.bytesToString, loadCells, loadCellsFrom, str]; rfl
theorem X_str {src dst e : TypeId} (hs : P.underlying src = some (.slice e)) (he : P.underlying e = some (.int .u8)) (hd : P.underlying dst = some .string) {v : Value} {bs : List UInt8} {w : World} {K : Value → World → Prop} (hb : Bts w v bs)
    (h : K (.string (str bs)) w) : X P (convert src dst v) w K := X_of (run_str hs he hd hb) h
theorem XR_str {src dst e : TypeId} (hs : P.underlying src = some (.slice e)) (he : P.underlying e = some (.int .u8)) (hd : P.underlying dst = some .string) {v : Value} {bs : List UInt8} {w : World} {K : Value → World → Prop} (hb : Bts w v bs)
    (h : K (.string (str bs)) w) : XR P Ext (convert src dst v) w K := XR_ok Ext.frame (fun w' k => run_str hs he hd (hb.ext k)) h
theorem X_eq_str (T : TypeId) (a b : Operand) (x y : List UInt8) (w : World) (K : Value → World → Prop) : X P (binOpG .eql T a b (.string (str x)) (.string (str y))) w K = K (.bool (decide (x = y))) w := by
  rw [X_ok (run_string_eql T a b _ _ w), str_toList, str_toList]
  have : (x == y) = decide (x = y) := by rw [Bool.eq_iff_iff]; simp
  rw [this]
theorem XP_eq_str (T : TypeId) (a b : Operand) (x y : List UInt8) (w : World) (K : Value → World → Prop) : XP P (binOpG .eql T a b (.string (str x)) (.string (str y))) w K = K (.bool (decide (x = y))) w := by
  rw [XP_ok (fun w => run_string_eql T a b _ _ w), str_toList, str_toList]
  have : (x == y) = decide (x = y) := by rw [Bool.eq_iff_iff]; simp
  rw [this]
theorem X_ne_str (T : TypeId) (a b : Operand) (x y : List UInt8) (w : World) (K : Value → World → Prop) : X P (binOpG .neq T a b (.string (str x)) (.string (str y))) w K = K (.bool (decide (x ≠ y))) w := by
  rw [X_ok (run_string_neq T a b _ _ w), str_toList, str_toList]
  have : (x != y) = decide (x ≠ y) := by rw [Bool.eq_iff_iff]; simp
  rw [this]
theorem XP_ne_str (T : TypeId) (a b : Operand) (x y : List UInt8) (w : World) (K : Value → World → Prop) : XP P (binOpG .neq T a b (.string (str x)) (.string (str y))) w K = K (.bool (decide (x ≠ y))) w := by
  rw [XP_ok (fun w => run_string_neq T a b _ _ w), str_toList, str_toList]
  have : (x != y) = decide (x ≠ y) := by rw [Bool.eq_iff_iff]; simp
  rw [this]
/-- append of a string to bytes of the call's own. -/
theorem X_append_str {base : Nat} {t u U e : TypeId} (ht : P.underlying t = some (.slice e)) (hu : P.underlying u = some .string) (hE : El P e 1 (.int .u8 0) 1) {v : Value} {n : Nat} {xs : List UInt8} {w : World} {K : Value → World → Prop} (hown : w.ownsRow base e 1 v n (B8 xs))
    {bs : List UInt8} (hb : n + bs.length ≤ 140737488355328) (hbase : base ≤ w.heap.size)
    (h : ∀ v' w1, w1.ownsRow base e 1 v' (n + bs.length) (B8 (xs ++ bs)) → Keep (fun k => some k = v.ownBlock) w w1 → K v' w1) : X P (Builtin.append_ #[t, u] U #[v, .string (str bs)]) w K := by
  obtain ⟨⟨i, hi, hs, hz, hby⟩, hzc⟩ := hE
  obtain ⟨v', w1, hr, h2, h3, _⟩ := Lib.run_append_own_string (P := P) w base t u U e i ht hu hi hz hs hby v n (B8 xs) hown (str bs) (by rw [str_size]; simp only [maxLen]; omega) (by rw [str_size]; exact hb) hbase
  rw [X_ok hr]
  rw [str_size, strCells_str, ← B8_append] at h2
  exact h v' w1 h2 (keep_grown h3)

/-! ### Bits -/
theorem run_xor {k : IntKind} (hk : k.signed = false) (T : TypeId) (x y : Nat) (hx : x < 2 ^ k.bits) (hy : y < 2 ^ k.bits) (w : World) : (binOp .xor T (.int k (x : Int)) (.int k (y : Int))).run P w = .ok (.int k ((x ^^^ y : Nat) : Int)) w := by
  have h1 : (BitVec.ofInt k.bits (x : Int) ^^^ BitVec.ofInt k.bits (y : Int)).toNat = x ^^^ y := by
    rw [BitVec.toNat_xor, BitVec.ofInt_natCast, BitVec.ofInt_natCast, BitVec.toNat_ofNat, BitVec.toNat_ofNat, Nat.mod_eq_of_lt hx, Nat.mod_eq_of_lt hy]
  have h2 : k.wrap ((x ^^^ y : Nat) : Int) = ((x ^^^ y : Nat) : Int) := by
    have h3 : x ^^^ y < 2 ^ k.bits := Nat.xor_lt_two_pow hx hy
    have h4 : ((x ^^^ y : Nat) : Int) % (2 ^ k.bits : Nat) = ((x ^^^ y : Nat) : Int) := by
      rw [← Int.natCast_emod, Nat.mod_eq_of_lt h3]
    simp only [IntKind.wrap, hk]
    simpa using h4
  simp [binOp, Op.intBits, Nat.mod_eq_of_lt hx, Nat.mod_eq_of_lt hy, h2]
theorem run_or {k : IntKind} (hk : k.signed = false) (T : TypeId) (x y : Nat) (hx : x < 2 ^ k.bits) (hy : y < 2 ^ k.bits) (w : World) : (binOp .or T (.int k (x : Int)) (.int k (y : Int))).run P w = .ok (.int k ((x ||| y : Nat) : Int)) w := by
  have h1 : (BitVec.ofInt k.bits (x : Int) ||| BitVec.ofInt k.bits (y : Int)).toNat = x ||| y := by
    rw [BitVec.toNat_or, BitVec.ofInt_natCast, BitVec.ofInt_natCast, BitVec.toNat_ofNat, BitVec.toNat_ofNat, Nat.mod_eq_of_lt hx, Nat.mod_eq_of_lt hy]
  have h2 : k.wrap ((x ||| y : Nat) : Int) = ((x ||| y : Nat) : Int) := by
    have h3 : x ||| y < 2 ^ k.bits := Nat.or_lt_two_pow hx hy
    have h4 : ((x ||| y : Nat) : Int) % (2 ^ k.bits : Nat) = ((x ||| y : Nat) : Int) := by
      rw [← Int.natCast_emod, Nat.mod_eq_of_lt h3]
    simp only [IntKind.wrap, hk]
    simpa using h4
  simp [binOp, Op.intBits, Nat.mod_eq_of_lt hx, Nat.mod_eq_of_lt hy, h2]

/-! ### Structs and arrays in memory -/
/-- A whole block of that type is loaded. -/
theorem run_loadAgg {t : TypeId} {d : TypeDesc} (hu : P.underlying t = some d) (ha : aggB P t = true) (hi : infoB P t = true) {b o : Nat} {cs : Array Value} {T : TypeId} {fr : Nat × Nat} {w : World} (hb : w.heap[b]? = some (.cells cs T fr))
    {l : List Value} (hl : (cs.toList.drop o).take (szT P t) = l) (hn : l.length = szT P t) : (Instr.loadAt t (.pointer (some ⟨b, o, none⟩))).run P w = .ok (.agg l.toArray) w := by
  have hload : (loadCells ⟨b, o, none⟩ l.length).run P w = .ok l.toArray w := by
    refine run_loadCells_list w _ l fun j v hj => ?_
    have e : (⟨b, o, none⟩ : Addr).add j = ⟨b, o + j, none⟩ := by unfold Addr.add; split <;> simp_all
    rw [e, cell_blk hb]
    rw [← hl, List.getElem?_take] at hj
    split at hj
    · rw [List.getElem?_drop] at hj
      rwa [Array.getElem?_toList] at hj
    · cases hj
  rw [hn] at hload
  simp [Instr.loadAt, Instr.sureAddr, loadVar, isAgg_run' hu ha, sizeOf_run hi, hload]
theorem X_loadAgg {t : TypeId} {d : TypeDesc} (hu : P.underlying t = some d) (ha : aggB P t = true) (hi : infoB P t = true) {b : Nat} {l : List Value} {T : TypeId} {fr : Nat × Nat} {w : World} {K : Value → World → Prop}
    (hb : w.heap[b]? = some (.cells l.toArray T fr)) (hn : l.length = szT P t) (h : K (.agg l.toArray) w) : X P (Instr.loadAt t (.pointer (some ⟨b, 0, none⟩))) w K :=
  X_of (run_loadAgg hu ha hi hb (by rw [List.drop_zero]; exact List.take_of_length_le (by simp [hn])) hn) h
theorem XR_loadAgg {t : TypeId} {d : TypeDesc} (hu : P.underlying t = some d) (ha : aggB P t = true) (hi : infoB P t = true) {b : Nat} {l : List Value} {T : TypeId} {fr : Nat × Nat} {w : World} {K : Value → World → Prop}
    (hb : w.heap[b]? = some (.cells l.toArray T fr)) (hn : l.length = szT P t) (h : K (.agg l.toArray) w) : XR P Ext (Instr.loadAt t (.pointer (some ⟨b, 0, none⟩))) w K :=
  XR_ok Ext.frame (fun w' k => run_loadAgg hu ha hi (k.get hb) (by rw [List.drop_zero]; exact List.take_of_length_le (by simp [hn])) hn) h
theorem resC_agg {t : TypeId} {d : TypeDesc} (hu : P.underlying t = some d) (ha : aggB P t = true) (hi : infoB P t = true) {b : Nat} {l : List Value} {T : TypeId} {fr : Nat × Nat} {w : World} {K : Value → Prop}
    (hb : w.heap[b]? = some (.cells l.toArray T fr)) (hn : l.length = szT P t) (h : K (.agg l.toArray)) : resC P t (.pointer (some ⟨b, 0, none⟩)) w K := by
  have := run_loadAgg hu ha hi hb (by rw [List.drop_zero]; exact List.take_of_length_le (by simp [hn])) hn
  simp only [Instr.loadAt, Instr.sureAddr] at this
  unfold resC
  have e : (do loadVar t (← asAddr (.pointer (some ⟨b, 0, none⟩))) : Sem Value).run P w = .ok (.agg l.toArray) w := by
    simp only [asAddr]
    simpa using this
  rw [e]
  exact ⟨rfl, h⟩
theorem run_storeAgg {t : TypeId} (hi : infoB P t = true) {b : Nat} {cs : Array Value} {l : List Value} {T : TypeId} {w : World} (hb : w.heap[b]? = some (.cells cs T (0, 0))) (hc : cs.size = szT P t) (hn : l.length = szT P t)
    (h1 : ∀ v ∈ l, v.oneCell' = true) : (Instr.storeAt t (.pointer (some ⟨b, 0, none⟩)) (.agg l.toArray)).run P w = .ok () (setAt w b l.toArray T (0, 0)) := by
  have hst := run_storeCells_at P b 0 T l 0 cs w hb (by omega) h1
  have e : w.setRow b ((cs.toList.take (0 + 0) ++ l ++ cs.toList.drop (0 + 0 + l.length)).toArray) = setAt w b l.toArray T (0, 0) := by
    have e1 : cs.toList.drop (0 + 0 + l.length) = [] := List.drop_eq_nil_of_le (by simp; omega)
    rw [e1, List.take_zero, List.nil_append, List.append_nil]
    unfold World.setRow setAt
    congr 1
    apply Array.ext_getElem?
    intro i
    have hl := lt_of_blk hb
    by_cases hi : i = b
    · subst hi
      rw [Array.getElem?_modify, if_pos rfl, hb]
      simp [hl]
    · rw [Array.getElem?_setIfInBounds_ne (Ne.symm hi), Array.getElem?_modify]
      simp [Ne.symm hi]
  rw [e] at hst
  simp [Instr.storeAt, Instr.sureAddr, storeVar, sizeOf_run hi, Value.cells, hn, hst]
theorem XU_storeAgg {t : TypeId} (hi : infoB P t = true) {b : Nat} {cs : Array Value} {l : List Value} {T : TypeId} {w : World} {K : World → Prop} (hb : w.heap[b]? = some (.cells cs T (0, 0))) (hc : cs.size = szT P t) (hn : l.length = szT P t)
    (h1 : ∀ v ∈ l, v.oneCell' = true) (h : K (setAt w b l.toArray T (0, 0))) : XU P (Instr.storeAt t (.pointer (some ⟨b, 0, none⟩)) (.agg l.toArray)) w K := by
  unfold XU; rw [run_storeAgg hi hb hc hn h1]; exact h
theorem run_arrayAt {arr e n : Nat} (ha : P.underlying arr = some (.array n e)) (a : Option Addr) {l : Nat} (hl : n ≤ l) (c : Nat) (w : World) : (Instr.arrayAt arr (.slice a l c)).run P w = .ok (.pointer a) w := by
  have : ¬ l < n := by omega
  simp [Instr.arrayAt, run_underlying ha, this]
end
end Go.Sh
