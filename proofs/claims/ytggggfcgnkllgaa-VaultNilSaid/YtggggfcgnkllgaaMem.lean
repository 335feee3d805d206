/- What memory holds, and what a call leaves of it: words and their laws. -/
import Derived.Test.YtggggfcgnkllgaaSh
import Derived.Below
set_option linter.unusedSimpArgs false
set_option linter.unusedVariables false
namespace Go.Sh
open Go Go.RowKit

/-! ### What is kept -/
/-- All that was there is as it was, but for the blocks of D; what is new is new. -/
structure Keep (D : Nat → Prop) (w w' : World) : Prop where
  os : w'.os = w.os
  tape : w'.tape = w.tape
  output : w'.output = w.output
  size : w.heap.size ≤ w'.heap.size
  block : ∀ i, i < w.heap.size → ¬ D i → w'.heap[i]? = w.heap[i]?

abbrev Ext := Keep (fun _ => False)

theorem Keep.refl (D : Nat → Prop) (w : World) : Keep D w w := ⟨rfl, rfl, rfl, Nat.le_refl _, fun _ _ _ => rfl⟩
theorem Keep.trans {D : Nat → Prop} {a b c : World} (h : Keep D a b) (k : Keep D b c) : Keep D a c :=
  ⟨k.os.trans h.os, k.tape.trans h.tape, k.output.trans h.output, Nat.le_trans h.size k.size,
    fun i hi hd => (k.block i (Nat.lt_of_lt_of_le hi h.size) hd).trans (h.block i hi hd)⟩
theorem Keep.mono {D D' : Nat → Prop} {a b : World} (h : Keep D a b) (hd : ∀ i, i < a.heap.size → D i → D' i) : Keep D' a b :=
  ⟨h.os, h.tape, h.output, h.size, fun i hi hn => h.block i hi (fun h' => hn (hd i hi h'))⟩
/-- What is written among new blocks alone is nothing to what was there. -/
theorem Keep.seq {D D' : Nat → Prop} {a b c : World} (h : Keep D a b) (k : Keep D' b c) (hd : ∀ i, i < a.heap.size → D' i → D i) : Keep D a c :=
  ⟨k.os.trans h.os, k.tape.trans h.tape, k.output.trans h.output, Nat.le_trans h.size k.size,
    fun i hi hn => (k.block i (Nat.lt_of_lt_of_le hi h.size) (fun h' => hn (hd i hi h'))).trans (h.block i hi hn)⟩
theorem Keep.ext {D : Nat → Prop} {a b : World} (h : Ext a b) : Keep D a b := h.mono (fun _ _ h => h.elim)
theorem Ext.seq {D : Nat → Prop} {a b c : World} (h : Ext a b) (k : Keep D b c) (hd : ∀ i, D i → a.heap.size ≤ i) : Ext a c :=
  Keep.seq h k (fun i hi hD => absurd (hd i hD) (by omega))
theorem Keep.frame (D : Nat → Prop) : Frame? (Keep D) := ⟨Keep.refl D, fun _ _ _ => Keep.trans⟩
theorem Ext.frame : Frame? Ext := Keep.frame _
theorem Keep.drew (D : Nat → Prop) (w : World) : Keep D w (drewW w) := ⟨rfl, rfl, rfl, Nat.le_refl _, fun _ _ _ => rfl⟩
theorem Keep.drewR {D : Nat → Prop} {w w' : World} (h : Keep D (drewW w) w') : Keep D w w' := (Keep.drew D w).trans h
theorem Ext.below {w w' : World} (h : Ext w w') : Below w.heap.size w w' := ⟨h.os, h.tape, h.output, h.size, fun i hi => h.block i hi (fun h => h)⟩

theorem lt_of_blk {w : World} {b : Nat} {o : Obj} (h : w.heap[b]? = some o) : b < w.heap.size := (Array.getElem?_eq_some_iff.1 h).1
theorem Keep.get {D : Nat → Prop} {w w' : World} (k : Keep D w w') {b : Nat} {o : Obj} (hd : ¬ D b) (h : w.heap[b]? = some o) : w'.heap[b]? = some o :=
  (k.block b (lt_of_blk h) hd).trans h
theorem Ext.get {w w' : World} (k : Ext w w') {b : Nat} {o : Obj} (h : w.heap[b]? = some o) : w'.heap[b]? = some o := Keep.get k (fun h => h) h
@[simp] theorem drewW_heap (w : World) : (drewW w).heap = w.heap := rfl
theorem drewW_heap' (w : World) : (drewW w).heap = w.heap := rfl

/-! ### One cell -/
theorem cell_blk {w : World} {b o : Nat} {cs : Array Value} {T : TypeId} {fr : Nat × Nat} (h : w.heap[b]? = some (.cells cs T fr)) : w.cell? ⟨b, o, none⟩ = cs[o]? := by
  simp [World.cell?, h]
theorem frozen_blk {w : World} {b o : Nat} {cs : Array Value} {T : TypeId} {fr : Nat × Nat} (h : w.heap[b]? = some (.cells cs T fr)) : w.frozen? ⟨b, o, none⟩ = (decide (fr.1 ≤ o) && decide (o < fr.2)) := by
  simp [World.frozen?, h]
theorem frozen_no {w : World} {b o : Nat} {cs : Array Value} {T : TypeId} (h : w.heap[b]? = some (.cells cs T (0, 0))) : w.frozen? ⟨b, o, none⟩ = false := by
  simp [World.frozen?, h]
theorem Keep.cell {D : Nat → Prop} {w w' : World} (k : Keep D w w') {a : Addr} {v : Value} (hd : ¬ D a.block) (h : w.cell? a = some v) : w'.cell? a = some v := by
  have hl : a.block < w.heap.size := World.block_lt_of_cell? w a h
  unfold World.cell? at *
  rw [k.block _ hl hd]
  exact h

/-! ### The type table -/
def aggB (P : Program) (t : TypeId) : Bool :=
  match P.underlying t with
  | some (.struct _) => true
  | some (.array _ _) => true
  | some _ => false
  | none => true
def szT (P : Program) (t : TypeId) : Nat := ((P.info? t).map (·.size)).getD 0
def bytesT (P : Program) (t : TypeId) : Nat := ((P.info? t).map (·.bytes)).getD 0
def infoB (P : Program) (t : TypeId) : Bool := (P.info? t).isSome
def zeroT (P : Program) (t : TypeId) : Option Value := (P.info? t).bind (·.zero)

theorem isAgg_run {P : Program} {t : TypeId} (h : aggB P t = false) (w : World) : (isAgg t).run P w = .ok false w := by
  unfold aggB at h
  unfold isAgg underlying
  cases hu : P.underlying t with
  | none => simp [hu] at h
  | some d => cases d <;> simp_all
theorem isAgg_run' {P : Program} {t : TypeId} {d : TypeDesc} (hu : P.underlying t = some d) (h : aggB P t = true) (w : World) : (isAgg t).run P w = .ok true w := by
  unfold aggB at h
  unfold isAgg underlying
  cases d <;> simp_all
theorem sizeOf_run {P : Program} {t : TypeId} (h : infoB P t = true) (w : World) : (sizeOf t).run P w = .ok (szT P t) w := by
  unfold infoB at h
  unfold szT sizeOf typeInfo
  cases hi : P.info? t with
  | none => simp [hi] at h
  | some i => simp [hi]
theorem zeroValue_run {P : Program} {t : TypeId} {v : Value} (h : zeroT P t = some v) (w : World) : (zeroValue t).run P w = .ok v w := by
  unfold zeroT at h
  unfold zeroValue typeInfo
  cases hi : P.info? t with
  | none => simp [hi] at h
  | some i =>
    simp only [hi, Option.bind_some] at h
    simp [hi, h]

/-! ### Loads and stores of one cell -/
theorem run_loadAt {P : Program} {t : TypeId} {a : Addr} {v : Value} {w : World} (ht : aggB P t = false) (hc : w.cell? a = some v) :
    (Instr.loadAt t (.pointer (some a))).run P w = .ok v w := by
  simp [Instr.loadAt, Instr.sureAddr, loadVar, isAgg_run ht, hc]
theorem X_load {P : Program} {t : TypeId} {a : Addr} {v : Value} {w : World} {K : Value → World → Prop} (ht : aggB P t = false) (hc : w.cell? a = some v) (h : K v w) :
    X P (Instr.loadAt t (.pointer (some a))) w K := by
  unfold X; rw [run_loadAt ht hc]; exact h
theorem X_loadB {P : Program} {t : TypeId} {b o : Nat} {cs : Array Value} {T : TypeId} {fr : Nat × Nat} {v : Value} {w : World} {K : Value → World → Prop} (ht : aggB P t = false)
    (hb : w.heap[b]? = some (.cells cs T fr)) (hv : cs[o]? = some v) (h : K v w) : X P (Instr.loadAt t (.pointer (some ⟨b, o, none⟩))) w K :=
  X_load ht ((cell_blk hb).trans hv) h

/-- One cell is written. -/
def setAt (w : World) (b : Nat) (cs : Array Value) (T : TypeId) (fr : Nat × Nat) : World := { w with heap := w.heap.setIfInBounds b (.cells cs T fr) }
theorem setAt_same {w : World} {b : Nat} {cs : Array Value} {T : TypeId} {fr : Nat × Nat} (h : b < w.heap.size) : (setAt w b cs T fr).heap[b]? = some (.cells cs T fr) := by
  simp [setAt, h]
theorem setAt_other {w : World} {b b' : Nat} {cs : Array Value} {T : TypeId} {fr : Nat × Nat} (h : b' ≠ b) : (setAt w b cs T fr).heap[b']? = w.heap[b']? := by
  simp [setAt, Array.getElem?_setIfInBounds_ne (Ne.symm h)]
theorem setAt_size {w : World} {b : Nat} {cs : Array Value} {T : TypeId} {fr : Nat × Nat} : (setAt w b cs T fr).heap.size = w.heap.size := by
  simp [setAt]
theorem setAt_keep (w : World) (b : Nat) (cs : Array Value) (T : TypeId) (fr : Nat × Nat) : Keep (· = b) w (setAt w b cs T fr) :=
  ⟨rfl, rfl, rfl, by rw [setAt_size]; exact Nat.le_refl _, fun i _ hd => setAt_other hd⟩
theorem setCell_setAt {w : World} {b o : Nat} {cs : Array Value} {T : TypeId} {fr : Nat × Nat} {v : Value} (hb : w.heap[b]? = some (.cells cs T fr)) :
    w.setCell ⟨b, o, none⟩ v = setAt w b (cs.setIfInBounds o v) T fr := by
  unfold World.setCell setAt
  congr 1
  apply Array.ext_getElem?
  intro i
  have hl := lt_of_blk hb
  by_cases hi : i = b
  · subst hi
    have hx : w.heap[i] = .cells cs T fr := by
      have := Array.getElem?_eq_getElem hl
      rw [this] at hb
      exact Option.some.inj hb
    rw [Array.getElem?_modify, if_pos rfl, hb]
    simp [hl]
  · rw [Array.getElem?_setIfInBounds_ne (Ne.symm hi), Array.getElem?_modify]
    simp [Ne.symm hi]
theorem run_storeAt {P : Program} {t : TypeId} {b o : Nat} {cs : Array Value} {T : TypeId} {fr : Nat × Nat} {v : Value} {w : World} (hi : infoB P t = true) (hs : szT P t = 1) (hv : v.oneCell' = true)
    (hb : w.heap[b]? = some (.cells cs T fr)) (ho : o < cs.size) (hf : ¬ (fr.1 ≤ o ∧ o < fr.2)) :
    (Instr.storeAt t (.pointer (some ⟨b, o, none⟩)) v).run P w = .ok () (setAt w b (cs.setIfInBounds o v) T fr) := by
  have hc : v.cells = #[v] := by cases v <;> simp_all [Value.cells, Value.oneCell']
  have hfr : w.frozen? ⟨b, o, none⟩ = false := by
    rw [frozen_blk hb]
    simp only [Bool.and_eq_false_imp, decide_eq_true_eq, decide_eq_false_iff_not]
    omega
  have hcell : w.cell? ⟨b, o, none⟩ = some cs[o] := by rw [cell_blk hb, Array.getElem?_eq_getElem ho]
  have hst : (store ⟨b, o, none⟩ v).run P w = .ok () (w.setCell ⟨b, o, none⟩ v) := by
    rw [run_store P w _ v .plain hv, hcell]
    simp [hfr]
  simp [Instr.storeAt, Instr.sureAddr, storeVar, sizeOf_run hi, hs, hc, storeCells, hst, Addr.add, setCell_setAt hb]
theorem XU_store {P : Program} {t : TypeId} {b o : Nat} {cs : Array Value} {T : TypeId} {fr : Nat × Nat} {v : Value} {w : World} {K : World → Prop} (hi : infoB P t = true) (hs : szT P t = 1) (hv : v.oneCell' = true)
    (hb : w.heap[b]? = some (.cells cs T fr)) (ho : o < cs.size) (hf : ¬ (fr.1 ≤ o ∧ o < fr.2)) (h : K (setAt w b (cs.setIfInBounds o v) T fr)) :
    XU P (Instr.storeAt t (.pointer (some ⟨b, o, none⟩)) v) w K := by
  unfold XU; rw [run_storeAt hi hs hv hb ho hf]; exact h

/-! ### A new block -/
def newB (w : World) (cs : Array Value) (T : TypeId) : World := { w with heap := w.heap.push (.cells cs T) }
theorem newB_get (w : World) (cs : Array Value) (T : TypeId) : (newB w cs T).heap[w.heap.size]? = some (.cells cs T (0, 0)) := by
  show (w.heap.push _)[w.heap.size]? = _
  exact Array.getElem?_push_size
theorem newB_ext (w : World) (cs : Array Value) (T : TypeId) : Ext w (newB w cs T) :=
  ⟨rfl, rfl, rfl, by show _ ≤ (w.heap.push _).size; rw [Array.size_push]; omega, fun i hi _ => by
    show (w.heap.push _)[i]? = _
    exact Array.getElem?_push_lt hi |>.trans (Array.getElem?_eq_getElem hi).symm⟩
theorem newB_size (w : World) (cs : Array Value) (T : TypeId) : (newB w cs T).heap.size = w.heap.size + 1 := by
  show (w.heap.push _).size = _
  exact Array.size_push _

theorem run_alloc {P : Program} {t : TypeId} {z : Value} {w : World} (hz : zeroT P t = some z) :
    (Instr.alloc t true (.tuple #[])).run P w = .ok (.pointer (some ⟨w.heap.size, 0, none⟩)) (newB w z.cells t) := by
  simp only [Instr.alloc, Sem.run_bind, zeroValue_run hz, Result.andThen_ok, newVar, newRow, run_newObj, Sem.run_pure]
  rfl
theorem X_alloc {P : Program} {t : TypeId} {z : Value} {w : World} {K : Value → World → Prop} (hz : zeroT P t = some z)
    (h : K (.pointer (some ⟨w.heap.size, 0, none⟩)) (newB w z.cells t)) : X P (Instr.alloc t true (.tuple #[])) w K := by
  unfold X; rw [run_alloc hz]; exact h
theorem run_box {P : Program} {t : TypeId} {v : Value} {w : World} :
    (Instr.box t v).run P w = .ok (.pointer (some ⟨w.heap.size, 0, none⟩)) (newB w v.cells t) := by
  simp only [Instr.box, Sem.run_bind, newVar, newRow, run_newObj, Sem.run_pure, Result.andThen_ok]
  rfl
theorem X_box {P : Program} {t : TypeId} {v : Value} {w : World} {K : Value → World → Prop}
    (h : K (.pointer (some ⟨w.heap.size, 0, none⟩)) (newB w v.cells t)) : X P (Instr.box t v) w K := by
  unfold X; rw [run_box]; exact h

end Go.Sh
