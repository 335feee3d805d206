/- Part 1 of what the law is proved with. -/
import Derived.OrdersHeld
import Derived.Tactics
import Derived.KernelRfl
import Derived.Below
import Derived.Laws.AppendOwn
import Derived.Laws.OwnMore
import Derived.Laws.MakeOwn
import Derived.Laws.CopyRow
import Derived.Laws.BytesArg
import Derived.Laws.IdiomStrings
import Derived.Laws.Slices
import Derived.OwnWalk
set_option linter.unusedVariables false
set_option linter.unusedSimpArgs false
section
namespace Go.Sh
open Go
abbrev Env := Nat → Value
def upd (ρ : Env) (d : Nat) (v : Value) : Env := fun t => if t = d then v else ρ t
def updO (ρ : Env) (d : Option Nat) (v : Value) : Env :=
  match d with
  | some d => upd ρ d v
  | none => ρ
def upds (ρ : Env) (l : List (Nat × Value)) : Env :=
  match l with
  | [] => ρ
  | p :: l => upd (upds ρ l) p.1 p.2
def ev (ρ : Env) : Operand → Value
  | .tmp t => ρ t
  | .const v => v
  | .global g => .pointer (some ⟨g, 0, none⟩)
  | .func f => .func (.func f) #[] #[]
def onR {α : Type} (r : Result α) (K : α → World → Prop) : Prop :=
  match r with
  | .ok v w => K v w
  | .halt _ _ => False
def X (P : Program) (s : Sem Value) (w : World) (K : Value → World → Prop) : Prop := onR (s.run P w) K
def XU (P : Program) (s : Sem Unit) (w : World) (K : World → Prop) : Prop := onR (s.run P w) fun _ w' => K w'
def XP (P : Program) (s : Sem Value) (w : World) (K : Value → World → Prop) : Prop := onR (s.run P w) fun v _ => (∀ w', s.run P w' = .ok v w') ∧ K v w
def XR (P : Program) (R : World → World → Prop) (s : Sem Value) (w : World) (K : Value → World → Prop) : Prop :=
  onR (s.run P w) fun v _ => (∀ w', R w w' → s.run P w' = .ok v w') ∧ K v w
theorem onR_iff {α : Type} {r : Result α} {K : α → World → Prop} : onR r K ↔ ∃ v w', r = .ok v w' ∧ K v w' := by
  cases r with
  | ok v w =>
    constructor
    · intro h; exact ⟨v, w, rfl, h⟩
    · rintro ⟨_, _, e, h⟩; cases e; exact h
  | halt h w =>
    constructor
    · intro h; exact h.elim
    · rintro ⟨_, _, e, _⟩; cases e
theorem X_iff {P : Program} {s : Sem Value} {w : World} {K : Value → World → Prop} : X P s w K ↔ ∃ v w', s.run P w = .ok v w' ∧ K v w' := onR_iff
theorem XU_iff {P : Program} {s : Sem Unit} {w : World} {K : World → Prop} : XU P s w K ↔ ∃ w', s.run P w = .ok () w' ∧ K w' := by
  unfold XU
  rw [onR_iff]
  constructor
  · rintro ⟨v, w', h⟩; exact ⟨w', h⟩
  · rintro ⟨w', h⟩; exact ⟨(), w', h⟩
theorem XP_iff {P : Program} {s : Sem Value} {w : World} {K : Value → World → Prop} : XP P s w K ↔ ∃ v, (∀ w', s.run P w' = .ok v w') ∧ K v w := by
  unfold XP
  rw [onR_iff]
  constructor
  · rintro ⟨v, w', _, h⟩; exact ⟨v, h⟩
  · rintro ⟨v, h⟩; exact ⟨v, w, h.1 w, h⟩
theorem XR_imp {P : Program} {R : World → World → Prop} {s : Sem Value} {w : World} {K : Value → World → Prop} (h : XR P R s w K) : ∃ v, (∀ w', R w w' → s.run P w' = .ok v w') ∧ K v w := by
  unfold XR at h
  rw [onR_iff] at h
  obtain ⟨v, w', _, h⟩ := h
  exact ⟨v, h⟩
def callOk (P : Program) (f : FuncId) : Bool :=
  match P.funcs[f]? with
  | some fn => !(fn.name == "runtime.NumGoroutine") && fn.body.isSome
  | none => false
def CALL (P : Program) (f : FuncId) (args : Array Value) (w : World) (K : Value → World → Prop) : Prop :=
  (callOk P f = true ∧ Calls P f args w fun
    | .returned v, w' => K v w'
    | _, _ => False) ∨ ∃ v w', (callFunc f args).run P w = .ok (.value v) w' ∧ K v w'
theorem CALL.mono {P : Program} {f : FuncId} {args : Array Value} {K K' : Value → World → Prop} {w : World} (h : CALL P f args w K)
    (hk : ∀ v w', K v w' → K' v w') : CALL P f args w K' := by
  rcases h with h | ⟨v, w', h1, h2⟩
  · exact .inl ⟨h.1, h.2.mono fun e w' he => by cases e <;> first | exact hk _ _ he | exact he⟩
  · exact .inr ⟨v, w', h1, hk _ _ h2⟩
def binOpG (op : BinOp) (t : TypeId) (x y : Operand) (a b : Value) : Sem Value := do eqGuard op t x y a b; binOp op t a b
def binOpS (op : BinOp) (t : TypeId) (x y : Operand) (a b : Value) : Sem Value :=
  match op with
  | .eql => binOpG .eql t x y a b
  | .neq => binOpG .neq t x y a b
  | op => binOp op t a b
def nilS (v : Value) : Sem Value :=
  match v with
  | .pointer none | .nilIface | .nilFunc => runtimePanic .nilDeref
  | .func (.method _) _ _ => stuck "not served"
  | v => pure v
def pickS (c a b : Value) : Sem Value := do pure (if ← asBool c then a else b)
def opSem (ρ : Env) (o : Oper) : Sem Value :=
  match o.op with
  | .move x | .assign x => pure (ev ρ x)
  | .pick c a b => pickS (ev ρ c) (ev ρ a) (ev ρ b)
  | .alloc elem => Instr.alloc elem true (.tuple #[])
  | .box elem x => Instr.box elem (ev ρ x)
  | .build t parts => Instr.build t (parts.toList.map fun p => (p.1, ev ρ p.2)).toArray
  | .buildSlice t len parts => Instr.buildSlice t len (parts.toList.map fun p => (p.1, ev ρ p.2)).toArray
  | .load t a => Instr.loadAt t (ev ρ a)
  | .nilCheck x => nilS (ev ρ x)
  | .binOp op xType x y _ => binOpS op xType x y (ev ρ x) (ev ρ y)
  | .unOp op _ x => Op.unary op (ev ρ x)
  | .convert src dst x => convert src dst (ev ρ x)
  | .sliceToArrayPointer arr x => Instr.arrayAt arr (ev ρ x)
  | .makeFunc fn first captured => Instr.makeFunc fn (first.toList.map (ev ρ)).toArray (captured.toList.map (ev ρ)).toArray
  | .makeMap t r => Instr.makeMap t (r.map (ev ρ))
  | .makeSlice t l c => Instr.makeSlice t (ev ρ l) (ev ρ c)
  | .slice t x lo hi mx => Instr.sliceAt t (ev ρ x) (lo.map (ev ρ)) (hi.map (ev ρ)) (mx.map (ev ρ))
  | .fieldAddr s x f => Instr.fieldAt s (ev ρ x) f
  | .field xType x f => Instr.field xType (ev ρ x) f
  | .indexAddr t x ix => Instr.indexAt t (ev ρ x) (ev ρ ix)
  | .index xType x ix => Instr.index xType (ev ρ x) (ev ρ ix)
  | .lookup xType x ix ok => Instr.lookup xType (ev ρ x) (ev ρ ix) ok
  | .range xType x => Instr.range xType (ev ρ x)
  | .next it isString => Instr.next (ev ρ it) isString o.type
  | .entry it => Instr.entry (ev ρ it)
  | .extract t ix => Instr.extract (ev ρ t) ix
  | _ => stuck "not served"
def builtinSem (b : Builtin) (argTypes : Array TypeId) (type : TypeId) (args : Array Value) : Sem Value :=
  match b with
  | .append => Builtin.append_ argTypes type args
  | .cap => Builtin.cap_ argTypes type args
  | .clear => Builtin.clear_ argTypes type args
  | .copy => Builtin.copy_ argTypes type args
  | .delete => Builtin.delete_ argTypes type args
  | .len => Builtin.len_ argTypes type args
  | .max => Builtin.max_ argTypes type args
  | .min => Builtin.min_ argTypes type args
  | _ => stuck "not served"
def closS (P : Program) (f : Value) (args : Array Value) (w : World) (K : Value → World → Prop) : Prop :=
  match f with
  | .func (.func f) first captured => CALL P f (first ++ args ++ captured) w K
  | _ => False
def callS (P : Program) (ρ : Env) (c : Call) (type : TypeId) (w : World) (K : Value → World → Prop) : Prop :=
  match c.callee with
  | .value (.func f) => CALL P f (c.args.toList.map (ev ρ)).toArray w K
  | .value f => closS P (ev ρ f) (c.args.toList.map (ev ρ)).toArray w K
  | .builtin b => X P (builtinSem b c.argTypes type (c.args.toList.map (ev ρ)).toArray) w K
  | .invoke _ _ => False
def stepS (P : Program) (ρ : Env) (o : Oper) (w : World) (K : Value → World → Prop) : Prop :=
  match o.op with
  | .move x | .assign x => K (ev ρ x) w
  | .store t a x => XU P (Instr.storeAt t (ev ρ a) (ev ρ x)) w (fun w' => K undef w')
  | .mapUpdate t m k x => XU P (Instr.mapUpdate t (ev ρ m) (ev ρ k) (ev ρ x)) w (fun w' => K undef w')
  | .insert t m k x => XU P (Instr.mapUpdate t (ev ρ m) (ev ρ k) (ev ρ x)) w (fun w' => K undef w')
  | .call c => callS P ρ c o.type w K
  | _ => X P (opSem ρ o) w K
def gval (ops : Array Oper) (ρ : Env) (j : Nat) : Value :=
  match (ops[j]?).bind (·.dst) with
  | some d => ρ d
  | none => undef
def gstep (g : Value) (want : Bool) (S : World → (Value → World → Prop) → Prop) (w : World) (K : Value → World → Prop) : Prop :=
  match g with
  | .bool b => if b = want then S w K else K undef w
  | _ => K undef w
def stepG (P : Program) (ops : Array Oper) (ρ : Env) (o : Oper) (w : World) (K : Value → World → Prop) : Prop :=
  match o.guard with
  | none => stepS P ρ o w K
  | some (j, want) => gstep (gval ops ρ j) want (stepS P ρ o) w K
def opsS (P : Program) (ops : Array Oper) (K : Env → World → Prop) : List Oper → Env → World → Prop
  | [], ρ, w => K ρ w
  | o :: rest, ρ, w => stepG P ops ρ o w (fun v w' => opsS P ops K rest (updO ρ o.dst v) w')
def kindOf (o : Oper) : Nat :=
  match o.op with
  | .move _ | .assign _ | .pick .. | .build .. | .nilCheck _ | .binOp .. | .unOp .. | .sliceToArrayPointer .. | .slice .. | .fieldAddr .. | .field .. | .indexAddr .. | .index .. | .extract .. => 0
  | .call { callee := .builtin .len, .. } | .call { callee := .builtin .max, .. } | .call { callee := .builtin .min, .. } => 0
  | .load .. | .lookup .. => 1
  | .convert _ d _ => match d with
    | 28 => 2
    | _ => 1
  | _ => 2
def waitsB (o : Oper) (i : Nat) : Bool := o.after.any fun e => Region.binds .any e && e.on == i
def readsB (ops : Array Oper) (i : Nat) : Bool :=
  match ops[i]? with
  | some o => kindOf o == 1
  | none => false
def chkB (ops : Array Oper) (listed : Array Bool) (j : Nat) : Bool :=
  match ops[j]? with
  | some oj => (List.range ops.size).any fun i => listed.getD i false && readsB ops i && !waitsB oj i
  | none => false
def semOf (ρ : Env) (o : Oper) : Sem Value :=
  match o.op with
  | .call { callee := .builtin b, args, argTypes } => builtinSem b argTypes o.type (args.toList.map (ev ρ)).toArray
  | _ => opSem ρ o
def takeS (P : Program) (R : World → World → Prop) (ρ : Env) (o : Oper) (w : World) (K : Value → World → Prop) : Prop :=
  match o.op with
  | .move x | .assign x => K (ev ρ x) w
  | _ => match kindOf o with
    | 0 => XP P (semOf ρ o) w K
    | _ => XR P R (semOf ρ o) w K
def takeG (P : Program) (R : World → World → Prop) (ops : Array Oper) (ρ : Env) (o : Oper) (w : World) (K : Value → World → Prop) : Prop :=
  match o.guard with
  | none => takeS P R ρ o w K
  | some (j, want) => gstep (gval ops ρ j) want (takeS P R ρ o) w K
def andIf (b : Bool) (p q : Prop) : Prop :=
  match b with
  | true => p ∧ q
  | false => q
def allL (f : Nat → Prop) : List Nat → Prop
  | [] => True
  | [i] => f i
  | i :: j :: l => f i ∧ allL f (j :: l)
def canTake (ops : Array Oper) (listed : Array Bool) (i : Nat) : Bool :=
  match ops[i]? with
  | some o => kindOf o != 2 && Region.free .any ops listed i
  | none => false
def anyS (P : Program) (R : World → World → Prop) (ops : Array Oper) (K : Env → World → Prop) : Nat → Array Bool → Env → World → Prop
  | 0, _, ρ, w => K ρ w
  | fuel + 1, listed, ρ, w =>
    match Region.ready .any ops listed with
    | [] => K ρ w
    | i :: l =>
      match (i :: l).find? (canTake ops listed) with
      | some i => takeG P R ops ρ (ops.getD i default) w (fun v w' => anyS P R ops K fuel (listed.setIfInBounds i true) (updO ρ (ops.getD i default).dst v) w')
      | none => allL (fun i => stepG P ops ρ (ops.getD i default) w (fun v w' => andIf (chkB ops listed i) (R w w')
          (anyS P R ops K fuel (listed.setIfInBounds i true) (updO ρ (ops.getD i default).dst v) w'))) (i :: l)
def noSel (ops : Array Oper) : Bool := Region.noSelect ops
structure Frame? (R : World → World → Prop) : Prop where
  refl : ∀ w, R w w
  trans : ∀ a b c, R a b → R b c → R a c
def drewW (w : World) : World := { w with drawn := w.drawn + 1 }
def drawS (P : Program) (ops : Array Oper) (K : Env → World → Prop) (ρ : Env) (w : World) : Prop :=
  ∃ R : World → World → Prop, Frame? R ∧ anyS P R ops K ops.size (Array.replicate ops.size false) ρ (drewW w)
def thenS (K : Env → World → Prop) (Q : Exit → Env → World → Prop) : Exit → Env → World → Prop
  | .normal => K
  | e => Q e
def inBlockS (id : Nat) (Q : Exit → Env → World → Prop) : Exit → Env → World → Prop
  | .exit id' => if id' = id then Q .normal else Q (.exit id')
  | e => Q e
def condS (c : Value) (A B : Prop) : Prop :=
  match c with
  | .bool true => A
  | .bool false => B
  | _ => False
def loopS (B : (Exit → Env → World → Prop) → Env → World → Prop) (Q : Exit → Env → World → Prop) (ρ : Env) (w : World) : Prop :=
  ∃ (I : Env → World → Prop) (μ : Env → World → Nat), I ρ w ∧ ∀ ρ w, I ρ w → B (thenS (fun ρ' w' => I ρ' w' ∧ μ ρ' w' < μ ρ w) Q) ρ w
def sh (P : Program) : Code → (Exit → Env → World → Prop) → Env → World → Prop
  | .skip, Q, ρ, w => Q .normal ρ w
  | .region _ ops true, Q, ρ, w => drawS P ops (Q .normal) ρ w
  | .region _ ops false, Q, ρ, w => opsS P ops (Q .normal) ops.toList ρ w
  | .seq a b, Q, ρ, w => sh P a (thenS (sh P b Q) Q) ρ w
  | .cond c a b, Q, ρ, w => condS (ev ρ c) (sh P a Q ρ w) (sh P b Q ρ w)
  | .block id a, Q, ρ, w => sh P a (inBlockS id Q) ρ w
  | .loop a, Q, ρ, w => loopS (sh P a) Q ρ w
  | .exit id, Q, ρ, w => Q (.exit id) ρ w
  | .ret, Q, ρ, w => Q .ret ρ w
  | _, _, _, _ => False
def joinS (C : Env → World → Prop) (F : (Env → World → Prop) → Prop) : Prop := F C
def dstOk (n : Nat) (o : Oper) : Bool :=
  match o.dst with
  | some d => decide (d < n)
  | none => true
def codeOk (n : Nat) : Code → Bool
  | .region _ ops d => ops.all (dstOk n) && (!d || noSel ops)
  | .seq a b | .cond _ a b => codeOk n a && codeOk n b
  | .block _ a | .loop a => codeOk n a
  | _ => true
def resC (P : Program) (t : TypeId) (a : Value) (w : World) (K : Value → Prop) : Prop := onR ((do loadVar t (← asAddr a) : Sem Value).run P w) fun v w' => w' = w ∧ K v
def resS (P : Program) (ρ : Env) (w : World) : List ResultVar → (List Value → Prop) → Prop
  | [], K => K []
  | .tmp t :: rs, K => resS P ρ w rs (fun vs => K (ρ t :: vs))
  | .cell a t :: rs, K => resC P t (ρ a) w (fun v => resS P ρ w rs (fun vs => K (v :: vs)))
def oneS (K : Value → Prop) : List Value → Prop
  | [v] => K v
  | vs => K (.tuple vs.toArray)
def retS (P : Program) (rs : Array ResultVar) (K : Value → World → Prop) : Exit → Env → World → Prop
  | .normal, ρ, w | .ret, ρ, w => resS P ρ w rs.toList (oneS fun v => K v w)
  | _, _, _ => False
def env0 (args : Array Value) : Env := fun t => args.getD t undef
end Go.Sh
end
section
namespace Go.Sh
open Go Go.RowKit
structure Keep (D : Nat → Prop) (w w' : World) : Prop where
  os : w'.os = w.os
  tape : w'.tape = w.tape
  output : w'.output = w.output
  size : w.heap.size ≤ w'.heap.size
  block : ∀ i, i < w.heap.size → ¬ D i → w'.heap[i]? = w.heap[i]?
abbrev Ext := Keep (fun _ => False)
theorem Keep.refl (D : Nat → Prop) (w : World) : Keep D w w := ⟨rfl, rfl, rfl, Nat.le_refl _, fun _ _ _ => rfl⟩
theorem Keep.trans {D : Nat → Prop} {a b c : World} (h : Keep D a b) (k : Keep D b c) : Keep D a c :=
  ⟨k.os.trans h.os, k.tape.trans h.tape, k.output.trans h.output, Nat.le_trans h.size k.size,
    fun i hi hd => (k.block i (Nat.lt_of_lt_of_le hi h.size) hd).trans (h.block i hi hd)⟩
theorem Keep.mono {D D' : Nat → Prop} {a b : World} (h : Keep D a b) (hd : ∀ i, i < a.heap.size → D i → D' i) : Keep D' a b :=
  ⟨h.os, h.tape, h.output, h.size, fun i hi hn => h.block i hi (fun h' => hn (hd i hi h'))⟩
theorem Keep.seq {D D' : Nat → Prop} {a b c : World} (h : Keep D a b) (k : Keep D' b c) (hd : ∀ i, i < a.heap.size → D' i → D i) : Keep D a c :=
  ⟨k.os.trans h.os, k.tape.trans h.tape, k.output.trans h.output, Nat.le_trans h.size k.size,
    fun i hi hn => (k.block i (Nat.lt_of_lt_of_le hi h.size) (fun h' => hn (hd i hi h'))).trans (h.block i hi hn)⟩
theorem Keep.ext {D : Nat → Prop} {a b : World} (h : Ext a b) : Keep D a b := h.mono (fun _ _ h => h.elim)
theorem Ext.seq {D : Nat → Prop} {a b c : World} (h : Ext a b) (k : Keep D b c) (hd : ∀ i, D i → a.heap.size ≤ i) : Ext a c :=
  Keep.seq h k (fun i hi hD => absurd (hd i hD) (by omega))
theorem Keep.frame (D : Nat → Prop) : Frame? (Keep D) := ⟨Keep.refl D, fun _ _ _ => Keep.trans⟩
theorem Ext.frame : Frame? Ext := Keep.frame _
theorem Keep.drew (D : Nat → Prop) (w : World) : Keep D w (drewW w) := ⟨rfl, rfl, rfl, Nat.le_refl _, fun _ _ _ => rfl⟩
theorem Ext.below {w w' : World} (h : Ext w w') : Below w.heap.size w w' := ⟨h.os, h.tape, h.output, h.size, fun i hi => h.block i hi (fun h => h)⟩
theorem lt_of_blk {w : World} {b : Nat} {o : Obj} (h : w.heap[b]? = some o) : b < w.heap.size := (Array.getElem?_eq_some_iff.1 h).1
theorem Keep.get {D : Nat → Prop} {w w' : World} (k : Keep D w w') {b : Nat} {o : Obj} (hd : ¬ D b) (h : w.heap[b]? = some o) : w'.heap[b]? = some o :=
  (k.block b (lt_of_blk h) hd).trans h
theorem Ext.get {w w' : World} (k : Ext w w') {b : Nat} {o : Obj} (h : w.heap[b]? = some o) : w'.heap[b]? = some o := Keep.get k (fun h => h) h
@[simp] theorem drewW_heap (w : World) : (drewW w).heap = w.heap := rfl
theorem cell_blk {w : World} {b o : Nat} {cs : Array Value} {T : TypeId} {fr : Nat × Nat} (h : w.heap[b]? = some (.cells cs T fr)) : w.cell? ⟨b, o, none⟩ = cs[o]? := by
  simp [World.cell?, h]
theorem frozen_blk {w : World} {b o : Nat} {cs : Array Value} {T : TypeId} {fr : Nat × Nat} (h : w.heap[b]? = some (.cells cs T fr)) : w.frozen? ⟨b, o, none⟩ = (decide (fr.1 ≤ o) && decide (o < fr.2)) := by
  simp [World.frozen?, h]
theorem frozen_no {w : World} {b o : Nat} {cs : Array Value} {T : TypeId} (h : w.heap[b]? = some (.cells cs T (0, 0))) : w.frozen? ⟨b, o, none⟩ = false := by
  simp [World.frozen?, h]
theorem Keep.cell {D : Nat → Prop} {w w' : World} (k : Keep D w w') {a : Addr} {v : Value} (hd : ¬ D a.block) (h : w.cell? a = some v) : w'.cell? a = some v := by
  have hl : a.block < w.heap.size := World.block_lt_of_cell? w a h
  unfold World.cell? at *
  rw [k.block _ hl hd]
  exact h
def aggB (P : Program) (t : TypeId) : Bool :=
  match P.underlying t with
  | some (.struct _) => true
  | some (.array _ _) => true
  | some _ => false
  | none => true
def szT (P : Program) (t : TypeId) : Nat := ((P.info? t).map (·.size)).getD 0
def infoB (P : Program) (t : TypeId) : Bool := (P.info? t).isSome
def zeroT (P : Program) (t : TypeId) : Option Value := (P.info? t).bind (·.zero)
theorem isAgg_run {P : Program} {t : TypeId} (h : aggB P t = false) (w : World) : (isAgg t).run P w = .ok false w := by
  unfold aggB at h
  unfold isAgg underlying
  cases hu : P.underlying t with
  | none => simp [hu] at h
  | some d => cases d <;> simp_all
theorem isAgg_run' {P : Program} {t : TypeId} {d : TypeDesc} (hu : P.underlying t = some d) (h : aggB P t = true) (w : World) : (isAgg t).run P w = .ok true w := by
  unfold aggB at h
  unfold isAgg underlying
  cases d <;> simp_all
theorem sizeOf_run {P : Program} {t : TypeId} (h : infoB P t = true) (w : World) : (sizeOf t).run P w = .ok (szT P t) w := by
  unfold infoB at h
  unfold szT sizeOf typeInfo
  cases hi : P.info? t with
  | none => simp [hi] at h
  | some i => simp [hi]
theorem zeroValue_run {P : Program} {t : TypeId} {v : Value} (h : zeroT P t = some v) (w : World) : (zeroValue t).run P w = .ok v w := by
  unfold zeroT at h
  unfold zeroValue typeInfo
  cases hi : P.info? t with
  | none => simp [hi] at h
  | some i =>
    simp only [hi, Option.bind_some] at h
    simp [hi, h]
theorem run_loadAt {P : Program} {t : TypeId} {a : Addr} {v : Value} {w : World} (ht : aggB P t = false) (hc : w.cell? a = some v) :
    (Instr.loadAt t (.pointer (some a))).run P w = .ok v w := by
  simp [Instr.loadAt, Instr.sureAddr, loadVar, isAgg_run ht, hc]
theorem X_load {P : Program} {t : TypeId} {a : Addr} {v : Value} {w : World} {K : Value → World → Prop} (ht : aggB P t = false) (hc : w.cell? a = some v) (h : K v w) :
    X P (Instr.loadAt t (.pointer (some a))) w K := by
  unfold X; rw [run_loadAt ht hc]; exact h
theorem X_loadB {P : Program} {t : TypeId} {b o : Nat} {cs : Array Value} {T : TypeId} {fr : Nat × Nat} {v : Value} {w : World} {K : Value → World → Prop} (ht : aggB P t = false)
    (hb : w.heap[b]? = some (.cells cs T fr)) (hv : cs[o]? = some v) (h : K v w) : X P (Instr.loadAt t (.pointer (some ⟨b, o, none⟩))) w K :=
  X_load ht ((cell_blk hb).trans hv) h
def setAt (w : World) (b : Nat) (cs : Array Value) (T : TypeId) (fr : Nat × Nat) : World := { w with heap := w.heap.setIfInBounds b (.cells cs T fr) }
theorem setAt_same {w : World} {b : Nat} {cs : Array Value} {T : TypeId} {fr : Nat × Nat} (h : b < w.heap.size) : (setAt w b cs T fr).heap[b]? = some (.cells cs T fr) := by
  simp [setAt, h]
theorem setAt_other {w : World} {b b' : Nat} {cs : Array Value} {T : TypeId} {fr : Nat × Nat} (h : b' ≠ b) : (setAt w b cs T fr).heap[b']? = w.heap[b']? := by
  simp [setAt, Array.getElem?_setIfInBounds_ne (Ne.symm h)]
theorem setAt_size {w : World} {b : Nat} {cs : Array Value} {T : TypeId} {fr : Nat × Nat} : (setAt w b cs T fr).heap.size = w.heap.size := by
  simp [setAt]
theorem setAt_keep (w : World) (b : Nat) (cs : Array Value) (T : TypeId) (fr : Nat × Nat) : Keep (· = b) w (setAt w b cs T fr) :=
  ⟨rfl, rfl, rfl, by rw [setAt_size]; exact Nat.le_refl _, fun i _ hd => setAt_other hd⟩
theorem setCell_setAt {w : World} {b o : Nat} {cs : Array Value} {T : TypeId} {fr : Nat × Nat} {v : Value} (hb : w.heap[b]? = some (.cells cs T fr)) :
    w.setCell ⟨b, o, none⟩ v = setAt w b (cs.setIfInBounds o v) T fr := by
  unfold World.setCell setAt
  congr 1
  apply Array.ext_getElem?
  intro i
  have hl := lt_of_blk hb
  by_cases hi : i = b
  · subst hi
    have hx : w.heap[i] = .cells cs T fr := by
      have := Array.getElem?_eq_getElem hl
      rw [this] at hb
      exact Option.some.inj hb
    rw [Array.getElem?_modify, if_pos rfl, hb]
    simp [hl]
  · rw [Array.getElem?_setIfInBounds_ne (Ne.symm hi), Array.getElem?_modify]
    simp [Ne.symm hi]
theorem run_storeAt {P : Program} {t : TypeId} {b o : Nat} {cs : Array Value} {T : TypeId} {fr : Nat × Nat} {v : Value} {w : World} (hi : infoB P t = true) (hs : szT P t = 1) (hv : v.oneCell' = true)
    (hb : w.heap[b]? = some (.cells cs T fr)) (ho : o < cs.size) (hf : ¬ (fr.1 ≤ o ∧ o < fr.2)) :
    (Instr.storeAt t (.pointer (some ⟨b, o, none⟩)) v).run P w = .ok () (setAt w b (cs.setIfInBounds o v) T fr) := by
  have hc : v.cells = #[v] := by cases v <;> simp_all [Value.cells, Value.oneCell']
  have hfr : w.frozen? ⟨b, o, none⟩ = false := by
    rw [frozen_blk hb]
    simp only [Bool.and_eq_false_imp, decide_eq_true_eq, decide_eq_false_iff_not]
    omega
  have hcell : w.cell? ⟨b, o, none⟩ = some cs[o] := by rw [cell_blk hb, Array.getElem?_eq_getElem ho]
  have hst : (store ⟨b, o, none⟩ v).run P w = .ok () (w.setCell ⟨b, o, none⟩ v) := by
    rw [run_store P w _ v .plain hv, hcell]
    simp [hfr]
  simp [Instr.storeAt, Instr.sureAddr, storeVar, sizeOf_run hi, hs, hc, storeCells, hst, Addr.add, setCell_setAt hb]
theorem XU_store {P : Program} {t : TypeId} {b o : Nat} {cs : Array Value} {T : TypeId} {fr : Nat × Nat} {v : Value} {w : World} {K : World → Prop} (hi : infoB P t = true) (hs : szT P t = 1) (hv : v.oneCell' = true)
    (hb : w.heap[b]? = some (.cells cs T fr)) (ho : o < cs.size) (hf : ¬ (fr.1 ≤ o ∧ o < fr.2)) (h : K (setAt w b (cs.setIfInBounds o v) T fr)) :
    XU P (Instr.storeAt t (.pointer (some ⟨b, o, none⟩)) v) w K := by
  unfold XU; rw [run_storeAt hi hs hv hb ho hf]; exact h
def newB (w : World) (cs : Array Value) (T : TypeId) : World := { w with heap := w.heap.push (.cells cs T) }
theorem newB_get (w : World) (cs : Array Value) (T : TypeId) : (newB w cs T).heap[w.heap.size]? = some (.cells cs T (0, 0)) := by
  show (w.heap.push _)[w.heap.size]? = _
  exact Array.getElem?_push_size
theorem newB_ext (w : World) (cs : Array Value) (T : TypeId) : Ext w (newB w cs T) :=
  ⟨rfl, rfl, rfl, by show _ ≤ (w.heap.push _).size; rw [Array.size_push]; omega, fun i hi _ => by
    show (w.heap.push _)[i]? = _
    exact Array.getElem?_push_lt hi |>.trans (Array.getElem?_eq_getElem hi).symm⟩
theorem newB_size (w : World) (cs : Array Value) (T : TypeId) : (newB w cs T).heap.size = w.heap.size + 1 := by
  show (w.heap.push _).size = _
  exact Array.size_push _
theorem run_alloc {P : Program} {t : TypeId} {z : Value} {w : World} (hz : zeroT P t = some z) :
    (Instr.alloc t true (.tuple #[])).run P w = .ok (.pointer (some ⟨w.heap.size, 0, none⟩)) (newB w z.cells t) := by
  simp only [Instr.alloc, Sem.run_bind, zeroValue_run hz, Result.andThen_ok, newVar, newRow, run_newObj, Sem.run_pure]
  rfl
theorem X_alloc {P : Program} {t : TypeId} {z : Value} {w : World} {K : Value → World → Prop} (hz : zeroT P t = some z)
    (h : K (.pointer (some ⟨w.heap.size, 0, none⟩)) (newB w z.cells t)) : X P (Instr.alloc t true (.tuple #[])) w K := by
  unfold X; rw [run_alloc hz]; exact h
theorem run_box {P : Program} {t : TypeId} {v : Value} {w : World} :
    (Instr.box t v).run P w = .ok (.pointer (some ⟨w.heap.size, 0, none⟩)) (newB w v.cells t) := by
  simp only [Instr.box, Sem.run_bind, newVar, newRow, run_newObj, Sem.run_pure, Result.andThen_ok]
  rfl
theorem X_box {P : Program} {t : TypeId} {v : Value} {w : World} {K : Value → World → Prop}
    (h : K (.pointer (some ⟨w.heap.size, 0, none⟩)) (newB w v.cells t)) : X P (Instr.box t v) w K := by
  unfold X; rw [run_box]; exact h
end Go.Sh
end
section
namespace Go.Sh
open Go Go.RowKit
structure El (P : Program) (e : TypeId) (size : Nat) (z : Value) (bytes : Nat) : Prop where
  info : ∃ i, P.info? e = some i ∧ i.size = size ∧ i.zero = some z ∧ i.bytes = bytes
  cells : z.cells.size = size
theorem El.mk' {P : Program} {e size bytes : Nat} {z : Value} (h : (P.info? e).map (fun i => (i.size, i.zero, i.bytes)) = some (size, some z, bytes)) (hc : z.cells.size = size) : El P e size z bytes := by
  obtain ⟨i, hi, h⟩ := Option.map_eq_some_iff.1 h
  simp only [Prod.mk.injEq] at h
  exact ⟨⟨i, hi, h.1, h.2.1, h.2.2⟩, hc⟩
theorem keep_grown {w w1 : World} {row : Option Nat} (h : w.grownBy w1 row) : Keep (fun k => some k = row) w w1 := ⟨h.os, h.tape, h.output, h.size, fun i hi hd => h.block i hi hd⟩
def B8 (l : List UInt8) : List Value := l.map fun u => .int .u8 (u.toNat : Int)
@[simp] theorem B8_length (l : List UInt8) : (B8 l).length = l.length := by simp [B8]
theorem B8_append (a b : List UInt8) : B8 (a ++ b) = B8 a ++ B8 b := by simp [B8]
theorem B8_getElem? (l : List UInt8) (j : Nat) : (B8 l)[j]? = (l[j]?).map fun u => .int .u8 (u.toNat : Int) := by simp [B8]
theorem B8_one {l : List UInt8} : ∀ v ∈ B8 l, v.oneCell' = true := by
  intro v hv
  simp only [B8, List.mem_map] at hv
  obtain ⟨u, _, rfl⟩ := hv
  rfl
theorem B8_inj {a b : List UInt8} (h : B8 a = B8 b) : a = b := by
  have : ∀ u v : UInt8, (Value.int .u8 (u.toNat : Int)) = .int .u8 (v.toNat : Int) → u = v := by
    intro u v h
    injection h with _ h
    exact UInt8.toNat_inj.1 (by omega)
  induction a generalizing b with
  | nil => cases b with
    | nil => rfl
    | cons y b => simp [B8] at h
  | cons x a ih => cases b with
    | nil => simp [B8] at h
    | cons y b =>
      simp only [B8, List.map_cons, List.cons.injEq] at h
      rw [this _ _ h.1, ih h.2]
def Bts (w : World) (v : Value) (bs : List UInt8) : Prop :=
  ∃ a c, v = .slice a bs.length c ∧ bs.length ≤ c ∧ c ≤ 9223372036854775807 ∧ (0 < bs.length → ∃ ad, a = some ad ∧ ∀ j u, bs[j]? = some u → w.cell? (ad.add j) = some (.int .u8 (u.toNat : Int)))
theorem Bts.keep {D : Nat → Prop} {w w' : World} {v : Value} {bs : List UInt8} (h : Bts w v bs) (k : Keep D w w') (hd : ∀ b, v.ownBlock = some b → ¬ D b) : Bts w' v bs := by
  obtain ⟨a, c, rfl, h1, h2, h3⟩ := h
  refine ⟨a, c, rfl, h1, h2, fun hn => ?_⟩
  obtain ⟨ad, rfl, hc⟩ := h3 hn
  refine ⟨ad, rfl, fun j u hj => k.cell ?_ (hc j u hj)⟩
  have : (ad.add j).block = ad.block := by unfold Addr.add; split <;> rfl
  rw [this]
  exact hd _ rfl
theorem Bts.keep' {D : Nat → Prop} {w w' : World} {v : Value} {bs : List UInt8} (h : Bts w v bs) (k : Keep D w w') (hd : 0 < bs.length → ∀ b, v.ownBlock = some b → ¬ D b) : Bts w' v bs := by
  by_cases hn : 0 < bs.length
  · exact h.keep k (hd hn)
  · obtain ⟨a, c, rfl, h1, h2, h3⟩ := h
    exact ⟨a, c, rfl, h1, h2, fun h => absurd h hn⟩
theorem Bts.ext {w w' : World} {v : Value} {bs : List UInt8} (h : Bts w v bs) (k : Ext w w') : Bts w' v bs := h.keep k (fun _ _ h => h)
theorem Bts.nil (w : World) : Bts w (.slice none 0 0) [] := ⟨none, 0, rfl, Nat.le_refl _, by omega, fun h => absurd h (by simp)⟩
theorem Bts.drew {w : World} {v : Value} {bs : List UInt8} (h : Bts w v bs) : Bts (drewW w) v bs := h.ext (Keep.drew _ w)
theorem own_bts {w : World} {base : Nat} {e : TypeId} {v : Value} {n : Nat} {bs : List UInt8} (h : w.ownsRow base e 1 v n (B8 bs)) : Bts w v bs ∧ n = bs.length := by
  have hl : bs.length = n := by have := h.1; simpa using this
  refine ⟨?_, hl.symm⟩
  rcases h.2 with ⟨rfl, h0⟩ | ⟨g, cap, cur, rfl, hb, hh, hn, hm, hs, ht⟩
  · have : bs = [] := List.eq_nil_of_length_eq_zero (by omega)
    subst this
    exact Bts.nil w
  · refine ⟨_, cap, by rw [hl], by omega, by simpa [maxLen] using hm, fun _ => ⟨_, rfl, fun j u hj => ?_⟩⟩
    refine h.cells (g := g) rfl j _ ?_
    rw [B8_getElem?, hj]
    rfl
theorem Bts.cut {w : World} {a : Option Addr} {c : Nat} {bs : List UInt8} (h : Bts w (.slice a bs.length c) bs) (lo hi : Nat) (hlo : lo ≤ hi) (hhi : hi ≤ bs.length) :
    Bts w (.slice (if c = lo then a else a.map (·.add lo)) (hi - lo) (c - lo)) ((bs.take hi).drop lo) := by
  obtain ⟨a', c', e, h1, h2, h3⟩ := h
  injection e with e1 e2 e3
  subst e1; subst e3
  have hl : ((bs.take hi).drop lo).length = hi - lo := by simp; omega
  refine ⟨_, _, by rw [hl], by omega, by omega, fun hn => ?_⟩
  rw [hl] at hn
  obtain ⟨ad, rfl, hc⟩ := h3 (by omega)
  refine ⟨ad.add lo, by rw [if_neg (by omega)]; rfl, fun j u hj => ?_⟩
  have hj' : bs[lo + j]? = some u := by
    rw [List.getElem?_drop, List.getElem?_take] at hj
    split at hj
    · exact hj
    · cases hj
  have := hc _ _ hj'
  have e : (ad.add lo).add j = ad.add (lo + j) := by
    unfold Addr.add
    by_cases h0 : lo = 0
    · subst h0; simp
    · by_cases hj0 : j = 0
      · subst hj0; simp
      · simp [h0, hj0, Nat.add_assoc]
  rw [e]
  exact this
theorem cut_block {a : Option Addr} {c lo : Nat} (n m n' m' : Nat) : (Value.slice (if c = lo then a else a.map (·.add lo)) n m).ownBlock = (Value.slice a n' m').ownBlock := by
  cases a with
  | none => split <;> rfl
  | some ad =>
    have : (ad.add lo).block = ad.block := by unfold Addr.add; split <;> rfl
    split <;> simp [Value.ownBlock, this]
theorem X_ok {P : Program} {s : Sem Value} {w w1 : World} {v : Value} {K : Value → World → Prop} (h : s.run P w = .ok v w1) : X P s w K = K v w1 := by unfold X; rw [h]; rfl
theorem XP_ok {P : Program} {s : Sem Value} {w : World} {v : Value} {K : Value → World → Prop} (h : ∀ w', s.run P w' = .ok v w') : XP P s w K = K v w := by
  unfold XP; rw [h w]
  simp only [onR]
  exact propext ⟨fun h => h.2, fun k => ⟨h, k⟩⟩
theorem XR_ok {P : Program} {R : World → World → Prop} {s : Sem Value} {w : World} {v : Value} {K : Value → World → Prop} (hr : Frame? R) (h : ∀ w', R w w' → s.run P w' = .ok v w') (hK : K v w) : XR P R s w K := by
  unfold XR; rw [h w (hr.refl w)]
  exact ⟨h, hK⟩
theorem XR_all {P : Program} {R : World → World → Prop} {s : Sem Value} {w : World} {v : Value} {K : Value → World → Prop} (h : ∀ w', s.run P w' = .ok v w') (hK : K v w) : XR P R s w K := by
  unfold XR; rw [h w]
  exact ⟨fun w' _ => h w', hK⟩
theorem condS_bool (b : Bool) (A B : Prop) : condS (.bool b) A B = if b = true then A else B := by cases b <;> rfl
theorem gstep_bool (b want : Bool) (S : World → (Value → World → Prop) → Prop) (w : World) (K : Value → World → Prop) : gstep (.bool b) want S w K = if b = want then S w K else K undef w := rfl
theorem joinS_eq (C : Env → World → Prop) (F : (Env → World → Prop) → Prop) : joinS C F = F C := rfl
theorem thenS_normal (K : Env → World → Prop) (Q : Exit → Env → World → Prop) : thenS K Q .normal = K := rfl
theorem thenS_exit (K : Env → World → Prop) (Q : Exit → Env → World → Prop) (i : Nat) : thenS K Q (.exit i) = Q (.exit i) := rfl
theorem thenS_ret (K : Env → World → Prop) (Q : Exit → Env → World → Prop) : thenS K Q .ret = Q .ret := rfl
theorem inBlockS_normal (i : Nat) (Q : Exit → Env → World → Prop) : inBlockS i Q .normal = Q .normal := rfl
theorem inBlockS_ret (i : Nat) (Q : Exit → Env → World → Prop) : inBlockS i Q .ret = Q .ret := rfl
theorem inBlockS_same (i : Nat) (Q : Exit → Env → World → Prop) : inBlockS i Q (.exit i) = Q .normal := by simp [inBlockS]
theorem loopS_of {B : (Exit → Env → World → Prop) → Env → World → Prop} {Q : Exit → Env → World → Prop} {ρ : Env} {w : World} (I : Env → World → Prop) (μ : Env → World → Nat) (h0 : I ρ w)
    (h : ∀ ρ w, I ρ w → B (thenS (fun ρ' w' => I ρ' w' ∧ μ ρ' w' < μ ρ w) Q) ρ w) : loopS B Q ρ w := ⟨I, μ, h0, h⟩
theorem upds_nil (ρ : Env) : upds ρ [] = ρ := rfl
theorem upds_cons (ρ : Env) (p : Nat × Value) (l : List (Nat × Value)) (t : Nat) : upds ρ (p :: l) t = if t = p.1 then p.2 else upds ρ l t := rfl
section
variable {P : Program}
theorem run_min (ts : Array TypeId) (T : TypeId) (k k' : IntKind) (x y : Int) (w : World) : (Builtin.min_ ts T #[.int k x, .int k' y]).run P w = .ok (.int k (min x y)) w := by
  have : (if y < x then y else x) = min x y := by omega
  simp [Builtin.min_, Builtin.min2, this]
theorem run_max (ts : Array TypeId) (T : TypeId) (k k' : IntKind) (x y : Int) (w : World) : (Builtin.max_ ts T #[.int k x, .int k' y]).run P w = .ok (.int k (max x y)) w := by
  have : (if y > x then y else x) = max x y := by omega
  simp [Builtin.max_, Builtin.max2, this]
theorem run_min4 (ts : Array TypeId) (T : TypeId) (k k' k2 k3 : IntKind) (x y z u : Int) (w : World) : (Builtin.min_ ts T #[.int k x, .int k' y, .int k2 z, .int k3 u]).run P w = .ok (.int k (min (min (min x y) z) u)) w := by
  have h : ∀ x y : Int, (if y < x then y else x) = min x y := by intros; omega
  simp [Builtin.min_, Builtin.min2, h]
theorem run_add (T : TypeId) (k : IntKind) (x y : Int) (w : World) : (binOp .add T (.int k x) (.int k y)).run P w = .ok (.int k (k.wrap (x + y))) w := by simp [binOp, Op.intArith]
theorem run_sub (T : TypeId) (k : IntKind) (x y : Int) (w : World) : (binOp .sub T (.int k x) (.int k y)).run P w = .ok (.int k (k.wrap (x - y))) w := by simp [binOp, Op.intArith]
theorem run_mul (T : TypeId) (k : IntKind) (x y : Int) (w : World) : (binOp .mul T (.int k x) (.int k y)).run P w = .ok (.int k (k.wrap (x * y))) w := by simp [binOp, Op.intArith]
theorem run_quo (T : TypeId) (k : IntKind) (x y : Int) (h : y ≠ 0) (w : World) : (binOp .quo T (.int k x) (.int k y)).run P w = .ok (.int k (k.wrap (x.tdiv y))) w := by simp [binOp, Op.intDiv, h]
theorem run_rem (T : TypeId) (k : IntKind) (x y : Int) (h : y ≠ 0) (w : World) : (binOp .rem T (.int k x) (.int k y)).run P w = .ok (.int k (x.tmod y)) w := by simp [binOp, Op.intDiv, h]
theorem run_lss (T : TypeId) (k : IntKind) (x y : Int) (w : World) : (binOp .lss T (.int k x) (.int k y)).run P w = .ok (.bool (decide (x < y))) w := by simp [binOp, Op.intCmp]
theorem run_leq (T : TypeId) (k : IntKind) (x y : Int) (w : World) : (binOp .leq T (.int k x) (.int k y)).run P w = .ok (.bool (decide (x ≤ y))) w := by simp [binOp, Op.intCmp]
theorem run_gtr (T : TypeId) (k : IntKind) (x y : Int) (w : World) : (binOp .gtr T (.int k x) (.int k y)).run P w = .ok (.bool (decide (x > y))) w := by simp [binOp, Op.intCmp]
theorem run_geq (T : TypeId) (k : IntKind) (x y : Int) (w : World) : (binOp .geq T (.int k x) (.int k y)).run P w = .ok (.bool (decide (x ≥ y))) w := by simp [binOp, Op.intCmp]
theorem run_eql (T : TypeId) (k : IntKind) (a b : Operand) (x y : Int) (w : World) : (binOpG .eql T a b (.int k x) (.int k y)).run P w = .ok (.bool (decide (x = y))) w := by
  have : (x == y) = decide (x = y) := by rw [Bool.eq_iff_iff]; simp
  simp [binOpG, eqGuard_at_int, binOp, Op.intCmp, this]
theorem run_neq (T : TypeId) (k : IntKind) (a b : Operand) (x y : Int) (w : World) : (binOpG .neq T a b (.int k x) (.int k y)).run P w = .ok (.bool (decide (x ≠ y))) w := by
  have : (x != y) = decide (x ≠ y) := by rw [Bool.eq_iff_iff]; simp
  simp [binOpG, eqGuard_at_int, binOp, Op.intCmp, this]
theorem run_not (T : TypeId) (b : Bool) (w : World) : (Op.unary .not (.bool b)).run P w = .ok (.bool (!b)) w := rfl
theorem run_pick (c : Bool) (a b : Value) (w : World) : (pickS (.bool c) a b).run P w = .ok (if c = true then a else b) w := by simp [pickS, asBool]
theorem run_extract0 (a : Value) (l : List Value) (w : World) : (Instr.extract (.tuple (a :: l).toArray) 0).run P w = .ok a w := by simp [Instr.extract]
theorem run_extract1 (a b : Value) (l : List Value) (w : World) : (Instr.extract (.tuple (a :: b :: l).toArray) 1).run P w = .ok b w := by simp [Instr.extract]
theorem run_extract2 (a b c : Value) (l : List Value) (w : World) : (Instr.extract (.tuple (a :: b :: c :: l).toArray) 2).run P w = .ok c w := by simp [Instr.extract]
theorem run_extract3 (a b c d : Value) (l : List Value) (w : World) : (Instr.extract (.tuple (a :: b :: c :: d :: l).toArray) 3).run P w = .ok d w := by simp [Instr.extract]
theorem run_nilS (a : Addr) (w : World) : (nilS (.pointer (some a))).run P w = .ok (.pointer (some a)) w := rfl
theorem run_string_eql (T : TypeId) (a b : Operand) (x y : ByteArray) (w : World) : (binOpG .eql T a b (.string x) (.string y)).run P w = .ok (.bool (x.toList == y.toList)) w := by
  simp [binOpG, eqGuard_at_string, binOp, Op.stringOp]
theorem run_string_neq (T : TypeId) (a b : Operand) (x y : ByteArray) (w : World) : (binOpG .neq T a b (.string x) (.string y)).run P w = .ok (.bool (x.toList != y.toList)) w := by
  simp [binOpG, eqGuard_at_string, binOp, Op.stringOp, bne]
theorem run_string_lss (T : TypeId) (x y : ByteArray) (w : World) : (binOp .lss T (.string x) (.string y)).run P w = .ok (.bool (Op.bytesLess x.toList y.toList)) w := by
  simp [binOp, Op.stringOp]
theorem run_string_add (T : TypeId) (x y : ByteArray) (h : x.size + y.size ≤ 9223372036854775807) (w : World) : (binOp .add T (.string x) (.string y)).run P w = .ok (.string (x ++ y)) w := by
  have : ¬ ((9223372036854775807 : Int) < (x.size : Int) + (y.size : Int)) := by omega
  simp [binOp, Op.stringOp, this]
theorem equal_succ (T : TypeId) (x y : Value) : Op.equal T x y = Op.equalIn (9999 + 1) T x y := rfl
theorem run_equal_bool {T : TypeId} (hT : P.underlying T = some .bool) (x y : Bool) (w : World) : (Op.equal T (.bool x) (.bool y)).run P w = .ok (x == y) w := by
  rw [equal_succ]
  unfold Op.equalIn
  rw [Sem.run_bind, run_underlying hT]
  rfl
theorem run_equal_nil {T e : TypeId} (hT : P.underlying T = some (.pointer e)) (p : Option Addr) (w : World) : (Op.equal T (.pointer p) (.pointer none)).run P w = .ok p.isNone w := by
  rw [equal_succ]
  unfold Op.equalIn
  rw [Sem.run_bind, run_underlying hT]
  cases p <;> rfl
theorem run_eql_bool {T : TypeId} (hT : P.underlying T = some .bool) (a b : Operand) (x y : Bool) (w : World) : (binOpG .eql T a b (.bool x) (.bool y)).run P w = .ok (.bool (x == y)) w := by
  show ((do eqGuard .eql T a b (.bool x) (.bool y); let r ← Op.equal T (.bool x) (.bool y); pure (.bool r) : Sem Value)).run P w = _
  rw [eqGuard_at_bool]
  simp only [Sem.run_bind, Sem.run_pure, Result.andThen_ok, run_equal_bool hT]
theorem run_eql_nil {T e : TypeId} (hT : P.underlying T = some (.pointer e)) (a b : Operand) (p : Option Addr) (w : World) : (binOpG .eql T a b (.pointer p) (.pointer none)).run P w = .ok (.bool p.isNone) w := by
  have e1 : binOpG .eql T a b (.pointer p) (.pointer none) = (do eqGuard .eql T a b (.pointer p) (.pointer none); let r ← Op.equal T (.pointer p) (.pointer none); pure (.bool r) : Sem Value) := by cases p <;> rfl
  rw [e1, eqGuard_at_pointer]
  simp only [Sem.run_bind, Sem.run_pure, Result.andThen_ok, run_equal_nil hT]
theorem run_neq_nil {T e : TypeId} (hT : P.underlying T = some (.pointer e)) (a b : Operand) (p : Option Addr) (w : World) : (binOpG .neq T a b (.pointer p) (.pointer none)).run P w = .ok (.bool p.isSome) w := by
  have e1 : binOpG .neq T a b (.pointer p) (.pointer none) = (do eqGuard .neq T a b (.pointer p) (.pointer none); let r ← Op.equal T (.pointer p) (.pointer none); pure (.bool !r) : Sem Value) := by cases p <;> rfl
  rw [e1, eqGuard_at_pointer]
  simp only [Sem.run_bind, Sem.run_pure, Result.andThen_ok, run_equal_nil hT]
  cases p <;> rfl
theorem run_len_sl {T e : TypeId} (hT : P.underlying T = some (.slice e)) (U : TypeId) (a : Option Addr) (n c : Nat) (w : World) : (Builtin.len_ #[T] U #[.slice a n c]).run P w = .ok (.int .i64 (n : Int)) w := by
  simp [Builtin.len_, run_underlying hT, goInt]
theorem run_conv_int {S T : TypeId} {d : TypeDesc} {k : IntKind} (hS : P.underlying S = some d) (hT : P.underlying T = some (.int k)) (j : IntKind) (n : Int) (w : World) : (convert S T (.int j n)).run P w = .ok (.int k (k.wrap n)) w := by
  simp [convert, run_underlying hS, run_underlying hT, Conv.intToInt]
theorem run_shr {T : TypeId} {k yk : IntKind} (x y : Int) (h0 : 0 ≤ y) (w : World) : (binOp .shr T (.int k x) (.int yk y)).run P w = .ok (.int k (x.fdiv (2 ^ (min y.toNat k.bits)))) w := by
  have : ¬ y < 0 := by omega
  simp [binOp, Op.shift, this]
theorem run_shl {T : TypeId} {k yk : IntKind} (x y : Int) (h0 : 0 ≤ y) (w : World) : (binOp .shl T (.int k x) (.int yk y)).run P w = .ok (.int k (k.wrap (x * 2 ^ (min y.toNat k.bits)))) w := by
  have : ¬ y < 0 := by omega
  simp [binOp, Op.shift, this]
end
section
variable {P : Program}
theorem run_slice {T e : TypeId} (hT : P.underlying T = some (.slice e)) (hi : infoB P e = true) (a : Option Addr) (n c : Nat) (kl kh : IntKind) (lo hi' : Nat) (h1 : lo ≤ hi') (h2 : hi' ≤ c) (w : World) :
    (Instr.sliceAt T (.slice a n c) (some (.int kl lo)) (some (.int kh hi')) none).run P w = .ok (.slice (if c = lo then a else a.map (·.add (lo * szT P e))) (hi' - lo) (c - lo)) w := by
  simp [Instr.sliceAt, Instr.slice, run_underlying hT, Instr.sliceBounds, Instr.sliceBound, asIntOf, sizeOf_run hi, h1, h2]
theorem run_slice_lo {T e : TypeId} (hT : P.underlying T = some (.slice e)) (hi : infoB P e = true) (a : Option Addr) (n c : Nat) (kl : IntKind) (lo : Nat) (h1 : lo ≤ n) (w : World) :
    (Instr.sliceAt T (.slice a n c) (some (.int kl lo)) none none).run P w = .ok (.slice (if c = lo then a else a.map (·.add (lo * szT P e))) (n - lo) (c - lo)) w := by
  simp [Instr.sliceAt, Instr.slice, run_underlying hT, Instr.sliceBounds, Instr.sliceBound, asIntOf, sizeOf_run hi, h1]
theorem run_slice_hi {T e : TypeId} (hT : P.underlying T = some (.slice e)) (hi : infoB P e = true) (a : Option Addr) (n c : Nat) (kh : IntKind) (hi' : Nat) (h2 : hi' ≤ c) (w : World) :
    (Instr.sliceAt T (.slice a n c) none (some (.int kh hi')) none).run P w = .ok (.slice (if c = 0 then a else a.map (·.add 0)) hi' c) w := by
  simp [Instr.sliceAt, Instr.slice, run_underlying hT, Instr.sliceBounds, Instr.sliceBound, asIntOf, sizeOf_run hi, h2]
theorem map_add0 (a : Option Addr) (c : Nat) : (if c = 0 then a else a.map (·.add 0)) = a := by
  cases a <;> simp [Addr.add]
theorem run_index {T e : TypeId} (hT : P.underlying T = some (.slice e)) (hi : infoB P e = true) (a : Addr) (n c : Nat) (k : IntKind) (i : Nat) (h : i < n) (w : World) :
    (Instr.indexAt T (.slice (some a) n c) (.int k i)).run P w = .ok (.pointer (some (a.add (i * szT P e)))) w := by
  have h' : ¬ n ≤ i := by omega
  simp [Instr.indexAt, run_underlying hT, asIntOf, sizeOf_run hi, h']
theorem run_index_arr {T e m : Nat} (hT : P.underlying T = some (.array m e)) (hi : infoB P e = true) (a : Addr) (k : IntKind) (i : Nat) (h : i < m) (w : World) :
    (Instr.indexAt T (.pointer (some a)) (.int k i)).run P w = .ok (.pointer (some (a.add (i * szT P e)))) w := by
  have h' : ¬ m ≤ i := by omega
  simp [Instr.indexAt, run_underlying hT, asIntOf, sizeOf_run hi, h', Instr.sureAddr]
theorem run_slice_arr {T e m : Nat} (hT : P.underlying T = some (.array m e)) (hi : infoB P e = true) (a : Addr) (kl kh : IntKind) (lo hi' : Nat) (h1 : lo ≤ hi') (h2 : hi' ≤ m) (w : World) :
    (Instr.sliceAt T (.pointer (some a)) (some (.int kl lo)) (some (.int kh hi')) none).run P w = .ok (.slice (some (if m = lo then a else a.add (lo * szT P e))) (hi' - lo) (m - lo)) w := by
  simp [Instr.sliceAt, Instr.sureAddr, run_underlying hT, Instr.sliceBounds, Instr.sliceBound, asIntOf, sizeOf_run hi, h1, h2]
theorem run_slice_arr_hi {T e m : Nat} (hT : P.underlying T = some (.array m e)) (hi : infoB P e = true) (a : Addr) (kh : IntKind) (hi' : Nat) (h2 : hi' ≤ m) (w : World) :
    (Instr.sliceAt T (.pointer (some a)) none (some (.int kh hi')) none).run P w = .ok (.slice (some a) hi' m) w := by
  have : (if m = 0 then a else a.add 0) = a := by simp [Addr.add]
  simp [Instr.sliceAt, Instr.sureAddr, run_underlying hT, Instr.sliceBounds, Instr.sliceBound, asIntOf, sizeOf_run hi, h2, this]
theorem run_slice_arr_all {T e m : Nat} (hT : P.underlying T = some (.array m e)) (hi : infoB P e = true) (a : Addr) (w : World) :
    (Instr.sliceAt T (.pointer (some a)) none none none).run P w = .ok (.slice (some a) m m) w := by
  have : (if m = 0 then a else a.add 0) = a := by simp [Addr.add]
  simp [Instr.sliceAt, Instr.sureAddr, run_underlying hT, Instr.sliceBounds, sizeOf_run hi, this]
theorem run_slice_arr_lo {T e m : Nat} (hT : P.underlying T = some (.array m e)) (hi : infoB P e = true) (a : Addr) (kl : IntKind) (lo : Nat) (h1 : lo ≤ m) (w : World) :
    (Instr.sliceAt T (.pointer (some a)) (some (.int kl lo)) none none).run P w = .ok (.slice (some (if m = lo then a else a.add (lo * szT P e))) (m - lo) (m - lo)) w := by
  simp [Instr.sliceAt, Instr.sureAddr, run_underlying hT, Instr.sliceBounds, Instr.sliceBound, asIntOf, sizeOf_run hi, h1]
end
section
variable {P : Program}
theorem X_of {s : Sem Value} {w w1 : World} {v : Value} {K : Value → World → Prop} (h : s.run P w = .ok v w1) (hK : K v w1) : X P s w K := by rw [X_ok h]; exact hK
theorem XP_of {s : Sem Value} {w : World} {v : Value} {K : Value → World → Prop} (h : ∀ w', s.run P w' = .ok v w') (hK : K v w) : XP P s w K := by rw [XP_ok h]; exact hK
theorem sl_both {T e : TypeId} (hT : P.underlying T = some (.slice e)) (hi : infoB P e = true) {a : Option Addr} {n c : Nat} {kl kh : IntKind} {li hj : Int} (lo h' : Nat) (e1 : li = lo) (e2 : hj = h') (h1 : lo ≤ h') (h2 : h' ≤ c) (w : World) :
    (Instr.sliceAt T (.slice a n c) (some (.int kl li)) (some (.int kh hj)) none).run P w = .ok (.slice (if c = lo then a else a.map (·.add (lo * szT P e))) (h' - lo) (c - lo)) w := by
  subst e1; subst e2; exact run_slice hT hi a n c kl kh lo h' h1 h2 w
theorem sl_lo {T e : TypeId} (hT : P.underlying T = some (.slice e)) (hi : infoB P e = true) {a : Option Addr} {n c : Nat} {kl : IntKind} {li : Int} (lo : Nat) (e1 : li = lo) (h1 : lo ≤ n) (w : World) :
    (Instr.sliceAt T (.slice a n c) (some (.int kl li)) none none).run P w = .ok (.slice (if c = lo then a else a.map (·.add (lo * szT P e))) (n - lo) (c - lo)) w := by
  subst e1; exact run_slice_lo hT hi a n c kl lo h1 w
theorem sl_hi {T e : TypeId} (hT : P.underlying T = some (.slice e)) (hi : infoB P e = true) {a : Option Addr} {n c : Nat} {kh : IntKind} {hj : Int} (h' : Nat) (e2 : hj = h') (h2 : h' ≤ c) (w : World) :
    (Instr.sliceAt T (.slice a n c) none (some (.int kh hj)) none).run P w = .ok (.slice a h' c) w := by
  subst e2; rw [run_slice_hi hT hi a n c kh h' h2 w, map_add0]
theorem ix {T e : TypeId} (hT : P.underlying T = some (.slice e)) (hi : infoB P e = true) {a : Addr} {n c : Nat} {k : IntKind} {ii : Int} (i : Nat) (e1 : ii = i) (h : i < n) (w : World) :
    (Instr.indexAt T (.slice (some a) n c) (.int k ii)).run P w = .ok (.pointer (some (a.add (i * szT P e)))) w := by
  subst e1; exact run_index hT hi a n c k i h w
theorem ix_arr {T e m : Nat} (hT : P.underlying T = some (.array m e)) (hi : infoB P e = true) {a : Addr} {k : IntKind} {ii : Int} (i : Nat) (e1 : ii = i) (h : i < m) (w : World) :
    (Instr.indexAt T (.pointer (some a)) (.int k ii)).run P w = .ok (.pointer (some (a.add (i * szT P e)))) w := by
  subst e1; exact run_index_arr hT hi a k i h w
theorem cut_lo {T e : TypeId} (hT : P.underlying T = some (.slice e)) (hi : infoB P e = true) (hs : szT P e = 1) {v : Value} {bs : List UInt8} {w0 : World} (hb : Bts w0 v bs) {kl : IntKind} {li : Int} (lo : Nat) (e1 : li = lo) (h1 : lo ≤ bs.length) :
    ∃ u, (∀ w, (Instr.sliceAt T v (some (.int kl li)) none none).run P w = .ok u w) ∧ Bts w0 u (bs.drop lo) ∧ u.ownBlock = v.ownBlock := by
  obtain ⟨a, c, rfl, h2, h3, h4⟩ := hb
  refine ⟨_, fun w => sl_lo hT hi lo e1 h1 w, ?_, ?_⟩
  · rw [hs, Nat.mul_one]
    have := Bts.cut (hi := bs.length) (lo := lo) ⟨a, c, rfl, h2, h3, h4⟩ h1 (Nat.le_refl _)
    rwa [List.take_length] at this
  · rw [hs, Nat.mul_one]; exact cut_block _ _ _ _
theorem cut_hi {T e : TypeId} (hT : P.underlying T = some (.slice e)) (hi : infoB P e = true) {v : Value} {bs : List UInt8} {w0 : World} (hb : Bts w0 v bs) {kh : IntKind} {hj : Int} (h' : Nat) (e2 : hj = h') (h1 : h' ≤ bs.length) :
    ∃ u, (∀ w, (Instr.sliceAt T v none (some (.int kh hj)) none).run P w = .ok u w) ∧ Bts w0 u (bs.take h') ∧ u.ownBlock = v.ownBlock := by
  obtain ⟨a, c, rfl, h2, h3, h4⟩ := hb
  refine ⟨_, fun w => sl_hi hT hi h' e2 (by omega) w, ?_, by cases a <;> rfl⟩
  have hl : (bs.take h').length = h' := by simp; omega
  refine ⟨a, c, by rw [hl], by omega, h3, fun hn => ?_⟩
  obtain ⟨ad, rfl, hc⟩ := h4 (by omega)
  refine ⟨ad, rfl, fun j u hj => hc j u ?_⟩
  rw [List.getElem?_take] at hj
  split at hj
  · exact hj
  · cases hj
theorem cut_both {T e : TypeId} (hT : P.underlying T = some (.slice e)) (hi : infoB P e = true) (hs : szT P e = 1) {v : Value} {bs : List UInt8} {w0 : World} (hb : Bts w0 v bs) {kl kh : IntKind} {li hj : Int} (lo h' : Nat) (e1 : li = lo) (e2 : hj = h') (h1 : lo ≤ h') (h2 : h' ≤ bs.length) :
    ∃ u, (∀ w, (Instr.sliceAt T v (some (.int kl li)) (some (.int kh hj)) none).run P w = .ok u w) ∧ Bts w0 u ((bs.take h').drop lo) ∧ u.ownBlock = v.ownBlock := by
  obtain ⟨a, c, rfl, h3, h4, h5⟩ := hb
  refine ⟨_, fun w => sl_both hT hi lo h' e1 e2 h1 (by omega) w, ?_, ?_⟩
  · rw [hs, Nat.mul_one]
    exact Bts.cut (hi := h') (lo := lo) ⟨a, c, rfl, h3, h4, h5⟩ h1 h2
  · rw [hs, Nat.mul_one]; exact cut_block _ _ _ _
theorem at_bts {T e : TypeId} (hT : P.underlying T = some (.slice e)) (hi : infoB P e = true) (hs : szT P e = 1) {v : Value} {bs : List UInt8} {w0 : World} (hb : Bts w0 v bs) {k : IntKind} {ii : Int} (i : Nat) (e1 : ii = i) (h : i < bs.length) :
    ∃ a, (∀ w, (Instr.indexAt T v (.int k ii)).run P w = .ok (.pointer (some a)) w) ∧ w0.cell? a = some (.int .u8 (bs[i].toNat : Int)) ∧ v.ownBlock = some a.block := by
  obtain ⟨a, c, rfl, h3, h4, h5⟩ := hb
  obtain ⟨ad, rfl, hc⟩ := h5 (by omega)
  refine ⟨_, fun w => ix hT hi i e1 h w, ?_, ?_⟩
  · rw [hs, Nat.mul_one]; exact hc i _ (List.getElem?_eq_getElem h)
  · show some ad.block = some (ad.add _).block
    congr 1
    unfold Addr.add
    split <;> rfl
end
section
variable {P : Program} {w : World} {K : Value → World → Prop}
theorem X_make {t e : TypeId} {size bytes : Nat} {z : Value} (ht : P.underlying t = some (.slice e)) (hE : El P e size z bytes) {kl kc : IntKind} {li ci : Int} (n c : Nat) (e1 : li = n) (e2 : ci = c) (hn : n ≤ c) (hb : bytes * c ≤ 281474976710656) (hc : c ≤ 9223372036854775807)
    (h : K (.slice (some ⟨w.heap.size, 0, none⟩) n c) (newB w (madeCells z.cells (c * size)) e)) : X P (Instr.makeSlice t (.int kl li) (.int kc ci)) w K := by
  subst e1; subst e2
  obtain ⟨⟨i, hi, rfl, hz, rfl⟩, _⟩ := hE
  have hb' : (i.bytes : Int) * (c : Int) ≤ 281474976710656 := by
    have : ((i.bytes * c : Nat) : Int) ≤ 281474976710656 := by omega
    rwa [Int.natCast_mul] at this
  have hr := run_make (P := P) w t e i z ht hi hz kl kc n c (by omega) (by omega) hb' (by omega)
  simp only [Int.toNat_natCast] at hr
  rw [X_ok hr]
  exact h
theorem made_one (z : Value) (n : Nat) : (madeCells #[z] n).toList = List.replicate n z := toList_madeCells_one z n
theorem X_copy_bts {t u U e : TypeId} (ht : P.underlying t = some (.slice e)) (hE : (P.info? e).map (·.size) = some 1) {g o n c : Nat} {cur : Array Value} {T : TypeId} (hg : w.heap[g]? = some (.cells cur T (0, 0)))
    {x : Value} {bs : List UInt8} (hx : Bts w x bs) (hfit : o + min bs.length n ≤ cur.size)
    (h : ∀ w1, w1.heap[g]? = some (.cells (cur.toList.take o ++ B8 (bs.take n) ++ cur.toList.drop (o + min bs.length n)).toArray T (0, 0)) → w1.heap.size = w.heap.size → Keep (· = g) w w1 → K (.int .i64 (min bs.length n : Nat)) w1) :
    X P (Builtin.copy_ #[t, u] U #[.slice (some ⟨g, o, none⟩) n c, x]) w K := by
  obtain ⟨a, cx, rfl, h1, h2, h3⟩ := hx
  have hl : (B8 (bs.take n)).length = min bs.length n := by simp [Nat.min_comm]
  have fin : ∀ w1, w1 = w.setRow g (cur.toList.take o ++ B8 (bs.take n) ++ cur.toList.drop (o + (B8 (bs.take n)).length)).toArray → K (.int .i64 (min bs.length n : Nat)) w1 := by
    rintro w1 rfl
    refine h _ ?_ ?_ ?_
    · rw [← hl]; exact setRow_heap w g cur _ T _ hg
    · simp [World.setRow]
    · exact ⟨rfl, rfl, rfl, by simp [World.setRow], fun i _ hd => setRow_other w g i _ hd⟩
  by_cases h0 : 0 < bs.length
  · obtain ⟨ad, rfl, hc⟩ := h3 h0
    have hr := run_copy_row (P := P) w t u U e g o n c ad bs.length cx cur T (B8 (bs.take n)) ht hE hg (by rw [hl]) (fun j v hj => ?_) (by rw [hl]; exact hfit) B8_one
    · rw [X_ok hr]
      have e1 : goInt ((B8 (bs.take n)).length : Int) = .int .i64 (min bs.length n : Nat) := by rw [hl]; rfl
      rw [e1]
      exact fin _ rfl
    · rw [B8_getElem?, List.getElem?_take] at hj
      split at hj
      · cases hb : bs[j]? with
        | none => rw [hb] at hj; cases hj
        | some y => rw [hb] at hj; cases hj; exact hc j y hb
      · cases hj
  · have hb : bs = [] := List.eq_nil_of_length_eq_zero (by omega)
    subst hb
    obtain ⟨i, hi, hs⟩ := Option.map_eq_some_iff.1 hE
    have hr : (Builtin.copy_ #[t, u] U #[.slice (some ⟨g, o, none⟩) n c, .slice a 0 cx]).run P w = .ok (.int .i64 0) w := by
      have hfc : (Builtin.firstCells 1 0 (.slice a 0 cx)).run P w = .ok #[] w := by cases a <;> simp [Builtin.firstCells, loadCells, loadCellsFrom]
      have hm : Nat.min 0 n = 0 := Nat.zero_min n
      simp [Builtin.copy_, run_underlying ht, Builtin.lenOf, sizeOf, typeInfo, hi, hs, hfc, hm, storeCells, goInt]
    have hr' : (Builtin.copy_ #[t, u] U #[.slice (some ⟨g, o, none⟩) n c, .slice a ([] : List UInt8).length cx]).run P w = .ok (.int .i64 0) w := hr
    rw [X_ok hr']
    have : (.int .i64 0 : Value) = .int .i64 (min ([] : List UInt8).length n : Nat) := by simp
    rw [this]
    refine fin w ?_
    simp only [List.take_nil, B8, List.map_nil, List.append_nil, List.length_nil, Nat.add_zero, List.take_append_drop, Array.toArray_toList]
    exact (setRow_self w g cur T (0, 0) hg).symm
theorem X_append {base : Nat} {t U e : TypeId} {size bytes : Nat} {z : Value} (ht : P.underlying t = some (.slice e)) (hE : El P e size z bytes) (h0 : 0 < size) {v : Value} {n : Nat} {xs : List Value} (hown : w.ownsRow base e size v n xs)
    {a : Addr} {m c : Nat} {news : List Value} (hl : news.length = m * size) (hnews : ∀ j u, news[j]? = some u → w.cell? (a.add j) = some u) (h1 : ∀ u ∈ news, u.oneCell' = true)
    (hb : (n + m) * bytes ≤ 140737488355328) (hb0 : 0 < bytes) (hbase : base ≤ w.heap.size)
    (h : ∀ v' w1, w1.ownsRow base e size v' (n + m) (xs ++ news) → Keep (fun k => some k = v.ownBlock) w w1 → K v' w1) : X P (Builtin.append_ #[t, t] U #[v, .slice (some a) m c]) w K := by
  obtain ⟨⟨i, hi, hs, hz, hby⟩, hzc⟩ := hE
  have hm : n + m ≤ 140737488355328 := Nat.le_trans (Nat.le_mul_of_pos_right _ hb0) hb
  obtain ⟨v', w1, hr, h2, h3, _⟩ := run_append_own (P := P) w base t U e i z size bytes ht hi hz hs hby hzc h0 v n xs hown a m c news hl hnews h1 (by simp only [maxLen]; omega) hb hbase
  rw [X_ok hr]
  exact h v' w1 h2 (keep_grown h3)
theorem X_append_none {base : Nat} {t U e : TypeId} {size bytes : Nat} {z : Value} (ht : P.underlying t = some (.slice e)) (hE : El P e size z bytes) {v : Value} {n : Nat} {xs : List Value} (hown : w.ownsRow base e size v n xs) {c : Nat}
    (h : K v w) : X P (Builtin.append_ #[t, t] U #[v, .slice none 0 c]) w K := by
  obtain ⟨⟨i, hi, hs, hz, hby⟩, hzc⟩ := hE
  have hr : (Builtin.append_ #[t, t] U #[v, .slice none 0 c]).run P w = .ok v w := by
    rcases hown.2 with ⟨rfl, hn⟩ | ⟨g, cap, cur, rfl, _, _, hnc, _⟩
    · simp [Builtin.append_, run_underlying ht, sizeOf, typeInfo, hi, Builtin.lenOf, Builtin.firstCells]
    · simp [Builtin.append_, run_underlying ht, sizeOf, typeInfo, hi, Builtin.lenOf, Builtin.firstCells, hnc, storeCells]
  rw [X_ok hr]
  exact h
theorem X_append_bts {base : Nat} {t U e : TypeId} (ht : P.underlying t = some (.slice e)) (hE : El P e 1 (.int .u8 0) 1) {v : Value} {n : Nat} {xs : List UInt8} (hown : w.ownsRow base e 1 v n (B8 xs))
    {x : Value} {bs : List UInt8} (hx : Bts w x bs) (hb : n + bs.length ≤ 140737488355328) (hbase : base ≤ w.heap.size)
    (h : ∀ v' w1, w1.ownsRow base e 1 v' (n + bs.length) (B8 (xs ++ bs)) → Keep (fun k => some k = v.ownBlock) w w1 → K v' w1) : X P (Builtin.append_ #[t, t] U #[v, x]) w K := by
  obtain ⟨a, c, rfl, h1, h2, h3⟩ := hx
  by_cases h0 : 0 < bs.length
  · obtain ⟨ad, rfl, hc⟩ := h3 h0
    refine X_append ht hE (by decide) hown (news := B8 bs) (by simp) ?_ B8_one (by omega) (by decide) hbase (fun v' w1 ho hk => h v' w1 (by rw [B8_append]; exact ho) hk)
    intro j u hj
    rw [B8_getElem?] at hj
    cases hb : bs[j]? with
    | none => rw [hb] at hj; cases hj
    | some y => rw [hb] at hj; cases hj; exact hc j y hb
  · have : bs = [] := List.eq_nil_of_length_eq_zero (by omega)
    subst this
    cases a with
    | none => exact X_append_none ht hE hown (h v w (by simpa using hown) (Keep.refl _ w))
    | some ad =>
      refine X_append ht hE (by decide) hown (news := []) (by simp) (by simp) (by simp) (by simpa using hb) (by decide) hbase (fun v' w1 ho hk => h v' w1 (by simpa using ho) hk)
end
section
variable {P : Program} {w : World} {K : Value → World → Prop}
theorem X_buildSlice1 {T e bytes : Nat} {z : Value} (hT : P.underlying T = some (.slice e)) (hE : El P e 1 z bytes) {v : Value} (hv : v.oneCell' = true)
    (h : K (.slice (some ⟨w.heap.size, 0, none⟩) 1 1) (newB w #[v] e)) : X P (Instr.buildSlice T 1 #[(0, v)]) w K := by
  obtain ⟨⟨i, hi, hs, hz, _⟩, hzc⟩ := hE
  have hc : v.cells = #[v] := by cases v <;> simp_all [Value.cells, Value.oneCell']
  obtain ⟨z0, hz0⟩ : ∃ z0, z.cells = #[z0] := by
    match hh : z.cells, hzc with
    | ⟨[z0]⟩, _ => exact ⟨z0, rfl⟩
  refine X_of (v := .slice (some ⟨w.heap.size, 0, none⟩) 1 1) (w1 := newB w #[v] e) ?_ h
  simp [Instr.buildSlice, run_underlying hT, sizeOf, typeInfo, hi, hs, zeroValue, hz, Instr.fill, hc, hz0, newRow, Array.range_succ, Array.range_zero', newB]
theorem X_append_u8 {base : Nat} {t U e : TypeId} (ht : P.underlying t = some (.slice e)) (hE : El P e 1 (.int .u8 0) 1) {v : Value} {n : Nat} {xs : List UInt8} {u : UInt8}
    (hown : w.ownsRow base e 1 v n (B8 xs)) (hb : n + 1 ≤ 140737488355328) (hbase : base ≤ w.heap.size)
    (h : ∀ v' w1, w1.ownsRow base e 1 v' (n + 1) (B8 (xs ++ [u])) → Keep (fun k => some k = v.ownBlock) w w1 → K v' w1) :
    X P (Builtin.append_ #[t, t] U #[v, .slice (some ⟨w.heap.size, 0, none⟩) 1 1]) (newB w #[.int .u8 (u.toNat : Int)] e) K := by
  have ho' : (newB w #[.int .u8 (u.toNat : Int)] e).ownsRow base e 1 v n (B8 xs) := hown.alloc _
  refine X_append ht hE (by decide) ho' (news := [.int .u8 (u.toNat : Int)]) (by simp) ?_ (by simp [Value.oneCell']) (by omega) (by decide) (by rw [newB_size]; omega) ?_
  · intro j y hj
    have hj0 : j = 0 := by
      have := (List.getElem?_eq_some_iff.1 hj).1
      simp at this
      exact this
    subst hj0
    simp at hj
    subst hj
    rw [Addr.add_zero', cell_blk (newB_get _ _ _)]
    rfl
  · intro v' w1 ho hk
    refine h v' w1 (by rw [B8_append]; exact ho) ?_
    exact (newB_ext w _ e).ext.trans hk
end
end Go.Sh
end
section
namespace Go.Sh
open Go
theorem XR_eq {P : Program} {R : World → World → Prop} {s : Sem Value} {w : World} {v : Value} {K : Value → World → Prop} (h : ∀ w', s.run P w' = .ok v w') : XR P R s w K = K v w := by
  unfold XR; rw [h w]
  simp only [onR]
  exact propext ⟨fun h => h.2, fun k => ⟨fun w' _ => h w', k⟩⟩
section
variable {P : Program} (w : World) (K : Value → World → Prop)
theorem X_min (ts : Array TypeId) (T : TypeId) (k k' : IntKind) (x y : Int) : X P (Builtin.min_ ts T #[.int k x, .int k' y]) w K = K (.int k (min x y)) w := X_ok (run_min ts T k k' x y w)
theorem XP_min (ts : Array TypeId) (T : TypeId) (k k' : IntKind) (x y : Int) : XP P (Builtin.min_ ts T #[.int k x, .int k' y]) w K = K (.int k (min x y)) w := XP_ok (fun w' => run_min ts T k k' x y w')
theorem X_max (ts : Array TypeId) (T : TypeId) (k k' : IntKind) (x y : Int) : X P (Builtin.max_ ts T #[.int k x, .int k' y]) w K = K (.int k (max x y)) w := X_ok (run_max ts T k k' x y w)
theorem XP_max (ts : Array TypeId) (T : TypeId) (k k' : IntKind) (x y : Int) : XP P (Builtin.max_ ts T #[.int k x, .int k' y]) w K = K (.int k (max x y)) w := XP_ok (fun w' => run_max ts T k k' x y w')
theorem X_min4 (ts : Array TypeId) (T : TypeId) (k k' k2 k3 : IntKind) (x y z u : Int) : X P (Builtin.min_ ts T #[.int k x, .int k' y, .int k2 z, .int k3 u]) w K = K (.int k (min (min (min x y) z) u)) w := X_ok (run_min4 ts T k k' k2 k3 x y z u w)
theorem XP_min4 (ts : Array TypeId) (T : TypeId) (k k' k2 k3 : IntKind) (x y z u : Int) : XP P (Builtin.min_ ts T #[.int k x, .int k' y, .int k2 z, .int k3 u]) w K = K (.int k (min (min (min x y) z) u)) w := XP_ok (fun w' => run_min4 ts T k k' k2 k3 x y z u w')
theorem X_not (b : Bool) : X P (Op.unary .not (.bool b)) w K = K (.bool (!b)) w := X_ok (run_not 0 b w)
theorem XP_not (b : Bool) : XP P (Op.unary .not (.bool b)) w K = K (.bool (!b)) w := XP_ok (fun w' => run_not 0 b w')
theorem X_pick (c : Bool) (a b : Value) : X P (pickS (.bool c) a b) w K = K (if c = true then a else b) w := X_ok (run_pick c a b w)
theorem XP_pick (c : Bool) (a b : Value) : XP P (pickS (.bool c) a b) w K = K (if c = true then a else b) w := XP_ok (fun w' => run_pick c a b w')
theorem X_extract0 (a : Value) (l : List Value) : X P (Instr.extract (.tuple (a :: l).toArray) 0) w K = K (a) w := X_ok (run_extract0 a l w)
theorem XP_extract0 (a : Value) (l : List Value) : XP P (Instr.extract (.tuple (a :: l).toArray) 0) w K = K (a) w := XP_ok (fun w' => run_extract0 a l w')
theorem X_extract1 (a b : Value) (l : List Value) : X P (Instr.extract (.tuple (a :: b :: l).toArray) 1) w K = K (b) w := X_ok (run_extract1 a b l w)
theorem XP_extract1 (a b : Value) (l : List Value) : XP P (Instr.extract (.tuple (a :: b :: l).toArray) 1) w K = K (b) w := XP_ok (fun w' => run_extract1 a b l w')
theorem X_extract2 (a b c : Value) (l : List Value) : X P (Instr.extract (.tuple (a :: b :: c :: l).toArray) 2) w K = K (c) w := X_ok (run_extract2 a b c l w)
theorem XP_extract2 (a b c : Value) (l : List Value) : XP P (Instr.extract (.tuple (a :: b :: c :: l).toArray) 2) w K = K (c) w := XP_ok (fun w' => run_extract2 a b c l w')
theorem X_extract3 (a b c d : Value) (l : List Value) : X P (Instr.extract (.tuple (a :: b :: c :: d :: l).toArray) 3) w K = K (d) w := X_ok (run_extract3 a b c d l w)
theorem XP_extract3 (a b c d : Value) (l : List Value) : XP P (Instr.extract (.tuple (a :: b :: c :: d :: l).toArray) 3) w K = K (d) w := XP_ok (fun w' => run_extract3 a b c d l w')
theorem X_nilS (a : Addr) : X P (nilS (.pointer (some a))) w K = K (.pointer (some a)) w := X_ok (run_nilS a w)
theorem XP_nilS (a : Addr) : XP P (nilS (.pointer (some a))) w K = K (.pointer (some a)) w := XP_ok (fun w' => run_nilS a w')
theorem X_str_eql (T : TypeId) (a b : Operand) (x y : ByteArray) : X P (binOpG .eql T a b (.string x) (.string y)) w K = K (.bool (x.toList == y.toList)) w := X_ok (run_string_eql T a b x y w)
theorem XP_str_eql (T : TypeId) (a b : Operand) (x y : ByteArray) : XP P (binOpG .eql T a b (.string x) (.string y)) w K = K (.bool (x.toList == y.toList)) w := XP_ok (fun w' => run_string_eql T a b x y w')
theorem X_str_neq (T : TypeId) (a b : Operand) (x y : ByteArray) : X P (binOpG .neq T a b (.string x) (.string y)) w K = K (.bool (x.toList != y.toList)) w := X_ok (run_string_neq T a b x y w)
theorem XP_str_neq (T : TypeId) (a b : Operand) (x y : ByteArray) : XP P (binOpG .neq T a b (.string x) (.string y)) w K = K (.bool (x.toList != y.toList)) w := XP_ok (fun w' => run_string_neq T a b x y w')
theorem X_str_lss (T : TypeId) (x y : ByteArray) : X P (binOp .lss T (.string x) (.string y)) w K = K (.bool (Op.bytesLess x.toList y.toList)) w := X_ok (run_string_lss T x y w)
theorem XP_str_lss (T : TypeId) (x y : ByteArray) : XP P (binOp .lss T (.string x) (.string y)) w K = K (.bool (Op.bytesLess x.toList y.toList)) w := XP_ok (fun w' => run_string_lss T x y w')
theorem X_eql (T : TypeId) (k : IntKind) (a b : Operand) (x y : Int) : X P (binOpG .eql T a b (.int k x) (.int k y)) w K = K (.bool (decide (x = y))) w := X_ok (run_eql T k a b x y w)
theorem XP_eql (T : TypeId) (k : IntKind) (a b : Operand) (x y : Int) : XP P (binOpG .eql T a b (.int k x) (.int k y)) w K = K (.bool (decide (x = y))) w := XP_ok (fun w' => run_eql T k a b x y w')
theorem X_neq (T : TypeId) (k : IntKind) (a b : Operand) (x y : Int) : X P (binOpG .neq T a b (.int k x) (.int k y)) w K = K (.bool (decide (x ≠ y))) w := X_ok (run_neq T k a b x y w)
theorem XP_neq (T : TypeId) (k : IntKind) (a b : Operand) (x y : Int) : XP P (binOpG .neq T a b (.int k x) (.int k y)) w K = K (.bool (decide (x ≠ y))) w := XP_ok (fun w' => run_neq T k a b x y w')
theorem X_add (T : TypeId) (k : IntKind) (x y : Int) : X P (binOp .add T (.int k x) (.int k y)) w K = K (.int k (k.wrap (x + y))) w := X_ok (run_add T k x y w)
theorem XP_add (T : TypeId) (k : IntKind) (x y : Int) : XP P (binOp .add T (.int k x) (.int k y)) w K = K (.int k (k.wrap (x + y))) w := XP_ok (fun w' => run_add T k x y w')
theorem X_sub (T : TypeId) (k : IntKind) (x y : Int) : X P (binOp .sub T (.int k x) (.int k y)) w K = K (.int k (k.wrap (x - y))) w := X_ok (run_sub T k x y w)
theorem XP_sub (T : TypeId) (k : IntKind) (x y : Int) : XP P (binOp .sub T (.int k x) (.int k y)) w K = K (.int k (k.wrap (x - y))) w := XP_ok (fun w' => run_sub T k x y w')
theorem X_mul (T : TypeId) (k : IntKind) (x y : Int) : X P (binOp .mul T (.int k x) (.int k y)) w K = K (.int k (k.wrap (x * y))) w := X_ok (run_mul T k x y w)
theorem XP_mul (T : TypeId) (k : IntKind) (x y : Int) : XP P (binOp .mul T (.int k x) (.int k y)) w K = K (.int k (k.wrap (x * y))) w := XP_ok (fun w' => run_mul T k x y w')
theorem X_lss (T : TypeId) (k : IntKind) (x y : Int) : X P (binOp .lss T (.int k x) (.int k y)) w K = K (.bool (decide (x < y))) w := X_ok (run_lss T k x y w)
theorem XP_lss (T : TypeId) (k : IntKind) (x y : Int) : XP P (binOp .lss T (.int k x) (.int k y)) w K = K (.bool (decide (x < y))) w := XP_ok (fun w' => run_lss T k x y w')
theorem X_leq (T : TypeId) (k : IntKind) (x y : Int) : X P (binOp .leq T (.int k x) (.int k y)) w K = K (.bool (decide (x ≤ y))) w := X_ok (run_leq T k x y w)
theorem XP_leq (T : TypeId) (k : IntKind) (x y : Int) : XP P (binOp .leq T (.int k x) (.int k y)) w K = K (.bool (decide (x ≤ y))) w := XP_ok (fun w' => run_leq T k x y w')
theorem X_gtr (T : TypeId) (k : IntKind) (x y : Int) : X P (binOp .gtr T (.int k x) (.int k y)) w K = K (.bool (decide (x > y))) w := X_ok (run_gtr T k x y w)
theorem XP_gtr (T : TypeId) (k : IntKind) (x y : Int) : XP P (binOp .gtr T (.int k x) (.int k y)) w K = K (.bool (decide (x > y))) w := XP_ok (fun w' => run_gtr T k x y w')
theorem X_geq (T : TypeId) (k : IntKind) (x y : Int) : X P (binOp .geq T (.int k x) (.int k y)) w K = K (.bool (decide (x ≥ y))) w := X_ok (run_geq T k x y w)
theorem XP_geq (T : TypeId) (k : IntKind) (x y : Int) : XP P (binOp .geq T (.int k x) (.int k y)) w K = K (.bool (decide (x ≥ y))) w := XP_ok (fun w' => run_geq T k x y w')
end
set_option linter.defProp false in
def SS := And.intro (And.intro (And.intro (And.intro (And.intro (@condS_bool) (And.intro (@gstep_bool) (@joinS_eq))) (And.intro (And.intro (@thenS_normal) (@thenS_exit)) (And.intro (@thenS_ret) (@inBlockS_normal)))) (And.intro (And.intro (@inBlockS_ret) (And.intro (@inBlockS_same) (@upds_nil))) (And.intro (And.intro (@drewW_heap) (@newB_size)) (And.intro (@X_min) (@X_max))))) (And.intro (And.intro (And.intro (@X_min4) (And.intro (@X_not) (@X_pick))) (And.intro (And.intro (@X_extract0) (@X_extract1)) (And.intro (@X_extract2) (@X_extract3)))) (And.intro (And.intro (@X_nilS) (And.intro (@X_str_eql) (@X_str_neq))) (And.intro (And.intro (@X_str_lss) (@X_eql)) (And.intro (@X_neq) (@X_add)))))) (And.intro (And.intro (And.intro (And.intro (@X_sub) (And.intro (@X_mul) (@X_lss))) (And.intro (And.intro (@X_leq) (@X_gtr)) (And.intro (@X_geq) (@XP_min)))) (And.intro (And.intro (@XP_max) (And.intro (@XP_min4) (@XP_not))) (And.intro (And.intro (@XP_pick) (@XP_extract0)) (And.intro (@XP_extract1) (@XP_extract2))))) (And.intro (And.intro (And.intro (@XP_extract3) (And.intro (@XP_nilS) (@XP_str_eql))) (And.intro (And.intro (@XP_str_neq) (@XP_str_lss)) (And.intro (@XP_eql) (@XP_neq)))) (And.intro (And.intro (@XP_add) (And.intro (@XP_sub) (@XP_mul))) (And.intro (And.intro (@XP_lss) (@XP_leq)) (And.intro (@XP_gtr) (@XP_geq))))))
end Go.Sh
end
