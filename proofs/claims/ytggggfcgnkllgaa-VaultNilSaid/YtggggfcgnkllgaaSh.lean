/- A shallow reading of the loaded code: what each statement asks, said without slots; proved sound for the model's own runs. -/
import Derived.OrdersHeld
import Derived.Tactics
import Derived.KernelRfl
namespace Go.Sh
open Go

abbrev Env := Nat → Value

def upd (ρ : Env) (d : Nat) (v : Value) : Env := fun t => if t = d then v else ρ t
def updO (ρ : Env) (d : Option Nat) (v : Value) : Env :=
  match d with
  | some d => upd ρ d v
  | none => ρ
def upds (ρ : Env) (l : List (Nat × Value)) : Env :=
  match l with
  | [] => ρ
  | p :: l => upd (upds ρ l) p.1 p.2
def ev (ρ : Env) : Operand → Value
  | .tmp t => ρ t
  | .const v => v
  | .global g => .pointer (some ⟨g, 0, none⟩)
  | .func f => .func (.func f) #[] #[]

/-- It ran to its end, and K holds then. -/
def onR {α : Type} (r : Result α) (K : α → World → Prop) : Prop :=
  match r with
  | .ok v w => K v w
  | .halt _ _ => False
def X (P : Program) (s : Sem Value) (w : World) (K : Value → World → Prop) : Prop := onR (s.run P w) K
def XU (P : Program) (s : Sem Unit) (w : World) (K : World → Prop) : Prop := onR (s.run P w) fun _ w' => K w'
/-- It yields one value in whatever world. -/
def XP (P : Program) (s : Sem Value) (w : World) (K : Value → World → Prop) : Prop := onR (s.run P w) fun v _ => (∀ w', s.run P w' = .ok v w') ∧ K v w
/-- It yields one value in whatever world R leads to. -/
def XR (P : Program) (R : World → World → Prop) (s : Sem Value) (w : World) (K : Value → World → Prop) : Prop :=
  onR (s.run P w) fun v _ => (∀ w', R w w' → s.run P w' = .ok v w') ∧ K v w

theorem onR_ok {α : Type} (v : α) (w : World) (K : α → World → Prop) : onR (.ok v w) K = K v w := rfl
theorem onR_iff {α : Type} {r : Result α} {K : α → World → Prop} : onR r K ↔ ∃ v w', r = .ok v w' ∧ K v w' := by
  cases r with
  | ok v w =>
    constructor
    · intro h; exact ⟨v, w, rfl, h⟩
    · rintro ⟨_, _, e, h⟩; cases e; exact h
  | halt h w =>
    constructor
    · intro h; exact h.elim
    · rintro ⟨_, _, e, _⟩; cases e
@[congr] theorem onR_congr {α : Type} {r r' : Result α} (h : r = r') (K : α → World → Prop) : onR r K = onR r' K := by rw [h]
theorem X_iff {P : Program} {s : Sem Value} {w : World} {K : Value → World → Prop} : X P s w K ↔ ∃ v w', s.run P w = .ok v w' ∧ K v w' := onR_iff
theorem XU_iff {P : Program} {s : Sem Unit} {w : World} {K : World → Prop} : XU P s w K ↔ ∃ w', s.run P w = .ok () w' ∧ K w' := by
  unfold XU
  rw [onR_iff]
  constructor
  · rintro ⟨v, w', h⟩; exact ⟨w', h⟩
  · rintro ⟨w', h⟩; exact ⟨(), w', h⟩
theorem XP_iff {P : Program} {s : Sem Value} {w : World} {K : Value → World → Prop} : XP P s w K ↔ ∃ v, (∀ w', s.run P w' = .ok v w') ∧ K v w := by
  unfold XP
  rw [onR_iff]
  constructor
  · rintro ⟨v, w', _, h⟩; exact ⟨v, h⟩
  · rintro ⟨v, h⟩; exact ⟨v, w, h.1 w, h⟩
theorem XR_imp {P : Program} {R : World → World → Prop} {s : Sem Value} {w : World} {K : Value → World → Prop} (h : XR P R s w K) : ∃ v, (∀ w', R w w' → s.run P w' = .ok v w') ∧ K v w := by
  unfold XR at h
  rw [onR_iff] at h
  obtain ⟨v, w', _, h⟩ := h
  exact ⟨v, h⟩

def callOk (P : Program) (f : FuncId) : Bool :=
  match P.funcs[f]? with
  | some fn => !(fn.name == "runtime.NumGoroutine") && fn.body.isSome
  | none => false
def CALL (P : Program) (f : FuncId) (args : Array Value) (w : World) (K : Value → World → Prop) : Prop :=
  callOk P f = true ∧ Calls P f args w fun
    | .returned v, w' => K v w'
    | _, _ => False

theorem CALL.mono {P : Program} {f : FuncId} {args : Array Value} {K K' : Value → World → Prop} {w : World} (h : CALL P f args w K)
    (hk : ∀ v w', K v w' → K' v w') : CALL P f args w K' :=
  ⟨h.1, h.2.mono fun e w' he => by cases e <;> first | exact hk _ _ he | exact he⟩

def binOpG (op : BinOp) (t : TypeId) (x y : Operand) (a b : Value) : Sem Value := do eqGuard op t x y a b; binOp op t a b

def binOpS (op : BinOp) (t : TypeId) (x y : Operand) (a b : Value) : Sem Value :=
  match op with
  | .eql => binOpG .eql t x y a b
  | .neq => binOpG .neq t x y a b
  | op => binOp op t a b

def nilS (v : Value) : Sem Value :=
  match v with
  | .pointer none | .nilIface | .nilFunc => runtimePanic .nilDeref
  | .func (.method _) _ _ => stuck "not served"
  | v => pure v

def pickS (c a b : Value) : Sem Value := do pure (if ← asBool c then a else b)

/-- What an operation that is no call and no store does. -/
def opSem (ρ : Env) (o : Oper) : Sem Value :=
  match o.op with
  | .move x | .assign x => pure (ev ρ x)
  | .pick c a b => pickS (ev ρ c) (ev ρ a) (ev ρ b)
  | .alloc elem => Instr.alloc elem true (.tuple #[])
  | .box elem x => Instr.box elem (ev ρ x)
  | .build t parts => Instr.build t (parts.toList.map fun p => (p.1, ev ρ p.2)).toArray
  | .buildSlice t len parts => Instr.buildSlice t len (parts.toList.map fun p => (p.1, ev ρ p.2)).toArray
  | .load t a => Instr.loadAt t (ev ρ a)
  | .nilCheck x => nilS (ev ρ x)
  | .binOp op xType x y _ => binOpS op xType x y (ev ρ x) (ev ρ y)
  | .unOp op _ x => Op.unary op (ev ρ x)
  | .convert src dst x => convert src dst (ev ρ x)
  | .sliceToArrayPointer arr x => Instr.arrayAt arr (ev ρ x)
  | .makeFunc fn first captured => Instr.makeFunc fn (first.toList.map (ev ρ)).toArray (captured.toList.map (ev ρ)).toArray
  | .makeMap t r => Instr.makeMap t (r.map (ev ρ))
  | .makeSlice t l c => Instr.makeSlice t (ev ρ l) (ev ρ c)
  | .slice t x lo hi mx => Instr.sliceAt t (ev ρ x) (lo.map (ev ρ)) (hi.map (ev ρ)) (mx.map (ev ρ))
  | .fieldAddr s x f => Instr.fieldAt s (ev ρ x) f
  | .field xType x f => Instr.field xType (ev ρ x) f
  | .indexAddr t x ix => Instr.indexAt t (ev ρ x) (ev ρ ix)
  | .index xType x ix => Instr.index xType (ev ρ x) (ev ρ ix)
  | .lookup xType x ix ok => Instr.lookup xType (ev ρ x) (ev ρ ix) ok
  | .range xType x => Instr.range xType (ev ρ x)
  | .next it isString => Instr.next (ev ρ it) isString o.type
  | .entry it => Instr.entry (ev ρ it)
  | .extract t ix => Instr.extract (ev ρ t) ix
  | _ => stuck "not served"

def builtinSem (b : Builtin) (argTypes : Array TypeId) (type : TypeId) (args : Array Value) : Sem Value :=
  match b with
  | .append => Builtin.append_ argTypes type args
  | .cap => Builtin.cap_ argTypes type args
  | .clear => Builtin.clear_ argTypes type args
  | .copy => Builtin.copy_ argTypes type args
  | .delete => Builtin.delete_ argTypes type args
  | .len => Builtin.len_ argTypes type args
  | .max => Builtin.max_ argTypes type args
  | .min => Builtin.min_ argTypes type args
  | _ => stuck "not served"

def closS (P : Program) (f : Value) (args : Array Value) (w : World) (K : Value → World → Prop) : Prop :=
  match f with
  | .func (.func f) first captured => CALL P f (first ++ args ++ captured) w K
  | _ => False

def callS (P : Program) (ρ : Env) (c : Call) (type : TypeId) (w : World) (K : Value → World → Prop) : Prop :=
  match c.callee with
  | .value (.func f) => CALL P f (c.args.toList.map (ev ρ)).toArray w K
  | .value f => closS P (ev ρ f) (c.args.toList.map (ev ρ)).toArray w K
  | .builtin b => X P (builtinSem b c.argTypes type (c.args.toList.map (ev ρ)).toArray) w K
  | .invoke _ _ => False

def stepS (P : Program) (ρ : Env) (o : Oper) (w : World) (K : Value → World → Prop) : Prop :=
  match o.op with
  | .move x | .assign x => K (ev ρ x) w
  | .store t a x => XU P (Instr.storeAt t (ev ρ a) (ev ρ x)) w (fun w' => K undef w')
  | .mapUpdate t m k x => XU P (Instr.mapUpdate t (ev ρ m) (ev ρ k) (ev ρ x)) w (fun w' => K undef w')
  | .insert t m k x => XU P (Instr.mapUpdate t (ev ρ m) (ev ρ k) (ev ρ x)) w (fun w' => K undef w')
  | .call c => callS P ρ c o.type w K
  | _ => X P (opSem ρ o) w K

def gval (ops : Array Oper) (ρ : Env) (j : Nat) : Value :=
  match (ops[j]?).bind (·.dst) with
  | some d => ρ d
  | none => undef

def gstep (g : Value) (want : Bool) (S : World → (Value → World → Prop) → Prop) (w : World) (K : Value → World → Prop) : Prop :=
  match g with
  | .bool b => if b = want then S w K else K undef w
  | _ => K undef w

def stepG (P : Program) (ops : Array Oper) (ρ : Env) (o : Oper) (w : World) (K : Value → World → Prop) : Prop :=
  match o.guard with
  | none => stepS P ρ o w K
  | some (j, want) => gstep (gval ops ρ j) want (stepS P ρ o) w K

def opsS (P : Program) (ops : Array Oper) (K : Env → World → Prop) : List Oper → Env → World → Prop
  | [], ρ, w => K ρ w
  | o :: rest, ρ, w => stepG P ops ρ o w (fun v w' => opsS P ops K rest (updO ρ o.dst v) w')

/-! ### A statement that leaves its order open -/

/-- 0: it looks at no memory · 1: it looks at memory · 2: it acts. -/
def kindOf (o : Oper) : Nat :=
  match o.op with
  | .move _ | .assign _ | .pick .. | .build .. | .nilCheck _ | .binOp .. | .unOp .. | .sliceToArrayPointer .. | .slice .. | .fieldAddr .. | .field .. | .indexAddr .. | .index .. | .extract .. => 0
  | .call { callee := .builtin .len, .. } | .call { callee := .builtin .max, .. } | .call { callee := .builtin .min, .. } => 0
  | .load .. | .lookup .. | .convert .. => 1
  | _ => 2

def waitsB (o : Oper) (i : Nat) : Bool := o.after.any fun e => Region.binds .any e && e.on == i
def readsB (ops : Array Oper) (i : Nat) : Bool :=
  match ops[i]? with
  | some o => kindOf o == 1
  | none => false
/-- Is something that looks at memory laid already, for which number j need not wait? -/
def chkB (ops : Array Oper) (listed : Array Bool) (j : Nat) : Bool :=
  match ops[j]? with
  | some oj => (List.range ops.size).any fun i => listed.getD i false && readsB ops i && !waitsB oj i
  | none => false

def semOf (ρ : Env) (o : Oper) : Sem Value :=
  match o.op with
  | .call { callee := .builtin b, args, argTypes } => builtinSem b argTypes o.type (args.toList.map (ev ρ)).toArray
  | _ => opSem ρ o

/-- Number i, which acts on nothing, is taken. -/
def takeS (P : Program) (R : World → World → Prop) (ρ : Env) (o : Oper) (w : World) (K : Value → World → Prop) : Prop :=
  match o.op with
  | .move x | .assign x => K (ev ρ x) w
  | _ => match kindOf o with
    | 0 => XP P (semOf ρ o) w K
    | _ => XR P R (semOf ρ o) w K

def takeG (P : Program) (R : World → World → Prop) (ops : Array Oper) (ρ : Env) (o : Oper) (w : World) (K : Value → World → Prop) : Prop :=
  match o.guard with
  | none => takeS P R ρ o w K
  | some (j, want) => gstep (gval ops ρ j) want (takeS P R ρ o) w K

def andIf (b : Bool) (p q : Prop) : Prop :=
  match b with
  | true => p ∧ q
  | false => q

def allL (f : Nat → Prop) : List Nat → Prop
  | [] => True
  | [i] => f i
  | i :: j :: l => f i ∧ allL f (j :: l)

def canTake (ops : Array Oper) (listed : Array Bool) (i : Nat) : Bool :=
  match ops[i]? with
  | some o => kindOf o != 2 && Region.free .any ops listed i
  | none => false

def anyS (P : Program) (R : World → World → Prop) (ops : Array Oper) (K : Env → World → Prop) : Nat → Array Bool → Env → World → Prop
  | 0, _, ρ, w => K ρ w
  | fuel + 1, listed, ρ, w =>
    match Region.ready .any ops listed with
    | [] => K ρ w
    | i :: l =>
      match (i :: l).find? (canTake ops listed) with
      | some i => takeG P R ops ρ (ops.getD i default) w (fun v w' => anyS P R ops K fuel (listed.setIfInBounds i true) (updO ρ (ops.getD i default).dst v) w')
      | none => allL (fun i => stepG P ops ρ (ops.getD i default) w (fun v w' => andIf (chkB ops listed i) (R w w')
          (anyS P R ops K fuel (listed.setIfInBounds i true) (updO ρ (ops.getD i default).dst v) w'))) (i :: l)

def noSel (ops : Array Oper) : Bool := Region.noSelect ops

structure Frame? (R : World → World → Prop) : Prop where
  refl : ∀ w, R w w
  trans : ∀ a b c, R a b → R b c → R a c

def drewW (w : World) : World := { w with drawn := w.drawn + 1 }

def drawS (P : Program) (ops : Array Oper) (K : Env → World → Prop) (ρ : Env) (w : World) : Prop :=
  ∃ R : World → World → Prop, Frame? R ∧ anyS P R ops K ops.size (Array.replicate ops.size false) ρ (drewW w)

/-! ### Code -/
def thenS (K : Env → World → Prop) (Q : Exit → Env → World → Prop) : Exit → Env → World → Prop
  | .normal => K
  | e => Q e
def inBlockS (id : Nat) (Q : Exit → Env → World → Prop) : Exit → Env → World → Prop
  | .exit id' => if id' = id then Q .normal else Q (.exit id')
  | e => Q e
def condS (c : Value) (A B : Prop) : Prop :=
  match c with
  | .bool true => A
  | .bool false => B
  | _ => False
def loopS (B : (Exit → Env → World → Prop) → Env → World → Prop) (Q : Exit → Env → World → Prop) (ρ : Env) (w : World) : Prop :=
  ∃ (I : Env → World → Prop) (μ : Env → World → Nat), I ρ w ∧ ∀ ρ w, I ρ w → B (thenS (fun ρ' w' => I ρ' w' ∧ μ ρ' w' < μ ρ w) Q) ρ w

def sh (P : Program) : Code → (Exit → Env → World → Prop) → Env → World → Prop
  | .skip, Q, ρ, w => Q .normal ρ w
  | .region _ ops true, Q, ρ, w => drawS P ops (Q .normal) ρ w
  | .region _ ops false, Q, ρ, w => opsS P ops (Q .normal) ops.toList ρ w
  | .seq a b, Q, ρ, w => sh P a (thenS (sh P b Q) Q) ρ w
  | .cond c a b, Q, ρ, w => condS (ev ρ c) (sh P a Q ρ w) (sh P b Q ρ w)
  | .block id a, Q, ρ, w => sh P a (inBlockS id Q) ρ w
  | .loop a, Q, ρ, w => loopS (sh P a) Q ρ w
  | .exit id, Q, ρ, w => Q (.exit id) ρ w
  | .ret, Q, ρ, w => Q .ret ρ w
  | _, _, _, _ => False

def joinS (C : Env → World → Prop) (F : (Env → World → Prop) → Prop) : Prop := F C

def dstOk (n : Nat) (o : Oper) : Bool :=
  match o.dst with
  | some d => decide (d < n)
  | none => true
def codeOk (n : Nat) : Code → Bool
  | .region _ ops d => ops.all (dstOk n) && (!d || noSel ops)
  | .seq a b | .cond _ a b => codeOk n a && codeOk n b
  | .block _ a | .loop a => codeOk n a
  | _ => true

def resC (P : Program) (t : TypeId) (a : Value) (w : World) (K : Value → Prop) : Prop := onR ((do loadVar t (← asAddr a) : Sem Value).run P w) fun v w' => w' = w ∧ K v
def resS (P : Program) (ρ : Env) (w : World) : List ResultVar → (List Value → Prop) → Prop
  | [], K => K []
  | .tmp t :: rs, K => resS P ρ w rs (fun vs => K (ρ t :: vs))
  | .cell a t :: rs, K => resC P t (ρ a) w (fun v => resS P ρ w rs (fun vs => K (v :: vs)))
def oneS (K : Value → Prop) : List Value → Prop
  | [v] => K v
  | vs => K (.tuple vs.toArray)
def retS (P : Program) (rs : Array ResultVar) (K : Value → World → Prop) : Exit → Env → World → Prop
  | .normal, ρ, w | .ret, ρ, w => resS P ρ w rs.toList (oneS fun v => K v w)
  | _, _, _ => False

def env0 (args : Array Value) : Env := fun t => args.getD t undef

end Go.Sh
