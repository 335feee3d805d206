/- The walk's rules for steps that look at no memory. Printed by wip/opsx.py. -/
import Derived.Test.YtggggfcgnkllgaaOps
set_option linter.unusedVariables false
namespace Go.Sh
open Go
theorem XR_eq {P : Program} {R : World → World → Prop} {s : Sem Value} {w : World} {v : Value} {K : Value → World → Prop} (h : ∀ w', s.run P w' = .ok v w') : XR P R s w K = K v w := by
  unfold XR; rw [h w]
  simp only [onR]
  exact propext ⟨fun h => h.2, fun k => ⟨fun w' _ => h w', k⟩⟩
section
variable {P : Program} (w : World) (K : Value → World → Prop)
theorem X_min (ts : Array TypeId) (T : TypeId) (k k' : IntKind) (x y : Int) : X P (Builtin.min_ ts T #[.int k x, .int k' y]) w K = K (.int k (min x y)) w := X_ok (run_min ts T k k' x y w)
theorem XP_min (ts : Array TypeId) (T : TypeId) (k k' : IntKind) (x y : Int) : XP P (Builtin.min_ ts T #[.int k x, .int k' y]) w K = K (.int k (min x y)) w := XP_ok (fun w' => run_min ts T k k' x y w')
theorem X_max (ts : Array TypeId) (T : TypeId) (k k' : IntKind) (x y : Int) : X P (Builtin.max_ ts T #[.int k x, .int k' y]) w K = K (.int k (max x y)) w := X_ok (run_max ts T k k' x y w)
theorem XP_max (ts : Array TypeId) (T : TypeId) (k k' : IntKind) (x y : Int) : XP P (Builtin.max_ ts T #[.int k x, .int k' y]) w K = K (.int k (max x y)) w := XP_ok (fun w' => run_max ts T k k' x y w')
theorem X_min4 (ts : Array TypeId) (T : TypeId) (k k' k2 k3 : IntKind) (x y z u : Int) : X P (Builtin.min_ ts T #[.int k x, .int k' y, .int k2 z, .int k3 u]) w K = K (.int k (min (min (min x y) z) u)) w := X_ok (run_min4 ts T k k' k2 k3 x y z u w)
theorem XP_min4 (ts : Array TypeId) (T : TypeId) (k k' k2 k3 : IntKind) (x y z u : Int) : XP P (Builtin.min_ ts T #[.int k x, .int k' y, .int k2 z, .int k3 u]) w K = K (.int k (min (min (min x y) z) u)) w := XP_ok (fun w' => run_min4 ts T k k' k2 k3 x y z u w')
theorem X_not (b : Bool) : X P (Op.unary .not (.bool b)) w K = K (.bool (!b)) w := X_ok (run_not 0 b w)
theorem XP_not (b : Bool) : XP P (Op.unary .not (.bool b)) w K = K (.bool (!b)) w := XP_ok (fun w' => run_not 0 b w')
theorem X_pick (c : Bool) (a b : Value) : X P (pickS (.bool c) a b) w K = K (if c = true then a else b) w := X_ok (run_pick c a b w)
theorem XP_pick (c : Bool) (a b : Value) : XP P (pickS (.bool c) a b) w K = K (if c = true then a else b) w := XP_ok (fun w' => run_pick c a b w')
theorem X_extract0 (a : Value) (l : List Value) : X P (Instr.extract (.tuple (a :: l).toArray) 0) w K = K (a) w := X_ok (run_extract0 a l w)
theorem XP_extract0 (a : Value) (l : List Value) : XP P (Instr.extract (.tuple (a :: l).toArray) 0) w K = K (a) w := XP_ok (fun w' => run_extract0 a l w')
theorem X_extract1 (a b : Value) (l : List Value) : X P (Instr.extract (.tuple (a :: b :: l).toArray) 1) w K = K (b) w := X_ok (run_extract1 a b l w)
theorem XP_extract1 (a b : Value) (l : List Value) : XP P (Instr.extract (.tuple (a :: b :: l).toArray) 1) w K = K (b) w := XP_ok (fun w' => run_extract1 a b l w')
theorem X_extract2 (a b c : Value) (l : List Value) : X P (Instr.extract (.tuple (a :: b :: c :: l).toArray) 2) w K = K (c) w := X_ok (run_extract2 a b c l w)
theorem XP_extract2 (a b c : Value) (l : List Value) : XP P (Instr.extract (.tuple (a :: b :: c :: l).toArray) 2) w K = K (c) w := XP_ok (fun w' => run_extract2 a b c l w')
theorem X_extract3 (a b c d : Value) (l : List Value) : X P (Instr.extract (.tuple (a :: b :: c :: d :: l).toArray) 3) w K = K (d) w := X_ok (run_extract3 a b c d l w)
theorem XP_extract3 (a b c d : Value) (l : List Value) : XP P (Instr.extract (.tuple (a :: b :: c :: d :: l).toArray) 3) w K = K (d) w := XP_ok (fun w' => run_extract3 a b c d l w')
theorem X_nilS (a : Addr) : X P (nilS (.pointer (some a))) w K = K (.pointer (some a)) w := X_ok (run_nilS a w)
theorem XP_nilS (a : Addr) : XP P (nilS (.pointer (some a))) w K = K (.pointer (some a)) w := XP_ok (fun w' => run_nilS a w')
theorem X_str_eql (T : TypeId) (a b : Operand) (x y : ByteArray) : X P (binOpG .eql T a b (.string x) (.string y)) w K = K (.bool (x.toList == y.toList)) w := X_ok (run_string_eql T a b x y w)
theorem XP_str_eql (T : TypeId) (a b : Operand) (x y : ByteArray) : XP P (binOpG .eql T a b (.string x) (.string y)) w K = K (.bool (x.toList == y.toList)) w := XP_ok (fun w' => run_string_eql T a b x y w')
theorem X_str_neq (T : TypeId) (a b : Operand) (x y : ByteArray) : X P (binOpG .neq T a b (.string x) (.string y)) w K = K (.bool (x.toList != y.toList)) w := X_ok (run_string_neq T a b x y w)
theorem XP_str_neq (T : TypeId) (a b : Operand) (x y : ByteArray) : XP P (binOpG .neq T a b (.string x) (.string y)) w K = K (.bool (x.toList != y.toList)) w := XP_ok (fun w' => run_string_neq T a b x y w')
theorem X_str_lss (T : TypeId) (x y : ByteArray) : X P (binOp .lss T (.string x) (.string y)) w K = K (.bool (Op.bytesLess x.toList y.toList)) w := X_ok (run_string_lss T x y w)
theorem XP_str_lss (T : TypeId) (x y : ByteArray) : XP P (binOp .lss T (.string x) (.string y)) w K = K (.bool (Op.bytesLess x.toList y.toList)) w := XP_ok (fun w' => run_string_lss T x y w')
theorem X_eql (T : TypeId) (k : IntKind) (a b : Operand) (x y : Int) : X P (binOpG .eql T a b (.int k x) (.int k y)) w K = K (.bool (decide (x = y))) w := X_ok (run_eql T k a b x y w)
theorem XP_eql (T : TypeId) (k : IntKind) (a b : Operand) (x y : Int) : XP P (binOpG .eql T a b (.int k x) (.int k y)) w K = K (.bool (decide (x = y))) w := XP_ok (fun w' => run_eql T k a b x y w')
theorem X_neq (T : TypeId) (k : IntKind) (a b : Operand) (x y : Int) : X P (binOpG .neq T a b (.int k x) (.int k y)) w K = K (.bool (decide (x ≠ y))) w := X_ok (run_neq T k a b x y w)
theorem XP_neq (T : TypeId) (k : IntKind) (a b : Operand) (x y : Int) : XP P (binOpG .neq T a b (.int k x) (.int k y)) w K = K (.bool (decide (x ≠ y))) w := XP_ok (fun w' => run_neq T k a b x y w')
theorem X_add (T : TypeId) (k : IntKind) (x y : Int) : X P (binOp .add T (.int k x) (.int k y)) w K = K (.int k (k.wrap (x + y))) w := X_ok (run_add T k x y w)
theorem XP_add (T : TypeId) (k : IntKind) (x y : Int) : XP P (binOp .add T (.int k x) (.int k y)) w K = K (.int k (k.wrap (x + y))) w := XP_ok (fun w' => run_add T k x y w')
theorem X_sub (T : TypeId) (k : IntKind) (x y : Int) : X P (binOp .sub T (.int k x) (.int k y)) w K = K (.int k (k.wrap (x - y))) w := X_ok (run_sub T k x y w)
theorem XP_sub (T : TypeId) (k : IntKind) (x y : Int) : XP P (binOp .sub T (.int k x) (.int k y)) w K = K (.int k (k.wrap (x - y))) w := XP_ok (fun w' => run_sub T k x y w')
theorem X_mul (T : TypeId) (k : IntKind) (x y : Int) : X P (binOp .mul T (.int k x) (.int k y)) w K = K (.int k (k.wrap (x * y))) w := X_ok (run_mul T k x y w)
theorem XP_mul (T : TypeId) (k : IntKind) (x y : Int) : XP P (binOp .mul T (.int k x) (.int k y)) w K = K (.int k (k.wrap (x * y))) w := XP_ok (fun w' => run_mul T k x y w')
theorem X_lss (T : TypeId) (k : IntKind) (x y : Int) : X P (binOp .lss T (.int k x) (.int k y)) w K = K (.bool (decide (x < y))) w := X_ok (run_lss T k x y w)
theorem XP_lss (T : TypeId) (k : IntKind) (x y : Int) : XP P (binOp .lss T (.int k x) (.int k y)) w K = K (.bool (decide (x < y))) w := XP_ok (fun w' => run_lss T k x y w')
theorem X_leq (T : TypeId) (k : IntKind) (x y : Int) : X P (binOp .leq T (.int k x) (.int k y)) w K = K (.bool (decide (x ≤ y))) w := X_ok (run_leq T k x y w)
theorem XP_leq (T : TypeId) (k : IntKind) (x y : Int) : XP P (binOp .leq T (.int k x) (.int k y)) w K = K (.bool (decide (x ≤ y))) w := XP_ok (fun w' => run_leq T k x y w')
theorem X_gtr (T : TypeId) (k : IntKind) (x y : Int) : X P (binOp .gtr T (.int k x) (.int k y)) w K = K (.bool (decide (x > y))) w := X_ok (run_gtr T k x y w)
theorem XP_gtr (T : TypeId) (k : IntKind) (x y : Int) : XP P (binOp .gtr T (.int k x) (.int k y)) w K = K (.bool (decide (x > y))) w := XP_ok (fun w' => run_gtr T k x y w')
theorem X_geq (T : TypeId) (k : IntKind) (x y : Int) : X P (binOp .geq T (.int k x) (.int k y)) w K = K (.bool (decide (x ≥ y))) w := X_ok (run_geq T k x y w)
theorem XP_geq (T : TypeId) (k : IntKind) (x y : Int) : XP P (binOp .geq T (.int k x) (.int k y)) w K = K (.bool (decide (x ≥ y))) w := XP_ok (fun w' => run_geq T k x y w')
end
set_option linter.defProp false in
/-- The rules, in one. -/
def SS := And.intro (And.intro (And.intro (And.intro (And.intro (@condS_bool) (And.intro (@gstep_bool) (@joinS_eq))) (And.intro (And.intro (@thenS_normal) (@thenS_exit)) (And.intro (@thenS_ret) (@inBlockS_normal)))) (And.intro (And.intro (@inBlockS_ret) (And.intro (@inBlockS_same) (@upds_nil))) (And.intro (And.intro (@drewW_heap) (@newB_size)) (And.intro (@X_min) (@X_max))))) (And.intro (And.intro (And.intro (@X_min4) (And.intro (@X_not) (@X_pick))) (And.intro (And.intro (@X_extract0) (@X_extract1)) (And.intro (@X_extract2) (@X_extract3)))) (And.intro (And.intro (@X_nilS) (And.intro (@X_str_eql) (@X_str_neq))) (And.intro (And.intro (@X_str_lss) (@X_eql)) (And.intro (@X_neq) (@X_add)))))) (And.intro (And.intro (And.intro (And.intro (@X_sub) (And.intro (@X_mul) (@X_lss))) (And.intro (And.intro (@X_leq) (@X_gtr)) (And.intro (@X_geq) (@XP_min)))) (And.intro (And.intro (@XP_max) (And.intro (@XP_min4) (@XP_not))) (And.intro (And.intro (@XP_pick) (@XP_extract0)) (And.intro (@XP_extract1) (@XP_extract2))))) (And.intro (And.intro (And.intro (@XP_extract3) (And.intro (@XP_nilS) (@XP_str_eql))) (And.intro (And.intro (@XP_str_neq) (@XP_str_lss)) (And.intro (@XP_eql) (@XP_neq)))) (And.intro (And.intro (@XP_add) (And.intro (@XP_sub) (@XP_mul))) (And.intro (And.intro (@XP_lss) (@XP_leq)) (And.intro (@XP_gtr) (@XP_geq))))))
end Go.Sh
