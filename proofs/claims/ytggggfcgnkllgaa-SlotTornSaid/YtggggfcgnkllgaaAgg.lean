/- Structs and arrays compared; arrays read from wherever they lie. -/
import Derived.Test.YtggggfcgnkllgaaOps2
import Derived.ChangeKeysEq
import Derived.Laws.StructEq
set_option linter.unusedSimpArgs false
set_option linter.unusedVariables false
namespace Go.Sh
open Go Go.RowKit
section
variable {P : Program}

theorem guard_eql {t : TypeId} (hg : P.eqGuardType P.depth t = false) (a b : Operand) (xs ys : Array Value) (w : World) : (eqGuard .eql t a b (.agg xs) (.agg ys)).run P w = .ok () w := by
  simp [eqGuard, hg]
theorem guard_neq {t : TypeId} (hg : P.eqGuardType P.depth t = false) (a b : Operand) (xs ys : Array Value) (w : World) : (eqGuard .neq t a b (.agg xs) (.agg ys)).run P w = .ok () w := by
  simp [eqGuard, hg]
theorem agg_eql {t : TypeId} (hg : P.eqGuardType P.depth t = false) (a b : Operand) {xs ys : Array Value} {w : World} {r : Bool} (h : (Op.equalIn 10000 t (.agg xs) (.agg ys)).run P w = .ok r w) : (binOpG .eql t a b (.agg xs) (.agg ys)).run P w = .ok (.bool r) w := by
  unfold binOpG
  simp only [Sem.run_bind, guard_eql hg, Result.andThen_ok, run_eql_struct, h]
theorem agg_neq {t : TypeId} (hg : P.eqGuardType P.depth t = false) (a b : Operand) {xs ys : Array Value} {w : World} {r : Bool} (h : (Op.equalIn 10000 t (.agg xs) (.agg ys)).run P w = .ok r w) : (binOpG .neq t a b (.agg xs) (.agg ys)).run P w = .ok (.bool (!r)) w := by
  unfold binOpG
  simp only [Sem.run_bind, guard_neq hg, Result.andThen_ok, run_neq_struct, h]

theorem part_cell {e : TypeId} (ha : aggB P e = false) {cs : Array Value} {i : Nat} {v : Value} (h : cs[i]? = some v) (w : World) : (part e cs i).run P w = .ok v w := by
  simp [part, isAgg_run ha, h]
theorem eqItems_bytes (d : Nat) {e : TypeId} (he : P.underlying e = some (.int .u8)) (ha : aggB P e = false) (xs ys : List UInt8) (hl : xs.length = ys.length) (w : World) :
    ∀ (m k : Nat), k + m = xs.length → (Op.eqItems (d + 1) e 1 (B8 xs).toArray (B8 ys).toArray (List.range' k m)).run P w = .ok (decide (xs.drop k = ys.drop k)) w
  | 0, k, h => by
    have h1 : xs.drop k = [] := List.drop_eq_nil_of_le (by omega)
    have h2 : ys.drop k = [] := List.drop_eq_nil_of_le (by omega)
    simp [Op.eqItems, h1, h2]
  | m + 1, k, h => by
    have hx : k < xs.length := by omega
    have hy : k < ys.length := by omega
    have e1 : (B8 xs).toArray[k * 1]? = some (.int .u8 (xs[k].toNat : Int)) := by simp [B8_getElem?, List.getElem?_eq_getElem hx]
    have e2 : (B8 ys).toArray[k * 1]? = some (.int .u8 (ys[k].toNat : Int)) := by simp [B8_getElem?, List.getElem?_eq_getElem hy]
    rw [List.range'_succ]
    simp only [Op.eqItems, Sem.run_bind, part_cell ha e1, part_cell ha e2, Result.andThen_ok, run_equalIn_int w d e .u8 .u8 _ _ he]
    have hdx := List.drop_eq_getElem_cons hx
    have hdy := List.drop_eq_getElem_cons hy
    by_cases hxy : xs[k] = ys[k]
    · have : ((xs[k].toNat : Int) == (ys[k].toNat : Int)) = true := by simp [hxy]
      rw [this]
      simp only [Bool.not_true, Bool.false_eq_true, if_false]
      rw [eqItems_bytes d he ha xs ys hl w m (k + 1) (by omega)]
      have hi : (xs.drop k = ys.drop k) ↔ (xs.drop (k + 1) = ys.drop (k + 1)) := by
        rw [hdx, hdy, hxy]
        constructor
        · intro h; injection h
        · intro h; rw [h]
      rw [decide_eq_decide.2 hi]
    · have : ((xs[k].toNat : Int) == (ys[k].toNat : Int)) = false := by
        simp only [beq_eq_false_iff_ne, ne_eq]
        intro h
        exact hxy (UInt8.toNat_inj.1 (by omega))
      rw [this]
      have hi : ¬ (xs.drop k = ys.drop k) := by
        rw [hdx, hdy]
        intro h
        injection h with h _
        exact hxy h
      simp only [Bool.not_false, if_true, Sem.run_pure, hi, decide_false]
/-- Two arrays of bytes are the same. -/
theorem arr_equal {t e n : Nat} (hu : P.underlying t = some (.array n e)) (he : P.underlying e = some (.int .u8)) (ha : aggB P e = false) {i : TypeInfo} (hi : P.info? e = some i) (hc : P.cellsOf e = 1) (xs ys : List UInt8) (hx : xs.length = n) (hy : ys.length = n) (w : World) :
    (Op.equalIn 10000 t (.agg (B8 xs).toArray) (.agg (B8 ys).toArray)).run P w = .ok (decide (xs = ys)) w := by
  rw [show (10000 : Nat) = 9999 + 1 from rfl, run_equalIn_array w 9999 _ _ hu hi, hc, List.range_eq_range']
  have := eqItems_bytes (P := P) 9998 he ha xs ys (by omega) w n 0 (by omega)
  simpa using this
/-- An array of bytes, read through a slice's own address. -/
theorem run_loadBytes {t : TypeId} {d : TypeDesc} (hu : P.underlying t = some d) (ha : aggB P t = true) (hi : infoB P t = true) {a : Addr} {l : List UInt8} {w : World} (hn : l.length = szT P t)
    (hc : ∀ j u, l[j]? = some u → w.cell? (a.add j) = some (.int .u8 (u.toNat : Int))) : (Instr.loadAt t (.pointer (some a))).run P w = .ok (.agg (B8 l).toArray) w := by
  have hload : (loadCells a (B8 l).length).run P w = .ok (B8 l).toArray w := by
    refine run_loadCells_list w _ (B8 l) fun j v hj => ?_
    rw [B8_getElem?] at hj
    obtain ⟨u, hu, rfl⟩ := Option.map_eq_some_iff.1 hj
    exact hc j u hu
  rw [B8_length, hn] at hload
  simp [Instr.loadAt, Instr.sureAddr, loadVar, isAgg_run' hu ha, sizeOf_run hi, hload]
end
end Go.Sh
