/- A slot as an argument. -/
import Derived.Test.YtggggfcgnkllgaaArgs
set_option linter.unusedVariables false
set_option linter.unusedSimpArgs false
namespace Go.Sh
open Go Go.RowKit Go.ChangeShapes Go.WideShapes Go.ChangeAt
section
variable {P : Program} {H : Type} {enc : TypeId × Value → H} {W : World} {base : Nat} {v : Value} {d : DataW H} {p : List MemPlace} {t : TypeId}
theorem wf_nat {k : IntKind} {n : Int} {m : Nat} (hk : k.signed = false) (hm : (2 : Int) ^ k.bits = (m : Int)) (h : (Lit.int k n).wf = true) : ∃ x : Nat, n = (x : Int) ∧ x < m := by
  simp only [Lit.wf, IntKind.min, IntKind.max, hk, Bool.false_eq_true, if_false, Bool.and_eq_true, decide_eq_true_eq] at h
  refine ⟨n.toNat, ?_, ?_⟩ <;> omega
theorem arg_slot {f0 f1 f2 f3 : Field} (ht : P.underlying t = some (.struct #[f0, f1, f2, f3])) (hc : P.cellsOf t = 4) (o0 : f0.offset = 0) (o1 : f1.offset = 1) (o2 : f2.offset = 2) (o3 : f3.offset = 3)
    (t0 : P.underlying f0.type = some (.int .u64)) (t1 : P.underlying f1.type = some (.int .u8)) (t2 : P.underlying f2.type = some (.int .u32)) (t3 : P.underlying f3.type = some (.int .u32))
    (c0 : P.cellsOf f0.type = 1) (c1 : P.cellsOf f1.type = 1) (c2 : P.cellsOf f2.type = 1) (c3 : P.cellsOf f3.type = 1)
    (ok : Value.okWide P W .any base t v) (h : DataW.Trod enc P W 0 (fun _ => true) true t v d p) :
    ∃ a b c e : Nat, v = .agg #[.int .u64 (a : Int), .int .u8 (b : Int), .int .u32 (c : Int), .int .u32 (e : Int)] ∧ a < 18446744073709551616 ∧ b < 256 ∧ c < 4294967296 ∧ e < 4294967296 := by
  obtain ⟨cs, rfl, hcs⟩ := okWide_struct ht ok
  rw [hc] at hcs
  obtain ⟨hl, hf⟩ := (TrC.of h).struct ht
  match cs, hcs with
  | ⟨[x0, x1, x2, x3]⟩, _ =>
    have g0 := hf f0 (by simp)
    have g1 := hf f1 (by simp)
    have g2 := hf f2 (by simp)
    have g3 := hf f3 (by simp)
    rw [o0, c0] at g0
    rw [o1, c1] at g1
    rw [o2, c2] at g2
    rw [o3, c3] at g3
    obtain ⟨n0, e0, w0⟩ := TrC.int t0 g0
    obtain ⟨n1, e1, w1⟩ := TrC.int t1 g1
    obtain ⟨n2, e2, w2⟩ := TrC.int t2 g2
    obtain ⟨n3, e3, w3⟩ := TrC.int t3 g3
    simp [Value.cells] at e0 e1 e2 e3
    subst e0; subst e1; subst e2; subst e3
    obtain ⟨a, rfl, ha⟩ := wf_nat rfl (m := 18446744073709551616) (by decide) w0
    obtain ⟨b, rfl, hb⟩ := wf_nat rfl (m := 256) (by decide) w1
    obtain ⟨c, rfl, hc⟩ := wf_nat rfl (m := 4294967296) (by decide) w2
    obtain ⟨e, rfl, he⟩ := wf_nat rfl (m := 4294967296) (by decide) w3
    exact ⟨a, b, c, e, rfl, ha, hb, hc, he⟩
end
end Go.Sh
