/- A slot of this program as an argument. -/
import Derived.Test.YtggggfcgnkllgaaArgSl
import Derived.Test.YtggggfcgnkllgaaShown10
set_option linter.unusedVariables false
namespace Go.Proofs.Ytggggfcgnkllgaa
open Go Go.Sh Go.RowKit Go.ChangeShapes Go.WideShapes Go.ChangeAt
attribute [local irreducible] Value.okWide
theorem arg_sl {H : Type} {enc : TypeId × Value → H} {W : World} {base : Nat} {v : Value} {d : DataW H} {p : List MemPlace}
    (ok : Value.okWide Try.prog W .any base 25 v) (h : DataW.Trod enc Try.prog W 0 (fun _ => true) true 25 v d p) : ∃ s : Sl, v = s.v ∧ s.ok := by
  obtain ⟨a, b, c, e, rfl, h1, h2, h3, h4⟩ := arg_slot Try.underlying25 (by kernel_rfl) rfl rfl rfl rfl Try.underlying22 Try.underlying5 Try.underlying23 Try.underlying23 (by kernel_rfl) (by kernel_rfl) (by kernel_rfl) (by kernel_rfl) ok h
  exact ⟨⟨a, b, c, e⟩, rfl, h1, h2, h3, h4⟩
end Go.Proofs.Ytggggfcgnkllgaa
