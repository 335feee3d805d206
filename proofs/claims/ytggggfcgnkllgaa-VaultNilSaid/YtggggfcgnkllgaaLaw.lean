/- From a call's contract to a law's row: the last two facts. -/
import Derived.Test.YtggggfcgnkllgaaFrame
import Derived.Test.YtggggfcgnkllgaaRows
namespace Go.Proofs.Ytggggfcgnkllgaa
open Go Go.Sh
theorem CALL_calls {P : Program} {f : FuncId} {args : Array Value} {w : World} {K : Value → World → Prop} (h : CALL P f args w K) :
    Calls P f args w (fun | .returned v, w' => K v w' | _, _ => False) := h.2
theorem laidOut : laidOutB Try.prog = true := by kernel_rfl
end Go.Proofs.Ytggggfcgnkllgaa
