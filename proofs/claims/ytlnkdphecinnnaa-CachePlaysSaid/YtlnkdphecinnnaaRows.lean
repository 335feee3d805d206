/-
  No cell of these rows narrows 'for every input' (looked for: loops, veiled, ifaces, maps, wideKeys, modest, calm, conditions, laid).
  DERIVED. THE GIVEN ROWS OF THIS SEAT. 12 by the template 'for every input the law returns true; each argument reads behind the call as it read before'; 0 by the template 'total and deterministic' (their statements: YtlnkdphecinnnaaTotals.lean).
  GIVEN WITH THE SEED: the statements are not yours to turn. If you find one false, say at which input.
  Laid BY PROGRAM, IN A SANDBOX (cutbox-rows.mjs): the forced cells as the released guide's own fill.sh prints them over the translation 45f40ae0e7e234e4… (all of the seat's roots in one cut). By AI agents, Wed Nov 11 2026. No macro, syntax, notation, axiom, sorry.
-/
import Derived.Test.YtlnkdphecinnnaaChecked
import GoSem.Claim
import GoSem.ClaimJoined
import GoSem.ClaimMapViews
import Derived.JoinedTies
import Derived.KernelRfl
namespace Go.Proofs.Ytlnkdphecinnnaa
/- THE CELL 'sum', in the pinned program and in every row, IS THE sha256 OF THE DUMP (.gsa) THAT YtlnkdphecinnnaaProg.lean LOADS. Nothing in Lean hashes anything: it is a label: what it is worth is what the hold of that sum in a sandbox is worth. -/
noncomputable def Try.pinned : Pinned := { name := "ytlnkdphecinnnaa", sum := "45f40ae0e7e234e431c63af0398a08da29030de343d6cd7a563cf4809e33a130", checked := Try.checked }
namespace Rows
def none {H : Type} : Left H := { results := [], args := [] }

/-- 'cellaragelaw14.CacheRoom': WHATEVER THE INPUT: true; the input reads as it did. -/
def cacheRoomSpec : ChangeSpec := { name := "cacheRoom", fn := fun _ => fun
  | [d1, d2] => { results := [.lit (.bool true)], args := [d1, d2] }
  | _ => none }
def cacheRoomRow : OpenClaim := { program := "ytlnkdphecinnnaa", sum := "45f40ae0e7e234e431c63af0398a08da29030de343d6cd7a563cf4809e33a130", func := "cellarage/cellaragelaw14.CacheRoom", spec := "cacheRoom", plainKeys := false, apart := false }
def CacheRoomSaid : Prop := cacheRoomRow.holds Try.pinned (OpenSpec.ofChange cacheRoomSpec)

/-- ITS FALSE NEIGHBOUR: 'it returns false'. Refute it at one input. -/
def cacheRoomWrong : ChangeSpec := { name := "cacheRoom", fn := fun _ => fun
  | [d1, d2] => { results := [.lit (.bool false)], args := [d1, d2] }
  | _ => none }
def CacheRoomWrongFalsely : Prop := cacheRoomRow.holds Try.pinned (OpenSpec.ofChange cacheRoomWrong)

/-- 'cellaragelaw14.CacheDrawn': WHATEVER THE INPUT: true; the input reads as it did. -/
def cacheDrawnSpec : ChangeSpec := { name := "cacheDrawn", fn := fun _ => fun
  | [d1, d2, d3, d4] => { results := [.lit (.bool true)], args := [d1, d2, d3, d4] }
  | _ => none }
def cacheDrawnRow : OpenClaim := { program := "ytlnkdphecinnnaa", sum := "45f40ae0e7e234e431c63af0398a08da29030de343d6cd7a563cf4809e33a130", func := "cellarage/cellaragelaw14.CacheDrawn", spec := "cacheDrawn", plainKeys := false, apart := false }
def CacheDrawnSaid : Prop := cacheDrawnRow.holds Try.pinned (OpenSpec.ofChange cacheDrawnSpec)

/-- ITS FALSE NEIGHBOUR: 'it returns false'. Refute it at one input. -/
def cacheDrawnWrong : ChangeSpec := { name := "cacheDrawn", fn := fun _ => fun
  | [d1, d2, d3, d4] => { results := [.lit (.bool false)], args := [d1, d2, d3, d4] }
  | _ => none }
def CacheDrawnWrongFalsely : Prop := cacheDrawnRow.holds Try.pinned (OpenSpec.ofChange cacheDrawnWrong)

/-- 'cellaragelaw14.CachePlays': WHATEVER THE INPUT: true; the input reads as it did. -/
def cachePlaysSpec : ChangeSpec := { name := "cachePlays", fn := fun _ => fun
  | [d1, d2, d3] => { results := [.lit (.bool true)], args := [d1, d2, d3] }
  | _ => none }
def cachePlaysRow : OpenClaim := { program := "ytlnkdphecinnnaa", sum := "45f40ae0e7e234e431c63af0398a08da29030de343d6cd7a563cf4809e33a130", func := "cellarage/cellaragelaw14.CachePlays", spec := "cachePlays", plainKeys := false, apart := false }
def CachePlaysSaid : Prop := cachePlaysRow.holds Try.pinned (OpenSpec.ofChange cachePlaysSpec)

/-- ITS FALSE NEIGHBOUR: 'it returns false'. Refute it at one input. -/
def cachePlaysWrong : ChangeSpec := { name := "cachePlays", fn := fun _ => fun
  | [d1, d2, d3] => { results := [.lit (.bool false)], args := [d1, d2, d3] }
  | _ => none }
def CachePlaysWrongFalsely : Prop := cachePlaysRow.holds Try.pinned (OpenSpec.ofChange cachePlaysWrong)

/-- 'cellaragelaw14.CacheTells': WHATEVER THE INPUT: true; the input reads as it did. -/
def cacheTellsSpec : ChangeSpec := { name := "cacheTells", fn := fun _ => fun
  | [d1, d2, d3] => { results := [.lit (.bool true)], args := [d1, d2, d3] }
  | _ => none }
def cacheTellsRow : OpenClaim := { program := "ytlnkdphecinnnaa", sum := "45f40ae0e7e234e431c63af0398a08da29030de343d6cd7a563cf4809e33a130", func := "cellarage/cellaragelaw14.CacheTells", spec := "cacheTells", plainKeys := false, apart := false }
def CacheTellsSaid : Prop := cacheTellsRow.holds Try.pinned (OpenSpec.ofChange cacheTellsSpec)

/-- ITS FALSE NEIGHBOUR: 'it returns false'. Refute it at one input. -/
def cacheTellsWrong : ChangeSpec := { name := "cacheTells", fn := fun _ => fun
  | [d1, d2, d3] => { results := [.lit (.bool false)], args := [d1, d2, d3] }
  | _ => none }
def CacheTellsWrongFalsely : Prop := cacheTellsRow.holds Try.pinned (OpenSpec.ofChange cacheTellsWrong)

/-- 'cellaragelaw14.CacheNil': WHATEVER THE INPUT: true; the input reads as it did. -/
def cacheNilSpec : ChangeSpec := { name := "cacheNil", fn := fun _ => fun
  | [d1, d2] => { results := [.lit (.bool true)], args := [d1, d2] }
  | _ => none }
def cacheNilRow : OpenClaim := { program := "ytlnkdphecinnnaa", sum := "45f40ae0e7e234e431c63af0398a08da29030de343d6cd7a563cf4809e33a130", func := "cellarage/cellaragelaw14.CacheNil", spec := "cacheNil", plainKeys := false, apart := false }
def CacheNilSaid : Prop := cacheNilRow.holds Try.pinned (OpenSpec.ofChange cacheNilSpec)

/-- ITS FALSE NEIGHBOUR: 'it returns false'. Refute it at one input. -/
def cacheNilWrong : ChangeSpec := { name := "cacheNil", fn := fun _ => fun
  | [d1, d2] => { results := [.lit (.bool false)], args := [d1, d2] }
  | _ => none }
def CacheNilWrongFalsely : Prop := cacheNilRow.holds Try.pinned (OpenSpec.ofChange cacheNilWrong)

/-- 'cellaragelaw16.ExtentSlices': WHATEVER THE INPUT: true; the input reads as it did. -/
def extentSlicesSpec : ChangeSpec := { name := "extentSlices", fn := fun _ => fun
  | [d1, d2, d3] => { results := [.lit (.bool true)], args := [d1, d2, d3] }
  | _ => none }
def extentSlicesRow : OpenClaim := { program := "ytlnkdphecinnnaa", sum := "45f40ae0e7e234e431c63af0398a08da29030de343d6cd7a563cf4809e33a130", func := "cellarage/cellaragelaw16.ExtentSlices", spec := "extentSlices", unfollowed := true, recurses := true, plainKeys := false, apart := false }
def ExtentSlicesSaid : Prop := extentSlicesRow.holds Try.pinned (OpenSpec.ofChange extentSlicesSpec)

/-- ITS FALSE NEIGHBOUR: 'it returns false'. Refute it at one input. -/
def extentSlicesWrong : ChangeSpec := { name := "extentSlices", fn := fun _ => fun
  | [d1, d2, d3] => { results := [.lit (.bool false)], args := [d1, d2, d3] }
  | _ => none }
def ExtentSlicesWrongFalsely : Prop := extentSlicesRow.holds Try.pinned (OpenSpec.ofChange extentSlicesWrong)

/-- 'cellaragelaw16.ExtentJoins': WHATEVER THE INPUT: true; the input reads as it did. -/
def extentJoinsSpec : ChangeSpec := { name := "extentJoins", fn := fun _ => fun
  | [d] => { results := [.lit (.bool true)], args := [d] }
  | _ => none }
def extentJoinsRow : OpenClaim := { program := "ytlnkdphecinnnaa", sum := "45f40ae0e7e234e431c63af0398a08da29030de343d6cd7a563cf4809e33a130", func := "cellarage/cellaragelaw16.ExtentJoins", spec := "extentJoins", unfollowed := true, recurses := true, plainKeys := false, apart := false }
def ExtentJoinsSaid : Prop := extentJoinsRow.holds Try.pinned (OpenSpec.ofChange extentJoinsSpec)

/-- ITS FALSE NEIGHBOUR: 'it returns false'. Refute it at one input. -/
def extentJoinsWrong : ChangeSpec := { name := "extentJoins", fn := fun _ => fun
  | [d] => { results := [.lit (.bool false)], args := [d] }
  | _ => none }
def ExtentJoinsWrongFalsely : Prop := extentJoinsRow.holds Try.pinned (OpenSpec.ofChange extentJoinsWrong)

/-- 'cellaragelaw16.ExtentCuts': WHATEVER THE INPUT: true; the input reads as it did. -/
def extentCutsSpec : ChangeSpec := { name := "extentCuts", fn := fun _ => fun
  | [d1, d2] => { results := [.lit (.bool true)], args := [d1, d2] }
  | _ => none }
def extentCutsRow : OpenClaim := { program := "ytlnkdphecinnnaa", sum := "45f40ae0e7e234e431c63af0398a08da29030de343d6cd7a563cf4809e33a130", func := "cellarage/cellaragelaw16.ExtentCuts", spec := "extentCuts", unfollowed := true, recurses := true, plainKeys := false, apart := false }
def ExtentCutsSaid : Prop := extentCutsRow.holds Try.pinned (OpenSpec.ofChange extentCutsSpec)

/-- ITS FALSE NEIGHBOUR: 'it returns false'. Refute it at one input. -/
def extentCutsWrong : ChangeSpec := { name := "extentCuts", fn := fun _ => fun
  | [d1, d2] => { results := [.lit (.bool false)], args := [d1, d2] }
  | _ => none }
def ExtentCutsWrongFalsely : Prop := extentCutsRow.holds Try.pinned (OpenSpec.ofChange extentCutsWrong)

/-- 'cellaragelaw16.ExtentTwice': WHATEVER THE INPUT: true; the input reads as it did. -/
def extentTwiceSpec : ChangeSpec := { name := "extentTwice", fn := fun _ => fun
  | [d1, d2] => { results := [.lit (.bool true)], args := [d1, d2] }
  | _ => none }
def extentTwiceRow : OpenClaim := { program := "ytlnkdphecinnnaa", sum := "45f40ae0e7e234e431c63af0398a08da29030de343d6cd7a563cf4809e33a130", func := "cellarage/cellaragelaw16.ExtentTwice", spec := "extentTwice", unfollowed := true, recurses := true, plainKeys := false, apart := false }
def ExtentTwiceSaid : Prop := extentTwiceRow.holds Try.pinned (OpenSpec.ofChange extentTwiceSpec)

/-- ITS FALSE NEIGHBOUR: 'it returns false'. Refute it at one input. -/
def extentTwiceWrong : ChangeSpec := { name := "extentTwice", fn := fun _ => fun
  | [d1, d2] => { results := [.lit (.bool false)], args := [d1, d2] }
  | _ => none }
def ExtentTwiceWrongFalsely : Prop := extentTwiceRow.holds Try.pinned (OpenSpec.ofChange extentTwiceWrong)

/-- 'cellaragelaw16.ExtentRights': WHATEVER THE INPUT: true; the input reads as it did. -/
def extentRightsSpec : ChangeSpec := { name := "extentRights", fn := fun _ => fun
  | [d] => { results := [.lit (.bool true)], args := [d] }
  | _ => none }
def extentRightsRow : OpenClaim := { program := "ytlnkdphecinnnaa", sum := "45f40ae0e7e234e431c63af0398a08da29030de343d6cd7a563cf4809e33a130", func := "cellarage/cellaragelaw16.ExtentRights", spec := "extentRights", unfollowed := true, recurses := true, plainKeys := false, apart := false }
def ExtentRightsSaid : Prop := extentRightsRow.holds Try.pinned (OpenSpec.ofChange extentRightsSpec)

/-- ITS FALSE NEIGHBOUR: 'it returns false'. Refute it at one input. -/
def extentRightsWrong : ChangeSpec := { name := "extentRights", fn := fun _ => fun
  | [d] => { results := [.lit (.bool false)], args := [d] }
  | _ => none }
def ExtentRightsWrongFalsely : Prop := extentRightsRow.holds Try.pinned (OpenSpec.ofChange extentRightsWrong)

/-- 'cellaragelaw16.ExtentBytes': WHATEVER THE INPUT: true; the input reads as it did. -/
def extentBytesSpec : ChangeSpec := { name := "extentBytes", fn := fun _ => fun
  | [d1, d2] => { results := [.lit (.bool true)], args := [d1, d2] }
  | _ => none }
def extentBytesRow : OpenClaim := { program := "ytlnkdphecinnnaa", sum := "45f40ae0e7e234e431c63af0398a08da29030de343d6cd7a563cf4809e33a130", func := "cellarage/cellaragelaw16.ExtentBytes", spec := "extentBytes", unfollowed := true, recurses := true, plainKeys := false, apart := false }
def ExtentBytesSaid : Prop := extentBytesRow.holds Try.pinned (OpenSpec.ofChange extentBytesSpec)

/-- ITS FALSE NEIGHBOUR: 'it returns false'. Refute it at one input. -/
def extentBytesWrong : ChangeSpec := { name := "extentBytes", fn := fun _ => fun
  | [d1, d2] => { results := [.lit (.bool false)], args := [d1, d2] }
  | _ => none }
def ExtentBytesWrongFalsely : Prop := extentBytesRow.holds Try.pinned (OpenSpec.ofChange extentBytesWrong)

/-- 'cellaragelaw16.ExtentBack': WHATEVER THE INPUT: true; the input reads as it did. -/
def extentBackSpec : ChangeSpec := { name := "extentBack", fn := fun _ => fun
  | [d1, d2] => { results := [.lit (.bool true)], args := [d1, d2] }
  | _ => none }
def extentBackRow : OpenClaim := { program := "ytlnkdphecinnnaa", sum := "45f40ae0e7e234e431c63af0398a08da29030de343d6cd7a563cf4809e33a130", func := "cellarage/cellaragelaw16.ExtentBack", spec := "extentBack", unfollowed := true, recurses := true, plainKeys := false, apart := false }
def ExtentBackSaid : Prop := extentBackRow.holds Try.pinned (OpenSpec.ofChange extentBackSpec)

/-- ITS FALSE NEIGHBOUR: 'it returns false'. Refute it at one input. -/
def extentBackWrong : ChangeSpec := { name := "extentBack", fn := fun _ => fun
  | [d1, d2] => { results := [.lit (.bool false)], args := [d1, d2] }
  | _ => none }
def ExtentBackWrongFalsely : Prop := extentBackRow.holds Try.pinned (OpenSpec.ofChange extentBackWrong)

/- THE SECOND FORM. 'bulk': how many values and letters a reading holds, each counted each time it is reached (what is shared counts as often as it is met; a slice's spare places count too). A statement '..UptoSaid' is the law's where the arguments, and the package variables that the reading takes, are together of bulk at most 1048576: NARROWER than '..Said'. Prove '..Said' where nothing that the law and all that it calls make is longer than what came in: it says more and counts as full. Else prove '..UptoSaid'. A law counts once. -/
mutual
def uptoBulk {H : Type} : DataW H → Nat
  | .lit (.string bytes) => bytes.length + 1
  | .lit _ => 1
  | .nil => 1
  | .ptr d => uptoBulk d + 1
  | .slice elems spare => uptoBulkAll elems + uptoBulkAll spare + 1
  | .agg parts => uptoBulkAll parts + 1
  | .iface _ d => uptoBulk d + 1
  | .map entries => uptoBulkEntries entries + 1
  | .held _ => 1
def uptoBulkAll {H : Type} : List (DataW H) → Nat
  | [] => 0
  | d :: r => uptoBulk d + uptoBulkAll r
def uptoBulkEntries {H : Type} : List (Lit × DataW H) → Nat
  | [] => 0
  | x :: r => uptoBulkEntry x + uptoBulkEntries r
def uptoBulkEntry {H : Type} : Lit × DataW H → Nat
  | (.string bytes, d) => bytes.length + uptoBulk d + 1
  | (_, d) => uptoBulk d + 1
 end
def uptoSmall : (H : Type) → List (DataW H) → Bool := fun _ ds => decide (uptoBulkAll ds ≤ 1048576)
def OpenSpec.upto (s : _root_.Go.ChangeSpec) : _root_.Go.OpenSpec := { _root_.Go.OpenSpec.ofChange s with cond := some uptoSmall }

/-- 'cellaragelaw14.CacheRoom', WHERE WHAT IT READS IS OF BULK AT MOST 1048576: true; the input reads as it did. -/
def cacheRoomUptoRow : OpenClaim := { program := "ytlnkdphecinnnaa", sum := "45f40ae0e7e234e431c63af0398a08da29030de343d6cd7a563cf4809e33a130", func := "cellarage/cellaragelaw14.CacheRoom", spec := "cacheRoom", plainKeys := false, apart := false, narrowed := true }
def CacheRoomUptoSaid : Prop := cacheRoomUptoRow.holds Try.pinned (OpenSpec.upto cacheRoomSpec)

/-- 'cellaragelaw14.CacheDrawn', WHERE WHAT IT READS IS OF BULK AT MOST 1048576: true; the input reads as it did. -/
def cacheDrawnUptoRow : OpenClaim := { program := "ytlnkdphecinnnaa", sum := "45f40ae0e7e234e431c63af0398a08da29030de343d6cd7a563cf4809e33a130", func := "cellarage/cellaragelaw14.CacheDrawn", spec := "cacheDrawn", plainKeys := false, apart := false, narrowed := true }
def CacheDrawnUptoSaid : Prop := cacheDrawnUptoRow.holds Try.pinned (OpenSpec.upto cacheDrawnSpec)

/-- 'cellaragelaw14.CachePlays', WHERE WHAT IT READS IS OF BULK AT MOST 1048576: true; the input reads as it did. -/
def cachePlaysUptoRow : OpenClaim := { program := "ytlnkdphecinnnaa", sum := "45f40ae0e7e234e431c63af0398a08da29030de343d6cd7a563cf4809e33a130", func := "cellarage/cellaragelaw14.CachePlays", spec := "cachePlays", plainKeys := false, apart := false, narrowed := true }
def CachePlaysUptoSaid : Prop := cachePlaysUptoRow.holds Try.pinned (OpenSpec.upto cachePlaysSpec)

/-- 'cellaragelaw14.CacheTells', WHERE WHAT IT READS IS OF BULK AT MOST 1048576: true; the input reads as it did. -/
def cacheTellsUptoRow : OpenClaim := { program := "ytlnkdphecinnnaa", sum := "45f40ae0e7e234e431c63af0398a08da29030de343d6cd7a563cf4809e33a130", func := "cellarage/cellaragelaw14.CacheTells", spec := "cacheTells", plainKeys := false, apart := false, narrowed := true }
def CacheTellsUptoSaid : Prop := cacheTellsUptoRow.holds Try.pinned (OpenSpec.upto cacheTellsSpec)

/-- 'cellaragelaw14.CacheNil', WHERE WHAT IT READS IS OF BULK AT MOST 1048576: true; the input reads as it did. -/
def cacheNilUptoRow : OpenClaim := { program := "ytlnkdphecinnnaa", sum := "45f40ae0e7e234e431c63af0398a08da29030de343d6cd7a563cf4809e33a130", func := "cellarage/cellaragelaw14.CacheNil", spec := "cacheNil", plainKeys := false, apart := false, narrowed := true }
def CacheNilUptoSaid : Prop := cacheNilUptoRow.holds Try.pinned (OpenSpec.upto cacheNilSpec)

/-- 'cellaragelaw16.ExtentSlices', WHERE WHAT IT READS IS OF BULK AT MOST 1048576: true; the input reads as it did. -/
def extentSlicesUptoRow : OpenClaim := { program := "ytlnkdphecinnnaa", sum := "45f40ae0e7e234e431c63af0398a08da29030de343d6cd7a563cf4809e33a130", func := "cellarage/cellaragelaw16.ExtentSlices", spec := "extentSlices", unfollowed := true, recurses := true, plainKeys := false, apart := false, narrowed := true }
def ExtentSlicesUptoSaid : Prop := extentSlicesUptoRow.holds Try.pinned (OpenSpec.upto extentSlicesSpec)

/-- 'cellaragelaw16.ExtentJoins', WHERE WHAT IT READS IS OF BULK AT MOST 1048576: true; the input reads as it did. -/
def extentJoinsUptoRow : OpenClaim := { program := "ytlnkdphecinnnaa", sum := "45f40ae0e7e234e431c63af0398a08da29030de343d6cd7a563cf4809e33a130", func := "cellarage/cellaragelaw16.ExtentJoins", spec := "extentJoins", unfollowed := true, recurses := true, plainKeys := false, apart := false, narrowed := true }
def ExtentJoinsUptoSaid : Prop := extentJoinsUptoRow.holds Try.pinned (OpenSpec.upto extentJoinsSpec)

/-- 'cellaragelaw16.ExtentCuts', WHERE WHAT IT READS IS OF BULK AT MOST 1048576: true; the input reads as it did. -/
def extentCutsUptoRow : OpenClaim := { program := "ytlnkdphecinnnaa", sum := "45f40ae0e7e234e431c63af0398a08da29030de343d6cd7a563cf4809e33a130", func := "cellarage/cellaragelaw16.ExtentCuts", spec := "extentCuts", unfollowed := true, recurses := true, plainKeys := false, apart := false, narrowed := true }
def ExtentCutsUptoSaid : Prop := extentCutsUptoRow.holds Try.pinned (OpenSpec.upto extentCutsSpec)

/-- 'cellaragelaw16.ExtentTwice', WHERE WHAT IT READS IS OF BULK AT MOST 1048576: true; the input reads as it did. -/
def extentTwiceUptoRow : OpenClaim := { program := "ytlnkdphecinnnaa", sum := "45f40ae0e7e234e431c63af0398a08da29030de343d6cd7a563cf4809e33a130", func := "cellarage/cellaragelaw16.ExtentTwice", spec := "extentTwice", unfollowed := true, recurses := true, plainKeys := false, apart := false, narrowed := true }
def ExtentTwiceUptoSaid : Prop := extentTwiceUptoRow.holds Try.pinned (OpenSpec.upto extentTwiceSpec)

/-- 'cellaragelaw16.ExtentRights', WHERE WHAT IT READS IS OF BULK AT MOST 1048576: true; the input reads as it did. -/
def extentRightsUptoRow : OpenClaim := { program := "ytlnkdphecinnnaa", sum := "45f40ae0e7e234e431c63af0398a08da29030de343d6cd7a563cf4809e33a130", func := "cellarage/cellaragelaw16.ExtentRights", spec := "extentRights", unfollowed := true, recurses := true, plainKeys := false, apart := false, narrowed := true }
def ExtentRightsUptoSaid : Prop := extentRightsUptoRow.holds Try.pinned (OpenSpec.upto extentRightsSpec)

/-- 'cellaragelaw16.ExtentBytes', WHERE WHAT IT READS IS OF BULK AT MOST 1048576: true; the input reads as it did. -/
def extentBytesUptoRow : OpenClaim := { program := "ytlnkdphecinnnaa", sum := "45f40ae0e7e234e431c63af0398a08da29030de343d6cd7a563cf4809e33a130", func := "cellarage/cellaragelaw16.ExtentBytes", spec := "extentBytes", unfollowed := true, recurses := true, plainKeys := false, apart := false, narrowed := true }
def ExtentBytesUptoSaid : Prop := extentBytesUptoRow.holds Try.pinned (OpenSpec.upto extentBytesSpec)

/-- 'cellaragelaw16.ExtentBack', WHERE WHAT IT READS IS OF BULK AT MOST 1048576: true; the input reads as it did. -/
def extentBackUptoRow : OpenClaim := { program := "ytlnkdphecinnnaa", sum := "45f40ae0e7e234e431c63af0398a08da29030de343d6cd7a563cf4809e33a130", func := "cellarage/cellaragelaw16.ExtentBack", spec := "extentBack", unfollowed := true, recurses := true, plainKeys := false, apart := false, narrowed := true }
def ExtentBackUptoSaid : Prop := extentBackUptoRow.holds Try.pinned (OpenSpec.upto extentBackSpec)

end Rows
end Go.Proofs.Ytlnkdphecinnnaa
