/-
  No cell of these rows narrows 'for every input' (looked for: loops, veiled, ifaces, maps, wideKeys, modest, calm, conditions, laid).
  DERIVED. THE GIVEN ROWS OF THIS SEAT. 38 by the template 'for every input the law returns true; each argument reads behind the call as it read before'; 0 by the template 'total and deterministic' (their statements: YtggggfcgnkllgaaTotals.lean).
  GIVEN WITH THE SEED: the statements are not yours to turn. If you find one false, say at which input.
  Laid BY PROGRAM, IN A SANDBOX (cutbox-rows.mjs): the forced cells as the released guide's own fill.sh prints them over the translation de0ed874a245fe67… (all of the seat's roots in one cut). By AI agents, Wed Nov 11 2026. No macro, syntax, notation, axiom, sorry.
-/
import Derived.Test.YtggggfcgnkllgaaChecked
import GoSem.Claim
import GoSem.ClaimJoined
import GoSem.ClaimMapViews
import Derived.JoinedTies
import Derived.KernelRfl
namespace Go.Proofs.Ytggggfcgnkllgaa
/- THE CELL 'sum', in the pinned program and in every row, IS THE sha256 OF THE DUMP (.gsa) THAT YtggggfcgnkllgaaProg.lean LOADS. Nothing in Lean hashes anything: it is a label: what it is worth is what the hold of that sum in a sandbox is worth. -/
noncomputable def Try.pinned : Pinned := { name := "ytggggfcgnkllgaa", sum := "de0ed874a245fe67fb359e0cb8a734aa1dc03f8c42d634b45103ca0a5fa0751f", checked := Try.checked }
namespace Rows
def none {H : Type} : Left H := { results := [], args := [] }

/-- 'cellaragelaw10.SlotLays': WHATEVER THE INPUT: true; the input reads as it did. -/
def slotLaysSpec : ChangeSpec := { name := "slotLays", fn := fun _ => fun
  | [d] => { results := [.lit (.bool true)], args := [d] }
  | _ => none }
def slotLaysRow : OpenClaim := { program := "ytggggfcgnkllgaa", sum := "de0ed874a245fe67fb359e0cb8a734aa1dc03f8c42d634b45103ca0a5fa0751f", func := "cellarage/cellaragelaw10.SlotLays", spec := "slotLays", plainKeys := false, apart := false }
def SlotLaysSaid : Prop := slotLaysRow.holds Try.pinned (OpenSpec.ofChange slotLaysSpec)

/-- ITS FALSE NEIGHBOUR: 'it returns false'. Refute it at one input. -/
def slotLaysWrong : ChangeSpec := { name := "slotLays", fn := fun _ => fun
  | [d] => { results := [.lit (.bool false)], args := [d] }
  | _ => none }
def SlotLaysWrongFalsely : Prop := slotLaysRow.holds Try.pinned (OpenSpec.ofChange slotLaysWrong)

/-- 'cellaragelaw10.SlotTakes': WHATEVER THE INPUT: true; the input reads as it did. -/
def slotTakesSpec : ChangeSpec := { name := "slotTakes", fn := fun _ => fun
  | [d] => { results := [.lit (.bool true)], args := [d] }
  | _ => none }
def slotTakesRow : OpenClaim := { program := "ytggggfcgnkllgaa", sum := "de0ed874a245fe67fb359e0cb8a734aa1dc03f8c42d634b45103ca0a5fa0751f", func := "cellarage/cellaragelaw10.SlotTakes", spec := "slotTakes", plainKeys := false, apart := false }
def SlotTakesSaid : Prop := slotTakesRow.holds Try.pinned (OpenSpec.ofChange slotTakesSpec)

/-- ITS FALSE NEIGHBOUR: 'it returns false'. Refute it at one input. -/
def slotTakesWrong : ChangeSpec := { name := "slotTakes", fn := fun _ => fun
  | [d] => { results := [.lit (.bool false)], args := [d] }
  | _ => none }
def SlotTakesWrongFalsely : Prop := slotTakesRow.holds Try.pinned (OpenSpec.ofChange slotTakesWrong)

/-- 'cellaragelaw10.SlotBack': WHATEVER THE INPUT: true; the input reads as it did. -/
def slotBackSpec : ChangeSpec := { name := "slotBack", fn := fun _ => fun
  | [d1, d2] => { results := [.lit (.bool true)], args := [d1, d2] }
  | _ => none }
def slotBackRow : OpenClaim := { program := "ytggggfcgnkllgaa", sum := "de0ed874a245fe67fb359e0cb8a734aa1dc03f8c42d634b45103ca0a5fa0751f", func := "cellarage/cellaragelaw10.SlotBack", spec := "slotBack", plainKeys := false, apart := false }
def SlotBackSaid : Prop := slotBackRow.holds Try.pinned (OpenSpec.ofChange slotBackSpec)

/-- ITS FALSE NEIGHBOUR: 'it returns false'. Refute it at one input. -/
def slotBackWrong : ChangeSpec := { name := "slotBack", fn := fun _ => fun
  | [d1, d2] => { results := [.lit (.bool false)], args := [d1, d2] }
  | _ => none }
def SlotBackWrongFalsely : Prop := slotBackRow.holds Try.pinned (OpenSpec.ofChange slotBackWrong)

/-- 'cellaragelaw10.SlotTorn': WHATEVER THE INPUT: true; the input reads as it did. -/
def slotTornSpec : ChangeSpec := { name := "slotTorn", fn := fun _ => fun
  | [d1, d2, d3] => { results := [.lit (.bool true)], args := [d1, d2, d3] }
  | _ => none }
def slotTornRow : OpenClaim := { program := "ytggggfcgnkllgaa", sum := "de0ed874a245fe67fb359e0cb8a734aa1dc03f8c42d634b45103ca0a5fa0751f", func := "cellarage/cellaragelaw10.SlotTorn", spec := "slotTorn", plainKeys := false, apart := false }
def SlotTornSaid : Prop := slotTornRow.holds Try.pinned (OpenSpec.ofChange slotTornSpec)

/-- ITS FALSE NEIGHBOUR: 'it returns false'. Refute it at one input. -/
def slotTornWrong : ChangeSpec := { name := "slotTorn", fn := fun _ => fun
  | [d1, d2, d3] => { results := [.lit (.bool false)], args := [d1, d2, d3] }
  | _ => none }
def SlotTornWrongFalsely : Prop := slotTornRow.holds Try.pinned (OpenSpec.ofChange slotTornWrong)

/-- 'cellaragelaw01.CodecOrder': WHATEVER THE INPUT: true; the input reads as it did. -/
def codecOrderSpec : ChangeSpec := { name := "codecOrder", fn := fun _ => fun
  | [d1, d2] => { results := [.lit (.bool true)], args := [d1, d2] }
  | _ => none }
def codecOrderRow : OpenClaim := { program := "ytggggfcgnkllgaa", sum := "de0ed874a245fe67fb359e0cb8a734aa1dc03f8c42d634b45103ca0a5fa0751f", func := "cellarage/cellaragelaw01.CodecOrder", spec := "codecOrder", plainKeys := false, apart := false }
def CodecOrderSaid : Prop := codecOrderRow.holds Try.pinned (OpenSpec.ofChange codecOrderSpec)

/-- ITS FALSE NEIGHBOUR: 'it returns false'. Refute it at one input. -/
def codecOrderWrong : ChangeSpec := { name := "codecOrder", fn := fun _ => fun
  | [d1, d2] => { results := [.lit (.bool false)], args := [d1, d2] }
  | _ => none }
def CodecOrderWrongFalsely : Prop := codecOrderRow.holds Try.pinned (OpenSpec.ofChange codecOrderWrong)

/-- 'cellaragelaw10.SlotNewer': WHATEVER THE INPUT: true; the input reads as it did. -/
def slotNewerSpec : ChangeSpec := { name := "slotNewer", fn := fun _ => fun
  | [d1, d2] => { results := [.lit (.bool true)], args := [d1, d2] }
  | _ => none }
def slotNewerRow : OpenClaim := { program := "ytggggfcgnkllgaa", sum := "de0ed874a245fe67fb359e0cb8a734aa1dc03f8c42d634b45103ca0a5fa0751f", func := "cellarage/cellaragelaw10.SlotNewer", spec := "slotNewer", plainKeys := false, apart := false }
def SlotNewerSaid : Prop := slotNewerRow.holds Try.pinned (OpenSpec.ofChange slotNewerSpec)

/-- ITS FALSE NEIGHBOUR: 'it returns false'. Refute it at one input. -/
def slotNewerWrong : ChangeSpec := { name := "slotNewer", fn := fun _ => fun
  | [d1, d2] => { results := [.lit (.bool false)], args := [d1, d2] }
  | _ => none }
def SlotNewerWrongFalsely : Prop := slotNewerRow.holds Try.pinned (OpenSpec.ofChange slotNewerWrong)

/-- 'cellaragelaw10.SlotCommits': WHATEVER THE INPUT: true; the input reads as it did. -/
def slotCommitsSpec : ChangeSpec := { name := "slotCommits", fn := fun _ => fun
  | [d1, d2, d3] => { results := [.lit (.bool true)], args := [d1, d2, d3] }
  | _ => none }
def slotCommitsRow : OpenClaim := { program := "ytggggfcgnkllgaa", sum := "de0ed874a245fe67fb359e0cb8a734aa1dc03f8c42d634b45103ca0a5fa0751f", func := "cellarage/cellaragelaw10.SlotCommits", spec := "slotCommits", plainKeys := false, apart := false }
def SlotCommitsSaid : Prop := slotCommitsRow.holds Try.pinned (OpenSpec.ofChange slotCommitsSpec)

/-- ITS FALSE NEIGHBOUR: 'it returns false'. Refute it at one input. -/
def slotCommitsWrong : ChangeSpec := { name := "slotCommits", fn := fun _ => fun
  | [d1, d2, d3] => { results := [.lit (.bool false)], args := [d1, d2, d3] }
  | _ => none }
def SlotCommitsWrongFalsely : Prop := slotCommitsRow.holds Try.pinned (OpenSpec.ofChange slotCommitsWrong)

/-- 'cellaragelaw02.CrcSums': WHATEVER THE INPUT: true; the input reads as it did. -/
def crcSumsSpec : ChangeSpec := { name := "crcSums", fn := fun _ => fun
  | [d1, d2] => { results := [.lit (.bool true)], args := [d1, d2] }
  | _ => none }
def crcSumsRow : OpenClaim := { program := "ytggggfcgnkllgaa", sum := "de0ed874a245fe67fb359e0cb8a734aa1dc03f8c42d634b45103ca0a5fa0751f", func := "cellarage/cellaragelaw02.CrcSums", spec := "crcSums", plainKeys := false, apart := false }
def CrcSumsSaid : Prop := crcSumsRow.holds Try.pinned (OpenSpec.ofChange crcSumsSpec)

/-- ITS FALSE NEIGHBOUR: 'it returns false'. Refute it at one input. -/
def crcSumsWrong : ChangeSpec := { name := "crcSums", fn := fun _ => fun
  | [d1, d2] => { results := [.lit (.bool false)], args := [d1, d2] }
  | _ => none }
def CrcSumsWrongFalsely : Prop := crcSumsRow.holds Try.pinned (OpenSpec.ofChange crcSumsWrong)

/-- 'cellaragelaw02.CrcSeals': WHATEVER THE INPUT: true; the input reads as it did. -/
def crcSealsSpec : ChangeSpec := { name := "crcSeals", fn := fun _ => fun
  | [d] => { results := [.lit (.bool true)], args := [d] }
  | _ => none }
def crcSealsRow : OpenClaim := { program := "ytggggfcgnkllgaa", sum := "de0ed874a245fe67fb359e0cb8a734aa1dc03f8c42d634b45103ca0a5fa0751f", func := "cellarage/cellaragelaw02.CrcSeals", spec := "crcSeals", plainKeys := false, apart := false }
def CrcSealsSaid : Prop := crcSealsRow.holds Try.pinned (OpenSpec.ofChange crcSealsSpec)

/-- ITS FALSE NEIGHBOUR: 'it returns false'. Refute it at one input. -/
def crcSealsWrong : ChangeSpec := { name := "crcSeals", fn := fun _ => fun
  | [d] => { results := [.lit (.bool false)], args := [d] }
  | _ => none }
def CrcSealsWrongFalsely : Prop := crcSealsRow.holds Try.pinned (OpenSpec.ofChange crcSealsWrong)

/-- 'cellaragelaw02.CrcGoes': WHATEVER THE INPUT: true; the input reads as it did. -/
def crcGoesSpec : ChangeSpec := { name := "crcGoes", fn := fun _ => fun
  | [d1, d2] => { results := [.lit (.bool true)], args := [d1, d2] }
  | _ => none }
def crcGoesRow : OpenClaim := { program := "ytggggfcgnkllgaa", sum := "de0ed874a245fe67fb359e0cb8a734aa1dc03f8c42d634b45103ca0a5fa0751f", func := "cellarage/cellaragelaw02.CrcGoes", spec := "crcGoes", plainKeys := false, apart := false }
def CrcGoesSaid : Prop := crcGoesRow.holds Try.pinned (OpenSpec.ofChange crcGoesSpec)

/-- ITS FALSE NEIGHBOUR: 'it returns false'. Refute it at one input. -/
def crcGoesWrong : ChangeSpec := { name := "crcGoes", fn := fun _ => fun
  | [d1, d2] => { results := [.lit (.bool false)], args := [d1, d2] }
  | _ => none }
def CrcGoesWrongFalsely : Prop := crcGoesRow.holds Try.pinned (OpenSpec.ofChange crcGoesWrong)

/-- 'cellaragelaw02.CrcTells': WHATEVER THE INPUT: true; the input reads as it did. -/
def crcTellsSpec : ChangeSpec := { name := "crcTells", fn := fun _ => fun
  | [d1, d2, d3] => { results := [.lit (.bool true)], args := [d1, d2, d3] }
  | _ => none }
def crcTellsRow : OpenClaim := { program := "ytggggfcgnkllgaa", sum := "de0ed874a245fe67fb359e0cb8a734aa1dc03f8c42d634b45103ca0a5fa0751f", func := "cellarage/cellaragelaw02.CrcTells", spec := "crcTells", plainKeys := false, apart := false }
def CrcTellsSaid : Prop := crcTellsRow.holds Try.pinned (OpenSpec.ofChange crcTellsSpec)

/-- ITS FALSE NEIGHBOUR: 'it returns false'. Refute it at one input. -/
def crcTellsWrong : ChangeSpec := { name := "crcTells", fn := fun _ => fun
  | [d1, d2, d3] => { results := [.lit (.bool false)], args := [d1, d2, d3] }
  | _ => none }
def CrcTellsWrongFalsely : Prop := crcTellsRow.holds Try.pinned (OpenSpec.ofChange crcTellsWrong)

/-- 'cellaragelaw02.CrcBack': WHATEVER THE INPUT: true; the input reads as it did. -/
def crcBackSpec : ChangeSpec := { name := "crcBack", fn := fun _ => fun
  | [d1, d2] => { results := [.lit (.bool true)], args := [d1, d2] }
  | _ => none }
def crcBackRow : OpenClaim := { program := "ytggggfcgnkllgaa", sum := "de0ed874a245fe67fb359e0cb8a734aa1dc03f8c42d634b45103ca0a5fa0751f", func := "cellarage/cellaragelaw02.CrcBack", spec := "crcBack", plainKeys := false, apart := false }
def CrcBackSaid : Prop := crcBackRow.holds Try.pinned (OpenSpec.ofChange crcBackSpec)

/-- ITS FALSE NEIGHBOUR: 'it returns false'. Refute it at one input. -/
def crcBackWrong : ChangeSpec := { name := "crcBack", fn := fun _ => fun
  | [d1, d2] => { results := [.lit (.bool false)], args := [d1, d2] }
  | _ => none }
def CrcBackWrongFalsely : Prop := crcBackRow.holds Try.pinned (OpenSpec.ofChange crcBackWrong)

/-- 'cellaragelaw02.CrcLinear': WHATEVER THE INPUT: true; the input reads as it did. -/
def crcLinearSpec : ChangeSpec := { name := "crcLinear", fn := fun _ => fun
  | [d1, d2, d3] => { results := [.lit (.bool true)], args := [d1, d2, d3] }
  | _ => none }
def crcLinearRow : OpenClaim := { program := "ytggggfcgnkllgaa", sum := "de0ed874a245fe67fb359e0cb8a734aa1dc03f8c42d634b45103ca0a5fa0751f", func := "cellarage/cellaragelaw02.CrcLinear", spec := "crcLinear", plainKeys := false, apart := false }
def CrcLinearSaid : Prop := crcLinearRow.holds Try.pinned (OpenSpec.ofChange crcLinearSpec)

/-- ITS FALSE NEIGHBOUR: 'it returns false'. Refute it at one input. -/
def crcLinearWrong : ChangeSpec := { name := "crcLinear", fn := fun _ => fun
  | [d1, d2, d3] => { results := [.lit (.bool false)], args := [d1, d2, d3] }
  | _ => none }
def CrcLinearWrongFalsely : Prop := crcLinearRow.holds Try.pinned (OpenSpec.ofChange crcLinearWrong)

/-- 'cellaragelaw01.CodecTakes': WHATEVER THE INPUT: true; the input reads as it did. -/
def codecTakesSpec : ChangeSpec := { name := "codecTakes", fn := fun _ => fun
  | [d1, d2] => { results := [.lit (.bool true)], args := [d1, d2] }
  | _ => none }
def codecTakesRow : OpenClaim := { program := "ytggggfcgnkllgaa", sum := "de0ed874a245fe67fb359e0cb8a734aa1dc03f8c42d634b45103ca0a5fa0751f", func := "cellarage/cellaragelaw01.CodecTakes", spec := "codecTakes", plainKeys := false, apart := false }
def CodecTakesSaid : Prop := codecTakesRow.holds Try.pinned (OpenSpec.ofChange codecTakesSpec)

/-- ITS FALSE NEIGHBOUR: 'it returns false'. Refute it at one input. -/
def codecTakesWrong : ChangeSpec := { name := "codecTakes", fn := fun _ => fun
  | [d1, d2] => { results := [.lit (.bool false)], args := [d1, d2] }
  | _ => none }
def CodecTakesWrongFalsely : Prop := codecTakesRow.holds Try.pinned (OpenSpec.ofChange codecTakesWrong)

/-- 'cellaragelaw01.CodecBack': WHATEVER THE INPUT: true; the input reads as it did. -/
def codecBackSpec : ChangeSpec := { name := "codecBack", fn := fun _ => fun
  | [d1, d2, d3] => { results := [.lit (.bool true)], args := [d1, d2, d3] }
  | _ => none }
def codecBackRow : OpenClaim := { program := "ytggggfcgnkllgaa", sum := "de0ed874a245fe67fb359e0cb8a734aa1dc03f8c42d634b45103ca0a5fa0751f", func := "cellarage/cellaragelaw01.CodecBack", spec := "codecBack", plainKeys := false, apart := false }
def CodecBackSaid : Prop := codecBackRow.holds Try.pinned (OpenSpec.ofChange codecBackSpec)

/-- ITS FALSE NEIGHBOUR: 'it returns false'. Refute it at one input. -/
def codecBackWrong : ChangeSpec := { name := "codecBack", fn := fun _ => fun
  | [d1, d2, d3] => { results := [.lit (.bool false)], args := [d1, d2, d3] }
  | _ => none }
def CodecBackWrongFalsely : Prop := codecBackRow.holds Try.pinned (OpenSpec.ofChange codecBackWrong)

/-- 'cellaragelaw01.CodecShort': WHATEVER THE INPUT: true; the input reads as it did. -/
def codecShortSpec : ChangeSpec := { name := "codecShort", fn := fun _ => fun
  | [d1, d2, d3] => { results := [.lit (.bool true)], args := [d1, d2, d3] }
  | _ => none }
def codecShortRow : OpenClaim := { program := "ytggggfcgnkllgaa", sum := "de0ed874a245fe67fb359e0cb8a734aa1dc03f8c42d634b45103ca0a5fa0751f", func := "cellarage/cellaragelaw01.CodecShort", spec := "codecShort", plainKeys := false, apart := false }
def CodecShortSaid : Prop := codecShortRow.holds Try.pinned (OpenSpec.ofChange codecShortSpec)

/-- ITS FALSE NEIGHBOUR: 'it returns false'. Refute it at one input. -/
def codecShortWrong : ChangeSpec := { name := "codecShort", fn := fun _ => fun
  | [d1, d2, d3] => { results := [.lit (.bool false)], args := [d1, d2, d3] }
  | _ => none }
def CodecShortWrongFalsely : Prop := codecShortRow.holds Try.pinned (OpenSpec.ofChange codecShortWrong)

/-- 'cellaragelaw01.CodecNil': WHATEVER THE INPUT: true; the input reads as it did. -/
def codecNilSpec : ChangeSpec := { name := "codecNil", fn := fun _ => fun
  | [d] => { results := [.lit (.bool true)], args := [d] }
  | _ => none }
def codecNilRow : OpenClaim := { program := "ytggggfcgnkllgaa", sum := "de0ed874a245fe67fb359e0cb8a734aa1dc03f8c42d634b45103ca0a5fa0751f", func := "cellarage/cellaragelaw01.CodecNil", spec := "codecNil", plainKeys := false, apart := false }
def CodecNilSaid : Prop := codecNilRow.holds Try.pinned (OpenSpec.ofChange codecNilSpec)

/-- ITS FALSE NEIGHBOUR: 'it returns false'. Refute it at one input. -/
def codecNilWrong : ChangeSpec := { name := "codecNil", fn := fun _ => fun
  | [d] => { results := [.lit (.bool false)], args := [d] }
  | _ => none }
def CodecNilWrongFalsely : Prop := codecNilRow.holds Try.pinned (OpenSpec.ofChange codecNilWrong)

/-- 'cellaragelaw08.DiskTorn': WHATEVER THE INPUT: true; the input reads as it did. -/
def diskTornSpec : ChangeSpec := { name := "diskTorn", fn := fun _ => fun
  | [d1, d2, d3] => { results := [.lit (.bool true)], args := [d1, d2, d3] }
  | _ => none }
def diskTornRow : OpenClaim := { program := "ytggggfcgnkllgaa", sum := "de0ed874a245fe67fb359e0cb8a734aa1dc03f8c42d634b45103ca0a5fa0751f", func := "cellarage/cellaragelaw08.DiskTorn", spec := "diskTorn", plainKeys := false, apart := false }
def DiskTornSaid : Prop := diskTornRow.holds Try.pinned (OpenSpec.ofChange diskTornSpec)

/-- ITS FALSE NEIGHBOUR: 'it returns false'. Refute it at one input. -/
def diskTornWrong : ChangeSpec := { name := "diskTorn", fn := fun _ => fun
  | [d1, d2, d3] => { results := [.lit (.bool false)], args := [d1, d2, d3] }
  | _ => none }
def DiskTornWrongFalsely : Prop := diskTornRow.holds Try.pinned (OpenSpec.ofChange diskTornWrong)

/-- 'cellaragelaw08.DiskSafe': WHATEVER THE INPUT: true; the input reads as it did. -/
def diskSafeSpec : ChangeSpec := { name := "diskSafe", fn := fun _ => fun
  | [d1, d2] => { results := [.lit (.bool true)], args := [d1, d2] }
  | _ => none }
def diskSafeRow : OpenClaim := { program := "ytggggfcgnkllgaa", sum := "de0ed874a245fe67fb359e0cb8a734aa1dc03f8c42d634b45103ca0a5fa0751f", func := "cellarage/cellaragelaw08.DiskSafe", spec := "diskSafe", plainKeys := false, apart := false }
def DiskSafeSaid : Prop := diskSafeRow.holds Try.pinned (OpenSpec.ofChange diskSafeSpec)

/-- ITS FALSE NEIGHBOUR: 'it returns false'. Refute it at one input. -/
def diskSafeWrong : ChangeSpec := { name := "diskSafe", fn := fun _ => fun
  | [d1, d2] => { results := [.lit (.bool false)], args := [d1, d2] }
  | _ => none }
def DiskSafeWrongFalsely : Prop := diskSafeRow.holds Try.pinned (OpenSpec.ofChange diskSafeWrong)

/-- 'cellaragelaw08.DiskFlush': WHATEVER THE INPUT: true; the input reads as it did. -/
def diskFlushSpec : ChangeSpec := { name := "diskFlush", fn := fun _ => fun
  | [d1, d2] => { results := [.lit (.bool true)], args := [d1, d2] }
  | _ => none }
def diskFlushRow : OpenClaim := { program := "ytggggfcgnkllgaa", sum := "de0ed874a245fe67fb359e0cb8a734aa1dc03f8c42d634b45103ca0a5fa0751f", func := "cellarage/cellaragelaw08.DiskFlush", spec := "diskFlush", plainKeys := false, apart := false }
def DiskFlushSaid : Prop := diskFlushRow.holds Try.pinned (OpenSpec.ofChange diskFlushSpec)

/-- ITS FALSE NEIGHBOUR: 'it returns false'. Refute it at one input. -/
def diskFlushWrong : ChangeSpec := { name := "diskFlush", fn := fun _ => fun
  | [d1, d2] => { results := [.lit (.bool false)], args := [d1, d2] }
  | _ => none }
def DiskFlushWrongFalsely : Prop := diskFlushRow.holds Try.pinned (OpenSpec.ofChange diskFlushWrong)

/-- 'cellaragelaw08.DiskCuts': WHATEVER THE INPUT: true; the input reads as it did. -/
def diskCutsSpec : ChangeSpec := { name := "diskCuts", fn := fun _ => fun
  | [d1, d2] => { results := [.lit (.bool true)], args := [d1, d2] }
  | _ => none }
def diskCutsRow : OpenClaim := { program := "ytggggfcgnkllgaa", sum := "de0ed874a245fe67fb359e0cb8a734aa1dc03f8c42d634b45103ca0a5fa0751f", func := "cellarage/cellaragelaw08.DiskCuts", spec := "diskCuts", plainKeys := false, apart := false }
def DiskCutsSaid : Prop := diskCutsRow.holds Try.pinned (OpenSpec.ofChange diskCutsSpec)

/-- ITS FALSE NEIGHBOUR: 'it returns false'. Refute it at one input. -/
def diskCutsWrong : ChangeSpec := { name := "diskCuts", fn := fun _ => fun
  | [d1, d2] => { results := [.lit (.bool false)], args := [d1, d2] }
  | _ => none }
def DiskCutsWrongFalsely : Prop := diskCutsRow.holds Try.pinned (OpenSpec.ofChange diskCutsWrong)

/-- 'cellaragelaw08.DiskPlays': WHATEVER THE INPUT: true; the input reads as it did. -/
def diskPlaysSpec : ChangeSpec := { name := "diskPlays", fn := fun _ => fun
  | [d1, d2] => { results := [.lit (.bool true)], args := [d1, d2] }
  | _ => none }
def diskPlaysRow : OpenClaim := { program := "ytggggfcgnkllgaa", sum := "de0ed874a245fe67fb359e0cb8a734aa1dc03f8c42d634b45103ca0a5fa0751f", func := "cellarage/cellaragelaw08.DiskPlays", spec := "diskPlays", plainKeys := false, apart := false }
def DiskPlaysSaid : Prop := diskPlaysRow.holds Try.pinned (OpenSpec.ofChange diskPlaysSpec)

/-- ITS FALSE NEIGHBOUR: 'it returns false'. Refute it at one input. -/
def diskPlaysWrong : ChangeSpec := { name := "diskPlays", fn := fun _ => fun
  | [d1, d2] => { results := [.lit (.bool false)], args := [d1, d2] }
  | _ => none }
def DiskPlaysWrongFalsely : Prop := diskPlaysRow.holds Try.pinned (OpenSpec.ofChange diskPlaysWrong)

/-- 'cellaragelaw08.DiskNil': WHATEVER THE INPUT: true; the input reads as it did. -/
def diskNilSpec : ChangeSpec := { name := "diskNil", fn := fun _ => fun
  | [d] => { results := [.lit (.bool true)], args := [d] }
  | _ => none }
def diskNilRow : OpenClaim := { program := "ytggggfcgnkllgaa", sum := "de0ed874a245fe67fb359e0cb8a734aa1dc03f8c42d634b45103ca0a5fa0751f", func := "cellarage/cellaragelaw08.DiskNil", spec := "diskNil", plainKeys := false, apart := false }
def DiskNilSaid : Prop := diskNilRow.holds Try.pinned (OpenSpec.ofChange diskNilSpec)

/-- ITS FALSE NEIGHBOUR: 'it returns false'. Refute it at one input. -/
def diskNilWrong : ChangeSpec := { name := "diskNil", fn := fun _ => fun
  | [d] => { results := [.lit (.bool false)], args := [d] }
  | _ => none }
def DiskNilWrongFalsely : Prop := diskNilRow.holds Try.pinned (OpenSpec.ofChange diskNilWrong)

/-- 'cellaragelaw11.ContLays': WHATEVER THE INPUT: true; the input reads as it did. -/
def contLaysSpec : ChangeSpec := { name := "contLays", fn := fun _ => fun
  | [d1, d2] => { results := [.lit (.bool true)], args := [d1, d2] }
  | _ => none }
def contLaysRow : OpenClaim := { program := "ytggggfcgnkllgaa", sum := "de0ed874a245fe67fb359e0cb8a734aa1dc03f8c42d634b45103ca0a5fa0751f", func := "cellarage/cellaragelaw11.ContLays", spec := "contLays", unfollowed := true, recurses := true, plainKeys := false, apart := false }
def ContLaysSaid : Prop := contLaysRow.holds Try.pinned (OpenSpec.ofChange contLaysSpec)

/-- ITS FALSE NEIGHBOUR: 'it returns false'. Refute it at one input. -/
def contLaysWrong : ChangeSpec := { name := "contLays", fn := fun _ => fun
  | [d1, d2] => { results := [.lit (.bool false)], args := [d1, d2] }
  | _ => none }
def ContLaysWrongFalsely : Prop := contLaysRow.holds Try.pinned (OpenSpec.ofChange contLaysWrong)

/-- 'cellaragelaw11.ContBack': WHATEVER THE INPUT: true; the input reads as it did. -/
def contBackSpec : ChangeSpec := { name := "contBack", fn := fun _ => fun
  | [d1, d2] => { results := [.lit (.bool true)], args := [d1, d2] }
  | _ => none }
def contBackRow : OpenClaim := { program := "ytggggfcgnkllgaa", sum := "de0ed874a245fe67fb359e0cb8a734aa1dc03f8c42d634b45103ca0a5fa0751f", func := "cellarage/cellaragelaw11.ContBack", spec := "contBack", unfollowed := true, recurses := true, plainKeys := false, apart := false }
def ContBackSaid : Prop := contBackRow.holds Try.pinned (OpenSpec.ofChange contBackSpec)

/-- ITS FALSE NEIGHBOUR: 'it returns false'. Refute it at one input. -/
def contBackWrong : ChangeSpec := { name := "contBack", fn := fun _ => fun
  | [d1, d2] => { results := [.lit (.bool false)], args := [d1, d2] }
  | _ => none }
def ContBackWrongFalsely : Prop := contBackRow.holds Try.pinned (OpenSpec.ofChange contBackWrong)

/-- 'cellaragelaw11.ContOnce': WHATEVER THE INPUT: true; the input reads as it did. -/
def contOnceSpec : ChangeSpec := { name := "contOnce", fn := fun _ => fun
  | [d] => { results := [.lit (.bool true)], args := [d] }
  | _ => none }
def contOnceRow : OpenClaim := { program := "ytggggfcgnkllgaa", sum := "de0ed874a245fe67fb359e0cb8a734aa1dc03f8c42d634b45103ca0a5fa0751f", func := "cellarage/cellaragelaw11.ContOnce", spec := "contOnce", unfollowed := true, recurses := true, plainKeys := false, apart := false }
def ContOnceSaid : Prop := contOnceRow.holds Try.pinned (OpenSpec.ofChange contOnceSpec)

/-- ITS FALSE NEIGHBOUR: 'it returns false'. Refute it at one input. -/
def contOnceWrong : ChangeSpec := { name := "contOnce", fn := fun _ => fun
  | [d] => { results := [.lit (.bool false)], args := [d] }
  | _ => none }
def ContOnceWrongFalsely : Prop := contOnceRow.holds Try.pinned (OpenSpec.ofChange contOnceWrong)

/-- 'cellaragelaw11.ContTurned': WHATEVER THE INPUT: true; the input reads as it did. -/
def contTurnedSpec : ChangeSpec := { name := "contTurned", fn := fun _ => fun
  | [d1, d2, d3] => { results := [.lit (.bool true)], args := [d1, d2, d3] }
  | _ => none }
def contTurnedRow : OpenClaim := { program := "ytggggfcgnkllgaa", sum := "de0ed874a245fe67fb359e0cb8a734aa1dc03f8c42d634b45103ca0a5fa0751f", func := "cellarage/cellaragelaw11.ContTurned", spec := "contTurned", unfollowed := true, recurses := true, plainKeys := false, apart := false }
def ContTurnedSaid : Prop := contTurnedRow.holds Try.pinned (OpenSpec.ofChange contTurnedSpec)

/-- ITS FALSE NEIGHBOUR: 'it returns false'. Refute it at one input. -/
def contTurnedWrong : ChangeSpec := { name := "contTurned", fn := fun _ => fun
  | [d1, d2, d3] => { results := [.lit (.bool false)], args := [d1, d2, d3] }
  | _ => none }
def ContTurnedWrongFalsely : Prop := contTurnedRow.holds Try.pinned (OpenSpec.ofChange contTurnedWrong)

/-- 'cellaragelaw11.ContOwn': WHATEVER THE INPUT: true; the input reads as it did. -/
def contOwnSpec : ChangeSpec := { name := "contOwn", fn := fun _ => fun
  | [d1, d2] => { results := [.lit (.bool true)], args := [d1, d2] }
  | _ => none }
def contOwnRow : OpenClaim := { program := "ytggggfcgnkllgaa", sum := "de0ed874a245fe67fb359e0cb8a734aa1dc03f8c42d634b45103ca0a5fa0751f", func := "cellarage/cellaragelaw11.ContOwn", spec := "contOwn", unfollowed := true, recurses := true, plainKeys := false, apart := false }
def ContOwnSaid : Prop := contOwnRow.holds Try.pinned (OpenSpec.ofChange contOwnSpec)

/-- ITS FALSE NEIGHBOUR: 'it returns false'. Refute it at one input. -/
def contOwnWrong : ChangeSpec := { name := "contOwn", fn := fun _ => fun
  | [d1, d2] => { results := [.lit (.bool false)], args := [d1, d2] }
  | _ => none }
def ContOwnWrongFalsely : Prop := contOwnRow.holds Try.pinned (OpenSpec.ofChange contOwnWrong)

/-- 'cellaragelaw11.ContTakes': WHATEVER THE INPUT: true; the input reads as it did. -/
def contTakesSpec : ChangeSpec := { name := "contTakes", fn := fun _ => fun
  | [d1, d2] => { results := [.lit (.bool true)], args := [d1, d2] }
  | _ => none }
def contTakesRow : OpenClaim := { program := "ytggggfcgnkllgaa", sum := "de0ed874a245fe67fb359e0cb8a734aa1dc03f8c42d634b45103ca0a5fa0751f", func := "cellarage/cellaragelaw11.ContTakes", spec := "contTakes", unfollowed := true, recurses := true, plainKeys := false, apart := false }
def ContTakesSaid : Prop := contTakesRow.holds Try.pinned (OpenSpec.ofChange contTakesSpec)

/-- ITS FALSE NEIGHBOUR: 'it returns false'. Refute it at one input. -/
def contTakesWrong : ChangeSpec := { name := "contTakes", fn := fun _ => fun
  | [d1, d2] => { results := [.lit (.bool false)], args := [d1, d2] }
  | _ => none }
def ContTakesWrongFalsely : Prop := contTakesRow.holds Try.pinned (OpenSpec.ofChange contTakesWrong)

/-- 'cellaragelaw12.VaultBack': WHATEVER THE INPUT: true; the input reads as it did. -/
def vaultBackSpec : ChangeSpec := { name := "vaultBack", fn := fun _ => fun
  | [d1, d2, d3, d4, d5] => { results := [.lit (.bool true)], args := [d1, d2, d3, d4, d5] }
  | _ => none }
def vaultBackRow : OpenClaim := { program := "ytggggfcgnkllgaa", sum := "de0ed874a245fe67fb359e0cb8a734aa1dc03f8c42d634b45103ca0a5fa0751f", func := "cellarage/cellaragelaw12.VaultBack", spec := "vaultBack", plainKeys := false, apart := false }
def VaultBackSaid : Prop := vaultBackRow.holds Try.pinned (OpenSpec.ofChange vaultBackSpec)

/-- ITS FALSE NEIGHBOUR: 'it returns false'. Refute it at one input. -/
def vaultBackWrong : ChangeSpec := { name := "vaultBack", fn := fun _ => fun
  | [d1, d2, d3, d4, d5] => { results := [.lit (.bool false)], args := [d1, d2, d3, d4, d5] }
  | _ => none }
def VaultBackWrongFalsely : Prop := vaultBackRow.holds Try.pinned (OpenSpec.ofChange vaultBackWrong)

/-- 'cellaragelaw12.VaultShelves': WHATEVER THE INPUT: true; the input reads as it did. -/
def vaultShelvesSpec : ChangeSpec := { name := "vaultShelves", fn := fun _ => fun
  | [d1, d2] => { results := [.lit (.bool true)], args := [d1, d2] }
  | _ => none }
def vaultShelvesRow : OpenClaim := { program := "ytggggfcgnkllgaa", sum := "de0ed874a245fe67fb359e0cb8a734aa1dc03f8c42d634b45103ca0a5fa0751f", func := "cellarage/cellaragelaw12.VaultShelves", spec := "vaultShelves", plainKeys := false, apart := false }
def VaultShelvesSaid : Prop := vaultShelvesRow.holds Try.pinned (OpenSpec.ofChange vaultShelvesSpec)

/-- ITS FALSE NEIGHBOUR: 'it returns false'. Refute it at one input. -/
def vaultShelvesWrong : ChangeSpec := { name := "vaultShelves", fn := fun _ => fun
  | [d1, d2] => { results := [.lit (.bool false)], args := [d1, d2] }
  | _ => none }
def VaultShelvesWrongFalsely : Prop := vaultShelvesRow.holds Try.pinned (OpenSpec.ofChange vaultShelvesWrong)

/-- 'cellaragelaw12.VaultNil': WHATEVER THE INPUT: true; the input reads as it did. -/
def vaultNilSpec : ChangeSpec := { name := "vaultNil", fn := fun _ => fun
  | [d1, d2] => { results := [.lit (.bool true)], args := [d1, d2] }
  | _ => none }
def vaultNilRow : OpenClaim := { program := "ytggggfcgnkllgaa", sum := "de0ed874a245fe67fb359e0cb8a734aa1dc03f8c42d634b45103ca0a5fa0751f", func := "cellarage/cellaragelaw12.VaultNil", spec := "vaultNil", plainKeys := false, apart := false }
def VaultNilSaid : Prop := vaultNilRow.holds Try.pinned (OpenSpec.ofChange vaultNilSpec)

/-- ITS FALSE NEIGHBOUR: 'it returns false'. Refute it at one input. -/
def vaultNilWrong : ChangeSpec := { name := "vaultNil", fn := fun _ => fun
  | [d1, d2] => { results := [.lit (.bool false)], args := [d1, d2] }
  | _ => none }
def VaultNilWrongFalsely : Prop := vaultNilRow.holds Try.pinned (OpenSpec.ofChange vaultNilWrong)

/-- 'cellaragelaw12.VaultPlays': WHATEVER THE INPUT: true; the input reads as it did. -/
def vaultPlaysSpec : ChangeSpec := { name := "vaultPlays", fn := fun _ => fun
  | [d1, d2] => { results := [.lit (.bool true)], args := [d1, d2] }
  | _ => none }
def vaultPlaysRow : OpenClaim := { program := "ytggggfcgnkllgaa", sum := "de0ed874a245fe67fb359e0cb8a734aa1dc03f8c42d634b45103ca0a5fa0751f", func := "cellarage/cellaragelaw12.VaultPlays", spec := "vaultPlays", plainKeys := false, apart := false }
def VaultPlaysSaid : Prop := vaultPlaysRow.holds Try.pinned (OpenSpec.ofChange vaultPlaysSpec)

/-- ITS FALSE NEIGHBOUR: 'it returns false'. Refute it at one input. -/
def vaultPlaysWrong : ChangeSpec := { name := "vaultPlays", fn := fun _ => fun
  | [d1, d2] => { results := [.lit (.bool false)], args := [d1, d2] }
  | _ => none }
def VaultPlaysWrongFalsely : Prop := vaultPlaysRow.holds Try.pinned (OpenSpec.ofChange vaultPlaysWrong)

/-- 'cellaragelaw20.HomeNil': WHATEVER THE INPUT: true; the input reads as it did. -/
def homeNilSpec : ChangeSpec := { name := "homeNil", fn := fun _ => fun
  | [d1, d2] => { results := [.lit (.bool true)], args := [d1, d2] }
  | _ => none }
def homeNilRow : OpenClaim := { program := "ytggggfcgnkllgaa", sum := "de0ed874a245fe67fb359e0cb8a734aa1dc03f8c42d634b45103ca0a5fa0751f", func := "cellarage/cellaragelaw20.HomeNil", spec := "homeNil", plainKeys := false, apart := false }
def HomeNilSaid : Prop := homeNilRow.holds Try.pinned (OpenSpec.ofChange homeNilSpec)

/-- ITS FALSE NEIGHBOUR: 'it returns false'. Refute it at one input. -/
def homeNilWrong : ChangeSpec := { name := "homeNil", fn := fun _ => fun
  | [d1, d2] => { results := [.lit (.bool false)], args := [d1, d2] }
  | _ => none }
def HomeNilWrongFalsely : Prop := homeNilRow.holds Try.pinned (OpenSpec.ofChange homeNilWrong)

/-- 'cellaragelaw20.HomeBack': WHATEVER THE INPUT: true; the input reads as it did. -/
def homeBackSpec : ChangeSpec := { name := "homeBack", fn := fun _ => fun
  | [d1, d2] => { results := [.lit (.bool true)], args := [d1, d2] }
  | _ => none }
def homeBackRow : OpenClaim := { program := "ytggggfcgnkllgaa", sum := "de0ed874a245fe67fb359e0cb8a734aa1dc03f8c42d634b45103ca0a5fa0751f", func := "cellarage/cellaragelaw20.HomeBack", spec := "homeBack", plainKeys := false, apart := false }
def HomeBackSaid : Prop := homeBackRow.holds Try.pinned (OpenSpec.ofChange homeBackSpec)

/-- ITS FALSE NEIGHBOUR: 'it returns false'. Refute it at one input. -/
def homeBackWrong : ChangeSpec := { name := "homeBack", fn := fun _ => fun
  | [d1, d2] => { results := [.lit (.bool false)], args := [d1, d2] }
  | _ => none }
def HomeBackWrongFalsely : Prop := homeBackRow.holds Try.pinned (OpenSpec.ofChange homeBackWrong)

/-- 'cellaragelaw20.HomeOps': WHATEVER THE INPUT: true; the input reads as it did. -/
def homeOpsSpec : ChangeSpec := { name := "homeOps", fn := fun _ => fun
  | [d1, d2] => { results := [.lit (.bool true)], args := [d1, d2] }
  | _ => none }
def homeOpsRow : OpenClaim := { program := "ytggggfcgnkllgaa", sum := "de0ed874a245fe67fb359e0cb8a734aa1dc03f8c42d634b45103ca0a5fa0751f", func := "cellarage/cellaragelaw20.HomeOps", spec := "homeOps", plainKeys := false, apart := false }
def HomeOpsSaid : Prop := homeOpsRow.holds Try.pinned (OpenSpec.ofChange homeOpsSpec)

/-- ITS FALSE NEIGHBOUR: 'it returns false'. Refute it at one input. -/
def homeOpsWrong : ChangeSpec := { name := "homeOps", fn := fun _ => fun
  | [d1, d2] => { results := [.lit (.bool false)], args := [d1, d2] }
  | _ => none }
def HomeOpsWrongFalsely : Prop := homeOpsRow.holds Try.pinned (OpenSpec.ofChange homeOpsWrong)

/-- 'cellaragelaw20.HomeCrashes': WHATEVER THE INPUT: true; the input reads as it did. -/
def homeCrashesSpec : ChangeSpec := { name := "homeCrashes", fn := fun _ => fun
  | [d1, d2] => { results := [.lit (.bool true)], args := [d1, d2] }
  | _ => none }
def homeCrashesRow : OpenClaim := { program := "ytggggfcgnkllgaa", sum := "de0ed874a245fe67fb359e0cb8a734aa1dc03f8c42d634b45103ca0a5fa0751f", func := "cellarage/cellaragelaw20.HomeCrashes", spec := "homeCrashes", plainKeys := false, apart := false }
def HomeCrashesSaid : Prop := homeCrashesRow.holds Try.pinned (OpenSpec.ofChange homeCrashesSpec)

/-- ITS FALSE NEIGHBOUR: 'it returns false'. Refute it at one input. -/
def homeCrashesWrong : ChangeSpec := { name := "homeCrashes", fn := fun _ => fun
  | [d1, d2] => { results := [.lit (.bool false)], args := [d1, d2] }
  | _ => none }
def HomeCrashesWrongFalsely : Prop := homeCrashesRow.holds Try.pinned (OpenSpec.ofChange homeCrashesWrong)

/-- 'cellaragelaw20.HomePlays': WHATEVER THE INPUT: true; the input reads as it did. -/
def homePlaysSpec : ChangeSpec := { name := "homePlays", fn := fun _ => fun
  | [d1, d2, d3] => { results := [.lit (.bool true)], args := [d1, d2, d3] }
  | _ => none }
def homePlaysRow : OpenClaim := { program := "ytggggfcgnkllgaa", sum := "de0ed874a245fe67fb359e0cb8a734aa1dc03f8c42d634b45103ca0a5fa0751f", func := "cellarage/cellaragelaw20.HomePlays", spec := "homePlays", plainKeys := false, apart := false }
def HomePlaysSaid : Prop := homePlaysRow.holds Try.pinned (OpenSpec.ofChange homePlaysSpec)

/-- ITS FALSE NEIGHBOUR: 'it returns false'. Refute it at one input. -/
def homePlaysWrong : ChangeSpec := { name := "homePlays", fn := fun _ => fun
  | [d1, d2, d3] => { results := [.lit (.bool false)], args := [d1, d2, d3] }
  | _ => none }
def HomePlaysWrongFalsely : Prop := homePlaysRow.holds Try.pinned (OpenSpec.ofChange homePlaysWrong)

/- THE SECOND FORM. 'bulk': how many values and letters a reading holds, each counted each time it is reached (what is shared counts as often as it is met; a slice's spare places count too). A statement '..UptoSaid' is the law's where the arguments, and the package variables that the reading takes, are together of bulk at most 1048576: NARROWER than '..Said'. Prove '..Said' where nothing that the law and all that it calls make is longer than what came in: it says more and counts as full. Else prove '..UptoSaid'. A law counts once. -/
mutual
def uptoBulk {H : Type} : DataW H → Nat
  | .lit (.string bytes) => bytes.length + 1
  | .lit _ => 1
  | .nil => 1
  | .ptr d => uptoBulk d + 1
  | .slice elems spare => uptoBulkAll elems + uptoBulkAll spare + 1
  | .agg parts => uptoBulkAll parts + 1
  | .iface _ d => uptoBulk d + 1
  | .map entries => uptoBulkEntries entries + 1
  | .held _ => 1
def uptoBulkAll {H : Type} : List (DataW H) → Nat
  | [] => 0
  | d :: r => uptoBulk d + uptoBulkAll r
def uptoBulkEntries {H : Type} : List (Lit × DataW H) → Nat
  | [] => 0
  | x :: r => uptoBulkEntry x + uptoBulkEntries r
def uptoBulkEntry {H : Type} : Lit × DataW H → Nat
  | (.string bytes, d) => bytes.length + uptoBulk d + 1
  | (_, d) => uptoBulk d + 1
 end
def uptoSmall : (H : Type) → List (DataW H) → Bool := fun _ ds => decide (uptoBulkAll ds ≤ 1048576)
def OpenSpec.upto (s : _root_.Go.ChangeSpec) : _root_.Go.OpenSpec := { _root_.Go.OpenSpec.ofChange s with cond := some uptoSmall }

/-- 'cellaragelaw10.SlotLays', WHERE WHAT IT READS IS OF BULK AT MOST 1048576: true; the input reads as it did. -/
def slotLaysUptoRow : OpenClaim := { program := "ytggggfcgnkllgaa", sum := "de0ed874a245fe67fb359e0cb8a734aa1dc03f8c42d634b45103ca0a5fa0751f", func := "cellarage/cellaragelaw10.SlotLays", spec := "slotLays", plainKeys := false, apart := false, narrowed := true }
def SlotLaysUptoSaid : Prop := slotLaysUptoRow.holds Try.pinned (OpenSpec.upto slotLaysSpec)

/-- 'cellaragelaw10.SlotTakes', WHERE WHAT IT READS IS OF BULK AT MOST 1048576: true; the input reads as it did. -/
def slotTakesUptoRow : OpenClaim := { program := "ytggggfcgnkllgaa", sum := "de0ed874a245fe67fb359e0cb8a734aa1dc03f8c42d634b45103ca0a5fa0751f", func := "cellarage/cellaragelaw10.SlotTakes", spec := "slotTakes", plainKeys := false, apart := false, narrowed := true }
def SlotTakesUptoSaid : Prop := slotTakesUptoRow.holds Try.pinned (OpenSpec.upto slotTakesSpec)

/-- 'cellaragelaw10.SlotBack', WHERE WHAT IT READS IS OF BULK AT MOST 1048576: true; the input reads as it did. -/
def slotBackUptoRow : OpenClaim := { program := "ytggggfcgnkllgaa", sum := "de0ed874a245fe67fb359e0cb8a734aa1dc03f8c42d634b45103ca0a5fa0751f", func := "cellarage/cellaragelaw10.SlotBack", spec := "slotBack", plainKeys := false, apart := false, narrowed := true }
def SlotBackUptoSaid : Prop := slotBackUptoRow.holds Try.pinned (OpenSpec.upto slotBackSpec)

/-- 'cellaragelaw10.SlotTorn', WHERE WHAT IT READS IS OF BULK AT MOST 1048576: true; the input reads as it did. -/
def slotTornUptoRow : OpenClaim := { program := "ytggggfcgnkllgaa", sum := "de0ed874a245fe67fb359e0cb8a734aa1dc03f8c42d634b45103ca0a5fa0751f", func := "cellarage/cellaragelaw10.SlotTorn", spec := "slotTorn", plainKeys := false, apart := false, narrowed := true }
def SlotTornUptoSaid : Prop := slotTornUptoRow.holds Try.pinned (OpenSpec.upto slotTornSpec)

/-- 'cellaragelaw01.CodecOrder', WHERE WHAT IT READS IS OF BULK AT MOST 1048576: true; the input reads as it did. -/
def codecOrderUptoRow : OpenClaim := { program := "ytggggfcgnkllgaa", sum := "de0ed874a245fe67fb359e0cb8a734aa1dc03f8c42d634b45103ca0a5fa0751f", func := "cellarage/cellaragelaw01.CodecOrder", spec := "codecOrder", plainKeys := false, apart := false, narrowed := true }
def CodecOrderUptoSaid : Prop := codecOrderUptoRow.holds Try.pinned (OpenSpec.upto codecOrderSpec)

/-- 'cellaragelaw10.SlotNewer', WHERE WHAT IT READS IS OF BULK AT MOST 1048576: true; the input reads as it did. -/
def slotNewerUptoRow : OpenClaim := { program := "ytggggfcgnkllgaa", sum := "de0ed874a245fe67fb359e0cb8a734aa1dc03f8c42d634b45103ca0a5fa0751f", func := "cellarage/cellaragelaw10.SlotNewer", spec := "slotNewer", plainKeys := false, apart := false, narrowed := true }
def SlotNewerUptoSaid : Prop := slotNewerUptoRow.holds Try.pinned (OpenSpec.upto slotNewerSpec)

/-- 'cellaragelaw10.SlotCommits', WHERE WHAT IT READS IS OF BULK AT MOST 1048576: true; the input reads as it did. -/
def slotCommitsUptoRow : OpenClaim := { program := "ytggggfcgnkllgaa", sum := "de0ed874a245fe67fb359e0cb8a734aa1dc03f8c42d634b45103ca0a5fa0751f", func := "cellarage/cellaragelaw10.SlotCommits", spec := "slotCommits", plainKeys := false, apart := false, narrowed := true }
def SlotCommitsUptoSaid : Prop := slotCommitsUptoRow.holds Try.pinned (OpenSpec.upto slotCommitsSpec)

/-- 'cellaragelaw02.CrcSums', WHERE WHAT IT READS IS OF BULK AT MOST 1048576: true; the input reads as it did. -/
def crcSumsUptoRow : OpenClaim := { program := "ytggggfcgnkllgaa", sum := "de0ed874a245fe67fb359e0cb8a734aa1dc03f8c42d634b45103ca0a5fa0751f", func := "cellarage/cellaragelaw02.CrcSums", spec := "crcSums", plainKeys := false, apart := false, narrowed := true }
def CrcSumsUptoSaid : Prop := crcSumsUptoRow.holds Try.pinned (OpenSpec.upto crcSumsSpec)

/-- 'cellaragelaw02.CrcSeals', WHERE WHAT IT READS IS OF BULK AT MOST 1048576: true; the input reads as it did. -/
def crcSealsUptoRow : OpenClaim := { program := "ytggggfcgnkllgaa", sum := "de0ed874a245fe67fb359e0cb8a734aa1dc03f8c42d634b45103ca0a5fa0751f", func := "cellarage/cellaragelaw02.CrcSeals", spec := "crcSeals", plainKeys := false, apart := false, narrowed := true }
def CrcSealsUptoSaid : Prop := crcSealsUptoRow.holds Try.pinned (OpenSpec.upto crcSealsSpec)

/-- 'cellaragelaw02.CrcGoes', WHERE WHAT IT READS IS OF BULK AT MOST 1048576: true; the input reads as it did. -/
def crcGoesUptoRow : OpenClaim := { program := "ytggggfcgnkllgaa", sum := "de0ed874a245fe67fb359e0cb8a734aa1dc03f8c42d634b45103ca0a5fa0751f", func := "cellarage/cellaragelaw02.CrcGoes", spec := "crcGoes", plainKeys := false, apart := false, narrowed := true }
def CrcGoesUptoSaid : Prop := crcGoesUptoRow.holds Try.pinned (OpenSpec.upto crcGoesSpec)

/-- 'cellaragelaw02.CrcTells', WHERE WHAT IT READS IS OF BULK AT MOST 1048576: true; the input reads as it did. -/
def crcTellsUptoRow : OpenClaim := { program := "ytggggfcgnkllgaa", sum := "de0ed874a245fe67fb359e0cb8a734aa1dc03f8c42d634b45103ca0a5fa0751f", func := "cellarage/cellaragelaw02.CrcTells", spec := "crcTells", plainKeys := false, apart := false, narrowed := true }
def CrcTellsUptoSaid : Prop := crcTellsUptoRow.holds Try.pinned (OpenSpec.upto crcTellsSpec)

/-- 'cellaragelaw02.CrcBack', WHERE WHAT IT READS IS OF BULK AT MOST 1048576: true; the input reads as it did. -/
def crcBackUptoRow : OpenClaim := { program := "ytggggfcgnkllgaa", sum := "de0ed874a245fe67fb359e0cb8a734aa1dc03f8c42d634b45103ca0a5fa0751f", func := "cellarage/cellaragelaw02.CrcBack", spec := "crcBack", plainKeys := false, apart := false, narrowed := true }
def CrcBackUptoSaid : Prop := crcBackUptoRow.holds Try.pinned (OpenSpec.upto crcBackSpec)

/-- 'cellaragelaw02.CrcLinear', WHERE WHAT IT READS IS OF BULK AT MOST 1048576: true; the input reads as it did. -/
def crcLinearUptoRow : OpenClaim := { program := "ytggggfcgnkllgaa", sum := "de0ed874a245fe67fb359e0cb8a734aa1dc03f8c42d634b45103ca0a5fa0751f", func := "cellarage/cellaragelaw02.CrcLinear", spec := "crcLinear", plainKeys := false, apart := false, narrowed := true }
def CrcLinearUptoSaid : Prop := crcLinearUptoRow.holds Try.pinned (OpenSpec.upto crcLinearSpec)

/-- 'cellaragelaw01.CodecTakes', WHERE WHAT IT READS IS OF BULK AT MOST 1048576: true; the input reads as it did. -/
def codecTakesUptoRow : OpenClaim := { program := "ytggggfcgnkllgaa", sum := "de0ed874a245fe67fb359e0cb8a734aa1dc03f8c42d634b45103ca0a5fa0751f", func := "cellarage/cellaragelaw01.CodecTakes", spec := "codecTakes", plainKeys := false, apart := false, narrowed := true }
def CodecTakesUptoSaid : Prop := codecTakesUptoRow.holds Try.pinned (OpenSpec.upto codecTakesSpec)

/-- 'cellaragelaw01.CodecBack', WHERE WHAT IT READS IS OF BULK AT MOST 1048576: true; the input reads as it did. -/
def codecBackUptoRow : OpenClaim := { program := "ytggggfcgnkllgaa", sum := "de0ed874a245fe67fb359e0cb8a734aa1dc03f8c42d634b45103ca0a5fa0751f", func := "cellarage/cellaragelaw01.CodecBack", spec := "codecBack", plainKeys := false, apart := false, narrowed := true }
def CodecBackUptoSaid : Prop := codecBackUptoRow.holds Try.pinned (OpenSpec.upto codecBackSpec)

/-- 'cellaragelaw01.CodecShort', WHERE WHAT IT READS IS OF BULK AT MOST 1048576: true; the input reads as it did. -/
def codecShortUptoRow : OpenClaim := { program := "ytggggfcgnkllgaa", sum := "de0ed874a245fe67fb359e0cb8a734aa1dc03f8c42d634b45103ca0a5fa0751f", func := "cellarage/cellaragelaw01.CodecShort", spec := "codecShort", plainKeys := false, apart := false, narrowed := true }
def CodecShortUptoSaid : Prop := codecShortUptoRow.holds Try.pinned (OpenSpec.upto codecShortSpec)

/-- 'cellaragelaw01.CodecNil', WHERE WHAT IT READS IS OF BULK AT MOST 1048576: true; the input reads as it did. -/
def codecNilUptoRow : OpenClaim := { program := "ytggggfcgnkllgaa", sum := "de0ed874a245fe67fb359e0cb8a734aa1dc03f8c42d634b45103ca0a5fa0751f", func := "cellarage/cellaragelaw01.CodecNil", spec := "codecNil", plainKeys := false, apart := false, narrowed := true }
def CodecNilUptoSaid : Prop := codecNilUptoRow.holds Try.pinned (OpenSpec.upto codecNilSpec)

/-- 'cellaragelaw08.DiskTorn', WHERE WHAT IT READS IS OF BULK AT MOST 1048576: true; the input reads as it did. -/
def diskTornUptoRow : OpenClaim := { program := "ytggggfcgnkllgaa", sum := "de0ed874a245fe67fb359e0cb8a734aa1dc03f8c42d634b45103ca0a5fa0751f", func := "cellarage/cellaragelaw08.DiskTorn", spec := "diskTorn", plainKeys := false, apart := false, narrowed := true }
def DiskTornUptoSaid : Prop := diskTornUptoRow.holds Try.pinned (OpenSpec.upto diskTornSpec)

/-- 'cellaragelaw08.DiskSafe', WHERE WHAT IT READS IS OF BULK AT MOST 1048576: true; the input reads as it did. -/
def diskSafeUptoRow : OpenClaim := { program := "ytggggfcgnkllgaa", sum := "de0ed874a245fe67fb359e0cb8a734aa1dc03f8c42d634b45103ca0a5fa0751f", func := "cellarage/cellaragelaw08.DiskSafe", spec := "diskSafe", plainKeys := false, apart := false, narrowed := true }
def DiskSafeUptoSaid : Prop := diskSafeUptoRow.holds Try.pinned (OpenSpec.upto diskSafeSpec)

/-- 'cellaragelaw08.DiskFlush', WHERE WHAT IT READS IS OF BULK AT MOST 1048576: true; the input reads as it did. -/
def diskFlushUptoRow : OpenClaim := { program := "ytggggfcgnkllgaa", sum := "de0ed874a245fe67fb359e0cb8a734aa1dc03f8c42d634b45103ca0a5fa0751f", func := "cellarage/cellaragelaw08.DiskFlush", spec := "diskFlush", plainKeys := false, apart := false, narrowed := true }
def DiskFlushUptoSaid : Prop := diskFlushUptoRow.holds Try.pinned (OpenSpec.upto diskFlushSpec)

/-- 'cellaragelaw08.DiskCuts', WHERE WHAT IT READS IS OF BULK AT MOST 1048576: true; the input reads as it did. -/
def diskCutsUptoRow : OpenClaim := { program := "ytggggfcgnkllgaa", sum := "de0ed874a245fe67fb359e0cb8a734aa1dc03f8c42d634b45103ca0a5fa0751f", func := "cellarage/cellaragelaw08.DiskCuts", spec := "diskCuts", plainKeys := false, apart := false, narrowed := true }
def DiskCutsUptoSaid : Prop := diskCutsUptoRow.holds Try.pinned (OpenSpec.upto diskCutsSpec)

/-- 'cellaragelaw08.DiskPlays', WHERE WHAT IT READS IS OF BULK AT MOST 1048576: true; the input reads as it did. -/
def diskPlaysUptoRow : OpenClaim := { program := "ytggggfcgnkllgaa", sum := "de0ed874a245fe67fb359e0cb8a734aa1dc03f8c42d634b45103ca0a5fa0751f", func := "cellarage/cellaragelaw08.DiskPlays", spec := "diskPlays", plainKeys := false, apart := false, narrowed := true }
def DiskPlaysUptoSaid : Prop := diskPlaysUptoRow.holds Try.pinned (OpenSpec.upto diskPlaysSpec)

/-- 'cellaragelaw08.DiskNil', WHERE WHAT IT READS IS OF BULK AT MOST 1048576: true; the input reads as it did. -/
def diskNilUptoRow : OpenClaim := { program := "ytggggfcgnkllgaa", sum := "de0ed874a245fe67fb359e0cb8a734aa1dc03f8c42d634b45103ca0a5fa0751f", func := "cellarage/cellaragelaw08.DiskNil", spec := "diskNil", plainKeys := false, apart := false, narrowed := true }
def DiskNilUptoSaid : Prop := diskNilUptoRow.holds Try.pinned (OpenSpec.upto diskNilSpec)

/-- 'cellaragelaw11.ContLays', WHERE WHAT IT READS IS OF BULK AT MOST 1048576: true; the input reads as it did. -/
def contLaysUptoRow : OpenClaim := { program := "ytggggfcgnkllgaa", sum := "de0ed874a245fe67fb359e0cb8a734aa1dc03f8c42d634b45103ca0a5fa0751f", func := "cellarage/cellaragelaw11.ContLays", spec := "contLays", unfollowed := true, recurses := true, plainKeys := false, apart := false, narrowed := true }
def ContLaysUptoSaid : Prop := contLaysUptoRow.holds Try.pinned (OpenSpec.upto contLaysSpec)

/-- 'cellaragelaw11.ContBack', WHERE WHAT IT READS IS OF BULK AT MOST 1048576: true; the input reads as it did. -/
def contBackUptoRow : OpenClaim := { program := "ytggggfcgnkllgaa", sum := "de0ed874a245fe67fb359e0cb8a734aa1dc03f8c42d634b45103ca0a5fa0751f", func := "cellarage/cellaragelaw11.ContBack", spec := "contBack", unfollowed := true, recurses := true, plainKeys := false, apart := false, narrowed := true }
def ContBackUptoSaid : Prop := contBackUptoRow.holds Try.pinned (OpenSpec.upto contBackSpec)

/-- 'cellaragelaw11.ContOnce', WHERE WHAT IT READS IS OF BULK AT MOST 1048576: true; the input reads as it did. -/
def contOnceUptoRow : OpenClaim := { program := "ytggggfcgnkllgaa", sum := "de0ed874a245fe67fb359e0cb8a734aa1dc03f8c42d634b45103ca0a5fa0751f", func := "cellarage/cellaragelaw11.ContOnce", spec := "contOnce", unfollowed := true, recurses := true, plainKeys := false, apart := false, narrowed := true }
def ContOnceUptoSaid : Prop := contOnceUptoRow.holds Try.pinned (OpenSpec.upto contOnceSpec)

/-- 'cellaragelaw11.ContTurned', WHERE WHAT IT READS IS OF BULK AT MOST 1048576: true; the input reads as it did. -/
def contTurnedUptoRow : OpenClaim := { program := "ytggggfcgnkllgaa", sum := "de0ed874a245fe67fb359e0cb8a734aa1dc03f8c42d634b45103ca0a5fa0751f", func := "cellarage/cellaragelaw11.ContTurned", spec := "contTurned", unfollowed := true, recurses := true, plainKeys := false, apart := false, narrowed := true }
def ContTurnedUptoSaid : Prop := contTurnedUptoRow.holds Try.pinned (OpenSpec.upto contTurnedSpec)

/-- 'cellaragelaw11.ContOwn', WHERE WHAT IT READS IS OF BULK AT MOST 1048576: true; the input reads as it did. -/
def contOwnUptoRow : OpenClaim := { program := "ytggggfcgnkllgaa", sum := "de0ed874a245fe67fb359e0cb8a734aa1dc03f8c42d634b45103ca0a5fa0751f", func := "cellarage/cellaragelaw11.ContOwn", spec := "contOwn", unfollowed := true, recurses := true, plainKeys := false, apart := false, narrowed := true }
def ContOwnUptoSaid : Prop := contOwnUptoRow.holds Try.pinned (OpenSpec.upto contOwnSpec)

/-- 'cellaragelaw11.ContTakes', WHERE WHAT IT READS IS OF BULK AT MOST 1048576: true; the input reads as it did. -/
def contTakesUptoRow : OpenClaim := { program := "ytggggfcgnkllgaa", sum := "de0ed874a245fe67fb359e0cb8a734aa1dc03f8c42d634b45103ca0a5fa0751f", func := "cellarage/cellaragelaw11.ContTakes", spec := "contTakes", unfollowed := true, recurses := true, plainKeys := false, apart := false, narrowed := true }
def ContTakesUptoSaid : Prop := contTakesUptoRow.holds Try.pinned (OpenSpec.upto contTakesSpec)

/-- 'cellaragelaw12.VaultBack', WHERE WHAT IT READS IS OF BULK AT MOST 1048576: true; the input reads as it did. -/
def vaultBackUptoRow : OpenClaim := { program := "ytggggfcgnkllgaa", sum := "de0ed874a245fe67fb359e0cb8a734aa1dc03f8c42d634b45103ca0a5fa0751f", func := "cellarage/cellaragelaw12.VaultBack", spec := "vaultBack", plainKeys := false, apart := false, narrowed := true }
def VaultBackUptoSaid : Prop := vaultBackUptoRow.holds Try.pinned (OpenSpec.upto vaultBackSpec)

/-- 'cellaragelaw12.VaultShelves', WHERE WHAT IT READS IS OF BULK AT MOST 1048576: true; the input reads as it did. -/
def vaultShelvesUptoRow : OpenClaim := { program := "ytggggfcgnkllgaa", sum := "de0ed874a245fe67fb359e0cb8a734aa1dc03f8c42d634b45103ca0a5fa0751f", func := "cellarage/cellaragelaw12.VaultShelves", spec := "vaultShelves", plainKeys := false, apart := false, narrowed := true }
def VaultShelvesUptoSaid : Prop := vaultShelvesUptoRow.holds Try.pinned (OpenSpec.upto vaultShelvesSpec)

/-- 'cellaragelaw12.VaultNil', WHERE WHAT IT READS IS OF BULK AT MOST 1048576: true; the input reads as it did. -/
def vaultNilUptoRow : OpenClaim := { program := "ytggggfcgnkllgaa", sum := "de0ed874a245fe67fb359e0cb8a734aa1dc03f8c42d634b45103ca0a5fa0751f", func := "cellarage/cellaragelaw12.VaultNil", spec := "vaultNil", plainKeys := false, apart := false, narrowed := true }
def VaultNilUptoSaid : Prop := vaultNilUptoRow.holds Try.pinned (OpenSpec.upto vaultNilSpec)

/-- 'cellaragelaw12.VaultPlays', WHERE WHAT IT READS IS OF BULK AT MOST 1048576: true; the input reads as it did. -/
def vaultPlaysUptoRow : OpenClaim := { program := "ytggggfcgnkllgaa", sum := "de0ed874a245fe67fb359e0cb8a734aa1dc03f8c42d634b45103ca0a5fa0751f", func := "cellarage/cellaragelaw12.VaultPlays", spec := "vaultPlays", plainKeys := false, apart := false, narrowed := true }
def VaultPlaysUptoSaid : Prop := vaultPlaysUptoRow.holds Try.pinned (OpenSpec.upto vaultPlaysSpec)

/-- 'cellaragelaw20.HomeNil', WHERE WHAT IT READS IS OF BULK AT MOST 1048576: true; the input reads as it did. -/
def homeNilUptoRow : OpenClaim := { program := "ytggggfcgnkllgaa", sum := "de0ed874a245fe67fb359e0cb8a734aa1dc03f8c42d634b45103ca0a5fa0751f", func := "cellarage/cellaragelaw20.HomeNil", spec := "homeNil", plainKeys := false, apart := false, narrowed := true }
def HomeNilUptoSaid : Prop := homeNilUptoRow.holds Try.pinned (OpenSpec.upto homeNilSpec)

/-- 'cellaragelaw20.HomeBack', WHERE WHAT IT READS IS OF BULK AT MOST 1048576: true; the input reads as it did. -/
def homeBackUptoRow : OpenClaim := { program := "ytggggfcgnkllgaa", sum := "de0ed874a245fe67fb359e0cb8a734aa1dc03f8c42d634b45103ca0a5fa0751f", func := "cellarage/cellaragelaw20.HomeBack", spec := "homeBack", plainKeys := false, apart := false, narrowed := true }
def HomeBackUptoSaid : Prop := homeBackUptoRow.holds Try.pinned (OpenSpec.upto homeBackSpec)

/-- 'cellaragelaw20.HomeOps', WHERE WHAT IT READS IS OF BULK AT MOST 1048576: true; the input reads as it did. -/
def homeOpsUptoRow : OpenClaim := { program := "ytggggfcgnkllgaa", sum := "de0ed874a245fe67fb359e0cb8a734aa1dc03f8c42d634b45103ca0a5fa0751f", func := "cellarage/cellaragelaw20.HomeOps", spec := "homeOps", plainKeys := false, apart := false, narrowed := true }
def HomeOpsUptoSaid : Prop := homeOpsUptoRow.holds Try.pinned (OpenSpec.upto homeOpsSpec)

/-- 'cellaragelaw20.HomeCrashes', WHERE WHAT IT READS IS OF BULK AT MOST 1048576: true; the input reads as it did. -/
def homeCrashesUptoRow : OpenClaim := { program := "ytggggfcgnkllgaa", sum := "de0ed874a245fe67fb359e0cb8a734aa1dc03f8c42d634b45103ca0a5fa0751f", func := "cellarage/cellaragelaw20.HomeCrashes", spec := "homeCrashes", plainKeys := false, apart := false, narrowed := true }
def HomeCrashesUptoSaid : Prop := homeCrashesUptoRow.holds Try.pinned (OpenSpec.upto homeCrashesSpec)

/-- 'cellaragelaw20.HomePlays', WHERE WHAT IT READS IS OF BULK AT MOST 1048576: true; the input reads as it did. -/
def homePlaysUptoRow : OpenClaim := { program := "ytggggfcgnkllgaa", sum := "de0ed874a245fe67fb359e0cb8a734aa1dc03f8c42d634b45103ca0a5fa0751f", func := "cellarage/cellaragelaw20.HomePlays", spec := "homePlays", plainKeys := false, apart := false, narrowed := true }
def HomePlaysUptoSaid : Prop := homePlaysUptoRow.holds Try.pinned (OpenSpec.upto homePlaysSpec)

end Rows
end Go.Proofs.Ytggggfcgnkllgaa
