/- TopRoom answers true for every input: the tied card. Conditions: none but the row's own (the table of math/bits is laid as the program's text lays it). -/
import Derived.Test.YtcigpjejbkngfaaGreatDoorQTR18
import Derived.Test.YtcigpjejbkngfaaGreatDoorTie
import Derived.Test.YtcigpjejbkngfaaGreatDoorCards
import Derived.SevenTiedAt
namespace Go.Proofs.YtcigpjejbkngfaaGreatDoor
open Go
open Go.Proofs.YtcigpjejbkngfaaGreatDoor
set_option maxRecDepth 100000
theorem topRoom_holds : Rows.TopRoomCardSaid :=
  Claim7.holds_tied_plain_at .later [] [.data] true (true, "4e341f903a424eae096d34bbdcf8033892aa109cffe9d50a143ef69732661d76") false
    topRoom_said (fun _ h => by cases h) (by kernel_rfl) (fun _ h => by cases h) topRoom_row_tie rfl ⟨rfl, rfl⟩ (by kernel_rfl) rfl
    (fun f fn hf hfn => by
      obtain rfl : f = 3 := Option.some.inj ((show Tryz.prog.funcNamed "cellarage/cellaragetop.TopRoom" = some 3 by kernel_rfl).symm.trans hf) |>.symm
      obtain rfl : fn = Tryz.f3 := (Option.some.inj (Tryz.func3.symm.trans hfn)).symm
      exact ⟨by kernel_rfl, fun j t ht => by
        rw [Tryz.params3] at ht
        have h3 : t = 22 ∨ t = 5 := by
          rcases j with _ | _ | j
          · left; simpa using ht.symm
          · right; simpa using ht.symm
          · simp at ht
        rcases h3 with rfl | rfl
        · exact (show Tryz.prog.wantsStandIn 22 = false by kernel_rfl)
        · exact (show Tryz.prog.wantsStandIn 5 = false by kernel_rfl)⟩)
    (by kernel_rfl)
#print axioms topRoom_holds
end Go.Proofs.YtcigpjejbkngfaaGreatDoor
