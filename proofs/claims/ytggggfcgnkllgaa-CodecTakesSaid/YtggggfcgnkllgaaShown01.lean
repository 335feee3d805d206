/- What cellaragelaw01.shown computes: true. -/
import Derived.Test.YtggggfcgnkllgaaCodec3
import Derived.Test.YtggggfcgnkllgaaT6
import Derived.Test.YtggggfcgnkllgaaT5
set_option linter.unusedVariables false
set_option linter.unusedSimpArgs false
namespace Go.Proofs.Ytggggfcgnkllgaa
open Go Go.Sh Go.RowKit
attribute [local irreducible] X XU XP XR CALL loopS resC closS

theorem str_lit (l : List UInt8) : ({ data := l.toArray } : ByteArray) = str l := rfl

theorem shown01 {w : World} {K : Value → World → Prop} (h : ∀ w1, Ext w w1 → K (.bool true) w1) : CALL Try.prog 47 #[] w K := by
  apply call_law01_shown
  unfold B_law01_shown
  simp only [str_lit]
  refine PutText_spec (Bts.nil w) (by simp) ?_
  intro v1 w1 hx1 ho1
  have hb1 := (own_bts ho1).1
  refine New_spec hb1 (by simp) ?_
  intro b2 w2 hx2 hb2 hr2
  refine X_buildSlice1 Try.underlying27 el_5 rfl ?_
  have hb3 : Bts (newB w2 #[.int .u8 7] 5) (.slice (some ⟨w2.heap.size, 0, none⟩) 1 1) [7] :=
    ⟨_, _, rfl, by simp, by omega, fun _ => ⟨_, rfl, fun j u hj => by
      have : j = 0 := by have := (List.getElem?_eq_some_iff.1 hj).1; simp at this; omega
      subst this
      simp at hj
      subst hj
      show World.cell? _ ⟨_, 0, none⟩ = _
      rw [cell_blk (newB_get _ _ _)]
      rfl⟩⟩
  have hx3 := newB_ext w2 #[.int .u8 7] 5
  generalize newB w2 #[.int .u8 7] 5 = w3 at hb3 hx3 ⊢
  refine New_spec hb3 (by simp) ?_
  intro b4 w4 hx4 hb4 hr4
  have hr2' := hr2.ext (hx3.trans hx4)
  have hne : b4 ≠ b2 := by have := hr2.lt; have := hx3.size; omega
  simp only [SS, ST, Option.isNone_some, Bool.false_eq_true, if_false, if_true]
  have et : textR ([] ++ (be 4 ([97, 98] : List UInt8).length ++ [97, 98])) 0 1 = ([], [0, 0, 0, 2, 97, 98], 4) := by decide
  refine Text_spec hr2' (by decide) ?_
  rw [et]
  intro w5 hk5 hr5
  have hr4' := hr4.keep hk5 hne (fun i h1 h2 h3 h4 => by have := hr2.lt; have := hx3.size; omega)
  refine Get_spec hr4' ?_
  have eg : getR [7] 0 2 = (0, [7], 10) := by decide
  rw [eg]
  intro w6 hk6 hr6
  have hr5' := hr5.keep hk6 (fun e => hne e.symm) (fun i h1 h2 h3 h4 => by have := hx2.size; have := hx3.size; omega)
  refine Put_spec (n := 258) (Bts.nil _) (by simp) (by decide) ?_
  intro v7 w7 hx7 ho7
  have hx06 : Ext w w6 := by
    refine Ext.seq (Ext.seq (hx1.trans (hx2.trans (hx3.trans hx4))) hk5 ?_) hk6 ?_
    · rintro i rfl; have := hx1.size; omega
    · rintro i rfl; have := hx1.size; have := hx2.size; have := hx3.size; omega
  have hx17 : Ext w1 w7 := by
    refine Ext.seq (Ext.seq (hx2.trans (hx3.trans hx4)) hk5 ?_) hk6 ?_ |>.trans hx7
    · rintro i rfl; omega
    · rintro i rfl; have := hx2.size; have := hx3.size; omega
  refine X_str Try.underlying27 Try.underlying5 Try.underlying9 (own_bts ho7).1 ?_
  simp only [X_eq_str]
  have ep : decide ([] ++ putB 258 3 = [0, 1, 2]) = true := by decide
  simp only [ep, SS, ST, if_true]
  refine X_str Try.underlying27 Try.underlying5 Try.underlying9 (hb1.ext hx17) ?_
  simp only [X_eq_str]
  have ep : decide ([] ++ (be 4 ([97, 98] : List UInt8).length ++ [97, 98]) = ([0, 0, 0, 2, 97, 98] : List UInt8)) = true := by decide
  simp only [ep, SS, ST, if_true, str_toList, l8_beq, decide_true]
  refine Fault_spec (hr5'.ext hx7) ?_
  simp only [SS, ST, if_true, decide_true]
  refine Left_spec (hr5'.ext hx7) ?_
  simp only [SS, ST, if_true, decide_true]
  have e6 : decide (((([0, 0, 0, 2, 97, 98] : List UInt8).length : Nat) : Int) = 6) = true := by decide
  have e0 : decide (((0 : Nat) : Int) = 0) = true := by decide
  simp only [e6, e0, SS, ST, if_true]
  refine Fault_spec (hr6.ext hx7) ?_
  simp only [SS, ST, if_true, decide_true]
  exact h _ (hx06.trans hx7)
end Go.Proofs.Ytggggfcgnkllgaa
