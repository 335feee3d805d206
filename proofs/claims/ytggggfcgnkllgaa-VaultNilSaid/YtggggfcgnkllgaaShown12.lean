/- What cellaragelaw12.shown computes: true. -/
import Derived.Test.YtggggfcgnkllgaaActs12
set_option linter.unusedVariables false
set_option linter.unusedSimpArgs false
namespace Go.Proofs.Ytggggfcgnkllgaa
open Go Go.Sh Go.RowKit
attribute [local irreducible] X XU XP XR CALL loopS resC closS
theorem lit_abc (w : World) : (Instr.buildSlice 27 3 #[(0, (.int .u8 97)), (1, (.int .u8 98)), (2, (.int .u8 99))]).run Try.prog w = .ok (.slice (some ⟨w.heap.size, 0, none⟩) 3 3) (newB w (B8 [97, 98, 99]).toArray 5) := by kernel_rfl
theorem foot_extV {w w1 : World} {b k : Nat} (x : Ext w w1) (hb : b < w.heap.size) : foot w1 b k ↔ foot w b k := foot_same (x.block b hb (fun h => h))
theorem layAll_one {d : Dk} {t : Nat} {x : List UInt8} (h : x ≠ []) (hx : x.length ≤ 128) : layAll d t x = d.write (t : Int) x := by
  have e1 : x.take 128 = x := List.take_of_length_le hx
  have e2 : x.drop 128 = [] := List.drop_eq_nil_of_le hx
  rw [layAll_cons d t h, e1, e2, layAll_nil]
  split
  · rfl
  · rename_i hz
    have hz' : (d.write (t : Int) x).2 = 0 := by simpa using hz
    rw [← hz']
theorem put_abc : vput ⟨2, 2, 3⟩ (Dk.new 8) 1 [97, 98, 99] = (Dk.new 8).write 4 [0, 0, 0, 3, 97, 98, 99] := by
  have e : be 4 ([97, 98, 99] : List UInt8).length ++ [97, 98, 99] = [0, 0, 0, 3, 97, 98, 99] := by decide
  unfold vput
  rw [if_neg (by decide), if_neg (by decide), e]
  exact layAll_one (by simp) (by decide)
theorem vnew8 : vnew (Dk.new 8).safe.length 2 2 3 = some ⟨2, 2, 3⟩ := by
  unfold vnew
  rw [if_neg (by decide)]
  rfl
theorem vnew7 : vnew (Dk.new 7).safe.length 2 2 3 = none := by
  unfold vnew
  rw [if_pos (by decide)]
theorem shown12 {w : World} {K : Value → World → Prop} (hK : ∀ w1, Ext w w1 → K (.bool true) w1) : CALL Try.prog 98 #[] w K := by
  apply call_law12_shown
  unfold B_law12_shown
  refine New_disk (fun h => absurd h (by omega)) ?_
  intro m hm _ b w1 hx1 hlow hd1
  obtain rfl : m = 8 := by omega
  simp only [X_extract0, X_extract1]
  refine New_disk (fun h => absurd h (by omega)) ?_
  intro m hm _ b2 w2 hx2 hlow2 hd2
  obtain rfl : m = 7 := by omega
  have hd1' := hd1.ext hx2
  have hb_lt := hd1'.lt b (foot_self _ _)
  have low1 : ∀ k, foot w2 b k → w.heap.size ≤ k := fun k hk => hlow k ((foot_extV hx2 (hd1.lt b (foot_self _ _))).1 hk)
  have e0 : decide ((0 : Int) ≠ 0) = false := by decide
  simp only [X_extract0, X_extract1]
  refine VNew_spec hd1' (by omega) (fun h => by rw [vnew8] at h; cases h) ?_
  intro V hV bv w3 hx3 hbv hv3
  have eV : V = ⟨2, 2, 3⟩ := by
    rw [vnew8] at hV
    exact (Option.some.inj hV).symm
  subst eV
  simp only [X_extract0, X_extract1]
  refine VNew_spec (hd2.ext hx3) (by omega) ?_ (fun V hV => by rw [vnew7] at hV; cases hV)
  intro _
  simp only [X_extract0, X_extract1, X_eql_nil_124, Option.isNone_some, X_neq, e0, GS]
  have hd3 := hd1'.ext hx3
  refine X_of (lit_abc _) ?_
  refine bts_conv [97, 98, 99] 3 rfl (by decide) ?_
  intro v4 w4 hx4 hb4 hk4
  have hd4 := hd3.ext hx4
  have hv4 : VaultAt w4 bv b ⟨2, 2, 3⟩ := hx4.get hv3
  have okV : (⟨2, 2, 3⟩ : Vt).ok (Dk.new 8).safe.length := ⟨by decide, by decide, by decide, by decide⟩
  have low4 : ∀ k, foot w4 b k → w.heap.size ≤ k := fun k hk => low1 k ((foot_extV (hx3.trans hx4) hb_lt).1 hk)
  have hx04 := hx1.trans (hx2.trans (hx3.trans hx4))
  refine VPut_spec hv4 hd4 okV (by decide) hb4 ?_
  intro w5 hd5 s5
  rw [put_abc] at hd5 ⊢
  have x5 := s5.out hx04 low4
  have hv5 : VaultAt w5 bv b ⟨2, 2, 3⟩ := s5.keep.get (hd4.notin hv4 (by decide) (by decide) (by decide)) hv4
  refine Read_spec hd5 ?_
  intro v6 w6 hx6 ho6
  have r6 : ((Dk.new 8).write 4 [0, 0, 0, 3, 97, 98, 99]).1.read 4 = ([0, 0, 0, 3, 97, 98, 99] ++ List.replicate 121 0, 0) := by decide +kernel
  rw [r6] at ho6 ⊢
  have e11 : decide ((1 : Int) = 1) = true := by decide
  have e00 : decide ((0 : Int) = 0) = true := by decide
  have r5 : ((Dk.new 8).write 4 [0, 0, 0, 3, 97, 98, 99]).2 = 0 := by decide +kernel
  rw [r5]
  simp only [X_extract0, X_extract1, X_eql, e11, decide_true, GS]
  refine VRoom_spec (hx6.get hv5) okV ?_
  have er : ((⟨2, 2, 3⟩ : Vt).room : Int) = 252 := by decide
  rw [er]
  simp only [X_eql, decide_true, GS]
  refine Done_spec (hd5.ext hx6) ?_
  have ed : ((Dk.new 8).write 4 [0, 0, 0, 3, 97, 98, 99]).1.done = 1 := by decide +kernel
  rw [ed]
  simp only [X_eql, decide_true, GS]
  obtain ⟨a6, c6, ev6⟩ := own_sl ho6
  have hb6 := (own_bts ho6).1
  rw [ev6, X_len_27, ← ev6]
  have e128 : decide ((([0, 0, 0, 3, 97, 98, 99] ++ List.replicate 121 (0 : UInt8) : List UInt8).length : Int) = 128) = true := by decide +kernel
  rw [X_eql, e128]
  simp only [GS]
  obtain ⟨u, hu, hub, _⟩ := cut_hi Try.underlying27 info_5 hb6 (kh := .i64) (hj := 8) 8 rfl (by simp)
  refine X_of (hu _) ?_
  refine X_str Try.underlying27 Try.underlying5 Try.underlying9 hub ?_
  have e3 : decide (([0, 0, 0, 3, 97, 98, 99] ++ List.replicate 121 (0 : UInt8) : List UInt8).take 8 = [0, 0, 0, 3, 97, 98, 99, 0]) = true := by decide +kernel
  simp only [str_lit2, X_str_eql, str_toList, l8_beq, e3, GS]
  exact hK _ (x5.trans hx6)
end Go.Proofs.Ytggggfcgnkllgaa
