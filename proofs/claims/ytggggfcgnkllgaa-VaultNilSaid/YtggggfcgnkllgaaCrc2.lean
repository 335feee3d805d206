/- cellarage/crc's More, Sum, Seal, Open and the reference's, by contract. -/
import Derived.Test.YtggggfcgnkllgaaCrc
set_option linter.unusedVariables false
set_option linter.unusedSimpArgs false
namespace Go.Proofs.Ytggggfcgnkllgaa
open Go Go.Sh Go.RowKit
attribute [local irreducible] X XU XP XR CALL loopS resC closS

theorem fold_take_succ (c : W32) (bs : List UInt8) (i : Nat) (h : i < bs.length) : fold c (bs.take (i + 1)) = upd1 (fold c (bs.take i)) bs[i] := by
  rw [take_succ' bs i h, fold_append]; rfl

theorem More_spec {c : W32} {v : Value} {bs : List UInt8} {w : World} {K : Value → World → Prop} (hb : Bts w v bs) (h : ∀ w1, Ext w w1 → K (U32 (more c bs)) w1) : CALL Try.prog 53 #[U32 c, v] w K := by
  obtain ⟨a, cp, e, h1, h2, h3⟩ := id hb
  subst e
  apply call_crc_More
  unfold B_crc_More
  refine X_of (u32_not c w) ?_
  simp only [SS, ST]
  by_cases hl : bs.length < 64
  · rw [if_pos (by simp; omega)]
    refine loopS_of (fun ρ wr => ∃ i : Nat, i ≤ bs.length ∧ wr = w ∧ ρ 18 = .int .i64 (i : Nat) ∧ ρ 17 = .int .i64 (bs.length : Nat) ∧ ρ 16 = .slice a bs.length cp ∧ ρ 5 = U32 (fold (~~~c) (bs.take i)))
      (fun ρ wr => match ρ 18 with | .int _ s => (bs.length - s).toNat | _ => 0) ?_ ?_
    · exact ⟨0, by omega, rfl, rfl, rfl, rfl, rfl⟩
    · rintro ρ wr ⟨i, hi, rfl, h18, h17, h16, h5⟩
      simp only [SS, ST, h18, h17, h16, h5]
      by_cases hin : i = bs.length
      · subst hin
        rw [if_neg (by simp)]
        simp only [upds_cons, upds_nil, Nat.reduceEqDiff, if_false, h5]
        refine X_of (u32_not _ _) ?_
        rw [List.take_length]
        exact h _ (Keep.refl _ _)
      · rw [if_pos (by simp; omega)]
        obtain ⟨ad, hix, hcell, _⟩ := at_bts Try.underlying27 info_5 sz_5 hb (k := .i64) i rfl (by omega)
        refine X_of (hix _) ?_
        refine X_load agg_5 hcell ?_
        refine X_of (u32_shl 23 .u64 _ 8 (by decide) _) ?_
        refine X_of (u32_shr 23 .u64 _ 24 (by decide) _) ?_
        refine X_of (u8_of_u32 Try.underlying23 Try.underlying5 _ _) ?_
        refine X_of (u8_xor 5 _ _ _) ?_
        refine step_spec ?_
        refine X_of (u32_xor 23 _ _ _) ?_
        rw [upd_eq, ← fold_take_succ]
        show _ ∧ _
        refine ⟨⟨i + 1, by omega, rfl, next64 (n := bs.length - 1) (by omega) (by omega), h17, h16, rfl⟩, ?_⟩
        · show (_ - IntKind.i64.wrap _).toNat < _
          rw [w64 (by omega) (by omega)]
          omega
  · rw [if_neg (by simp; omega)]
    refine table_spec ?_
    intro b w1 hx hbs hg
    have hb1 := hb.ext hx
    refine loopS_of (fun ρ wr => ∃ i : Nat, i ≤ bs.length ∧ wr = w1 ∧ ρ 37 = .int .i64 (i : Nat) ∧ ρ 36 = .int .i64 (bs.length : Nat) ∧ ρ 35 = .slice a bs.length cp ∧ ρ 8 = .pointer (some ⟨b, 0, none⟩) ∧ ρ 5 = U32 (fold (~~~c) (bs.take i)))
      (fun ρ wr => match ρ 37 with | .int _ s => (bs.length - s).toNat | _ => 0) ?_ ?_
    · exact ⟨0, by omega, rfl, rfl, rfl, rfl, rfl, rfl⟩
    · rintro ρ wr ⟨i, hi, rfl, h18, h17, h16, h8, h5⟩
      simp only [SS, ST, h18, h17, h16, h5, h8]
      by_cases hin : i = bs.length
      · subst hin
        rw [if_neg (by simp)]
        simp only [upds_cons, upds_nil, Nat.reduceEqDiff, if_false, h5]
        refine X_of (u32_not _ _) ?_
        rw [List.take_length]
        exact h _ hx
      · rw [if_pos (by simp; omega)]
        obtain ⟨ad, hix, hcell, _⟩ := at_bts Try.underlying27 info_5 sz_5 hb1 (k := .i64) i rfl (by omega)
        refine X_of (hix _) ?_
        refine X_load agg_5 hcell ?_
        refine X_of (u32_shl 23 .u64 _ 8 (by decide) _) ?_
        refine X_of (u32_shr 23 .u64 _ 24 (by decide) _) ?_
        refine X_of (u8_of_u32 Try.underlying23 Try.underlying5 _ _) ?_
        refine X_of (u8_xor 5 _ _ _) ?_
        refine X_of (ix_arr Try.underlying209 info_23 _ rfl (UInt8.toNat_lt _) _) ?_
        rw [sz_23, Nat.mul_one, add_plain, Nat.zero_add]
        refine X_loadL agg_23 hg (tab_get _ (UInt8.toNat_lt _)) ?_
        rw [UInt8.ofNat_toNat]
        refine X_of (u32_xor 23 _ _ _) ?_
        rw [upd_eq, ← fold_take_succ]
        show _ ∧ _
        refine ⟨⟨i + 1, by omega, rfl, next64 (n := bs.length - 1) (by omega) (by omega), h17, h16, h8, rfl⟩, ?_⟩
        · show (_ - IntKind.i64.wrap _).toNat < _
          rw [w64 (by omega) (by omega)]
          omega

theorem Sum_spec {v : Value} {bs : List UInt8} {w : World} {K : Value → World → Prop} (hb : Bts w v bs) (h : ∀ w1, Ext w w1 → K (U32 (crc bs)) w1) : CALL Try.prog 51 #[v] w K := by
  apply call_crc_Sum
  unfold B_crc_Sum
  exact More_spec (c := 0#32) hb h

theorem u64_of_u32 (c : W32) (w : World) : (convert 23 22 (U32 c)).run Try.prog w = .ok (.int .u64 ((c.toNat : Nat) : Int)) w := by
  unfold U32
  rw [run_conv_int Try.underlying23 Try.underlying22, wrap_u64]
  have := c.isLt
  congr 2
  omega
def sealB (bs : List UInt8) : List UInt8 := bs ++ be 4 (crc bs).toNat
theorem sealB_len (bs : List UInt8) : (sealB bs).length = bs.length + 4 := by simp [sealB]
theorem Seal_spec {v : Value} {bs : List UInt8} {w : World} {K : Value → World → Prop} (hb : Bts w v bs) (hl : bs.length ≤ 140737488351232)
    (h : ∀ v' w1, Ext w w1 → w1.ownsRow w.heap.size 5 1 v' (sealB bs).length (B8 (sealB bs)) → K v' w1) : CALL Try.prog 56 #[v] w K := by
  apply call_crc_Seal
  unfold B_crc_Seal
  refine Sum_spec hb ?_
  intro w1 hx
  refine X_of (u64_of_u32 _ _) ?_
  have := (crc bs).isLt
  refine Put_spec (hb.ext hx) (by omega) (by omega) ?_
  intro v' w2 hx2 ho
  rw [putB_4] at ho
  exact h v' w2 (hx.trans hx2) (own_mono ho hx.size)

/-- What Open finds: the bytes ahead of their sum, or nothing. -/
def openB (bs : List UInt8) : Option (List UInt8) :=
  if bs.length < 4 then none else if num (bs.drop (bs.length - 4)) = (crc (bs.take (bs.length - 4))).toNat then some (bs.take (bs.length - 4)) else none

theorem getR4 (x : List UInt8) (h : x.length = 4) : getR x 0 4 = (num x, [], 0) := by
  have e4 : (4 : Int).toNat = 4 := rfl
  simp only [getR, e4, h]
  rw [if_neg (by simp), if_neg (by decide), if_neg (by decide), List.take_of_length_le (by omega), List.drop_eq_nil_of_le (by omega)]
theorem Open_spec {v : Value} {bs : List UInt8} {w : World} {K : Value → World → Prop} (hb : Bts w v bs) (hl : bs.length ≤ 140737488351232)
    (h0 : openB bs = none → ∀ w1, Ext w w1 → K (.tuple #[.slice none 0 0, .bool false]) w1)
    (h1 : ∀ cs v' w1, openB bs = some cs → Ext w w1 → w1.ownsRow w.heap.size 5 1 v' cs.length (B8 cs) → K (.tuple #[v', .bool true]) w1) : CALL Try.prog 54 #[v] w K := by
  obtain ⟨a, cp, e, _, _, _⟩ := id hb
  subst e
  apply call_crc_Open
  unfold B_crc_Open
  simp only [SS, ST]
  refine ⟨Ext, Ext.frame, ?_⟩
  by_cases h4 : bs.length < 4
  · have e1 : decide (IntKind.i64.wrap ((bs.length : Int) - 4) < 0) = true := by rw [w64 (by omega) (by omega)]; simp only [decide_eq_true_eq]; omega
    simp only [SS, ST, e1, if_true, Bool.true_eq_false, if_false]
    exact h0 (by simp [openB, h4]) _ (Keep.drew _ w)
  · have e0 : IntKind.i64.wrap ((bs.length : Int) - 4) = ((bs.length - 4 : Nat) : Int) := by rw [w64 (by omega) (by omega)]; omega
    have e1 : decide (((bs.length - 4 : Nat) : Int) < 0) = false := by simp only [decide_eq_false_iff_not]; omega
    simp only [e0, SS, ST, e1, if_true, Bool.false_eq_true, if_false]
    have hbd := hb.drew
    obtain ⟨u, hu, hub, huo⟩ := cut_lo Try.underlying27 info_5 sz_5 hbd (kl := .i64) (bs.length - 4) rfl (by omega)
    obtain ⟨u2, hu2, hub2, huo2⟩ := cut_hi Try.underlying27 info_5 hbd (kh := .i64) (bs.length - 4) rfl (by omega)
    refine XP_of hu ?_
    refine XP_of hu2 ?_
    refine New_spec hub (by simp; omega) ?_
    intro b w1 hx1 hb1 hr1
    refine Get_spec hr1 ?_
    have eg := getR4 (bs.drop (bs.length - 4)) (by simp; omega)
    rw [eg]
    intro w2 hk2 hr2
    have hx2 : Ext w w2 := Ext.seq ((Keep.drew _ w).trans hx1) hk2 (fun i hi => by subst hi; exact hb1)
    refine Sum_spec (hub2.ext ((Ext.seq hx1 hk2 (fun i hi => by subst hi; exact hb1)))) ?_
    intro w3 hx3
    refine XR_of_all (fun w' => u64_of_u32 _ w') ?_
    have hx : Ext w w3 := hx2.trans hx3
    simp only [SS, ST]
    by_cases heq : num (bs.drop (bs.length - 4)) = (crc (bs.take (bs.length - 4))).toNat
    · have ed : decide (((num (bs.drop (bs.length - 4)) : Nat) : Int) ≠ (((crc (bs.take (bs.length - 4))).toNat : Nat) : Int)) = false := by simp [heq]
      simp only [ed, Bool.false_eq_true, if_false]
      have hb3 := hb.ext hx
      obtain ⟨u3, hu3, hub3, huo3⟩ := cut_hi Try.underlying27 info_5 hb3 (kh := .i64) (bs.length - 4) rfl (by omega)
      refine X_of (hu3 _) ?_
      refine X_append_bts Try.underlying27 el_5 (xs := []) (World.ownsRow_nil w3 w3.heap.size 5 1) hub3 (by simp; omega) (Nat.le_refl _) ?_
      intro v4 w4 ho4 hk4
      refine h1 (bs.take (bs.length - 4)) v4 w4 (by simp [openB, h4, heq]) (Ext.seq hx hk4 (fun i hi => by cases hi)) ?_
      simp only [List.nil_append, Nat.zero_add] at ho4
      exact own_mono ho4 hx.size
    · have ed : decide (((num (bs.drop (bs.length - 4)) : Nat) : Int) ≠ (((crc (bs.take (bs.length - 4))).toNat : Nat) : Int)) = true := by simp; omega
      simp only [ed, if_true]
      exact h0 (by simp [openB, h4, heq]) _ hx
end Go.Proofs.Ytggggfcgnkllgaa
