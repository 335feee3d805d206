/- The reference's check sums, by contract; and what cellaragelaw02.shown computes: true. -/
import Derived.Test.YtggggfcgnkllgaaCrc2
import Derived.Test.YtggggfcgnkllgaaT6
import Derived.Test.YtggggfcgnkllgaaOrder
set_option linter.unusedVariables false
set_option linter.unusedSimpArgs false
namespace Go.Proofs.Ytggggfcgnkllgaa
open Go Go.Sh Go.RowKit
attribute [local irreducible] X XU XP XR CALL loopS resC closS

theorem bit1_eq (c : W32) : bit1 c = if c.msb = true then (c <<< 1) ^^^ poly else c <<< 1 := by
  unfold bit1
  cases c.msb <;> simp

theorem RMore_spec {c : W32} {v : Value} {bs : List UInt8} {w : World} {K : Value → World → Prop} (hb : Bts w v bs) (h : K (U32 (more c bs)) w) : CALL Try.prog 52 #[U32 c, v] w K := by
  obtain ⟨a, cp, e, h1, h2, h3⟩ := id hb
  subst e
  apply call_ref02_More
  unfold B_ref02_More
  refine X_of (u32_comp 23 c w) ?_
  refine loopS_of (fun ρ wr => ∃ i : Nat, i ≤ bs.length ∧ wr = w ∧ ρ 6 = .int .i64 (i : Nat) ∧ ρ 1 = .slice a bs.length cp ∧ ρ 5 = U32 (fold (~~~c) (bs.take i)))
    (fun ρ wr => match ρ 6 with | .int _ s => (bs.length - s).toNat | _ => 0) ?_ ?_
  · exact ⟨0, by omega, rfl, rfl, rfl, rfl⟩
  · rintro ρ wr ⟨i, hi, rfl, h6, h1', h5⟩
    simp only [SS, ST, h6, h1', h5]
    by_cases hin : i = bs.length
    · subst hin
      rw [if_neg (by simp)]
      simp only [upds_cons, upds_nil, Nat.reduceEqDiff, if_false, h5]
      refine X_of (u32_comp 23 _ _) ?_
      rw [List.take_length]
      exact h
    · rw [if_pos (by simp; omega)]
      obtain ⟨ad, hix, hcell, _⟩ := at_bts Try.underlying27 info_5 sz_5 hb (k := .i64) i rfl (by omega)
      refine X_of (hix _) ?_
      refine X_load agg_5 hcell ?_
      refine X_of (u32_of_u8 Try.underlying5 Try.underlying23 _ _) ?_
      refine X_of (u32_topmul 23 _ _) ?_
      refine X_of (u32_xor 23 _ _ _) ?_
      refine loopS_of (fun ρ' wr' => ∃ j : Nat, j ≤ 8 ∧ wr' = wr ∧ ρ' 7 = .int .i64 (j : Nat) ∧ ρ' 6 = .int .i64 (i : Nat) ∧ ρ' 1 = .slice a bs.length cp ∧ ρ' 5 = U32 (iter j (fold (~~~c) (bs.take i) ^^^ top bs[i])))
        (fun ρ wr => match ρ 7 with | .int _ s => (8 - s).toNat | _ => 0) ?_ ?_
      · exact ⟨0, by omega, rfl, rfl, h6, h1', rfl⟩
      · rintro ρ' wr' ⟨j, hj, rfl, h7, h6', h1'', h5'⟩
        simp only [SS, ST, h7, h6', h1'', h5']
        by_cases hjn : j = 8
        · subst hjn
          rw [if_neg (by simp)]
          simp only [upds_cons, upds_nil, Nat.reduceEqDiff, if_false, h6', SS, ST]
          show _ ∧ _
          refine ⟨⟨i + 1, by omega, trivial, next64 (n := bs.length - 1) (by omega) (by omega), h1'', ?_⟩, ?_⟩
          · rw [fold_take_succ (~~~c) bs i (by omega)]
            exact h5'
          · show (_ - IntKind.i64.wrap _).toNat < _
            rw [w64 (by omega) (by omega)]
            omega
        · rw [if_pos (by simp; omega)]
          refine X_of (u32_top2 23 _ _) ?_
          refine X_of (u32_dbl 23 _ _) ?_
          simp only [SS, ST]
          have key : iter (j + 1) (fold (~~~c) (bs.take i) ^^^ top bs[i]) = bit1 (iter j (fold (~~~c) (bs.take i) ^^^ top bs[i])) := iter_succ _ _
          rw [bit1_eq] at key
          cases hm : (iter j (fold (~~~c) (bs.take i) ^^^ top bs[i])).msb with
          | true =>
            rw [if_pos (by simp)]
            rw [hm, if_pos rfl] at key
            refine X_of (u32_xor 23 _ poly _) ?_
            simp only [upds_cons, upds_nil, Nat.reduceEqDiff, if_false, h7, SS, ST]
            show _ ∧ _
            refine ⟨⟨j + 1, by omega, trivial, next64 (n := 8) (by decide) hj, h6', h1'', ?_⟩, ?_⟩
            · rw [key]; rfl
            · show (_ - IntKind.i64.wrap _).toNat < _
              rw [w64 (by omega) (by omega)]
              omega
          | false =>
            rw [if_neg (by simp)]
            rw [hm, if_neg (by decide)] at key
            simp only [upds_cons, upds_nil, Nat.reduceEqDiff, if_false, h7, SS, ST]
            show _ ∧ _
            refine ⟨⟨j + 1, by omega, trivial, next64 (n := 8) (by decide) hj, h6', h1'', ?_⟩, ?_⟩
            · rw [key]; rfl
            · show (_ - IntKind.i64.wrap _).toNat < _
              rw [w64 (by omega) (by omega)]
              omega

theorem RSeal_spec {v : Value} {bs : List UInt8} {w : World} {K : Value → World → Prop} (hb : Bts w v bs) (hl : bs.length ≤ 140737488351232)
    (h : ∀ v' w1, Ext w w1 → w1.ownsRow w.heap.size 5 1 v' (sealB bs).length (B8 (sealB bs)) → K v' w1) : CALL Try.prog 57 #[v] w K := by
  apply call_ref02_Seal
  unfold B_ref02_Seal
  refine X_append_bts Try.underlying27 el_5 (xs := []) (World.ownsRow_nil w w.heap.size 5 1) hb (by omega) (Nat.le_refl _) ?_
  intro v1 w1 ho hk
  have hx : Ext w w1 := hk.mono (fun i _ h => by cases h)
  refine RMore_spec (c := 0#32) (hb.ext hx) ?_
  refine X_of (u64_of_u32 _ _) ?_
  have := (crc bs).isLt
  refine RPut_spec (by show (crc bs).toNat < _; omega) ?_
  intro v2 w2 hx2 ho2
  rw [putB_4] at ho2
  have ho1 : w2.ownsRow w.heap.size 5 1 v1 (0 + bs.length) (B8 ([] ++ bs)) := by
    refine ho.kept ⟨hx2.os, hx2.tape, hx2.output, hx2.size, fun k hk _ => hx2.block k hk (fun h => h)⟩ (row := none) ?_
    cases v1.ownBlock <;> simp
  refine X_append_bts Try.underlying27 el_5 ho1 (own_bts ho2).1 (by simp; omega) (Nat.le_trans hx.size hx2.size) ?_
  intro v3 w3 ho3 hk3
  refine h v3 w3 (Ext.seq (hx.trans hx2) hk3 (fun i hi => (ho1.lt i hi.symm).1)) ?_
  have e : 0 + bs.length + (be 4 (more 0#32 bs).toNat).length = (sealB bs).length := by simp [sealB]
  rw [e] at ho3
  exact ho3

theorem ROpen_spec {v : Value} {bs : List UInt8} {w : World} {K : Value → World → Prop} (hb : Bts w v bs) (hl : bs.length ≤ 140737488351232)
    (h0 : openB bs = none → ∀ w1, Ext w w1 → K (.tuple #[.slice none 0 0, .bool false]) w1)
    (h1 : ∀ cs v' w1, openB bs = some cs → Ext w w1 → Bts w1 v' cs → K (.tuple #[v', .bool true]) w1) : CALL Try.prog 55 #[v] w K := by
  obtain ⟨a, cp, e, _, _, _⟩ := id hb
  subst e
  apply call_ref02_Open
  unfold B_ref02_Open
  simp only [SS, ST]
  refine ⟨Ext, Ext.frame, ?_⟩
  by_cases h4 : bs.length < 4
  · have e1 : decide (IntKind.i64.wrap ((bs.length : Int) - 4) < 0) = true := by rw [w64 (by omega) (by omega)]; simp only [decide_eq_true_eq]; omega
    simp only [SS, ST, e1, if_true, Bool.true_eq_false, if_false]
    refine ⟨Ext.frame.refl _, ?_⟩
    exact h0 (by simp [openB, h4]) _ (Keep.drew _ w)
  · have e0 : IntKind.i64.wrap ((bs.length : Int) - 4) = ((bs.length - 4 : Nat) : Int) := by rw [w64 (by omega) (by omega)]; omega
    have e1 : decide (((bs.length - 4 : Nat) : Int) < 0) = false := by simp only [decide_eq_false_iff_not]; omega
    simp only [e0, SS, ST, e1, if_true, Bool.false_eq_true, if_false]
    have hbd := hb.drew
    obtain ⟨u2, hu2, hub2, huo2⟩ := cut_hi Try.underlying27 info_5 hbd (kh := .i64) (bs.length - 4) rfl (by omega)
    refine XP_of hu2 ?_
    refine XR_str Try.underlying27 Try.underlying5 Try.underlying9 hbd ?_
    refine RSeal_spec hub2 (by simp; omega) ?_
    intro v1 w1 hx1 ho1
    refine ⟨hx1, ?_⟩
    refine XR_str Try.underlying27 Try.underlying5 Try.underlying9 (own_bts ho1).1 ?_
    have hx : Ext w w1 := (Keep.drew _ w).trans hx1
    have hiff : sealB (bs.take (bs.length - 4)) = bs ↔ num (bs.drop (bs.length - 4)) = (crc (bs.take (bs.length - 4))).toNat := by
      unfold sealB
      have hlt : (crc (bs.take (bs.length - 4))).toNat < 256 ^ 4 := (crc (bs.take (bs.length - 4))).isLt
      constructor
      · intro h
        have := congrArg (List.drop (bs.length - 4)) h
        rw [List.drop_append_of_le_length (by simp), List.drop_eq_nil_of_le (by simp), List.nil_append] at this
        rw [← this, num_be, Nat.mod_eq_of_lt hlt]
      · intro h
        rw [← h]
        have hb4 := be_num (bs.drop (bs.length - 4))
        have hl4 : (bs.drop (bs.length - 4)).length = 4 := by simp; omega
        rw [hl4] at hb4
        rw [hb4, List.take_append_drop]
    simp only [str_toList, SS, ST, l8_bne]
    by_cases heq : num (bs.drop (bs.length - 4)) = (crc (bs.take (bs.length - 4))).toNat
    · have ed : decide (sealB (bs.take (bs.length - 4)) ≠ bs) = false := by simp only [ne_eq, decide_not, hiff.2 heq, decide_true, Bool.not_true]
      simp only [ed, Bool.false_eq_true, if_false]
      obtain ⟨u3, hu3, hub3, huo3⟩ := cut_hi Try.underlying27 info_5 (hb.ext hx) (kh := .i64) (bs.length - 4) rfl (by omega)
      refine X_of (hu3 _) ?_
      exact h1 (bs.take (bs.length - 4)) u3 w1 (by simp [openB, h4, heq]) hx hub3
    · have ed : decide (sealB (bs.take (bs.length - 4)) ≠ bs) = true := by simp only [ne_eq, decide_eq_true_eq]; exact fun h => heq (hiff.1 h)
      simp only [ed, if_true]
      exact h0 (by simp [openB, h4, heq]) _ hx
end Go.Proofs.Ytggggfcgnkllgaa
