/- cellaragelaw02.CrcTells: for every bytes of which some of 32 neighbouring bits are turned, the check sum is another one. -/
import Derived.Test.YtggggfcgnkllgaaShown02
import Derived.Test.YtggggfcgnkllgaaT5
import Derived.Test.YtggggfcgnkllgaaTellsLaw
import Derived.Test.YtggggfcgnkllgaaKit1
import Derived.Test.YtggggfcgnkllgaaFacts
import Derived.Test.YtggggfcgnkllgaaArgs
set_option linter.unusedVariables false
set_option linter.unusedSimpArgs false
set_option linter.constructorNameAsVariable false
namespace Go.Proofs.Ytggggfcgnkllgaa
open Go Go.Sh Go.RowKit Go.ChangeShapes Go.WideShapes Go.ChangeAt
open Go.Proofs.Ytggggfcgnkllgaa
section
attribute [local irreducible] X XU XP XR CALL loopS resC closS Value.okWide
theorem open_seal (bs : List UInt8) : openB (sealB bs) = some bs := by
  have hl : (sealB bs).length - 4 = bs.length := by rw [sealB_len]; omega
  have ht : (sealB bs).take bs.length = bs := by
    unfold sealB
    rw [List.take_append_of_le_length (Nat.le_refl _), List.take_length]
  have hd : (sealB bs).drop bs.length = be 4 (crc bs).toNat := by
    unfold sealB
    rw [List.drop_append_of_le_length (Nat.le_refl _), List.drop_length, List.nil_append]
  have hlt : (crc bs).toNat < 256 ^ 4 := (crc bs).isLt
  unfold openB
  rw [hl, ht, hd, num_be, Nat.mod_eq_of_lt hlt, if_neg (by rw [sealB_len]; omega), if_pos rfl]
theorem open_flips (bs : List UInt8) (p m i : Nat) (hp : p + i ≤ 8 * (bs.length + 4)) (hi : i ≤ 32) {j : Nat} (hj : j < i) (h : m.testBit j = true) : openB (flips (sealB bs) p m i) = none := by
  have hl : (flips (sealB bs) p m i).length = bs.length + 4 := by rw [flips_length, sealB_len]
  have hl4 : ((flips (sealB bs) p m i).drop ((flips (sealB bs) p m i).length - 4)).length = 4 := by rw [List.length_drop]; omega
  unfold openB
  rw [if_neg (by omega)]
  split
  · rename_i he
    exfalso
    have hb := be_num ((flips (sealB bs) p m i).drop ((flips (sealB bs) p m i).length - 4))
    rw [hl4] at hb
    refine seal_flips bs p m i hp hi hj h ((flips (sealB bs) p m i).take ((flips (sealB bs) p m i).length - 4)) (crc ((flips (sealB bs) p m i).take ((flips (sealB bs) p m i).length - 4))) ?_ rfl
    rw [← he, hb, List.take_append_drop]
    rfl
  · rfl
theorem flip_set (l : List UInt8) (q : Nat) (h : q / 8 < l.length) : l.set (q / 8) (l[q / 8] ^^^ oneBit (q % 8)) = Go.Sh.flip l q := by
  unfold Go.Sh.flip
  apply List.ext_getElem?
  intro i
  rw [List.getElem?_modify]
  by_cases hi : q / 8 = i
  · subst hi
    rw [List.getElem?_set_self h, List.getElem?_eq_getElem h]
    simp
  · rw [List.getElem?_set_ne hi]
    simp [hi]
theorem shr128 (T : TypeId) (r : Nat) (hr : r < 8) (w : World) : (binOp .shr T (.int .u8 128) (.int .i64 (r : Int))).run Try.prog w = .ok (.int .u8 (((oneBit r).toNat : Nat) : Int)) w := by
  rw [run_shr _ _ (by omega), oneBit_toNat r hr]
  have : r = 0 ∨ r = 1 ∨ r = 2 ∨ r = 3 ∨ r = 4 ∨ r = 5 ∨ r = 6 ∨ r = 7 := by omega
  rcases this with rfl | rfl | rfl | rfl | rfl | rfl | rfl | rfl <;> rfl
theorem bit_of (m : W32) (i : Nat) : (m >>> i).toNat % 2 = if m.toNat.testBit i = true then 1 else 0 := by
  rw [BitVec.toNat_ushiftRight, Nat.testBit_eq_decide_div_mod_eq, Nat.shiftRight_eq_div_pow]
  have := Nat.mod_two_eq_zero_or_one (m.toNat / 2 ^ i)
  rcases this with h | h <;> rw [h] <;> rfl
theorem xp_quo8 (T : TypeId) (x : Nat) (hx : x ≤ 9223372036854775807) (w : World) : (binOp .quo T (.int .i64 (x : Int)) (.int .i64 8)).run Try.prog w = .ok (.int .i64 ((x / 8 : Nat) : Int)) w := by
  have e : ((x : Nat) : Int).tdiv 8 = ((x / 8 : Nat) : Int) := rfl
  rw [run_quo _ _ _ _ (by decide), e, w64 (by omega) (by omega)]
theorem xp_rem8 (T : TypeId) (x : Nat) (w : World) : (binOp .rem T (.int .i64 (x : Int)) (.int .i64 8)).run Try.prog w = .ok (.int .i64 ((x % 8 : Nat) : Int)) w := by
  rw [run_rem _ _ _ _ (by decide)]
  congr 2
theorem crcTells_run {v0 : Value} {bs : List UInt8} {a : Nat} (ha : a < 18446744073709551616) (m : W32) (W : World) (hb : Bts W v0 bs) :
    CALL Try.prog 13 #[v0, .int .u64 (a : Int), U32 m] W (fun v w' => v = .bool true ∧ Ext W w') := by
  obtain ⟨a0, c0, e0⟩ := Bts.slice hb
  apply call_law02_CrcTells
  unfold B_law02_CrcTells
  refine shown02 ?_
  intro w1 hx1
  rw [e0]
  have eu : Value.int .u32 0 = U32 0#32 := rfl
  simp only [X_len_27, X_eql, eu, u32_eq]
  by_cases hl0 : bs.length = 0
  · have h0 : decide ((bs.length : Int) = 0) = true := by simp [hl0]
    simp only [h0, GS]
    exact ⟨trivial, hx1⟩
  have h0 : decide ((bs.length : Int) = 0) = false := by simp [hl0]
  simp only [h0, GS, X_len_27, X_gtr]
  by_cases hl : 100000 < bs.length
  · have h2 : decide ((bs.length : Int) > 100000) = true := by simp; omega
    simp only [h2, GS]
    exact ⟨trivial, hx1⟩
  have h2 : decide ((bs.length : Int) > 100000) = false := by simp; omega
  simp only [h2, GS, u32_eq]
  rw [condS_bool]
  by_cases hm0 : m = 0#32
  · rw [if_pos (by simp [hm0])]
    exact ⟨trivial, hx1⟩
  rw [if_neg (by simp [hm0])]
  rw [← e0]
  refine Seal_spec (hb.ext hx1) (by omega) ?_
  intro vs w2 hx2 ho2
  have hsl := sealB_len bs
  have hs2 := (own_bts ho2).1
  obtain ⟨as_, cs_, es⟩ := Bts.slice hs2
  have hx02 : Ext W w2 := hx1.trans hx2
  have ho2' := own_mono ho2 hx1.size
  rw [es, e0]
  simp only [X_len_27, X_add, X_neq, condS_bool]
  rw [if_neg (by rw [w64 (by omega) (by omega), hsl]; simp)]
  simp only [X_mul]
  have e8 : IntKind.i64.wrap (8 * ((sealB bs).length : Int)) = ((8 * (sealB bs).length : Nat) : Int) := by rw [w64 (by omega) (by omega)]; omega
  rw [e8, X_conv_3_49, wrap_u64, Int.emod_eq_of_lt (by omega) (by omega)]
  refine X_of (run_rem 49 .u64 _ _ (by omega) _) ?_
  obtain ⟨p, hp⟩ : ∃ p : Nat, p = a % (8 * (sealB bs).length) := ⟨_, rfl⟩
  have hpl : p < 8 * (sealB bs).length := by rw [hp]; exact Nat.mod_lt _ (by omega)
  have ep : (a : Int).tmod ((8 * (sealB bs).length : Nat) : Int) = (p : Int) := by rw [hp]; rfl
  rw [ep, X_conv_49_3, w64 (by omega) (by omega)]
  rw [← es]
  refine loopE (fun ρ wr => ∃ i k : Nat, i ≤ 32 ∧ p + i ≤ 8 * (sealB bs).length ∧ k ≤ i ∧ (k = 0 ↔ ∀ j, j < i → m.toNat.testBit j = false) ∧ Ext W wr ∧ wr.ownsRow W.heap.size 5 1 vs (sealB bs).length (B8 (flips (sealB bs) p m.toNat i)) ∧
      ρ 11 = .int .i64 (i : Nat) ∧ ρ 10 = .int .i64 (k : Nat) ∧ ρ 9 = .int .i64 (p : Nat) ∧ ρ 8 = vs ∧ ρ 7 = .bool true ∧ ρ 0 = .slice a0 bs.length c0 ∧ ρ 2 = U32 m)
    (fun ρ wr => match ρ 11 with | .int _ s => (32 - s).toNat | _ => 0)
    (fun ρ wr => ∃ i k : Nat, (i = 32 ∨ p + i = 8 * (sealB bs).length) ∧ i ≤ 32 ∧ p + i ≤ 8 * (sealB bs).length ∧ k ≤ i ∧ (k = 0 ↔ ∀ j, j < i → m.toNat.testBit j = false) ∧ Ext W wr ∧ wr.ownsRow W.heap.size 5 1 vs (sealB bs).length (B8 (flips (sealB bs) p m.toNat i)) ∧
      ρ 10 = .int .i64 (k : Nat) ∧ ρ 9 = .int .i64 (p : Nat) ∧ ρ 8 = vs ∧ ρ 7 = .bool true ∧ ρ 0 = .slice a0 bs.length c0 ∧ ρ 2 = U32 m) ?_ ?_ ?_
  · exact ⟨0, 0, by omega, by omega, by omega, by simp, hx02, ho2', rfl, rfl, rfl, rfl, rfl, rfl, rfl⟩
  · intro JE hJE
    rintro ρ wr ⟨i, k, hi, hpi, hki, hk0, hxr, hor, h11, h10, h9, h8, h7, hr0, hr2⟩
    have hrl : (flips (sealB bs) p m.toNat i).length = (sealB bs).length := flips_length _ _ _ _
    have hrb := (own_bts hor).1
    rw [h11, X_lss]
    by_cases hgo : i < 32 ∧ p + i < 8 * (sealB bs).length
    · have e32 : decide ((i : Int) < 32) = true := by simp; omega
      rw [h9, h8, es]
      simp only [e32, GS, X_add, X_len_27, X_mul, X_lss]
      rw [w64 (by omega) (by omega), e8]
      have elt : decide ((p : Int) + (i : Int) < ((8 * (sealB bs).length : Nat) : Int)) = true := by simp; omega
      rw [elt, cs_t]
      rw [← es]
      refine joinS_of (fun ρ' w' => ∃ k' : Nat, k' ≤ i + 1 ∧ (k' = 0 ↔ ∀ j, j < i + 1 → m.toNat.testBit j = false) ∧ Ext W w' ∧ w'.ownsRow W.heap.size 5 1 vs (sealB bs).length (B8 (flips (sealB bs) p m.toNat (i + 1))) ∧
        ρ' 11 = .int .i64 (i : Nat) ∧ ρ' 10 = .int .i64 (k' : Nat) ∧ ρ' 9 = .int .i64 (p : Nat) ∧ ρ' 8 = vs ∧ ρ' 7 = .bool true ∧ ρ' 0 = .slice a0 bs.length c0 ∧ ρ' 2 = U32 m) ?_ ?_
      · rintro ρ' w' ⟨k', hk', hk0', hx', ho', g11, g10, g9, g8, g7, g0, g2⟩
        rw [g11, X_add]
        show _ ∧ _
        refine ⟨⟨i + 1, k', by omega, by omega, hk', hk0', hx', ho', next64 (n := 32) (by decide) (by omega), g10, g9, g8, g7, g0, g2⟩, ?_⟩
        show (_ - IntKind.i64.wrap _).toNat < _
        rw [w64 (by omega) (by omega)]
        omega
      intro J hJ
      rw [hr2]
      refine X_of (u32_shr 23 .i64 m i (by omega) _) ?_
      show X _ (binOp .rem 23 (.int .u32 (((m >>> i).toNat : Nat) : Int)) (.int .u32 2)) _ _
      refine X_of (run_rem 23 .u32 _ 2 (by decide) _) ?_
      have er : ((((m >>> i).toNat : Nat) : Int)).tmod 2 = (((m >>> i).toNat % 2 : Nat) : Int) := rfl
      rw [er, bit_of, X_eql, condS_bool]
      by_cases ht : m.toNat.testBit i = true
      · rw [if_pos (by rw [if_pos ht]; rfl)]
        refine ⟨Ext, Ext.frame, ?_⟩
        have hord : (drewW wr).ownsRow W.heap.size 5 1 vs (sealB bs).length (B8 (flips (sealB bs) p m.toNat i)) := hor
        have hq : (p + i) / 8 < (flips (sealB bs) p m.toNat i).length := by rw [hrl]; omega
        obtain ⟨g, cap, cur, ev, hg, hh, hjc, hcj, hjn, hput⟩ := own_put hord hq ((flips (sealB bs) p m.toNat i)[(p + i) / 8] ^^^ oneBit ((p + i) % 8))
        rw [flip_set _ _ hq] at hput
        refine XP_of (fun w => xp_add 3 p i (p + i) rfl (by omega) w) ?_
        refine XP_of (fun w => xp_quo8 3 (p + i) (by omega) w) ?_
        rw [ev]
        refine XP_of (fun w => ix Try.underlying27 info_5 ((p + i) / 8) rfl hjn w) ?_
        rw [sz_5, Nat.mul_one, add_plain, Nat.zero_add]
        refine XR_ok Ext.frame (fun w' kx => run_loadAt agg_5 ((cell_blk (kx.get hh)).trans hcj)) ?_
        refine XP_of (fun w => xp_add 3 p i (p + i) rfl (by omega) w) ?_
        refine XP_of (fun w => xp_rem8 3 (p + i) w) ?_
        refine XP_of (fun w => shr128 5 ((p + i) % 8) (Nat.mod_lt _ (by decide)) w) ?_
        refine XP_of (fun w => u8_xor 5 _ _ w) ?_
        refine XP_of (fun w => ix Try.underlying27 info_5 ((p + i) / 8) rfl hjn w) ?_
        rw [sz_5, Nat.mul_one, add_plain, Nat.zero_add]
        refine XU_store info_5 sz_5 rfl hh hjc (by show ¬ ((0 : Nat) ≤ (p + i) / 8 ∧ (p + i) / 8 < 0); omega) ?_
        rw [h10]
        refine X_of (xp_add 3 k 1 (k + 1) rfl (by omega) _) ?_
        refine hJ _ _ ⟨k + 1, by omega, ⟨fun h => absurd h (by omega), fun h => absurd (h i (by omega)) (by rw [ht]; decide)⟩, Ext.seq (hxr.trans (Keep.drew _ wr)) (setAt_keep _ _ _ _ _) (fun j hj => by omega), ?_, h11, rfl, h9, h8, h7, hr0, hr2⟩
        rw [ev] at hput
        rw [ev]
        have ef : flips (sealB bs) p m.toNat (i + 1) = Go.Sh.flip (flips (sealB bs) p m.toNat i) (p + i) := by
          show (if m.toNat.testBit i = true then Go.Sh.flip (flips (sealB bs) p m.toNat i) (p + i) else flips (sealB bs) p m.toNat i) = _
          rw [if_pos ht]
        rw [ef]
        exact hput
      · have ht' : m.toNat.testBit i = false := by simpa using ht
        rw [if_neg (by rw [if_neg ht]; decide)]
        refine hJ _ _ ⟨k, by omega, ?_, hxr, ?_, h11, h10, h9, h8, h7, hr0, hr2⟩
        · rw [hk0]
          constructor
          · intro h j hj
            rcases Nat.lt_or_ge j i with h' | h'
            · exact h j h'
            · obtain rfl : j = i := by omega
              exact ht'
          · exact fun h j hj => h j (by omega)
        · have ef : flips (sealB bs) p m.toNat (i + 1) = flips (sealB bs) p m.toNat i := by
            show (if m.toNat.testBit i = true then Go.Sh.flip (flips (sealB bs) p m.toNat i) (p + i) else flips (sealB bs) p m.toNat i) = _
            rw [if_neg ht]
          rw [ef]
          exact hor
    · have hend : i = 32 ∨ p + i = 8 * (sealB bs).length := by omega
      have out : ∀ ρ' : Env, ρ' 10 = ρ 10 → ρ' 9 = ρ 9 → ρ' 8 = ρ 8 → ρ' 7 = ρ 7 → ρ' 0 = ρ 0 → ρ' 2 = ρ 2 → JE ρ' wr := fun ρ' q1 q2 q3 q4 q5 q6 =>
        hJE _ _ ⟨i, k, hend, hi, hpi, hki, hk0, hxr, hor, q1.trans h10, q2.trans h9, q3.trans h8, q4.trans h7, q5.trans hr0, q6.trans hr2⟩
      by_cases h32 : i = 32
      · have e32 : decide ((i : Int) < 32) = false := by simp; omega
        simp only [e32, GS]
        exact out _ rfl rfl rfl rfl rfl rfl
      · have e32 : decide ((i : Int) < 32) = true := by simp; omega
        have hr9 := h9
        have hr8 := h8
        rw [es] at hr8
        rw [hr9, hr8]
        simp only [e32, GS, X_add, X_len_27, X_mul, X_lss]
        rw [w64 (by omega) (by omega), e8]
        have elt : decide ((p : Int) + (i : Int) < ((8 * (sealB bs).length : Nat) : Int)) = false := by simp; omega
        rw [elt, cs_f]
        exact out _ rfl rfl rfl rfl rfl rfl
  rintro ρ wr ⟨i, k, hend, hi, hpi, hki, hk0, hxr, hor, h10, h9, h8, h7, hr0, hr2⟩
  have hrl : (flips (sealB bs) p m.toNat i).length = (sealB bs).length := flips_length _ _ _ _
  have hrb := (own_bts hor).1
  rw [h8, h10, h9, h7, hr0]
  by_cases hk : k = 0
  · have ef := flips_none (sealB bs) p m.toNat i (hk0.1 hk)
    rw [ef] at hrb
    refine Open_spec hrb (by omega) (fun hn => absurd hn (by rw [open_seal]; simp)) ?_
    intro cs vo w3 hc hx3 ho3
    rw [open_seal] at hc
    obtain rfl : bs = cs := Option.some.inj hc
    have ek : decide ((k : Int) = 0) = true := by simp [hk]
    simp only [X_extract0, X_extract1, X_eql, ek, GS]
    refine X_str Try.underlying27 Try.underlying5 Try.underlying9 (own_bts ho3).1 ?_
    have hbb := (hb.ext hxr).ext hx3
    rw [e0] at hbb
    refine X_str Try.underlying27 Try.underlying5 Try.underlying9 hbb ?_
    simp only [X_str_eql, str_toList, l8_beq, decide_true, GS]
    exact ⟨trivial, hxr.trans hx3⟩
  · obtain ⟨j, hj, ht⟩ : ∃ j, j < i ∧ m.toNat.testBit j = true := by
      by_cases hall : ∀ j, j < i → m.toNat.testBit j = false
      · exact absurd (hk0.2 hall) hk
      · rw [Classical.not_forall] at hall
        obtain ⟨j, hj⟩ := hall
        rw [Classical.not_imp] at hj
        exact ⟨j, hj.1, by simpa using hj.2⟩
    have hop := open_flips bs p m.toNat i (by omega) hi hj ht
    refine Open_spec hrb (by omega) ?_ (fun cs vo w3 hc => by rw [hop] at hc; cases hc)
    intro _ w3 hx3
    have hx03 := hxr.trans hx3
    have ek : decide ((k : Int) = 0) = false := by simp [hk]
    simp only [X_extract0, X_extract1, X_eql, ek, GS]
    refine ⟨Ext, Ext.frame, ?_⟩
    have hrb3 := (hrb.ext hx3).drew
    have hbb := ((hb.ext hx03).drew)
    have hcut := cut_hi Try.underlying27 info_5 hrb3 (kh := .i64) (hj := (bs.length : Int)) bs.length rfl (by omega)
    obtain ⟨u, hu, hub, _⟩ := hcut
    have hxd : Ext W (drewW w3) := hx03.trans (Keep.drew _ w3)
    simp only [GS, XP_not, Bool.not_false, XP_len_27, XP_eql]
    have e00 : decide (((0 : Nat) : Int) = 0) = true := by decide
    simp only [e00, GS, XP_len_27]
    refine XP_of hu ?_
    refine XR_str Try.underlying27 Try.underlying5 Try.underlying9 hub ?_
    rw [e0] at hbb
    refine XR_str Try.underlying27 Try.underlying5 Try.underlying9 hbb ?_
    simp only [XP_str_eql, str_toList, l8_beq]
    by_cases heq : (flips (sealB bs) p m.toNat i).take bs.length = bs
    · have e1 : decide ((flips (sealB bs) p m.toNat i).take bs.length = bs) = true := by simp [heq]
      simp only [e1, GS]
      exact ⟨Keep.refl _ _, Keep.refl _ _, trivial, hxd⟩
    · have e1 : decide ((flips (sealB bs) p m.toNat i).take bs.length = bs) = false := by simp [heq]
      simp only [e1, GS, XP_len_27]
      refine XP_of hu ?_
      refine Sum_spec hub ?_
      intro w4 hx4
      refine ⟨hx4, ?_⟩
      refine Sum_spec (hbb.ext hx4) ?_
      intro w5 hx5
      refine ⟨hx5, ?_⟩
      refine XP_of (fun w => run_neq 23 .u32 _ _ _ _ w) ?_
      have hx05 := hxd.trans (hx4.trans hx5)
      by_cases hcr : crc ((flips (sealB bs) p m.toNat i).take bs.length) = crc bs
      · have e2 : decide ((((crc ((flips (sealB bs) p m.toNat i).take bs.length)).toNat : Nat) : Int) ≠ (((crc bs).toNat : Nat) : Int)) = false := by simp [hcr]
        have hlast : 8 * bs.length < p + 32 := by
          rcases Nat.lt_or_ge (8 * bs.length) (p + 32) with h' | h'
          · exact h'
          · exfalso
            have h32 : i = 32 := by omega
            exact crc_flips bs (be 4 (crc bs).toNat) p m.toNat i (by omega) hi hj ht hcr
        simp only [e2, GS, XP_add, XP_mul, XP_gtr, XP_len_27]
        rw [w64 (by omega) (by omega), w64 (by omega) (by omega)]
        refine ⟨?_, hx05⟩
        show Value.bool (decide _) = _
        congr 1
        rw [decide_eq_true_eq]
        omega
      · have e2 : decide ((((crc ((flips (sealB bs) p m.toNat i).take bs.length)).toNat : Nat) : Int) ≠ (((crc bs).toNat : Nat) : Int)) = true := by
          rw [decide_eq_true_eq]
          intro h
          exact hcr (BitVec.eq_of_toNat_eq (by omega))
        simp only [e2, GS]
        exact ⟨trivial, hx05⟩
theorem crcTells_walk {H : Type} (enc : TypeId × Value → H) (W : World) (v0 v1 v2 : Value) {base : Nat} (ok0 : Value.okWide Try.prog W .any base 27 v0) (ok1 : Value.okWide Try.prog W .any base 49 v1) (ok2 : Value.okWide Try.prog W .any base 23 v2) (d0 : DataW H) (p0 : List MemPlace) (d1 : DataW H) (p1 : List MemPlace) (d2 : DataW H) (p2 : List MemPlace) (h0 : DataW.Trod enc Try.prog W 0 (fun _ => true) true 27 v0 d0 p0) (h1 : DataW.Trod enc Try.prog W 0 (fun _ => true) true 49 v1 d1 p1) (h2 : DataW.Trod enc Try.prog W 0 (fun _ => true) true 23 v2 d2 p2) (hsz : (DataW.weightsEach Try.prog [27, 49, 23] [d0, d1, d2]).all (· ≤ reachBytes) = true) :
    CALL Try.prog 13 #[v0, v1, v2] W (fun v w' => v = .bool true ∧ Ext W w') := by
  obtain ⟨bs, hb⟩ := arg_bytes Try.underlying27 Try.underlying5 (by kernel_rfl) ok0 h0
  obtain ⟨a, rfl, ha⟩ := arg_u64 Try.underlying49 ok1 h1
  obtain ⟨m, rfl⟩ := arg_w32 Try.underlying23 ok2 h2
  exact crcTells_run ha m W hb
end
set_option maxRecDepth 100000 in
theorem crcTells_lifted (os : Os) (started : os.Started) (H : Type) (enc : TypeId × Value → H) :
    ReturnsInHanded {} Try.checked os 13 .any (Rows.crcTellsSpec.pre6 enc Try.prog Try.f13 Rows.crcTellsRow.domain false) (Rows.crcTellsSpec.post enc Try.prog Try.f13 false true false false) := by
  refine returnsInHanded_of_change_sized (C := Try.checked) (by kernel_rfl) started (by kernel_rfl) Try.func13
    (ChangeSpec.witness6 (enc := enc) (C := Try.checked) false ⟨#[], #[(.slice none 0 0), (.int .u64 0), (.int .u32 0)], []⟩ 8 (by kernel_rfl) (by kernel_rfl) (by kernel_rfl) (by kernel_rfl)) ?_
  intro W base args ds gs before hval0 hW hcnd hsz0 _
  have hval : ∀ (j : Nat) t v, Try.f13.params[j]? = some t → args[j]? = some v → Value.okWide Try.prog W .any base t v := hval0
  have hW' := hW
  obtain ⟨p, q, hA0, hV, rfl, hfz, hnd⟩ := hW
  have hA : DataW.TrodAll enc Try.prog W 0 (fun _ => true) true Try.f13.params.toList args.toList ds p := hA0
  rw [Try.params13] at hA hval
  obtain ⟨v0, vs0, d0, ds0, p0, q0, hargs, rfl, rfl, h0, r0⟩ := trodAll_cons hA
  obtain ⟨v1, vs1, d1, ds1, p1, q1, rfl, rfl, rfl, h1, r1⟩ := trodAll_cons r0
  obtain ⟨v2, vs2, d2, ds2, p2, q2, rfl, rfl, rfl, h2, r2⟩ := trodAll_cons r1
  obtain ⟨rfl, rfl, rfl⟩ := trodAll_nil r2
  obtain rfl : args = #[v0, v1, v2] := by cases args; simp_all
  obtain ⟨rfl, rfl⟩ := trodVars_none hV
  have hsz : (DataW.weightsEach Try.prog [27, 49, 23] [d0, d1, d2]).all (· ≤ reachBytes) = true := hsz0
  have hw := crcTells_walk enc W v0 v1 v2 (hval 0 27 v0 rfl rfl) (hval 1 49 v1 rfl rfl) (hval 2 23 v2 rfl rfl) d0 p0 d1 p1 d2 p2 h0 h1 h2 hsz
  refine (CALL_calls hw).mono fun e W' he => ?_
  cases e with
  | returned v =>
    obtain ⟨rfl, hx⟩ := he
    exact ⟨_, rfl, law_post (P := Try.prog) laidOut (by kernel_rfl) rfl rfl rfl Try.underlying4 hW' hx⟩
  | panicked c => exact he.elim
  | outgrown => exact he.elim

theorem crcTells_closed : joinedFacts Try.prog 13 Try.f13 Rows.crcTellsSpec Rows.crcTellsRow = true := by
  unfold joinedFacts
  rw [mayEnter_is, liftsFinal_is, make_is]
  kernel_rfl
/-- For every input that the row lets in, cellarage/cellaragelaw02.CrcTells returns true, and what was there stays as it was. -/
theorem crcTells_holds : Rows.CrcTellsSaid :=
  OpenClaim.holds_of_wide 13 Try.f13 rfl rfl rfl rfl rfl rfl rfl ⟨rfl, rfl, rfl, rfl, rfl⟩ rfl rfl rfl rfl rfl (by kernel_rfl) Try.func13 crcTells_closed
    (of_decide_eq_true (by kernel_rfl)) (by unfold Func.isWrapper; first | (rw [if_pos (by decide +kernel)]; kernel_rfl) | (rw [if_neg (by decide +kernel)]; exact ⟨rfl, rfl⟩))
    (fun os started H enc _ => crcTells_lifted os started H enc)
#print axioms crcTells_holds
end Go.Proofs.Ytggggfcgnkllgaa
