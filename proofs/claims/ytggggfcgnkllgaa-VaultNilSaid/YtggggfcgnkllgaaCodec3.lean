/- codec.Text, and the reference's Put and reader, by contract. -/
import Derived.Test.YtggggfcgnkllgaaCodec2
set_option linter.unusedVariables false
set_option linter.unusedSimpArgs false
namespace Go.Proofs.Ytggggfcgnkllgaa
open Go Go.Sh Go.RowKit
attribute [local irreducible] X XU XP XR CALL loopS resC closS

theorem putB_4 (n : Nat) : putB n 4 = be 4 n := rfl
theorem putB_8 (n : Nat) : putB n 8 = be 8 n := rfl
theorem putB_1 (n : Nat) : putB n 1 = be 1 n := rfl

theorem PutText_spec {b : Value} {bs s : List UInt8} {w : World} {K : Value → World → Prop} (hb : Bts w b bs) (hbs : bs.length + s.length ≤ 70000000000000)
    (h : ∀ v w1, Ext w w1 → w1.ownsRow w.heap.size 5 1 v (bs ++ (be 4 s.length ++ s)).length (B8 (bs ++ (be 4 s.length ++ s))) → K v w1) :
    CALL Try.prog 67 #[b, .string (str s)] w K := by
  apply call_codec_Text
  unfold B_codec_Text
  simp only [SS, ST]
  have e2 : IntKind.u64.wrap ((str s).size : Int) = (s.length : Int) := by rw [wrap_u64, str_size]; omega
  rw [e2]
  refine Put_spec hb (by omega) (by omega) ?_
  intro v w1 hx ho
  rw [putB_4] at ho
  refine X_append_str Try.underlying27 Try.underlying9 el_5 ho (by simp; omega) hx.size ?_
  intro v' w2 ho2 hk
  refine h v' w2 (Ext.seq hx hk fun i hi => ?_) ?_
  · exact (ho.lt i hi.symm).1
  · simpa [Nat.add_assoc] using ho2

/-- ref01's number. -/
theorem rnumber_spec {v : Value} {all : List UInt8} {b a n : Nat} {rest : List Value} {w : World} {K : Value → World → Prop} (hb : w.heap[b]? = some (.cells (v :: rest).toArray 57 (0, 0))) (hv : Bts w v all) (hn : a + n ≤ all.length) (h8 : n ≤ 8)
    (h : K (.int .u64 (num ((all.drop a).take n) : Nat)) w) : CALL Try.prog 130 #[.pointer (some ⟨b, 0, none⟩), .int .i64 (a : Int), .int .i64 (n : Int)] w K := by
  obtain ⟨ao, c, e, h1, h2, h3⟩ := id hv
  subst e
  apply call_ref01_Reader_number
  unfold B_ref01_Reader_number
  refine loopS_of (fun ρ wr => ∃ i, i ≤ n ∧ wr = w ∧ ρ 8 = .int .i64 (i : Nat) ∧ ρ 0 = .pointer (some ⟨b, 0, none⟩) ∧ ρ 1 = .int .i64 (a : Nat) ∧ ρ 2 = .int .i64 (n : Nat) ∧ ρ 7 = .int .u64 (num (((all.drop a).take n).take i) : Nat))
    (fun ρ wr => match ρ 8 with | .int _ s => (n - s).toNat | _ => 0) ?_ ?_
  · exact ⟨0, by omega, rfl, rfl, rfl, rfl, rfl, rfl⟩
  · rintro ρ wr ⟨i, hi, rfl, h8', h0, h1', h2', h7⟩
    simp only [SS, ST, h8', h0, h1', h2', h7]
    have hlen : ((all.drop a).take n).length = n := by simp; omega
    by_cases hin : i = n
    · subst hin
      rw [if_neg (by simp)]
      show K (ρ 7) wr
      rw [h7, List.take_of_length_le (by omega)]
      exact h
    · rw [if_pos (by simp; omega)]
      refine X_loadL agg_27 hb rfl ?_
      obtain ⟨ad, hix, hcell, _⟩ := at_bts Try.underlying27 info_5 sz_5 hv (k := .i64) (ii := IntKind.i64.wrap ((a : Int) + (i : Int))) (a + i) (by rw [w64 (by omega) (by omega)]; omega) (by omega)
      refine X_of (hix _) ?_
      refine X_load agg_5 hcell ?_
      simp only [SS, ST]
      have hn' := num_lt (((all.drop a).take n).take i)
      have hp : (256 : Nat) ^ (((all.drop a).take n).take i).length ≤ 256 ^ 7 := Nat.pow_le_pow_right (by decide) (by simp; omega)
      have hu := (all[a + i]).toNat_lt
      have e0 : ((all.drop a).take n)[i]'(by omega) = all[a + i] := by simp
      have e1 : IntKind.u64.wrap (IntKind.u64.wrap (((num (((all.drop a).take n).take i) : Nat) : Int) * 256) + IntKind.u64.wrap ((all[a + i].toNat : Nat) : Int)) = ((num (((all.drop a).take n).take (i + 1)) : Nat) : Int) := by
        rw [take_succ' _ i (by omega), num_append, e0]
        simp only [wrap_u64]
        omega
      rw [e1]
      show _ ∧ _
      refine ⟨⟨i + 1, by omega, trivial, ?_, h0, h1', h2', rfl⟩, ?_⟩
      · show Value.int .i64 _ = _
        congr 1
        rw [w64 (by omega) (by omega)]
        omega
      · show (_ - IntKind.i64.wrap _).toNat < _
        rw [w64 (by omega) (by omega)]
        omega

/-- A reference reader lies in block b: of all, bs are left. -/
def RdrR (w : World) (lo hi b : Nat) (all bs : List UInt8) (f : Int) : Prop :=
  ∃ v a, w.heap[b]? = some (.cells #[v, .int .i64 (a : Nat), .int .i64 f] 57 (0, 0)) ∧ Bts w v all ∧ a ≤ all.length ∧ all.drop a = bs ∧ (0 < all.length → ∀ k, v.ownBlock = some k → lo ≤ k ∧ k < hi ∧ k ≠ b)
theorem RdrR.keep {D : Nat → Prop} {w w' : World} {lo hi b : Nat} {all bs : List UInt8} {f : Int} (h : RdrR w lo hi b all bs f) (k : Keep D w w') (h1 : ¬ D b) (h2 : ∀ i, lo ≤ i → i < hi → i ≠ b → ¬ D i) : RdrR w' lo hi b all bs f := by
  obtain ⟨v, a, hb, hv, ha, hd, ho⟩ := h
  exact ⟨v, a, k.get h1 hb, hv.keep' k (fun hp i hi => h2 i (ho hp i hi).1 (ho hp i hi).2.1 (ho hp i hi).2.2), ha, hd, ho⟩
theorem RdrR.ext {w w' : World} {lo hi b : Nat} {all bs : List UInt8} {f : Int} (h : RdrR w lo hi b all bs f) (k : Ext w w') : RdrR w' lo hi b all bs f := h.keep k (fun h => h) (fun _ _ _ _ h => h)
theorem RdrR.lt {w : World} {lo hi b : Nat} {all bs : List UInt8} {f : Int} (h : RdrR w lo hi b all bs f) : b < w.heap.size := by
  obtain ⟨v, a, hb, _⟩ := h
  exact lt_of_blk hb
theorem RdrR.fault {lo hi b a : Nat} {all bs : List UInt8} {f : Int} {w : World} (g : Int) {v : Value} (hb : w.heap[b]? = some (.cells #[v, .int .i64 (a : Nat), .int .i64 f] 57 (0, 0))) (hv : Bts w v all) (ha : a ≤ all.length) (hd : all.drop a = bs)
    (ho : 0 < all.length → ∀ k, v.ownBlock = some k → lo ≤ k ∧ k < hi ∧ k ≠ b) : RdrR (setAt w b #[v, .int .i64 (a : Nat), .int .i64 g] 57 (0, 0)) lo hi b all bs g :=
  ⟨v, a, setAt_same (lt_of_blk hb), hv.keep' (setAt_keep _ _ _ _ _) (fun hp k hk => (ho hp k hk).2.2), ha, hd, ho⟩
theorem RdrR.move {lo hi b a a' : Nat} {all bs : List UInt8} {f : Int} {w : World} {v : Value} (hb : w.heap[b]? = some (.cells #[v, .int .i64 (a : Nat), .int .i64 f] 57 (0, 0))) (hv : Bts w v all) (ha : a' ≤ all.length) (hd : all.drop a' = bs)
    (ho : 0 < all.length → ∀ k, v.ownBlock = some k → lo ≤ k ∧ k < hi ∧ k ≠ b) : RdrR (setAt w b #[v, .int .i64 (a' : Nat), .int .i64 f] 57 (0, 0)) lo hi b all bs f :=
  ⟨v, a', setAt_same (lt_of_blk hb), hv.keep' (setAt_keep _ _ _ _ _) (fun hp k hk => (ho hp k hk).2.2), ha, hd, ho⟩

theorem RGet_spec {lo hi b : Nat} {all bs : List UInt8} {f m : Int} {w : World} {K : Value → World → Prop} (hr : RdrR w lo hi b all bs f)
    (h : ∀ w1, Keep (· = b) w w1 → RdrR w1 lo hi b all (getR bs f m).2.1 (getR bs f m).2.2 → K (.int .u64 ((getR bs f m).1 : Nat)) w1) :
    CALL Try.prog 62 #[.pointer (some ⟨b, 0, none⟩), .int .i64 m] w K := by
  apply call_ref01_Reader_Get
  unfold B_ref01_Reader_Get
  obtain ⟨v, a, hb, hv, ha, hd, ho⟩ := id hr
  simp only [SS, ST]
  refine X_loadL agg_30 hb rfl ?_
  simp only [SS, ST]
  by_cases hf : f = 0
  · subst hf
    rw [if_neg (by simp)]
    by_cases hm : m < 0 ∨ 8 < m
    · have eg : getR bs 0 m = (0, bs, 1) := by simp [getR, hm]
      rw [eg] at h
      have goal : K (.int .u64 0) (setAt w b #[v, .int .i64 (a : Nat), .int .i64 1] 57 (0, 0)) := h _ (setAt_keep _ _ _ _ _) (RdrR.fault 1 hb hv ha hd ho)
      by_cases h1 : m < 0
      · simp only [h1, SS, ST, decide_true, if_true, Bool.true_eq_false, if_false]
        refine XU_store info_30 sz_30 rfl hb (by simp) (by decide) ?_
        exact goal
      · have h2 : 8 < m := by omega
        simp only [h1, h2, SS, ST, decide_true, decide_false, if_true, Bool.false_eq_true, if_false, gt_iff_lt]
        refine XU_store info_30 sz_30 rfl hb (by simp) (by decide) ?_
        exact goal
    · obtain ⟨n, rfl⟩ : ∃ n : Nat, m = n := ⟨m.toNat, by omega⟩
      have h1 : ¬ ((n : Int) < 0) := by omega
      have h2 : ¬ (8 < (n : Int)) := by omega
      simp only [h1, h2, SS, ST, decide_false, if_true, Bool.false_eq_true, if_false, gt_iff_lt]
      refine ⟨Ext, Ext.frame, ?_⟩
      have hbd : (drewW w).heap[b]? = some (.cells #[v, .int .i64 (a : Nat), .int .i64 0] 57 (0, 0)) := hb
      refine XR_loadL agg_27 hbd rfl ?_
      obtain ⟨ao, c, e⟩ := Bts.slice hv
      subst e
      obtain ⟨_, _, _, hc1, hc2, _⟩ := id hv
      simp only [SS, ST]
      refine XR_loadL agg_3 hbd rfl ?_
      simp only [SS, ST]
      have hlb : bs.length = all.length - a := by rw [← hd]; simp
      have e1 : IntKind.i64.wrap ((all.length : Int) - (a : Int)) = (bs.length : Int) := by rw [w64 (by omega) (by omega)]; omega
      rw [e1]
      by_cases hlen : bs.length < n
      · have eg : getR bs 0 n = (0, bs, 10) := by simp [getR, hm, hlen]
        rw [eg] at h
        rw [if_pos (by simp; omega)]
        refine XU_store info_30 sz_30 rfl hbd (by simp) (by decide) ?_
        exact h _ ((Keep.drew _ w).trans (setAt_keep _ _ _ _ _)) (RdrR.fault 10 hbd hv.drew ha hd ho)
      · have eg : getR bs 0 n = (num (bs.take n), bs.drop n, 0) := by simp [getR, hm, hlen]
        rw [eg] at h
        rw [if_neg (by simp; omega)]
        refine X_loadL agg_3 hbd rfl ?_
        refine rnumber_spec hbd hv.drew (by omega) (by omega) ?_
        refine X_loadL agg_3 hbd rfl ?_
        simp only [SS, ST]
        refine XU_store info_3 sz_3 rfl hbd (by simp) (by decide) ?_
        rw [hd]
        refine h _ ((Keep.drew _ w).trans (setAt_keep _ _ _ _ _)) ?_
        have e2 : IntKind.i64.wrap ((a : Int) + (n : Int)) = ((a + n : Nat) : Int) := by rw [w64 (by omega) (by omega)]; omega
        rw [e2]
        exact RdrR.move hbd hv.drew (by omega) (by rw [← List.drop_drop, hd]) ho
  · rw [if_pos (by simp [hf])]
    have eg : getR bs f m = (0, bs, f) := by simp [getR, hf]
    rw [eg] at h
    exact h w (Keep.refl _ _) hr

theorem RText_spec {lo hi b : Nat} {all bs : List UInt8} {f m : Int} {w : World} {K : Value → World → Prop} (hr : RdrR w lo hi b all bs f) (hm : m ≤ 9223372036854775807)
    (h : ∀ w1, Keep (· = b) w w1 → RdrR w1 lo hi b all (textR bs f m).2.1 (textR bs f m).2.2 → K (.string (str (textR bs f m).1)) w1) :
    CALL Try.prog 60 #[.pointer (some ⟨b, 0, none⟩), .int .i64 m] w K := by
  apply call_ref01_Reader_Text
  unfold B_ref01_Reader_Text
  obtain ⟨v, a, hb, hv, ha, hd, ho⟩ := id hr
  simp only [SS, ST]
  refine X_loadL agg_30 hb rfl ?_
  simp only [SS, ST]
  by_cases hf : f = 0
  · subst hf
    rw [if_neg (by simp)]
    refine ⟨Ext, Ext.frame, ?_⟩
    have hbd : (drewW w).heap[b]? = some (.cells #[v, .int .i64 (a : Nat), .int .i64 0] 57 (0, 0)) := hb
    refine XR_loadL agg_27 hbd rfl ?_
    obtain ⟨ao, c, e⟩ := Bts.slice hv
    subst e
    obtain ⟨_, _, _, hc1, hc2, _⟩ := id hv
    simp only [SS, ST]
    refine XR_loadL agg_3 hbd rfl ?_
    simp only [SS, ST]
    have hlb : bs.length = all.length - a := by rw [← hd]; simp
    have e1 : IntKind.i64.wrap (IntKind.i64.wrap ((all.length : Int) - (a : Int)) - 4) = (bs.length : Int) - 4 := by rw [w64 (x := (all.length : Int) - (a : Int)) (by omega) (by omega), w64 (by omega) (by omega)]; omega
    rw [e1]
    by_cases h4 : bs.length < 4
    · have eg : textR bs 0 m = ([], bs, 10) := by simp [textR, h4]
      rw [eg] at h
      rw [if_pos (by simp; omega)]
      refine XU_store info_30 sz_30 rfl hbd (by simp) (by decide) ?_
      exact h _ ((Keep.drew _ w).trans (setAt_keep _ _ _ _ _)) (RdrR.fault 10 hbd hv.drew ha hd ho)
    · rw [if_neg (by simp; omega)]
      refine X_loadL agg_3 hbd rfl ?_
      refine rnumber_spec (n := 4) hbd hv.drew (by omega) (by omega) ?_
      rw [hd]
      simp only [SS, ST]
      have hnl := num_lt (bs.take 4)
      have hnl4 : (bs.take 4).length = 4 := by simp; omega
      rw [hnl4] at hnl
      have e1 : IntKind.u64.wrap (max m 0) = max m 0 := by rw [wrap_u64]; omega
      have hd4 : (bs.drop 4).length = bs.length - 4 := by simp
      have e2 : IntKind.u64.wrap ((bs.length : Int) - 4) = (((bs.drop 4).length : Nat) : Int) := by rw [wrap_u64]; omega
      rw [e1]
      by_cases hlim : max m 0 < (num (bs.take 4) : Int)
      · have eg : textR bs 0 m = ([], bs, 4) := by simp only [textR, h4, hlim, ne_eq, not_true, if_false, if_true]
        rw [eg] at h
        rw [if_pos (by simp only [gt_iff_lt, decide_eq_true_eq]; exact hlim)]
        refine XU_store info_30 sz_30 rfl hbd (by simp) (by decide) ?_
        exact h _ ((Keep.drew _ w).trans (setAt_keep _ _ _ _ _)) (RdrR.fault 4 hbd hv.drew ha hd ho)
      · rw [if_neg (by simp only [gt_iff_lt, decide_eq_true_eq]; exact hlim), e2]
        by_cases hfew : (bs.drop 4).length < num (bs.take 4)
        · have eg : textR bs 0 m = ([], bs, 10) := by simp only [textR, h4, hlim, hfew, ne_eq, not_true, if_false, if_true]
          rw [eg] at h
          rw [if_pos (by simp only [gt_iff_lt, decide_eq_true_eq]; omega)]
          refine XU_store info_30 sz_30 rfl hbd (by simp) (by decide) ?_
          exact h _ ((Keep.drew _ w).trans (setAt_keep _ _ _ _ _)) (RdrR.fault 10 hbd hv.drew ha hd ho)
        · have eg : textR bs 0 m = ((bs.drop 4).take (num (bs.take 4)), (bs.drop 4).drop (num (bs.take 4)), 0) := by simp only [textR, h4, hlim, hfew, ne_eq, not_true, if_false]
          rw [eg] at h
          rw [if_neg (by simp only [gt_iff_lt, decide_eq_true_eq]; omega)]
          refine ⟨Ext, Ext.frame, ?_⟩
          have hbe : (drewW (drewW w)).heap[b]? = some (.cells #[.slice ao all.length c, .int .i64 (a : Nat), .int .i64 0] 57 (0, 0)) := hb
          refine XR_loadL agg_27 hbe rfl ?_
          refine XR_loadL agg_3 hbe rfl ?_
          simp only [SS, ST]
          refine XR_loadL agg_3 hbe rfl ?_
          simp only [SS, ST]
          have e3 : IntKind.i64.wrap ((num (bs.take 4) : Nat) : Int) = ((num (bs.take 4) : Nat) : Int) := w64 (by omega) (by omega)
          have e4 : IntKind.i64.wrap ((a : Int) + 4) = ((a + 4 : Nat) : Int) := by rw [w64 (by omega) (by omega)]; omega
          have e5 : IntKind.i64.wrap (((a + 4 : Nat) : Int) + ((num (bs.take 4) : Nat) : Int)) = ((a + 4 + num (bs.take 4) : Nat) : Int) := by rw [w64 (by omega) (by omega)]; omega
          rw [e3, e4, e5]
          obtain ⟨u, hu, hub, huo⟩ := cut_both Try.underlying27 info_5 sz_5 hv (kl := .i64) (kh := .i64) (a + 4) (a + 4 + num (bs.take 4)) rfl rfl (by omega) (by omega)
          refine XP_of hu ?_
          have e6 : (all.take (a + 4 + num (bs.take 4))).drop (a + 4) = (bs.drop 4).take (num (bs.take 4)) := by
            rw [List.drop_take, ← hd, List.drop_drop, Nat.add_sub_cancel_left]
          rw [e6] at hub
          refine XR_str Try.underlying27 Try.underlying5 Try.underlying9 hub ?_
          refine X_loadL agg_3 hbe rfl ?_
          simp only [SS, ST]
          rw [e4, e5]
          refine XU_store info_3 sz_3 rfl hbe (by simp) (by decide) ?_
          refine h _ ((Keep.drew _ w).trans ((Keep.drew _ _).trans (setAt_keep _ _ _ _ _))) ?_
          exact RdrR.move hbe hv.drew.drew (by omega) (by rw [← List.drop_drop, ← List.drop_drop, hd]) ho
  · rw [if_pos (by simp [hf])]
    have eg : textR bs f m = ([], bs, f) := by simp [textR, hf]
    rw [eg] at h
    exact h w (Keep.refl _ _) hr

theorem REnd_spec {lo hi b : Nat} {all bs : List UInt8} {f : Int} {w : World} {K : Value → World → Prop} (hr : RdrR w lo hi b all bs f) (h : ∀ w1, Ext w w1 → K (.int .i64 (endR bs f)) w1) :
    CALL Try.prog 66 #[.pointer (some ⟨b, 0, none⟩)] w K := by
  apply call_ref01_Reader_End
  unfold B_ref01_Reader_End
  obtain ⟨v, a, hb, hv, ha, hd, ho⟩ := id hr
  refine ⟨Ext, Ext.frame, ?_⟩
  have hbd : (drewW w).heap[b]? = some (.cells #[v, .int .i64 (a : Nat), .int .i64 f] 57 (0, 0)) := hb
  simp only [SS, ST]
  refine XR_loadL agg_30 hbd rfl ?_
  have hlb : bs.length = all.length - a := by rw [← hd]; simp
  by_cases hf : f = 0
  · subst hf
    simp only [SS, ST, decide_true, if_true]
    refine XR_loadL agg_3 hbd rfl ?_
    refine XR_loadL agg_27 hbd rfl ?_
    obtain ⟨ao, c, e⟩ := Bts.slice hv
    subst e
    simp only [SS, ST, if_true]
    by_cases hl : 0 < bs.length
    · rw [if_pos (by simp; omega)]
      simpa [endR, hl] using h _ (Keep.drew _ w)
    · rw [if_neg (by simp; omega)]
      refine X_loadL agg_30 hbd rfl ?_
      simpa [endR, hl] using h _ (Keep.drew _ w)
  · simp only [SS, ST, hf, decide_false, Bool.false_eq_true, if_false]
    refine X_loadL agg_30 hbd rfl ?_
    simpa [endR, hf] using h _ (Keep.drew _ w)

theorem u8_rem (n : Nat) : IntKind.u8.wrap (((n : Nat) : Int).tmod 256) = ((UInt8.ofNat n).toNat : Int) := by
  rw [wrap_u8]
  have : ((n : Nat) : Int).tmod 256 = ((n % 256 : Nat) : Int) := by
    rw [Int.tmod_eq_emod_of_nonneg (by omega)]
    omega
  rw [this]
  simp
theorem quo256 (n : Nat) : ((n : Nat) : Int).tdiv 256 = ((n / 256 : Nat) : Int) := by
  rw [Int.tdiv_eq_ediv_of_nonneg (by omega)]
  omega

theorem RPut_spec {n : Nat} {many : Int} {w : World} {K : Value → World → Prop} (hn : n < 18446744073709551616)
    (h : ∀ v w1, Ext w w1 → w1.ownsRow w.heap.size 5 1 v (putB n many).length (B8 (putB n many)) → K v w1) :
    CALL Try.prog 125 #[.int .u64 n, .int .i64 many] w K := by
  obtain ⟨m, hm⟩ : ∃ m : Nat, min (max many 0) 8 = (m : Int) := ⟨clamp8 many, by unfold clamp8; omega⟩
  have hm8 : m ≤ 8 := by omega
  have hput : putB n many = be m n := by
    have : clamp8 many = m := by unfold clamp8; omega
    unfold putB; rw [this]
  rw [hput] at h
  apply call_ref01_Put
  unfold B_ref01_Put
  simp only [SS, ST, hm]
  refine loopS_of (fun ρ wr => ∃ k v, k ≤ m ∧ ρ 0 = .int .u64 n ∧ ρ 5 = v ∧ ρ 6 = .int .i64 ((m : Int) - 1 - k) ∧ Ext w wr ∧
      wr.ownsRow w.heap.size 5 1 v k (B8 ((be m n).take k))) (fun ρ wr => match ρ 6 with | .int _ s => (s + 1).toNat | _ => 0) ?_ ?_
  · refine ⟨0, _, by omega, rfl, rfl, ?_, Keep.refl _ _, World.ownsRow_nil _ _ _ _⟩
    show Value.int .i64 _ = _
    congr 1
    rw [w64 (by omega) (by omega)]
    omega
  · rintro ρ wr ⟨k, v, hk, h0, h5, h6, he, ho⟩
    simp only [SS, ST, h0, h5, h6]
    by_cases hkm : k = m
    · subst hkm
      rw [if_neg (by simp; omega)]
      show K (ρ 5) wr
      rw [h5]
      refine h v wr he ?_
      rw [List.take_of_length_le (by simp)] at ho
      simpa using ho
    · rw [if_pos (by simp; omega)]
      obtain ⟨j, hj⟩ : ∃ j, m = k + 1 + j := ⟨m - 1 - k, by omega⟩
      refine loopS_of (fun ρ' wr' => ∃ i, i ≤ j ∧ wr' = wr ∧ ρ' 0 = .int .u64 n ∧ ρ' 5 = v ∧ ρ' 6 = .int .i64 ((m : Int) - 1 - k) ∧ ρ' 8 = .int .i64 (i : Nat) ∧ ρ' 7 = .int .u64 (n / 256 ^ i : Nat))
        (fun ρ wr => match ρ 8 with | .int _ s => (j - s).toNat | _ => 0) ?_ ?_
      · exact ⟨0, by omega, rfl, h0, h5, h6, rfl, by simp [upds_cons, upds_nil]⟩
      · rintro ρ' wr' ⟨i, hi, rfl, h0', h5', h6', h8', h7'⟩
        simp only [SS, ST, h0', h5', h6', h8', h7']
        by_cases hij : i = j
        · subst hij
          rw [if_neg (by simp; omega)]
          simp only [upds_cons, upds_nil, Nat.reduceEqDiff, if_false, h7', h5', h6']
          refine X_of (run_rem 22 .u64 _ 256 (by decide) _) ?_
          simp only [SS, ST]
          rw [u8_rem]
          refine X_buildSlice1 Try.underlying27 el_5 rfl ?_
          refine X_append_u8 Try.underlying27 el_5 ho (by omega) he.size ?_
          intro v1 w3 ho3 hk3
          show _ ∧ _
          refine ⟨⟨k + 1, v1, by omega, h0', rfl, ?_, Ext.seq he hk3 ?_, ?_⟩, ?_⟩
          · show Value.int .i64 _ = _
            congr 1
            rw [w64 (by omega) (by omega)]
            omega
          · intro i hi
            exact (ho.lt i hi.symm).1
          · rw [be_take_succ m n k (by omega)]
            have e1 : m - 1 - k = i := by omega
            rw [e1]
            exact ho3
          · show (IntKind.i64.wrap _ + 1).toNat < _
            rw [w64 (by omega) (by omega)]
            omega
        · rw [if_pos (by simp; omega)]
          refine X_of (run_quo 22 .u64 _ 256 (by decide) _) ?_
          simp only [SS, ST]
          show _ ∧ _
          refine ⟨⟨i + 1, by omega, trivial, h0', h5', h6', ?_, ?_⟩, ?_⟩
          · show Value.int .i64 _ = _
            congr 1
            rw [w64 (by omega) (by omega)]
            omega
          · show Value.int .u64 _ = _
            congr 1
            have hle : n / 256 ^ i / 256 ≤ n := Nat.le_trans (Nat.div_le_self _ _) (Nat.div_le_self _ _)
            rw [quo256, wrap_u64, Nat.pow_succ, ← Nat.div_div_eq_div_mul]
            generalize n / 256 ^ i / 256 = q at hle
            omega
          · show (_ - IntKind.i64.wrap _).toNat < _
            rw [w64 (by omega) (by omega)]
            omega
end Go.Proofs.Ytggggfcgnkllgaa
