/- cellarage/codec's reader: each function by its contract. -/
import Derived.Test.YtggggfcgnkllgaaCodec
import Derived.Test.YtggggfcgnkllgaaOps2
set_option linter.unusedVariables false
set_option linter.unusedSimpArgs false
namespace Go.Proofs.Ytggggfcgnkllgaa
open Go Go.Sh Go.RowKit
attribute [local irreducible] X XU XP XR CALL loopS resC closS

/-- A codec reader lies in block b: bs are left, f is its fault; its bytes lie in a block between lo and hi. -/
def Rdr (w : World) (lo hi b : Nat) (bs : List UInt8) (f : Int) : Prop :=
  ∃ v, w.heap[b]? = some (.cells #[v, .int .i64 f] 176 (0, 0)) ∧ Bts w v bs ∧ ∀ k, v.ownBlock = some k → lo ≤ k ∧ k < hi ∧ k ≠ b
theorem Rdr.keep {D : Nat → Prop} {w w' : World} {lo hi b : Nat} {bs : List UInt8} {f : Int} (h : Rdr w lo hi b bs f) (k : Keep D w w') (h1 : ¬ D b) (h2 : ∀ i, lo ≤ i → i < hi → i ≠ b → ¬ D i) : Rdr w' lo hi b bs f := by
  obtain ⟨v, hb, hv, ho⟩ := h
  exact ⟨v, k.get h1 hb, hv.keep k (fun i hi => h2 i (ho i hi).1 (ho i hi).2.1 (ho i hi).2.2), ho⟩
theorem Rdr.ext {w w' : World} {lo hi b : Nat} {bs : List UInt8} {f : Int} (h : Rdr w lo hi b bs f) (k : Ext w w') : Rdr w' lo hi b bs f := h.keep k (fun h => h) (fun _ _ _ _ h => h)
theorem Rdr.lt {w : World} {lo hi b : Nat} {bs : List UInt8} {f : Int} (h : Rdr w lo hi b bs f) : b < w.heap.size := by
  obtain ⟨v, hb, _⟩ := h
  exact lt_of_blk hb

theorem num_append (l : List UInt8) (u : UInt8) : num (l ++ [u]) = num l * 256 + u.toNat := by simp [num]
theorem num_lt (l : List UInt8) : num l < 256 ^ l.length := by
  have : ∀ (l : List UInt8) (a : Nat), l.foldl (fun n u => n * 256 + u.toNat) a < (a + 1) * 256 ^ l.length := by
    intro l
    induction l with
    | nil => intro a; simp
    | cons u l ih =>
      intro a
      have h1 := ih (a * 256 + u.toNat)
      have h2 := u.toNat_lt
      have h3 : (a * 256 + u.toNat + 1) * 256 ^ l.length ≤ ((a + 1) * 256) * 256 ^ l.length := Nat.mul_le_mul_right _ (by omega)
      rw [List.foldl_cons, List.length_cons, Nat.pow_succ, Nat.mul_comm (256 ^ l.length) 256, ← Nat.mul_assoc]
      omega
  simpa [num] using this l 0
theorem take_succ' (l : List UInt8) (i : Nat) (h : i < l.length) : l.take (i + 1) = l.take i ++ [l[i]] := by
  rw [List.take_add_one, List.getElem?_eq_getElem h]; rfl
theorem shl8_or (n : Nat) (u : UInt8) : n * 256 ||| u.toNat = n * 256 + u.toNat := by
  have h := Nat.shiftLeft_add_eq_or_of_lt (i := 8) (b := u.toNat) u.toNat_lt n
  rw [Nat.shiftLeft_eq] at h
  exact h.symm

theorem number_spec {v : Value} {bs : List UInt8} {w : World} {K : Value → World → Prop} (hb : Bts w v bs) (hl : bs.length ≤ 8) (h : K (.int .u64 (num bs : Nat)) w) :
    CALL Try.prog 129 #[v] w K := by
  obtain ⟨a, c, e, h1, h2, h3⟩ := id hb
  subst e
  apply call_codec_number
  unfold B_codec_number
  simp only [SS, ST]
  refine loopS_of (fun ρ wr => ∃ i, i ≤ bs.length ∧ wr = w ∧ ρ 8 = .int .i64 (i : Nat) ∧ ρ 7 = .int .i64 (bs.length : Nat) ∧ ρ 6 = .slice a bs.length c ∧ ρ 3 = .int .u64 (num (bs.take i) : Nat))
    (fun ρ wr => match ρ 8 with | .int _ s => (bs.length - s).toNat | _ => 0) ?_ ?_
  · exact ⟨0, by omega, rfl, rfl, rfl, rfl, rfl⟩
  · rintro ρ wr ⟨i, hi, rfl, h8, h7, h6, h3⟩
    simp only [SS, ST, h8, h7, h6, h3]
    by_cases hin : i = bs.length
    · subst hin
      rw [if_neg (by simp)]
      show K (ρ 3) wr
      rw [h3, List.take_length]
      exact h
    · rw [if_pos (by simp; omega)]
      obtain ⟨ad, hix, hcell, _⟩ := at_bts Try.underlying27 info_5 sz_5 hb (k := .i64) i rfl (by omega)
      refine X_of (hix _) ?_
      refine X_load agg_5 hcell ?_
      refine X_of (run_shl _ _ (by decide) _) ?_
      simp only [SS, ST]
      have hn := num_lt (bs.take i)
      have hp : (256 : Nat) ^ (bs.take i).length ≤ 256 ^ 7 := Nat.pow_le_pow_right (by decide) (by simp; omega)
      have hu := (bs[i]).toNat_lt
      have e1 : IntKind.u64.wrap (((num (bs.take i) : Nat) : Int) * 2 ^ min (Int.toNat 8) IntKind.u64.bits) = ((num (bs.take i) * 256 : Nat) : Int) := by
        have : (2 : Int) ^ min (Int.toNat 8) IntKind.u64.bits = 256 := by decide
        rw [this, wrap_u64]
        omega
      have e2 : IntKind.u64.wrap ((bs[i].toNat : Nat) : Int) = ((bs[i].toNat : Nat) : Int) := by
        rw [wrap_u64]
        omega
      rw [e1, e2]
      refine X_of (run_or rfl _ _ _ (by show _ < 2 ^ 64; omega) (by show _ < 2 ^ 64; omega) _) ?_
      simp only [SS, ST]
      rw [shl8_or, ← num_append, ← take_succ' bs i (by omega)]
      show _ ∧ _
      refine ⟨⟨i + 1, by omega, trivial, ?_, h7, h6, rfl⟩, ?_⟩
      · show Value.int .i64 _ = _
        congr 1
        rw [w64 (by omega) (by omega)]
        omega
      · show (_ - IntKind.i64.wrap _).toNat < _
        rw [w64 (by omega) (by omega)]
        omega

theorem run_build_176 (a : Option Addr) (n c : Nat) (w : World) : (Instr.build 176 #[(0, .slice a n c)]).run Try.prog w = .ok (.agg #[.slice a n c, .int .i64 0]) w := by kernel_rfl

theorem Bts.slice {w : World} {v : Value} {bs : List UInt8} (h : Bts w v bs) : ∃ a c, v = .slice a bs.length c := by
  obtain ⟨a, c, e, _⟩ := h
  exact ⟨a, c, e⟩

theorem New_spec {v : Value} {bs : List UInt8} {w : World} {K : Value → World → Prop} (hb : Bts w v bs) (hl : bs.length ≤ 140737488355328)
    (h : ∀ b w1, Ext w w1 → w.heap.size ≤ b → Rdr w1 w.heap.size w1.heap.size b bs 0 → K (.pointer (some ⟨b, 0, none⟩)) w1) :
    CALL Try.prog 58 #[v] w K := by
  apply call_codec_New
  unfold B_codec_New
  refine X_append_bts Try.underlying27 el_5 (xs := []) (World.ownsRow_nil w w.heap.size 5 1) hb (by omega) (Nat.le_refl _) ?_
  intro v1 w1 ho hk
  obtain ⟨hv1, hn⟩ := own_bts ho
  rw [List.nil_append] at hv1 ho
  obtain ⟨a, c, e⟩ := Bts.slice hv1
  have hlt := ho.lt
  subst e
  refine X_of (run_build_176 a _ c _) ?_
  refine X_box ?_
  have hx : Ext w w1 := hk.mono (fun i _ h => by cases h)
  refine h _ _ (hx.trans (newB_ext _ _ _)) hx.size ⟨_, newB_get _ _ _, hv1.ext (newB_ext _ _ _), fun k hk => ?_⟩
  have := hlt k hk
  rw [newB_size]
  omega

theorem ready_spec {lo hi b : Nat} {bs : List UInt8} {f : Int} {w : World} {K : Value → World → Prop} (hr : Rdr w lo hi b bs f) (h : K (.bool (decide (f = 0))) w) :
    CALL Try.prog 128 #[.pointer (some ⟨b, 0, none⟩)] w K := by
  obtain ⟨v, hb, hv, ho⟩ := hr
  apply call_codec_Reader_ready
  unfold B_codec_Reader_ready
  simp only [SS, ST, Option.isSome_some, if_true]
  refine X_loadL agg_30 hb rfl ?_
  simp only [SS, ST, if_true]
  exact h
theorem ready_nil {w : World} {K : Value → World → Prop} (h : K (.bool false) w) : CALL Try.prog 128 #[.pointer none] w K := by
  apply call_codec_Reader_ready
  unfold B_codec_Reader_ready
  simp only [SS, ST, Option.isSome_none, if_false, Bool.false_eq_true]
  exact h

def getR (bs : List UInt8) (f m : Int) : Nat × List UInt8 × Int :=
  if f ≠ 0 then (0, bs, f) else if m < 0 ∨ 8 < m then (0, bs, 1) else if bs.length < m.toNat then (0, bs, 10) else (num (bs.take m.toNat), bs.drop m.toNat, 0)

/-- The reader's fault is set. -/
theorem Rdr.fault {lo hi b : Nat} {bs : List UInt8} {f : Int} {w : World} (g : Int) {v : Value} (hb : w.heap[b]? = some (.cells #[v, .int .i64 f] 176 (0, 0))) (hv : Bts w v bs) (ho : ∀ k, v.ownBlock = some k → lo ≤ k ∧ k < hi ∧ k ≠ b) :
    Rdr (setAt w b #[v, .int .i64 g] 176 (0, 0)) lo hi b bs g :=
  ⟨v, setAt_same (lt_of_blk hb), hv.keep (setAt_keep _ _ _ _ _) (fun k hk => (ho k hk).2.2), ho⟩
theorem Rdr.move {lo hi b : Nat} {bs' : List UInt8} {f : Int} {w : World} {v v' : Value} (hb : w.heap[b]? = some (.cells #[v, .int .i64 f] 176 (0, 0))) (hv : Bts w v' bs') (ho : ∀ k, v'.ownBlock = some k → lo ≤ k ∧ k < hi ∧ k ≠ b) :
    Rdr (setAt w b #[v', .int .i64 f] 176 (0, 0)) lo hi b bs' f :=
  ⟨v', setAt_same (lt_of_blk hb), hv.keep (setAt_keep _ _ _ _ _) (fun k hk => (ho k hk).2.2), ho⟩

theorem Get_spec {lo hi b : Nat} {bs : List UInt8} {f m : Int} {w : World} {K : Value → World → Prop} (hr : Rdr w lo hi b bs f)
    (h : ∀ w1, Keep (· = b) w w1 → Rdr w1 lo hi b (getR bs f m).2.1 (getR bs f m).2.2 → K (.int .u64 ((getR bs f m).1 : Nat)) w1) :
    CALL Try.prog 61 #[.pointer (some ⟨b, 0, none⟩), .int .i64 m] w K := by
  apply call_codec_Reader_Get
  unfold B_codec_Reader_Get
  refine ready_spec hr ?_
  obtain ⟨v, hb, hv, ho⟩ := id hr
  simp only [SS, ST]
  by_cases hf : f = 0
  · subst hf
    rw [if_neg (by simp)]
    have epick : (if decide (m < 0) = true then Value.bool true else if decide (m < 0) = false then Value.bool (decide (m > 8)) else undef) = .bool (decide (m < 0 ∨ 8 < m)) := by
      by_cases h1 : m < 0
      · simp [h1]
      · simp [h1]
    by_cases hm : m < 0 ∨ 8 < m
    · have eg : getR bs 0 m = (0, bs, 1) := by simp [getR, hm]
      rw [eg] at h
      have goal : K (.int .u64 0) (setAt w b #[v, .int .i64 1] 176 (0, 0)) := h _ (setAt_keep _ _ _ _ _) (Rdr.fault 1 hb hv ho)
      by_cases h1 : m < 0
      · simp only [h1, SS, ST, decide_true, if_true, Bool.true_eq_false, if_false]
        refine XU_store info_30 sz_30 rfl hb (by simp) (by decide) ?_
        exact goal
      · have h2 : 8 < m := by omega
        simp only [h1, h2, SS, ST, decide_true, decide_false, if_true, Bool.false_eq_true, if_false, gt_iff_lt]
        refine XU_store info_30 sz_30 rfl hb (by simp) (by decide) ?_
        exact goal
    · obtain ⟨n, rfl⟩ : ∃ n : Nat, m = n := ⟨m.toNat, by omega⟩
      have h1 : ¬ ((n : Int) < 0) := by omega
      have h2 : ¬ (8 < (n : Int)) := by omega
      simp only [h1, h2, SS, ST, decide_false, if_true, Bool.false_eq_true, if_false, gt_iff_lt]
      refine X_loadL agg_27 hb rfl ?_
      obtain ⟨a, c, e⟩ := Bts.slice hv
      subst e
      simp only [SS, ST]
      by_cases hlen : bs.length < n
      · have eg : getR bs 0 n = (0, bs, 10) := by simp [getR, hm, hlen]
        rw [eg] at h
        rw [if_pos (by simp; omega)]
        refine XU_store info_30 sz_30 rfl hb (by simp) (by decide) ?_
        exact h _ (setAt_keep _ _ _ _ _) (Rdr.fault 10 hb hv ho)
      · have eg : getR bs 0 n = (num (bs.take n), bs.drop n, 0) := by simp [getR, hm, hlen]
        rw [eg] at h
        rw [if_neg (by simp; omega)]
        refine X_loadL agg_27 hb rfl ?_
        obtain ⟨u, hu, hub, huo⟩ := cut_hi Try.underlying27 info_5 hv (kh := .i64) n rfl (by omega)
        refine X_of (hu _) ?_
        refine number_spec hub (by simp; omega) ?_
        refine X_loadL agg_27 hb rfl ?_
        obtain ⟨u2, hu2, hub2, huo2⟩ := cut_lo Try.underlying27 info_5 sz_5 hv (kl := .i64) n rfl (by omega)
        refine X_of (hu2 _) ?_
        obtain ⟨a2, c2, e2⟩ := Bts.slice hub2
        subst e2
        refine XU_store info_27 sz_27 rfl hb (by simp) (by decide) ?_
        exact h _ (setAt_keep _ _ _ _ _) (Rdr.move hb hub2 (fun k hk => ho k (by rw [← huo2]; exact hk)))
  · rw [if_pos (by simp [hf])]
    have eg : getR bs f m = (0, bs, f) := by simp [getR, hf]
    rw [eg] at h
    exact h w (Keep.refl _ _) hr
theorem Get_nil {m : Value} {w : World} {K : Value → World → Prop} (h : K (.int .u64 0) w) : CALL Try.prog 61 #[.pointer none, m] w K := by
  apply call_codec_Reader_Get
  unfold B_codec_Reader_Get
  refine ready_nil ?_
  simp only [SS, ST]
  exact h

def textR (bs : List UInt8) (f limit : Int) : List UInt8 × List UInt8 × Int :=
  if f ≠ 0 then ([], bs, f) else if bs.length < 4 then ([], bs, 10)
  else if max limit 0 < (num (bs.take 4) : Int) then ([], bs, 4)
  else if (bs.drop 4).length < num (bs.take 4) then ([], bs, 10)
  else ((bs.drop 4).take (num (bs.take 4)), (bs.drop 4).drop (num (bs.take 4)), 0)

theorem Text_spec {lo hi b : Nat} {bs : List UInt8} {f m : Int} {w : World} {K : Value → World → Prop} (hr : Rdr w lo hi b bs f) (hm : m ≤ 9223372036854775807)
    (h : ∀ w1, Keep (· = b) w w1 → Rdr w1 lo hi b (textR bs f m).2.1 (textR bs f m).2.2 → K (.string (str (textR bs f m).1)) w1) :
    CALL Try.prog 59 #[.pointer (some ⟨b, 0, none⟩), .int .i64 m] w K := by
  apply call_codec_Reader_Text
  unfold B_codec_Reader_Text
  refine ready_spec hr ?_
  obtain ⟨v, hb, hv, ho⟩ := id hr
  simp only [SS, ST]
  by_cases hf : f = 0
  · subst hf
    rw [if_neg (by simp)]
    refine X_loadL agg_27 hb rfl ?_
    obtain ⟨a, c, e⟩ := Bts.slice hv
    subst e
    obtain ⟨_, _, _, hc1, hc2, _⟩ := id hv
    simp only [SS, ST]
    by_cases h4 : bs.length < 4
    · have eg : textR bs 0 m = ([], bs, 10) := by simp [textR, h4]
      rw [eg] at h
      rw [if_pos (by simp; omega)]
      refine XU_store info_30 sz_30 rfl hb (by simp) (by decide) ?_
      exact h _ (setAt_keep _ _ _ _ _) (Rdr.fault 10 hb hv ho)
    · rw [if_neg (by simp; omega)]
      refine ⟨Ext, Ext.frame, ?_⟩
      have hbd : (drewW w).heap[b]? = some (.cells #[.slice a bs.length c, .int .i64 0] 176 (0, 0)) := hb
      refine XR_loadL agg_27 hbd rfl ?_
      obtain ⟨u, hu, hub, huo⟩ := cut_hi Try.underlying27 info_5 hv (kh := .i64) 4 rfl (by omega)
      refine XP_of hu ?_
      refine XR_loadL agg_27 hbd rfl ?_
      obtain ⟨u2, hu2, hub2, huo2⟩ := cut_lo Try.underlying27 info_5 sz_5 hv (kl := .i64) 4 rfl (by omega)
      refine XP_of hu2 ?_
      refine number_spec hub.drew (by simp; omega) ?_
      refine ⟨Ext.frame.refl _, ?_⟩
      obtain ⟨a2, c2, e2⟩ := Bts.slice hub2
      subst e2
      simp only [SS, ST]
      have hnl := num_lt (bs.take 4)
      have hnl4 : (bs.take 4).length = 4 := by simp; omega
      rw [hnl4] at hnl
      have e1 : IntKind.u64.wrap (max m 0) = max m 0 := by rw [wrap_u64]; omega
      have hd4 : (bs.drop 4).length = bs.length - 4 := by simp
      have e2 : IntKind.u64.wrap (((bs.drop 4).length : Nat) : Int) = (((bs.drop 4).length : Nat) : Int) := by rw [wrap_u64]; omega
      rw [e1]
      by_cases hlim : max m 0 < (num (bs.take 4) : Int)
      · have eg : textR bs 0 m = ([], bs, 4) := by simp only [textR, h4, hlim, ne_eq, not_true, if_false, if_true]
        rw [eg] at h
        rw [if_pos (by simp only [gt_iff_lt, decide_eq_true_eq]; exact hlim)]
        refine XU_store info_30 sz_30 rfl hbd (by simp) (by decide) ?_
        exact h _ ((Keep.drew _ w).trans (setAt_keep _ _ _ _ _)) (Rdr.fault 4 hbd hv.drew ho)
      · rw [if_neg (by simp only [gt_iff_lt, decide_eq_true_eq]; exact hlim), e2]
        by_cases hfew : (bs.drop 4).length < num (bs.take 4)
        · have eg : textR bs 0 m = ([], bs, 10) := by simp only [textR, h4, hlim, hfew, ne_eq, not_true, if_false, if_true]
          rw [eg] at h
          rw [if_pos (by simp only [gt_iff_lt, decide_eq_true_eq]; omega)]
          refine XU_store info_30 sz_30 rfl hbd (by simp) (by decide) ?_
          exact h _ ((Keep.drew _ w).trans (setAt_keep _ _ _ _ _)) (Rdr.fault 10 hbd hv.drew ho)
        · have eg : textR bs 0 m = ((bs.drop 4).take (num (bs.take 4)), (bs.drop 4).drop (num (bs.take 4)), 0) := by simp only [textR, h4, hlim, hfew, ne_eq, not_true, if_false]
          rw [eg] at h
          rw [if_neg (by simp only [gt_iff_lt, decide_eq_true_eq]; omega)]
          obtain ⟨u3, hu3, hub3, huo3⟩ := cut_lo Try.underlying27 info_5 sz_5 hub2.drew (kl := .u64) (num (bs.take 4)) rfl (by omega)
          refine X_of (hu3 _) ?_
          obtain ⟨a3, c3, e3⟩ := Bts.slice hub3
          subst e3
          refine XU_store info_27 sz_27 rfl hbd (by simp) (by decide) ?_
          obtain ⟨u4, hu4, hub4, huo4⟩ := cut_hi Try.underlying27 info_5 hub2.drew (kh := .u64) (num (bs.take 4)) rfl (by omega)
          refine X_of (hu4 _) ?_
          have hob : ∀ k, u4.ownBlock = some k → k ≠ b := fun k hk => (ho k (by rw [← huo2, ← huo4]; exact hk)).2.2
          refine X_str Try.underlying27 Try.underlying5 Try.underlying9 (hub4.keep (setAt_keep _ b _ _ _) hob) ?_
          exact h _ ((Keep.drew _ w).trans (setAt_keep _ _ _ _ _)) (Rdr.move hbd hub3 (fun k hk => ho k (by rw [← huo2, ← huo3]; exact hk)))
  · rw [if_pos (by simp [hf])]
    have eg : textR bs f m = ([], bs, f) := by simp [textR, hf]
    rw [eg] at h
    exact h w (Keep.refl _ _) hr
theorem Text_nil {m : Value} {w : World} {K : Value → World → Prop} (h : K (.string (str [])) w) : CALL Try.prog 59 #[.pointer none, m] w K := by
  apply call_codec_Reader_Text
  unfold B_codec_Reader_Text
  refine ready_nil ?_
  simp only [SS, ST]
  exact h

theorem Left_spec {lo hi b : Nat} {bs : List UInt8} {f : Int} {w : World} {K : Value → World → Prop} (hr : Rdr w lo hi b bs f) (h : K (.int .i64 (bs.length : Nat)) w) :
    CALL Try.prog 63 #[.pointer (some ⟨b, 0, none⟩)] w K := by
  obtain ⟨v, hb, hv, ho⟩ := hr
  apply call_codec_Reader_Left
  unfold B_codec_Reader_Left
  simp only [SS, ST, Option.isNone_some, Bool.false_eq_true, if_false]
  refine X_loadL agg_27 hb rfl ?_
  obtain ⟨a, c, e⟩ := Bts.slice hv
  subst e
  simp only [SS, ST]
  exact h
theorem Left_nil {w : World} {K : Value → World → Prop} (h : K (.int .i64 0) w) : CALL Try.prog 63 #[.pointer none] w K := by
  apply call_codec_Reader_Left
  unfold B_codec_Reader_Left
  simp only [SS, ST, Option.isNone_none, if_true]
  exact h
theorem Fault_spec {lo hi b : Nat} {bs : List UInt8} {f : Int} {w : World} {K : Value → World → Prop} (hr : Rdr w lo hi b bs f) (h : K (.int .i64 f) w) :
    CALL Try.prog 64 #[.pointer (some ⟨b, 0, none⟩)] w K := by
  obtain ⟨v, hb, hv, ho⟩ := hr
  apply call_codec_Reader_Fault
  unfold B_codec_Reader_Fault
  simp only [SS, ST, Option.isNone_some, Bool.false_eq_true, if_false]
  refine X_loadL agg_30 hb rfl ?_
  exact h
theorem Fault_nil {w : World} {K : Value → World → Prop} (h : K (.int .i64 0) w) : CALL Try.prog 64 #[.pointer none] w K := by
  apply call_codec_Reader_Fault
  unfold B_codec_Reader_Fault
  simp only [SS, ST, Option.isNone_none, if_true]
  exact h
def endR (bs : List UInt8) (f : Int) : Int := if f = 0 ∧ 0 < bs.length then 11 else f
theorem End_spec {lo hi b : Nat} {bs : List UInt8} {f : Int} {w : World} {K : Value → World → Prop} (hr : Rdr w lo hi b bs f) (h : K (.int .i64 (endR bs f)) w) :
    CALL Try.prog 65 #[.pointer (some ⟨b, 0, none⟩)] w K := by
  apply call_codec_Reader_End
  unfold B_codec_Reader_End
  refine ready_spec hr ?_
  obtain ⟨v, hb, hv, ho⟩ := id hr
  by_cases hf : f = 0
  · subst hf
    simp only [SS, ST, decide_true, if_true]
    refine X_loadL agg_27 hb rfl ?_
    obtain ⟨a, c, e⟩ := Bts.slice hv
    subst e
    simp only [SS, ST, if_true]
    by_cases hl : 0 < bs.length
    · rw [if_pos (by simp; omega)]
      simpa [endR, hl] using h
    · rw [if_neg (by simpa using hl)]
      refine Fault_spec hr ?_
      simpa [endR, hl] using h
  · simp only [SS, ST, hf, decide_false, Bool.false_eq_true, if_false]
    refine Fault_spec hr ?_
    simpa [endR, hf] using h
theorem End_nil {w : World} {K : Value → World → Prop} (h : K (.int .i64 0) w) : CALL Try.prog 65 #[.pointer none] w K := by
  apply call_codec_Reader_End
  unfold B_codec_Reader_End
  refine ready_nil ?_
  simp only [SS, ST, Bool.false_eq_true, if_false]
  exact Fault_nil h
end Go.Proofs.Ytggggfcgnkllgaa
