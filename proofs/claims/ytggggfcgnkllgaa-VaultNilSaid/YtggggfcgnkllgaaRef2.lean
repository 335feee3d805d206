/- cellaragelaw08's reference disk: what its acts compute. -/
import Derived.Test.YtggggfcgnkllgaaRef1
set_option linter.unusedSimpArgs false
set_option linter.unusedVariables false
namespace Go.Proofs.Ytggggfcgnkllgaa
open Go Go.Sh Go.RowKit
attribute [local irreducible] X XU XP XR CALL loopS resC closS

theorem putAll_none {l : List (List UInt8)} {c : List (Nat × List UInt8)} {k : Nat} (h : ∀ p ∈ c, p.1 ≠ k) : (putAll l c)[k]? = l[k]? := by
  induction c generalizing l with
  | nil => rfl
  | cons p c ih =>
    show (putAll (l.set p.1 p.2) c)[k]? = _
    rw [ih (fun q hq => h q (by simp [hq])), List.getElem?_set_ne (h p (by simp))]
theorem putAll_last {l : List (List UInt8)} {ws : List (Nat × List UInt8)} {i k : Nat} (hi : i < ws.length) (hk : ws[i].1 = k) (hl : k < l.length) (h : ∀ j (hj : j < ws.length), i < j → ws[j].1 ≠ k) : (putAll l ws)[k]? = some ws[i].2 := by
  have e : ws = ws.take i ++ ws[i] :: ws.drop (i + 1) := by
    rw [← List.drop_eq_getElem_cons hi, List.take_append_drop]
  have e2 : putAll l ws = putAll ((putAll l (ws.take i)).set ws[i].1 ws[i].2) (ws.drop (i + 1)) := by
    have h0 : putAll l ws = putAll l (ws.take i ++ ws[i] :: ws.drop (i + 1)) := congrArg (putAll l) e
    rw [h0, putAll_append]
    rfl
  rw [e2, putAll_none, hk, List.getElem?_set_self (by rw [putAll_length]; exact hl)]
  intro p hp
  obtain ⟨j, hj, rfl⟩ := List.mem_iff_getElem.1 hp
  rw [List.getElem_drop]
  rw [List.length_drop] at hj
  exact h _ (by omega) (by omega)
theorem sz2 (i : Nat) : i * 2 + 1 = i * 2 + 1 := rfl
theorem run_build_200 (n : Int) (s : ByteArray) (w : World) : (Instr.build 200 #[(0, .int .i64 n), (1, .string s)]).run Try.prog w = .ok (.agg #[.int .i64 n, .string s]) w := by kernel_rfl
theorem run_build_148 (a : Option Addr) (n c : Nat) (w : World) : (Instr.build 148 #[(0, .slice a n c), (3, .int .i64 (-1))]).run Try.prog w = .ok (.agg #[.slice a n c, .slice none 0 0, .bool false, .int .i64 (-1), .int .i64 0]) w := by kernel_rfl
section
variable {w : World} {b : Nat} {d : Dk} {K : Value → World → Prop}
theorem RWrite_spec {at_ : Int} {bs : List UInt8} (h : RefAt w b d) (hw : d.ws.length ≤ 1000000)
    (hK : ∀ w1, RefAt w1 b (d.write at_ bs).1 → Step b w w1 → K (i64v (d.write at_ bs).2) w1) : CALL Try.prog 109 #[ptr b, i64v at_, .string (str bs)] w K := by
  have hd0 := h
  obtain ⟨ok, sv, pv, h⟩ := h
  obtain ⟨an, cn, en⟩ := own_sl h.safe
  apply call_ref08_Disk_Write
  unfold B_ref08_Disk_Write
  simp only [X_lss, gstep_bool]
  have bad : at_ < 0 ∨ (d.safe.length : Int) ≤ at_ ∨ 128 < bs.length → K (i64v 1) w := by
    intro hbad
    have e : d.write at_ bs = (d, 1) := by unfold Dk.write; rw [if_pos hbad]
    have := hK w (by rw [e]; exact hd0) Step.refl
    rw [e] at this
    exact this
  by_cases hneg : at_ < 0
  · have e1 : decide (at_ < 0) = true := by simpa using hneg
    simp only [e1, Bool.true_eq_false, if_false, X_pick, if_true, gstep_bool, condS_bool]
    exact bad (.inl hneg)
  have e1 : decide (at_ < 0) = false := by simpa using hneg
  simp only [e1, if_true, X_nilS, X_field_148_0]
  refine X_loadL agg_66 h.blk rfl ?_
  rw [en]
  simp only [X_len_66, X_geq, X_pick, gstep_bool, Bool.false_eq_true, if_false]
  by_cases hge : (d.safe.length : Int) ≤ at_
  · have e2 : decide (at_ ≥ (d.safe.length : Int)) = true := by simpa using hge
    simp only [e2, Bool.true_eq_false, if_false, X_pick, if_true, gstep_bool, condS_bool]
    exact bad (.inr (.inl hge))
  have e2 : decide (at_ ≥ (d.safe.length : Int)) = false := by simpa using hge
  simp only [e2, if_true, X_len_9, str_size, X_gtr, X_pick, Bool.false_eq_true, if_false, condS_bool]
  by_cases hlen : 128 < bs.length
  · rw [if_pos (by simp; omega)]
    exact bad (.inr (.inr hlen))
  rw [if_neg (by simp; omega)]
  have hgood : ¬ (at_ < 0 ∨ (d.safe.length : Int) ≤ at_ ∨ 128 < bs.length) := by omega
  obtain ⟨i, rfl⟩ : ∃ i : Nat, at_ = (i : Int) := ⟨at_.toNat, by omega⟩
  have hi : i < d.safe.length := by omega
  refine off_spec h (fun w1 h1 s1 => ?_)
  rw [condS_bool]
  by_cases hd : d.trip.dead = true
  · rw [if_pos hd]
    have e : d.write (i : Int) bs = (d.trip, 6) := by unfold Dk.write; rw [if_neg hgood, if_pos hd]
    have := hK w1 (by rw [e]; exact ⟨Dk.trip_ok ok, sv, pv, h1⟩) s1
    rw [e] at this
    exact this
  rw [if_neg hd]
  have ew : d.write (i : Int) bs = ({ d.trip.tick with ws := d.ws ++ [(i, padB bs)] }, 0) := by unfold Dk.write; rw [if_neg hgood, if_neg hd]; simp
  refine ⟨Ext, Ext.frame, ?_⟩
  have h1d := h1.ext (Keep.drew (fun _ => False) w1)
  try simp only [XP_nilS, XP_field_148_1]
  refine XR_ok Ext.frame (fun w' k => run_loadAt agg_146 (blk_get (k.get h1d.blk) (v := pv) rfl)) ?_
  refine pad_spec (by omega) ?_
  intro w2 hx2
  refine ⟨hx2, ?_⟩
  refine XP_of (fun w => run_build_200 _ _ w) ?_
  have hwl : (pcs (i, padB bs)).length = 2 := rfl
  refine X_buildSliceAgg (l := pcs (i, padB bs)) Try.underlying146 el_200 (by decide) (by decide) hwl ?_
  have hx3 := newB_ext w2 (pcs (i, padB bs)).toArray 200
  have hg3 := newB_get w2 (pcs (i, padB bs)).toArray 200
  refine ⟨hx3, ?_⟩
  generalize newB w2 (pcs (i, padB bs)).toArray 200 = w3 at hx3 hg3 ⊢
  have h3 := (h1d.ext hx2).ext hx3
  have et : d.trip.ws = d.ws := Dk.trip_ws d
  refine X_appendW (base := 0) Try.underlying146 el_200 (by decide) h3.ws (news := pcs (i, padB bs)) (by rw [hwl]) ?_ (pcs_one _) (by rw [et]; omega) (by decide) (Nat.zero_le _) ?_
  · intro j u hj
    rw [add_plain, Nat.zero_add, cell_blk hg3]
    simpa using hj
  intro v' w4 ho4 hk4 hn4
  try simp only [XP_nilS, XP_field_148_1]
  obtain ⟨hb4, h5, s5⟩ := h3.append (i, padB bs) hk4 ho4 hn4
  refine XU_store info_146 sz_146 (by obtain ⟨_, _, e⟩ := own_sl ho4; rw [e]; rfl) hb4 (Nat.le_of_ble_eq_true rfl) (by show ¬ ((0 : Nat) ≤ 0 + 1 ∧ 0 + 1 < 0); omega) ?_
  show CALL _ _ _ (setAt w4 b #[sv, v', .bool d.trip.dead, .int .i64 d.trip.fuse, .int .i64 d.trip.done] 148 (0, 0)) _
  generalize setAt w4 b #[sv, v', .bool d.trip.dead, .int .i64 d.trip.fuse, .int .i64 d.trip.done] 148 (0, 0) = w5 at h5 s5 ⊢
  have okt := Dk.trip_ok ok
  refine done_spec (by exact okt.2.2.2.2) h5 ?_
  intro w6 h6 s6
  have hs : Step b w w6 := s1.trans ((Step.ext (Keep.drew _ _) (lt_of_blk h1.blk)).trans ((Step.ext hx2 (lt_of_blk h1d.blk)).trans ((Step.ext hx3 (lt_of_blk (h1d.ext hx2).blk)).trans (s5.trans s6))))
  have er : (d.write (i : Int) bs).1 = ({ d.trip with ws := d.trip.ws ++ [(i, padB bs)] } : Dk).tick := by
    rw [ew, et]; rfl
  have := hK w6 ⟨Dk.write_ok ok _ _, sv, v', by rw [er]; exact h6⟩ hs
  rw [ew] at this
  exact this
theorem RFlush_spec (h : RefAt w b d) (hw : d.ws.length ≤ 1000000) (hK : ∀ w1, RefAt w1 b d.flush.1 → Step b w w1 → K (i64v d.flush.2) w1) : CALL Try.prog 110 #[ptr b] w K := by
  obtain ⟨ok, sv, pv, h⟩ := h
  apply call_ref08_Disk_Flush
  unfold B_ref08_Disk_Flush
  refine off_spec h (fun w1 h1 s1 => ?_)
  rw [condS_bool]
  by_cases hd : d.trip.dead = true
  · rw [if_pos hd]
    have e : d.flush = (d.trip, 6) := by unfold Dk.flush; rw [if_pos hd]
    have := hK w1 (by rw [e]; exact ⟨Dk.trip_ok ok, sv, pv, h1⟩) s1
    rw [e] at this
    exact this
  rw [if_neg hd]
  have ef : d.flush = ({ d.trip.tick with safe := d.now, ws := [] }, 0) := by unfold Dk.flush; rw [if_neg hd]
  have esf : d.trip.safe = d.safe := Dk.trip_safe d
  have ews : d.trip.ws = d.ws := Dk.trip_ws d
  refine loopE (fun ρ wr => ∃ i : Nat, i ≤ d.ws.length ∧ RAt wr b { d.trip with safe := putAll d.safe (d.ws.take i) } sv pv ∧ Step b w wr ∧ ρ 3 = .int .i64 (i : Nat) ∧ ρ 0 = ptr b)
    (fun ρ wr => match ρ 3 with | .int _ s => (d.ws.length - s).toNat | _ => 0)
    (fun ρ wr => RAt wr b { d.trip with safe := d.now } sv pv ∧ Step b w wr ∧ ρ 0 = ptr b) ?_ ?_ ?_
  · refine ⟨0, Nat.zero_le _, ?_, s1, rfl, rfl⟩
    have : ({ d.trip with safe := putAll d.safe (d.ws.take 0) } : Dk) = d.trip := by
      rw [List.take_zero]
      show ({ d.trip with safe := d.safe } : Dk) = _
      rw [← esf]
    rw [this]; exact h1
  · rintro J hJ ρ wr ⟨i, hi, hr, hs, h3, h0⟩
    obtain ⟨ap, cp, ep⟩ := own_sl hr.ws
    have ewl : ({ d.trip with safe := putAll d.safe (d.ws.take i) } : Dk).ws.length = d.ws.length := by show d.trip.ws.length = _; rw [ews]
    rw [ewl] at ep
    rw [h3, h0]
    try simp only [X_nilS, X_field_148_1]
    refine X_loadL agg_146 hr.blk rfl ?_
    rw [ep, X_len_146, X_lss, condS_bool, ← ep]
    by_cases hin : i = d.ws.length
    · rw [if_neg (by simp; omega)]
      refine hJ _ _ ⟨?_, hs, h0⟩
      rw [hin, List.take_length] at hr
      exact hr
    rw [if_pos (by simp; omega)]
    have hlt : i < d.ws.length := by omega
    have hltr : i < ({ d.trip with safe := putAll d.safe (d.ws.take i) } : Dk).ws.length := by rw [ewl]; exact hlt
    have hpi := (ok.2.1 _ (List.getElem_mem hlt)).1
    have hrd := hr.ext (Keep.drew (fun _ => False) wr)
    obtain ⟨g, cap, cur, hpv, hg, hc1, hc2, _, hixp⟩ := hrd.ws_at hltr
    have ewi : ({ d.trip with safe := putAll d.safe (d.ws.take i) } : Dk).ws[i]'hltr = d.ws[i] := by
      show d.trip.ws[i]'_ = _
      congr 1
    rw [ewi] at hc1 hc2
    have hlen : ({ d.trip with safe := putAll d.safe (d.ws.take i) } : Dk).safe.length = d.safe.length := putAll_length _ _
    have hsi : d.ws[i].1 < ({ d.trip with safe := putAll d.safe (d.ws.take i) } : Dk).safe.length := by rw [hlen]; exact hpi
    obtain ⟨g2, cap2, cur2, hsv, hg2, hfit, hold, hixs, hput⟩ := hrd.safe_at hsi
    obtain ⟨h8, s8⟩ := hput d.ws[i].2
    refine ⟨Ext, Ext.frame, ?_⟩
    try simp only [XP_nilS, XP_field_148_0, XP_field_148_1]
    refine XR_ok Ext.frame (fun w' k => run_loadAt agg_66 (blk_get (k.get hrd.blk) (v := sv) rfl)) ?_
    refine XR_ok Ext.frame (fun w' k => run_loadAt agg_146 (blk_get (k.get hrd.blk) (v := pv) rfl)) ?_
    refine XP_of hixp ?_
    try simp only [XP_field_200_0]
    refine XR_ok Ext.frame (fun w' k => run_loadAt agg_3 (blk_get (k.get hg) hc1)) ?_
    try simp only [XP_nilS, XP_field_148_1]
    refine XR_ok Ext.frame (fun w' k => run_loadAt agg_146 (blk_get (k.get hrd.blk) (v := pv) rfl)) ?_
    refine XP_of hixp ?_
    try simp only [XP_field_200_1]
    refine XR_ok Ext.frame (fun w' k => run_loadAt agg_9 (blk_get (k.get hg) hc2)) ?_
    refine XP_of hixs ?_
    refine XU_store info_9 sz_9 rfl hg2 hfit (by show ¬ ((0 : Nat) ≤ _ ∧ _ < 0); omega) ?_
    rw [X_add]
    show _ ∧ _
    refine ⟨⟨i + 1, by omega, ?_, hs.trans ((Step.ext (Keep.drew _ _) (lt_of_blk hr.blk)).trans s8), next64 (n := 1000000) (by decide) (by omega), h0⟩, ?_⟩
    · have e : putAll d.safe (d.ws.take (i + 1)) = (putAll d.safe (d.ws.take i)).set d.ws[i].1 d.ws[i].2 := by
        rw [List.take_succ_eq_append_getElem hlt, putAll_append]
        rfl
      rw [e]
      exact h8
    · show (_ - IntKind.i64.wrap _).toNat < _
      rw [w64 (by omega) (by omega)]
      first | omega | (show _ < (_ : Int).toNat; omega)
  · rintro ρ wr ⟨hr, hs, h0⟩
    rw [h0]
    try simp only [X_nilS, X_field_148_1]
    refine XU_store info_146 sz_146 rfl hr.blk (Nat.le_of_ble_eq_true rfl) (by show ¬ ((0 : Nat) ≤ 0 + 1 ∧ 0 + 1 < 0); omega) ?_
    obtain ⟨h2, s2⟩ := hr.clear
    show CALL _ _ _ (setAt wr b #[sv, .slice none 0 0, .bool d.trip.dead, .int .i64 d.trip.fuse, .int .i64 d.trip.done] 148 (0, 0)) _
    generalize setAt wr b #[sv, .slice none 0 0, .bool d.trip.dead, .int .i64 d.trip.fuse, .int .i64 d.trip.done] 148 (0, 0) = w2 at h2 s2 ⊢
    refine done_spec (by exact (Dk.trip_ok ok).2.2.2.2) h2 ?_
    intro w3 h3 s3
    have er : d.flush.1 = ({ d.trip with safe := d.now, ws := [] } : Dk).tick := by rw [ef]; rfl
    have := hK w3 ⟨Dk.flush_ok ok, sv, .slice none 0 0, by rw [er]; exact h3⟩ (hs.trans (s2.trans s3))
    rw [ef] at this
    exact this
theorem RCut_spec {n : Int} (hn : n ≤ 9223372036854775807) (h : RefAt w b d) (hK : ∀ w1, RefAt w1 b (d.cut n) → Step b w w1 → K (.tuple #[]) w1) : CALL Try.prog 111 #[ptr b, i64v n] w K := by
  obtain ⟨ok, sv, pv, h⟩ := h
  apply call_ref08_Disk_Cut
  unfold B_ref08_Disk_Cut
  try simp only [X_nilS, X_field_148_2, X_field_148_3]
  refine X_loadL agg_4 h.blk rfl ?_
  simp only [X_not, condS_bool]
  have ok' := Dk.cut_ok ok hn
  by_cases hd : d.dead = true
  · have e : (!d.dead) = false := by rw [hd]; rfl
    simp only [e, Bool.false_eq_true, if_false]
    refine hK w ⟨ok', sv, pv, ?_⟩ Step.refl
    unfold Dk.cut
    rw [if_pos hd]
    exact h
  · have e : (!d.dead) = true := by simpa using hd
    simp only [e, if_true, X_max]
    refine XU_store info_3 sz_3 rfl h.blk (Nat.le_of_ble_eq_true rfl) (by show ¬ ((0 : Nat) ≤ 3 ∧ 3 < 0); omega) ?_
    obtain ⟨h1, s1⟩ := h.put (cs' := (#[sv, pv, .bool d.dead, .int .i64 d.fuse, .int .i64 d.done] : Array Value).setIfInBounds (0 + 3) (.int .i64 (max n (-1)))) { d with fuse := max n (-1) } rfl rfl rfl
    refine hK _ ⟨ok', sv, pv, ?_⟩ s1
    have : d.cut n = { d with fuse := max n (-1) } := by
      unfold Dk.cut
      rw [if_neg hd]
    rw [this]; exact h1
theorem now_spec {k : Nat} (h : RefAt w b d) (hw : d.ws.length ≤ 1000000) (hk : k < d.safe.length) (hK : K (.string (str (d.now.getD k []))) w) : CALL Try.prog 144 #[ptr b, i64v (k : Int)] w K := by
  obtain ⟨ok, sv, pv, h⟩ := h
  obtain ⟨ap, cp, ep⟩ := own_sl h.ws
  apply call_ref08_Disk_now
  unfold B_ref08_Disk_now
  try simp only [X_nilS, X_field_148_1]
  refine X_loadL agg_146 h.blk rfl ?_
  rw [ep, X_len_146, X_sub, ← ep]
  rw [w64 (by omega) (by omega)]
  refine loopE (fun ρ wr => wr = w ∧ ∃ i : Nat, i ≤ d.ws.length ∧ (∀ j (hj : j < d.ws.length), i ≤ j → d.ws[j].1 ≠ k) ∧ ρ 5 = .int .i64 ((i : Int) - 1) ∧ ρ 0 = ptr b ∧ ρ 1 = .int .i64 (k : Int))
    (fun ρ wr => match ρ 5 with | .int _ s => (s + 1).toNat | _ => 0)
    (fun ρ wr => wr = w ∧ (∀ p ∈ d.ws, p.1 ≠ k) ∧ ρ 0 = ptr b ∧ ρ 1 = .int .i64 (k : Int)) ?_ ?_ ?_
  · exact ⟨rfl, d.ws.length, Nat.le_refl _, fun j hj hj' => absurd hj' (by omega), rfl, rfl, rfl⟩
  · rintro J hJ ρ wr ⟨rfl, i, hi, hno, h5, h0, h1⟩
    rw [h5, X_geq, condS_bool]
    by_cases hin : i = 0
    · rw [if_neg (by simp; omega)]
      refine hJ _ _ ⟨rfl, fun p hp => ?_, h0, h1⟩
      obtain ⟨j, hj, rfl⟩ := List.mem_iff_getElem.1 hp
      exact hno j hj (by omega)
    rw [if_pos (by simp; omega)]
    obtain ⟨m, rfl⟩ : ∃ m, i = m + 1 := ⟨i - 1, by omega⟩
    have em : ((m + 1 : Nat) : Int) - 1 = (m : Int) := by omega
    have hm : m < d.ws.length := by omega
    obtain ⟨g, cap, cur, hpv, hg, hc1, hc2, _, hixp⟩ := h.ws_at hm
    rw [em, h0, h1]
    try simp only [X_nilS, X_field_148_1]
    refine X_loadL agg_146 h.blk rfl ?_
    refine X_of (hixp _) ?_
    try simp only [X_field_200_0]
    refine X_loadB agg_3 hg hc1 ?_
    rw [X_eql, condS_bool]
    by_cases hmk : d.ws[m].1 = k
    · rw [if_pos (by simp [hmk])]
      try simp only [X_nilS, X_field_148_1]
      refine X_loadL agg_146 h.blk rfl ?_
      refine X_of (hixp _) ?_
      try simp only [X_field_200_1]
      refine X_loadB agg_9 hg hc2 ?_
      have e : d.now.getD k [] = d.ws[m].2 := by
        rw [List.getD_eq_getElem?_getD]
        show ((putAll d.safe d.ws)[k]?).getD [] = _
        rw [putAll_last hm hmk hk (fun j hj hmj => hno j hj (by omega))]
        rfl
      rw [e] at hK
      exact hK
    · rw [if_neg (by simp; omega)]
      rw [X_sub, w64 (by omega) (by omega)]
      show _ ∧ _
      refine ⟨⟨rfl, m, by omega, ?_, rfl, h0, h1⟩, ?_⟩
      · intro j hj hmj
        rcases Nat.eq_or_lt_of_le hmj with e | e
        · subst e; exact hmk
        · exact hno j hj (by omega)
      · show ((m : Int) - 1 + 1).toNat < _
        omega
  · rintro ρ wr ⟨rfl, hno, h0, h1⟩
    rw [h0, h1]
    try simp only [X_nilS, X_field_148_0]
    refine X_loadL agg_66 h.blk rfl ?_
    obtain ⟨g2, cap2, cur2, hsv, hg2, hfit, hold, hixs, hput⟩ := h.safe_at hk
    refine X_of (hixs _) ?_
    refine X_loadB agg_9 hg2 hold ?_
    have e : d.now.getD k [] = d.safe[k] := by
      rw [List.getD_eq_getElem?_getD]
      show ((putAll d.safe d.ws)[k]?).getD [] = _
      rw [putAll_none hno, List.getElem?_eq_getElem hk]
      rfl
    rw [e] at hK
    exact hK
theorem RRead_spec {at_ : Int} (h : RefAt w b d) (hw : d.ws.length ≤ 1000000) (hK : K (.tuple #[.string (str (d.read at_).1), i64v (d.read at_).2]) w) : CALL Try.prog 113 #[ptr b, i64v at_] w K := by
  have hd0 := h
  obtain ⟨ok, sv, pv, h⟩ := h
  obtain ⟨an, cn, en⟩ := own_sl h.safe
  apply call_ref08_Disk_Read
  unfold B_ref08_Disk_Read
  simp only [X_lss, gstep_bool]
  have bad : at_ < 0 ∨ (d.safe.length : Int) ≤ at_ → K (.tuple #[.string { data := #[] }, i64v 1]) w := by
    intro hbad
    have e : d.read at_ = ([], 1) := by unfold Dk.read; rw [if_pos hbad]
    rw [e] at hK
    exact hK
  by_cases hneg : at_ < 0
  · have e1 : decide (at_ < 0) = true := by simpa using hneg
    simp only [e1, Bool.true_eq_false, if_false, X_pick, if_true, gstep_bool, condS_bool]
    exact bad (.inl hneg)
  have e1 : decide (at_ < 0) = false := by simpa using hneg
  simp only [e1, if_true, X_nilS, X_field_148_0, X_field_148_2]
  refine X_loadL agg_66 h.blk rfl ?_
  rw [en]
  simp only [X_len_66, X_geq, X_pick, condS_bool, Bool.false_eq_true, if_false]
  by_cases hge : (d.safe.length : Int) ≤ at_
  · rw [if_pos (by simpa using hge)]
    exact bad (.inr hge)
  rw [if_neg (by simpa using hge)]
  have hgood : ¬ (at_ < 0 ∨ (d.safe.length : Int) ≤ at_) := by omega
  refine X_loadL agg_4 h.blk rfl ?_
  rw [condS_bool]
  by_cases hd : d.dead = true
  · rw [if_pos hd]
    have e : d.read at_ = ([], 6) := by unfold Dk.read; rw [if_neg hgood, if_pos hd]
    rw [e] at hK
    exact hK
  rw [if_neg hd]
  obtain ⟨i, rfl⟩ : ∃ i : Nat, at_ = (i : Int) := ⟨at_.toNat, by omega⟩
  refine now_spec hd0 hw (by omega) ?_
  have e : d.read (i : Int) = (d.now.getD i [], 0) := by unfold Dk.read; rw [if_neg hgood, if_neg hd]; rfl
  rw [e] at hK
  exact hK
end
end Go.Proofs.Ytggggfcgnkllgaa
