/- cellaragelaw08's reference disk: crash, new. -/
import Derived.Test.YtggggfcgnkllgaaRef2
set_option linter.unusedSimpArgs false
set_option linter.unusedVariables false
namespace Go.Proofs.Ytggggfcgnkllgaa
open Go Go.Sh Go.RowKit
attribute [local irreducible] X XU XP XR CALL loopS resC closS
section
variable {w : World} {b : Nat} {d : Dk} {K : Value → World → Prop}
theorem RCrash_spec {v : Value} {fates : List Int} (h : RefAt w b d) (hw : d.ws.length ≤ 1000000) (hf : Row fI w v fates) (hnf : 0 < fates.length → ∀ k, v.ownBlock = some k → ¬ foot w b k)
    (hK : ∀ w1, RefAt w1 b (d.crash fates) → Step b w w1 → K (.tuple #[]) w1) : CALL Try.prog 112 #[ptr b, v] w K := by
  obtain ⟨ok, sv, pv, h⟩ := h
  obtain ⟨af, cf, ef⟩ := hf.slice
  apply call_ref08_Disk_Crash
  unfold B_ref08_Disk_Crash
  refine loopE (fun ρ wr => ∃ i : Nat, i ≤ d.ws.length ∧ RAt wr b { d with safe := tears fates 0 d.safe (d.ws.take i) } sv pv ∧ Step b w wr ∧ ρ 4 = .int .i64 (i : Nat) ∧ ρ 0 = ptr b ∧ ρ 1 = v)
    (fun ρ wr => match ρ 4 with | .int _ s => (d.ws.length - s).toNat | _ => 0)
    (fun ρ wr => RAt wr b { d with safe := tears fates 0 d.safe d.ws } sv pv ∧ Step b w wr ∧ ρ 0 = ptr b) ?_ ?_ ?_
  · refine ⟨0, Nat.zero_le _, ?_, Step.refl, rfl, rfl, rfl⟩
    have : ({ d with safe := tears fates 0 d.safe (d.ws.take 0) } : Dk) = d := by rw [List.take_zero]; rfl
    rw [this]; exact h
  · rintro JE hJE ρ wr ⟨i, hi, hr, hs, h4, h0, h1⟩
    obtain ⟨ap, cp, ep⟩ := own_sl hr.ws
    have ewl : ({ d with safe := tears fates 0 d.safe (d.ws.take i) } : Dk).ws.length = d.ws.length := rfl
    rw [ewl] at ep
    rw [h4, h0]
    try simp only [X_nilS, X_field_148_1]
    refine X_loadL agg_146 hr.blk rfl ?_
    rw [ep, X_len_146, X_lss, condS_bool, ← ep]
    by_cases hin : i = d.ws.length
    · rw [if_neg (by simp; omega)]
      refine hJE _ _ ⟨?_, hs, h0⟩
      rw [hin, List.take_length] at hr
      exact hr
    rw [if_pos (by simp; omega)]
    have hlt : i < d.ws.length := by omega
    have hp := ok.2.1 _ (List.getElem_mem hlt)
    have hlen : ({ d with safe := tears fates 0 d.safe (d.ws.take i) } : Dk).safe.length = d.safe.length := tears_length _ _ _ _
    have hsi : d.ws[i].1 < ({ d with safe := tears fates 0 d.safe (d.ws.take i) } : Dk).safe.length := by rw [hlen]; exact hp.1
    have h128 : ∀ s ∈ tears fates 0 d.safe (d.ws.take i), s.length = 128 := tears_128 fates 0 ok.1 (fun p hp => ok.2.1 p (List.mem_of_mem_take hp))
    refine joinS_of (fun ρ' w' => RAt w' b { d with safe := tears fates 0 d.safe (d.ws.take i) } sv pv ∧ Step b w w' ∧ ρ' 4 = .int .i64 (i : Nat) ∧ ρ' 5 = .int .i64 (fateAt fates i : Nat) ∧ ρ' 0 = ptr b ∧ ρ' 1 = v) ?_ ?_
    · rintro ρ' w' ⟨hr', hs', g4, g5, g0, g1⟩
      rw [g4, g5, g0]
      try simp only [X_nilS, X_field_148_1]
      refine X_loadL agg_146 hr'.blk rfl ?_
      obtain ⟨g, cap, cur, hpv, hg, hc1, hc2, hc3, hixp⟩ := hr'.ws_at hlt
      refine X_of (hixp _) ?_
      refine X_of (run_loadAgg (l := pcs d.ws[i]) Try.underlying200 agg_200 info_200 hg (by rw [sz_200]; exact hc3) (by rw [sz_200]; rfl)) ?_
      refine X_alloc zero_200 ?_
      have hq := newB_get w' #[(.int .i64 0), (.string { data := #[] })] 200
      have hxq := newB_ext w' #[(.int .i64 0), (.string { data := #[] })] 200
      show XU _ _ (newB w' #[(.int .i64 0), (.string { data := #[] })] 200) _
      generalize newB w' #[(.int .i64 0), (.string { data := #[] })] 200 = w2 at hq hxq ⊢
      refine XU_storeAgg (l := pcs d.ws[i]) info_200 hq (by rw [sz_200]; rfl) (by rw [sz_200]; rfl) (pcs_one _) ?_
      have hq2 := setAt_same (cs := (pcs d.ws[i]).toArray) (T := 200) (fr := (0, 0)) (lt_of_blk hq)
      have hx2 : Ext w' (setAt w2 w'.heap.size (pcs d.ws[i]).toArray 200 (0, 0)) := Ext.seq hxq (setAt_keep _ _ _ _ _) (fun j hj => by omega)
      generalize setAt w2 w'.heap.size (pcs d.ws[i]).toArray 200 (0, 0) = w3 at hq2 hx2 ⊢
      refine ⟨Ext, Ext.frame, ?_⟩
      have hxd : Ext w' (drewW w3) := hx2.trans (Keep.drew _ _)
      have hrd := hr'.ext hxd
      have hqd : (drewW w3).heap[w'.heap.size]? = some (.cells (pcs d.ws[i]).toArray 200 (0, 0)) := hq2
      obtain ⟨g2, cap2, cur2, hsv, hg2, hfit, hold, hixs, hput⟩ := hrd.safe_at hsi
      have hn := fateAt_le fates i
      have hl1 : (({ d with safe := tears fates 0 d.safe (d.ws.take i) } : Dk).safe[d.ws[i].1]'hsi).length = 128 := h128 _ (List.getElem_mem hsi)
      obtain ⟨h8, s8⟩ := hput (d.ws[i].2.take (fateAt fates i) ++ (({ d with safe := tears fates 0 d.safe (d.ws.take i) } : Dk).safe[d.ws[i].1]'hsi).drop (fateAt fates i))
      try simp only [XP_nilS, XP_field_148_0, XP_field_148_1, XP_field_200_0, XP_field_200_1, Nat.zero_add]
      refine XR_ok Ext.frame (fun w' k => run_loadAt agg_66 (blk_get (k.get hrd.blk) (v := sv) rfl)) ?_
      refine XR_ok Ext.frame (fun w' k => run_loadAt agg_3 (blk_get (k.get hqd) (v := .int .i64 (d.ws[i].1 : Int)) rfl)) ?_
      refine XR_ok Ext.frame (fun w' k => run_loadAt agg_9 (blk_get (k.get hqd) (v := .string (str d.ws[i].2)) rfl)) ?_
      refine XP_of (fun w => run_cutstr_hi Try.underlying9 _ .i64 _ (by omega) w) ?_
      try simp only [XP_nilS, XP_field_148_0]
      refine XR_ok Ext.frame (fun w' k => run_loadAt agg_66 (blk_get (k.get hrd.blk) (v := sv) rfl)) ?_
      refine XR_ok Ext.frame (fun w' k => run_loadAt agg_3 (blk_get (k.get hqd) (v := .int .i64 (d.ws[i].1 : Int)) rfl)) ?_
      refine XP_of hixs ?_
      refine XR_ok Ext.frame (fun w' k => run_loadAt agg_9 (blk_get (k.get hg2) hold)) ?_
      refine XP_of (fun w => run_cutstr_lo Try.underlying9 _ .i64 _ (by omega) w) ?_
      refine XP_of (fun w => run_string_add 9 _ _ (by rw [str_size, str_size, List.length_take, List.length_drop]; omega) w) ?_
      rw [str_append]
      refine XP_of hixs ?_
      refine XU_store info_9 sz_9 rfl hg2 hfit (by show ¬ ((0 : Nat) ≤ _ ∧ _ < 0); omega) ?_
      rw [X_add]
      show _ ∧ _
      refine ⟨⟨i + 1, by omega, ?_, hs'.trans ((Step.ext hxd (lt_of_blk hr'.blk)).trans s8), next64 (n := 1000000) (by decide) (by omega), g0, g1⟩, ?_⟩
      · have e : tears fates 0 d.safe (d.ws.take (i + 1)) = (tears fates 0 d.safe (d.ws.take i)).set d.ws[i].1 (d.ws[i].2.take (fateAt fates i) ++ ((tears fates 0 d.safe (d.ws.take i))[d.ws[i].1]'hsi).drop (fateAt fates i)) := by
          rw [tears_succ fates hlt]
          unfold tearAt
          rw [List.getD_eq_getElem?_getD, List.getElem?_eq_getElem hsi]
          rfl
        rw [e]
        exact h8
      · show (_ - IntKind.i64.wrap _).toNat < _
        rw [w64 (by omega) (by omega)]
        first | omega | (show _ < (_ : Int).toNat; omega)
    intro J hJ
    have hff : Row fI wr v fates := row_keep hf hs.keep hnf
    rw [h1, ef]
    simp only [X_len_79, X_lss, condS_bool]
    rw [← ef]
    by_cases hfi : i < fates.length
    · rw [if_pos (by simp; omega)]
      obtain ⟨a, hix, hcell⟩ := hff.at Try.underlying79 info_3 sz_3 (k := .i64) i rfl hfi
      refine X_of (hix _) ?_
      refine X_load agg_3 hcell ?_
      simp only [X_min, X_max]
      have en : max 0 (min fates[i] 128) = (fateAt fates i : Int) := by
        unfold fateAt
        rw [List.getElem?_eq_getElem hfi]
        show _ = (((max 0 (min fates[i] 128)).toNat : Nat) : Int)
        omega
      rw [en]
      exact hJ _ _ ⟨hr, hs, h4, rfl, h0, h1⟩
    · rw [if_neg (by simp; omega)]
      have ef0 : fateAt fates i = 0 := by unfold fateAt; rw [List.getElem?_eq_none (by omega)]
      refine hJ _ _ ⟨hr, hs, h4, ?_, h0, h1⟩
      rw [ef0]; rfl
  · rintro ρ wr ⟨hr, hs, h0⟩
    rw [h0]
    try simp only [X_nilS, X_field_148_1, X_field_148_2, X_field_148_3]
    refine XU_store info_146 sz_146 rfl hr.blk (Nat.le_of_ble_eq_true rfl) (by show ¬ ((0 : Nat) ≤ 0 + 1 ∧ 0 + 1 < 0); omega) ?_
    obtain ⟨h2, s2⟩ := hr.clear
    show XU _ _ (setAt wr b #[sv, .slice none 0 0, .bool d.dead, .int .i64 d.fuse, .int .i64 d.done] 148 (0, 0)) _
    generalize setAt wr b #[sv, .slice none 0 0, .bool d.dead, .int .i64 d.fuse, .int .i64 d.done] 148 (0, 0) = w2 at h2 s2 ⊢
    refine XU_store info_4 sz_4 rfl h2.blk (Nat.le_of_ble_eq_true rfl) (by show ¬ ((0 : Nat) ≤ 0 + 2 ∧ 0 + 2 < 0); omega) ?_
    obtain ⟨h3, s3⟩ := h2.put (cs' := (#[sv, .slice none 0 0, .bool d.dead, .int .i64 d.fuse, .int .i64 d.done] : Array Value).setIfInBounds (0 + 2) (.bool false)) ⟨tears fates 0 d.safe d.ws, [], false, d.fuse, d.done⟩ rfl rfl rfl
    generalize setAt w2 b _ 148 (0, 0) = w3 at h3 s3 ⊢
    refine XU_store info_3 sz_3 rfl h3.blk (Nat.le_of_ble_eq_true rfl) (by show ¬ ((0 : Nat) ≤ 0 + 3 ∧ 0 + 3 < 0); omega) ?_
    obtain ⟨h4, s4⟩ := h3.put (cs' := (#[sv, .slice none 0 0, .bool false, .int .i64 d.fuse, .int .i64 d.done] : Array Value).setIfInBounds (0 + 3) (.int .i64 (-1))) ⟨tears fates 0 d.safe d.ws, [], false, -1, d.done⟩ rfl rfl rfl
    exact hK _ ⟨Dk.crash_ok ok fates, sv, _, h4⟩ (hs.trans (s2.trans (s3.trans s4)))
theorem RNew_disk {n : Int} (hbad : n < 0 ∨ 16384 < n → K (.tuple #[.pointer none, i64v 1]) w)
    (hgood : ∀ m : Nat, n = m → m ≤ 16384 → ∀ b w1, Ext w w1 → (∀ k, foot w1 b k → w.heap.size ≤ k) → RefAt w1 b (Dk.new m) → K (.tuple #[ptr b, i64v 0]) w1) : CALL Try.prog 80 #[i64v n] w K := by
  apply call_ref08_New
  unfold B_ref08_New
  simp only [X_lss, gstep_bool, X_gtr, X_pick, condS_bool]
  by_cases hneg : n < 0
  · have e1 : decide (n < 0) = true := by simpa using hneg
    simp only [e1, Bool.true_eq_false, if_false, X_pick, if_true, gstep_bool, condS_bool]
    exact hbad (.inl hneg)
  have e1 : decide (n < 0) = false := by simpa using hneg
  simp only [e1, if_true, X_gtr, X_pick, Bool.false_eq_true, if_false, condS_bool]
  by_cases hbig : 16384 < n
  · rw [if_pos (by simpa using hbig)]
    exact hbad (.inr hbig)
  rw [if_neg (by simpa using hbig)]
  obtain ⟨m, rfl⟩ : ∃ m : Nat, n = (m : Int) := ⟨n.toNat, by omega⟩
  have hm : m ≤ 16384 := by omega
  refine X_make Try.underlying66 el_9 m m rfl rfl (Nat.le_refl _) (by omega) (by omega) ?_
  have hcells : madeCells (Value.string { data := #[] }).cells (m * 1) = (strs (List.replicate m [])).toArray := by
    apply Array.ext'
    have : (madeCells (Value.string { data := #[] }).cells m).toList = List.replicate m (.string { data := #[] }) := made_one _ _
    rw [Nat.mul_one, this]
    simp [strs, str]
  rw [hcells]
  have hg1 := newB_get w (strs (List.replicate m [])).toArray 9
  have hx1 := newB_ext w (strs (List.replicate m [])).toArray 9
  have hs1 := newB_size w (strs (List.replicate m [])).toArray 9
  generalize newB w (strs (List.replicate m [])).toArray 9 = w1 at hg1 hx1 hs1 ⊢
  refine X_of (run_build_148 _ _ _ _) ?_
  refine X_box ?_
  have hb := newB_get w1 (Value.agg #[.slice (some ⟨w.heap.size, 0, none⟩) m m, .slice none 0 0, .bool false, .int .i64 (-1), .int .i64 0]).cells 148
  have hxb := newB_ext w1 (Value.agg #[.slice (some ⟨w.heap.size, 0, none⟩) m m, .slice none 0 0, .bool false, .int .i64 (-1), .int .i64 0]).cells 148
  have hsb := newB_size w1 (Value.agg #[.slice (some ⟨w.heap.size, 0, none⟩) m m, .slice none 0 0, .bool false, .int .i64 (-1), .int .i64 0]).cells 148
  have hown : ∀ (w' : World) (l : List (List UInt8)), l.length = m → w'.heap[w.heap.size]? = some (.cells (strs l).toArray 9 (0, 0)) → w'.ownsRow 0 9 1 (.slice (some ⟨w.heap.size, 0, none⟩) m m) m (strs l) := fun w' l hl hh =>
    ⟨by simp [strs, hl], .inr ⟨w.heap.size, m, _, rfl, Nat.zero_le _, hh, Nat.le_refl _, by simp only [maxLen]; omega, by simp [strs, hl], List.take_of_length_le (by simp [strs, hl])⟩⟩
  have hg2 := hxb.get hg1
  generalize newB w1 (Value.agg #[.slice (some ⟨w.heap.size, 0, none⟩) m m, .slice none 0 0, .bool false, .int .i64 (-1), .int .i64 0]).cells 148 = w2 at hb hxb hg2 hsb ⊢
  have hx2 := hx1.trans hxb
  have h0 : RAt w2 w1.heap.size ⟨List.replicate m [], [], false, -1, 0⟩ (.slice (some ⟨w.heap.size, 0, none⟩) m m) (.slice none 0 0) := by
    refine ⟨hb, ?_, ⟨rfl, .inl ⟨rfl, rfl⟩⟩⟩
    show World.ownsRow _ 0 9 1 _ (List.replicate m ([] : List UInt8)).length (strs (List.replicate m []))
    rw [List.length_replicate]
    exact hown _ _ (by simp) hg2
  generalize hbe : w1.heap.size = b at h0 ⊢
  have low0 : ∀ (w' : World) (d : Dk), RAt w' b d (.slice (some ⟨w.heap.size, 0, none⟩) m m) (.slice none 0 0) → ∀ k, foot w' b k → w.heap.size ≤ k := fun w' d h k hk => by
    rcases h.foot.1 hk with h' | h' | h'
    · omega
    · have : w.heap.size = k := by simpa [Value.ownBlock] using h'
      omega
    · cases h'
  refine loopE (fun ρ wr => ∃ i : Nat, i ≤ m ∧ RAt wr b ⟨List.replicate i (List.replicate 128 0) ++ List.replicate (m - i) [], [], false, -1, 0⟩ (.slice (some ⟨w.heap.size, 0, none⟩) m m) (.slice none 0 0) ∧ Ext w wr ∧ ρ 5 = .int .i64 (i : Nat) ∧ ρ 4 = ptr b ∧ ρ 0 = .int .i64 (m : Int))
    (fun ρ wr => match ρ 5 with | .int _ s => (m - s).toNat | _ => 0)
    (fun ρ wr => RAt wr b (Dk.new m) (.slice (some ⟨w.heap.size, 0, none⟩) m m) (.slice none 0 0) ∧ Ext w wr ∧ ρ 4 = ptr b) ?_ ?_ ?_
  · exact ⟨0, Nat.zero_le _, by simpa using h0, hx2, rfl, rfl, rfl⟩
  · rintro J hJ ρ wr ⟨i, hi, hr, hxr, h5, h4, h0'⟩
    rw [h5, h4, h0', X_lss, condS_bool]
    by_cases hin : i = m
    · rw [if_neg (by simp; omega)]
      refine hJ _ _ ⟨?_, hxr, h4⟩
      subst hin
      rw [Nat.sub_self, List.replicate_zero, List.append_nil] at hr
      exact hr
    rw [if_pos (by simp; omega)]
    refine ⟨Ext, Ext.frame, ?_⟩
    have hrd := hr.ext (Keep.drew (fun _ => False) wr)
    try simp only [XP_nilS, XP_field_148_0]
    refine XR_ok Ext.frame (fun w' k => run_loadAt agg_66 (blk_get (k.get hrd.blk) (v := .slice (some ⟨w.heap.size, 0, none⟩) m m) rfl)) ?_
    refine pad_spec (l := []) (by decide) ?_
    intro w3 hx3
    refine ⟨hx3, ?_⟩
    have hr3 := hrd.ext hx3
    have hsi : i < (⟨List.replicate i (List.replicate 128 0) ++ List.replicate (m - i) [], [], false, -1, 0⟩ : Dk).safe.length := by simp; omega
    obtain ⟨g2, cap2, cur2, hsv, hg2, hfit, hold, hixs, hput⟩ := hr3.safe_at hsi
    have hg2e : w.heap.size = g2 := by
      injection hsv with e1 _ _
      injection e1 with e1
      injection e1
    subst hg2e
    refine XP_of hixs ?_
    refine XU_store info_9 sz_9 rfl hg2 hfit (by show ¬ ((0 : Nat) ≤ _ ∧ _ < 0); omega) ?_
    obtain ⟨h8, s8⟩ := hput (padB [])
    rw [X_add]
    show _ ∧ _
    have hx03 : Ext w w3 := (hxr.trans (Keep.drew _ _)).trans hx3
    refine ⟨⟨i + 1, by omega, ?_, s8.out hx03 (low0 _ _ hr3), next64 (n := 16384) (by decide) (by omega), h4, h0'⟩, ?_⟩
    · have e : (List.replicate i (List.replicate 128 (0 : UInt8)) ++ List.replicate (m - i) []).set i (padB []) = List.replicate (i + 1) (List.replicate 128 0) ++ List.replicate (m - (i + 1)) [] := by
        rw [show m - i = (m - (i + 1)) + 1 by omega, List.replicate_succ (n := m - (i + 1)), List.set_append_right _ _ (by simp), List.length_replicate, Nat.sub_self, List.set_cons_zero, List.replicate_succ' (n := i)]
        simp [padB]
      rw [← e]
      exact h8
    · show (_ - IntKind.i64.wrap _).toNat < _
      rw [w64 (by omega) (by omega)]
      first | omega | (show _ < (_ : Int).toNat; omega)
  · rintro ρ wr ⟨hr, hxr, h4⟩
    rw [h4]
    exact hgood m rfl hm b wr hxr (low0 _ _ hr) ⟨Dk.new_ok hm, _, _, hr⟩
end
end Go.Proofs.Ytggggfcgnkllgaa
