/- Part 5 of what the law is proved with: Disk5 T8 Ref1 Ref2 Ref3 Acts Kit2 Puts12. -/
import Derived.Test.YtggggfcgnkllgaaQCU4
section
/- cellarage/disk: crash, read, new, copy. -/
set_option linter.unusedSimpArgs false
set_option linter.unusedVariables false
namespace Go.Proofs.Ytggggfcgnkllgaa
open Go Go.Sh Go.RowKit
attribute [local irreducible] X XU XP XR CALL loopS resC closS

/-- Whole numbers, as cells. -/
abbrev fI : Int → Value := fun n => .int .i64 n
theorem row_keep {α : Type} {f : α → Value} {w w' : World} {v : Value} {xs : List α} {D : Nat → Prop} (h : Row f w v xs) (k : Keep D w w') (hd : 0 < xs.length → ∀ b, v.ownBlock = some b → ¬ D b) : Row f w' v xs := by
  obtain ⟨a, c, rfl, h1, h2, h3⟩ := h
  refine ⟨a, c, rfl, h1, h2, fun hn => ?_⟩
  obtain ⟨ad, rfl, hc⟩ := h3 hn
  refine ⟨ad, rfl, fun j x hj => k.cell ?_ (hc j x hj)⟩
  have : (ad.add j).block = ad.block := by unfold Addr.add; split <;> rfl
  rw [this]
  exact hd hn _ rfl
theorem tears_succ (fates : List Int) {l : List (List UInt8)} {ws : List (Nat × List UInt8)} {i : Nat} (h : i < ws.length) : tears fates 0 l (ws.take (i + 1)) = tearAt (tears fates 0 l (ws.take i)) ws[i] (fateAt fates i) := by
  rw [List.take_succ_eq_append_getElem h, tears_append, List.length_take, Nat.min_eq_left (by omega), Nat.zero_add]
  rfl
section
variable {w : World} {b : Nat} {d : Dk} {K : Value → World → Prop}
theorem Crash_spec {v : Value} {fates : List Int} (h : DiskAt w b d) (hf : Row fI w v fates) (hnf : 0 < fates.length → ∀ k, v.ownBlock = some k → ¬ foot w b k)
    (hK : ∀ w1, DiskAt w1 b (d.crash fates) → Step b w w1 → K (.tuple #[]) w1) : CALL Try.prog 72 #[ptr b, v] w K := by
  obtain ⟨ok, nv, sv, wv, h⟩ := h
  obtain ⟨af, cf, ef⟩ := hf.slice
  apply call_disk_Disk_Crash
  unfold B_disk_Disk_Crash
  simp only [X_eql_nil_74, Option.isNone_some, condS_bool, Bool.false_eq_true, if_false, X_nilS, X_field_183_2]
  refine X_loadL agg_181 h.blk rfl ?_
  obtain ⟨aw, cw, ewv⟩ := own_sl h.ws
  rw [ewv, X_len_181, ← ewv]
  have hw128 : ∀ p ∈ d.ws, p.2.length = 128 := fun p hp => (ok.2.1 p hp).2
  have hbd : d.ws.length ≤ 9223372036854775807 := own_max h.ws
  refine loopE (fun ρ wr => ∃ i : Nat, i ≤ d.ws.length ∧ RawAt wr b { Dk.raw d with safe := tears fates 0 d.safe (d.ws.take i) } nv sv wv ∧ Step b w wr ∧
      ρ 14 = .int .i64 (i : Nat) ∧ ρ 13 = .int .i64 (d.ws.length : Nat) ∧ ρ 12 = wv ∧ ρ 0 = ptr b ∧ ρ 1 = v)
    (fun ρ wr => match ρ 14 with | .int _ s => (d.ws.length - s).toNat | _ => 0)
    (fun ρ wr => RawAt wr b { Dk.raw d with safe := tears fates 0 d.safe d.ws } nv sv wv ∧ Step b w wr ∧ ρ 0 = ptr b) ?_ ?_ ?_
  · refine ⟨0, Nat.zero_le _, ?_, Step.refl, rfl, rfl, rfl, rfl, rfl⟩
    have : ({ Dk.raw d with safe := tears fates 0 d.safe (d.ws.take 0) } : Raw) = Dk.raw d := by
      rw [List.take_zero]
      rfl
    rw [this]; exact h
  · rintro JE hJE ρ wr ⟨i, hi, hr, hs, h14, h13, h12, h0, h1⟩
    rw [h14, h13, X_lss, condS_bool]
    by_cases hin : i = d.ws.length
    · rw [if_neg (by simp; omega)]
      refine hJE _ _ ⟨?_, hs, h0⟩
      rw [hin, List.take_length] at hr
      exact hr
    rw [if_pos (by simp; omega)]
    have hlt : i < d.ws.length := by omega
    have hp128 := hw128 _ (List.getElem_mem hlt)
    have hpi := (ok.2.1 _ (List.getElem_mem hlt)).1
    have hlen : ({ Dk.raw d with safe := tears fates 0 d.safe (d.ws.take i) } : Raw).safe.length = d.safe.length := tears_length _ _ _ _
    have hsi : d.ws[i].1 < ({ Dk.raw d with safe := tears fates 0 d.safe (d.ws.take i) } : Raw).safe.length := by rw [hlen]; exact hpi
    refine joinS_of (fun ρ' w' => RawAt w' b { Dk.raw d with safe := tears fates 0 d.safe (d.ws.take (i + 1)) } nv sv wv ∧ Step b w w' ∧
      ρ' 14 = .int .i64 (i : Nat) ∧ ρ' 13 = .int .i64 (d.ws.length : Nat) ∧ ρ' 12 = wv ∧ ρ' 0 = ptr b ∧ ρ' 1 = v) ?_ ?_
    · rintro ρ' w' ⟨hr', hs', g14, g13, g12, g0, g1⟩
      rw [g14, X_add]
      show _ ∧ _
      refine ⟨⟨i + 1, by omega, hr', hs', next64 (n := d.ws.length - 1) (by omega) (by omega), g13, g12, g0, g1⟩, ?_⟩
      show (_ - IntKind.i64.wrap _).toNat < _
      rw [w64 (by omega) (by omega)]
      first | omega | (show _ < (_ : Int).toNat; omega)
    intro J hJ
    obtain ⟨g, cap, cur, hwv, hg, hc⟩ := hr.ws_at hlt
    have hc' : (cur.toList.drop (i * 129)).take 129 = wcs d.ws[i] := hc
    have hwv' : wv = .slice (some ⟨g, 0, none⟩) d.ws.length cap := hwv
    rw [h12]
    have hixw : ∀ w, (Instr.indexAt 181 wv (.int .i64 (i : Int))).run Try.prog w = .ok (.pointer (some ⟨g, i * 129, none⟩)) w := fun w => by
      rw [hwv', ix Try.underlying181 info_186 i rfl hlt w, sz_186, add_plain, Nat.zero_add]
    refine X_of (hixw _) ?_
    refine X_of (wcs_load hg hc' hp128) ?_
    refine X_alloc zero_186 ?_
    have hq := newB_get wr ([Value.int .i64 0] ++ List.replicate 128 (Value.int .u8 0)).toArray 186
    have hxq := newB_ext wr ([Value.int .i64 0] ++ List.replicate 128 (Value.int .u8 0)).toArray 186
    show XU _ _ (newB wr ([Value.int .i64 0] ++ List.replicate 128 (Value.int .u8 0)).toArray 186) _
    generalize newB wr ([Value.int .i64 0] ++ List.replicate 128 (Value.int .u8 0)).toArray 186 = w2 at hq hxq ⊢
    have hwl : (wcs d.ws[i]).length = 129 := by simp [wcs, hp128]
    refine XU_storeAgg info_186 hq (by rw [sz_186]; simp) (by rw [sz_186, hwl]) (wcs_one _) ?_
    have hq2 := setAt_same (cs := (wcs d.ws[i]).toArray) (T := 186) (fr := (0, 0)) (lt_of_blk hq)
    have hx2 : Ext wr (setAt w2 wr.heap.size (wcs d.ws[i]).toArray 186 (0, 0)) := Ext.seq hxq (setAt_keep _ _ _ _ _) (fun j hj => by omega)
    generalize setAt w2 wr.heap.size (wcs d.ws[i]).toArray 186 (0, 0) = w3 at hq2 hx2 ⊢
    have hr3 := hr.ext hx2
    have hs3 := hs.trans (Step.ext hx2 (lt_of_blk hr.blk))
    have hff : Row fI w3 v fates := row_keep hf hs3.keep hnf
    rw [h1, ef]
    simp only [X_len_79, X_lss, condS_bool]
    rw [← ef]
    by_cases hfi : i < fates.length
    · rw [if_pos (by simp; omega)]
      obtain ⟨a, hix, hcell⟩ := hff.at Try.underlying79 info_3 sz_3 (k := .i64) i rfl hfi
      refine X_of (hix _) ?_
      refine X_load agg_3 hcell ?_
      simp only [X_min, X_max]
      obtain ⟨n, hn⟩ : ∃ n : Nat, n = fateAt fates i := ⟨_, rfl⟩
      have hn128 : n ≤ 128 := by rw [hn]; exact fateAt_le _ _
      have en : max 0 (min fates[i] 128) = (n : Int) := by
        rw [hn]; unfold fateAt
        rw [List.getElem?_eq_getElem hfi]
        show _ = (((max 0 (min fates[i] 128)).toNat : Nat) : Int)
        omega
      have hr3d := hr3.ext (Keep.drew (fun _ => False) w3)
      obtain ⟨g2, cap2, cur2, hsv, hg2, hfit, hold, hput⟩ := hr3d.safe_at hsi
      obtain ⟨h8, s8⟩ := hput (d.ws[i].2.take n) (by simp; omega)
      have hxl : (d.ws[i].2.take n).length = n := by rw [List.length_take]; omega
      have hsb : sv.ownBlock = some g2 := by rw [hsv]; rfl
      obtain ⟨n1, n2, n3⟩ := hr3.b_ne
      have hbg : ¬ b = g2 := fun e => n2 (by rw [hsb, e])
      have hqg : ¬ wr.heap.size = g2 := fun e => by
        have := hr.lt (hr.foot.2 (.inr (.inr (.inl hsb))))
        omega
      rw [en]
      refine ⟨Keep (· = g2), Keep.frame _, ?_⟩
      have hq3 : (drewW w3).heap[wr.heap.size]? = some (.cells (wcs d.ws[i]).toArray 186 (0, 0)) := hq2
      have hb3 : (drewW w3).heap[b]? = some (.cells #[nv, sv, wv, .bool d.dead, .int .i64 d.fuse, .int .i64 d.done] 183 (0, 0)) := hr3.blk
      have hg3 : (drewW w3).heap[g2]? = some (.cells cur2 184 (0, 0)) := hg2
      rw [h0]
      try simp only [XP_nilS, XP_field_183_1, XP_field_186_0, XP_field_186_1, Nat.zero_add]
      refine XR_ok (Keep.frame _) (fun w' k => run_loadAt agg_180 (blk_get (k.get hbg hb3) (v := sv) rfl)) ?_
      refine XR_ok (Keep.frame _) (fun w' k => run_loadAt agg_3 (blk_get (k.get hqg hq3) (v := .int .i64 (d.ws[i].1 : Int)) rfl)) ?_
      have hixs : ∀ w, (Instr.indexAt 180 sv (.int .i64 (d.ws[i].1 : Int))).run Try.prog w = .ok (.pointer (some ⟨g2, d.ws[i].1 * 128, none⟩)) w := fun w => by
        rw [hsv, ix Try.underlying180 info_184 d.ws[i].1 rfl hsi w, sz_184, add_plain, Nat.zero_add]
      refine XP_of hixs ?_
      refine XP_of (fun w => run_slice_arr_hi Try.underlying184 info_5 _ .i64 n (by omega) w) ?_
      refine XP_of (fun w => run_slice_arr_hi Try.underlying184 info_5 _ .i64 n (by omega) w) ?_
      refine X_copy_cells (size := 1) Try.underlying27 info_5 sz_5 hg3 (l := B8 (d.ws[i].2.take n)) (by rw [B8_length, hxl]; simp) ?_ B8_one (by rw [B8_length, hxl]; omega) ?_
      · intro j u hj
        rw [add_plain, cell_blk hq3]
        rw [B8_getElem?, List.getElem?_take] at hj
        split at hj
        · rw [← B8_getElem?] at hj
          have : (wcs d.ws[i])[1 + j]? = some u := by
            rw [Nat.add_comm]
            exact hj
          simpa using this
        · cases hj
      refine ⟨setAt_keep _ _ _ _ _, ?_⟩
      refine hJ _ _ ⟨?_, hs3.trans ((Step.ext (Keep.drew _ _) (lt_of_blk hr3.blk)).trans ?_), h14, h13, h12.trans rfl, h0, h1⟩
      · have e : tears fates 0 d.safe (d.ws.take (i + 1)) = (tears fates 0 d.safe (d.ws.take i)).set d.ws[i].1 (d.ws[i].2.take n ++ ((tears fates 0 d.safe (d.ws.take i))[d.ws[i].1]'hsi).drop (d.ws[i].2.take n).length) := by
          rw [tears_succ fates hlt, hxl, hn]
          unfold tearAt
          rw [List.getD_eq_getElem?_getD, List.getElem?_eq_getElem hsi]
          rfl
        rw [e]
        exact h8
      · exact s8
    · rw [if_neg (by simp; omega)]
      refine hJ _ _ ⟨?_, hs3, h14, h13, h12, h0, h1⟩
      have ef0 : fateAt fates i = 0 := by unfold fateAt; rw [List.getElem?_eq_none (by omega)]
      have e : tears fates 0 d.safe (d.ws.take (i + 1)) = tears fates 0 d.safe (d.ws.take i) := by
        rw [tears_succ fates hlt, ef0]
        unfold tearAt
        rw [List.take_zero, List.drop_zero, List.nil_append, List.getD_eq_getElem?_getD, List.getElem?_eq_getElem hsi]
        exact List.set_getElem_self hsi
      rw [e]
      exact hr3
  · rintro ρ wr ⟨hr, hs, h0⟩
    refine ⟨Ext, Ext.frame, ?_⟩
    rw [h0]
    have hrd := hr.ext (Keep.drew (fun _ => False) wr)
    try simp only [XP_nilS, XP_field_183_0, XP_field_183_1]
    refine XR_ok Ext.frame (fun w' k => run_loadAt agg_180 (blk_get (k.get hrd.blk) (v := nv) rfl)) ?_
    refine XR_ok Ext.frame (fun w' k => run_loadAt agg_180 (blk_get (k.get hrd.blk) (v := sv) rfl)) ?_
    refine copy_now hrd (by show d.now.length = (tears fates 0 d.safe d.ws).length; rw [Dk.now_length, tears_length]) ?_
    intro v1 w1 h1 s1
    simp only [X_nilS, X_field_183_2, X_field_183_3, X_field_183_4]
    refine XU_store info_181 sz_181 rfl h1.blk (Nat.le_of_ble_eq_true rfl) (by show ¬ ((0 : Nat) ≤ 0 + 2 ∧ 0 + 2 < 0); omega) ?_
    obtain ⟨h2, s2⟩ := h1.clear
    show XU _ _ (setAt w1 b #[nv, sv, .slice none 0 0, .bool d.dead, .int .i64 d.fuse, .int .i64 d.done] 183 (0, 0)) _
    have e2 : setAt w1 b #[nv, sv, .slice none 0 0, .bool d.dead, .int .i64 d.fuse, .int .i64 d.done] 183 (0, 0) = setAt w1 b #[nv, sv, .slice none 0 0, .bool (Dk.raw d).dead, .int .i64 (Dk.raw d).fuse, .int .i64 (Dk.raw d).done] 183 (0, 0) := rfl
    rw [e2]
    generalize setAt w1 b #[nv, sv, .slice none 0 0, .bool (Dk.raw d).dead, .int .i64 (Dk.raw d).fuse, .int .i64 (Dk.raw d).done] 183 (0, 0) = w2 at h2 s2 ⊢
    refine XU_store info_4 sz_4 rfl h2.blk (Nat.le_of_ble_eq_true rfl) (by show ¬ ((0 : Nat) ≤ 0 + 3 ∧ 0 + 3 < 0); omega) ?_
    obtain ⟨h3, s3⟩ := h2.put (cs' := (#[nv, sv, .slice none 0 0, .bool (Dk.raw d).dead, .int .i64 (Dk.raw d).fuse, .int .i64 (Dk.raw d).done] : Array Value).setIfInBounds (0 + 3) (.bool false)) ⟨tears fates 0 d.safe d.ws, tears fates 0 d.safe d.ws, [], false, d.fuse, d.done⟩ rfl rfl rfl rfl
    generalize setAt w2 b _ 183 (0, 0) = w3 at h3 s3 ⊢
    refine XU_store info_3 sz_3 rfl h3.blk (Nat.le_of_ble_eq_true rfl) (by show ¬ ((0 : Nat) ≤ 0 + 4 ∧ 0 + 4 < 0); omega) ?_
    obtain ⟨h4, s4⟩ := h3.put (cs' := (#[nv, sv, .slice none 0 0, .bool false, .int .i64 d.fuse, .int .i64 d.done] : Array Value).setIfInBounds (0 + 4) (.int .i64 (-1))) ⟨tears fates 0 d.safe d.ws, tears fates 0 d.safe d.ws, [], false, -1, d.done⟩ rfl rfl rfl rfl
    exact hK _ ⟨Dk.crash_ok ok fates, nv, sv, _, h4⟩ (hs.trans ((Step.ext (Keep.drew _ _) (lt_of_blk hr.blk)).trans (s1.trans (s2.trans (s3.trans s4)))))
theorem Read_spec {at_ : Int} (h : DiskAt w b d) (hK : ∀ v w1, Ext w w1 → w1.ownsRow w.heap.size 5 1 v (d.read at_).1.length (B8 (d.read at_).1) → K (.tuple #[v, i64v (d.read at_).2]) w1) : CALL Try.prog 73 #[ptr b, i64v at_] w K := by
  obtain ⟨ok, nv, sv, wv, h⟩ := h
  obtain ⟨an, cn, en⟩ := own_sl h.now
  have enl : (Dk.raw d).now.length = d.safe.length := Dk.now_length d
  apply call_disk_Disk_Read
  unfold B_disk_Disk_Read
  simp only [X_eql_nil_74, Option.isNone_some, condS_bool, Bool.false_eq_true, if_false, X_lss, gstep_bool]
  have bad : at_ < 0 ∨ (d.safe.length : Int) ≤ at_ → K (.tuple #[.slice none 0 0, i64v 1]) w := by
    intro hbad
    have e : d.read at_ = ([], 1) := by unfold Dk.read; rw [if_pos hbad]
    have := hK (.slice none 0 0) w (Keep.refl _ _) (by rw [e]; exact own_nilB w)
    rw [e] at this
    exact this
  by_cases hneg : at_ < 0
  · have e1 : decide (at_ < 0) = true := by simpa using hneg
    simp only [e1, Bool.true_eq_false, if_false, X_pick, if_true, gstep_bool, condS_bool]
    exact bad (.inl hneg)
  have e1 : decide (at_ < 0) = false := by simpa using hneg
  simp only [e1, if_true, X_nilS, X_field_183_0, X_field_183_3]
  refine X_loadL agg_180 h.blk rfl ?_
  rw [en, enl]
  simp only [X_len_180, X_geq, X_pick, condS_bool, Bool.false_eq_true, if_false]
  by_cases hge : (d.safe.length : Int) ≤ at_
  · rw [if_pos (by simpa using hge)]
    exact bad (.inr hge)
  rw [if_neg (by simpa using hge)]
  have hgood : ¬ (at_ < 0 ∨ (d.safe.length : Int) ≤ at_) := by omega
  refine X_loadL agg_4 h.blk rfl ?_
  rw [condS_bool]
  by_cases hd : d.dead = true
  · rw [if_pos (by exact hd)]
    have e : d.read at_ = ([], 6) := by unfold Dk.read; rw [if_neg hgood, if_pos hd]
    have := hK (.slice none 0 0) w (Keep.refl _ _) (by rw [e]; exact own_nilB w)
    rw [e] at this
    exact this
  rw [if_neg (by exact hd)]
  refine X_loadL agg_180 h.blk rfl ?_
  obtain ⟨i, rfl⟩ : ∃ i : Nat, at_ = (i : Int) := ⟨at_.toNat, by omega⟩
  have hi : i < (Dk.raw d).now.length := by rw [enl]; omega
  obtain ⟨g, cap, cur, hnv, hg, hfit, hold, hput⟩ := h.now_at hi
  have h128 := h.n128 _ (List.getElem_mem hi)
  rw [hnv]
  refine X_of (ix Try.underlying180 info_184 i rfl hi _) ?_
  rw [sz_184, add_plain, Nat.zero_add]
  refine X_of (run_slice_arr_all Try.underlying184 info_5 _ _) ?_
  have e : d.read (i : Int) = ((Dk.raw d).now[i], 0) := by
    unfold Dk.read
    rw [if_neg hgood, if_neg hd]
    show (d.now.getD ((i : Int).toNat) [], (0 : Int)) = _
    rw [List.getD_eq_getElem?_getD, Int.toNat_natCast, List.getElem?_eq_getElem (show i < d.now.length from hi)]
    rfl
  have hb : Bts w (.slice (some ⟨g, i * 128, none⟩) (Dk.raw d).now[i].length 128) (Dk.raw d).now[i] := by
    refine ⟨_, _, rfl, by omega, by omega, fun _ => ⟨_, rfl, fun j u hj => ?_⟩⟩
    rw [add_plain, cell_blk hg]
    have hc := congrArg (fun x => x[j]?) hold
    simp only [B8_getElem?, hj, List.getElem?_take, List.getElem?_drop, Option.map_some] at hc
    split at hc
    · rw [← hc]; simp
    · cases hc
  rw [h128] at hb
  refine Clone_spec hb (by omega) ?_
  intro v' w1 hx ho
  have := hK v' w1 hx (by rw [e]; exact ho)
  rw [e] at this
  exact this
theorem run_build_183 (a a' : Option Addr) (n c n' c' : Nat) (w : World) : (Instr.build 183 #[(0, .slice a n c), (1, .slice a' n' c'), (4, .int .i64 (-1))]).run Try.prog w = .ok (.agg #[.slice a n c, .slice a' n' c', .slice none 0 0, .bool false, .int .i64 (-1), .int .i64 0]) w := by kernel_rfl
theorem madeCells_const (v : Value) (m n : Nat) (hm : 0 < m) : madeCells (List.replicate m v).toArray n = (List.replicate n v).toArray := by
  unfold madeCells
  apply Array.ext
  · simp
  · intro i h1 h2
    simp only [Array.getElem_map, Array.getElem_range, List.size_toArray, List.length_replicate]
    have hlt : i % m < m := Nat.mod_lt _ hm
    rw [getElem!_pos _ _ (by simpa using hlt)]
    simp
theorem new_sectors (n : Nat) : madeCells (Value.agg (List.replicate 128 (Value.int .u8 0)).toArray).cells (n * 128) = (B8 (List.replicate n (List.replicate 128 0)).flatten).toArray := by
  have e : (Value.agg (List.replicate 128 (Value.int .u8 0)).toArray).cells = (List.replicate 128 (Value.int .u8 0)).toArray := rfl
  rw [e, madeCells_const _ _ _ (by decide), List.flatten_replicate_replicate, B8_zeros]
theorem New_disk {n : Int} (hbad : n < 0 ∨ 16384 < n → K (.tuple #[.pointer none, i64v 1]) w)
    (hgood : ∀ m : Nat, n = m → m ≤ 16384 → ∀ b w1, Ext w w1 → (∀ k, foot w1 b k → w.heap.size ≤ k) → DiskAt w1 b (Dk.new m) → K (.tuple #[ptr b, i64v 0]) w1) : CALL Try.prog 69 #[i64v n] w K := by
  apply call_disk_New
  unfold B_disk_New
  simp only [X_lss, gstep_bool, X_gtr, X_pick, condS_bool]
  by_cases hneg : n < 0
  · have e1 : decide (n < 0) = true := by simpa using hneg
    simp only [e1, Bool.true_eq_false, if_false, X_pick, if_true, gstep_bool, condS_bool]
    exact hbad (.inl hneg)
  have e1 : decide (n < 0) = false := by simpa using hneg
  simp only [e1, if_true, X_gtr, X_pick, Bool.false_eq_true, if_false, condS_bool]
  by_cases hbig : 16384 < n
  · rw [if_pos (by simpa using hbig)]
    exact hbad (.inr hbig)
  rw [if_neg (by simpa using hbig)]
  obtain ⟨m, rfl⟩ : ∃ m : Nat, n = (m : Int) := ⟨n.toNat, by omega⟩
  have hm : m ≤ 16384 := by omega
  have hx0 := Keep.drew (fun _ => False) w
  have hsz0 : (drewW w).heap.size = w.heap.size := rfl
  have key : ∀ (g1 g2 : Nat) (w2 : World), Ext (drewW w) w2 → w.heap.size ≤ g1 → w.heap.size ≤ g2 → g1 ≠ g2 → w2.heap[g1]? = some (.cells (B8 (List.replicate m (List.replicate 128 0)).flatten).toArray 184 (0, 0)) → w2.heap[g2]? = some (.cells (B8 (List.replicate m (List.replicate 128 0)).flatten).toArray 184 (0, 0)) →
      XP Try.prog (Instr.build 183 #[(0, .slice (some ⟨g1, 0, none⟩) m m), (1, .slice (some ⟨g2, 0, none⟩) m m), (4, (.int .i64 (-1)))]) w2 fun v6 w3 => X Try.prog (Instr.box 183 v6) w3 fun v7 w4 => K (.tuple #[v7, (.int .i64 0)]) w4 := by
    intro g1 g2 w2 hx hg1 hg2 hne h1 h2
    refine XP_of (fun w => run_build_183 _ _ _ _ _ _ w) ?_
    refine X_box ?_
    have hb := newB_get w2 (Value.agg #[.slice (some ⟨g1, 0, none⟩) m m, .slice (some ⟨g2, 0, none⟩) m m, .slice none 0 0, .bool false, .int .i64 (-1), .int .i64 0]).cells 183
    have hxb := newB_ext w2 (Value.agg #[.slice (some ⟨g1, 0, none⟩) m m, .slice (some ⟨g2, 0, none⟩) m m, .slice none 0 0, .bool false, .int .i64 (-1), .int .i64 0]).cells 183
    have hlen : (B8 (List.replicate m (List.replicate 128 0)).flatten).length = m * 128 := by rw [B8_length, flat_len (n := 128) (by intro s hs; rw [(List.mem_replicate.1 hs).2]; simp)]; simp
    have own : ∀ g, w2.heap[g]? = some (.cells (B8 (List.replicate m (List.replicate 128 0)).flatten).toArray 184 (0, 0)) → (newB w2 (Value.agg #[.slice (some ⟨g1, 0, none⟩) m m, .slice (some ⟨g2, 0, none⟩) m m, .slice none 0 0, .bool false, .int .i64 (-1), .int .i64 0]).cells 183).ownsRow 0 184 128 (.slice (some ⟨g, 0, none⟩) m m) m (B8 (List.replicate m (List.replicate 128 0)).flatten) := fun g hg =>
      ⟨hlen, .inr ⟨g, m, _, rfl, Nat.zero_le _, hxb.get hg, Nat.le_refl _, by simp only [maxLen]; omega, by rw [List.size_toArray, hlen], by rw [List.take_of_length_le (by simp [hlen])]⟩⟩
    have hraw : RawAt (newB w2 (Value.agg #[.slice (some ⟨g1, 0, none⟩) m m, .slice (some ⟨g2, 0, none⟩) m m, .slice none 0 0, .bool false, .int .i64 (-1), .int .i64 0]).cells 183) w2.heap.size (Dk.raw (Dk.new m)) (.slice (some ⟨g1, 0, none⟩) m m) (.slice (some ⟨g2, 0, none⟩) m m) (.slice none 0 0) := by
      have ok := Dk.new_ok hm
      have hl : (List.replicate m (List.replicate 128 (0 : UInt8))).length = m := by simp
      refine ⟨hb, ?_, ?_, ⟨rfl, .inl ⟨rfl, rfl⟩⟩, ?_, Dk.now_128 ok, ok.1, by intro p hp; exact absurd hp (by simp [Dk.raw, Dk.new])⟩
      · show World.ownsRow _ 0 184 128 _ (List.replicate m (List.replicate 128 (0 : UInt8))).length (B8 (List.replicate m (List.replicate 128 0)).flatten)
        rw [hl]; exact own g1 h1
      · show World.ownsRow _ 0 184 128 _ (List.replicate m (List.replicate 128 (0 : UInt8))).length (B8 (List.replicate m (List.replicate 128 0)).flatten)
        rw [hl]; exact own g2 h2
      · intro g hg hg'
        have e1 : g1 = g := by simpa [Value.ownBlock] using hg
        have e2 : g2 = g := by simpa [Value.ownBlock] using hg'
        exact hne (by rw [e1, e2])
    refine hgood m rfl hm _ _ (hx0.trans (hx.trans hxb)) ?_ ⟨Dk.new_ok hm, _, _, _, hraw⟩
    intro k hk
    rcases hraw.foot.1 hk with h | h | h | h
    · have := hx.size; omega
    · have : g1 = k := by simpa [Value.ownBlock] using h
      omega
    · have : g2 = k := by simpa [Value.ownBlock] using h
      omega
    · cases h
  refine ⟨Ext, Ext.frame, ?_, ?_⟩
  · refine X_make Try.underlying180 el_184 m m rfl rfl (Nat.le_refl _) (by omega) (by omega) ?_
    refine X_make Try.underlying180 el_184 m m rfl rfl (Nat.le_refl _) (by omega) (by omega) ?_
    rw [new_sectors]
    have hx1 := newB_ext (drewW w) (B8 (List.replicate m (List.replicate 128 0)).flatten).toArray 184
    have hg1 := newB_get (drewW w) (B8 (List.replicate m (List.replicate 128 0)).flatten).toArray 184
    have hs1 := newB_size (drewW w) (B8 (List.replicate m (List.replicate 128 0)).flatten).toArray 184
    generalize newB (drewW w) (B8 (List.replicate m (List.replicate 128 0)).flatten).toArray 184 = w1 at hx1 hg1 hs1 ⊢
    have hx2 := newB_ext w1 (B8 (List.replicate m (List.replicate 128 0)).flatten).toArray 184
    exact key _ _ _ (hx1.trans hx2) (by omega) (by omega) (by omega) (hx2.get hg1) (newB_get _ _ _)
  · refine X_make Try.underlying180 el_184 m m rfl rfl (Nat.le_refl _) (by omega) (by omega) ?_
    refine X_make Try.underlying180 el_184 m m rfl rfl (Nat.le_refl _) (by omega) (by omega) ?_
    rw [new_sectors]
    have hx1 := newB_ext (drewW w) (B8 (List.replicate m (List.replicate 128 0)).flatten).toArray 184
    have hg1 := newB_get (drewW w) (B8 (List.replicate m (List.replicate 128 0)).flatten).toArray 184
    have hs1 := newB_size (drewW w) (B8 (List.replicate m (List.replicate 128 0)).flatten).toArray 184
    generalize newB (drewW w) (B8 (List.replicate m (List.replicate 128 0)).flatten).toArray 184 = w1 at hx1 hg1 hs1 ⊢
    have hx2 := newB_ext w1 (B8 (List.replicate m (List.replicate 128 0)).flatten).toArray 184
    exact key _ _ _ (hx1.trans hx2) (by omega) (by omega) (by omega) (newB_get _ _ _) (hx2.get hg1)
/-- Copy. -/
theorem emp180 (w : World) : (Instr.buildSlice 180 0 #[]).run Try.prog w = .ok (.slice (some ⟨w.heap.size, 0, none⟩) 0 0) (newB w #[] 184) := by kernel_rfl
theorem emp181 (w : World) : (Instr.buildSlice 181 0 #[]).run Try.prog w = .ok (.slice (some ⟨w.heap.size, 0, none⟩) 0 0) (newB w #[] 186) := by kernel_rfl
theorem CloneS_spec {m n : Nat} {v : Value} {xs : List Value} (ho : w.ownsRow m 184 128 v n xs) (h1 : ∀ u ∈ xs, u.oneCell' = true) (hb : n * 128 ≤ 140737488355328) (h : ∀ v' w1, Ext w w1 → w1.ownsRow w.heap.size 184 128 v' n xs → K v' w1) : CALL Try.prog 134 #[v] w K := by
  apply call_slices_Clone_disk_sector
  unfold B_slices_Clone_disk_sector
  exact clone_run (K := K) Try.underlying180 el_184 (by decide) (by decide) ho h1 hb emp180 h
theorem CloneW_spec {m n : Nat} {v : Value} {xs : List Value} (ho : w.ownsRow m 186 129 v n xs) (h1 : ∀ u ∈ xs, u.oneCell' = true) (hb : n * 136 ≤ 140737488355328) (h : ∀ v' w1, Ext w w1 → w1.ownsRow w.heap.size 186 129 v' n xs → K v' w1) : CALL Try.prog 135 #[v] w K := by
  apply call_slices_Clone_disk_write
  unfold B_slices_Clone_disk_write
  exact clone_run (K := K) Try.underlying181 el_186 (by decide) (by decide) ho h1 hb emp181 h
theorem wsL_one (ws : List (Nat × List UInt8)) : ∀ v ∈ wsL ws, v.oneCell' = true := by
  intro v hv
  unfold wsL at hv
  rw [List.mem_flatten] at hv
  obtain ⟨l, hl, hv⟩ := hv
  obtain ⟨p, _, rfl⟩ := List.mem_map.1 hl
  exact wcs_one p v hv
theorem Copy_spec (h : DiskAt w b d) (hw : d.ws.length ≤ 1000000) (hK : ∀ b' w1, Ext w w1 → (∀ k, foot w1 b' k → w.heap.size ≤ k) → DiskAt w1 b' d → K (ptr b') w1) : CALL Try.prog 81 #[ptr b] w K := by
  obtain ⟨ok, nv, sv, wv, h⟩ := h
  have enl : (Dk.raw d).now.length = d.safe.length := Dk.now_length d
  have hsl : d.safe.length ≤ 16384 := ok.2.2.1
  apply call_disk_Disk_Copy
  unfold B_disk_Disk_Copy
  simp only [X_eql_nil_74, Option.isNone_some, condS_bool, Bool.false_eq_true, if_false, X_nilS]
  refine X_loadAgg (l := [nv, sv, wv, .bool d.dead, .int .i64 d.fuse, .int .i64 d.done]) Try.underlying183 agg_183 info_183 h.blk (by rw [sz_183]; rfl) ?_
  refine X_alloc zero_183 ?_
  have hq := newB_get w #[(.slice none 0 0), (.slice none 0 0), (.slice none 0 0), (.bool false), (.int .i64 0), (.int .i64 0)] 183
  have hxq := newB_ext w #[(.slice none 0 0), (.slice none 0 0), (.slice none 0 0), (.bool false), (.int .i64 0), (.int .i64 0)] 183
  show XU _ _ (newB w #[(.slice none 0 0), (.slice none 0 0), (.slice none 0 0), (.bool false), (.int .i64 0), (.int .i64 0)] 183) _
  generalize newB w #[(.slice none 0 0), (.slice none 0 0), (.slice none 0 0), (.bool false), (.int .i64 0), (.int .i64 0)] 183 = w2 at hq hxq ⊢
  have hone : ∀ v ∈ [nv, sv, wv, .bool d.dead, .int .i64 d.fuse, .int .i64 d.done], v.oneCell' = true := by
    obtain ⟨_, _, e1⟩ := own_sl h.now
    obtain ⟨_, _, e2⟩ := own_sl h.safe
    obtain ⟨_, _, e3⟩ := own_sl h.ws
    intro v hv
    simp only [List.mem_cons, List.not_mem_nil, or_false] at hv
    rcases hv with rfl | rfl | rfl | rfl | rfl | rfl
    · rw [e1]; rfl
    · rw [e2]; rfl
    · rw [e3]; rfl
    · rfl
    · rfl
    · rfl
  refine XU_storeAgg info_183 hq (by rw [sz_183]; rfl) (by rw [sz_183]; rfl) hone ?_
  have hq2 := setAt_same (cs := [nv, sv, wv, .bool d.dead, .int .i64 d.fuse, .int .i64 d.done].toArray) (T := 183) (fr := (0, 0)) (lt_of_blk hq)
  have hx2 : Ext w (setAt w2 w.heap.size [nv, sv, wv, .bool d.dead, .int .i64 d.fuse, .int .i64 d.done].toArray 183 (0, 0)) := Ext.seq hxq (setAt_keep _ _ _ _ _) (fun j hj => by omega)
  generalize setAt w2 w.heap.size [nv, sv, wv, .bool d.dead, .int .i64 d.fuse, .int .i64 d.done].toArray 183 (0, 0) = w3 at hq2 hx2 ⊢
  generalize hqe : w.heap.size = q at hq2 ⊢
  refine ⟨Ext, Ext.frame, ?_⟩
  have hxd : Ext w (drewW w3) := hx2.trans (Keep.drew _ _)
  have h3 := h.ext hxd
  have hq3 : (drewW w3).heap[q]? = some (.cells [nv, sv, wv, .bool d.dead, .int .i64 d.fuse, .int .i64 d.done].toArray 183 (0, 0)) := hq2
  try simp only [XP_nilS, XP_field_183_0, XP_field_183_1, XP_field_183_2]
  refine XR_ok Ext.frame (fun w' k => run_loadAt agg_180 (blk_get (k.get h3.blk) (v := nv) rfl)) ?_
  refine XR_ok Ext.frame (fun w' k => run_loadAt agg_180 (blk_get (k.get h3.blk) (v := sv) rfl)) ?_
  refine XR_ok Ext.frame (fun w' k => run_loadAt agg_181 (blk_get (k.get h3.blk) (v := wv) rfl)) ?_
  have hqs : q + 1 ≤ (drewW w3).heap.size := by have := lt_of_blk hq3; omega
  refine CloneS_spec h3.now B8_one (by rw [enl]; omega) ?_
  intro v1 w4 hx4 ho4
  refine ⟨hx4, ?_⟩
  refine CloneS_spec (h3.ext hx4).safe B8_one (by show d.safe.length * 128 ≤ _; omega) ?_
  intro v2 w5 hx5 ho5
  refine ⟨hx5, ?_⟩
  refine CloneW_spec ((h3.ext hx4).ext hx5).ws (wsL_one _) (by show d.ws.length * 136 ≤ _; omega) ?_
  intro v3 w6 hx6 ho6
  refine ⟨hx6, ?_⟩
  have hq6 := hx6.get (hx5.get (hx4.get hq3))
  obtain ⟨a1, c1, e1⟩ := own_sl ho4
  obtain ⟨a2, c2, e2⟩ := own_sl ho5
  obtain ⟨a3, c3, e3⟩ := own_sl ho6
  refine XU_store info_180 sz_180 (by rw [e1]; rfl) hq6 (by simp) (by show ¬ ((0 : Nat) ≤ 0 ∧ 0 < 0); omega) ?_
  have hq7 := setAt_same (cs := ([nv, sv, wv, .bool d.dead, .int .i64 d.fuse, .int .i64 d.done].toArray.setIfInBounds 0 v1)) (T := 183) (fr := (0, 0)) (lt_of_blk hq6)
  have hk7 := setAt_keep w6 q ([nv, sv, wv, .bool d.dead, .int .i64 d.fuse, .int .i64 d.done].toArray.setIfInBounds 0 v1) 183 (0, 0)
  generalize setAt w6 q ([nv, sv, wv, .bool d.dead, .int .i64 d.fuse, .int .i64 d.done].toArray.setIfInBounds 0 v1) 183 (0, 0) = w7 at hq7 hk7 ⊢
  refine XU_store info_180 sz_180 (by rw [e2]; rfl) hq7 (by simp) (by show ¬ ((0 : Nat) ≤ 0 + 1 ∧ 0 + 1 < 0); omega) ?_
  have hq8 := setAt_same (cs := (([nv, sv, wv, .bool d.dead, .int .i64 d.fuse, .int .i64 d.done].toArray.setIfInBounds 0 v1).setIfInBounds (0 + 1) v2)) (T := 183) (fr := (0, 0)) (lt_of_blk hq7)
  have hk8 := setAt_keep w7 q (([nv, sv, wv, .bool d.dead, .int .i64 d.fuse, .int .i64 d.done].toArray.setIfInBounds 0 v1).setIfInBounds (0 + 1) v2) 183 (0, 0)
  generalize setAt w7 q (([nv, sv, wv, .bool d.dead, .int .i64 d.fuse, .int .i64 d.done].toArray.setIfInBounds 0 v1).setIfInBounds (0 + 1) v2) 183 (0, 0) = w8 at hq8 hk8 ⊢
  refine XU_store info_181 sz_181 (by rw [e3]; rfl) hq8 (by simp) (by show ¬ ((0 : Nat) ≤ 0 + 2 ∧ 0 + 2 < 0); omega) ?_
  have hq9 := setAt_same (cs := ((([nv, sv, wv, .bool d.dead, .int .i64 d.fuse, .int .i64 d.done].toArray.setIfInBounds 0 v1).setIfInBounds (0 + 1) v2).setIfInBounds (0 + 2) v3)) (T := 183) (fr := (0, 0)) (lt_of_blk hq8)
  have hk9 := setAt_keep w8 q ((([nv, sv, wv, .bool d.dead, .int .i64 d.fuse, .int .i64 d.done].toArray.setIfInBounds 0 v1).setIfInBounds (0 + 1) v2).setIfInBounds (0 + 2) v3) 183 (0, 0)
  generalize setAt w8 q ((([nv, sv, wv, .bool d.dead, .int .i64 d.fuse, .int .i64 d.done].toArray.setIfInBounds 0 v1).setIfInBounds (0 + 1) v2).setIfInBounds (0 + 2) v3) 183 (0, 0) = w9 at hq9 hk9 ⊢
  have hk69 : Keep (· = q) w6 w9 := hk7.trans (hk8.trans hk9)
  have hx3s : (drewW w3).heap.size ≤ w4.heap.size := hx4.size
  have hx4s : w4.heap.size ≤ w5.heap.size := hx5.size
  have lt4 := ho4.lt
  have lt5 := ho5.lt
  have lt6 := ho6.lt
  have hraw : RawAt w9 q (Dk.raw d) v1 v2 v3 := by
    refine ⟨hq9, ?_, ?_, ?_, ?_, h.n128, h.s128, h.w128⟩
    · exact own_keepD (own_base0 (own_extD (own_extD ho4 hx5) hx6)) hk69 (fun g hg e => by have := lt4 g hg; omega)
    · exact own_keepD (own_base0 (own_extD ho5 hx6)) hk69 (fun g hg e => by have := lt5 g hg; omega)
    · exact own_keepD (own_base0 ho6) hk69 (fun g hg e => by have := lt6 g hg; omega)
    · intro g hg hg'
      have := lt4 g hg
      have := lt5 g hg'
      omega
  refine hK q w9 (Ext.seq (hxd.trans (hx4.trans (hx5.trans hx6))) hk69 (fun j hj => by omega)) ?_ ⟨ok, _, _, _, hraw⟩
  intro k hk
  rcases hraw.foot.1 hk with h' | h' | h' | h'
  · omega
  · have := lt4 k h'; omega
  · have := lt5 k h'; omega
  · have := lt6 k h'; omega
end
end Go.Proofs.Ytggggfcgnkllgaa
end
section
set_option linter.unusedVariables false
namespace Go.Proofs.Ytggggfcgnkllgaa
open Go Go.Sh
attribute [local irreducible] X XU XP XR CALL loopS resC closS
/-- cellarage/cellarageref08.New -/
def B_ref08_New (x0 : Value) (w : World) (K : Value → World → Prop) : Prop :=
  X Try.prog (binOp .lss 3 x0 (.int .i64 0)) w fun v1_7 w1 =>
  gstep v1_7 false (fun w2 K => K x0 w2) w1 fun v2_9 w3 =>
  gstep v1_7 false (fun w4 K => X Try.prog (binOp .gtr 3 v2_9 (.int .i64 16384)) w4 K) w3 fun v3_10 w5 =>
  X Try.prog (pickS v1_7 (.bool true) v3_10) w5 fun v4_11 w6 =>
  condS v4_11 (
  K (.tuple #[(.pointer none), (.int .i64 1)]) w6) (
  X Try.prog (Instr.makeSlice 66 x0 x0) w6 fun v5_13 w7 =>
  X Try.prog (Instr.build 148 #[(0, v5_13), (3, (.int .i64 (-1)))]) w7 fun v6_14 w8 =>
  X Try.prog (Instr.box 148 v6_14) w8 fun v7_15 w9 =>
  loopS (fun Q1 ρ1 w10 =>
  X Try.prog (binOp .lss 3 (ρ1 5) (ρ1 0)) w10 fun v8_18 w11 =>
  condS v8_18 (
  ∃ R, Frame? R ∧
  XP Try.prog (nilS (ρ1 4)) (drewW w11) fun v9_22 w12 =>
  XP Try.prog (Instr.fieldAt 148 v9_22 0) w12 fun v10_23 w13 =>
  XR Try.prog R (Instr.loadAt 66 v10_23) w13 fun v11_24 w14 =>
  CALL Try.prog 133 #[(.string { data := #[] })] w14 fun v12_26 w15 =>
  R w14 w15 ∧
  XP Try.prog (Instr.indexAt 66 v11_24 (ρ1 5)) w15 fun v13_27 w16 =>
  XU Try.prog (Instr.storeAt 9 v13_27 v12_26) w16 fun w17 =>
  X Try.prog (binOp .add 3 (ρ1 5) (.int .i64 1)) w17 fun v14_20 w18 =>
  Q1 .normal (upds ρ1 [(5, v14_20), (20, v14_20), (19, (ρ1 5)), (27, v13_27), (26, v12_26), (25, (ρ1 5)), (24, v11_24), (23, v10_23), (22, v9_22), (21, (ρ1 4)), (18, v8_18), (17, (ρ1 0)), (16, (ρ1 5))]) w18) (
  Q1 (.exit 0) (upds ρ1 [(18, v8_18), (17, (ρ1 0)), (16, (ρ1 5))]) w11)) (inBlockS 0 (thenS (fun ρ2 w19 =>
  K (.tuple #[(ρ2 4), (.int .i64 0)]) w19) (retS Try.prog (Try.f80).results K))) (upds (env0 #[x0]) [(5, (.int .i64 0)), (4, v7_15), (15, v7_15), (14, v6_14), (13, v5_13), (12, x0), (11, v4_11), (10, v3_10), (9, v2_9), (8, v1_7), (7, v1_7), (6, x0), (3, (.int .i64 0)), (2, (.pointer none))]) w9)

theorem eq_ref08_New (x0 : Value) (w : World) (K : Value → World → Prop) :
    sh Try.prog (Try.f80.body.getD .skip) (retS Try.prog Try.f80.results K) (env0 #[x0]) w = B_ref08_New x0 w K := by kernel_rfl

theorem call_ref08_New (x0 : Value) (w : World) (K : Value → World → Prop) (h : B_ref08_New x0 w K) : CALL Try.prog 80 #[x0] w K :=
  call_of_eq (c := Try.f80.body.getD .skip) mixed Try.func80 (by kernel_rfl) (by kernel_rfl) (by kernel_rfl) (Nat.le_of_ble_eq_true (by kernel_rfl)) (eq_ref08_New x0 w K) h

/-- (*cellarage/cellarageref08.Disk).Write -/
def B_ref08_Disk_Write (x0 x1 x2 : Value) (w : World) (K : Value → World → Prop) : Prop :=
  X Try.prog (binOp .lss 3 x1 (.int .i64 0)) w fun v1_8 w1 =>
  gstep v1_8 false (fun w2 K => K x1 w2) w1 fun v2_10 w3 =>
  gstep v1_8 false (fun w4 K => K x0 w4) w3 fun v3_11 w5 =>
  gstep v1_8 false (fun w6 K => X Try.prog (nilS v3_11) w6 K) w5 fun v4_12 w7 =>
  gstep v1_8 false (fun w8 K => X Try.prog (Instr.fieldAt 148 v4_12 0) w8 K) w7 fun v5_13 w9 =>
  gstep v1_8 false (fun w10 K => X Try.prog (Instr.loadAt 66 v5_13) w10 K) w9 fun v6_14 w11 =>
  gstep v1_8 false (fun w12 K => X Try.prog (Builtin.len_ #[66] 3 #[v6_14]) w12 K) w11 fun v7_15 w13 =>
  gstep v1_8 false (fun w14 K => X Try.prog (binOp .geq 3 v2_10 v7_15) w14 K) w13 fun v8_16 w15 =>
  X Try.prog (pickS v1_8 (.bool true) v8_16) w15 fun v9_17 w16 =>
  gstep v9_17 false (fun w17 K => K x2 w17) w16 fun v10_19 w18 =>
  gstep v9_17 false (fun w19 K => X Try.prog (Builtin.len_ #[9] 3 #[v10_19]) w19 K) w18 fun v11_20 w20 =>
  gstep v9_17 false (fun w21 K => X Try.prog (binOp .gtr 3 v11_20 (.int .i64 128)) w21 K) w20 fun v12_21 w22 =>
  X Try.prog (pickS v9_17 (.bool true) v12_21) w22 fun v13_22 w23 =>
  condS v13_22 (
  K (.int .i64 1) w23) (
  CALL Try.prog 142 #[x0] w23 fun v14_24 w24 =>
  condS v14_24 (
  K (.int .i64 6) w24) (
  ∃ R, Frame? R ∧
  XP Try.prog (nilS x0) (drewW w24) fun v15_27 w25 =>
  XP Try.prog (Instr.fieldAt 148 v15_27 1) w25 fun v16_28 w26 =>
  XR Try.prog R (Instr.loadAt 146 v16_28) w26 fun v17_29 w27 =>
  CALL Try.prog 133 #[x2] w27 fun v18_32 w28 =>
  R w27 w28 ∧
  XP Try.prog (Instr.build 200 #[(0, x1), (1, v18_32)]) w28 fun v19_33 w29 =>
  X Try.prog (Instr.buildSlice 146 1 #[(0, v19_33)]) w29 fun v20_34 w30 =>
  R w29 w30 ∧
  X Try.prog (Builtin.append_ #[146, 146] 146 #[v17_29, v20_34]) w30 fun v21_35 w31 =>
  XP Try.prog (nilS x0) w31 fun v22_36 w32 =>
  XP Try.prog (Instr.fieldAt 148 v22_36 1) w32 fun v23_37 w33 =>
  XU Try.prog (Instr.storeAt 146 v23_37 v21_35) w33 fun w34 =>
  CALL Try.prog 143 #[x0] w34 fun v24_39 w35 =>
  K v24_39 w35))

theorem eq_ref08_Disk_Write (x0 x1 x2 : Value) (w : World) (K : Value → World → Prop) :
    sh Try.prog (Try.f109.body.getD .skip) (retS Try.prog Try.f109.results K) (env0 #[x0, x1, x2]) w = B_ref08_Disk_Write x0 x1 x2 w K := by kernel_rfl

theorem call_ref08_Disk_Write (x0 x1 x2 : Value) (w : World) (K : Value → World → Prop) (h : B_ref08_Disk_Write x0 x1 x2 w K) : CALL Try.prog 109 #[x0, x1, x2] w K :=
  call_of_eq (c := Try.f109.body.getD .skip) mixed Try.func109 (by kernel_rfl) (by kernel_rfl) (by kernel_rfl) (Nat.le_of_ble_eq_true (by kernel_rfl)) (eq_ref08_Disk_Write x0 x1 x2 w K) h

/-- (*cellarage/cellarageref08.Disk).Flush -/
def B_ref08_Disk_Flush (x0 : Value) (w : World) (K : Value → World → Prop) : Prop :=
  CALL Try.prog 142 #[x0] w fun v1_5 w1 =>
  condS v1_5 (
  K (.int .i64 6) w1) (
  loopS (fun Q1 ρ1 w2 =>
  X Try.prog (nilS (ρ1 0)) w2 fun v2_8 w3 =>
  X Try.prog (Instr.fieldAt 148 v2_8 1) w3 fun v3_9 w4 =>
  X Try.prog (Instr.loadAt 146 v3_9) w4 fun v4_10 w5 =>
  X Try.prog (Builtin.len_ #[146] 3 #[v4_10]) w5 fun v5_11 w6 =>
  X Try.prog (binOp .lss 3 (ρ1 3) v5_11) w6 fun v6_12 w7 =>
  condS v6_12 (
  ∃ R, Frame? R ∧
  XP Try.prog (nilS (ρ1 0)) (drewW w7) fun v7_16 w8 =>
  XP Try.prog (Instr.fieldAt 148 v7_16 0) w8 fun v8_17 w9 =>
  XR Try.prog R (Instr.loadAt 66 v8_17) w9 fun v9_18 w10 =>
  XP Try.prog (nilS (ρ1 0)) w10 fun v10_20 w11 =>
  XP Try.prog (Instr.fieldAt 148 v10_20 1) w11 fun v11_21 w12 =>
  XR Try.prog R (Instr.loadAt 146 v11_21) w12 fun v12_22 w13 =>
  XP Try.prog (Instr.indexAt 146 v12_22 (ρ1 3)) w13 fun v13_24 w14 =>
  XP Try.prog (Instr.fieldAt 200 v13_24 0) w14 fun v14_25 w15 =>
  XR Try.prog R (Instr.loadAt 3 v14_25) w15 fun v15_26 w16 =>
  XP Try.prog (nilS (ρ1 0)) w16 fun v16_28 w17 =>
  XP Try.prog (Instr.fieldAt 148 v16_28 1) w17 fun v17_29 w18 =>
  XR Try.prog R (Instr.loadAt 146 v17_29) w18 fun v18_30 w19 =>
  XP Try.prog (Instr.indexAt 146 v18_30 (ρ1 3)) w19 fun v19_32 w20 =>
  XP Try.prog (Instr.fieldAt 200 v19_32 1) w20 fun v20_33 w21 =>
  XR Try.prog R (Instr.loadAt 9 v20_33) w21 fun v21_34 w22 =>
  XP Try.prog (Instr.indexAt 66 v9_18 v15_26) w22 fun v22_35 w23 =>
  XU Try.prog (Instr.storeAt 9 v22_35 v21_34) w23 fun w24 =>
  X Try.prog (binOp .add 3 (ρ1 3) (.int .i64 1)) w24 fun v23_14 w25 =>
  Q1 .normal (upds ρ1 [(3, v23_14), (14, v23_14), (13, (ρ1 3)), (35, v22_35), (34, v21_34), (33, v20_33), (32, v19_32), (31, (ρ1 3)), (30, v18_30), (29, v17_29), (28, v16_28), (27, (ρ1 0)), (26, v15_26), (25, v14_25), (24, v13_24), (23, (ρ1 3)), (22, v12_22), (21, v11_21), (20, v10_20), (19, (ρ1 0)), (18, v9_18), (17, v8_17), (16, v7_16), (15, (ρ1 0)), (12, v6_12), (11, v5_11), (10, v4_10), (9, v3_9), (8, v2_8), (7, (ρ1 0)), (6, (ρ1 3))]) w25) (
  Q1 (.exit 0) (upds ρ1 [(12, v6_12), (11, v5_11), (10, v4_10), (9, v3_9), (8, v2_8), (7, (ρ1 0)), (6, (ρ1 3))]) w7)) (inBlockS 0 (thenS (fun ρ2 w26 =>
  X Try.prog (nilS (ρ2 0)) w26 fun v24_37 w27 =>
  X Try.prog (Instr.fieldAt 148 v24_37 1) w27 fun v25_38 w28 =>
  XU Try.prog (Instr.storeAt 146 v25_38 (.slice none 0 0)) w28 fun w29 =>
  CALL Try.prog 143 #[(ρ2 0)] w29 fun v26_40 w30 =>
  K v26_40 w30) (retS Try.prog (Try.f110).results K))) (upds (env0 #[x0]) [(3, (.int .i64 0)), (5, v1_5), (4, x0), (2, (.int .i64 0))]) w1)

theorem eq_ref08_Disk_Flush (x0 : Value) (w : World) (K : Value → World → Prop) :
    sh Try.prog (Try.f110.body.getD .skip) (retS Try.prog Try.f110.results K) (env0 #[x0]) w = B_ref08_Disk_Flush x0 w K := by kernel_rfl

theorem call_ref08_Disk_Flush (x0 : Value) (w : World) (K : Value → World → Prop) (h : B_ref08_Disk_Flush x0 w K) : CALL Try.prog 110 #[x0] w K :=
  call_of_eq (c := Try.f110.body.getD .skip) mixed Try.func110 (by kernel_rfl) (by kernel_rfl) (by kernel_rfl) (Nat.le_of_ble_eq_true (by kernel_rfl)) (eq_ref08_Disk_Flush x0 w K) h

/-- (*cellarage/cellarageref08.Disk).Cut -/
def B_ref08_Disk_Cut (x0 x1 : Value) (w : World) (K : Value → World → Prop) : Prop :=
  X Try.prog (nilS x0) w fun v1_5 w1 =>
  X Try.prog (Instr.fieldAt 148 v1_5 2) w1 fun v2_6 w2 =>
  X Try.prog (Instr.loadAt 4 v2_6) w2 fun v3_7 w3 =>
  X Try.prog (Op.unary .not v3_7) w3 fun v4_8 w4 =>
  condS v4_8 (
  X Try.prog (Builtin.max_ #[3, 3] 3 #[x1, (.int .i64 (-1))]) w4 fun v5_11 w5 =>
  X Try.prog (nilS x0) w5 fun v6_12 w6 =>
  X Try.prog (Instr.fieldAt 148 v6_12 3) w6 fun v7_13 w7 =>
  XU Try.prog (Instr.storeAt 3 v7_13 v5_11) w7 fun w8 =>
  K (.tuple #[]) w8) (
  K (.tuple #[]) w4)

theorem eq_ref08_Disk_Cut (x0 x1 : Value) (w : World) (K : Value → World → Prop) :
    sh Try.prog (Try.f111.body.getD .skip) (retS Try.prog Try.f111.results K) (env0 #[x0, x1]) w = B_ref08_Disk_Cut x0 x1 w K := by kernel_rfl

theorem call_ref08_Disk_Cut (x0 x1 : Value) (w : World) (K : Value → World → Prop) (h : B_ref08_Disk_Cut x0 x1 w K) : CALL Try.prog 111 #[x0, x1] w K :=
  call_of_eq (c := Try.f111.body.getD .skip) mixed Try.func111 (by kernel_rfl) (by kernel_rfl) (by kernel_rfl) (Nat.le_of_ble_eq_true (by kernel_rfl)) (eq_ref08_Disk_Cut x0 x1 w K) h

/-- (*cellarage/cellarageref08.Disk).Crash -/
def B_ref08_Disk_Crash (x0 x1 : Value) (w : World) (K : Value → World → Prop) : Prop :=
  loopS (fun Q1 ρ1 w1 =>
  X Try.prog (nilS (ρ1 0)) w1 fun v1_9 w2 =>
  X Try.prog (Instr.fieldAt 148 v1_9 1) w2 fun v2_10 w3 =>
  X Try.prog (Instr.loadAt 146 v2_10) w3 fun v3_11 w4 =>
  X Try.prog (Builtin.len_ #[146] 3 #[v3_11]) w4 fun v4_12 w5 =>
  X Try.prog (binOp .lss 3 (ρ1 4) v4_12) w5 fun v5_13 w6 =>
  condS v5_13 (
  joinS (fun ρ2 w7 =>
  X Try.prog (nilS (ρ2 0)) w7 fun v6_27 w8 =>
  X Try.prog (Instr.fieldAt 148 v6_27 1) w8 fun v7_28 w9 =>
  X Try.prog (Instr.loadAt 146 v7_28) w9 fun v8_29 w10 =>
  X Try.prog (Instr.indexAt 146 v8_29 (ρ2 4)) w10 fun v9_31 w11 =>
  X Try.prog (Instr.loadAt 200 v9_31) w11 fun v10_32 w12 =>
  X Try.prog (Instr.alloc 200 true (.tuple #[])) w12 fun v11_6 w13 =>
  XU Try.prog (Instr.storeAt 200 v11_6 v10_32) w13 fun w14 =>
  ∃ R, Frame? R ∧
  XP Try.prog (nilS (ρ2 0)) (drewW w14) fun v12_34 w15 =>
  XP Try.prog (Instr.fieldAt 148 v12_34 0) w15 fun v13_35 w16 =>
  XR Try.prog R (Instr.loadAt 66 v13_35) w16 fun v14_36 w17 =>
  XP Try.prog (Instr.fieldAt 200 v11_6 0) w17 fun v15_37 w18 =>
  XR Try.prog R (Instr.loadAt 3 v15_37) w18 fun v16_38 w19 =>
  XP Try.prog (Instr.fieldAt 200 v11_6 1) w19 fun v17_39 w20 =>
  XR Try.prog R (Instr.loadAt 9 v17_39) w20 fun v18_40 w21 =>
  XP Try.prog (Instr.sliceAt 9 v18_40 none (some (ρ2 5)) none) w21 fun v19_42 w22 =>
  XP Try.prog (nilS (ρ2 0)) w22 fun v20_44 w23 =>
  XP Try.prog (Instr.fieldAt 148 v20_44 0) w23 fun v21_45 w24 =>
  XR Try.prog R (Instr.loadAt 66 v21_45) w24 fun v22_46 w25 =>
  XP Try.prog (Instr.fieldAt 200 v11_6 0) w25 fun v23_47 w26 =>
  XR Try.prog R (Instr.loadAt 3 v23_47) w26 fun v24_48 w27 =>
  XP Try.prog (Instr.indexAt 66 v22_46 v24_48) w27 fun v25_49 w28 =>
  XR Try.prog R (Instr.loadAt 9 v25_49) w28 fun v26_50 w29 =>
  XP Try.prog (Instr.sliceAt 9 v26_50 (some (ρ2 5)) none none) w29 fun v27_52 w30 =>
  XP Try.prog (binOp .add 9 v19_42 v27_52) w30 fun v28_53 w31 =>
  XP Try.prog (Instr.indexAt 66 v14_36 v16_38) w31 fun v29_54 w32 =>
  XU Try.prog (Instr.storeAt 9 v29_54 v28_53) w32 fun w33 =>
  X Try.prog (binOp .add 3 (ρ2 4) (.int .i64 1)) w33 fun v30_15 w34 =>
  Q1 .normal (upds ρ2 [(4, v30_15), (15, v30_15), (14, (ρ2 4)), (54, v29_54), (53, v28_53), (52, v27_52), (51, (ρ2 5)), (50, v26_50), (49, v25_49), (48, v24_48), (47, v23_47), (46, v22_46), (45, v21_45), (44, v20_44), (43, (ρ2 0)), (42, v19_42), (41, (ρ2 5)), (40, v18_40), (39, v17_39), (38, v16_38), (37, v15_37), (36, v14_36), (35, v13_35), (34, v12_34), (33, (ρ2 0)), (6, v11_6), (32, v10_32), (31, v9_31), (30, (ρ2 4)), (29, v8_29), (28, v7_28), (27, v6_27), (26, (ρ2 0))]) w34) fun J2 =>
  X Try.prog (Builtin.len_ #[79] 3 #[(ρ1 1)]) w6 fun v31_18 w35 =>
  X Try.prog (binOp .lss 3 (ρ1 4) v31_18) w35 fun v32_19 w36 =>
  condS v32_19 (
  X Try.prog (Instr.indexAt 79 (ρ1 1) (ρ1 4)) w36 fun v33_22 w37 =>
  X Try.prog (Instr.loadAt 3 v33_22) w37 fun v34_23 w38 =>
  X Try.prog (Builtin.min_ #[3, 3] 3 #[v34_23, (.int .i64 128)]) w38 fun v35_24 w39 =>
  X Try.prog (Builtin.max_ #[3, 3] 3 #[(.int .i64 0), v35_24]) w39 fun v36_25 w40 =>
  J2 (upds ρ1 [(5, v36_25), (25, v36_25), (24, v35_24), (23, v34_23), (22, v33_22), (21, (ρ1 4)), (20, (ρ1 1)), (19, v32_19), (18, v31_18), (17, (ρ1 1)), (16, (ρ1 4)), (5, (.int .i64 0)), (13, v5_13), (12, v4_12), (11, v3_11), (10, v2_10), (9, v1_9), (8, (ρ1 0)), (7, (ρ1 4))]) w40) (
  J2 (upds ρ1 [(19, v32_19), (18, v31_18), (17, (ρ1 1)), (16, (ρ1 4)), (5, (.int .i64 0)), (13, v5_13), (12, v4_12), (11, v3_11), (10, v2_10), (9, v1_9), (8, (ρ1 0)), (7, (ρ1 4))]) w36)) (
  Q1 (.exit 0) (upds ρ1 [(13, v5_13), (12, v4_12), (11, v3_11), (10, v2_10), (9, v1_9), (8, (ρ1 0)), (7, (ρ1 4))]) w6)) (inBlockS 0 (thenS (fun ρ3 w41 =>
  X Try.prog (nilS (ρ3 0)) w41 fun v37_56 w42 =>
  X Try.prog (Instr.fieldAt 148 v37_56 1) w42 fun v38_57 w43 =>
  XU Try.prog (Instr.storeAt 146 v38_57 (.slice none 0 0)) w43 fun w44 =>
  X Try.prog (nilS (ρ3 0)) w44 fun v39_59 w45 =>
  X Try.prog (Instr.fieldAt 148 v39_59 2) w45 fun v40_60 w46 =>
  XU Try.prog (Instr.storeAt 4 v40_60 (.bool false)) w46 fun w47 =>
  X Try.prog (nilS (ρ3 0)) w47 fun v41_62 w48 =>
  X Try.prog (Instr.fieldAt 148 v41_62 3) w48 fun v42_63 w49 =>
  XU Try.prog (Instr.storeAt 3 v42_63 (.int .i64 (-1))) w49 fun w50 =>
  K (.tuple #[]) w50) (retS Try.prog (Try.f112).results K))) (upds (env0 #[x0, x1]) [(4, (.int .i64 0))]) w

theorem eq_ref08_Disk_Crash (x0 x1 : Value) (w : World) (K : Value → World → Prop) :
    sh Try.prog (Try.f112.body.getD .skip) (retS Try.prog Try.f112.results K) (env0 #[x0, x1]) w = B_ref08_Disk_Crash x0 x1 w K := by kernel_rfl

theorem call_ref08_Disk_Crash (x0 x1 : Value) (w : World) (K : Value → World → Prop) (h : B_ref08_Disk_Crash x0 x1 w K) : CALL Try.prog 112 #[x0, x1] w K :=
  call_of_eq (c := Try.f112.body.getD .skip) mixed Try.func112 (by kernel_rfl) (by kernel_rfl) (by kernel_rfl) (Nat.le_of_ble_eq_true (by kernel_rfl)) (eq_ref08_Disk_Crash x0 x1 w K) h

/-- (*cellarage/cellarageref08.Disk).Read -/
def B_ref08_Disk_Read (x0 x1 : Value) (w : World) (K : Value → World → Prop) : Prop :=
  X Try.prog (binOp .lss 3 x1 (.int .i64 0)) w fun v1_7 w1 =>
  gstep v1_7 false (fun w2 K => K x1 w2) w1 fun v2_9 w3 =>
  gstep v1_7 false (fun w4 K => K x0 w4) w3 fun v3_10 w5 =>
  gstep v1_7 false (fun w6 K => X Try.prog (nilS v3_10) w6 K) w5 fun v4_11 w7 =>
  gstep v1_7 false (fun w8 K => X Try.prog (Instr.fieldAt 148 v4_11 0) w8 K) w7 fun v5_12 w9 =>
  gstep v1_7 false (fun w10 K => X Try.prog (Instr.loadAt 66 v5_12) w10 K) w9 fun v6_13 w11 =>
  gstep v1_7 false (fun w12 K => X Try.prog (Builtin.len_ #[66] 3 #[v6_13]) w12 K) w11 fun v7_14 w13 =>
  gstep v1_7 false (fun w14 K => X Try.prog (binOp .geq 3 v2_9 v7_14) w14 K) w13 fun v8_15 w15 =>
  X Try.prog (pickS v1_7 (.bool true) v8_15) w15 fun v9_16 w16 =>
  condS v9_16 (
  K (.tuple #[(.string { data := #[] }), (.int .i64 1)]) w16) (
  X Try.prog (nilS x0) w16 fun v10_18 w17 =>
  X Try.prog (Instr.fieldAt 148 v10_18 2) w17 fun v11_19 w18 =>
  X Try.prog (Instr.loadAt 4 v11_19) w18 fun v12_20 w19 =>
  condS v12_20 (
  K (.tuple #[(.string { data := #[] }), (.int .i64 6)]) w19) (
  CALL Try.prog 144 #[x0, x1] w19 fun v13_23 w20 =>
  K (.tuple #[v13_23, (.int .i64 0)]) w20))

theorem eq_ref08_Disk_Read (x0 x1 : Value) (w : World) (K : Value → World → Prop) :
    sh Try.prog (Try.f113.body.getD .skip) (retS Try.prog Try.f113.results K) (env0 #[x0, x1]) w = B_ref08_Disk_Read x0 x1 w K := by kernel_rfl

theorem call_ref08_Disk_Read (x0 x1 : Value) (w : World) (K : Value → World → Prop) (h : B_ref08_Disk_Read x0 x1 w K) : CALL Try.prog 113 #[x0, x1] w K :=
  call_of_eq (c := Try.f113.body.getD .skip) mixed Try.func113 (by kernel_rfl) (by kernel_rfl) (by kernel_rfl) (Nat.le_of_ble_eq_true (by kernel_rfl)) (eq_ref08_Disk_Read x0 x1 w K) h

/-- cellarage/cellarageref08.pad -/
def B_ref08_pad (x0 : Value) (w : World) (K : Value → World → Prop) : Prop :=
  X Try.prog (Instr.makeSlice 27 (.int .i64 128) (.int .i64 128)) w fun v1_5 w1 =>
  loopS (fun Q1 ρ1 w2 =>
  X Try.prog (Builtin.len_ #[9] 3 #[(ρ1 0)]) w2 fun v2_8 w3 =>
  X Try.prog (binOp .lss 3 (ρ1 4) v2_8) w3 fun v3_9 w4 =>
  condS v3_9 (
  X Try.prog (Instr.index 9 (ρ1 0) (ρ1 4)) w4 fun v4_16 w5 =>
  X Try.prog (Instr.indexAt 27 (ρ1 3) (ρ1 4)) w5 fun v5_17 w6 =>
  XU Try.prog (Instr.storeAt 5 v5_17 v4_16) w6 fun w7 =>
  X Try.prog (binOp .add 3 (ρ1 4) (.int .i64 1)) w7 fun v6_11 w8 =>
  Q1 .normal (upds ρ1 [(4, v6_11), (11, v6_11), (10, (ρ1 4)), (17, v5_17), (16, v4_16), (15, (ρ1 4)), (14, (ρ1 0)), (13, (ρ1 4)), (12, (ρ1 3)), (9, v3_9), (8, v2_8), (7, (ρ1 0)), (6, (ρ1 4))]) w8) (
  Q1 (.exit 0) (upds ρ1 [(9, v3_9), (8, v2_8), (7, (ρ1 0)), (6, (ρ1 4))]) w4)) (inBlockS 0 (thenS (fun ρ2 w9 =>
  X Try.prog (convert 27 9 (ρ2 3)) w9 fun v7_19 w10 =>
  K v7_19 w10) (retS Try.prog (Try.f133).results K))) (upds (env0 #[x0]) [(4, (.int .i64 0)), (3, v1_5), (5, v1_5), (2, (.string { data := #[] }))]) w1

theorem eq_ref08_pad (x0 : Value) (w : World) (K : Value → World → Prop) :
    sh Try.prog (Try.f133.body.getD .skip) (retS Try.prog Try.f133.results K) (env0 #[x0]) w = B_ref08_pad x0 w K := by kernel_rfl

theorem call_ref08_pad (x0 : Value) (w : World) (K : Value → World → Prop) (h : B_ref08_pad x0 w K) : CALL Try.prog 133 #[x0] w K :=
  call_of_eq (c := Try.f133.body.getD .skip) mixed Try.func133 (by kernel_rfl) (by kernel_rfl) (by kernel_rfl) (Nat.le_of_ble_eq_true (by kernel_rfl)) (eq_ref08_pad x0 w K) h

/-- (*cellarage/cellarageref08.Disk).off -/
def B_ref08_Disk_off (x0 : Value) (w : World) (K : Value → World → Prop) : Prop :=
  joinS (fun ρ1 w1 =>
  X Try.prog (nilS (ρ1 0)) w1 fun v1_15 w2 =>
  X Try.prog (Instr.fieldAt 148 v1_15 2) w2 fun v2_16 w3 =>
  X Try.prog (Instr.loadAt 4 v2_16) w3 fun v3_17 w4 =>
  K v3_17 w4) fun J1 =>
  X Try.prog (nilS x0) w fun v4_4 w5 =>
  X Try.prog (Instr.fieldAt 148 v4_4 3) w5 fun v5_5 w6 =>
  X Try.prog (Instr.loadAt 3 v5_5) w6 fun v6_6 w7 =>
  X Try.prog (binOpG .eql 3 (.tmp 6) (.const (.int .i64 0)) v6_6 (.int .i64 0)) w7 fun v7_7 w8 =>
  condS v7_7 (
  X Try.prog (nilS x0) w8 fun v8_9 w9 =>
  X Try.prog (Instr.fieldAt 148 v8_9 2) w9 fun v9_10 w10 =>
  XU Try.prog (Instr.storeAt 4 v9_10 (.bool true)) w10 fun w11 =>
  X Try.prog (nilS x0) w11 fun v10_12 w12 =>
  X Try.prog (Instr.fieldAt 148 v10_12 3) w12 fun v11_13 w13 =>
  XU Try.prog (Instr.storeAt 3 v11_13 (.int .i64 (-1))) w13 fun w14 =>
  J1 (upds (env0 #[x0]) [(13, v11_13), (12, v10_12), (11, x0), (10, v9_10), (9, v8_9), (8, x0), (7, v7_7), (6, v6_6), (5, v5_5), (4, v4_4), (3, x0), (2, (.bool false))]) w14) (
  J1 (upds (env0 #[x0]) [(7, v7_7), (6, v6_6), (5, v5_5), (4, v4_4), (3, x0), (2, (.bool false))]) w8)

theorem eq_ref08_Disk_off (x0 : Value) (w : World) (K : Value → World → Prop) :
    sh Try.prog (Try.f142.body.getD .skip) (retS Try.prog Try.f142.results K) (env0 #[x0]) w = B_ref08_Disk_off x0 w K := by kernel_rfl

theorem call_ref08_Disk_off (x0 : Value) (w : World) (K : Value → World → Prop) (h : B_ref08_Disk_off x0 w K) : CALL Try.prog 142 #[x0] w K :=
  call_of_eq (c := Try.f142.body.getD .skip) mixed Try.func142 (by kernel_rfl) (by kernel_rfl) (by kernel_rfl) (Nat.le_of_ble_eq_true (by kernel_rfl)) (eq_ref08_Disk_off x0 w K) h

/-- (*cellarage/cellarageref08.Disk).done -/
def B_ref08_Disk_done (x0 : Value) (w : World) (K : Value → World → Prop) : Prop :=
  X Try.prog (nilS x0) w fun v1_4 w1 =>
  X Try.prog (Instr.fieldAt 148 v1_4 4) w1 fun v2_5 w2 =>
  X Try.prog (Instr.loadAt 3 v2_5) w2 fun v3_6 w3 =>
  X Try.prog (binOp .add 3 v3_6 (.int .i64 1)) w3 fun v4_7 w4 =>
  X Try.prog (nilS x0) w4 fun v5_8 w5 =>
  X Try.prog (Instr.fieldAt 148 v5_8 4) w5 fun v6_9 w6 =>
  XU Try.prog (Instr.storeAt 3 v6_9 v4_7) w6 fun w7 =>
  joinS (fun ρ1 w8 =>
  K (.int .i64 0) w8) fun J1 =>
  X Try.prog (nilS x0) w7 fun v7_11 w9 =>
  X Try.prog (Instr.fieldAt 148 v7_11 3) w9 fun v8_12 w10 =>
  X Try.prog (Instr.loadAt 3 v8_12) w10 fun v9_13 w11 =>
  X Try.prog (binOp .gtr 3 v9_13 (.int .i64 0)) w11 fun v10_14 w12 =>
  condS v10_14 (
  X Try.prog (nilS x0) w12 fun v11_16 w13 =>
  X Try.prog (Instr.fieldAt 148 v11_16 3) w13 fun v12_17 w14 =>
  X Try.prog (Instr.loadAt 3 v12_17) w14 fun v13_18 w15 =>
  X Try.prog (binOp .sub 3 v13_18 (.int .i64 1)) w15 fun v14_19 w16 =>
  X Try.prog (nilS x0) w16 fun v15_20 w17 =>
  X Try.prog (Instr.fieldAt 148 v15_20 3) w17 fun v16_21 w18 =>
  XU Try.prog (Instr.storeAt 3 v16_21 v14_19) w18 fun w19 =>
  J1 (upds (env0 #[x0]) [(21, v16_21), (20, v15_20), (19, v14_19), (18, v13_18), (17, v12_17), (16, v11_16), (15, x0), (14, v10_14), (13, v9_13), (12, v8_12), (11, v7_11), (10, x0), (9, v6_9), (8, v5_8), (7, v4_7), (6, v3_6), (5, v2_5), (4, v1_4), (3, x0), (2, (.int .i64 0))]) w19) (
  J1 (upds (env0 #[x0]) [(14, v10_14), (13, v9_13), (12, v8_12), (11, v7_11), (10, x0), (9, v6_9), (8, v5_8), (7, v4_7), (6, v3_6), (5, v2_5), (4, v1_4), (3, x0), (2, (.int .i64 0))]) w12)

theorem eq_ref08_Disk_done (x0 : Value) (w : World) (K : Value → World → Prop) :
    sh Try.prog (Try.f143.body.getD .skip) (retS Try.prog Try.f143.results K) (env0 #[x0]) w = B_ref08_Disk_done x0 w K := by kernel_rfl

theorem call_ref08_Disk_done (x0 : Value) (w : World) (K : Value → World → Prop) (h : B_ref08_Disk_done x0 w K) : CALL Try.prog 143 #[x0] w K :=
  call_of_eq (c := Try.f143.body.getD .skip) mixed Try.func143 (by kernel_rfl) (by kernel_rfl) (by kernel_rfl) (Nat.le_of_ble_eq_true (by kernel_rfl)) (eq_ref08_Disk_done x0 w K) h

/-- (*cellarage/cellarageref08.Disk).now -/
def B_ref08_Disk_now (x0 x1 : Value) (w : World) (K : Value → World → Prop) : Prop :=
  X Try.prog (nilS x0) w fun v1_7 w1 =>
  X Try.prog (Instr.fieldAt 148 v1_7 1) w1 fun v2_8 w2 =>
  X Try.prog (Instr.loadAt 146 v2_8) w2 fun v3_9 w3 =>
  X Try.prog (Builtin.len_ #[146] 3 #[v3_9]) w3 fun v4_10 w4 =>
  X Try.prog (binOp .sub 3 v4_10 (.int .i64 1)) w4 fun v5_11 w5 =>
  loopS (fun Q1 ρ1 w6 =>
  X Try.prog (binOp .geq 3 (ρ1 5) (.int .i64 0)) w6 fun v6_13 w7 =>
  condS v6_13 (
  X Try.prog (nilS (ρ1 0)) w7 fun v7_17 w8 =>
  X Try.prog (Instr.fieldAt 148 v7_17 1) w8 fun v8_18 w9 =>
  X Try.prog (Instr.loadAt 146 v8_18) w9 fun v9_19 w10 =>
  X Try.prog (Instr.indexAt 146 v9_19 (ρ1 5)) w10 fun v10_21 w11 =>
  X Try.prog (Instr.fieldAt 200 v10_21 0) w11 fun v11_22 w12 =>
  X Try.prog (Instr.loadAt 3 v11_22) w12 fun v12_23 w13 =>
  X Try.prog (binOpG .eql 3 (.tmp 23) (.tmp 24) v12_23 (ρ1 1)) w13 fun v13_25 w14 =>
  condS v13_25 (
  X Try.prog (nilS (ρ1 0)) w14 fun v14_27 w15 =>
  X Try.prog (Instr.fieldAt 148 v14_27 1) w15 fun v15_28 w16 =>
  X Try.prog (Instr.loadAt 146 v15_28) w16 fun v16_29 w17 =>
  X Try.prog (Instr.indexAt 146 v16_29 (ρ1 5)) w17 fun v17_31 w18 =>
  X Try.prog (Instr.fieldAt 200 v17_31 1) w18 fun v18_32 w19 =>
  X Try.prog (Instr.loadAt 9 v18_32) w19 fun v19_33 w20 =>
  Q1 .ret (upds ρ1 [(4, v19_33), (33, v19_33), (32, v18_32), (31, v17_31), (30, (ρ1 5)), (29, v16_29), (28, v15_28), (27, v14_27), (26, (ρ1 0)), (25, v13_25), (24, (ρ1 1)), (23, v12_23), (22, v11_22), (21, v10_21), (20, (ρ1 5)), (19, v9_19), (18, v8_18), (17, v7_17), (16, (ρ1 0)), (13, v6_13), (12, (ρ1 5))]) w20) (
  X Try.prog (binOp .sub 3 (ρ1 5) (.int .i64 1)) w14 fun v20_15 w21 =>
  Q1 .normal (upds ρ1 [(5, v20_15), (15, v20_15), (14, (ρ1 5)), (25, v13_25), (24, (ρ1 1)), (23, v12_23), (22, v11_22), (21, v10_21), (20, (ρ1 5)), (19, v9_19), (18, v8_18), (17, v7_17), (16, (ρ1 0)), (13, v6_13), (12, (ρ1 5))]) w21)) (
  Q1 (.exit 0) (upds ρ1 [(13, v6_13), (12, (ρ1 5))]) w7)) (inBlockS 0 (thenS (fun ρ2 w22 =>
  X Try.prog (nilS (ρ2 0)) w22 fun v21_35 w23 =>
  X Try.prog (Instr.fieldAt 148 v21_35 0) w23 fun v22_36 w24 =>
  X Try.prog (Instr.loadAt 66 v22_36) w24 fun v23_37 w25 =>
  X Try.prog (Instr.indexAt 66 v23_37 (ρ2 1)) w25 fun v24_39 w26 =>
  X Try.prog (Instr.loadAt 9 v24_39) w26 fun v25_40 w27 =>
  K v25_40 w27) (retS Try.prog (Try.f144).results K))) (upds (env0 #[x0, x1]) [(5, v5_11), (11, v5_11), (10, v4_10), (9, v3_9), (8, v2_8), (7, v1_7), (6, x0), (4, (.string { data := #[] }))]) w5

theorem eq_ref08_Disk_now (x0 x1 : Value) (w : World) (K : Value → World → Prop) :
    sh Try.prog (Try.f144.body.getD .skip) (retS Try.prog Try.f144.results K) (env0 #[x0, x1]) w = B_ref08_Disk_now x0 x1 w K := by kernel_rfl

theorem call_ref08_Disk_now (x0 x1 : Value) (w : World) (K : Value → World → Prop) (h : B_ref08_Disk_now x0 x1 w K) : CALL Try.prog 144 #[x0, x1] w K :=
  call_of_eq (c := Try.f144.body.getD .skip) mixed Try.func144 (by kernel_rfl) (by kernel_rfl) (by kernel_rfl) (Nat.le_of_ble_eq_true (by kernel_rfl)) (eq_ref08_Disk_now x0 x1 w K) h

/-- cellarage/cellaragelaw08.shown -/
def B_law08_shown (w : World) (K : Value → World → Prop) : Prop :=
  CALL Try.prog 69 #[(.int .i64 2)] w fun v1_9 w1 =>
  X Try.prog (Instr.extract v1_9 0) w1 fun v2_10 w2 =>
  X Try.prog (Instr.extract v1_9 1) w2 fun v3_11 w3 =>
  X Try.prog (binOpG .eql 74 (.tmp 12) (.const (.pointer none)) v2_10 (.pointer none)) w3 fun v4_13 w4 =>
  gstep v4_13 false (fun w5 K => K v3_11 w5) w4 fun v5_15 w6 =>
  gstep v4_13 false (fun w7 K => X Try.prog (binOpG .neq 30 (.tmp 15) (.const (.int .i64 0)) v5_15 (.int .i64 0)) w7 K) w6 fun v6_16 w8 =>
  X Try.prog (pickS v4_13 (.bool true) v6_16) w8 fun v7_17 w9 =>
  gstep v7_17 false (fun w10 K => K v2_10 w10) w9 fun v8_19 w11 =>
  gstep v7_17 false (fun w12 K => X Try.prog (Instr.buildSlice 27 3 #[(0, (.int .u8 120)), (1, (.int .u8 121)), (2, (.int .u8 122))]) w12 K) w11 fun v9_20 w13 =>
  gstep v7_17 false (fun w14 K => X Try.prog (convert 27 27 v9_20) w14 K) w13 fun v10_21 w15 =>
  gstep v7_17 false (fun w16 K => CALL Try.prog 70 #[v8_19, (.int .i64 1), v10_21] w16 K) w15 fun v11_22 w17 =>
  gstep v7_17 false (fun w18 K => X Try.prog (binOpG .neq 30 (.tmp 22) (.const (.int .i64 0)) v11_22 (.int .i64 0)) w18 K) w17 fun v12_23 w19 =>
  X Try.prog (pickS v7_17 (.bool true) v12_23) w19 fun v13_24 w20 =>
  condS v13_24 (
  K (.bool false) w20) (
  CALL Try.prog 72 #[v2_10, (.slice none 0 0)] w20 fun v14_26 w21 =>
  CALL Try.prog 73 #[v2_10, (.int .i64 1)] w21 fun v15_29 w22 =>
  X Try.prog (Instr.extract v15_29 0) w22 fun v16_30 w23 =>
  X Try.prog (Instr.extract v15_29 1) w23 fun v17_31 w24 =>
  X Try.prog (Instr.buildSlice 27 3 #[(0, (.int .u8 120)), (1, (.int .u8 121)), (2, (.int .u8 122))]) w24 fun v18_33 w25 =>
  X Try.prog (convert 27 27 v18_33) w25 fun v19_34 w26 =>
  CALL Try.prog 70 #[v2_10, (.int .i64 1), v19_34] w26 fun v20_35 w27 =>
  X Try.prog (Instr.buildSlice 79 1 #[(0, (.int .i64 2))]) w27 fun v21_37 w28 =>
  CALL Try.prog 72 #[v2_10, v21_37] w28 fun v22_38 w29 =>
  CALL Try.prog 73 #[v2_10, (.int .i64 1)] w29 fun v23_41 w30 =>
  X Try.prog (Instr.extract v23_41 0) w30 fun v24_42 w31 =>
  X Try.prog (Instr.extract v23_41 1) w31 fun v25_43 w32 =>
  ∃ R, Frame? R ∧
  XP Try.prog (Builtin.len_ #[27] 3 #[v16_30]) (drewW w32) fun v26_45 w33 =>
  XP Try.prog (binOpG .eql 3 (.tmp 45) (.const (.int .i64 128)) v26_45 (.int .i64 128)) w33 fun v27_46 w34 =>
  gstep v27_46 true (fun w35 K => K v16_30 w35) w34 fun v28_48 w36 =>
  gstep v27_46 true (fun w37 K => XR Try.prog R (convert 27 9 v28_48) w37 K) w36 fun v29_49 w38 =>
  gstep v27_46 true (fun w39 K => X Try.prog (Instr.makeSlice 27 (.int .i64 128) (.int .i64 128)) w39 K) w38 fun v30_50 w40 =>
  R w38 w40 ∧
  gstep v27_46 true (fun w41 K => XR Try.prog R (convert 27 9 v30_50) w41 K) w40 fun v31_51 w42 =>
  gstep v27_46 true (fun w43 K => XP Try.prog (binOpG .eql 9 (.tmp 49) (.tmp 51) v29_49 v31_51) w43 K) w42 fun v32_52 w44 =>
  XP Try.prog (pickS v27_46 v32_52 (.bool false)) w44 fun v33_53 w45 =>
  gstep v33_53 true (fun w46 K => K v24_42 w46) w45 fun v34_55 w47 =>
  gstep v33_53 true (fun w48 K => XP Try.prog (Builtin.len_ #[27] 3 #[v34_55]) w48 K) w47 fun v35_56 w49 =>
  gstep v33_53 true (fun w50 K => XP Try.prog (binOpG .eql 3 (.tmp 56) (.const (.int .i64 128)) v35_56 (.int .i64 128)) w50 K) w49 fun v36_57 w51 =>
  XP Try.prog (pickS v33_53 v36_57 (.bool false)) w51 fun v37_58 w52 =>
  gstep v37_58 true (fun w53 K => K v24_42 w53) w52 fun v38_60 w54 =>
  gstep v37_58 true (fun w55 K => XP Try.prog (Instr.sliceAt 27 v38_60 none (some (.int .i64 3)) none) w55 K) w54 fun v39_61 w56 =>
  gstep v37_58 true (fun w57 K => XR Try.prog R (convert 27 9 v39_61) w57 K) w56 fun v40_62 w58 =>
  gstep v37_58 true (fun w59 K => XP Try.prog (binOpG .eql 9 (.tmp 62) (.const (.string { data := #[120, 121, 0] })) v40_62 (.string { data := #[120, 121, 0] })) w59 K) w58 fun v41_63 w60 =>
  XP Try.prog (pickS v37_58 v41_63 (.bool false)) w60 fun v42_64 w61 =>
  gstep v42_64 true (fun w62 K => K v17_31 w62) w61 fun v43_66 w63 =>
  gstep v42_64 true (fun w64 K => XP Try.prog (binOpG .eql 30 (.tmp 66) (.const (.int .i64 0)) v43_66 (.int .i64 0)) w64 K) w63 fun v44_67 w65 =>
  XP Try.prog (pickS v42_64 v44_67 (.bool false)) w65 fun v45_68 w66 =>
  gstep v45_68 true (fun w67 K => K v20_35 w67) w66 fun v46_70 w68 =>
  gstep v45_68 true (fun w69 K => XP Try.prog (binOpG .eql 30 (.tmp 70) (.const (.int .i64 0)) v46_70 (.int .i64 0)) w69 K) w68 fun v47_71 w70 =>
  XP Try.prog (pickS v45_68 v47_71 (.bool false)) w70 fun v48_72 w71 =>
  gstep v48_72 true (fun w72 K => K v25_43 w72) w71 fun v49_74 w73 =>
  gstep v48_72 true (fun w74 K => XP Try.prog (binOpG .eql 30 (.tmp 74) (.const (.int .i64 0)) v49_74 (.int .i64 0)) w74 K) w73 fun v50_75 w75 =>
  XP Try.prog (pickS v48_72 v50_75 (.bool false)) w75 fun v51_76 w76 =>
  gstep v51_76 true (fun w77 K => K v2_10 w77) w76 fun v52_78 w78 =>
  gstep v51_76 true (fun w79 K => CALL Try.prog 70 #[v52_78, (.int .i64 2), (.slice none 0 0)] w79 K) w78 fun v53_79 w80 =>
  R w78 w80 ∧
  gstep v51_76 true (fun w81 K => XP Try.prog (binOpG .eql 30 (.tmp 79) (.const (.int .i64 1)) v53_79 (.int .i64 1)) w81 K) w80 fun v54_80 w82 =>
  XP Try.prog (pickS v51_76 v54_80 (.bool false)) w82 fun v55_81 w83 =>
  K v55_81 w83)

theorem eq_law08_shown (w : World) (K : Value → World → Prop) :
    sh Try.prog (Try.f68.body.getD .skip) (retS Try.prog Try.f68.results K) (env0 #[]) w = B_law08_shown  w K := by kernel_rfl

theorem call_law08_shown (w : World) (K : Value → World → Prop) (h : B_law08_shown  w K) : CALL Try.prog 68 #[] w K :=
  call_of_eq (c := Try.f68.body.getD .skip) mixed Try.func68 (by kernel_rfl) (by kernel_rfl) (by kernel_rfl) (Nat.le_of_ble_eq_true (by kernel_rfl)) (eq_law08_shown  w K) h

/-- cellarage/cellaragelaw08.few -/
def B_law08_few (x0 : Value) (w : World) (K : Value → World → Prop) : Prop :=
  X Try.prog (Builtin.len_ #[83] 3 #[x0]) w fun v1_6 w1 =>
  loopS (fun Q1 ρ1 w2 =>
  X Try.prog (binOp .lss 3 (ρ1 7) (ρ1 6)) w2 fun v2_8 w3 =>
  condS v2_8 (
  X Try.prog (binOp .geq 3 (ρ1 7) (.int .i64 100)) w3 fun v3_11 w4 =>
  gstep v3_11 false (fun w5 K => K (ρ1 0) w5) w4 fun v4_13 w6 =>
  gstep v3_11 false (fun w7 K => K (ρ1 7) w7) w6 fun v5_14 w8 =>
  gstep v3_11 false (fun w9 K => X Try.prog (Instr.indexAt 83 v4_13 v5_14) w9 K) w8 fun v6_15 w10 =>
  gstep v3_11 false (fun w11 K => X Try.prog (Instr.fieldAt 86 v6_15 3) w11 K) w10 fun v7_16 w12 =>
  gstep v3_11 false (fun w13 K => X Try.prog (Instr.loadAt 27 v7_16) w13 K) w12 fun v8_17 w14 =>
  gstep v3_11 false (fun w15 K => X Try.prog (Builtin.len_ #[27] 3 #[v8_17]) w15 K) w14 fun v9_18 w16 =>
  gstep v3_11 false (fun w17 K => K (ρ1 3) w17) w16 fun v10_19 w18 =>
  gstep v3_11 false (fun w19 K => X Try.prog (binOp .gtr 3 v9_18 v10_19) w19 K) w18 fun v11_20 w20 =>
  X Try.prog (pickS v3_11 (.bool true) v11_20) w20 fun v12_21 w21 =>
  condS v12_21 (
  X Try.prog (Instr.sliceAt 83 (ρ1 0) none (some (ρ1 7)) none) w21 fun v13_24 w22 =>
  Q1 .ret (upds ρ1 [(2, v13_24), (24, v13_24), (23, (ρ1 7)), (22, (ρ1 0)), (21, v12_21), (20, v11_20), (19, v10_19), (18, v9_18), (17, v8_17), (16, v7_16), (15, v6_15), (14, v5_14), (13, v4_13), (12, v3_11), (11, v3_11), (10, (ρ1 7)), (4, (ρ1 7)), (9, (ρ1 7)), (8, v2_8)]) w22) (
  X Try.prog (Instr.indexAt 83 (ρ1 0) (ρ1 7)) w21 fun v14_28 w23 =>
  X Try.prog (Instr.fieldAt 86 v14_28 3) w23 fun v15_29 w24 =>
  X Try.prog (Instr.loadAt 27 v15_29) w24 fun v16_30 w25 =>
  X Try.prog (Builtin.len_ #[27] 3 #[v16_30]) w25 fun v17_31 w26 =>
  X Try.prog (binOp .sub 3 (ρ1 3) v17_31) w26 fun v18_32 w27 =>
  X Try.prog (binOp .add 3 (ρ1 7) (.int .i64 1)) w27 fun v19_33 w28 =>
  Q1 .normal (upds ρ1 [(7, v19_33), (33, v19_33), (3, v18_32), (32, v18_32), (31, v17_31), (30, v16_30), (29, v15_29), (28, v14_28), (27, (ρ1 7)), (26, (ρ1 0)), (25, (ρ1 3)), (21, v12_21), (20, v11_20), (19, v10_19), (18, v9_18), (17, v8_17), (16, v7_16), (15, v6_15), (14, v5_14), (13, v4_13), (12, v3_11), (11, v3_11), (10, (ρ1 7)), (4, (ρ1 7)), (9, (ρ1 7)), (8, v2_8)]) w28)) (
  Q1 (.exit 0) (upds ρ1 [(8, v2_8)]) w3)) (inBlockS 0 (thenS (fun ρ2 w29 =>
  K (ρ2 0) w29) (retS Try.prog (Try.f74).results K))) (upds (env0 #[x0]) [(7, (.int .i64 0)), (6, v1_6), (5, x0), (3, (.int .i64 20000)), (2, (.slice none 0 0))]) w1

theorem eq_law08_few (x0 : Value) (w : World) (K : Value → World → Prop) :
    sh Try.prog (Try.f74.body.getD .skip) (retS Try.prog Try.f74.results K) (env0 #[x0]) w = B_law08_few x0 w K := by kernel_rfl

theorem call_law08_few (x0 : Value) (w : World) (K : Value → World → Prop) (h : B_law08_few x0 w K) : CALL Try.prog 74 #[x0] w K :=
  call_of_eq (c := Try.f74.body.getD .skip) mixed Try.func74 (by kernel_rfl) (by kernel_rfl) (by kernel_rfl) (Nat.le_of_ble_eq_true (by kernel_rfl)) (eq_law08_few x0 w K) h

/-- cellarage/cellaragelaw08.does -/
def B_law08_does (x0 x1 : Value) (w : World) (K : Value → World → Prop) : Prop :=
  X Try.prog (Instr.box 86 x1) w fun v1_3 w1 =>
  joinS (fun ρ1 w2 =>
  K (.int .i64 0) w2) fun J1 =>
  X Try.prog (Instr.fieldAt 86 v1_3 0) w1 fun v2_5 w3 =>
  X Try.prog (Instr.loadAt 5 v2_5) w3 fun v3_6 w4 =>
  X Try.prog (binOp .rem 5 v3_6 (.int .u8 5)) w4 fun v4_7 w5 =>
  X Try.prog (binOpG .eql 5 (.tmp 7) (.const (.int .u8 0)) v4_7 (.int .u8 0)) w5 fun v5_9 w6 =>
  condS v5_9 (
  ∃ R, Frame? R ∧
  XP Try.prog (Instr.fieldAt 86 v1_3 1) (drewW w6) fun v6_11 w7 =>
  XR Try.prog R (Instr.loadAt 3 v6_11) w7 fun v7_12 w8 =>
  XP Try.prog (Instr.fieldAt 86 v1_3 3) w8 fun v8_14 w9 =>
  XR Try.prog R (Instr.loadAt 27 v8_14) w9 fun v9_15 w10 =>
  X Try.prog (Instr.buildSlice 27 0 #[]) w10 fun v10_13 w11 =>
  R w10 w11 ∧
  X Try.prog (Builtin.append_ #[27, 27] 27 #[v10_13, v9_15]) w11 fun v11_16 w12 =>
  R w11 w12 ∧
  CALL Try.prog 70 #[x0, v7_12, v11_16] w12 fun v12_17 w13 =>
  R w12 w13 ∧
  K v12_17 w13) (
  X Try.prog (binOpG .eql 5 (.tmp 7) (.const (.int .u8 1)) v4_7 (.int .u8 1)) w6 fun v13_19 w14 =>
  condS v13_19 (
  CALL Try.prog 71 #[x0] w14 fun v14_21 w15 =>
  K v14_21 w15) (
  X Try.prog (binOpG .eql 5 (.tmp 7) (.const (.int .u8 2)) v4_7 (.int .u8 2)) w14 fun v15_23 w16 =>
  condS v15_23 (
  X Try.prog (Instr.fieldAt 86 v1_3 2) w16 fun v16_25 w17 =>
  X Try.prog (Instr.loadAt 3 v16_25) w17 fun v17_26 w18 =>
  CALL Try.prog 78 #[x0, v17_26] w18 fun v18_27 w19 =>
  J1 (upds (env0 #[x0, x1]) [(27, v18_27), (26, v17_26), (25, v16_25), (24, x0), (22, v15_23), (23, v15_23), (18, v13_19), (19, v13_19), (8, v5_9), (9, v5_9), (7, v4_7), (6, v3_6), (5, v2_5), (4, (.int .i64 0)), (3, v1_3)]) w19) (
  X Try.prog (binOpG .eql 5 (.tmp 7) (.const (.int .u8 3)) v4_7 (.int .u8 3)) w16 fun v19_29 w20 =>
  condS v19_29 (
  X Try.prog (Instr.fieldAt 86 v1_3 4) w20 fun v20_31 w21 =>
  X Try.prog (Instr.loadAt 79 v20_31) w21 fun v21_32 w22 =>
  CALL Try.prog 72 #[x0, v21_32] w22 fun v22_33 w23 =>
  J1 (upds (env0 #[x0, x1]) [(33, v22_33), (32, v21_32), (31, v20_31), (30, x0), (28, v19_29), (29, v19_29), (22, v15_23), (23, v15_23), (18, v13_19), (19, v13_19), (8, v5_9), (9, v5_9), (7, v4_7), (6, v3_6), (5, v2_5), (4, (.int .i64 0)), (3, v1_3)]) w23) (
  J1 (upds (env0 #[x0, x1]) [(28, v19_29), (29, v19_29), (22, v15_23), (23, v15_23), (18, v13_19), (19, v13_19), (8, v5_9), (9, v5_9), (7, v4_7), (6, v3_6), (5, v2_5), (4, (.int .i64 0)), (3, v1_3)]) w20))))

theorem eq_law08_does (x0 x1 : Value) (w : World) (K : Value → World → Prop) :
    sh Try.prog (Try.f75.body.getD .skip) (retS Try.prog Try.f75.results K) (env0 #[x0, x1]) w = B_law08_does x0 x1 w K := by kernel_rfl

theorem call_law08_does (x0 x1 : Value) (w : World) (K : Value → World → Prop) (h : B_law08_does x0 x1 w K) : CALL Try.prog 75 #[x0, x1] w K :=
  call_of_eq (c := Try.f75.body.getD .skip) mixed Try.func75 (by kernel_rfl) (by kernel_rfl) (by kernel_rfl) (Nat.le_of_ble_eq_true (by kernel_rfl)) (eq_law08_does x0 x1 w K) h

/-- cellarage/cellaragelaw08.model -/
def B_law08_model (x0 x1 : Value) (w : World) (K : Value → World → Prop) : Prop :=
  X Try.prog (Instr.box 86 x1) w fun v1_3 w1 =>
  joinS (fun ρ1 w2 =>
  K (.int .i64 0) w2) fun J1 =>
  X Try.prog (Instr.fieldAt 86 v1_3 0) w1 fun v2_5 w3 =>
  X Try.prog (Instr.loadAt 5 v2_5) w3 fun v3_6 w4 =>
  X Try.prog (binOp .rem 5 v3_6 (.int .u8 5)) w4 fun v4_7 w5 =>
  X Try.prog (binOpG .eql 5 (.tmp 7) (.const (.int .u8 0)) v4_7 (.int .u8 0)) w5 fun v5_9 w6 =>
  condS v5_9 (
  X Try.prog (Instr.fieldAt 86 v1_3 1) w6 fun v6_11 w7 =>
  X Try.prog (Instr.loadAt 3 v6_11) w7 fun v7_12 w8 =>
  X Try.prog (Instr.fieldAt 86 v1_3 3) w8 fun v8_13 w9 =>
  X Try.prog (Instr.loadAt 27 v8_13) w9 fun v9_14 w10 =>
  X Try.prog (convert 27 9 v9_14) w10 fun v10_15 w11 =>
  CALL Try.prog 109 #[x0, v7_12, v10_15] w11 fun v11_16 w12 =>
  K v11_16 w12) (
  X Try.prog (binOpG .eql 5 (.tmp 7) (.const (.int .u8 1)) v4_7 (.int .u8 1)) w6 fun v12_18 w13 =>
  condS v12_18 (
  CALL Try.prog 110 #[x0] w13 fun v13_20 w14 =>
  K v13_20 w14) (
  X Try.prog (binOpG .eql 5 (.tmp 7) (.const (.int .u8 2)) v4_7 (.int .u8 2)) w13 fun v14_22 w15 =>
  condS v14_22 (
  X Try.prog (Instr.fieldAt 86 v1_3 2) w15 fun v15_24 w16 =>
  X Try.prog (Instr.loadAt 3 v15_24) w16 fun v16_25 w17 =>
  CALL Try.prog 111 #[x0, v16_25] w17 fun v17_26 w18 =>
  J1 (upds (env0 #[x0, x1]) [(26, v17_26), (25, v16_25), (24, v15_24), (23, x0), (21, v14_22), (22, v14_22), (17, v12_18), (18, v12_18), (8, v5_9), (9, v5_9), (7, v4_7), (6, v3_6), (5, v2_5), (4, (.int .i64 0)), (3, v1_3)]) w18) (
  X Try.prog (binOpG .eql 5 (.tmp 7) (.const (.int .u8 3)) v4_7 (.int .u8 3)) w15 fun v18_28 w19 =>
  condS v18_28 (
  X Try.prog (Instr.fieldAt 86 v1_3 4) w19 fun v19_30 w20 =>
  X Try.prog (Instr.loadAt 79 v19_30) w20 fun v20_31 w21 =>
  CALL Try.prog 112 #[x0, v20_31] w21 fun v21_32 w22 =>
  J1 (upds (env0 #[x0, x1]) [(32, v21_32), (31, v20_31), (30, v19_30), (29, x0), (27, v18_28), (28, v18_28), (21, v14_22), (22, v14_22), (17, v12_18), (18, v12_18), (8, v5_9), (9, v5_9), (7, v4_7), (6, v3_6), (5, v2_5), (4, (.int .i64 0)), (3, v1_3)]) w22) (
  J1 (upds (env0 #[x0, x1]) [(27, v18_28), (28, v18_28), (21, v14_22), (22, v14_22), (17, v12_18), (18, v12_18), (8, v5_9), (9, v5_9), (7, v4_7), (6, v3_6), (5, v2_5), (4, (.int .i64 0)), (3, v1_3)]) w19))))

theorem eq_law08_model (x0 x1 : Value) (w : World) (K : Value → World → Prop) :
    sh Try.prog (Try.f82.body.getD .skip) (retS Try.prog Try.f82.results K) (env0 #[x0, x1]) w = B_law08_model x0 x1 w K := by kernel_rfl

theorem call_law08_model (x0 x1 : Value) (w : World) (K : Value → World → Prop) (h : B_law08_model x0 x1 w K) : CALL Try.prog 82 #[x0, x1] w K :=
  call_of_eq (c := Try.f82.body.getD .skip) mixed Try.func82 (by kernel_rfl) (by kernel_rfl) (by kernel_rfl) (Nat.le_of_ble_eq_true (by kernel_rfl)) (eq_law08_model x0 x1 w K) h

/-- cellarage/cellaragelaw08.alike -/
def B_law08_alike (x0 x1 : Value) (w : World) (K : Value → World → Prop) : Prop :=
  ∃ R, Frame? R ∧
  XP Try.prog (nilS x1) (drewW w) fun v1_14 w1 =>
  XP Try.prog (Instr.fieldAt 148 v1_14 0) w1 fun v2_15 w2 =>
  XR Try.prog R (Instr.loadAt 66 v2_15) w2 fun v3_16 w3 =>
  XP Try.prog (Builtin.len_ #[66] 3 #[v3_16]) w3 fun v4_17 w4 =>
  CALL Try.prog 84 #[x0] w4 fun v5_12 w5 =>
  R w4 w5 ∧
  XP Try.prog (binOpG .neq 3 (.tmp 12) (.tmp 17) v5_12 v4_17) w5 fun v6_18 w6 =>
  gstep v6_18 false (fun w7 K => K x0 w7) w6 fun v7_20 w8 =>
  gstep v6_18 false (fun w9 K => K x1 w9) w8 fun v8_22 w10 =>
  gstep v6_18 false (fun w11 K => XP Try.prog (nilS v8_22) w11 K) w10 fun v9_23 w12 =>
  gstep v6_18 false (fun w13 K => XP Try.prog (Instr.fieldAt 148 v9_23 1) w13 K) w12 fun v10_24 w14 =>
  gstep v6_18 false (fun w15 K => XR Try.prog R (Instr.loadAt 146 v10_24) w15 K) w14 fun v11_25 w16 =>
  gstep v6_18 false (fun w17 K => XP Try.prog (Builtin.len_ #[146] 3 #[v11_25]) w17 K) w16 fun v12_26 w18 =>
  gstep v6_18 false (fun w19 K => CALL Try.prog 77 #[v7_20] w19 K) w18 fun v13_21 w20 =>
  R w18 w20 ∧
  gstep v6_18 false (fun w21 K => XP Try.prog (binOpG .neq 3 (.tmp 21) (.tmp 26) v13_21 v12_26) w21 K) w20 fun v14_27 w22 =>
  XP Try.prog (pickS v6_18 (.bool true) v14_27) w22 fun v15_28 w23 =>
  gstep v15_28 false (fun w24 K => K x0 w24) w23 fun v16_30 w25 =>
  gstep v15_28 false (fun w26 K => K x1 w26) w25 fun v17_32 w27 =>
  gstep v15_28 false (fun w28 K => XP Try.prog (nilS v17_32) w28 K) w27 fun v18_33 w29 =>
  gstep v15_28 false (fun w30 K => XP Try.prog (Instr.fieldAt 148 v18_33 2) w30 K) w29 fun v19_34 w31 =>
  gstep v15_28 false (fun w32 K => XR Try.prog R (Instr.loadAt 4 v19_34) w32 K) w31 fun v20_35 w33 =>
  gstep v15_28 false (fun w34 K => CALL Try.prog 76 #[v16_30] w34 K) w33 fun v21_31 w35 =>
  R w33 w35 ∧
  gstep v15_28 false (fun w36 K => XP Try.prog (binOpG .neq 4 (.tmp 31) (.tmp 35) v21_31 v20_35) w36 K) w35 fun v22_36 w37 =>
  XP Try.prog (pickS v15_28 (.bool true) v22_36) w37 fun v23_37 w38 =>
  gstep v23_37 false (fun w39 K => K x0 w39) w38 fun v24_39 w40 =>
  gstep v23_37 false (fun w41 K => K x1 w41) w40 fun v25_41 w42 =>
  gstep v23_37 false (fun w43 K => XP Try.prog (nilS v25_41) w43 K) w42 fun v26_42 w44 =>
  gstep v23_37 false (fun w45 K => XP Try.prog (Instr.fieldAt 148 v26_42 4) w45 K) w44 fun v27_43 w46 =>
  gstep v23_37 false (fun w47 K => XR Try.prog R (Instr.loadAt 3 v27_43) w47 K) w46 fun v28_44 w48 =>
  gstep v23_37 false (fun w49 K => CALL Try.prog 79 #[v24_39] w49 K) w48 fun v29_40 w50 =>
  R w48 w50 ∧
  gstep v23_37 false (fun w51 K => XP Try.prog (binOpG .neq 3 (.tmp 40) (.tmp 44) v29_40 v28_44) w51 K) w50 fun v30_45 w52 =>
  XP Try.prog (pickS v23_37 (.bool true) v30_45) w52 fun v31_46 w53 =>
  condS v31_46 (
  K (.bool false) w53) (
  loopS (fun Q1 ρ1 w54 =>
  X Try.prog (nilS (ρ1 1)) w54 fun v32_49 w55 =>
  X Try.prog (Instr.fieldAt 148 v32_49 0) w55 fun v33_50 w56 =>
  X Try.prog (Instr.loadAt 66 v33_50) w56 fun v34_51 w57 =>
  X Try.prog (Builtin.len_ #[66] 3 #[v34_51]) w57 fun v35_52 w58 =>
  X Try.prog (Builtin.min_ #[3, 3] 3 #[(.int .i64 40), v35_52]) w58 fun v36_53 w59 =>
  X Try.prog (binOp .leq 3 (ρ1 5) v36_53) w59 fun v37_54 w60 =>
  condS v37_54 (
  CALL Try.prog 73 #[(ρ1 0), (ρ1 5)] w60 fun v38_60 w61 =>
  X Try.prog (Instr.extract v38_60 0) w61 fun v39_61 w62 =>
  X Try.prog (Instr.extract v38_60 1) w62 fun v40_62 w63 =>
  CALL Try.prog 113 #[(ρ1 1), (ρ1 5)] w63 fun v41_66 w64 =>
  X Try.prog (Instr.extract v41_66 0) w64 fun v42_67 w65 =>
  X Try.prog (Instr.extract v41_66 1) w65 fun v43_68 w66 =>
  X Try.prog (convert 27 9 v39_61) w66 fun v44_70 w67 =>
  X Try.prog (binOpG .neq 9 (.tmp 70) (.tmp 71) v44_70 v42_67) w67 fun v45_72 w68 =>
  gstep v45_72 false (fun w69 K => K v40_62 w69) w68 fun v46_74 w70 =>
  gstep v45_72 false (fun w71 K => K v43_68 w71) w70 fun v47_75 w72 =>
  gstep v45_72 false (fun w73 K => X Try.prog (binOpG .neq 30 (.tmp 74) (.tmp 75) v46_74 v47_75) w73 K) w72 fun v48_76 w74 =>
  X Try.prog (pickS v45_72 (.bool true) v48_76) w74 fun v49_77 w75 =>
  condS v49_77 (
  Q1 .ret (upds ρ1 [(4, (.bool false)), (77, v49_77), (76, v48_76), (75, v47_75), (74, v46_74), (73, v45_72), (72, v45_72), (71, v42_67), (70, v44_70), (69, v39_61), (9, v43_68), (8, v42_67), (68, v43_68), (67, v42_67), (63, v41_66), (66, v41_66), (65, (ρ1 5)), (64, (ρ1 1)), (7, v40_62), (6, v39_61), (62, v40_62), (61, v39_61), (57, v38_60), (60, v38_60), (59, (ρ1 5)), (58, (ρ1 0)), (54, v37_54), (53, v36_53), (52, v35_52), (51, v34_51), (50, v33_50), (49, v32_49), (48, (ρ1 1)), (47, (ρ1 5))]) w75) (
  X Try.prog (Builtin.len_ #[27] 3 #[v39_61]) w75 fun v50_79 w76 =>
  loopS (fun Q2 ρ2 w77 =>
  X Try.prog (binOp .lss 3 (ρ2 80) (ρ2 79)) w77 fun v51_81 w78 =>
  condS v51_81 (
  X Try.prog (Instr.indexAt 27 (ρ2 6) (ρ2 80)) w78 fun v52_85 w79 =>
  X Try.prog (Instr.loadAt 5 v52_85) w79 fun v53_86 w80 =>
  X Try.prog (binOp .xor 5 v53_86 (.int .u8 255)) w80 fun v54_87 w81 =>
  X Try.prog (Instr.indexAt 27 (ρ2 6) (ρ2 80)) w81 fun v55_88 w82 =>
  XU Try.prog (Instr.storeAt 5 v55_88 v54_87) w82 fun w83 =>
  X Try.prog (binOp .add 3 (ρ2 80) (.int .i64 1)) w83 fun v56_89 w84 =>
  Q2 .normal (upds ρ2 [(80, v56_89), (89, v56_89), (88, v55_88), (87, v54_87), (86, v53_86), (85, v52_85), (84, (ρ2 80)), (83, (ρ2 6)), (10, (ρ2 80)), (82, (ρ2 80)), (81, v51_81)]) w84) (
  Q2 (.exit 2) (upds ρ2 [(81, v51_81)]) w78)) (inBlockS 2 (inBlockS 1 (thenS (fun ρ3 w85 =>
  X Try.prog (binOp .add 3 (ρ3 5) (.int .i64 1)) w85 fun v57_56 w86 =>
  Q1 .normal (upds ρ3 [(5, v57_56), (56, v57_56), (55, (ρ3 5))]) w86) Q1))) (upds ρ1 [(80, (.int .i64 0)), (79, v50_79), (78, v39_61), (77, v49_77), (76, v48_76), (75, v47_75), (74, v46_74), (73, v45_72), (72, v45_72), (71, v42_67), (70, v44_70), (69, v39_61), (9, v43_68), (8, v42_67), (68, v43_68), (67, v42_67), (63, v41_66), (66, v41_66), (65, (ρ1 5)), (64, (ρ1 1)), (7, v40_62), (6, v39_61), (62, v40_62), (61, v39_61), (57, v38_60), (60, v38_60), (59, (ρ1 5)), (58, (ρ1 0)), (54, v37_54), (53, v36_53), (52, v35_52), (51, v34_51), (50, v33_50), (49, v32_49), (48, (ρ1 1)), (47, (ρ1 5))]) w76)) (
  Q1 (.exit 0) (upds ρ1 [(54, v37_54), (53, v36_53), (52, v35_52), (51, v34_51), (50, v33_50), (49, v32_49), (48, (ρ1 1)), (47, (ρ1 5))]) w60)) (inBlockS 0 (thenS (fun ρ4 w87 =>
  K (.bool true) w87) (retS Try.prog (Try.f83).results K))) (upds (env0 #[x0, x1]) [(5, (.int .i64 (-1))), (46, v31_46), (45, v30_45), (40, v29_40), (44, v28_44), (43, v27_43), (42, v26_42), (41, v25_41), (39, v24_39), (38, v23_37), (37, v23_37), (36, v22_36), (31, v21_31), (35, v20_35), (34, v19_34), (33, v18_33), (32, v17_32), (30, v16_30), (29, v15_28), (28, v15_28), (27, v14_27), (21, v13_21), (26, v12_26), (25, v11_25), (24, v10_24), (23, v9_23), (22, v8_22), (20, v7_20), (19, v6_18), (18, v6_18), (12, v5_12), (17, v4_17), (16, v3_16), (15, v2_15), (14, v1_14), (13, x1), (11, x0), (4, (.bool false))]) w53)

theorem eq_law08_alike (x0 x1 : Value) (w : World) (K : Value → World → Prop) :
    sh Try.prog (Try.f83.body.getD .skip) (retS Try.prog Try.f83.results K) (env0 #[x0, x1]) w = B_law08_alike x0 x1 w K := by kernel_rfl

theorem call_law08_alike (x0 x1 : Value) (w : World) (K : Value → World → Prop) (h : B_law08_alike x0 x1 w K) : CALL Try.prog 83 #[x0, x1] w K :=
  call_of_eq (c := Try.f83.body.getD .skip) mixed Try.func83 (by kernel_rfl) (by kernel_rfl) (by kernel_rfl) (Nat.le_of_ble_eq_true (by kernel_rfl)) (eq_law08_alike x0 x1 w K) h

end Go.Proofs.Ytggggfcgnkllgaa
end
section
/- cellaragelaw08's reference disk in memory, and what its small functions compute. -/
set_option linter.unusedSimpArgs false
set_option linter.unusedVariables false
namespace Go.Proofs.Ytggggfcgnkllgaa
open Go Go.Sh Go.RowKit
attribute [local irreducible] X XU XP XR CALL loopS resC closS

section
variable {P : Program}
theorem run_index_str {T : TypeId} (hT : P.underlying T = some .string) (l : List UInt8) (k : IntKind) {ii : Int} (i : Nat) (e1 : ii = i) (h : i < l.length) (w : World) : (Instr.index T (.string (str l)) (.int k ii)).run P w = .ok (.int .u8 ((l[i].toNat : Nat) : Int)) w := by
  subst e1
  have h2 : (str l)[i]? = some l[i] := by
    have hs : i < (str l).size := by rw [str_size]; exact h
    have e := getElem?_pos (str l) i hs
    rw [e]
    congr 1
  simp [Instr.index, asIntOf, run_underlying hT, h2]
theorem extract_str (l : List UInt8) (a b : Nat) : (str l).extract a b = str ((l.take b).drop a) := by
  apply ByteArray.ext
  simp only [str, ByteArray.data_extract]
  rw [List.extract_toArray]
  simp [List.extract_eq_take_drop, List.drop_take]
theorem run_cutstr_hi {T : TypeId} (hT : P.underlying T = some .string) (l : List UInt8) (k : IntKind) (n : Nat) (h : n ≤ l.length) (w : World) : (Instr.sliceAt T (.string (str l)) none (some (.int k (n : Int))) none).run P w = .ok (.string (str (l.take n))) w := by
  have h' : n ≤ (str l).size := by rw [str_size]; exact h
  simp [Instr.sliceAt, Instr.slice, run_underlying hT, Instr.sliceBounds, Instr.sliceBound, asIntOf, h', extract_str]
theorem run_cutstr_lo {T : TypeId} (hT : P.underlying T = some .string) (l : List UInt8) (k : IntKind) (n : Nat) (h : n ≤ l.length) (w : World) : (Instr.sliceAt T (.string (str l)) (some (.int k (n : Int))) none none).run P w = .ok (.string (str (l.drop n))) w := by
  have h' : n ≤ (str l).size := by rw [str_size]; exact h
  simp [Instr.sliceAt, Instr.slice, run_underlying hT, Instr.sliceBounds, Instr.sliceBound, asIntOf, h, h', extract_str, str_size, List.take_length]
theorem str_append (a b : List UInt8) : str a ++ str b = str (a ++ b) := by
  apply ByteArray.ext
  simp [str]
end
def strs (l : List (List UInt8)) : List Value := l.map fun s => .string (str s)
def pcs (p : Nat × List UInt8) : List Value := [.int .i64 (p.1 : Int), .string (str p.2)]
def putL (ws : List (Nat × List UInt8)) : List Value := (ws.map pcs).flatten
theorem pcs_all (ws : List (Nat × List UInt8)) : ∀ s ∈ ws.map pcs, s.length = 2 := by
  intro s hs
  obtain ⟨p, hp, rfl⟩ := List.mem_map.1 hs
  rfl
theorem putL_append (a b : List (Nat × List UInt8)) : putL (a ++ b) = putL a ++ putL b := by simp [putL]
theorem pcs_one (p : Nat × List UInt8) : ∀ v ∈ pcs p, v.oneCell' = true := by
  intro v hv
  simp only [pcs, List.mem_cons, List.not_mem_nil, or_false] at hv
  rcases hv with rfl | rfl <;> rfl
theorem strs_one (l : List (List UInt8)) : ∀ v ∈ strs l, v.oneCell' = true := by
  intro v hv
  obtain ⟨s, _, rfl⟩ := List.mem_map.1 hv
  rfl
structure RAt (w : World) (b : Nat) (d : Dk) (sv pv : Value) : Prop where
  blk : w.heap[b]? = some (.cells #[sv, pv, .bool d.dead, .int .i64 d.fuse, .int .i64 d.done] 148 (0, 0))
  safe : w.ownsRow 0 9 1 sv d.safe.length (strs d.safe)
  ws : w.ownsRow 0 200 2 pv d.ws.length (putL d.ws)
def RefAt (w : World) (b : Nat) (d : Dk) : Prop := d.ok ∧ ∃ sv pv, RAt w b d sv pv
theorem RAt.foot {w : World} {b : Nat} {d : Dk} {sv pv : Value} (h : RAt w b d sv pv) {k : Nat} : Go.Sh.foot w b k ↔ k = b ∨ sv.ownBlock = some k ∨ pv.ownBlock = some k := by
  rw [foot_cells h.blk]
  simp [Value.ownBlock]
theorem RAt.lt {w : World} {b : Nat} {d : Dk} {sv pv : Value} (h : RAt w b d sv pv) {k : Nat} (hk : Go.Sh.foot w b k) : k < w.heap.size := by
  rcases h.foot.1 hk with rfl | h1 | h1
  · exact lt_of_blk h.blk
  · exact (h.safe.lt k h1).2
  · exact (h.ws.lt k h1).2
theorem RAt.keep {w w' : World} {b : Nat} {d : Dk} {sv pv : Value} {D : Nat → Prop} (h : RAt w b d sv pv) (k : Keep D w w') (hd : ∀ k, Go.Sh.foot w b k → ¬ D k) : RAt w' b d sv pv :=
  ⟨k.get (hd b (foot_self w b)) h.blk, own_keepD h.safe k (fun g hg => hd g (h.foot.2 (.inr (.inl hg)))), own_keepD h.ws k (fun g hg => hd g (h.foot.2 (.inr (.inr hg))))⟩
theorem RAt.ext {w w' : World} {b : Nat} {d : Dk} {sv pv : Value} (h : RAt w b d sv pv) (k : Ext w w') : RAt w' b d sv pv := h.keep k (fun _ _ h => h)
theorem RAt.b_ne {w : World} {b : Nat} {d : Dk} {sv pv : Value} (h : RAt w b d sv pv) : sv.ownBlock ≠ some b ∧ pv.ownBlock ≠ some b :=
  ⟨own_neT h.safe h.blk (by decide), own_neT h.ws h.blk (by decide)⟩
theorem RefAt.lt {w : World} {b : Nat} {d : Dk} (h : RefAt w b d) : ∀ k, Go.Sh.foot w b k → k < w.heap.size := fun k hk => by
  obtain ⟨_, sv, pv, h⟩ := h
  exact h.lt hk
theorem RefAt.keep {w w' : World} {b : Nat} {d : Dk} {D : Nat → Prop} (h : RefAt w b d) (k : Keep D w w') (hd : ∀ k, Go.Sh.foot w b k → ¬ D k) : RefAt w' b d := by
  obtain ⟨ho, sv, pv, h⟩ := h
  exact ⟨ho, sv, pv, h.keep k hd⟩
theorem RefAt.ext {w w' : World} {b : Nat} {d : Dk} (h : RefAt w b d) (k : Ext w w') : RefAt w' b d := h.keep k (fun _ _ h => h)
theorem RAt.put {w : World} {b : Nat} {d : Dk} {sv pv : Value} (h : RAt w b d sv pv) {cs' : Array Value} (d' : Dk) (e2 : d'.safe = d.safe) (e3 : d'.ws = d.ws)
    (e : cs' = #[sv, pv, .bool d'.dead, .int .i64 d'.fuse, .int .i64 d'.done]) : RAt (setAt w b cs' 148 (0, 0)) b d' sv pv ∧ Step b w (setAt w b cs' 148 (0, 0)) := by
  have k := setAt_keep w b cs' 148 (0, 0)
  have hb := setAt_same (cs := cs') (T := 148) (fr := (0, 0)) (lt_of_blk h.blk)
  obtain ⟨n1, n2⟩ := h.b_ne
  have hr : RAt (setAt w b cs' 148 (0, 0)) b d' sv pv := by
    refine ⟨by rw [hb, e], ?_, ?_⟩
    · rw [e2]; exact own_keepD h.safe k (fun g hg hgb => n1 (by rw [hg, hgb]))
    · rw [e3]; exact own_keepD h.ws k (fun g hg hgb => n2 (by rw [hg, hgb]))
  refine ⟨hr, k.mono (fun i _ hi => by subst hi; exact foot_self w i), fun k' hk' => .inl ?_⟩
  exact h.foot.2 (hr.foot.1 hk')
/-- A safe sector: where it lies, and what writing it does. -/
theorem RAt.safe_at {w : World} {b : Nat} {d : Dk} {sv pv : Value} (h : RAt w b d sv pv) {i : Nat} (hi : i < d.safe.length) :
    ∃ g cap cur, sv = .slice (some ⟨g, 0, none⟩) d.safe.length cap ∧ w.heap[g]? = some (.cells cur 9 (0, 0)) ∧ i < cur.size ∧ cur[i]? = some (.string (str d.safe[i])) ∧ (∀ w', (Instr.indexAt 66 sv (.int .i64 (i : Int))).run Try.prog w' = .ok (.pointer (some ⟨g, i, none⟩)) w') ∧
      ∀ x : List UInt8, RAt (setAt w g (cur.setIfInBounds i (.string (str x))) 9 (0, 0)) b { d with safe := d.safe.set i x } sv pv ∧ Step b w (setAt w g (cur.setIfInBounds i (.string (str x))) 9 (0, 0)) := by
  rcases id h.safe.2 with ⟨_, h0⟩ | ⟨g, cap, cur, hsv, hg, hh, hn, hm, hs, ht⟩
  · omega
  have hic : i < cur.size := by omega
  have hsb : sv.ownBlock = some g := by rw [hsv]; rfl
  refine ⟨g, cap, cur, hsv, hh, hic, ?_, fun w' => by rw [hsv, ix Try.underlying66 info_9 i rfl hi w', sz_9, Nat.mul_one, add_plain, Nat.zero_add], fun x => ?_⟩
  · have e := congrArg (fun x => x[i]?) ht
    simp only [List.getElem?_take, show i < d.safe.length * 1 by omega, if_true] at e
    simp only [strs, List.getElem?_map, List.getElem?_eq_getElem hi, Option.map_some] at e
    simpa using e
  · have k := setAt_keep w g (cur.setIfInBounds i (.string (str x))) 9 (0, 0)
    obtain ⟨n1, n2⟩ := h.b_ne
    have hgb : ¬ b = g := fun e => n1 (by rw [hsb, e])
    have hr : RAt (setAt w g (cur.setIfInBounds i (.string (str x))) 9 (0, 0)) b { d with safe := d.safe.set i x } sv pv := by
      refine ⟨k.get hgb h.blk, ?_, own_keepD h.ws k (fun g' hg' e => own_neO h.safe h.ws (by decide) hsb (by rw [hg', e]))⟩
      show World.ownsRow _ 0 9 1 sv (d.safe.set i x).length (strs (d.safe.set i x))
      rw [List.length_set]
      refine ⟨by simp [strs], .inr ⟨g, cap, _, hsv, hg, setAt_same (lt_of_blk hh), hn, hm, by simpa using hs, ?_⟩⟩
      unfold strs at ht ⊢
      rw [List.map_set, ← ht]
      simp [List.take_set]
    refine ⟨hr, k.mono (fun j _ hj => by rw [hj]; exact h.foot.2 (.inr (.inl hsb))), fun k' hk' => .inl ?_⟩
    exact h.foot.2 (hr.foot.1 hk')
/-- A write that is not safe. -/
theorem RAt.ws_at {w : World} {b : Nat} {d : Dk} {sv pv : Value} (h : RAt w b d sv pv) {i : Nat} (hi : i < d.ws.length) :
    ∃ g cap cur, pv = .slice (some ⟨g, 0, none⟩) d.ws.length cap ∧ w.heap[g]? = some (.cells cur 200 (0, 0)) ∧ cur[i * 2]? = some (.int .i64 (d.ws[i].1 : Int)) ∧ cur[i * 2 + 1]? = some (.string (str d.ws[i].2)) ∧ (cur.toList.drop (i * 2)).take 2 = pcs d.ws[i] ∧ (∀ w', (Instr.indexAt 146 pv (.int .i64 (i : Int))).run Try.prog w' = .ok (.pointer (some ⟨g, i * 2, none⟩)) w') := by
  rcases id h.ws.2 with ⟨_, h0⟩ | ⟨g, cap, cur, hv, hg, hh, hn, hm, hs, ht⟩
  · omega
  · have e := congrArg (fun x => (x.drop (i * 2)).take 2) ht
    rw [List.drop_take, List.take_take, show min 2 (d.ws.length * 2 - i * 2) = 2 by omega] at e
    have e2 : ((putL d.ws).drop (i * 2)).take 2 = pcs d.ws[i] := by
      unfold putL
      rw [flat_at (pcs_all d.ws) (by simpa using hi), List.getElem_map]
    rw [e2] at e
    refine ⟨g, cap, cur, hv, hh, ?_, ?_, e, fun w' => by rw [hv, ix Try.underlying146 info_200 i rfl hi w', sz_200, add_plain, Nat.zero_add]⟩
    · have e3 := congrArg (fun x => x[0]?) e
      simp only [List.getElem?_take, List.getElem?_drop, pcs] at e3
      simpa using e3
    · have e3 := congrArg (fun x => x[1]?) e
      simp only [List.getElem?_take, List.getElem?_drop, pcs] at e3
      simpa using e3
theorem RAt.append {w w1 : World} {b : Nat} {d : Dk} {sv pv v' : Value} (h : RAt w b d sv pv) (p : Nat × List UInt8) (k : Keep (fun k => some k = pv.ownBlock) w w1)
    (ho : w1.ownsRow 0 200 2 v' (d.ws.length + 1) (putL d.ws ++ pcs p)) (hn : ∀ g, v'.ownBlock = some g → pv.ownBlock = some g ∨ w.heap.size ≤ g) :
    w1.heap[b]? = some (.cells #[sv, pv, .bool d.dead, .int .i64 d.fuse, .int .i64 d.done] 148 (0, 0)) ∧
    RAt (setAt w1 b #[sv, v', .bool d.dead, .int .i64 d.fuse, .int .i64 d.done] 148 (0, 0)) b { d with ws := d.ws ++ [p] } sv v' ∧ Step b w (setAt w1 b #[sv, v', .bool d.dead, .int .i64 d.fuse, .int .i64 d.done] 148 (0, 0)) := by
  obtain ⟨n1, n2⟩ := h.b_ne
  have hb1 : w1.heap[b]? = some (.cells #[sv, pv, .bool d.dead, .int .i64 d.fuse, .int .i64 d.done] 148 (0, 0)) := k.get (fun e => n2 e.symm) h.blk
  have k2 := setAt_keep w1 b #[sv, v', .bool d.dead, .int .i64 d.fuse, .int .i64 d.done] 148 (0, 0)
  have hsafe1 := own_keepD h.safe k (fun g hg e => own_neO h.safe h.ws (by decide) hg e.symm)
  have hr : RAt (setAt w1 b #[sv, v', .bool d.dead, .int .i64 d.fuse, .int .i64 d.done] 148 (0, 0)) b { d with ws := d.ws ++ [p] } sv v' := by
    refine ⟨setAt_same (lt_of_blk hb1), own_keepD hsafe1 k2 (fun g hg e => n1 (by rw [hg, e])), ?_⟩
    have e1 : (d.ws ++ [p]).length = d.ws.length + 1 := by simp
    have e2 : putL (d.ws ++ [p]) = putL d.ws ++ pcs p := by rw [putL_append]; simp [putL]
    show World.ownsRow _ 0 200 2 v' (d.ws ++ [p]).length (putL (d.ws ++ [p]))
    rw [e1, e2]
    exact own_keepD ho k2 (fun g hg e => own_neT ho hb1 (by decide) (by rw [hg, e]))
  refine ⟨hb1, hr, ?_, fun k' hk' => ?_⟩
  · refine Keep.seq (k.mono (fun i _ hi => h.foot.2 (.inr (.inr hi.symm)))) k2 (fun i _ hi => ?_)
    rw [hi]; exact foot_self w b
  · rcases hr.foot.1 hk' with h1 | h1 | h1
    · exact .inl (h.foot.2 (.inl h1))
    · exact .inl (h.foot.2 (.inr (.inl h1)))
    · rcases hn _ h1 with h2 | h2
      · exact .inl (h.foot.2 (.inr (.inr h2)))
      · exact .inr h2
theorem RAt.clear {w : World} {b : Nat} {d : Dk} {sv pv : Value} (h : RAt w b d sv pv) :
    RAt (setAt w b #[sv, .slice none 0 0, .bool d.dead, .int .i64 d.fuse, .int .i64 d.done] 148 (0, 0)) b { d with ws := [] } sv (.slice none 0 0) ∧ Step b w (setAt w b #[sv, .slice none 0 0, .bool d.dead, .int .i64 d.fuse, .int .i64 d.done] 148 (0, 0)) := by
  obtain ⟨n1, n2⟩ := h.b_ne
  have k := setAt_keep w b #[sv, .slice none 0 0, .bool d.dead, .int .i64 d.fuse, .int .i64 d.done] 148 (0, 0)
  have hr : RAt (setAt w b #[sv, .slice none 0 0, .bool d.dead, .int .i64 d.fuse, .int .i64 d.done] 148 (0, 0)) b { d with ws := [] } sv (.slice none 0 0) :=
    ⟨setAt_same (lt_of_blk h.blk), own_keepD h.safe k (fun g hg e => n1 (by rw [hg, e])), ⟨rfl, .inl ⟨rfl, rfl⟩⟩⟩
  refine ⟨hr, k.mono (fun i _ hi => by rw [hi]; exact foot_self w b), fun k' hk' => .inl ?_⟩
  rcases hr.foot.1 hk' with h1 | h1 | h1
  · exact h.foot.2 (.inl h1)
  · exact h.foot.2 (.inr (.inl h1))
  · cases h1

/-- pad. -/
theorem pad_spec {l : List UInt8} {w : World} {K : Value → World → Prop} (hl : l.length ≤ 128) (hK : ∀ w1, Ext w w1 → K (.string (str (padB l))) w1) : CALL Try.prog 133 #[.string (str l)] w K := by
  apply call_ref08_pad
  unfold B_ref08_pad
  refine X_make Try.underlying27 el_5 128 128 rfl rfl (Nat.le_refl _) (by decide) (by decide) ?_
  have hcells : madeCells (Value.int .u8 0).cells (128 * 1) = (B8 (l.take 0 ++ List.replicate (128 - 0) 0)).toArray := by
    apply Array.ext'
    have : (madeCells (Value.int .u8 0).cells 128).toList = List.replicate 128 (.int .u8 0) := made_one _ _
    rw [Nat.mul_one, this]
    simp [B8]
  rw [hcells]
  have hg := newB_get w (B8 (l.take 0 ++ List.replicate (128 - 0) 0)).toArray 5
  have hx := newB_ext w (B8 (l.take 0 ++ List.replicate (128 - 0) 0)).toArray 5
  generalize newB w (B8 (l.take 0 ++ List.replicate (128 - 0) 0)).toArray 5 = w1 at hg hx ⊢
  refine loopE (fun ρ wr => ∃ i : Nat, i ≤ l.length ∧ Ext w wr ∧ wr.heap[w.heap.size]? = some (.cells (B8 (l.take i ++ List.replicate (128 - i) 0)).toArray 5 (0, 0)) ∧
      ρ 4 = .int .i64 (i : Nat) ∧ ρ 3 = .slice (some ⟨w.heap.size, 0, none⟩) 128 128 ∧ ρ 0 = .string (str l))
    (fun ρ wr => match ρ 4 with | .int _ s => (l.length - s).toNat | _ => 0)
    (fun ρ wr => Ext w wr ∧ wr.heap[w.heap.size]? = some (.cells (B8 (padB l)).toArray 5 (0, 0)) ∧ ρ 3 = .slice (some ⟨w.heap.size, 0, none⟩) 128 128) ?_ ?_ ?_
  · exact ⟨0, Nat.zero_le _, hx, hg, rfl, rfl, rfl⟩
  · rintro J hJ ρ wr ⟨i, hi, hxr, hgr, h4, h3, h0⟩
    rw [h4, h3, h0]
    simp only [X_len_9, X_lss, condS_bool, str_size]
    by_cases hin : i = l.length
    · rw [if_neg (by simp; omega)]
      refine hJ _ _ ⟨hxr, ?_, h3⟩
      rw [hin, List.take_length] at hgr
      exact hgr
    rw [if_pos (by simp; omega)]
    have hlt : i < l.length := by omega
    refine X_of (run_index_str Try.underlying9 l .i64 i rfl hlt _) ?_
    refine X_of (ix Try.underlying27 info_5 i rfl (by omega) _) ?_
    rw [sz_5, Nat.mul_one, add_plain, Nat.zero_add]
    refine XU_store info_5 sz_5 rfl hgr (by simp; omega) (by show ¬ ((0 : Nat) ≤ i ∧ i < 0); omega) ?_
    rw [X_add]
    show _ ∧ _
    refine ⟨⟨i + 1, by omega, Ext.seq hxr (setAt_keep _ _ _ _ _) (fun j hj => by omega), ?_, next64 (n := 128) (by decide) (by omega), h3, h0⟩, ?_⟩
    · have e : (B8 (l.take i ++ List.replicate (128 - i) 0)).toArray.setIfInBounds i (.int .u8 ((l[i].toNat : Nat) : Int)) = (B8 (l.take (i + 1) ++ List.replicate (128 - (i + 1)) 0)).toArray := by
        have e1 : List.replicate (128 - i) (0 : UInt8) = 0 :: List.replicate (128 - (i + 1)) 0 := by
          rw [show 128 - i = (128 - (i + 1)) + 1 by omega, List.replicate_succ]
        have e2 : (l.take i ++ List.replicate (128 - i) 0).set i l[i] = l.take (i + 1) ++ List.replicate (128 - (i + 1)) 0 := by
          rw [e1, List.set_append_right _ _ (by simp; omega), List.length_take, Nat.min_eq_left (by omega), Nat.sub_self, List.set_cons_zero, List.take_succ_eq_append_getElem hlt, List.append_assoc]
          rfl
        rw [← e2, ← B8_set]
        simp
      rw [← e]
      exact setAt_same (lt_of_blk hgr)
    · show (_ - IntKind.i64.wrap _).toNat < _
      rw [w64 (by omega) (by omega)]
      first | omega | (show _ < (_ : Int).toNat; omega)
  · rintro ρ wr ⟨hxr, hgr, h3⟩
    rw [h3]
    have hb : Bts wr (.slice (some ⟨w.heap.size, 0, none⟩) (padB l).length 128) (padB l) := by
      refine ⟨_, _, rfl, by rw [padB_len hl]; exact Nat.le_refl _, by decide, fun _ => ⟨_, rfl, fun j u hj => ?_⟩⟩
      rw [add_plain, cell_blk hgr, Nat.zero_add]
      simp [B8_getElem?, hj]
    rw [padB_len hl] at hb
    exact X_str Try.underlying27 Try.underlying5 Try.underlying9 hb (hK _ hxr)
section
variable {w : World} {b : Nat} {d : Dk} {sv pv : Value} {K : Value → World → Prop}
theorem off_spec (h : RAt w b d sv pv) (hK : ∀ w1, RAt w1 b d.trip sv pv → Step b w w1 → K (.bool d.trip.dead) w1) : CALL Try.prog 142 #[ptr b] w K := by
  apply call_ref08_Disk_off
  unfold B_ref08_Disk_off
  simp only [X_nilS, X_field_148_2, X_field_148_3]
  refine joinS_of (fun ρ w1 => ρ 0 = ptr b ∧ RAt w1 b d.trip sv pv ∧ Step b w w1) ?_ ?_
  · rintro ρ w1 ⟨e0, h1, s1⟩
    rw [e0]
    simp only [X_nilS, X_field_148_2]
    exact X_loadL agg_4 h1.blk rfl (hK w1 h1 s1)
  intro J hJ
  refine X_loadL agg_3 h.blk rfl ?_
  rw [X_eql, condS_bool]
  by_cases hf : d.fuse = 0
  · rw [if_pos (by simpa using hf)]
    have et : d.trip = { d with dead := true, fuse := -1 } := by unfold Dk.trip; rw [if_pos hf]
    refine XU_store info_4 sz_4 rfl h.blk (Nat.le_of_ble_eq_true rfl) (by show ¬ ((0 : Nat) ≤ 2 ∧ 2 < 0); omega) ?_
    obtain ⟨h1, s1⟩ := h.put (cs' := (#[sv, pv, .bool d.dead, .int .i64 d.fuse, .int .i64 d.done] : Array Value).setIfInBounds (0 + 2) (.bool true)) { d with dead := true } rfl rfl rfl
    generalize setAt w b _ 148 (0, 0) = w1 at h1 s1 ⊢
    refine XU_store info_3 sz_3 rfl h1.blk (Nat.le_of_ble_eq_true rfl) (by show ¬ ((0 : Nat) ≤ 3 ∧ 3 < 0); omega) ?_
    obtain ⟨h2, s2⟩ := h1.put (cs' := (#[sv, pv, .bool true, .int .i64 d.fuse, .int .i64 d.done] : Array Value).setIfInBounds (0 + 3) (.int .i64 (-1))) { d with dead := true, fuse := -1 } rfl rfl rfl
    refine hJ _ _ ⟨rfl, ?_, s1.trans s2⟩
    rw [et]; exact h2
  · rw [if_neg (by simpa using hf)]
    have et : d.trip = d := by unfold Dk.trip; rw [if_neg hf]
    refine hJ _ _ ⟨rfl, ?_, Step.refl⟩
    rw [et]; exact h
theorem done_spec (hf : d.fuse ≤ 9223372036854775807) (h : RAt w b d sv pv) (hK : ∀ w1, RAt w1 b d.tick sv pv → Step b w w1 → K (i64v 0) w1) : CALL Try.prog 143 #[ptr b] w K := by
  apply call_ref08_Disk_done
  unfold B_ref08_Disk_done
  simp only [X_nilS, X_field_148_4, X_field_148_3]
  refine X_loadL agg_3 h.blk rfl ?_
  rw [X_add]
  refine XU_store info_3 sz_3 rfl h.blk (Nat.le_of_ble_eq_true rfl) (by show ¬ ((0 : Nat) ≤ 4 ∧ 4 < 0); omega) ?_
  obtain ⟨h1, s1⟩ := h.put (cs' := (#[sv, pv, .bool d.dead, .int .i64 d.fuse, .int .i64 d.done] : Array Value).setIfInBounds (0 + 4) (.int .i64 (IntKind.i64.wrap (d.done + 1)))) { d with done := IntKind.i64.wrap (d.done + 1) } rfl rfl rfl
  generalize setAt w b _ 148 (0, 0) = w1 at h1 s1 ⊢
  refine joinS_of (fun ρ w1 => RAt w1 b d.tick sv pv ∧ Step b w w1) ?_ ?_
  · rintro ρ w1 ⟨h1, s1⟩
    exact hK w1 h1 s1
  intro J hJ
  refine X_loadL agg_3 h1.blk rfl ?_
  rw [X_gtr, condS_bool]
  by_cases hp : 0 < d.fuse
  · rw [if_pos (by simpa using hp)]
    refine X_loadL agg_3 h1.blk rfl ?_
    rw [X_sub]
    refine XU_store info_3 sz_3 rfl h1.blk (Nat.le_of_ble_eq_true rfl) (by show ¬ ((0 : Nat) ≤ 3 ∧ 3 < 0); omega) ?_
    obtain ⟨h2, s2⟩ := h1.put (cs' := (#[sv, pv, .bool d.dead, .int .i64 d.fuse, .int .i64 (IntKind.i64.wrap (d.done + 1))] : Array Value).setIfInBounds (0 + 3) (.int .i64 (IntKind.i64.wrap (d.fuse - 1)))) { d with done := IntKind.i64.wrap (d.done + 1), fuse := IntKind.i64.wrap (d.fuse - 1) } rfl rfl rfl
    refine hJ _ _ ⟨?_, s1.trans s2⟩
    have e : d.tick = { d with done := IntKind.i64.wrap (d.done + 1), fuse := IntKind.i64.wrap (d.fuse - 1) } := by
      unfold Dk.tick
      rw [if_pos hp, w64 (x := d.fuse - 1) (by omega) (by omega)]
    rw [e]; exact h2
  · rw [if_neg (by simpa using hp)]
    refine hJ _ _ ⟨?_, s1⟩
    have e : d.tick = { d with done := IntKind.i64.wrap (d.done + 1) } := by
      unfold Dk.tick
      rw [if_neg hp]
    rw [e]; exact h1
end
end Go.Proofs.Ytggggfcgnkllgaa
end
section
/- cellaragelaw08's reference disk: what its acts compute. -/
set_option linter.unusedSimpArgs false
set_option linter.unusedVariables false
namespace Go.Proofs.Ytggggfcgnkllgaa
open Go Go.Sh Go.RowKit
attribute [local irreducible] X XU XP XR CALL loopS resC closS

theorem putAll_none {l : List (List UInt8)} {c : List (Nat × List UInt8)} {k : Nat} (h : ∀ p ∈ c, p.1 ≠ k) : (putAll l c)[k]? = l[k]? := by
  induction c generalizing l with
  | nil => rfl
  | cons p c ih =>
    show (putAll (l.set p.1 p.2) c)[k]? = _
    rw [ih (fun q hq => h q (by simp [hq])), List.getElem?_set_ne (h p (by simp))]
theorem putAll_last {l : List (List UInt8)} {ws : List (Nat × List UInt8)} {i k : Nat} (hi : i < ws.length) (hk : ws[i].1 = k) (hl : k < l.length) (h : ∀ j (hj : j < ws.length), i < j → ws[j].1 ≠ k) : (putAll l ws)[k]? = some ws[i].2 := by
  have e : ws = ws.take i ++ ws[i] :: ws.drop (i + 1) := by
    rw [← List.drop_eq_getElem_cons hi, List.take_append_drop]
  have e2 : putAll l ws = putAll ((putAll l (ws.take i)).set ws[i].1 ws[i].2) (ws.drop (i + 1)) := by
    have h0 : putAll l ws = putAll l (ws.take i ++ ws[i] :: ws.drop (i + 1)) := congrArg (putAll l) e
    rw [h0, putAll_append]
    rfl
  rw [e2, putAll_none, hk, List.getElem?_set_self (by rw [putAll_length]; exact hl)]
  intro p hp
  obtain ⟨j, hj, rfl⟩ := List.mem_iff_getElem.1 hp
  rw [List.getElem_drop]
  rw [List.length_drop] at hj
  exact h _ (by omega) (by omega)
theorem sz2 (i : Nat) : i * 2 + 1 = i * 2 + 1 := rfl
theorem run_build_200 (n : Int) (s : ByteArray) (w : World) : (Instr.build 200 #[(0, .int .i64 n), (1, .string s)]).run Try.prog w = .ok (.agg #[.int .i64 n, .string s]) w := by kernel_rfl
theorem run_build_148 (a : Option Addr) (n c : Nat) (w : World) : (Instr.build 148 #[(0, .slice a n c), (3, .int .i64 (-1))]).run Try.prog w = .ok (.agg #[.slice a n c, .slice none 0 0, .bool false, .int .i64 (-1), .int .i64 0]) w := by kernel_rfl
section
variable {w : World} {b : Nat} {d : Dk} {K : Value → World → Prop}
theorem RWrite_spec {at_ : Int} {bs : List UInt8} (h : RefAt w b d) (hw : d.ws.length ≤ 1000000)
    (hK : ∀ w1, RefAt w1 b (d.write at_ bs).1 → Step b w w1 → K (i64v (d.write at_ bs).2) w1) : CALL Try.prog 109 #[ptr b, i64v at_, .string (str bs)] w K := by
  have hd0 := h
  obtain ⟨ok, sv, pv, h⟩ := h
  obtain ⟨an, cn, en⟩ := own_sl h.safe
  apply call_ref08_Disk_Write
  unfold B_ref08_Disk_Write
  simp only [X_lss, gstep_bool]
  have bad : at_ < 0 ∨ (d.safe.length : Int) ≤ at_ ∨ 128 < bs.length → K (i64v 1) w := by
    intro hbad
    have e : d.write at_ bs = (d, 1) := by unfold Dk.write; rw [if_pos hbad]
    have := hK w (by rw [e]; exact hd0) Step.refl
    rw [e] at this
    exact this
  by_cases hneg : at_ < 0
  · have e1 : decide (at_ < 0) = true := by simpa using hneg
    simp only [e1, Bool.true_eq_false, if_false, X_pick, if_true, gstep_bool, condS_bool]
    exact bad (.inl hneg)
  have e1 : decide (at_ < 0) = false := by simpa using hneg
  simp only [e1, if_true, X_nilS, X_field_148_0]
  refine X_loadL agg_66 h.blk rfl ?_
  rw [en]
  simp only [X_len_66, X_geq, X_pick, gstep_bool, Bool.false_eq_true, if_false]
  by_cases hge : (d.safe.length : Int) ≤ at_
  · have e2 : decide (at_ ≥ (d.safe.length : Int)) = true := by simpa using hge
    simp only [e2, Bool.true_eq_false, if_false, X_pick, if_true, gstep_bool, condS_bool]
    exact bad (.inr (.inl hge))
  have e2 : decide (at_ ≥ (d.safe.length : Int)) = false := by simpa using hge
  simp only [e2, if_true, X_len_9, str_size, X_gtr, X_pick, Bool.false_eq_true, if_false, condS_bool]
  by_cases hlen : 128 < bs.length
  · rw [if_pos (by simp; omega)]
    exact bad (.inr (.inr hlen))
  rw [if_neg (by simp; omega)]
  have hgood : ¬ (at_ < 0 ∨ (d.safe.length : Int) ≤ at_ ∨ 128 < bs.length) := by omega
  obtain ⟨i, rfl⟩ : ∃ i : Nat, at_ = (i : Int) := ⟨at_.toNat, by omega⟩
  have hi : i < d.safe.length := by omega
  refine off_spec h (fun w1 h1 s1 => ?_)
  rw [condS_bool]
  by_cases hd : d.trip.dead = true
  · rw [if_pos hd]
    have e : d.write (i : Int) bs = (d.trip, 6) := by unfold Dk.write; rw [if_neg hgood, if_pos hd]
    have := hK w1 (by rw [e]; exact ⟨Dk.trip_ok ok, sv, pv, h1⟩) s1
    rw [e] at this
    exact this
  rw [if_neg hd]
  have ew : d.write (i : Int) bs = ({ d.trip.tick with ws := d.ws ++ [(i, padB bs)] }, 0) := by unfold Dk.write; rw [if_neg hgood, if_neg hd]; simp
  refine ⟨Ext, Ext.frame, ?_⟩
  have h1d := h1.ext (Keep.drew (fun _ => False) w1)
  try simp only [XP_nilS, XP_field_148_1]
  refine XR_ok Ext.frame (fun w' k => run_loadAt agg_146 (blk_get (k.get h1d.blk) (v := pv) rfl)) ?_
  refine pad_spec (by omega) ?_
  intro w2 hx2
  refine ⟨hx2, ?_⟩
  refine XP_of (fun w => run_build_200 _ _ w) ?_
  have hwl : (pcs (i, padB bs)).length = 2 := rfl
  refine X_buildSliceAgg (l := pcs (i, padB bs)) Try.underlying146 el_200 (by decide) (by decide) hwl ?_
  have hx3 := newB_ext w2 (pcs (i, padB bs)).toArray 200
  have hg3 := newB_get w2 (pcs (i, padB bs)).toArray 200
  refine ⟨hx3, ?_⟩
  generalize newB w2 (pcs (i, padB bs)).toArray 200 = w3 at hx3 hg3 ⊢
  have h3 := (h1d.ext hx2).ext hx3
  have et : d.trip.ws = d.ws := Dk.trip_ws d
  refine X_appendW (base := 0) Try.underlying146 el_200 (by decide) h3.ws (news := pcs (i, padB bs)) (by rw [hwl]) ?_ (pcs_one _) (by rw [et]; omega) (by decide) (Nat.zero_le _) ?_
  · intro j u hj
    rw [add_plain, Nat.zero_add, cell_blk hg3]
    simpa using hj
  intro v' w4 ho4 hk4 hn4
  try simp only [XP_nilS, XP_field_148_1]
  obtain ⟨hb4, h5, s5⟩ := h3.append (i, padB bs) hk4 ho4 hn4
  refine XU_store info_146 sz_146 (by obtain ⟨_, _, e⟩ := own_sl ho4; rw [e]; rfl) hb4 (Nat.le_of_ble_eq_true rfl) (by show ¬ ((0 : Nat) ≤ 0 + 1 ∧ 0 + 1 < 0); omega) ?_
  show CALL _ _ _ (setAt w4 b #[sv, v', .bool d.trip.dead, .int .i64 d.trip.fuse, .int .i64 d.trip.done] 148 (0, 0)) _
  generalize setAt w4 b #[sv, v', .bool d.trip.dead, .int .i64 d.trip.fuse, .int .i64 d.trip.done] 148 (0, 0) = w5 at h5 s5 ⊢
  have okt := Dk.trip_ok ok
  refine done_spec (by exact okt.2.2.2.2) h5 ?_
  intro w6 h6 s6
  have hs : Step b w w6 := s1.trans ((Step.ext (Keep.drew _ _) (lt_of_blk h1.blk)).trans ((Step.ext hx2 (lt_of_blk h1d.blk)).trans ((Step.ext hx3 (lt_of_blk (h1d.ext hx2).blk)).trans (s5.trans s6))))
  have er : (d.write (i : Int) bs).1 = ({ d.trip with ws := d.trip.ws ++ [(i, padB bs)] } : Dk).tick := by
    rw [ew, et]; rfl
  have := hK w6 ⟨Dk.write_ok ok _ _, sv, v', by rw [er]; exact h6⟩ hs
  rw [ew] at this
  exact this
theorem RFlush_spec (h : RefAt w b d) (hw : d.ws.length ≤ 1000000) (hK : ∀ w1, RefAt w1 b d.flush.1 → Step b w w1 → K (i64v d.flush.2) w1) : CALL Try.prog 110 #[ptr b] w K := by
  obtain ⟨ok, sv, pv, h⟩ := h
  apply call_ref08_Disk_Flush
  unfold B_ref08_Disk_Flush
  refine off_spec h (fun w1 h1 s1 => ?_)
  rw [condS_bool]
  by_cases hd : d.trip.dead = true
  · rw [if_pos hd]
    have e : d.flush = (d.trip, 6) := by unfold Dk.flush; rw [if_pos hd]
    have := hK w1 (by rw [e]; exact ⟨Dk.trip_ok ok, sv, pv, h1⟩) s1
    rw [e] at this
    exact this
  rw [if_neg hd]
  have ef : d.flush = ({ d.trip.tick with safe := d.now, ws := [] }, 0) := by unfold Dk.flush; rw [if_neg hd]
  have esf : d.trip.safe = d.safe := Dk.trip_safe d
  have ews : d.trip.ws = d.ws := Dk.trip_ws d
  refine loopE (fun ρ wr => ∃ i : Nat, i ≤ d.ws.length ∧ RAt wr b { d.trip with safe := putAll d.safe (d.ws.take i) } sv pv ∧ Step b w wr ∧ ρ 3 = .int .i64 (i : Nat) ∧ ρ 0 = ptr b)
    (fun ρ wr => match ρ 3 with | .int _ s => (d.ws.length - s).toNat | _ => 0)
    (fun ρ wr => RAt wr b { d.trip with safe := d.now } sv pv ∧ Step b w wr ∧ ρ 0 = ptr b) ?_ ?_ ?_
  · refine ⟨0, Nat.zero_le _, ?_, s1, rfl, rfl⟩
    have : ({ d.trip with safe := putAll d.safe (d.ws.take 0) } : Dk) = d.trip := by
      rw [List.take_zero]
      show ({ d.trip with safe := d.safe } : Dk) = _
      rw [← esf]
    rw [this]; exact h1
  · rintro J hJ ρ wr ⟨i, hi, hr, hs, h3, h0⟩
    obtain ⟨ap, cp, ep⟩ := own_sl hr.ws
    have ewl : ({ d.trip with safe := putAll d.safe (d.ws.take i) } : Dk).ws.length = d.ws.length := by show d.trip.ws.length = _; rw [ews]
    rw [ewl] at ep
    rw [h3, h0]
    try simp only [X_nilS, X_field_148_1]
    refine X_loadL agg_146 hr.blk rfl ?_
    rw [ep, X_len_146, X_lss, condS_bool, ← ep]
    by_cases hin : i = d.ws.length
    · rw [if_neg (by simp; omega)]
      refine hJ _ _ ⟨?_, hs, h0⟩
      rw [hin, List.take_length] at hr
      exact hr
    rw [if_pos (by simp; omega)]
    have hlt : i < d.ws.length := by omega
    have hltr : i < ({ d.trip with safe := putAll d.safe (d.ws.take i) } : Dk).ws.length := by rw [ewl]; exact hlt
    have hpi := (ok.2.1 _ (List.getElem_mem hlt)).1
    have hrd := hr.ext (Keep.drew (fun _ => False) wr)
    obtain ⟨g, cap, cur, hpv, hg, hc1, hc2, _, hixp⟩ := hrd.ws_at hltr
    have ewi : ({ d.trip with safe := putAll d.safe (d.ws.take i) } : Dk).ws[i]'hltr = d.ws[i] := by
      show d.trip.ws[i]'_ = _
      congr 1
    rw [ewi] at hc1 hc2
    have hlen : ({ d.trip with safe := putAll d.safe (d.ws.take i) } : Dk).safe.length = d.safe.length := putAll_length _ _
    have hsi : d.ws[i].1 < ({ d.trip with safe := putAll d.safe (d.ws.take i) } : Dk).safe.length := by rw [hlen]; exact hpi
    obtain ⟨g2, cap2, cur2, hsv, hg2, hfit, hold, hixs, hput⟩ := hrd.safe_at hsi
    obtain ⟨h8, s8⟩ := hput d.ws[i].2
    refine ⟨Ext, Ext.frame, ?_⟩
    try simp only [XP_nilS, XP_field_148_0, XP_field_148_1]
    refine XR_ok Ext.frame (fun w' k => run_loadAt agg_66 (blk_get (k.get hrd.blk) (v := sv) rfl)) ?_
    refine XR_ok Ext.frame (fun w' k => run_loadAt agg_146 (blk_get (k.get hrd.blk) (v := pv) rfl)) ?_
    refine XP_of hixp ?_
    try simp only [XP_field_200_0]
    refine XR_ok Ext.frame (fun w' k => run_loadAt agg_3 (blk_get (k.get hg) hc1)) ?_
    try simp only [XP_nilS, XP_field_148_1]
    refine XR_ok Ext.frame (fun w' k => run_loadAt agg_146 (blk_get (k.get hrd.blk) (v := pv) rfl)) ?_
    refine XP_of hixp ?_
    try simp only [XP_field_200_1]
    refine XR_ok Ext.frame (fun w' k => run_loadAt agg_9 (blk_get (k.get hg) hc2)) ?_
    refine XP_of hixs ?_
    refine XU_store info_9 sz_9 rfl hg2 hfit (by show ¬ ((0 : Nat) ≤ _ ∧ _ < 0); omega) ?_
    rw [X_add]
    show _ ∧ _
    refine ⟨⟨i + 1, by omega, ?_, hs.trans ((Step.ext (Keep.drew _ _) (lt_of_blk hr.blk)).trans s8), next64 (n := 1000000) (by decide) (by omega), h0⟩, ?_⟩
    · have e : putAll d.safe (d.ws.take (i + 1)) = (putAll d.safe (d.ws.take i)).set d.ws[i].1 d.ws[i].2 := by
        rw [List.take_succ_eq_append_getElem hlt, putAll_append]
        rfl
      rw [e]
      exact h8
    · show (_ - IntKind.i64.wrap _).toNat < _
      rw [w64 (by omega) (by omega)]
      first | omega | (show _ < (_ : Int).toNat; omega)
  · rintro ρ wr ⟨hr, hs, h0⟩
    rw [h0]
    try simp only [X_nilS, X_field_148_1]
    refine XU_store info_146 sz_146 rfl hr.blk (Nat.le_of_ble_eq_true rfl) (by show ¬ ((0 : Nat) ≤ 0 + 1 ∧ 0 + 1 < 0); omega) ?_
    obtain ⟨h2, s2⟩ := hr.clear
    show CALL _ _ _ (setAt wr b #[sv, .slice none 0 0, .bool d.trip.dead, .int .i64 d.trip.fuse, .int .i64 d.trip.done] 148 (0, 0)) _
    generalize setAt wr b #[sv, .slice none 0 0, .bool d.trip.dead, .int .i64 d.trip.fuse, .int .i64 d.trip.done] 148 (0, 0) = w2 at h2 s2 ⊢
    refine done_spec (by exact (Dk.trip_ok ok).2.2.2.2) h2 ?_
    intro w3 h3 s3
    have er : d.flush.1 = ({ d.trip with safe := d.now, ws := [] } : Dk).tick := by rw [ef]; rfl
    have := hK w3 ⟨Dk.flush_ok ok, sv, .slice none 0 0, by rw [er]; exact h3⟩ (hs.trans (s2.trans s3))
    rw [ef] at this
    exact this
theorem RCut_spec {n : Int} (hn : n ≤ 9223372036854775807) (h : RefAt w b d) (hK : ∀ w1, RefAt w1 b (d.cut n) → Step b w w1 → K (.tuple #[]) w1) : CALL Try.prog 111 #[ptr b, i64v n] w K := by
  obtain ⟨ok, sv, pv, h⟩ := h
  apply call_ref08_Disk_Cut
  unfold B_ref08_Disk_Cut
  try simp only [X_nilS, X_field_148_2, X_field_148_3]
  refine X_loadL agg_4 h.blk rfl ?_
  simp only [X_not, condS_bool]
  have ok' := Dk.cut_ok ok hn
  by_cases hd : d.dead = true
  · have e : (!d.dead) = false := by rw [hd]; rfl
    simp only [e, Bool.false_eq_true, if_false]
    refine hK w ⟨ok', sv, pv, ?_⟩ Step.refl
    unfold Dk.cut
    rw [if_pos hd]
    exact h
  · have e : (!d.dead) = true := by simpa using hd
    simp only [e, if_true, X_max]
    refine XU_store info_3 sz_3 rfl h.blk (Nat.le_of_ble_eq_true rfl) (by show ¬ ((0 : Nat) ≤ 3 ∧ 3 < 0); omega) ?_
    obtain ⟨h1, s1⟩ := h.put (cs' := (#[sv, pv, .bool d.dead, .int .i64 d.fuse, .int .i64 d.done] : Array Value).setIfInBounds (0 + 3) (.int .i64 (max n (-1)))) { d with fuse := max n (-1) } rfl rfl rfl
    refine hK _ ⟨ok', sv, pv, ?_⟩ s1
    have : d.cut n = { d with fuse := max n (-1) } := by
      unfold Dk.cut
      rw [if_neg hd]
    rw [this]; exact h1
theorem now_spec {k : Nat} (h : RefAt w b d) (hw : d.ws.length ≤ 1000000) (hk : k < d.safe.length) (hK : K (.string (str (d.now.getD k []))) w) : CALL Try.prog 144 #[ptr b, i64v (k : Int)] w K := by
  obtain ⟨ok, sv, pv, h⟩ := h
  obtain ⟨ap, cp, ep⟩ := own_sl h.ws
  apply call_ref08_Disk_now
  unfold B_ref08_Disk_now
  try simp only [X_nilS, X_field_148_1]
  refine X_loadL agg_146 h.blk rfl ?_
  rw [ep, X_len_146, X_sub, ← ep]
  rw [w64 (by omega) (by omega)]
  refine loopE (fun ρ wr => wr = w ∧ ∃ i : Nat, i ≤ d.ws.length ∧ (∀ j (hj : j < d.ws.length), i ≤ j → d.ws[j].1 ≠ k) ∧ ρ 5 = .int .i64 ((i : Int) - 1) ∧ ρ 0 = ptr b ∧ ρ 1 = .int .i64 (k : Int))
    (fun ρ wr => match ρ 5 with | .int _ s => (s + 1).toNat | _ => 0)
    (fun ρ wr => wr = w ∧ (∀ p ∈ d.ws, p.1 ≠ k) ∧ ρ 0 = ptr b ∧ ρ 1 = .int .i64 (k : Int)) ?_ ?_ ?_
  · exact ⟨rfl, d.ws.length, Nat.le_refl _, fun j hj hj' => absurd hj' (by omega), rfl, rfl, rfl⟩
  · rintro J hJ ρ wr ⟨rfl, i, hi, hno, h5, h0, h1⟩
    rw [h5, X_geq, condS_bool]
    by_cases hin : i = 0
    · rw [if_neg (by simp; omega)]
      refine hJ _ _ ⟨rfl, fun p hp => ?_, h0, h1⟩
      obtain ⟨j, hj, rfl⟩ := List.mem_iff_getElem.1 hp
      exact hno j hj (by omega)
    rw [if_pos (by simp; omega)]
    obtain ⟨m, rfl⟩ : ∃ m, i = m + 1 := ⟨i - 1, by omega⟩
    have em : ((m + 1 : Nat) : Int) - 1 = (m : Int) := by omega
    have hm : m < d.ws.length := by omega
    obtain ⟨g, cap, cur, hpv, hg, hc1, hc2, _, hixp⟩ := h.ws_at hm
    rw [em, h0, h1]
    try simp only [X_nilS, X_field_148_1]
    refine X_loadL agg_146 h.blk rfl ?_
    refine X_of (hixp _) ?_
    try simp only [X_field_200_0]
    refine X_loadB agg_3 hg hc1 ?_
    rw [X_eql, condS_bool]
    by_cases hmk : d.ws[m].1 = k
    · rw [if_pos (by simp [hmk])]
      try simp only [X_nilS, X_field_148_1]
      refine X_loadL agg_146 h.blk rfl ?_
      refine X_of (hixp _) ?_
      try simp only [X_field_200_1]
      refine X_loadB agg_9 hg hc2 ?_
      have e : d.now.getD k [] = d.ws[m].2 := by
        rw [List.getD_eq_getElem?_getD]
        show ((putAll d.safe d.ws)[k]?).getD [] = _
        rw [putAll_last hm hmk hk (fun j hj hmj => hno j hj (by omega))]
        rfl
      rw [e] at hK
      exact hK
    · rw [if_neg (by simp; omega)]
      rw [X_sub, w64 (by omega) (by omega)]
      show _ ∧ _
      refine ⟨⟨rfl, m, by omega, ?_, rfl, h0, h1⟩, ?_⟩
      · intro j hj hmj
        rcases Nat.eq_or_lt_of_le hmj with e | e
        · subst e; exact hmk
        · exact hno j hj (by omega)
      · show ((m : Int) - 1 + 1).toNat < _
        omega
  · rintro ρ wr ⟨rfl, hno, h0, h1⟩
    rw [h0, h1]
    try simp only [X_nilS, X_field_148_0]
    refine X_loadL agg_66 h.blk rfl ?_
    obtain ⟨g2, cap2, cur2, hsv, hg2, hfit, hold, hixs, hput⟩ := h.safe_at hk
    refine X_of (hixs _) ?_
    refine X_loadB agg_9 hg2 hold ?_
    have e : d.now.getD k [] = d.safe[k] := by
      rw [List.getD_eq_getElem?_getD]
      show ((putAll d.safe d.ws)[k]?).getD [] = _
      rw [putAll_none hno, List.getElem?_eq_getElem hk]
      rfl
    rw [e] at hK
    exact hK
theorem RRead_spec {at_ : Int} (h : RefAt w b d) (hw : d.ws.length ≤ 1000000) (hK : K (.tuple #[.string (str (d.read at_).1), i64v (d.read at_).2]) w) : CALL Try.prog 113 #[ptr b, i64v at_] w K := by
  have hd0 := h
  obtain ⟨ok, sv, pv, h⟩ := h
  obtain ⟨an, cn, en⟩ := own_sl h.safe
  apply call_ref08_Disk_Read
  unfold B_ref08_Disk_Read
  simp only [X_lss, gstep_bool]
  have bad : at_ < 0 ∨ (d.safe.length : Int) ≤ at_ → K (.tuple #[.string { data := #[] }, i64v 1]) w := by
    intro hbad
    have e : d.read at_ = ([], 1) := by unfold Dk.read; rw [if_pos hbad]
    rw [e] at hK
    exact hK
  by_cases hneg : at_ < 0
  · have e1 : decide (at_ < 0) = true := by simpa using hneg
    simp only [e1, Bool.true_eq_false, if_false, X_pick, if_true, gstep_bool, condS_bool]
    exact bad (.inl hneg)
  have e1 : decide (at_ < 0) = false := by simpa using hneg
  simp only [e1, if_true, X_nilS, X_field_148_0, X_field_148_2]
  refine X_loadL agg_66 h.blk rfl ?_
  rw [en]
  simp only [X_len_66, X_geq, X_pick, condS_bool, Bool.false_eq_true, if_false]
  by_cases hge : (d.safe.length : Int) ≤ at_
  · rw [if_pos (by simpa using hge)]
    exact bad (.inr hge)
  rw [if_neg (by simpa using hge)]
  have hgood : ¬ (at_ < 0 ∨ (d.safe.length : Int) ≤ at_) := by omega
  refine X_loadL agg_4 h.blk rfl ?_
  rw [condS_bool]
  by_cases hd : d.dead = true
  · rw [if_pos hd]
    have e : d.read at_ = ([], 6) := by unfold Dk.read; rw [if_neg hgood, if_pos hd]
    rw [e] at hK
    exact hK
  rw [if_neg hd]
  obtain ⟨i, rfl⟩ : ∃ i : Nat, at_ = (i : Int) := ⟨at_.toNat, by omega⟩
  refine now_spec hd0 hw (by omega) ?_
  have e : d.read (i : Int) = (d.now.getD i [], 0) := by unfold Dk.read; rw [if_neg hgood, if_neg hd]; rfl
  rw [e] at hK
  exact hK
end
end Go.Proofs.Ytggggfcgnkllgaa
end
section
/- cellaragelaw08's reference disk: crash, new. -/
set_option linter.unusedSimpArgs false
set_option linter.unusedVariables false
namespace Go.Proofs.Ytggggfcgnkllgaa
open Go Go.Sh Go.RowKit
attribute [local irreducible] X XU XP XR CALL loopS resC closS
section
variable {w : World} {b : Nat} {d : Dk} {K : Value → World → Prop}
theorem RCrash_spec {v : Value} {fates : List Int} (h : RefAt w b d) (hw : d.ws.length ≤ 1000000) (hf : Row fI w v fates) (hnf : 0 < fates.length → ∀ k, v.ownBlock = some k → ¬ foot w b k)
    (hK : ∀ w1, RefAt w1 b (d.crash fates) → Step b w w1 → K (.tuple #[]) w1) : CALL Try.prog 112 #[ptr b, v] w K := by
  obtain ⟨ok, sv, pv, h⟩ := h
  obtain ⟨af, cf, ef⟩ := hf.slice
  apply call_ref08_Disk_Crash
  unfold B_ref08_Disk_Crash
  refine loopE (fun ρ wr => ∃ i : Nat, i ≤ d.ws.length ∧ RAt wr b { d with safe := tears fates 0 d.safe (d.ws.take i) } sv pv ∧ Step b w wr ∧ ρ 4 = .int .i64 (i : Nat) ∧ ρ 0 = ptr b ∧ ρ 1 = v)
    (fun ρ wr => match ρ 4 with | .int _ s => (d.ws.length - s).toNat | _ => 0)
    (fun ρ wr => RAt wr b { d with safe := tears fates 0 d.safe d.ws } sv pv ∧ Step b w wr ∧ ρ 0 = ptr b) ?_ ?_ ?_
  · refine ⟨0, Nat.zero_le _, ?_, Step.refl, rfl, rfl, rfl⟩
    have : ({ d with safe := tears fates 0 d.safe (d.ws.take 0) } : Dk) = d := by rw [List.take_zero]; rfl
    rw [this]; exact h
  · rintro JE hJE ρ wr ⟨i, hi, hr, hs, h4, h0, h1⟩
    obtain ⟨ap, cp, ep⟩ := own_sl hr.ws
    have ewl : ({ d with safe := tears fates 0 d.safe (d.ws.take i) } : Dk).ws.length = d.ws.length := rfl
    rw [ewl] at ep
    rw [h4, h0]
    try simp only [X_nilS, X_field_148_1]
    refine X_loadL agg_146 hr.blk rfl ?_
    rw [ep, X_len_146, X_lss, condS_bool, ← ep]
    by_cases hin : i = d.ws.length
    · rw [if_neg (by simp; omega)]
      refine hJE _ _ ⟨?_, hs, h0⟩
      rw [hin, List.take_length] at hr
      exact hr
    rw [if_pos (by simp; omega)]
    have hlt : i < d.ws.length := by omega
    have hp := ok.2.1 _ (List.getElem_mem hlt)
    have hlen : ({ d with safe := tears fates 0 d.safe (d.ws.take i) } : Dk).safe.length = d.safe.length := tears_length _ _ _ _
    have hsi : d.ws[i].1 < ({ d with safe := tears fates 0 d.safe (d.ws.take i) } : Dk).safe.length := by rw [hlen]; exact hp.1
    have h128 : ∀ s ∈ tears fates 0 d.safe (d.ws.take i), s.length = 128 := tears_128 fates 0 ok.1 (fun p hp => ok.2.1 p (List.mem_of_mem_take hp))
    refine joinS_of (fun ρ' w' => RAt w' b { d with safe := tears fates 0 d.safe (d.ws.take i) } sv pv ∧ Step b w w' ∧ ρ' 4 = .int .i64 (i : Nat) ∧ ρ' 5 = .int .i64 (fateAt fates i : Nat) ∧ ρ' 0 = ptr b ∧ ρ' 1 = v) ?_ ?_
    · rintro ρ' w' ⟨hr', hs', g4, g5, g0, g1⟩
      rw [g4, g5, g0]
      try simp only [X_nilS, X_field_148_1]
      refine X_loadL agg_146 hr'.blk rfl ?_
      obtain ⟨g, cap, cur, hpv, hg, hc1, hc2, hc3, hixp⟩ := hr'.ws_at hlt
      refine X_of (hixp _) ?_
      refine X_of (run_loadAgg (l := pcs d.ws[i]) Try.underlying200 agg_200 info_200 hg (by rw [sz_200]; exact hc3) (by rw [sz_200]; rfl)) ?_
      refine X_alloc zero_200 ?_
      have hq := newB_get w' #[(.int .i64 0), (.string { data := #[] })] 200
      have hxq := newB_ext w' #[(.int .i64 0), (.string { data := #[] })] 200
      show XU _ _ (newB w' #[(.int .i64 0), (.string { data := #[] })] 200) _
      generalize newB w' #[(.int .i64 0), (.string { data := #[] })] 200 = w2 at hq hxq ⊢
      refine XU_storeAgg (l := pcs d.ws[i]) info_200 hq (by rw [sz_200]; rfl) (by rw [sz_200]; rfl) (pcs_one _) ?_
      have hq2 := setAt_same (cs := (pcs d.ws[i]).toArray) (T := 200) (fr := (0, 0)) (lt_of_blk hq)
      have hx2 : Ext w' (setAt w2 w'.heap.size (pcs d.ws[i]).toArray 200 (0, 0)) := Ext.seq hxq (setAt_keep _ _ _ _ _) (fun j hj => by omega)
      generalize setAt w2 w'.heap.size (pcs d.ws[i]).toArray 200 (0, 0) = w3 at hq2 hx2 ⊢
      refine ⟨Ext, Ext.frame, ?_⟩
      have hxd : Ext w' (drewW w3) := hx2.trans (Keep.drew _ _)
      have hrd := hr'.ext hxd
      have hqd : (drewW w3).heap[w'.heap.size]? = some (.cells (pcs d.ws[i]).toArray 200 (0, 0)) := hq2
      obtain ⟨g2, cap2, cur2, hsv, hg2, hfit, hold, hixs, hput⟩ := hrd.safe_at hsi
      have hn := fateAt_le fates i
      have hl1 : (({ d with safe := tears fates 0 d.safe (d.ws.take i) } : Dk).safe[d.ws[i].1]'hsi).length = 128 := h128 _ (List.getElem_mem hsi)
      obtain ⟨h8, s8⟩ := hput (d.ws[i].2.take (fateAt fates i) ++ (({ d with safe := tears fates 0 d.safe (d.ws.take i) } : Dk).safe[d.ws[i].1]'hsi).drop (fateAt fates i))
      try simp only [XP_nilS, XP_field_148_0, XP_field_148_1, XP_field_200_0, XP_field_200_1, Nat.zero_add]
      refine XR_ok Ext.frame (fun w' k => run_loadAt agg_66 (blk_get (k.get hrd.blk) (v := sv) rfl)) ?_
      refine XR_ok Ext.frame (fun w' k => run_loadAt agg_3 (blk_get (k.get hqd) (v := .int .i64 (d.ws[i].1 : Int)) rfl)) ?_
      refine XR_ok Ext.frame (fun w' k => run_loadAt agg_9 (blk_get (k.get hqd) (v := .string (str d.ws[i].2)) rfl)) ?_
      refine XP_of (fun w => run_cutstr_hi Try.underlying9 _ .i64 _ (by omega) w) ?_
      try simp only [XP_nilS, XP_field_148_0]
      refine XR_ok Ext.frame (fun w' k => run_loadAt agg_66 (blk_get (k.get hrd.blk) (v := sv) rfl)) ?_
      refine XR_ok Ext.frame (fun w' k => run_loadAt agg_3 (blk_get (k.get hqd) (v := .int .i64 (d.ws[i].1 : Int)) rfl)) ?_
      refine XP_of hixs ?_
      refine XR_ok Ext.frame (fun w' k => run_loadAt agg_9 (blk_get (k.get hg2) hold)) ?_
      refine XP_of (fun w => run_cutstr_lo Try.underlying9 _ .i64 _ (by omega) w) ?_
      refine XP_of (fun w => run_string_add 9 _ _ (by rw [str_size, str_size, List.length_take, List.length_drop]; omega) w) ?_
      rw [str_append]
      refine XP_of hixs ?_
      refine XU_store info_9 sz_9 rfl hg2 hfit (by show ¬ ((0 : Nat) ≤ _ ∧ _ < 0); omega) ?_
      rw [X_add]
      show _ ∧ _
      refine ⟨⟨i + 1, by omega, ?_, hs'.trans ((Step.ext hxd (lt_of_blk hr'.blk)).trans s8), next64 (n := 1000000) (by decide) (by omega), g0, g1⟩, ?_⟩
      · have e : tears fates 0 d.safe (d.ws.take (i + 1)) = (tears fates 0 d.safe (d.ws.take i)).set d.ws[i].1 (d.ws[i].2.take (fateAt fates i) ++ ((tears fates 0 d.safe (d.ws.take i))[d.ws[i].1]'hsi).drop (fateAt fates i)) := by
          rw [tears_succ fates hlt]
          unfold tearAt
          rw [List.getD_eq_getElem?_getD, List.getElem?_eq_getElem hsi]
          rfl
        rw [e]
        exact h8
      · show (_ - IntKind.i64.wrap _).toNat < _
        rw [w64 (by omega) (by omega)]
        first | omega | (show _ < (_ : Int).toNat; omega)
    intro J hJ
    have hff : Row fI wr v fates := row_keep hf hs.keep hnf
    rw [h1, ef]
    simp only [X_len_79, X_lss, condS_bool]
    rw [← ef]
    by_cases hfi : i < fates.length
    · rw [if_pos (by simp; omega)]
      obtain ⟨a, hix, hcell⟩ := hff.at Try.underlying79 info_3 sz_3 (k := .i64) i rfl hfi
      refine X_of (hix _) ?_
      refine X_load agg_3 hcell ?_
      simp only [X_min, X_max]
      have en : max 0 (min fates[i] 128) = (fateAt fates i : Int) := by
        unfold fateAt
        rw [List.getElem?_eq_getElem hfi]
        show _ = (((max 0 (min fates[i] 128)).toNat : Nat) : Int)
        omega
      rw [en]
      exact hJ _ _ ⟨hr, hs, h4, rfl, h0, h1⟩
    · rw [if_neg (by simp; omega)]
      have ef0 : fateAt fates i = 0 := by unfold fateAt; rw [List.getElem?_eq_none (by omega)]
      refine hJ _ _ ⟨hr, hs, h4, ?_, h0, h1⟩
      rw [ef0]; rfl
  · rintro ρ wr ⟨hr, hs, h0⟩
    rw [h0]
    try simp only [X_nilS, X_field_148_1, X_field_148_2, X_field_148_3]
    refine XU_store info_146 sz_146 rfl hr.blk (Nat.le_of_ble_eq_true rfl) (by show ¬ ((0 : Nat) ≤ 0 + 1 ∧ 0 + 1 < 0); omega) ?_
    obtain ⟨h2, s2⟩ := hr.clear
    show XU _ _ (setAt wr b #[sv, .slice none 0 0, .bool d.dead, .int .i64 d.fuse, .int .i64 d.done] 148 (0, 0)) _
    generalize setAt wr b #[sv, .slice none 0 0, .bool d.dead, .int .i64 d.fuse, .int .i64 d.done] 148 (0, 0) = w2 at h2 s2 ⊢
    refine XU_store info_4 sz_4 rfl h2.blk (Nat.le_of_ble_eq_true rfl) (by show ¬ ((0 : Nat) ≤ 0 + 2 ∧ 0 + 2 < 0); omega) ?_
    obtain ⟨h3, s3⟩ := h2.put (cs' := (#[sv, .slice none 0 0, .bool d.dead, .int .i64 d.fuse, .int .i64 d.done] : Array Value).setIfInBounds (0 + 2) (.bool false)) ⟨tears fates 0 d.safe d.ws, [], false, d.fuse, d.done⟩ rfl rfl rfl
    generalize setAt w2 b _ 148 (0, 0) = w3 at h3 s3 ⊢
    refine XU_store info_3 sz_3 rfl h3.blk (Nat.le_of_ble_eq_true rfl) (by show ¬ ((0 : Nat) ≤ 0 + 3 ∧ 0 + 3 < 0); omega) ?_
    obtain ⟨h4, s4⟩ := h3.put (cs' := (#[sv, .slice none 0 0, .bool false, .int .i64 d.fuse, .int .i64 d.done] : Array Value).setIfInBounds (0 + 3) (.int .i64 (-1))) ⟨tears fates 0 d.safe d.ws, [], false, -1, d.done⟩ rfl rfl rfl
    exact hK _ ⟨Dk.crash_ok ok fates, sv, _, h4⟩ (hs.trans (s2.trans (s3.trans s4)))
theorem RNew_disk {n : Int} (hbad : n < 0 ∨ 16384 < n → K (.tuple #[.pointer none, i64v 1]) w)
    (hgood : ∀ m : Nat, n = m → m ≤ 16384 → ∀ b w1, Ext w w1 → (∀ k, foot w1 b k → w.heap.size ≤ k) → RefAt w1 b (Dk.new m) → K (.tuple #[ptr b, i64v 0]) w1) : CALL Try.prog 80 #[i64v n] w K := by
  apply call_ref08_New
  unfold B_ref08_New
  simp only [X_lss, gstep_bool, X_gtr, X_pick, condS_bool]
  by_cases hneg : n < 0
  · have e1 : decide (n < 0) = true := by simpa using hneg
    simp only [e1, Bool.true_eq_false, if_false, X_pick, if_true, gstep_bool, condS_bool]
    exact hbad (.inl hneg)
  have e1 : decide (n < 0) = false := by simpa using hneg
  simp only [e1, if_true, X_gtr, X_pick, Bool.false_eq_true, if_false, condS_bool]
  by_cases hbig : 16384 < n
  · rw [if_pos (by simpa using hbig)]
    exact hbad (.inr hbig)
  rw [if_neg (by simpa using hbig)]
  obtain ⟨m, rfl⟩ : ∃ m : Nat, n = (m : Int) := ⟨n.toNat, by omega⟩
  have hm : m ≤ 16384 := by omega
  refine X_make Try.underlying66 el_9 m m rfl rfl (Nat.le_refl _) (by omega) (by omega) ?_
  have hcells : madeCells (Value.string { data := #[] }).cells (m * 1) = (strs (List.replicate m [])).toArray := by
    apply Array.ext'
    have : (madeCells (Value.string { data := #[] }).cells m).toList = List.replicate m (.string { data := #[] }) := made_one _ _
    rw [Nat.mul_one, this]
    simp [strs, str]
  rw [hcells]
  have hg1 := newB_get w (strs (List.replicate m [])).toArray 9
  have hx1 := newB_ext w (strs (List.replicate m [])).toArray 9
  have hs1 := newB_size w (strs (List.replicate m [])).toArray 9
  generalize newB w (strs (List.replicate m [])).toArray 9 = w1 at hg1 hx1 hs1 ⊢
  refine X_of (run_build_148 _ _ _ _) ?_
  refine X_box ?_
  have hb := newB_get w1 (Value.agg #[.slice (some ⟨w.heap.size, 0, none⟩) m m, .slice none 0 0, .bool false, .int .i64 (-1), .int .i64 0]).cells 148
  have hxb := newB_ext w1 (Value.agg #[.slice (some ⟨w.heap.size, 0, none⟩) m m, .slice none 0 0, .bool false, .int .i64 (-1), .int .i64 0]).cells 148
  have hsb := newB_size w1 (Value.agg #[.slice (some ⟨w.heap.size, 0, none⟩) m m, .slice none 0 0, .bool false, .int .i64 (-1), .int .i64 0]).cells 148
  have hown : ∀ (w' : World) (l : List (List UInt8)), l.length = m → w'.heap[w.heap.size]? = some (.cells (strs l).toArray 9 (0, 0)) → w'.ownsRow 0 9 1 (.slice (some ⟨w.heap.size, 0, none⟩) m m) m (strs l) := fun w' l hl hh =>
    ⟨by simp [strs, hl], .inr ⟨w.heap.size, m, _, rfl, Nat.zero_le _, hh, Nat.le_refl _, by simp only [maxLen]; omega, by simp [strs, hl], List.take_of_length_le (by simp [strs, hl])⟩⟩
  have hg2 := hxb.get hg1
  generalize newB w1 (Value.agg #[.slice (some ⟨w.heap.size, 0, none⟩) m m, .slice none 0 0, .bool false, .int .i64 (-1), .int .i64 0]).cells 148 = w2 at hb hxb hg2 hsb ⊢
  have hx2 := hx1.trans hxb
  have h0 : RAt w2 w1.heap.size ⟨List.replicate m [], [], false, -1, 0⟩ (.slice (some ⟨w.heap.size, 0, none⟩) m m) (.slice none 0 0) := by
    refine ⟨hb, ?_, ⟨rfl, .inl ⟨rfl, rfl⟩⟩⟩
    show World.ownsRow _ 0 9 1 _ (List.replicate m ([] : List UInt8)).length (strs (List.replicate m []))
    rw [List.length_replicate]
    exact hown _ _ (by simp) hg2
  generalize hbe : w1.heap.size = b at h0 ⊢
  have low0 : ∀ (w' : World) (d : Dk), RAt w' b d (.slice (some ⟨w.heap.size, 0, none⟩) m m) (.slice none 0 0) → ∀ k, foot w' b k → w.heap.size ≤ k := fun w' d h k hk => by
    rcases h.foot.1 hk with h' | h' | h'
    · omega
    · have : w.heap.size = k := by simpa [Value.ownBlock] using h'
      omega
    · cases h'
  refine loopE (fun ρ wr => ∃ i : Nat, i ≤ m ∧ RAt wr b ⟨List.replicate i (List.replicate 128 0) ++ List.replicate (m - i) [], [], false, -1, 0⟩ (.slice (some ⟨w.heap.size, 0, none⟩) m m) (.slice none 0 0) ∧ Ext w wr ∧ ρ 5 = .int .i64 (i : Nat) ∧ ρ 4 = ptr b ∧ ρ 0 = .int .i64 (m : Int))
    (fun ρ wr => match ρ 5 with | .int _ s => (m - s).toNat | _ => 0)
    (fun ρ wr => RAt wr b (Dk.new m) (.slice (some ⟨w.heap.size, 0, none⟩) m m) (.slice none 0 0) ∧ Ext w wr ∧ ρ 4 = ptr b) ?_ ?_ ?_
  · exact ⟨0, Nat.zero_le _, by simpa using h0, hx2, rfl, rfl, rfl⟩
  · rintro J hJ ρ wr ⟨i, hi, hr, hxr, h5, h4, h0'⟩
    rw [h5, h4, h0', X_lss, condS_bool]
    by_cases hin : i = m
    · rw [if_neg (by simp; omega)]
      refine hJ _ _ ⟨?_, hxr, h4⟩
      subst hin
      rw [Nat.sub_self, List.replicate_zero, List.append_nil] at hr
      exact hr
    rw [if_pos (by simp; omega)]
    refine ⟨Ext, Ext.frame, ?_⟩
    have hrd := hr.ext (Keep.drew (fun _ => False) wr)
    try simp only [XP_nilS, XP_field_148_0]
    refine XR_ok Ext.frame (fun w' k => run_loadAt agg_66 (blk_get (k.get hrd.blk) (v := .slice (some ⟨w.heap.size, 0, none⟩) m m) rfl)) ?_
    refine pad_spec (l := []) (by decide) ?_
    intro w3 hx3
    refine ⟨hx3, ?_⟩
    have hr3 := hrd.ext hx3
    have hsi : i < (⟨List.replicate i (List.replicate 128 0) ++ List.replicate (m - i) [], [], false, -1, 0⟩ : Dk).safe.length := by simp; omega
    obtain ⟨g2, cap2, cur2, hsv, hg2, hfit, hold, hixs, hput⟩ := hr3.safe_at hsi
    have hg2e : w.heap.size = g2 := by
      injection hsv with e1 _ _
      injection e1 with e1
      injection e1
    subst hg2e
    refine XP_of hixs ?_
    refine XU_store info_9 sz_9 rfl hg2 hfit (by show ¬ ((0 : Nat) ≤ _ ∧ _ < 0); omega) ?_
    obtain ⟨h8, s8⟩ := hput (padB [])
    rw [X_add]
    show _ ∧ _
    have hx03 : Ext w w3 := (hxr.trans (Keep.drew _ _)).trans hx3
    refine ⟨⟨i + 1, by omega, ?_, s8.out hx03 (low0 _ _ hr3), next64 (n := 16384) (by decide) (by omega), h4, h0'⟩, ?_⟩
    · have e : (List.replicate i (List.replicate 128 (0 : UInt8)) ++ List.replicate (m - i) []).set i (padB []) = List.replicate (i + 1) (List.replicate 128 0) ++ List.replicate (m - (i + 1)) [] := by
        rw [show m - i = (m - (i + 1)) + 1 by omega, List.replicate_succ (n := m - (i + 1)), List.set_append_right _ _ (by simp), List.length_replicate, Nat.sub_self, List.set_cons_zero, List.replicate_succ' (n := i)]
        simp [padB]
      rw [← e]
      exact h8
    · show (_ - IntKind.i64.wrap _).toNat < _
      rw [w64 (by omega) (by omega)]
      first | omega | (show _ < (_ : Int).toNat; omega)
  · rintro ρ wr ⟨hr, hxr, h4⟩
    rw [h4]
    exact hgood m rfl hm b wr hxr (low0 _ _ hr) ⟨Dk.new_ok hm, _, _, hr⟩
end
end Go.Proofs.Ytggggfcgnkllgaa
end
section
/- What is done to a disk, told as an argument. -/
set_option linter.unusedVariables false
set_option linter.unusedSimpArgs false
namespace Go.Proofs.Ytggggfcgnkllgaa
open Go Go.Sh Go.RowKit Go.ChangeShapes Go.WideShapes Go.ChangeAt
attribute [local irreducible] X XU XP XR CALL loopS resC closS Value.okWide
/-- An act: its kind, its place, its number, its bytes, its fates; and the slices where these lie. -/
structure DAct where
  kind : Nat
  pos : Int
  num : Int
  bs : List UInt8
  fates : List Int
  bv : Value
  fv : Value
def DAct.cs (a : DAct) : List Value := [.int .u8 (a.kind : Int), .int .i64 a.pos, .int .i64 a.num, a.bv, a.fv]
structure DAct.In (a : DAct) (W : World) : Prop where
  kind : a.kind < 256
  num : a.num ≤ 9223372036854775807
  bts : Bts W a.bv a.bs
  fate : Row fI W a.fv a.fates
theorem DAct.In.ext {a : DAct} {W w : World} (h : a.In W) (k : Ext W w) : a.In w := ⟨h.kind, h.num, h.bts.ext k, h.fate.ext k⟩
theorem DAct.one {a : DAct} {W : World} (h : a.In W) : ∀ v ∈ a.cs, v.oneCell' = true := by
  obtain ⟨_, _, e1⟩ := Bts.slice h.bts
  obtain ⟨_, _, e2⟩ := h.fate.slice
  intro v hv
  simp only [DAct.cs, List.mem_cons, List.not_mem_nil, or_false] at hv
  rcases hv with rfl | rfl | rfl | rfl | rfl
  · rfl
  · rfl
  · rfl
  · rw [e1]; rfl
  · rw [e2]; rfl
theorem trc_five {P : Program} {H : Type} {enc : TypeId × Value → H} {W : World} {t : TypeId} {es : List Value} {f0 f1 f2 f3 f4 : Field} (ht : P.underlying t = some (.struct #[f0, f1, f2, f3, f4])) (hc : P.cellsOf t = 5)
    (o0 : f0.offset = 0) (o1 : f1.offset = 1) (o2 : f2.offset = 2) (o3 : f3.offset = 3) (o4 : f4.offset = 4) (c0 : P.cellsOf f0.type = 1) (c1 : P.cellsOf f1.type = 1) (c2 : P.cellsOf f2.type = 1) (c3 : P.cellsOf f3.type = 1) (c4 : P.cellsOf f4.type = 1)
    (h : TrC enc P W t es) : ∃ x0 x1 x2 x3 x4, es = [x0, x1, x2, x3, x4] ∧ TrC enc P W f0.type [x0] ∧ TrC enc P W f1.type [x1] ∧ TrC enc P W f2.type [x2] ∧ TrC enc P W f3.type [x3] ∧ TrC enc P W f4.type [x4] := by
  obtain ⟨hl, hf⟩ := h.struct ht
  rw [hc] at hl
  match es, hl with
  | [x0, x1, x2, x3, x4], _ =>
    have g0 := hf f0 (by simp)
    have g1 := hf f1 (by simp)
    have g2 := hf f2 (by simp)
    have g3 := hf f3 (by simp)
    have g4 := hf f4 (by simp)
    rw [o0, c0] at g0
    rw [o1, c1] at g1
    rw [o2, c2] at g2
    rw [o3, c3] at g3
    rw [o4, c4] at g4
    exact ⟨x0, x1, x2, x3, x4, rfl, g0, g1, g2, g3, g4⟩
theorem trc_act {H : Type} {enc : TypeId × Value → H} {W : World} {es : List Value} (h : TrC enc Try.prog W 86 es) : ∃ a : DAct, es = a.cs ∧ a.In W := by
  obtain ⟨x0, x1, x2, x3, x4, rfl, g0, g1, g2, g3, g4⟩ := trc_five Try.underlying86 (by kernel_rfl) rfl rfl rfl rfl rfl (by kernel_rfl) (by kernel_rfl) (by kernel_rfl) (by kernel_rfl) (by kernel_rfl) h
  obtain ⟨n0, e0, w0⟩ := TrC.int Try.underlying5 g0
  obtain ⟨n1, e1, w1⟩ := TrC.int Try.underlying3 g1
  obtain ⟨n2, e2, w2⟩ := TrC.int Try.underlying3 g2
  obtain ⟨bs, hbs⟩ := TrC.bytes Try.underlying27 Try.underlying5 (by kernel_rfl) g3
  obtain ⟨fates, hfs, _⟩ := TrC.row (f := fI) (Good := fun _ => True) Try.underlying79 (by kernel_rfl) (fun es hes => by
    obtain ⟨n, rfl, _⟩ := hes.int Try.underlying3
    exact ⟨n, rfl, trivial⟩) g4
  simp at e0 e1 e2
  subst e0; subst e1; subst e2
  simp [Lit.wf, IntKind.min, IntKind.max, IntKind.signed, IntKind.bits] at w0 w1 w2
  refine ⟨⟨n0.toNat, n1, n2, bs, fates, x3, x4⟩, ?_, by show n0.toNat < 256; omega, by show n2 ≤ _; omega, hbs, hfs⟩
  show _ = [Value.int .u8 ((n0.toNat : Nat) : Int), .int .i64 n1, .int .i64 n2, x3, x4]
  rw [Int.toNat_of_nonneg w0.1]
theorem arg_acts {H : Type} {enc : TypeId × Value → H} {W : World} {base : Nat} {v : Value} {d : DataW H} {p : List MemPlace}
    (ok : Value.okWide Try.prog W .any base 83 v) (h : DataW.Trod enc Try.prog W 0 (fun _ => true) true 83 v d p) : ∃ l : List DAct, RowK 5 DAct.cs W v l ∧ ∀ a ∈ l, a.In W := by
  obtain ⟨a, n, c, rfl⟩ := okWide_slice Try.underlying83 ok
  exact TrC.rowK Try.underlying83 (by kernel_rfl) (fun es hes => trc_act hes) (TrC.of h)
theorem arg_act {H : Type} {enc : TypeId × Value → H} {W : World} {base : Nat} {v : Value} {d : DataW H} {p : List MemPlace}
    (ok : Value.okWide Try.prog W .any base 86 v) (h : DataW.Trod enc Try.prog W 0 (fun _ => true) true 86 v d p) : ∃ a : DAct, v = .agg a.cs.toArray ∧ a.In W := by
  obtain ⟨cs, rfl, hcs⟩ := okWide_struct Try.underlying86 ok
  obtain ⟨a, ha, hi⟩ := trc_act (TrC.of h)
  refine ⟨a, ?_, hi⟩
  have : cs = a.cs.toArray := by
    apply Array.ext'
    exact ha
  rw [this]
/-- Fates, as an argument. -/
theorem arg_fates {H : Type} {enc : TypeId × Value → H} {W : World} {base : Nat} {v : Value} {d : DataW H} {p : List MemPlace}
    (ok : Value.okWide Try.prog W .any base 79 v) (h : DataW.Trod enc Try.prog W 0 (fun _ => true) true 79 v d p) : ∃ l : List Int, Row fI W v l := by
  obtain ⟨a, n, c, rfl⟩ := okWide_slice Try.underlying79 ok
  obtain ⟨l, hl, _⟩ := TrC.row (f := fI) (Good := fun _ => True) Try.underlying79 (by kernel_rfl) (fun es hes => by
    obtain ⟨n, rfl, _⟩ := hes.int Try.underlying3
    exact ⟨n, rfl, trivial⟩) (TrC.of h)
  exact ⟨l, hl⟩
theorem b8_of {cs : List Value} (h : ∀ i, i < cs.length → ∃ u : UInt8, cs[i]? = some (.int .u8 ((u.toNat : Nat) : Int))) : ∃ xs : List UInt8, cs = B8 xs := by
  induction cs with
  | nil => exact ⟨[], rfl⟩
  | cons c cs ih =>
    obtain ⟨u, hu⟩ := h 0 (by simp)
    obtain ⟨xs, hx⟩ := ih (fun i hi => h (i + 1) (by simp; omega))
    simp at hu
    exact ⟨u :: xs, by rw [hu, hx]; rfl⟩
/-- An array of bytes, as an argument. -/
theorem arg_arr {P : Program} {H : Type} {enc : TypeId × Value → H} {W : World} {base : Nat} {v : Value} {d : DataW H} {p : List MemPlace} {t e n : TypeId} (ht : P.underlying t = some (.array n e)) (hc : P.cellsOf t = n) (he : P.underlying e = some (.int .u8)) (hce : P.cellsOf e = 1)
    (ok : Value.okWide P W .any base t v) (h : DataW.Trod enc P W 0 (fun _ => true) true t v d p) : ∃ xs : List UInt8, v = .agg (B8 xs).toArray ∧ xs.length = n := by
  have hs : ∃ cs, v = .agg cs ∧ cs.size = P.cellsOf t := by
    unfold Value.okWide at ok
    simp only [ht] at ok
    obtain ⟨cs, h1, h2, _⟩ := ok
    exact ⟨cs, h1, h2⟩
  obtain ⟨cs, rfl, hcs⟩ := hs
  obtain ⟨hl, hf⟩ := (TrC.of h).array ht
  have hcl : cs.toList.length = n := by rw [Array.length_toList, hcs, hc]
  obtain ⟨xs, hx⟩ := b8_of (cs := cs.toList) (fun i hi => by
    have g := hf i (by omega)
    rw [hce] at g
    obtain ⟨m, em, wm⟩ := TrC.int he g
    have e0 : (cs.toList.drop (i * 1)).take 1 = [.int .u8 m] := em
    have e1 := congrArg (fun x => x[0]?) e0
    simp only [List.getElem?_take, List.getElem?_drop] at e1
    obtain ⟨a, rfl, ha⟩ := wf_nat rfl (m := 256) (by decide) wm
    refine ⟨UInt8.ofNat a, ?_⟩
    rw [UInt8.toNat_ofNat', Nat.mod_eq_of_lt (by omega)]
    simpa using e1)
  refine ⟨xs, ?_, by have := congrArg List.length hx; rw [B8_length] at this; omega⟩
  have : cs = (B8 xs).toArray := by apply Array.ext'; exact hx
  rw [this]
/-- An act is copied from its list. -/
theorem X_takeAct {w : World} {v : Value} {l : List DAct} {i : Nat} {K : Value → Value → Value → World → Prop} (hl : RowK 5 DAct.cs w v l) (hi : i < l.length) (ha : l[i].In w)
    (hK : ∀ v1 v2 q w1, Ext w w1 → w.heap.size ≤ q → w1.heap[q]? = some (.cells l[i].cs.toArray 86 (0, 0)) → K v1 v2 (ptr q) w1) :
    X Try.prog (Instr.indexAt 83 v (.int .i64 (i : Int))) w fun v1 w1 => X Try.prog (Instr.loadAt 86 v1) w1 fun v2 w2 => X Try.prog (Instr.alloc 86 true (.tuple #[])) w2 fun v3 w3 => XU Try.prog (Instr.storeAt 86 v3 v2) w3 fun w4 => K v1 v2 v3 w4 := by
  obtain ⟨ad, hix, hcs⟩ := hl.at Try.underlying83 info_86 sz_86 (kd := .i64) i rfl hi
  refine X_of (hix _) ?_
  refine X_of (load_cells Try.underlying86 agg_86 info_86 (l := l[i].cs) (by rw [sz_86]; rfl) hcs) ?_
  refine X_alloc zero_86 ?_
  have hq := newB_get w #[(.int .u8 0), (.int .i64 0), (.int .i64 0), (.slice none 0 0), (.slice none 0 0)] 86
  have hxq := newB_ext w #[(.int .u8 0), (.int .i64 0), (.int .i64 0), (.slice none 0 0), (.slice none 0 0)] 86
  show XU _ _ (newB w #[(.int .u8 0), (.int .i64 0), (.int .i64 0), (.slice none 0 0), (.slice none 0 0)] 86) _
  generalize newB w #[(.int .u8 0), (.int .i64 0), (.int .i64 0), (.slice none 0 0), (.slice none 0 0)] 86 = w2 at hq hxq ⊢
  refine XU_storeAgg info_86 hq (by rw [sz_86]; rfl) (by rw [sz_86]; rfl) (DAct.one ha) ?_
  exact hK _ _ _ _ (Ext.seq hxq (setAt_keep _ _ _ _ _) (fun j hj => by omega)) (Nat.le_refl _) (setAt_same (lt_of_blk hq))
end Go.Proofs.Ytggggfcgnkllgaa
end
section
/- More words that laws share. -/
namespace Go.Sh
open Go
theorem gs_u (b : Bool) (S : World → (Value → World → Prop) → Prop) (w : World) (K : Value → World → Prop) : gstep undef b S w K = K undef w := (And.intro rfl trivial : _ ∧ True).1
end Go.Sh
end
section
/- cellaragelaw12: puts, told as an argument; an array of strings. -/
set_option linter.unusedVariables false
set_option linter.unusedSimpArgs false
namespace Go.Proofs.Ytggggfcgnkllgaa
open Go Go.Sh Go.RowKit Go.ChangeShapes Go.WideShapes Go.ChangeAt
attribute [local irreducible] X XU XP XR CALL loopS resC closS Value.okWide
structure PAct where
  pos : Nat
  bs : List UInt8
  bv : Value
def PAct.cs (a : PAct) : List Value := [.int .u8 (a.pos : Int), a.bv]
structure PAct.In (a : PAct) (W : World) : Prop where
  pos : a.pos < 256
  bts : Bts W a.bv a.bs
theorem PAct.In.ext {a : PAct} {W w : World} (h : a.In W) (k : Ext W w) : a.In w := ⟨h.pos, h.bts.ext k⟩
theorem PAct.one {a : PAct} {W : World} (h : a.In W) : ∀ v ∈ a.cs, v.oneCell' = true := by
  obtain ⟨_, _, e1⟩ := Bts.slice h.bts
  intro v hv
  simp only [PAct.cs, List.mem_cons, List.not_mem_nil, or_false] at hv
  rcases hv with rfl | rfl
  · rfl
  · rw [e1]; rfl
theorem trc_two {P : Program} {H : Type} {enc : TypeId × Value → H} {W : World} {t : TypeId} {es : List Value} {f0 f1 : Field} (ht : P.underlying t = some (.struct #[f0, f1])) (hc : P.cellsOf t = 2)
    (o0 : f0.offset = 0) (o1 : f1.offset = 1) (c0 : P.cellsOf f0.type = 1) (c1 : P.cellsOf f1.type = 1) (h : TrC enc P W t es) : ∃ x0 x1, es = [x0, x1] ∧ TrC enc P W f0.type [x0] ∧ TrC enc P W f1.type [x1] := by
  obtain ⟨hl, hf⟩ := h.struct ht
  rw [hc] at hl
  match es, hl with
  | [x0, x1], _ =>
    have g0 := hf f0 (by simp)
    have g1 := hf f1 (by simp)
    rw [o0, c0] at g0
    rw [o1, c1] at g1
    exact ⟨x0, x1, rfl, g0, g1⟩
theorem trc_put {H : Type} {enc : TypeId × Value → H} {W : World} {es : List Value} (h : TrC enc Try.prog W 131 es) : ∃ a : PAct, es = a.cs ∧ a.In W := by
  obtain ⟨x0, x1, rfl, g0, g1⟩ := trc_two Try.underlying131 (by kernel_rfl) rfl rfl (by kernel_rfl) (by kernel_rfl) h
  obtain ⟨n0, e0, w0⟩ := TrC.int Try.underlying5 g0
  obtain ⟨bs, hbs⟩ := TrC.bytes Try.underlying27 Try.underlying5 (by kernel_rfl) g1
  simp at e0
  subst e0
  simp [Lit.wf, IntKind.min, IntKind.max, IntKind.signed, IntKind.bits] at w0
  refine ⟨⟨n0.toNat, bs, x1⟩, ?_, by show n0.toNat < 256; omega, hbs⟩
  show _ = [Value.int .u8 ((n0.toNat : Nat) : Int), x1]
  rw [Int.toNat_of_nonneg w0.1]
theorem arg_puts {H : Type} {enc : TypeId × Value → H} {W : World} {base : Nat} {v : Value} {d : DataW H} {p : List MemPlace}
    (ok : Value.okWide Try.prog W .any base 128 v) (h : DataW.Trod enc Try.prog W 0 (fun _ => true) true 128 v d p) : ∃ l : List PAct, RowK 2 PAct.cs W v l ∧ ∀ a ∈ l, a.In W := by
  obtain ⟨a, n, c, rfl⟩ := okWide_slice Try.underlying128 ok
  exact TrC.rowK Try.underlying128 (by kernel_rfl) (fun es hes => trc_put hes) (TrC.of h)
theorem X_takePut {w : World} {v : Value} {l : List PAct} {i : Nat} {K : Value → Value → Value → World → Prop} (hl : RowK 2 PAct.cs w v l) (hi : i < l.length) (ha : l[i].In w)
    (hK : ∀ v1 v2 q w1, Ext w w1 → w.heap.size ≤ q → w1.heap[q]? = some (.cells l[i].cs.toArray 131 (0, 0)) → K v1 v2 (ptr q) w1) :
    X Try.prog (Instr.indexAt 128 v (.int .i64 (i : Int))) w fun v1 w1 => X Try.prog (Instr.loadAt 131 v1) w1 fun v2 w2 => X Try.prog (Instr.alloc 131 true (.tuple #[])) w2 fun v3 w3 => XU Try.prog (Instr.storeAt 131 v3 v2) w3 fun w4 => K v1 v2 v3 w4 := by
  obtain ⟨ad, hix, hcs⟩ := hl.at Try.underlying128 info_131 sz_131 (kd := .i64) i rfl hi
  refine X_of (hix _) ?_
  refine X_of (load_cells Try.underlying131 agg_131 info_131 (l := l[i].cs) (by rw [sz_131]; rfl) hcs) ?_
  refine X_alloc zero_131 ?_
  have hq := newB_get w #[(.int .u8 0), (.slice none 0 0)] 131
  have hxq := newB_ext w #[(.int .u8 0), (.slice none 0 0)] 131
  show XU _ _ (newB w #[(.int .u8 0), (.slice none 0 0)] 131) _
  generalize newB w #[(.int .u8 0), (.slice none 0 0)] 131 = w2 at hq hxq ⊢
  refine XU_storeAgg info_131 hq (by rw [sz_131]; rfl) (by rw [sz_131]; rfl) (PAct.one ha) ?_
  exact hK _ _ _ _ (Ext.seq hxq (setAt_keep _ _ _ _ _) (fun j hj => by omega)) (Nat.le_refl _) (setAt_same (lt_of_blk hq))
/-- Strings in a block, one behind the other. -/
def Strs (l : List (List UInt8)) : Array Value := (l.map fun s => Value.string (str s)).toArray
theorem Strs_set (l : List (List UInt8)) (k : Nat) (x : List UInt8) : (Strs l).setIfInBounds k (.string (str x)) = Strs (l.set k x) := by
  apply Array.ext'
  simp [Strs, List.map_set]
theorem Strs_get (l : List (List UInt8)) (k : Nat) (h : k < l.length) : (Strs l)[k]? = some (.string (str (l.getD k []))) := by
  simp [Strs, h, List.getD_eq_getElem?_getD]
theorem run_ix129 (b k : Nat) (h : k < 7) (w : World) : (Instr.indexAt 129 (ptr b) (.int .i64 (k : Int))).run Try.prog w = .ok (.pointer (some ⟨b, k, none⟩)) w := by
  have := run_index_arr (P := Try.prog) (T := 129) Try.underlying129 info_9 ⟨b, 0, none⟩ .i64 k h w
  rw [sz_9, Nat.mul_one] at this
  rw [show ptr b = .pointer (some ⟨b, 0, none⟩) from rfl, this]
  by_cases hk : k = 0
  · subst hk; rfl
  · simp [Addr.add, hk]
theorem run_four79 (a b c d : Int) (w : World) : (Instr.buildSlice 79 4 #[(0, .int .i64 a), (1, .int .i64 b), (2, .int .i64 c), (3, .int .i64 d)]).run Try.prog w = .ok (.slice (some ⟨w.heap.size, 0, none⟩) 4 4) (newB w #[.int .i64 a, .int .i64 b, .int .i64 c, .int .i64 d] 3) := by kernel_rfl
theorem row_four79 (a b c d : Int) (w : World) : Row fI (newB w #[.int .i64 a, .int .i64 b, .int .i64 c, .int .i64 d] 3) (.slice (some ⟨w.heap.size, 0, none⟩) 4 4) [a, b, c, d] := by
  refine ⟨_, 4, rfl, Nat.le_refl _, by omega, fun _ => ⟨_, rfl, fun j x hj => ?_⟩⟩
  have hg := newB_get w #[.int .i64 a, .int .i64 b, .int .i64 c, .int .i64 d] 3
  have hj' := (List.getElem?_eq_some_iff.1 hj).1
  simp at hj'
  have : j = 0 ∨ j = 1 ∨ j = 2 ∨ j = 3 := by omega
  rcases this with rfl | rfl | rfl | rfl <;> (simp at hj; subst hj; exact cell_blk hg)
theorem zeros128 : madeCells (Value.int .u8 0).cells (128 * 1) = (B8 (List.replicate 128 0)).toArray := by
  apply Array.ext'
  have : (madeCells (Value.int .u8 0).cells 128).toList = List.replicate 128 (.int .u8 0) := made_one _ _
  rw [Nat.mul_one, this]
  simp [B8]
end Go.Proofs.Ytggggfcgnkllgaa
end
