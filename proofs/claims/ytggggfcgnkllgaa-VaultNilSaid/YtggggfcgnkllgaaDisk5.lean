/- cellarage/disk: crash, read, new, copy. -/
import Derived.Test.YtggggfcgnkllgaaDisk4
set_option linter.unusedSimpArgs false
set_option linter.unusedVariables false
namespace Go.Proofs.Ytggggfcgnkllgaa
open Go Go.Sh Go.RowKit
attribute [local irreducible] X XU XP XR CALL loopS resC closS

/-- Whole numbers, as cells. -/
abbrev fI : Int → Value := fun n => .int .i64 n
theorem row_keep {α : Type} {f : α → Value} {w w' : World} {v : Value} {xs : List α} {D : Nat → Prop} (h : Row f w v xs) (k : Keep D w w') (hd : 0 < xs.length → ∀ b, v.ownBlock = some b → ¬ D b) : Row f w' v xs := by
  obtain ⟨a, c, rfl, h1, h2, h3⟩ := h
  refine ⟨a, c, rfl, h1, h2, fun hn => ?_⟩
  obtain ⟨ad, rfl, hc⟩ := h3 hn
  refine ⟨ad, rfl, fun j x hj => k.cell ?_ (hc j x hj)⟩
  have : (ad.add j).block = ad.block := by unfold Addr.add; split <;> rfl
  rw [this]
  exact hd hn _ rfl
theorem tears_succ (fates : List Int) {l : List (List UInt8)} {ws : List (Nat × List UInt8)} {i : Nat} (h : i < ws.length) : tears fates 0 l (ws.take (i + 1)) = tearAt (tears fates 0 l (ws.take i)) ws[i] (fateAt fates i) := by
  rw [List.take_succ_eq_append_getElem h, tears_append, List.length_take, Nat.min_eq_left (by omega), Nat.zero_add]
  rfl
section
variable {w : World} {b : Nat} {d : Dk} {K : Value → World → Prop}
theorem Crash_spec {v : Value} {fates : List Int} (h : DiskAt w b d) (hf : Row fI w v fates) (hnf : 0 < fates.length → ∀ k, v.ownBlock = some k → ¬ foot w b k)
    (hK : ∀ w1, DiskAt w1 b (d.crash fates) → Step b w w1 → K (.tuple #[]) w1) : CALL Try.prog 72 #[ptr b, v] w K := by
  obtain ⟨ok, nv, sv, wv, h⟩ := h
  obtain ⟨af, cf, ef⟩ := hf.slice
  apply call_disk_Disk_Crash
  unfold B_disk_Disk_Crash
  simp only [X_eql_nil_74, Option.isNone_some, condS_bool, Bool.false_eq_true, if_false, X_nilS, X_field_183_2]
  refine X_loadL agg_181 h.blk rfl ?_
  obtain ⟨aw, cw, ewv⟩ := own_sl h.ws
  rw [ewv, X_len_181, ← ewv]
  have hw128 : ∀ p ∈ d.ws, p.2.length = 128 := fun p hp => (ok.2.1 p hp).2
  have hbd : d.ws.length ≤ 9223372036854775807 := own_max h.ws
  refine loopE (fun ρ wr => ∃ i : Nat, i ≤ d.ws.length ∧ RawAt wr b { Dk.raw d with safe := tears fates 0 d.safe (d.ws.take i) } nv sv wv ∧ Step b w wr ∧
      ρ 14 = .int .i64 (i : Nat) ∧ ρ 13 = .int .i64 (d.ws.length : Nat) ∧ ρ 12 = wv ∧ ρ 0 = ptr b ∧ ρ 1 = v)
    (fun ρ wr => match ρ 14 with | .int _ s => (d.ws.length - s).toNat | _ => 0)
    (fun ρ wr => RawAt wr b { Dk.raw d with safe := tears fates 0 d.safe d.ws } nv sv wv ∧ Step b w wr ∧ ρ 0 = ptr b) ?_ ?_ ?_
  · refine ⟨0, Nat.zero_le _, ?_, Step.refl, rfl, rfl, rfl, rfl, rfl⟩
    have : ({ Dk.raw d with safe := tears fates 0 d.safe (d.ws.take 0) } : Raw) = Dk.raw d := by
      rw [List.take_zero]
      rfl
    rw [this]; exact h
  · rintro JE hJE ρ wr ⟨i, hi, hr, hs, h14, h13, h12, h0, h1⟩
    rw [h14, h13, X_lss, condS_bool]
    by_cases hin : i = d.ws.length
    · rw [if_neg (by simp; omega)]
      refine hJE _ _ ⟨?_, hs, h0⟩
      rw [hin, List.take_length] at hr
      exact hr
    rw [if_pos (by simp; omega)]
    have hlt : i < d.ws.length := by omega
    have hp128 := hw128 _ (List.getElem_mem hlt)
    have hpi := (ok.2.1 _ (List.getElem_mem hlt)).1
    have hlen : ({ Dk.raw d with safe := tears fates 0 d.safe (d.ws.take i) } : Raw).safe.length = d.safe.length := tears_length _ _ _ _
    have hsi : d.ws[i].1 < ({ Dk.raw d with safe := tears fates 0 d.safe (d.ws.take i) } : Raw).safe.length := by rw [hlen]; exact hpi
    refine joinS_of (fun ρ' w' => RawAt w' b { Dk.raw d with safe := tears fates 0 d.safe (d.ws.take (i + 1)) } nv sv wv ∧ Step b w w' ∧
      ρ' 14 = .int .i64 (i : Nat) ∧ ρ' 13 = .int .i64 (d.ws.length : Nat) ∧ ρ' 12 = wv ∧ ρ' 0 = ptr b ∧ ρ' 1 = v) ?_ ?_
    · rintro ρ' w' ⟨hr', hs', g14, g13, g12, g0, g1⟩
      rw [g14, X_add]
      show _ ∧ _
      refine ⟨⟨i + 1, by omega, hr', hs', next64 (n := d.ws.length - 1) (by omega) (by omega), g13, g12, g0, g1⟩, ?_⟩
      show (_ - IntKind.i64.wrap _).toNat < _
      rw [w64 (by omega) (by omega)]
      first | omega | (show _ < (_ : Int).toNat; omega)
    intro J hJ
    obtain ⟨g, cap, cur, hwv, hg, hc⟩ := hr.ws_at hlt
    have hc' : (cur.toList.drop (i * 129)).take 129 = wcs d.ws[i] := hc
    have hwv' : wv = .slice (some ⟨g, 0, none⟩) d.ws.length cap := hwv
    rw [h12]
    have hixw : ∀ w, (Instr.indexAt 181 wv (.int .i64 (i : Int))).run Try.prog w = .ok (.pointer (some ⟨g, i * 129, none⟩)) w := fun w => by
      rw [hwv', ix Try.underlying181 info_186 i rfl hlt w, sz_186, add_plain, Nat.zero_add]
    refine X_of (hixw _) ?_
    refine X_of (wcs_load hg hc' hp128) ?_
    refine X_alloc zero_186 ?_
    have hq := newB_get wr ([Value.int .i64 0] ++ List.replicate 128 (Value.int .u8 0)).toArray 186
    have hxq := newB_ext wr ([Value.int .i64 0] ++ List.replicate 128 (Value.int .u8 0)).toArray 186
    show XU _ _ (newB wr ([Value.int .i64 0] ++ List.replicate 128 (Value.int .u8 0)).toArray 186) _
    generalize newB wr ([Value.int .i64 0] ++ List.replicate 128 (Value.int .u8 0)).toArray 186 = w2 at hq hxq ⊢
    have hwl : (wcs d.ws[i]).length = 129 := by simp [wcs, hp128]
    refine XU_storeAgg info_186 hq (by rw [sz_186]; simp) (by rw [sz_186, hwl]) (wcs_one _) ?_
    have hq2 := setAt_same (cs := (wcs d.ws[i]).toArray) (T := 186) (fr := (0, 0)) (lt_of_blk hq)
    have hx2 : Ext wr (setAt w2 wr.heap.size (wcs d.ws[i]).toArray 186 (0, 0)) := Ext.seq hxq (setAt_keep _ _ _ _ _) (fun j hj => by omega)
    generalize setAt w2 wr.heap.size (wcs d.ws[i]).toArray 186 (0, 0) = w3 at hq2 hx2 ⊢
    have hr3 := hr.ext hx2
    have hs3 := hs.trans (Step.ext hx2 (lt_of_blk hr.blk))
    have hff : Row fI w3 v fates := row_keep hf hs3.keep hnf
    rw [h1, ef]
    simp only [X_len_79, X_lss, condS_bool]
    rw [← ef]
    by_cases hfi : i < fates.length
    · rw [if_pos (by simp; omega)]
      obtain ⟨a, hix, hcell⟩ := hff.at Try.underlying79 info_3 sz_3 (k := .i64) i rfl hfi
      refine X_of (hix _) ?_
      refine X_load agg_3 hcell ?_
      simp only [X_min, X_max]
      obtain ⟨n, hn⟩ : ∃ n : Nat, n = fateAt fates i := ⟨_, rfl⟩
      have hn128 : n ≤ 128 := by rw [hn]; exact fateAt_le _ _
      have en : max 0 (min fates[i] 128) = (n : Int) := by
        rw [hn]; unfold fateAt
        rw [List.getElem?_eq_getElem hfi]
        show _ = (((max 0 (min fates[i] 128)).toNat : Nat) : Int)
        omega
      have hr3d := hr3.ext (Keep.drew (fun _ => False) w3)
      obtain ⟨g2, cap2, cur2, hsv, hg2, hfit, hold, hput⟩ := hr3d.safe_at hsi
      obtain ⟨h8, s8⟩ := hput (d.ws[i].2.take n) (by simp; omega)
      have hxl : (d.ws[i].2.take n).length = n := by rw [List.length_take]; omega
      have hsb : sv.ownBlock = some g2 := by rw [hsv]; rfl
      obtain ⟨n1, n2, n3⟩ := hr3.b_ne
      have hbg : ¬ b = g2 := fun e => n2 (by rw [hsb, e])
      have hqg : ¬ wr.heap.size = g2 := fun e => by
        have := hr.lt (hr.foot.2 (.inr (.inr (.inl hsb))))
        omega
      rw [en]
      refine ⟨Keep (· = g2), Keep.frame _, ?_⟩
      have hq3 : (drewW w3).heap[wr.heap.size]? = some (.cells (wcs d.ws[i]).toArray 186 (0, 0)) := hq2
      have hb3 : (drewW w3).heap[b]? = some (.cells #[nv, sv, wv, .bool d.dead, .int .i64 d.fuse, .int .i64 d.done] 183 (0, 0)) := hr3.blk
      have hg3 : (drewW w3).heap[g2]? = some (.cells cur2 184 (0, 0)) := hg2
      rw [h0]
      try simp only [XP_nilS, XP_field_183_1, XP_field_186_0, XP_field_186_1, Nat.zero_add]
      refine XR_ok (Keep.frame _) (fun w' k => run_loadAt agg_180 (blk_get (k.get hbg hb3) (v := sv) rfl)) ?_
      refine XR_ok (Keep.frame _) (fun w' k => run_loadAt agg_3 (blk_get (k.get hqg hq3) (v := .int .i64 (d.ws[i].1 : Int)) rfl)) ?_
      have hixs : ∀ w, (Instr.indexAt 180 sv (.int .i64 (d.ws[i].1 : Int))).run Try.prog w = .ok (.pointer (some ⟨g2, d.ws[i].1 * 128, none⟩)) w := fun w => by
        rw [hsv, ix Try.underlying180 info_184 d.ws[i].1 rfl hsi w, sz_184, add_plain, Nat.zero_add]
      refine XP_of hixs ?_
      refine XP_of (fun w => run_slice_arr_hi Try.underlying184 info_5 _ .i64 n (by omega) w) ?_
      refine XP_of (fun w => run_slice_arr_hi Try.underlying184 info_5 _ .i64 n (by omega) w) ?_
      refine X_copy_cells (size := 1) Try.underlying27 info_5 sz_5 hg3 (l := B8 (d.ws[i].2.take n)) (by rw [B8_length, hxl]; simp) ?_ B8_one (by rw [B8_length, hxl]; omega) ?_
      · intro j u hj
        rw [add_plain, cell_blk hq3]
        rw [B8_getElem?, List.getElem?_take] at hj
        split at hj
        · rw [← B8_getElem?] at hj
          have : (wcs d.ws[i])[1 + j]? = some u := by
            rw [Nat.add_comm]
            exact hj
          simpa using this
        · cases hj
      refine ⟨setAt_keep _ _ _ _ _, ?_⟩
      refine hJ _ _ ⟨?_, hs3.trans ((Step.ext (Keep.drew _ _) (lt_of_blk hr3.blk)).trans ?_), h14, h13, h12.trans rfl, h0, h1⟩
      · have e : tears fates 0 d.safe (d.ws.take (i + 1)) = (tears fates 0 d.safe (d.ws.take i)).set d.ws[i].1 (d.ws[i].2.take n ++ ((tears fates 0 d.safe (d.ws.take i))[d.ws[i].1]'hsi).drop (d.ws[i].2.take n).length) := by
          rw [tears_succ fates hlt, hxl, hn]
          unfold tearAt
          rw [List.getD_eq_getElem?_getD, List.getElem?_eq_getElem hsi]
          rfl
        rw [e]
        exact h8
      · exact s8
    · rw [if_neg (by simp; omega)]
      refine hJ _ _ ⟨?_, hs3, h14, h13, h12, h0, h1⟩
      have ef0 : fateAt fates i = 0 := by unfold fateAt; rw [List.getElem?_eq_none (by omega)]
      have e : tears fates 0 d.safe (d.ws.take (i + 1)) = tears fates 0 d.safe (d.ws.take i) := by
        rw [tears_succ fates hlt, ef0]
        unfold tearAt
        rw [List.take_zero, List.drop_zero, List.nil_append, List.getD_eq_getElem?_getD, List.getElem?_eq_getElem hsi]
        exact List.set_getElem_self hsi
      rw [e]
      exact hr3
  · rintro ρ wr ⟨hr, hs, h0⟩
    refine ⟨Ext, Ext.frame, ?_⟩
    rw [h0]
    have hrd := hr.ext (Keep.drew (fun _ => False) wr)
    try simp only [XP_nilS, XP_field_183_0, XP_field_183_1]
    refine XR_ok Ext.frame (fun w' k => run_loadAt agg_180 (blk_get (k.get hrd.blk) (v := nv) rfl)) ?_
    refine XR_ok Ext.frame (fun w' k => run_loadAt agg_180 (blk_get (k.get hrd.blk) (v := sv) rfl)) ?_
    refine copy_now hrd (by show d.now.length = (tears fates 0 d.safe d.ws).length; rw [Dk.now_length, tears_length]) ?_
    intro v1 w1 h1 s1
    simp only [X_nilS, X_field_183_2, X_field_183_3, X_field_183_4]
    refine XU_store info_181 sz_181 rfl h1.blk (Nat.le_of_ble_eq_true rfl) (by show ¬ ((0 : Nat) ≤ 0 + 2 ∧ 0 + 2 < 0); omega) ?_
    obtain ⟨h2, s2⟩ := h1.clear
    show XU _ _ (setAt w1 b #[nv, sv, .slice none 0 0, .bool d.dead, .int .i64 d.fuse, .int .i64 d.done] 183 (0, 0)) _
    have e2 : setAt w1 b #[nv, sv, .slice none 0 0, .bool d.dead, .int .i64 d.fuse, .int .i64 d.done] 183 (0, 0) = setAt w1 b #[nv, sv, .slice none 0 0, .bool (Dk.raw d).dead, .int .i64 (Dk.raw d).fuse, .int .i64 (Dk.raw d).done] 183 (0, 0) := rfl
    rw [e2]
    generalize setAt w1 b #[nv, sv, .slice none 0 0, .bool (Dk.raw d).dead, .int .i64 (Dk.raw d).fuse, .int .i64 (Dk.raw d).done] 183 (0, 0) = w2 at h2 s2 ⊢
    refine XU_store info_4 sz_4 rfl h2.blk (Nat.le_of_ble_eq_true rfl) (by show ¬ ((0 : Nat) ≤ 0 + 3 ∧ 0 + 3 < 0); omega) ?_
    obtain ⟨h3, s3⟩ := h2.put (cs' := (#[nv, sv, .slice none 0 0, .bool (Dk.raw d).dead, .int .i64 (Dk.raw d).fuse, .int .i64 (Dk.raw d).done] : Array Value).setIfInBounds (0 + 3) (.bool false)) ⟨tears fates 0 d.safe d.ws, tears fates 0 d.safe d.ws, [], false, d.fuse, d.done⟩ rfl rfl rfl rfl
    generalize setAt w2 b _ 183 (0, 0) = w3 at h3 s3 ⊢
    refine XU_store info_3 sz_3 rfl h3.blk (Nat.le_of_ble_eq_true rfl) (by show ¬ ((0 : Nat) ≤ 0 + 4 ∧ 0 + 4 < 0); omega) ?_
    obtain ⟨h4, s4⟩ := h3.put (cs' := (#[nv, sv, .slice none 0 0, .bool false, .int .i64 d.fuse, .int .i64 d.done] : Array Value).setIfInBounds (0 + 4) (.int .i64 (-1))) ⟨tears fates 0 d.safe d.ws, tears fates 0 d.safe d.ws, [], false, -1, d.done⟩ rfl rfl rfl rfl
    exact hK _ ⟨Dk.crash_ok ok fates, nv, sv, _, h4⟩ (hs.trans ((Step.ext (Keep.drew _ _) (lt_of_blk hr.blk)).trans (s1.trans (s2.trans (s3.trans s4)))))
theorem Read_spec {at_ : Int} (h : DiskAt w b d) (hK : ∀ v w1, Ext w w1 → w1.ownsRow w.heap.size 5 1 v (d.read at_).1.length (B8 (d.read at_).1) → K (.tuple #[v, i64v (d.read at_).2]) w1) : CALL Try.prog 73 #[ptr b, i64v at_] w K := by
  obtain ⟨ok, nv, sv, wv, h⟩ := h
  obtain ⟨an, cn, en⟩ := own_sl h.now
  have enl : (Dk.raw d).now.length = d.safe.length := Dk.now_length d
  apply call_disk_Disk_Read
  unfold B_disk_Disk_Read
  simp only [X_eql_nil_74, Option.isNone_some, condS_bool, Bool.false_eq_true, if_false, X_lss, gstep_bool]
  have bad : at_ < 0 ∨ (d.safe.length : Int) ≤ at_ → K (.tuple #[.slice none 0 0, i64v 1]) w := by
    intro hbad
    have e : d.read at_ = ([], 1) := by unfold Dk.read; rw [if_pos hbad]
    have := hK (.slice none 0 0) w (Keep.refl _ _) (by rw [e]; exact own_nilB w)
    rw [e] at this
    exact this
  by_cases hneg : at_ < 0
  · have e1 : decide (at_ < 0) = true := by simpa using hneg
    simp only [e1, Bool.true_eq_false, if_false, X_pick, if_true, gstep_bool, condS_bool]
    exact bad (.inl hneg)
  have e1 : decide (at_ < 0) = false := by simpa using hneg
  simp only [e1, if_true, X_nilS, X_field_183_0, X_field_183_3]
  refine X_loadL agg_180 h.blk rfl ?_
  rw [en, enl]
  simp only [X_len_180, X_geq, X_pick, condS_bool, Bool.false_eq_true, if_false]
  by_cases hge : (d.safe.length : Int) ≤ at_
  · rw [if_pos (by simpa using hge)]
    exact bad (.inr hge)
  rw [if_neg (by simpa using hge)]
  have hgood : ¬ (at_ < 0 ∨ (d.safe.length : Int) ≤ at_) := by omega
  refine X_loadL agg_4 h.blk rfl ?_
  rw [condS_bool]
  by_cases hd : d.dead = true
  · rw [if_pos (by exact hd)]
    have e : d.read at_ = ([], 6) := by unfold Dk.read; rw [if_neg hgood, if_pos hd]
    have := hK (.slice none 0 0) w (Keep.refl _ _) (by rw [e]; exact own_nilB w)
    rw [e] at this
    exact this
  rw [if_neg (by exact hd)]
  refine X_loadL agg_180 h.blk rfl ?_
  obtain ⟨i, rfl⟩ : ∃ i : Nat, at_ = (i : Int) := ⟨at_.toNat, by omega⟩
  have hi : i < (Dk.raw d).now.length := by rw [enl]; omega
  obtain ⟨g, cap, cur, hnv, hg, hfit, hold, hput⟩ := h.now_at hi
  have h128 := h.n128 _ (List.getElem_mem hi)
  rw [hnv]
  refine X_of (ix Try.underlying180 info_184 i rfl hi _) ?_
  rw [sz_184, add_plain, Nat.zero_add]
  refine X_of (run_slice_arr_all Try.underlying184 info_5 _ _) ?_
  have e : d.read (i : Int) = ((Dk.raw d).now[i], 0) := by
    unfold Dk.read
    rw [if_neg hgood, if_neg hd]
    show (d.now.getD ((i : Int).toNat) [], (0 : Int)) = _
    rw [List.getD_eq_getElem?_getD, Int.toNat_natCast, List.getElem?_eq_getElem (show i < d.now.length from hi)]
    rfl
  have hb : Bts w (.slice (some ⟨g, i * 128, none⟩) (Dk.raw d).now[i].length 128) (Dk.raw d).now[i] := by
    refine ⟨_, _, rfl, by omega, by omega, fun _ => ⟨_, rfl, fun j u hj => ?_⟩⟩
    rw [add_plain, cell_blk hg]
    have hc := congrArg (fun x => x[j]?) hold
    simp only [B8_getElem?, hj, List.getElem?_take, List.getElem?_drop, Option.map_some] at hc
    split at hc
    · rw [← hc]; simp
    · cases hc
  rw [h128] at hb
  refine Clone_spec hb (by omega) ?_
  intro v' w1 hx ho
  have := hK v' w1 hx (by rw [e]; exact ho)
  rw [e] at this
  exact this
theorem run_build_183 (a a' : Option Addr) (n c n' c' : Nat) (w : World) : (Instr.build 183 #[(0, .slice a n c), (1, .slice a' n' c'), (4, .int .i64 (-1))]).run Try.prog w = .ok (.agg #[.slice a n c, .slice a' n' c', .slice none 0 0, .bool false, .int .i64 (-1), .int .i64 0]) w := by kernel_rfl
theorem madeCells_const (v : Value) (m n : Nat) (hm : 0 < m) : madeCells (List.replicate m v).toArray n = (List.replicate n v).toArray := by
  unfold madeCells
  apply Array.ext
  · simp
  · intro i h1 h2
    simp only [Array.getElem_map, Array.getElem_range, List.size_toArray, List.length_replicate]
    have hlt : i % m < m := Nat.mod_lt _ hm
    rw [getElem!_pos _ _ (by simpa using hlt)]
    simp
theorem new_sectors (n : Nat) : madeCells (Value.agg (List.replicate 128 (Value.int .u8 0)).toArray).cells (n * 128) = (B8 (List.replicate n (List.replicate 128 0)).flatten).toArray := by
  have e : (Value.agg (List.replicate 128 (Value.int .u8 0)).toArray).cells = (List.replicate 128 (Value.int .u8 0)).toArray := rfl
  rw [e, madeCells_const _ _ _ (by decide), List.flatten_replicate_replicate, B8_zeros]
theorem New_disk {n : Int} (hbad : n < 0 ∨ 16384 < n → K (.tuple #[.pointer none, i64v 1]) w)
    (hgood : ∀ m : Nat, n = m → m ≤ 16384 → ∀ b w1, Ext w w1 → (∀ k, foot w1 b k → w.heap.size ≤ k) → DiskAt w1 b (Dk.new m) → K (.tuple #[ptr b, i64v 0]) w1) : CALL Try.prog 69 #[i64v n] w K := by
  apply call_disk_New
  unfold B_disk_New
  simp only [X_lss, gstep_bool, X_gtr, X_pick, condS_bool]
  by_cases hneg : n < 0
  · have e1 : decide (n < 0) = true := by simpa using hneg
    simp only [e1, Bool.true_eq_false, if_false, X_pick, if_true, gstep_bool, condS_bool]
    exact hbad (.inl hneg)
  have e1 : decide (n < 0) = false := by simpa using hneg
  simp only [e1, if_true, X_gtr, X_pick, Bool.false_eq_true, if_false, condS_bool]
  by_cases hbig : 16384 < n
  · rw [if_pos (by simpa using hbig)]
    exact hbad (.inr hbig)
  rw [if_neg (by simpa using hbig)]
  obtain ⟨m, rfl⟩ : ∃ m : Nat, n = (m : Int) := ⟨n.toNat, by omega⟩
  have hm : m ≤ 16384 := by omega
  have hx0 := Keep.drew (fun _ => False) w
  have hsz0 : (drewW w).heap.size = w.heap.size := rfl
  have key : ∀ (g1 g2 : Nat) (w2 : World), Ext (drewW w) w2 → w.heap.size ≤ g1 → w.heap.size ≤ g2 → g1 ≠ g2 → w2.heap[g1]? = some (.cells (B8 (List.replicate m (List.replicate 128 0)).flatten).toArray 184 (0, 0)) → w2.heap[g2]? = some (.cells (B8 (List.replicate m (List.replicate 128 0)).flatten).toArray 184 (0, 0)) →
      XP Try.prog (Instr.build 183 #[(0, .slice (some ⟨g1, 0, none⟩) m m), (1, .slice (some ⟨g2, 0, none⟩) m m), (4, (.int .i64 (-1)))]) w2 fun v6 w3 => X Try.prog (Instr.box 183 v6) w3 fun v7 w4 => K (.tuple #[v7, (.int .i64 0)]) w4 := by
    intro g1 g2 w2 hx hg1 hg2 hne h1 h2
    refine XP_of (fun w => run_build_183 _ _ _ _ _ _ w) ?_
    refine X_box ?_
    have hb := newB_get w2 (Value.agg #[.slice (some ⟨g1, 0, none⟩) m m, .slice (some ⟨g2, 0, none⟩) m m, .slice none 0 0, .bool false, .int .i64 (-1), .int .i64 0]).cells 183
    have hxb := newB_ext w2 (Value.agg #[.slice (some ⟨g1, 0, none⟩) m m, .slice (some ⟨g2, 0, none⟩) m m, .slice none 0 0, .bool false, .int .i64 (-1), .int .i64 0]).cells 183
    have hlen : (B8 (List.replicate m (List.replicate 128 0)).flatten).length = m * 128 := by rw [B8_length, flat_len (n := 128) (by intro s hs; rw [(List.mem_replicate.1 hs).2]; simp)]; simp
    have own : ∀ g, w2.heap[g]? = some (.cells (B8 (List.replicate m (List.replicate 128 0)).flatten).toArray 184 (0, 0)) → (newB w2 (Value.agg #[.slice (some ⟨g1, 0, none⟩) m m, .slice (some ⟨g2, 0, none⟩) m m, .slice none 0 0, .bool false, .int .i64 (-1), .int .i64 0]).cells 183).ownsRow 0 184 128 (.slice (some ⟨g, 0, none⟩) m m) m (B8 (List.replicate m (List.replicate 128 0)).flatten) := fun g hg =>
      ⟨hlen, .inr ⟨g, m, _, rfl, Nat.zero_le _, hxb.get hg, Nat.le_refl _, by simp only [maxLen]; omega, by rw [List.size_toArray, hlen], by rw [List.take_of_length_le (by simp [hlen])]⟩⟩
    have hraw : RawAt (newB w2 (Value.agg #[.slice (some ⟨g1, 0, none⟩) m m, .slice (some ⟨g2, 0, none⟩) m m, .slice none 0 0, .bool false, .int .i64 (-1), .int .i64 0]).cells 183) w2.heap.size (Dk.raw (Dk.new m)) (.slice (some ⟨g1, 0, none⟩) m m) (.slice (some ⟨g2, 0, none⟩) m m) (.slice none 0 0) := by
      have ok := Dk.new_ok hm
      have hl : (List.replicate m (List.replicate 128 (0 : UInt8))).length = m := by simp
      refine ⟨hb, ?_, ?_, ⟨rfl, .inl ⟨rfl, rfl⟩⟩, ?_, Dk.now_128 ok, ok.1, by intro p hp; exact absurd hp (by simp [Dk.raw, Dk.new])⟩
      · show World.ownsRow _ 0 184 128 _ (List.replicate m (List.replicate 128 (0 : UInt8))).length (B8 (List.replicate m (List.replicate 128 0)).flatten)
        rw [hl]; exact own g1 h1
      · show World.ownsRow _ 0 184 128 _ (List.replicate m (List.replicate 128 (0 : UInt8))).length (B8 (List.replicate m (List.replicate 128 0)).flatten)
        rw [hl]; exact own g2 h2
      · intro g hg hg'
        have e1 : g1 = g := by simpa [Value.ownBlock] using hg
        have e2 : g2 = g := by simpa [Value.ownBlock] using hg'
        exact hne (by rw [e1, e2])
    refine hgood m rfl hm _ _ (hx0.trans (hx.trans hxb)) ?_ ⟨Dk.new_ok hm, _, _, _, hraw⟩
    intro k hk
    rcases hraw.foot.1 hk with h | h | h | h
    · have := hx.size; omega
    · have : g1 = k := by simpa [Value.ownBlock] using h
      omega
    · have : g2 = k := by simpa [Value.ownBlock] using h
      omega
    · cases h
  refine ⟨Ext, Ext.frame, ?_, ?_⟩
  · refine X_make Try.underlying180 el_184 m m rfl rfl (Nat.le_refl _) (by omega) (by omega) ?_
    refine X_make Try.underlying180 el_184 m m rfl rfl (Nat.le_refl _) (by omega) (by omega) ?_
    rw [new_sectors]
    have hx1 := newB_ext (drewW w) (B8 (List.replicate m (List.replicate 128 0)).flatten).toArray 184
    have hg1 := newB_get (drewW w) (B8 (List.replicate m (List.replicate 128 0)).flatten).toArray 184
    have hs1 := newB_size (drewW w) (B8 (List.replicate m (List.replicate 128 0)).flatten).toArray 184
    generalize newB (drewW w) (B8 (List.replicate m (List.replicate 128 0)).flatten).toArray 184 = w1 at hx1 hg1 hs1 ⊢
    have hx2 := newB_ext w1 (B8 (List.replicate m (List.replicate 128 0)).flatten).toArray 184
    exact key _ _ _ (hx1.trans hx2) (by omega) (by omega) (by omega) (hx2.get hg1) (newB_get _ _ _)
  · refine X_make Try.underlying180 el_184 m m rfl rfl (Nat.le_refl _) (by omega) (by omega) ?_
    refine X_make Try.underlying180 el_184 m m rfl rfl (Nat.le_refl _) (by omega) (by omega) ?_
    rw [new_sectors]
    have hx1 := newB_ext (drewW w) (B8 (List.replicate m (List.replicate 128 0)).flatten).toArray 184
    have hg1 := newB_get (drewW w) (B8 (List.replicate m (List.replicate 128 0)).flatten).toArray 184
    have hs1 := newB_size (drewW w) (B8 (List.replicate m (List.replicate 128 0)).flatten).toArray 184
    generalize newB (drewW w) (B8 (List.replicate m (List.replicate 128 0)).flatten).toArray 184 = w1 at hx1 hg1 hs1 ⊢
    have hx2 := newB_ext w1 (B8 (List.replicate m (List.replicate 128 0)).flatten).toArray 184
    exact key _ _ _ (hx1.trans hx2) (by omega) (by omega) (by omega) (newB_get _ _ _) (hx2.get hg1)
/-- Copy. -/
theorem emp180 (w : World) : (Instr.buildSlice 180 0 #[]).run Try.prog w = .ok (.slice (some ⟨w.heap.size, 0, none⟩) 0 0) (newB w #[] 184) := by kernel_rfl
theorem emp181 (w : World) : (Instr.buildSlice 181 0 #[]).run Try.prog w = .ok (.slice (some ⟨w.heap.size, 0, none⟩) 0 0) (newB w #[] 186) := by kernel_rfl
theorem CloneS_spec {m n : Nat} {v : Value} {xs : List Value} (ho : w.ownsRow m 184 128 v n xs) (h1 : ∀ u ∈ xs, u.oneCell' = true) (hb : n * 128 ≤ 140737488355328) (h : ∀ v' w1, Ext w w1 → w1.ownsRow w.heap.size 184 128 v' n xs → K v' w1) : CALL Try.prog 134 #[v] w K := by
  apply call_slices_Clone_disk_sector
  unfold B_slices_Clone_disk_sector
  exact clone_run (K := K) Try.underlying180 el_184 (by decide) (by decide) ho h1 hb emp180 h
theorem CloneW_spec {m n : Nat} {v : Value} {xs : List Value} (ho : w.ownsRow m 186 129 v n xs) (h1 : ∀ u ∈ xs, u.oneCell' = true) (hb : n * 136 ≤ 140737488355328) (h : ∀ v' w1, Ext w w1 → w1.ownsRow w.heap.size 186 129 v' n xs → K v' w1) : CALL Try.prog 135 #[v] w K := by
  apply call_slices_Clone_disk_write
  unfold B_slices_Clone_disk_write
  exact clone_run (K := K) Try.underlying181 el_186 (by decide) (by decide) ho h1 hb emp181 h
theorem wsL_one (ws : List (Nat × List UInt8)) : ∀ v ∈ wsL ws, v.oneCell' = true := by
  intro v hv
  unfold wsL at hv
  rw [List.mem_flatten] at hv
  obtain ⟨l, hl, hv⟩ := hv
  obtain ⟨p, _, rfl⟩ := List.mem_map.1 hl
  exact wcs_one p v hv
theorem Copy_spec (h : DiskAt w b d) (hw : d.ws.length ≤ 1000000) (hK : ∀ b' w1, Ext w w1 → (∀ k, foot w1 b' k → w.heap.size ≤ k) → DiskAt w1 b' d → K (ptr b') w1) : CALL Try.prog 81 #[ptr b] w K := by
  obtain ⟨ok, nv, sv, wv, h⟩ := h
  have enl : (Dk.raw d).now.length = d.safe.length := Dk.now_length d
  have hsl : d.safe.length ≤ 16384 := ok.2.2.1
  apply call_disk_Disk_Copy
  unfold B_disk_Disk_Copy
  simp only [X_eql_nil_74, Option.isNone_some, condS_bool, Bool.false_eq_true, if_false, X_nilS]
  refine X_loadAgg (l := [nv, sv, wv, .bool d.dead, .int .i64 d.fuse, .int .i64 d.done]) Try.underlying183 agg_183 info_183 h.blk (by rw [sz_183]; rfl) ?_
  refine X_alloc zero_183 ?_
  have hq := newB_get w #[(.slice none 0 0), (.slice none 0 0), (.slice none 0 0), (.bool false), (.int .i64 0), (.int .i64 0)] 183
  have hxq := newB_ext w #[(.slice none 0 0), (.slice none 0 0), (.slice none 0 0), (.bool false), (.int .i64 0), (.int .i64 0)] 183
  show XU _ _ (newB w #[(.slice none 0 0), (.slice none 0 0), (.slice none 0 0), (.bool false), (.int .i64 0), (.int .i64 0)] 183) _
  generalize newB w #[(.slice none 0 0), (.slice none 0 0), (.slice none 0 0), (.bool false), (.int .i64 0), (.int .i64 0)] 183 = w2 at hq hxq ⊢
  have hone : ∀ v ∈ [nv, sv, wv, .bool d.dead, .int .i64 d.fuse, .int .i64 d.done], v.oneCell' = true := by
    obtain ⟨_, _, e1⟩ := own_sl h.now
    obtain ⟨_, _, e2⟩ := own_sl h.safe
    obtain ⟨_, _, e3⟩ := own_sl h.ws
    intro v hv
    simp only [List.mem_cons, List.not_mem_nil, or_false] at hv
    rcases hv with rfl | rfl | rfl | rfl | rfl | rfl
    · rw [e1]; rfl
    · rw [e2]; rfl
    · rw [e3]; rfl
    · rfl
    · rfl
    · rfl
  refine XU_storeAgg info_183 hq (by rw [sz_183]; rfl) (by rw [sz_183]; rfl) hone ?_
  have hq2 := setAt_same (cs := [nv, sv, wv, .bool d.dead, .int .i64 d.fuse, .int .i64 d.done].toArray) (T := 183) (fr := (0, 0)) (lt_of_blk hq)
  have hx2 : Ext w (setAt w2 w.heap.size [nv, sv, wv, .bool d.dead, .int .i64 d.fuse, .int .i64 d.done].toArray 183 (0, 0)) := Ext.seq hxq (setAt_keep _ _ _ _ _) (fun j hj => by omega)
  generalize setAt w2 w.heap.size [nv, sv, wv, .bool d.dead, .int .i64 d.fuse, .int .i64 d.done].toArray 183 (0, 0) = w3 at hq2 hx2 ⊢
  generalize hqe : w.heap.size = q at hq2 ⊢
  refine ⟨Ext, Ext.frame, ?_⟩
  have hxd : Ext w (drewW w3) := hx2.trans (Keep.drew _ _)
  have h3 := h.ext hxd
  have hq3 : (drewW w3).heap[q]? = some (.cells [nv, sv, wv, .bool d.dead, .int .i64 d.fuse, .int .i64 d.done].toArray 183 (0, 0)) := hq2
  try simp only [XP_nilS, XP_field_183_0, XP_field_183_1, XP_field_183_2]
  refine XR_ok Ext.frame (fun w' k => run_loadAt agg_180 (blk_get (k.get h3.blk) (v := nv) rfl)) ?_
  refine XR_ok Ext.frame (fun w' k => run_loadAt agg_180 (blk_get (k.get h3.blk) (v := sv) rfl)) ?_
  refine XR_ok Ext.frame (fun w' k => run_loadAt agg_181 (blk_get (k.get h3.blk) (v := wv) rfl)) ?_
  have hqs : q + 1 ≤ (drewW w3).heap.size := by have := lt_of_blk hq3; omega
  refine CloneS_spec h3.now B8_one (by rw [enl]; omega) ?_
  intro v1 w4 hx4 ho4
  refine ⟨hx4, ?_⟩
  refine CloneS_spec (h3.ext hx4).safe B8_one (by show d.safe.length * 128 ≤ _; omega) ?_
  intro v2 w5 hx5 ho5
  refine ⟨hx5, ?_⟩
  refine CloneW_spec ((h3.ext hx4).ext hx5).ws (wsL_one _) (by show d.ws.length * 136 ≤ _; omega) ?_
  intro v3 w6 hx6 ho6
  refine ⟨hx6, ?_⟩
  have hq6 := hx6.get (hx5.get (hx4.get hq3))
  obtain ⟨a1, c1, e1⟩ := own_sl ho4
  obtain ⟨a2, c2, e2⟩ := own_sl ho5
  obtain ⟨a3, c3, e3⟩ := own_sl ho6
  refine XU_store info_180 sz_180 (by rw [e1]; rfl) hq6 (by simp) (by show ¬ ((0 : Nat) ≤ 0 ∧ 0 < 0); omega) ?_
  have hq7 := setAt_same (cs := ([nv, sv, wv, .bool d.dead, .int .i64 d.fuse, .int .i64 d.done].toArray.setIfInBounds 0 v1)) (T := 183) (fr := (0, 0)) (lt_of_blk hq6)
  have hk7 := setAt_keep w6 q ([nv, sv, wv, .bool d.dead, .int .i64 d.fuse, .int .i64 d.done].toArray.setIfInBounds 0 v1) 183 (0, 0)
  generalize setAt w6 q ([nv, sv, wv, .bool d.dead, .int .i64 d.fuse, .int .i64 d.done].toArray.setIfInBounds 0 v1) 183 (0, 0) = w7 at hq7 hk7 ⊢
  refine XU_store info_180 sz_180 (by rw [e2]; rfl) hq7 (by simp) (by show ¬ ((0 : Nat) ≤ 0 + 1 ∧ 0 + 1 < 0); omega) ?_
  have hq8 := setAt_same (cs := (([nv, sv, wv, .bool d.dead, .int .i64 d.fuse, .int .i64 d.done].toArray.setIfInBounds 0 v1).setIfInBounds (0 + 1) v2)) (T := 183) (fr := (0, 0)) (lt_of_blk hq7)
  have hk8 := setAt_keep w7 q (([nv, sv, wv, .bool d.dead, .int .i64 d.fuse, .int .i64 d.done].toArray.setIfInBounds 0 v1).setIfInBounds (0 + 1) v2) 183 (0, 0)
  generalize setAt w7 q (([nv, sv, wv, .bool d.dead, .int .i64 d.fuse, .int .i64 d.done].toArray.setIfInBounds 0 v1).setIfInBounds (0 + 1) v2) 183 (0, 0) = w8 at hq8 hk8 ⊢
  refine XU_store info_181 sz_181 (by rw [e3]; rfl) hq8 (by simp) (by show ¬ ((0 : Nat) ≤ 0 + 2 ∧ 0 + 2 < 0); omega) ?_
  have hq9 := setAt_same (cs := ((([nv, sv, wv, .bool d.dead, .int .i64 d.fuse, .int .i64 d.done].toArray.setIfInBounds 0 v1).setIfInBounds (0 + 1) v2).setIfInBounds (0 + 2) v3)) (T := 183) (fr := (0, 0)) (lt_of_blk hq8)
  have hk9 := setAt_keep w8 q ((([nv, sv, wv, .bool d.dead, .int .i64 d.fuse, .int .i64 d.done].toArray.setIfInBounds 0 v1).setIfInBounds (0 + 1) v2).setIfInBounds (0 + 2) v3) 183 (0, 0)
  generalize setAt w8 q ((([nv, sv, wv, .bool d.dead, .int .i64 d.fuse, .int .i64 d.done].toArray.setIfInBounds 0 v1).setIfInBounds (0 + 1) v2).setIfInBounds (0 + 2) v3) 183 (0, 0) = w9 at hq9 hk9 ⊢
  have hk69 : Keep (· = q) w6 w9 := hk7.trans (hk8.trans hk9)
  have hx3s : (drewW w3).heap.size ≤ w4.heap.size := hx4.size
  have hx4s : w4.heap.size ≤ w5.heap.size := hx5.size
  have lt4 := ho4.lt
  have lt5 := ho5.lt
  have lt6 := ho6.lt
  have hraw : RawAt w9 q (Dk.raw d) v1 v2 v3 := by
    refine ⟨hq9, ?_, ?_, ?_, ?_, h.n128, h.s128, h.w128⟩
    · exact own_keepD (own_base0 (own_extD (own_extD ho4 hx5) hx6)) hk69 (fun g hg e => by have := lt4 g hg; omega)
    · exact own_keepD (own_base0 (own_extD ho5 hx6)) hk69 (fun g hg e => by have := lt5 g hg; omega)
    · exact own_keepD (own_base0 ho6) hk69 (fun g hg e => by have := lt6 g hg; omega)
    · intro g hg hg'
      have := lt4 g hg
      have := lt5 g hg'
      omega
  refine hK q w9 (Ext.seq (hxd.trans (hx4.trans (hx5.trans hx6))) hk69 (fun j hj => by omega)) ?_ ⟨ok, _, _, _, hraw⟩
  intro k hk
  rcases hraw.foot.1 hk with h' | h' | h' | h'
  · omega
  · have := lt4 k h'; omega
  · have := lt5 k h'; omega
  · have := lt6 k h'; omega
end
end Go.Proofs.Ytggggfcgnkllgaa
