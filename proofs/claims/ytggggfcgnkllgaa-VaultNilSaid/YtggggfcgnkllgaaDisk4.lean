/- cellarage/disk: flush, crash, read, new, copy. -/
import Derived.Test.YtggggfcgnkllgaaDisk3
set_option linter.unusedSimpArgs false
set_option linter.unusedVariables false
namespace Go.Proofs.Ytggggfcgnkllgaa
open Go Go.Sh Go.RowKit
attribute [local irreducible] X XU XP XR CALL loopS resC closS

theorem wcs_load {w : World} {g i : Nat} {cur : Array Value} {p : Nat × List UInt8} (hh : w.heap[g]? = some (.cells cur 186 (0, 0))) (hc : (cur.toList.drop (i * 129)).take 129 = wcs p) (hp : p.2.length = 128) :
    (Instr.loadAt 186 (.pointer (some ⟨g, i * 129, none⟩))).run Try.prog w = .ok (.agg (wcs p).toArray) w :=
  run_loadAgg Try.underlying186 agg_186 info_186 hh (by rw [sz_186]; exact hc) (by rw [sz_186]; simp [wcs, hp])
theorem set_get (l : List (List UInt8)) (i : Nat) (x : List UInt8) (h : ∀ s ∈ l, s.length = 128) (hi : i < l.length) (hx : x.length = 128) : l.set i (x ++ l[i].drop x.length) = l.set i x := by
  rw [List.drop_eq_nil_of_le (by rw [h _ (List.getElem_mem hi), hx]; exact Nat.le_refl _), List.append_nil]
section
variable {w : World} {b : Nat} {d : Dk} {K : Value → World → Prop}
theorem Flush_spec (h : DiskAt w b d) (hK : ∀ w1, DiskAt w1 b d.flush.1 → Step b w w1 → K (i64v d.flush.2) w1) : CALL Try.prog 71 #[ptr b] w K := by
  have hd0 := h
  obtain ⟨ok, nv, sv, wv, h⟩ := h
  apply call_disk_Disk_Flush
  unfold B_disk_Disk_Flush
  simp only [X_eql_nil_74, Option.isNone_some, condS_bool, Bool.false_eq_true, if_false]
  refine powered_spec' ok h (fun hd w1 h1 s1 => ?_) (fun hd w1 h1 s1 => ?_)
  · have e6 : decide ((6 : Int) ≠ 0) = true := by decide
    simp only [X_neq, e6, condS_bool, if_true]
    have e : d.flush = (d.trip, 6) := by unfold Dk.flush; rw [if_pos hd]
    have := hK w1 (by rw [e]; exact ⟨Dk.trip_ok ok, nv, sv, wv, h1⟩) s1
    rw [e] at this
    exact this
  have e6 : decide ((0 : Int) ≠ 0) = false := by decide
  have hdf : ¬ d.trip.dead = true := by rw [hd]; decide
  have ef : d.flush = ({ d.trip.tick with safe := d.now, ws := [] }, 0) := by unfold Dk.flush; rw [if_neg hdf]
  have esf : (Dk.raw d.trip.tick).safe = d.safe := Dk.trip_safe d
  have ews : (Dk.raw d.trip.tick).ws = d.ws := Dk.trip_ws d
  have enow : (Dk.raw d.trip.tick).now = d.now := by
    show putAll d.trip.safe d.trip.ws = _
    rw [Dk.trip_safe, Dk.trip_ws]; rfl
  simp only [X_neq, e6, condS_bool, Bool.false_eq_true, if_false, X_nilS, X_field_183_2]
  refine X_loadL agg_181 h1.blk rfl ?_
  obtain ⟨aw, cw, ewv⟩ := own_sl h1.ws
  rw [ews] at ewv
  rw [ewv, X_len_181, ← ewv]
  have hw128 : ∀ p ∈ d.ws, p.2.length = 128 := fun p hp => (ok.2.1 p hp).2
  have hbd : d.ws.length ≤ 9223372036854775807 := own_max h.ws
  refine loopE (fun ρ wr => ∃ i : Nat, i ≤ d.ws.length ∧ RawAt wr b { Dk.raw d.trip.tick with safe := putAll d.safe (d.ws.take i) } nv sv wv ∧ Step b w wr ∧
      ρ 18 = .int .i64 (i : Nat) ∧ ρ 17 = .int .i64 (d.ws.length : Nat) ∧ ρ 16 = wv ∧ ρ 0 = ptr b)
    (fun ρ wr => match ρ 18 with | .int _ s => (d.ws.length - s).toNat | _ => 0)
    (fun ρ wr => RawAt wr b { Dk.raw d.trip.tick with safe := d.now } nv sv wv ∧ Step b w wr ∧ ρ 0 = ptr b) ?_ ?_ ?_
  · refine ⟨0, Nat.zero_le _, ?_, s1, rfl, rfl, rfl, rfl⟩
    have : ({ Dk.raw d.trip.tick with safe := putAll d.safe (d.ws.take 0) } : Raw) = Dk.raw d.trip.tick := by
      rw [List.take_zero]
      show ({ Dk.raw d.trip.tick with safe := d.safe } : Raw) = _
      rw [← esf]
    rw [this]; exact h1
  · rintro J hJ ρ wr ⟨i, hi, hr, hs, h18, h17, h16, h0⟩
    rw [h18, h17, X_lss, condS_bool]
    by_cases hin : i = d.ws.length
    · rw [if_neg (by simp; omega)]
      refine hJ _ _ ⟨?_, hs, h0⟩
      rw [hin, List.take_length] at hr
      exact hr
    rw [if_pos (by simp; omega)]
    have hlt : i < d.ws.length := by omega
    have hltr : i < ({ Dk.raw d.trip.tick with safe := putAll d.safe (d.ws.take i) } : Raw).ws.length := by show i < (Dk.raw d.trip.tick).ws.length; rw [ews]; exact hlt
    obtain ⟨g, cap, cur, hwv, hg, hc⟩ := hr.ws_at hltr
    have ewi : ({ Dk.raw d.trip.tick with safe := putAll d.safe (d.ws.take i) } : Raw).ws[i]'hltr = d.ws[i] := by
      show (Dk.raw d.trip.tick).ws[i]'_ = _
      congr 1
    rw [ewi] at hc
    have hp128 := hw128 _ (List.getElem_mem hlt)
    have hpi := (ok.2.1 _ (List.getElem_mem hlt)).1
    rw [h16]
    have hixw : ∀ w, (Instr.indexAt 181 wv (.int .i64 (i : Int))).run Try.prog w = .ok (.pointer (some ⟨g, i * 129, none⟩)) w := fun w => by
      rw [hwv, ix Try.underlying181 info_186 i rfl hltr w, sz_186, add_plain, Nat.zero_add]
    refine X_of (hixw _) ?_
    refine X_of (wcs_load hg hc hp128) ?_
    refine X_alloc zero_186 ?_
    have hq := newB_get wr ([Value.int .i64 0] ++ List.replicate 128 (Value.int .u8 0)).toArray 186
    have hxq := newB_ext wr ([Value.int .i64 0] ++ List.replicate 128 (Value.int .u8 0)).toArray 186
    show XU _ _ (newB wr ([Value.int .i64 0] ++ List.replicate 128 (Value.int .u8 0)).toArray 186) _
    generalize newB wr ([Value.int .i64 0] ++ List.replicate 128 (Value.int .u8 0)).toArray 186 = w2 at hq hxq ⊢
    have hwl : (wcs d.ws[i]).length = 129 := by simp [wcs, hp128]
    refine XU_storeAgg info_186 hq (by rw [sz_186]; simp) (by rw [sz_186, hwl]) (wcs_one _) ?_
    have hq2 := setAt_same (cs := (wcs d.ws[i]).toArray) (T := 186) (fr := (0, 0)) (lt_of_blk hq)
    have hx2 : Ext wr (setAt w2 wr.heap.size (wcs d.ws[i]).toArray 186 (0, 0)) := Ext.seq hxq (setAt_keep _ _ _ _ _) (fun j hj => by omega)
    generalize setAt w2 wr.heap.size (wcs d.ws[i]).toArray 186 (0, 0) = w3 at hq2 hx2 ⊢
    refine ⟨Ext, Ext.frame, ?_⟩
    have hxd : Ext wr (drewW w3) := hx2.trans (Keep.drew _ _)
    have hrd := hr.ext hxd
    have hqd : (drewW w3).heap[wr.heap.size]? = some (.cells (wcs d.ws[i]).toArray 186 (0, 0)) := hq2
    rw [h0]
    try simp only [XP_nilS, XP_field_183_1, XP_field_186_0, XP_field_186_1, Nat.zero_add]
    refine XR_ok Ext.frame (fun w' k => run_loadAt agg_180 (blk_get (k.get hrd.blk) (v := sv) rfl)) ?_
    refine XR_ok Ext.frame (fun w' k => run_loadAt agg_3 (blk_get (k.get hqd) (v := .int .i64 (d.ws[i].1 : Int)) rfl)) ?_
    have hld2 : ((wcs d.ws[i]).toArray.toList.drop 1).take (szT Try.prog 184) = B8 d.ws[i].2 := by
      rw [sz_184]
      show (B8 d.ws[i].2).take 128 = _
      exact List.take_of_length_le (by simp [hp128])
    refine XR_ok Ext.frame (fun w' k => run_loadAgg Try.underlying184 agg_184 info_184 (k.get hqd) hld2 (by rw [sz_184, B8_length, hp128])) ?_
    have hlen : ({ Dk.raw d.trip.tick with safe := putAll d.safe (d.ws.take i) } : Raw).safe.length = d.safe.length := putAll_length _ _
    have hsi : d.ws[i].1 < ({ Dk.raw d.trip.tick with safe := putAll d.safe (d.ws.take i) } : Raw).safe.length := by rw [hlen]; exact hpi
    obtain ⟨g2, cap2, cur2, hsv, hg2, hfit, hold, hput⟩ := hrd.safe_at hsi
    obtain ⟨h8, s8⟩ := hput d.ws[i].2 (by omega)
    have hixs : ∀ w, (Instr.indexAt 180 sv (.int .i64 (d.ws[i].1 : Int))).run Try.prog w = .ok (.pointer (some ⟨g2, d.ws[i].1 * 128, none⟩)) w := fun w => by
      rw [hsv, ix Try.underlying180 info_184 d.ws[i].1 rfl hsi w, sz_184, add_plain, Nat.zero_add]
    refine XP_of hixs ?_
    refine XU_storeAggAt info_184 hg2 (by rw [B8_length, hp128]; exact hfit) (by rw [sz_184, B8_length, hp128]) B8_one ?_
    rw [X_add]
    show _ ∧ _
    refine ⟨⟨i + 1, by omega, ?_, hs.trans ((Step.ext hxd (lt_of_blk hr.blk)).trans s8), next64 (n := d.ws.length - 1) (by omega) (by omega), h17, h16, h0⟩, ?_⟩
    · have e : putAll d.safe (d.ws.take (i + 1)) = (putAll d.safe (d.ws.take i)).set d.ws[i].1 d.ws[i].2 := by
        rw [List.take_succ_eq_append_getElem hlt, putAll_append]
        rfl
      rw [e]
      rw [set_get _ _ _ hrd.s128 hsi hp128] at h8
      exact h8
    · show (_ - IntKind.i64.wrap _).toNat < _
      rw [w64 (by omega) (by omega)]
      omega
  · rintro ρ wr ⟨hr, hs, h0⟩
    rw [h0]
    simp only [X_nilS, X_field_183_2]
    refine XU_store info_181 sz_181 rfl hr.blk (Nat.le_of_ble_eq_true rfl) (by show ¬ ((0 : Nat) ≤ 0 + 2 ∧ 0 + 2 < 0); omega) ?_
    obtain ⟨h2, s2⟩ := hr.clear
    have := hK _ (by
      refine ⟨Dk.flush_ok ok, nv, sv, .slice none 0 0, ?_⟩
      have er : Dk.raw d.flush.1 = { ({ Dk.raw d.trip.tick with safe := d.now } : Raw) with ws := [] } := by
        rw [ef]
        show Raw.mk (putAll d.now []) d.now [] _ _ _ = Raw.mk (Dk.raw d.trip.tick).now d.now [] _ _ _
        rw [enow]
        rfl
      rw [er]
      exact h2) (hs.trans s2)
    rw [ef] at this
    exact this
/-- copy(d.now, d.safe). -/
theorem X_copy_zero {P : Program} {t u U e size : Nat} {w : World} {K : Value → World → Prop} (ht : P.underlying t = some (.slice e)) (hi : infoB P e = true) {a a' : Option Addr} {c c' : Nat} (h : K (.int .i64 (0 : Nat)) w) : X P (Builtin.copy_ #[t, u] U #[.slice a 0 c, .slice a' 0 c']) w K := by
  refine X_of (w1 := w) (v := .int .i64 (0 : Nat)) ?_ h
  have hm : Nat.min 0 0 = 0 := rfl
  cases a <;> cases a' <;> simp [Builtin.copy_, run_underlying ht, Builtin.lenOf, Builtin.firstCells, sizeOf_run hi, hm, goInt, loadCells, loadCellsFrom, storeCells]
theorem copy_now {U : Nat} {r : Raw} {nv sv wv : Value} (h : RawAt w b r nv sv wv) (he : r.now.length = r.safe.length) (hK : ∀ v w1, RawAt w1 b { r with now := r.safe } nv sv wv → Step b w w1 → K v w1) : X Try.prog (Builtin.copy_ #[180, 180] U #[nv, sv]) w K := by
  rcases Nat.eq_zero_or_pos r.now.length with h0 | h0
  · obtain ⟨a1, c1, e1⟩ := own_sl h.now
    obtain ⟨a2, c2, e2⟩ := own_sl h.safe
    have n0 : r.now = [] := List.eq_nil_of_length_eq_zero h0
    have s0 : r.safe = [] := List.eq_nil_of_length_eq_zero (by omega)
    rw [e1, e2, ← he, h0]
    refine X_copy_zero (size := 128) Try.underlying180 info_184 ?_
    refine hK _ _ ?_ Step.refl
    have : ({ r with now := r.safe } : Raw) = r := by
      cases r
      simp only at n0 s0
      subst n0
      subst s0
      rfl
    rw [this]; exact h
  · rcases id h.now.2 with ⟨_, h1⟩ | ⟨g, cap, cur, hnv, _, hh, hn, hm, hs, htk⟩
    · omega
    rcases id h.safe.2 with ⟨_, h1⟩ | ⟨g2, cap2, cur2, hsv, _, hh2, hn2, hm2, hs2, htk2⟩
    · omega
    have hfl : (B8 r.safe.flatten).length = r.now.length * 128 := by rw [B8_length, flat_len h.s128, he]
    have hc := h.safe.cells (g := g2) (by rw [hsv]; rfl)
    have hnb : nv.ownBlock = some g := by rw [hnv]; rfl
    rw [hnv, hsv]
    refine X_copy_cells (size := 128) Try.underlying180 info_184 sz_184 hh (l := B8 r.safe.flatten) (by rw [hfl, ← he, Nat.min_self]) hc B8_one (by omega) ?_
    have k := setAt_keep w g (cur.toList.take 0 ++ B8 r.safe.flatten ++ cur.toList.drop (0 + (B8 r.safe.flatten).length)).toArray 184 (0, 0)
    have hsame := setAt_same (cs := (cur.toList.take 0 ++ B8 r.safe.flatten ++ cur.toList.drop (0 + (B8 r.safe.flatten).length)).toArray) (T := 184) (fr := (0, 0)) (lt_of_blk hh)
    have hsize : (cur.toList.take 0 ++ B8 r.safe.flatten ++ cur.toList.drop (0 + (B8 r.safe.flatten).length)).toArray.size = cap * 128 := by
      rw [List.size_toArray, splice_len _ _ _ (by simp only [Array.length_toList]; omega)]
      simpa using hs
    have htake : (cur.toList.take 0 ++ B8 r.safe.flatten ++ cur.toList.drop (0 + (B8 r.safe.flatten).length)).toArray.toList.take (r.safe.length * 128) = B8 r.safe.flatten := by
      show List.take _ (cur.toList.take 0 ++ B8 r.safe.flatten ++ _) = _
      rw [List.take_zero, List.nil_append, List.take_append_of_le_length (by rw [hfl, he]; exact Nat.le_refl _), List.take_of_length_le (by rw [hfl, he]; exact Nat.le_refl _)]
    generalize (cur.toList.take 0 ++ B8 r.safe.flatten ++ cur.toList.drop (0 + (B8 r.safe.flatten).length)).toArray = cs' at k hsame hsize htake ⊢
    obtain ⟨n1, n2, n3⟩ := h.b_ne
    have hgb : ¬ b = g := fun e => n1 (by rw [hnb, e])
    have hr : RawAt (setAt w g cs' 184 (0, 0)) b { r with now := r.safe } nv sv wv := by
      refine ⟨k.get hgb h.blk, ⟨by rw [hfl, he], .inr ⟨g, cap, cs', by rw [← he]; exact hnv, Nat.zero_le _, hsame, by rw [← he]; exact hn, hm, hsize, htake⟩⟩, own_keepD h.safe k (fun g' hg' e => h.ne g hnb (by rw [hg', e])), own_keepD h.ws k (fun g' hg' e => own_neO h.now h.ws (by decide) hnb (by rw [hg', e])), h.ne, h.s128, h.s128, h.w128⟩
    refine hK _ _ hr ⟨k.mono (fun j _ hj => by rw [hj]; exact h.foot.2 (.inr (.inl hnb))), fun k' hk' => .inl ?_⟩
    exact h.foot.2 (hr.foot.1 hk')
end
end Go.Proofs.Ytggggfcgnkllgaa
