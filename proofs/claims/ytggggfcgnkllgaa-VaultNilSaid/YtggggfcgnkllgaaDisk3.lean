/- cellarage/disk, function by function: those that write sectors. -/
import Derived.Test.YtggggfcgnkllgaaDisk2
set_option linter.unusedSimpArgs false
set_option linter.unusedVariables false
namespace Go.Proofs.Ytggggfcgnkllgaa
open Go Go.Sh Go.RowKit
attribute [local irreducible] X XU XP XR CALL loopS resC closS

theorem run_build_186 (n : Int) (w : World) : (Instr.build 186 #[(0, .int .i64 n)]).run Try.prog w = .ok (.agg (.int .i64 n :: List.replicate 128 (Value.int .u8 0)).toArray) w := by kernel_rfl
theorem B8_zeros (n : Nat) : B8 (List.replicate n 0) = List.replicate n (Value.int .u8 0) := by simp [B8]
theorem szm_5 : (Try.prog.info? 5).map (·.size) = some 1 := by kernel_rfl
theorem blk_get {w : World} {b o : Nat} {cs : Array Value} {T : TypeId} {fr : Nat × Nat} {v : Value} (hb : w.heap[b]? = some (.cells cs T fr)) (hv : cs[o]? = some v) : w.cell? ⟨b, o, none⟩ = some v := (cell_blk hb).trans hv
theorem padB_cells (a : Int) (bs : List UInt8) (h : bs.length ≤ 128) :
    ((Value.int .i64 a :: List.replicate 128 (Value.int .u8 0)).take 1 ++ B8 (bs.take 128) ++ (Value.int .i64 a :: List.replicate 128 (Value.int .u8 0)).drop (1 + min bs.length 128)) = .int .i64 a :: B8 (padB bs) := by
  have e1 : bs.take 128 = bs := List.take_of_length_le h
  have e2 : 1 + min bs.length 128 = bs.length + 1 := by omega
  rw [e1, e2, List.drop_succ_cons, List.drop_replicate]
  unfold padB
  rw [B8_append, B8_zeros]
  rfl
section
variable {w : World} {b : Nat} {d : Dk} {K : Value → World → Prop}
theorem Write_spec {at_ : Int} {v : Value} {bs : List UInt8} (h : DiskAt w b d) (hw : d.ws.length ≤ 1000000) (hb : Bts w v bs) (hnb : 0 < bs.length → ∀ k, v.ownBlock = some k → ¬ foot w b k)
    (hK : ∀ w1, DiskAt w1 b (d.write at_ bs).1 → Step b w w1 → K (i64v (d.write at_ bs).2) w1) : CALL Try.prog 70 #[ptr b, i64v at_, v] w K := by
  have hd0 := h
  obtain ⟨ok, nv, sv, wv, h⟩ := h
  obtain ⟨av, cv, ev⟩ := Bts.slice hb
  subst ev
  obtain ⟨an, cn, en⟩ := own_sl h.now
  have enl : (Dk.raw d).now.length = d.safe.length := Dk.now_length d
  apply call_disk_Disk_Write
  unfold B_disk_Disk_Write
  simp only [X_eql_nil_74, Option.isNone_some, condS_bool, Bool.false_eq_true, if_false, X_lss, gstep_bool]
  have bad : at_ < 0 ∨ (d.safe.length : Int) ≤ at_ ∨ 128 < bs.length → K (i64v 1) w := by
    intro hbad
    have e : d.write at_ bs = (d, 1) := by unfold Dk.write; rw [if_pos hbad]
    have := hK w (by rw [e]; exact hd0) Step.refl
    rw [e] at this
    exact this
  by_cases hneg : at_ < 0
  · have e1 : decide (at_ < 0) = true := by simpa using hneg
    simp only [e1, Bool.true_eq_false, if_false, X_pick, if_true, gstep_bool, condS_bool]
    exact bad (.inl hneg)
  have e1 : decide (at_ < 0) = false := by simpa using hneg
  simp only [e1, if_true, X_nilS, X_field_183_0]
  refine X_loadL agg_180 h.blk rfl ?_
  rw [en, enl]
  simp only [X_len_180, X_geq, X_pick, gstep_bool, Bool.false_eq_true, if_false]
  by_cases hge : (d.safe.length : Int) ≤ at_
  · have e2 : decide (at_ ≥ (d.safe.length : Int)) = true := by simpa using hge
    simp only [e2, Bool.true_eq_false, if_false, X_pick, if_true, gstep_bool, condS_bool]
    exact bad (.inr (.inl hge))
  have e2 : decide (at_ ≥ (d.safe.length : Int)) = false := by simpa using hge
  simp only [e2, if_true, X_len_27, X_gtr, X_pick, Bool.false_eq_true, if_false, condS_bool]
  by_cases hlen : 128 < bs.length
  · rw [if_pos (by simp; omega)]
    exact bad (.inr (.inr hlen))
  rw [if_neg (by simp; omega)]
  have hgood : ¬ (at_ < 0 ∨ (d.safe.length : Int) ≤ at_ ∨ 128 < bs.length) := by omega
  obtain ⟨i, rfl⟩ : ∃ i : Nat, at_ = (i : Int) := ⟨at_.toNat, by omega⟩
  have hi : i < d.safe.length := by omega
  refine powered_spec' ok h (fun hd w1 h1 s1 => ?_) (fun hd w1 h1 s1 => ?_)
  · have e6 : decide ((6 : Int) ≠ 0) = true := by decide
    simp only [X_neq, e6, condS_bool, if_true]
    have e : d.write (i : Int) bs = (d.trip, 6) := by unfold Dk.write; rw [if_neg hgood, if_pos hd]
    have := hK w1 (by rw [e]; exact ⟨Dk.trip_ok ok, nv, sv, wv, h1⟩) s1
    rw [e] at this
    exact this
  have e6 : decide ((0 : Int) ≠ 0) = false := by decide
  simp only [X_neq, e6, condS_bool, Bool.false_eq_true, if_false]
  have hdf : ¬ d.trip.dead = true := by rw [hd]; decide
  have ew : d.write (i : Int) bs = ({ d.trip.tick with ws := d.ws ++ [(i, padB bs)] }, 0) := by unfold Dk.write; rw [if_neg hgood, if_neg hdf]; simp
  have hpl : (padB bs).length = 128 := padB_len (by omega)
  -- the record
  refine X_of (run_build_186 _ _) ?_
  refine X_alloc zero_186 ?_
  have hq := newB_get w1 ([Value.int .i64 0] ++ List.replicate 128 (Value.int .u8 0)).toArray 186
  have hxq := newB_ext w1 ([Value.int .i64 0] ++ List.replicate 128 (Value.int .u8 0)).toArray 186
  show XU _ _ (newB w1 ([Value.int .i64 0] ++ List.replicate 128 (Value.int .u8 0)).toArray 186) _
  generalize newB w1 ([Value.int .i64 0] ++ List.replicate 128 (Value.int .u8 0)).toArray 186 = w2 at hq hxq ⊢
  have hqn : ∀ k, foot w1 b k → k ≠ w1.heap.size := fun k hk => by have := h1.lt hk; omega
  generalize hqe : w1.heap.size = q at hq hqn ⊢
  refine XU_storeAgg info_186 hq (by rw [sz_186]; simp) (by rw [sz_186]; simp) (by
    intro u hu
    simp only [List.mem_cons, List.mem_replicate] at hu
    rcases hu with rfl | ⟨_, rfl⟩ <;> rfl) ?_
  have hq2 := setAt_same (cs := (Value.int .i64 (i : Int) :: List.replicate 128 (Value.int .u8 0)).toArray) (T := 186) (fr := (0, 0)) (lt_of_blk hq)
  have hx2 : Ext w1 (setAt w2 q (Value.int .i64 (i : Int) :: List.replicate 128 (Value.int .u8 0)).toArray 186 (0, 0)) := Ext.seq hxq (setAt_keep _ _ _ _ _) (fun j hj => by omega)
  generalize setAt w2 q (Value.int .i64 (i : Int) :: List.replicate 128 (Value.int .u8 0)).toArray 186 (0, 0) = w3 at hq2 hx2 ⊢
  simp only [X_field_186_1, Nat.zero_add]
  refine X_of (run_slice_arr_all Try.underlying184 info_5 _ _) ?_
  have hb3 : Bts w3 (.slice av bs.length cv) bs := (hb.keep' s1.keep hnb).ext hx2
  refine X_copy_bts Try.underlying27 szm_5 hq2 hb3 (by simp; omega) ?_
  intro w4 hq4 hz4 hk4
  have hcs : ((Value.int .i64 (i : Int) :: List.replicate 128 (Value.int .u8 0)).toArray.toList.take 1 ++ B8 (bs.take 128) ++ (Value.int .i64 (i : Int) :: List.replicate 128 (Value.int .u8 0)).toArray.toList.drop (1 + min bs.length 128)) = wcs (i, padB bs) := padB_cells _ _ (by omega)
  rw [hcs] at hq4
  have hx4 : Ext w1 w4 := Ext.seq hx2 hk4 (fun j hj => by omega)
  have h4 := h1.ext hx4
  have hwl : (wcs (i, padB bs)).length = 129 := by simp [wcs, hpl]
  refine ⟨Keep (fun k => some k = wv.ownBlock), Keep.frame _, ?_⟩
  try simp only [XP_nilS, XP_field_183_2]
  have h4d : RawAt (drewW w4) b (Dk.raw d.trip.tick) nv sv wv := h4.ext (Keep.drew _ _)
  have hq4d : (drewW w4).heap[q]? = some (.cells (wcs (i, padB bs)).toArray 186 (0, 0)) := hq4
  obtain ⟨n1, n2, n3⟩ := h4d.b_ne
  have hqw : ¬ some q = wv.ownBlock := fun e => hqn q (h1.foot.2 (.inr (.inr (.inr e.symm)))) rfl
  refine XR_ok (Keep.frame _) (fun w' k => run_loadAt agg_181 (blk_get (k.get (fun e => n3 e.symm) h4d.blk) (v := wv) rfl)) ?_
  have hld : ((wcs (i, padB bs)).toArray.toList.drop 0).take (szT Try.prog 186) = wcs (i, padB bs) := by
    rw [sz_186]
    exact List.take_of_length_le (by simp [hwl])
  refine XR_ok (Keep.frame _) (fun w' k => run_loadAgg Try.underlying186 agg_186 info_186 (k.get hqw hq4d) hld (by rw [sz_186, hwl])) ?_
  refine X_buildSliceAgg Try.underlying181 el_186 (by decide) (by decide) hwl ?_
  have hx5 := newB_ext (drewW w4) (wcs (i, padB bs)).toArray 186
  have hg5 := newB_get (drewW w4) (wcs (i, padB bs)).toArray 186
  refine ⟨hx5.ext, ?_⟩
  generalize hne : newB (drewW w4) (wcs (i, padB bs)).toArray 186 = w5 at hx5 hg5 ⊢
  have h5 := h4d.ext hx5
  have et : (Dk.raw d.trip.tick).ws = d.ws := Dk.trip_ws d
  refine X_appendW (base := 0) Try.underlying181 el_186 (by decide) h5.ws (news := wcs (i, padB bs)) (by rw [hwl]) ?_ (wcs_one _) (by rw [et]; omega) (by decide) (Nat.zero_le _) ?_
  · intro j u hj
    rw [add_plain, Nat.zero_add, cell_blk hg5]
    simpa using hj
  intro v' w6 ho6 hk6 hn6
  refine ⟨hk6, ?_⟩
  try simp only [XP_nilS, XP_field_183_2]
  obtain ⟨hb6, h7, s7⟩ := h5.append (i, padB bs) hpl hk6 ⟨0, ho6⟩ hn6
  refine XU_store info_181 sz_181 (by obtain ⟨_, _, e⟩ := own_sl ho6; rw [e]; rfl) hb6 (Nat.le_of_ble_eq_true rfl) (by show ¬ ((0 : Nat) ≤ 0 + 2 ∧ 0 + 2 < 0); omega) ?_
  have hq7 : (setAt w6 b #[nv, sv, v', .bool (Dk.raw d.trip.tick).dead, .int .i64 (Dk.raw d.trip.tick).fuse, .int .i64 (Dk.raw d.trip.tick).done] 183 (0, 0)).heap[q]? = some (.cells (wcs (i, padB bs)).toArray 186 (0, 0)) :=
    (setAt_other (fun e => hqn q (h1.foot.2 (.inl e)) rfl)).trans (hk6.get hqw (hx5.get hq4d))
  show ∃ R, Frame? R ∧ XP _ _ (drewW (setAt w6 b #[nv, sv, v', .bool (Dk.raw d.trip.tick).dead, .int .i64 (Dk.raw d.trip.tick).fuse, .int .i64 (Dk.raw d.trip.tick).done] 183 (0, 0))) _
  generalize setAt w6 b #[nv, sv, v', .bool (Dk.raw d.trip.tick).dead, .int .i64 (Dk.raw d.trip.tick).fuse, .int .i64 (Dk.raw d.trip.tick).done] 183 (0, 0) = w7 at h7 s7 hq7 ⊢
  refine ⟨Ext, Ext.frame, ?_⟩
  try simp only [XP_nilS, XP_field_183_0, XP_field_186_1, Nat.zero_add]
  have h7d : RawAt (drewW w7) b { Dk.raw d.trip.tick with ws := (Dk.raw d.trip.tick).ws ++ [(i, padB bs)] } nv sv v' := h7.ext (Keep.drew _ _)
  have hq7d : (drewW w7).heap[q]? = some (.cells (wcs (i, padB bs)).toArray 186 (0, 0)) := hq7
  refine XR_ok Ext.frame (fun w' k => run_loadAt agg_180 (blk_get (k.get h7d.blk) (v := nv) rfl)) ?_
  have hld2 : ((wcs (i, padB bs)).toArray.toList.drop 1).take (szT Try.prog 184) = B8 (padB bs) := by
    rw [sz_184]
    show (B8 (padB bs)).take 128 = _
    exact List.take_of_length_le (by simp [hpl])
  refine XR_ok Ext.frame (fun w' k => run_loadAgg Try.underlying184 agg_184 info_184 (k.get hq7d) hld2 (by rw [sz_184, B8_length, hpl])) ?_
  have enow : (Dk.raw d.trip.tick).now = d.now := by
    show putAll d.trip.safe d.trip.ws = _
    rw [Dk.trip_safe, Dk.trip_ws]; rfl
  have hin : i < ({ Dk.raw d.trip.tick with ws := (Dk.raw d.trip.tick).ws ++ [(i, padB bs)] } : Raw).now.length := by
    show i < (Dk.raw d.trip.tick).now.length
    rw [enow, Dk.now_length]; exact hi
  obtain ⟨g, cap, cur, hnv, hg, hfit, hold, hput⟩ := h7d.now_at hin
  obtain ⟨h8, s8⟩ := hput (padB bs) (by omega)
  rw [hnv]
  refine XP_of (fun w => ix Try.underlying180 info_184 i rfl hin w) ?_
  rw [sz_184, add_plain, Nat.zero_add]
  refine XU_storeAggAt info_184 hg (by rw [B8_length, hpl]; exact hfit) (by rw [sz_184, B8_length, hpl]) B8_one ?_
  have hs : Step b w (setAt (drewW w7) g (cur.toList.take (i * 128) ++ B8 (padB bs) ++ cur.toList.drop (i * 128 + (B8 (padB bs)).length)).toArray 184 (0, 0)) := by
    have hbw : ∀ {x : World}, RawAt x b (Dk.raw d.trip.tick) nv sv wv → b < x.heap.size := fun h => lt_of_blk h.blk
    refine s1.trans ((Step.ext hx4 (hbw h1)).trans ((Step.ext (Keep.drew _ _) (hbw h4)).trans ((Step.ext hx5 (hbw h4d)).trans (s7.trans ((Step.ext (Keep.drew _ _) (lt_of_blk h7.blk)).trans s8)))))
  have := hK _ (by
    refine ⟨Dk.write_ok ok _ _, nv, sv, v', ?_⟩
    have er : Dk.raw (d.write (i : Int) bs).1 = { ({ Dk.raw d.trip.tick with ws := (Dk.raw d.trip.tick).ws ++ [(i, padB bs)] } : Raw) with now := ({ Dk.raw d.trip.tick with ws := (Dk.raw d.trip.tick).ws ++ [(i, padB bs)] } : Raw).now.set i (padB bs ++ (({ Dk.raw d.trip.tick with ws := (Dk.raw d.trip.tick).ws ++ [(i, padB bs)] } : Raw).now[i]'hin).drop (padB bs).length) } := by
      rw [ew]
      have ed : (({ Dk.raw d.trip.tick with ws := (Dk.raw d.trip.tick).ws ++ [(i, padB bs)] } : Raw).now[i]'hin).drop (padB bs).length = [] := by
        apply List.drop_eq_nil_of_le
        have := h7d.n128 _ (List.getElem_mem hin)
        omega
      rw [ed, List.append_nil]
      have e1 : (Dk.now { d.trip.tick with ws := d.ws ++ [(i, padB bs)] }) = (Dk.raw d.trip.tick).now.set i (padB bs) := by
        rw [enow]
        show putAll d.trip.safe (d.ws ++ [(i, padB bs)]) = _
        rw [Dk.trip_safe, putAll_append]
        rfl
      show Raw.mk (Dk.now { d.trip.tick with ws := d.ws ++ [(i, padB bs)] }) _ _ _ _ _ = Raw.mk _ _ _ _ _ _
      rw [e1, et]
      rfl
    rw [er]
    exact h8) hs
  rw [ew] at this
  exact this
end
end Go.Proofs.Ytggggfcgnkllgaa
