/- Part 17 of what the law is proved with. -/
import Derived.Lib.SlBytesConst
import Derived.StringKeys
import Derived.Test.YtcigpjejbkngfaaGreatDoorQTR16
set_option linter.unusedVariables false
set_option linter.unusedSimpArgs false
section
set_option maxRecDepth 8000
namespace Go.Proofs.YtcigpjejbkngfaaGreatDoor
open Go Go.Sh Go.RowKit
attribute [local irreducible] X XU XP XR CALL loopS resC closS
def txt : List UInt8 := [115, 111, 109, 101, 32, 98, 121, 116, 101, 115, 32, 116, 104, 97, 116, 32, 97, 114, 101, 32, 109, 111, 114, 101, 32, 116, 104, 97, 110, 32, 111, 110, 101, 32, 99, 104, 117, 110, 107, 44, 32, 111, 114, 32, 115, 111]
theorem run_txt (w : World) : (Instr.buildSlice 28 46 #[(0, .int .u8 115), (1, .int .u8 111), (2, .int .u8 109), (3, .int .u8 101), (4, .int .u8 32), (5, .int .u8 98), (6, .int .u8 121), (7, .int .u8 116), (8, .int .u8 101), (9, .int .u8 115), (10, .int .u8 32), (11, .int .u8 116), (12, .int .u8 104), (13, .int .u8 97), (14, .int .u8 116), (15, .int .u8 32), (16, .int .u8 97), (17, .int .u8 114), (18, .int .u8 101), (19, .int .u8 32), (20, .int .u8 109), (21, .int .u8 111), (22, .int .u8 114), (23, .int .u8 101), (24, .int .u8 32), (25, .int .u8 116), (26, .int .u8 104), (27, .int .u8 97), (28, .int .u8 110), (29, .int .u8 32), (30, .int .u8 111), (31, .int .u8 110), (32, .int .u8 101), (33, .int .u8 32), (34, .int .u8 99), (35, .int .u8 104), (36, .int .u8 117), (37, .int .u8 110), (38, .int .u8 107), (39, .int .u8 44), (40, .int .u8 32), (41, .int .u8 111), (42, .int .u8 114), (43, .int .u8 32), (44, .int .u8 115), (45, .int .u8 111)]).run Tryz.prog w = .ok (.slice (some ⟨w.heap.size, 0, none⟩) 46 46) (newB w (B8 txt).toArray 5) := by kernel_rfl
theorem str_add (a b : List UInt8) : str a ++ str b = str (a ++ b) := by
  apply ByteArray.ext
  simp [str]
section
variable {w : World} {K : Value → World → Prop} {τ : Nat → Nat} {sb n : Nat}
set_option maxHeartbeats 2000000 in
theorem fetched_spec {m : Sm} {v : Value} (h : StM w τ sb n m) (ok : m.Ok) (hl : RowK 35 Ex.cs w v (m.ps.map exP)) (hvb : ∀ g, v.ownBlock = some g → τ g = 0) (hn : m.ps.length ≤ n) (hps : m.ps.length ≤ 900) (hbl : ∀ p ∈ m.ps, p.bs.length ≤ 460) (htot : (m.ps.map Pp.bs).flatten.length ≤ 1000000)
    (hK : ∀ W τ', Stp w τ W τ' → K (.tuple #[.string (str (m.ps.map Pp.bs).flatten), .bool true]) W) : CALL Tryz.prog 12 #[ptr sb, v] w K := by
  have e0 : decide ((0 : Int) ≠ 0) = false := rfl
  obtain ⟨av, cv, ev⟩ := hl.slice
  have hSl := S_le ok
  rw [List.length_map] at ev
  apply call_top_fetched
  unfold B_top_fetched
  rw [ev, X_len_46, ← ev]
  refine loopGR 0 (fun ρ W => ∃ (i : Nat) (τ' : Nat → Nat), i ≤ m.ps.length ∧ Stp w τ W τ' ∧ StM W τ' sb n m ∧ ρ 6 = .string (str (((m.ps.map Pp.bs).take i).flatten)) ∧ ρ 13 = .int .i64 (i : Int) ∧ ρ 12 = .int .i64 (m.ps.length : Int) ∧ ρ 11 = v ∧ ρ 0 = ptr sb)
    (fun ρ W => match ρ 13 with | .int _ s => (m.ps.length - s).toNat | _ => 0)
    (fun ρ W => ∃ (τ' : Nat → Nat), Stp w τ W τ' ∧ ρ 6 = .string (str (m.ps.map Pp.bs).flatten)) (fun ρ W => False) ?_ ?_ ?_ ?_
  · exact ⟨0, τ, Nat.zero_le _, Stp.refl _ _, h, rfl, rfl, rfl, rfl, rfl⟩
  · rintro J hJ hJR ρ W ⟨i, τ', hi, st, hM, r6, r13, r12, r11, r0⟩
    rw [r6, r13, r12, r11, r0, X_lss, condS_bool]
    by_cases hie : i = m.ps.length
    · rw [if_neg (by simp; omega)]
      subst hie
      rw [List.take_of_length_le (by simp)] at r6
      exact hJ _ _ ⟨τ', st, r6⟩
    rw [if_pos (by simp; omega)]
    have hilt : i < m.ps.length := by omega
    have hlW := hl.keep st.keep (fun _ g hg hh => hh.1 (hvb g hg))
    obtain ⟨g, o, hix, hcs⟩ := ext_at hlW (i := i) (by simpa using hilt)
    rw [List.getElem_map] at hcs
    obtain ⟨p, hp⟩ : ∃ p, p = m.ps[i] := ⟨_, rfl⟩
    have hpm : p ∈ m.ps := by rw [hp]; exact List.getElem_mem _
    rw [← hp] at hcs
    have hpl := hbl p hpm
    refine X_of (hix _) ?_
    refine X_of (load_cells Tryz.underlying84 agg_84 info_84 (l := (exP p).cs) (by rw [sz_84, Ex.cs_len]) (fun j u hj => by rw [add_plain]; exact hcs j u hj)) ?_
    refine X_alloc zero_84 ?_
    have hxa := newB_ext W (Value.agg (List.replicate 32 (Value.int .u8 0) ++ [Value.int .u32 0] ++ [Value.int .i64 0, Value.int .i64 0]).toArray).cells 84
    have hga : (newB W (Value.agg (List.replicate 32 (Value.int .u8 0) ++ [Value.int .u32 0] ++ [Value.int .i64 0, Value.int .i64 0]).toArray).cells 84).heap[W.heap.size]? = some (.cells (List.replicate 32 (Value.int .u8 0) ++ [Value.int .u32 0] ++ [Value.int .i64 0, Value.int .i64 0]).toArray 84 (0, 0)) := newB_get _ _ _
    generalize newB W (Value.agg (List.replicate 32 (Value.int .u8 0) ++ [Value.int .u32 0] ++ [Value.int .i64 0, Value.int .i64 0]).toArray).cells 84 = W1 at hxa hga ⊢
    have hqlt := lt_of_blk hga
    generalize hqe : W.heap.size = q at hga hqlt
    refine XU_storeAgg info_84 hga (by rw [sz_84]; simp) (by rw [sz_84, Ex.cs_len]) (Ex.one _) ?_
    have k2 := setAt_keep W1 q (exP p).cs.toArray 84 (0, 0)
    have hg2 := setAt_same (cs := (exP p).cs.toArray) (T := 84) (fr := (0, 0)) hqlt
    generalize setAt W1 q (exP p).cs.toArray 84 (0, 0) = W2 at k2 hg2 ⊢
    have hx02 : Ext W W2 := Ext.seq hxa k2 (fun g hg => by omega)
    have hkey : (Instr.loadAt 33 (ptr q)).run Tryz.prog W2 = .ok p.k.v W2 :=
      load_cells Tryz.underlying33 agg_33 info_33 (l := p.k.cs) (by rw [sz_33, Ky.cs_len]) (fun j u hj => by
        rw [add_plain, Nat.zero_add, cell_blk hg2, List.getElem?_toArray]
        show (p.k.cs ++ _)[j]? = _
        rw [List.getElem?_append_left (List.getElem?_eq_some_iff.1 hj).1]
        exact hj)
    (repeat (simp only [SLB, Int.reduceEq, Int.reduceNe, Int.reduceLT, Int.reduceLE, Int.reduceGT, Int.reduceGE, X_field_84_0]))
    refine X_of hkey ?_
    have hM2 := hM.ext hx02
    obtain ⟨vb, fb, s1, w1, s2, w2, hv0, hc0, c0, at0, hin, hat⟩ := hM2
    refine StGet_spec hin ok hpm (by omega) (by omega) hat (by omega) ?_
    intro u W3 τ3 st3 hin3 hbt3
    have hM3 : StM W3 τ3 sb n m := ⟨vb, fb, s1, w1, s2, w2, hv0, hc0, c0, at0, hin3, hat⟩
    have hq0 : τ' q = 0 := hM.fresh (by omega)
    have hg3 := st3.keep.get (fun hh => hh.1 hq0) hg2
    have hoff : W3.cell? ⟨q, 0 + 33, none⟩ = some (.int .i64 0) := (cell_blk hg3).trans (by rw [Nat.zero_add, List.getElem?_toArray, Ex.offAt, exP_off])
    have hlen : W3.cell? ⟨q, 0 + 34, none⟩ = some (.int .i64 (p.bs.length : Int)) := (cell_blk hg3).trans (by rw [Nat.zero_add, List.getElem?_toArray, Ex.lenAt, exP_len (by omega)])
    obtain ⟨au, cu, eu⟩ := Bts.slice hbt3
    (repeat (simp only [SLB, Int.reduceEq, Int.reduceNe, Int.reduceLT, Int.reduceLE, Int.reduceGT, Int.reduceGE, e0, X_field_84_1]))
    refine X_of (run_loadAt agg_3 hoff) ?_
    (repeat (simp only [SLB, Int.reduceEq, Int.reduceNe, Int.reduceLT, Int.reduceLE, Int.reduceGT, Int.reduceGE, X_field_84_2]))
    refine X_of (run_loadAt agg_3 hlen) ?_
    (repeat (simp only [SLB, Int.reduceEq, Int.reduceNe, Int.reduceLT, Int.reduceLE, Int.reduceGT, Int.reduceGE]))
    rw [X_add, Int.zero_add, w64 (by omega) (by omega)]
    have eg : decide ((p.bs.length : Int) > (p.bs.length : Int)) = false := decide_eq_false (by omega)
    rw [eu]
    (repeat (simp only [SLB, Int.reduceEq, Int.reduceNe, Int.reduceLT, Int.reduceLE, Int.reduceGT, Int.reduceGE, eg, X_field_84_1]))
    refine X_of (run_loadAt agg_3 hoff) ?_
    (repeat (simp only [SLB, Int.reduceEq, Int.reduceNe, Int.reduceLT, Int.reduceLE, Int.reduceGT, Int.reduceGE, X_field_84_1]))
    refine X_of (run_loadAt agg_3 hoff) ?_
    (repeat (simp only [SLB, Int.reduceEq, Int.reduceNe, Int.reduceLT, Int.reduceLE, Int.reduceGT, Int.reduceGE, X_field_84_2]))
    refine X_of (run_loadAt agg_3 hlen) ?_
    rw [X_add, Int.zero_add, w64 (by omega) (by omega), ← eu]
    obtain ⟨u2, hu2, hub2, _⟩ := cut_both Tryz.underlying28 info_5 sz_5 hbt3 (kl := .i64) (kh := .i64) (li := 0) (hj := (p.bs.length : Int)) 0 p.bs.length rfl rfl (Nat.zero_le _) (Nat.le_refl _)
    rw [List.take_length, List.drop_zero] at hub2
    refine X_of (hu2 _) ?_
    refine X_of (run_str Tryz.underlying28 Tryz.underlying5 Tryz.underlying9 hub2) ?_
    have htk : (m.ps.map Pp.bs).take (i + 1) = (m.ps.map Pp.bs).take i ++ [p.bs] := by
      rw [List.take_succ_eq_append_getElem (by simpa using hilt), List.getElem_map, hp]
    have hfl : (((m.ps.map Pp.bs).take i).flatten).length ≤ 1000000 := by
      have e := congrArg List.length (congrArg List.flatten (List.take_append_drop i (m.ps.map Pp.bs)))
      rw [List.flatten_append, List.length_append] at e
      omega
    refine X_of (run_string_add 9 _ _ (by rw [str_size, str_size]; omega) _) ?_
    rw [str_add, X_add]
    have st03 := (st.trans (Stp.ext hx02)).trans st3
    show _ ∧ _
    refine ⟨⟨i + 1, τ3, by omega, st03, hM3, ?_, next64 (n := 1000) (by decide) (by omega), r12, r11, r0⟩, ?_⟩
    · show Value.string _ = _
      rw [htk, List.flatten_append]
      simp
    · show (_ - IntKind.i64.wrap _).toNat < _
      rw [w64 (by omega) (by omega)]
      first | omega | (show _ < (_ : Int).toNat; omega)
  · rintro ρ W ⟨τ', st, r6⟩
    show K (.tuple #[ρ 6, .bool true]) W
    rw [r6]
    exact hK W τ' st
  · rintro ρ W hF
    exact hF.elim
theorem holds_top (hK : ∀ W, Ext w W → K (.bool true) W) : CALL Tryz.prog 4 #[] w K := by
  apply call_top_holds
  unfold B_top_holds
  refine made_spec (n := 5) (x := 50) (by decide) (by decide) (by decide) ?_
  intro sb w1 τ hx1 hτ hM
  (repeat (simp only [SLB, Int.reduceEq, Int.reduceNe, Int.reduceLT, Int.reduceLE, Int.reduceGT, Int.reduceGE]))
  refine cutter_spec ?_
  intro w2 hx2
  refine X_of (run_txt w2) ?_
  refine X_of (Lib.run_convert_bytes_const (P := Tryz.prog) w2 28 5 (B8 txt).toArray 46 46 Tryz.underlying28 Tryz.underlying5) ?_
  have hx3 : Ext w2 (w2.alloc (.cells (B8 txt).toArray 5 ((B8 txt).toArray.size, (B8 txt).toArray.size + 1))) := ⟨rfl, rfl, rfl, by show _ ≤ (w2.heap.push _).size; rw [Array.size_push]; omega, fun i hi _ => by
    show (w2.heap.push _)[i]? = _
    exact Array.getElem?_push_lt hi |>.trans (Array.getElem?_eq_getElem hi).symm⟩
  have hg3 : (w2.alloc (.cells (B8 txt).toArray 5 ((B8 txt).toArray.size, (B8 txt).toArray.size + 1))).heap[w2.heap.size]? = some (.cells (B8 txt).toArray 5 ((B8 txt).toArray.size, (B8 txt).toArray.size + 1)) := by
    show (w2.heap.push _)[w2.heap.size]? = _
    exact Array.getElem?_push_size
  generalize w2.alloc (.cells (B8 txt).toArray 5 ((B8 txt).toArray.size, (B8 txt).toArray.size + 1)) = w3 at hx3 hg3 ⊢
  have hbt : Bts w3 (.slice (some ⟨w2.heap.size, 0, none⟩) 46 46) txt := ⟨_, 46, rfl, by decide, by decide, fun _ => ⟨_, rfl, fun j u hj => by
    rw [add_plain, Nat.zero_add, cell_blk hg3, List.getElem?_toArray]
    show (B8 txt)[j]? = _
    rw [B8_getElem?, hj]
    rfl⟩⟩
  refine stored_spec ((hM.ext hx2).ext hx3) hbt (by decide) (by decide) (by decide) ?_
  intro u W τ' st hM2 ok hrow hub
  obtain ⟨bb, hbb⟩ : ∃ bb, bb = [txt.take 26, txt.drop 26] := ⟨_, rfl⟩
  rw [← hbb] at hM2 ok hrow
  have hps := mOf_len bb
  have hbs := mOf_bs bb
  have hfl : bb.flatten = txt := by rw [hbb]; rfl
  have hbl2 : bb.length = 2 := by rw [hbb]; rfl
  (repeat (simp only [SLB, Int.reduceEq, Int.reduceNe, Int.reduceLT, Int.reduceLE, Int.reduceGT, Int.reduceGE]))
  refine fetched_spec hM2 ok hrow hub (by omega) (by omega) (fun p hp => ?_) (by rw [hbs, hfl]; decide) ?_
  · have hm : p.bs ∈ bb := by rw [← hbs]; exact List.mem_map.2 ⟨p, hp, rfl⟩
    rw [hbb] at hm
    simp only [List.mem_cons, List.not_mem_nil, or_false] at hm
    rcases hm with h | h
    · rw [h]; decide
    · rw [h]; decide
  intro W2 τ2 st2
  rw [hbs, hfl]
  (repeat (simp only [SLB, Int.reduceEq, Int.reduceNe, Int.reduceLT, Int.reduceLE, Int.reduceGT, Int.reduceGE]))
  have hx : Ext w W2 := by
    have st13 := (Stp.ext (τ := τ) (hx2.trans hx3)).trans (st.trans st2)
    exact Ext.seq hx1 st13.keep (fun g hg => hτ g hg.1)
  show K (.bool ((str txt).toList == (str txt).toList)) W2
  rw [beq_self_eq_true]
  exact hK W2 hx
end
end Go.Proofs.YtcigpjejbkngfaaGreatDoor
end
section
set_option maxRecDepth 8000
namespace Go.Proofs.YtcigpjejbkngfaaGreatDoor
open Go Go.Sh Go.RowKit
attribute [local irreducible] X XU XP XR CALL loopS resC closS
theorem Bts.blk_lt {w : World} {x : Value} {l : List UInt8} (hb : Bts w x l) (h0 : 0 < l.length) {g : Nat} (hg : x.ownBlock = some g) : g < w.heap.size := by
  obtain ⟨a, c, rfl, _, _, h3⟩ := hb
  obtain ⟨ad, rfl, hc⟩ := h3 h0
  have hcell := hc 0 _ (List.getElem?_eq_getElem h0)
  have hgd : ad.block = g := Option.some.inj hg
  rw [← hgd]
  unfold World.cell? at hcell
  have hb : (ad.add 0).block = ad.block := by unfold Addr.add; split <;> rfl
  rw [hb] at hcell
  cases hh : w.heap[ad.block]? with
  | none => rw [hh] at hcell; cases hcell
  | some o => exact lt_of_blk hh
theorem RowK.blk_lt {w : World} {x : Value} {l : List Value} (hl : RowK 1 slC w x l) (h0 : 0 < l.length) {g : Nat} (hg : x.ownBlock = some g) : g < w.heap.size := by
  obtain ⟨a, c, rfl, _, _, h3⟩ := hl
  obtain ⟨ad, rfl, hc⟩ := h3 h0
  have hcell := hc 0 _ (List.getElem?_eq_getElem h0) 0 _ rfl
  have hgd : ad.block = g := Option.some.inj hg
  rw [← hgd]
  unfold World.cell? at hcell
  have hb : ((ad.add (0 * 1)).add 0).block = ad.block := by simp [Addr.add]
  rw [hb] at hcell
  cases hh : w.heap[ad.block]? with
  | none => rw [hh] at hcell; cases hcell
  | some o => exact lt_of_blk hh
def RowsB (w : World) (v : Value) (ls : List (List UInt8)) : Prop := ∃ us : List Value, RowK 1 slC w v us ∧ us.length = ls.length ∧ ∀ (i : Nat) (u : Value) (l : List UInt8), us[i]? = some u → ls[i]? = some l → Bts w u l
theorem str_inj {a b : List UInt8} (h : str a = str b) : a = b := by
  have := congrArg ByteArray.toList h
  rwa [str_toList, str_toList] at this
theorem keyed9 : Maps.Keyed Tryz.prog 9 := Maps.string_keyed Tryz.underlying9
theorem keyOf_str {b : List UInt8} (h : b.length ≤ 1000000) : ∃ kl, keyOf Tryz.prog 9 (.string (str b)) = some kl := ⟨_, WideMaps.keyOf_string_mk Tryz.underlying9 (by rw [str_size]; simp only [maxLen]; omega)⟩
structure Had (ms : List (Value × Value)) (bb : List (List UInt8)) : Prop where
  sub : ∀ e ∈ ms, ∃ b ∈ bb, e = (.string (str b), .bool true)
  all : ∀ b ∈ bb, ∃ e ∈ ms, e.1 = .string (str b)
  len : ∀ b ∈ bb, b.length ≤ 1000
theorem Had.keys {ms : List (Value × Value)} {bb : List (List UInt8)} (h : Had ms bb) : ∀ p ∈ ms, ∃ x, keyOf Tryz.prog 9 p.1 = some x := fun p hp => by
  obtain ⟨b, hb, rfl⟩ := h.sub p hp
  exact keyOf_str (by have := h.len b hb; omega)
theorem had_lookup {w : World} {mb : Nat} {ms : List (Value × Value)} {bb : List (List UInt8)} {b : List UInt8} (h : Had ms bb) (hm : MapAt w mb ms) (hb : b.length ≤ 1000) : (Instr.lookup 27 (.map (some mb)) (.string (str b)) false).run Tryz.prog w = .ok (.bool (decide (b ∈ bb))) w := by
  obtain ⟨kl, hkl⟩ := keyOf_str (b := b) (by omega)
  rcases run_lookupM keyed9 Tryz.underlying27 zero_4 hm h.keys hkl false with ⟨hno, hr⟩ | ⟨p, hp, hpk, hr⟩
  · rw [hr, decide_eq_false (fun hb' => by
      obtain ⟨e, he, hek⟩ := h.all b hb'
      exact hno e he hek)]
    rfl
  · obtain ⟨b', hb', rfl⟩ := h.sub p hp
    have e : b' = b := by
      injection hpk with hpk
      exact str_inj hpk
    rw [hr, decide_eq_true (e ▸ hb')]
    rfl
theorem had_update {w : World} {mb : Nat} {ms : List (Value × Value)} {bb : List (List UInt8)} {b : List UInt8} (h : Had ms bb) (hm : MapAt w mb ms) (hb : b.length ≤ 1000) {Q : World → Prop}
    (hQ : ∀ w1 ms', MapAt w1 mb ms' → (∀ bb', (∀ x, x ∈ bb' ↔ x ∈ bb ∨ x = b) → Had ms' bb') → Keep (· = mb) w w1 → Q w1) : XU Tryz.prog (Instr.mapUpdate 27 (.map (some mb)) (.string (str b)) (.bool true)) w Q := by
  obtain ⟨kl, hkl⟩ := keyOf_str (b := b) (by omega)
  refine XU_updateAny keyed9 Tryz.underlying27 hm h.keys hkl ?_
  intro w1 ms' hm1 hcase hk1
  refine hQ w1 ms' hm1 (fun bb' hbb => ?_) hk1
  rcases hcase with ⟨hno, rfl⟩ | ⟨j, p, hj, hpk, rfl⟩
  · refine ⟨fun e he => ?_, fun x hx => ?_, fun x hx => ?_⟩
    · rcases List.mem_append.1 he with he | he
      · obtain ⟨y, hy, hye⟩ := h.sub e he
        exact ⟨y, (hbb y).2 (.inl hy), hye⟩
      · exact ⟨b, (hbb b).2 (.inr rfl), List.mem_singleton.1 he⟩
    · rcases (hbb x).1 hx with hx | rfl
      · obtain ⟨e, he, hek⟩ := h.all x hx
        exact ⟨e, List.mem_append_left _ he, hek⟩
      · exact ⟨_, List.mem_append_right _ (List.mem_singleton.2 rfl), rfl⟩
    · rcases (hbb x).1 hx with hx | rfl
      · exact h.len x hx
      · exact hb
  · have hpm := List.mem_of_getElem? hj
    obtain ⟨y, hy, hpe⟩ := h.sub p hpm
    have hpp : (Value.string (str b), Value.bool true) = p := by rw [← hpk, hpe]
    have hset : ms.set j (.string (str b), .bool true) = ms := by
      rw [hpp]
      apply List.ext_getElem?
      intro i
      rw [List.getElem?_set]
      split
      · rename_i hji
        subst hji
        rw [hj]
        simp [(List.getElem?_eq_some_iff.1 hj).1]
      · rfl
    rw [hset]
    refine ⟨fun e he => ?_, fun x hx => ?_, fun x hx => ?_⟩
    · obtain ⟨y, hy, hye⟩ := h.sub e he
      exact ⟨y, (hbb y).2 (.inl hy), hye⟩
    · rcases (hbb x).1 hx with hx | rfl
      · exact h.all x hx
      · exact ⟨p, hpm, by rw [← hpp]⟩
    · rcases (hbb x).1 hx with hx | rfl
      · exact h.len x hx
      · exact hb
theorem run_build_33z (w : World) : (Instr.build 33 #[]).run Tryz.prog w = .ok nilKy.v w := by
  show _ = Result.ok (Value.agg nilKy.cs.toArray) w
  rw [nilKy_cs]
  kernel_rfl
section
variable {w : World} {K : Value → World → Prop} {τ : Nat → Nat} {sb n : Nat}
theorem StPut_empty {v d : Value} (hv : Bts w v []) (hK : ∀ W, Ext w W → K (.tuple #[nilKy.v, .bool false, i64v 1]) W) : CALL Tryz.prog 6 #[ptr sb, v, d] w K := by
  obtain ⟨av, cv, ev⟩ := Bts.slice hv
  apply call_store_Store_Put
  unfold B_store_Store_Put
  refine X_alloc zero_33 ?_
  have hx1 := newB_ext w (Value.agg (List.replicate 32 (Value.int .u8 0) ++ [Value.int .u32 0]).toArray).cells 33
  have hg1 : (newB w (Value.agg (List.replicate 32 (Value.int .u8 0) ++ [Value.int .u32 0]).toArray).cells 33).heap[w.heap.size]? = some (.cells nilKy.cs.toArray 33 (0, 0)) := by rw [nilKy_cs]; exact newB_get _ _ _
  show X _ _ (newB w (Value.agg (List.replicate 32 (Value.int .u8 0) ++ [Value.int .u32 0]).toArray).cells 33) _
  generalize newB w (Value.agg (List.replicate 32 (Value.int .u8 0) ++ [Value.int .u32 0]).toArray).cells 33 = wa at hx1 hg1 ⊢
  have ez : decide ((([] : List UInt8).length : Int) = 0) = true := rfl
  rw [ev]
  (repeat (simp only [SLB, Int.reduceEq, Int.reduceNe, Int.reduceLT, Int.reduceLE, Int.reduceGT, Int.reduceGE, ez]))
  refine X_of (run_build_33z _) ?_
  refine key_store (k := nilKy) hg1 (by rw [List.size_toArray, Ky.cs_len]) ?_
  intro w2 k2 s2 hg2
  refine key_res hg2 ?_
  exact hK w2 (Ext.seq hx1 k2 (fun g hg => by omega))
theorem StSeal_none {tk id vb fb s1 w1 s2 w2 : Nat} {S : List (List Pp)} {R : List Ex} {sz at_ : Int} {hv : Value} {hc : List Pc} {c : Nat → List UInt8}
    (h : StIn w τ sb n S [] R tk id sz at_ vb fb s1 w1 s2 w2 hv hc c) (hK : K (i64v 0) w) : CALL Tryz.prog 8 #[ptr sb] w K := by
  obtain ⟨ha, hcc, e⟩ := held_sl h
  have eH : decide ((([] : List Pp).length : Int) = 0) = true := rfl
  apply call_store_Store_Seal
  unfold B_store_Store_Seal
  (repeat (simp only [SLB, Int.reduceEq, Int.reduceNe, Int.reduceLT, Int.reduceLE, Int.reduceGT, Int.reduceGE, X_field_71_4]))
  refine X_of (run_loadAt (v := hv) agg_41 ((cell_blk h.cell).trans rfl)) ?_
  rw [e, X_len_41]
  (repeat (simp only [SLB, Int.reduceEq, Int.reduceNe, Int.reduceLT, Int.reduceLE, Int.reduceGT, Int.reduceGE, eH]))
  exact hK
end
end Go.Proofs.YtcigpjejbkngfaaGreatDoor
end
section
set_option maxRecDepth 8000
namespace Go.Proofs.YtcigpjejbkngfaaGreatDoor
open Go Go.Sh Go.RowKit
attribute [local irreducible] X XU XP XR CALL loopS resC closS
section
variable {w : World} {K : Value → World → Prop}
set_option maxHeartbeats 4000000 in
theorem TopRoom_spec {v : Value} {ls : List (List UInt8)} {x : Nat} (ht : TabAt w) (hx : x < 256) (hl : RowsB w v ls) (hK : ∀ W, Ext w W → K (.bool true) W) : CALL Tryz.prog 3 #[v, .int .u8 (x : Int)] w K := by
  have e0 : decide ((0 : Int) ≠ 0) = false := rfl
  have e1 : decide ((1 : Int) ≠ 0) = true := rfl
  obtain ⟨us, hrow, hul, hus⟩ := hl
  obtain ⟨av, cv, ev⟩ := hrow.slice
  apply call_top_TopRoom
  unfold B_top_TopRoom
  refine holds_top ?_
  intro w1 hx1
  refine made_spec (n := 150) (by decide) (by decide) hx ?_
  intro sb w2 τ0 hx2 hτ0 hM0
  (repeat (simp only [SLB, Int.reduceEq, Int.reduceNe, Int.reduceLT, Int.reduceLE, Int.reduceGT, Int.reduceGE]))
  refine X_makeMap0 ?_
  have hx3 := newM_ext w2
  have hm3 := newM_at w2
  have hs3 : (newM w2).heap.size = w2.heap.size + 1 := by show (w2.heap.push _).size = _; rw [Array.size_push]
  generalize newM w2 = w3 at hx3 hm3 hs3 ⊢
  generalize hmb : w2.heap.size = mb at hm3 hs3
  have hM3 := hM0.ext hx3
  have hx03 := (hx1.trans hx2).trans hx3
  have hmb0 : τ0 mb = 0 := hM0.fresh (by omega)
  have hz0 : ∀ g, g < w.heap.size → τ0 g = 0 := fun g hg => by
    by_cases h0 : τ0 g = 0
    · exact h0
    · have := hτ0 g h0
      have := hx1.size
      omega
  rw [ev, X_len_22, ← ev, hul]
  refine loopG 0 (fun ρ W => ∃ (i : Nat) (τ' : Nat → Nat) (bb : List (List UInt8)) (ms : List (Value × Value)), i ≤ ls.length ∧ i ≤ 100 ∧ bb.length ≤ i ∧ StM W τ' sb 150 (mOf bb) ∧ (mOf bb).Ok ∧ MapAt W mb ms ∧ τ' mb = 0 ∧ (∀ g, g < w3.heap.size → τ' g = τ0 g) ∧ Keep (fun g => (τ0 g ≠ 0 ∧ τ0 g ≠ 6) ∨ g = mb) w3 W ∧ Had ms bb ∧
      body (mOf bb).ps ≤ 438 * bb.length ∧ ρ 27 = .int .i64 (i : Int) ∧ ρ 26 = .int .i64 (ls.length : Int) ∧ ρ 25 = v ∧ ρ 8 = .int .i64 ((body (mOf bb).ps : Nat) : Int) ∧ ρ 9 = .map (some mb) ∧ ρ 6 = ptr sb ∧ ρ 5 = .bool true)
    (fun ρ W => match ρ 27 with | .int _ s => (ls.length - s).toNat | _ => 0)
    (fun ρ W => ∃ (τ' : Nat → Nat) (bb : List (List UInt8)), bb.length ≤ 100 ∧ StM W τ' sb 150 (mOf bb) ∧ (mOf bb).Ok ∧ Ext w W ∧ (∀ g, g < w.heap.size → τ' g = 0) ∧ body (mOf bb).ps ≤ 438 * bb.length ∧ ρ 8 = .int .i64 ((body (mOf bb).ps : Nat) : Int) ∧ ρ 6 = ptr sb ∧ ρ 5 = .bool true) ?_ ?_ ?_
  · exact ⟨0, τ0, [], [], Nat.zero_le _, Nat.zero_le _, Nat.le_refl _, hM3, Sm.nil_ok, hm3, hmb0, fun _ _ => rfl, Keep.refl _ _, ⟨(fun e he => by cases he), (fun b hb => by cases hb), (fun b hb => by cases hb)⟩, Nat.zero_le _, rfl, rfl, rfl, rfl, rfl, rfl, rfl⟩
  · rintro J hJ ρ W ⟨i, τ', bb, ms, hi, hi100, hbi, hM, ok, hm, hm0, hzz, hk, had, hbody, r27, r26, r25, r8, r9, r6, r5⟩
    have hz : ∀ g, g < w.heap.size → τ' g = 0 := fun g hg => by rw [hzz g (by have := hx03.size; omega)]; exact hz0 g hg
    have hnD : ∀ g, g < w.heap.size → ¬ ((τ0 g ≠ 0 ∧ τ0 g ≠ 6) ∨ g = mb) := fun g hg hh => by
      rcases hh with hh | hh
      · exact hh.1 (hz0 g hg)
      · have := hx1.size
        have := hx2.size
        omega
    have hExit : ∀ ρ' : Env, ρ' 8 = .int .i64 ((body (mOf bb).ps : Nat) : Int) → ρ' 6 = ptr sb → ρ' 5 = .bool true → J (.exit 0) ρ' W := fun ρ' t8 t6 t5 =>
      hJ _ _ ⟨τ', bb, by omega, hM, ok, Ext.seq hx03 hk (fun g hg => Nat.le_of_not_lt (fun h => hnD g h hg)), hz, hbody, t8, t6, t5⟩
    rw [r27, r26, r25, X_lss, condS_bool]
    by_cases hie : i = ls.length
    · rw [if_neg (by simp; omega)]
      exact hExit _ r8 r6 r5
    rw [if_pos (by simp; omega)]
    have hilt : i < ls.length := by omega
    refine joinS_of (fun ρ' W2 => ∃ (τ2 : Nat → Nat) (bb2 : List (List UInt8)) (ms2 : List (Value × Value)), i < 100 ∧ bb2.length ≤ i + 1 ∧ StM W2 τ2 sb 150 (mOf bb2) ∧ (mOf bb2).Ok ∧ MapAt W2 mb ms2 ∧ τ2 mb = 0 ∧ (∀ g, g < w3.heap.size → τ2 g = τ0 g) ∧ Keep (fun g => (τ0 g ≠ 0 ∧ τ0 g ≠ 6) ∨ g = mb) w3 W2 ∧ Had ms2 bb2 ∧
      body (mOf bb2).ps ≤ 438 * bb2.length ∧ ρ' 27 = .int .i64 (i : Int) ∧ ρ' 26 = .int .i64 (ls.length : Int) ∧ ρ' 25 = v ∧ ρ' 8 = .int .i64 ((body (mOf bb2).ps : Nat) : Int) ∧ ρ' 9 = .map (some mb) ∧ ρ' 6 = ptr sb ∧ ρ' 5 = .bool true) ?_ ?_
    · rintro ρ' W2 ⟨τ2, bb2, ms2, h100, hbl2, hM2, ok2, hm2, hm20, hz2, hk2, had2, hbd2, t27, t26, t25, t8, t9, t6, t5⟩
      rw [t27, X_add]
      show _ ∧ _
      · refine ⟨⟨i + 1, τ2, bb2, ms2, by omega, by omega, hbl2, hM2, ok2, hm2, hm20, hz2, hk2, had2, hbd2, next64 (n := 1000) (by decide) (by omega), t26, t25, t8, t9, t6, t5⟩, ?_⟩
        show (_ - IntKind.i64.wrap _).toNat < _
        rw [w64 (by omega) (by omega)]
        first | omega | (show _ < (_ : Int).toNat; omega)
    intro J2 hJ2
    obtain ⟨u, hu⟩ : ∃ u, us[i]? = some u := ⟨_, List.getElem?_eq_getElem (by omega)⟩
    obtain ⟨b, hb⟩ : ∃ b, ls[i]? = some b := ⟨_, List.getElem?_eq_getElem hilt⟩
    have hbt := hus i u b hu hb
    obtain ⟨au, cu, eu⟩ := Bts.slice hbt
    have hrowW := (hrow.ext hx03).keep hk (fun h0 g hg => hnD g (RowK.blk_lt hrow h0 hg))
    have hbtW := (hbt.ext hx03).keep' hk (fun h0 g hg => hnD g (Bts.blk_lt hbt h0 hg))
    obtain ⟨ad, hix, hcs⟩ := hrowW.at Tryz.underlying22 info_28 sz_28 (kd := .i64) i rfl (by omega)
    have hue : us[i]'(by omega) = u := by
      rw [List.getElem?_eq_getElem (by omega)] at hu
      exact Option.some.inj hu
    rw [hue] at hcs
    refine X_of (hix _) ?_
    have hc0 := hcs 0 u rfl
    have had0 : ad.add 0 = ad := by simp [Addr.add]
    rw [had0] at hc0
    refine X_of (run_loadAt agg_28 hc0) ?_
    rw [X_geq]
    by_cases h100 : i = 100
    · rw [decide_eq_true (by omega)]
      (repeat (simp only [SLB, Int.reduceEq, Int.reduceNe, Int.reduceLT, Int.reduceLE, Int.reduceGT, Int.reduceGE]))
      exact hExit _ r8 r6 r5
    rw [decide_eq_false (by omega), eu]
    (repeat (simp only [SLB, Int.reduceEq, Int.reduceNe, Int.reduceLT, Int.reduceLE, Int.reduceGT, Int.reduceGE]))
    by_cases h400 : 400 < b.length
    · have e4 : decide ((b.length : Int) > 400) = true := decide_eq_true (by omega)
      (repeat (simp only [SLB, Int.reduceEq, Int.reduceNe, Int.reduceLT, Int.reduceLE, Int.reduceGT, Int.reduceGE, e4]))
      exact hExit _ r8 r6 r5
    have e4 : decide ((b.length : Int) > 400) = false := decide_eq_false (by omega)
    (repeat (simp only [SLB, Int.reduceEq, Int.reduceNe, Int.reduceLT, Int.reduceLE, Int.reduceGT, Int.reduceGE, e4]))
    rw [← eu, r6, r9]
    by_cases hb0 : b = []
    · subst hb0
      refine StPut_empty hbtW ?_
      intro W1 hx4
      (repeat (simp only [SLB, Int.reduceEq, Int.reduceNe, Int.reduceLT, Int.reduceLE, Int.reduceGT, Int.reduceGE]))
      refine X_alloc zero_33 ?_
      have hxa := newB_ext W1 (Value.agg (List.replicate 32 (Value.int .u8 0) ++ [Value.int .u32 0]).toArray).cells 33
      have hga : (newB W1 (Value.agg (List.replicate 32 (Value.int .u8 0) ++ [Value.int .u32 0]).toArray).cells 33).heap[W1.heap.size]? = some (.cells nilKy.cs.toArray 33 (0, 0)) := by rw [nilKy_cs]; exact newB_get _ _ _
      generalize newB W1 (Value.agg (List.replicate 32 (Value.int .u8 0) ++ [Value.int .u32 0]).toArray).cells 33 = W1a at hxa hga ⊢
      refine key_store (k := nilKy) hga (by rw [List.size_toArray, Ky.cs_len]) ?_
      intro W2 k2 s2 hg2
      have hx02 : Ext W W2 := hx4.trans (Ext.seq hxa k2 (fun g hg => by omega))
      have ez : decide ((([] : List UInt8).length : Int) = 0) = true := rfl
      rw [eu]
      (repeat (simp only [SLB, Int.reduceEq, Int.reduceNe, Int.reduceLT, Int.reduceLE, Int.reduceGT, Int.reduceGE, ez]))
      exact hJ2 _ _ ⟨τ', bb, ms, by omega, by omega, hM.ext hx02, ok, hm.ext hx02, hm0, hzz, hk.trans (Keep.ext hx02), had, hbody, r27, r26, r25, r8, r9, r6, r5⟩
    have hbp := List.length_pos_iff.2 hb0
    have ez : decide ((b.length : Int) = 0) = false := decide_eq_false (by omega)
    have hblk : ∀ g, u.ownBlock = some g → g < w.heap.size := fun g hg => Bts.blk_lt hbt hbp hg
    have hpsl := mOf_len bb
    refine StPut_spec (d := 0) hM ok hbtW (fun g hg => hz g (hblk g hg)) hb0 (by omega) (by decide) (by omega) (by omega) ?_ ?_
    · intro q hq hqb W1 τ1 st1 hM1
      have hinb : b ∈ bb := by rw [← mOf_bs bb]; exact List.mem_map.2 ⟨q, hq, hqb⟩
      have stk : Keep (fun g => (τ0 g ≠ 0 ∧ τ0 g ≠ 6) ∨ g = mb) w3 W1 := Keep.seq hk st1.keep (fun g hg hh => .inl (by rw [hzz g hg] at hh; exact hh))
      have hz1 : ∀ g, g < w3.heap.size → τ1 g = τ0 g := fun g hg => by rw [st1.old g (by have := hk.size; omega)]; exact hzz g hg
      have hm1 := hm.keep st1.keep (fun hh => hh.1 hm0)
      have hm10 : τ1 mb = 0 := by rw [st1.old mb hm.lt]; exact hm0
      have hb1 : Bts W1 u b := hbtW.keep st1.keep (fun g hg hh => hh.1 (hz g (hblk g hg)))
      (repeat (simp only [SLB, Int.reduceEq, Int.reduceNe, Int.reduceLT, Int.reduceLE, Int.reduceGT, Int.reduceGE]))
      refine X_alloc zero_33 ?_
      have hxa := newB_ext W1 (Value.agg (List.replicate 32 (Value.int .u8 0) ++ [Value.int .u32 0]).toArray).cells 33
      have hga : (newB W1 (Value.agg (List.replicate 32 (Value.int .u8 0) ++ [Value.int .u32 0]).toArray).cells 33).heap[W1.heap.size]? = some (.cells nilKy.cs.toArray 33 (0, 0)) := by rw [nilKy_cs]; exact newB_get _ _ _
      generalize newB W1 (Value.agg (List.replicate 32 (Value.int .u8 0) ++ [Value.int .u32 0]).toArray).cells 33 = W1a at hxa hga ⊢
      refine key_store (k := q.k) hga (by rw [List.size_toArray, Ky.cs_len]) ?_
      intro W2 k2 s2 hg2
      have hx12 : Ext W1 W2 := Ext.seq hxa k2 (fun g hg => by omega)
      have hM2 := hM1.ext hx12
      have hm2 := hm1.ext hx12
      have hb2 := hb1.ext hx12
      have stk2 := stk.trans (Keep.ext hx12)
      rw [eu]
      (repeat (simp only [SLB, Int.reduceEq, Int.reduceNe, Int.reduceLT, Int.reduceLE, Int.reduceGT, Int.reduceGE, ez, e0]))
      rw [← eu]
      refine X_of (run_str Tryz.underlying28 Tryz.underlying5 Tryz.underlying9 hb2) ?_
      (repeat (simp only [SLB, Int.reduceEq, Int.reduceNe, Int.reduceLT, Int.reduceLE, Int.reduceGT, Int.reduceGE]))
      refine X_of (had_lookup had hm2 (by omega)) ?_
      rw [decide_eq_true hinb]
      (repeat (simp only [SLB, Int.reduceEq, Int.reduceNe, Int.reduceLT, Int.reduceLE, Int.reduceGT, Int.reduceGE]))
      rw [X_eql_bool_4]
      have ebb : ((false : Bool) == true) = false := rfl
      (repeat (simp only [SLB, Int.reduceEq, Int.reduceNe, Int.reduceLT, Int.reduceLE, Int.reduceGT, Int.reduceGE, ebb]))
      refine joinS_of (fun ρ3 W3 => ∃ (τ3 : Nat → Nat) (bb2 : List (List UInt8)), bb2.length ≤ i + 1 ∧ StM W3 τ3 sb 150 (mOf bb2) ∧ (mOf bb2).Ok ∧ MapAt W3 mb ms ∧ τ3 mb = 0 ∧ (∀ g, g < w3.heap.size → τ3 g = τ0 g) ∧ Keep (fun g => (τ0 g ≠ 0 ∧ τ0 g ≠ 6) ∨ g = mb) w3 W3 ∧ (∀ x, x ∈ bb2 ↔ x ∈ bb ∨ x = b) ∧
        body (mOf bb2).ps ≤ 438 * bb2.length ∧ Bts W3 u b ∧ ρ3 11 = u ∧ ρ3 27 = .int .i64 (i : Int) ∧ ρ3 26 = .int .i64 (ls.length : Int) ∧ ρ3 25 = v ∧ ρ3 8 = .int .i64 ((body (mOf bb2).ps : Nat) : Int) ∧ ρ3 9 = .map (some mb) ∧ ρ3 6 = ptr sb ∧ ρ3 5 = .bool true) ?_ ?_
      · rintro ρ3 W3 ⟨τ3, bb2, hbl2, hM3', ok3, hm3', hm30, hz3, hk3, hmem, hbd, hb3, t11, t27, t26, t25, t8, t9, t6, t5⟩
        rw [t11, t9]
        refine X_of (run_str Tryz.underlying28 Tryz.underlying5 Tryz.underlying9 hb3) ?_
        refine had_update had hm3' (by omega) ?_
        intro W4 ms4 hm4 had4 hk4
        exact hJ2 _ _ ⟨τ3, bb2, ms4, by omega, hbl2, hM3'.keep hk4 (fun g hg hh => hg (by rw [hh]; exact hm30)), ok3, hm4, hm30, hz3, Keep.seq hk3 hk4 (fun g hg hh => .inr hh), had4 bb2 hmem, hbd, t27, t26, t25, t8, t9, t6, t5⟩
      intro J3 hJ3
      (repeat (simp only [SLB, Int.reduceEq, Int.reduceNe, Int.reduceLT, Int.reduceLE, Int.reduceGT, Int.reduceGE]))
      exact hJ3 _ _ ⟨τ1, bb, by omega, hM2, ok, hm2, hm10, hz1, stk2, fun y => ⟨.inl, fun h => h.elim id (fun h => h ▸ hinb)⟩, hbody, hb2, rfl, r27, r26, r25, r8, r9, r6, r5⟩
    · intro hnot W1 τ1 st1 hM1 ok1
      have hnb : b ∉ bb := by rw [← mOf_bs bb]; exact hnot
      rw [← mOf_snoc] at hM1 ok1
      have stk : Keep (fun g => (τ0 g ≠ 0 ∧ τ0 g ≠ 6) ∨ g = mb) w3 W1 := Keep.seq hk st1.keep (fun g hg hh => .inl (by rw [hzz g hg] at hh; exact hh))
      have hz1 : ∀ g, g < w3.heap.size → τ1 g = τ0 g := fun g hg => by rw [st1.old g (by have := hk.size; omega)]; exact hzz g hg
      have hm1 := hm.keep st1.keep (fun hh => hh.1 hm0)
      have hm10 : τ1 mb = 0 := by rw [st1.old mb hm.lt]; exact hm0
      have hb1 : Bts W1 u b := hbtW.keep st1.keep (fun g hg hh => hh.1 (hz g (hblk g hg)))
      (repeat (simp only [SLB, Int.reduceEq, Int.reduceNe, Int.reduceLT, Int.reduceLE, Int.reduceGT, Int.reduceGE]))
      refine X_alloc zero_33 ?_
      have hxa := newB_ext W1 (Value.agg (List.replicate 32 (Value.int .u8 0) ++ [Value.int .u32 0]).toArray).cells 33
      have hga : (newB W1 (Value.agg (List.replicate 32 (Value.int .u8 0) ++ [Value.int .u32 0]).toArray).cells 33).heap[W1.heap.size]? = some (.cells nilKy.cs.toArray 33 (0, 0)) := by rw [nilKy_cs]; exact newB_get _ _ _
      generalize newB W1 (Value.agg (List.replicate 32 (Value.int .u8 0) ++ [Value.int .u32 0]).toArray).cells 33 = W1a at hxa hga ⊢
      refine key_store (k := (newP (mOf bb) b).k) hga (by rw [List.size_toArray, Ky.cs_len]) ?_
      intro W2 k2 s2 hg2
      have hx12 : Ext W1 W2 := Ext.seq hxa k2 (fun g hg => by omega)
      have hM2 := hM1.ext hx12
      have hm2 := hm1.ext hx12
      have hb2 := hb1.ext hx12
      have stk2 := stk.trans (Keep.ext hx12)
      rw [eu]
      (repeat (simp only [SLB, Int.reduceEq, Int.reduceNe, Int.reduceLT, Int.reduceLE, Int.reduceGT, Int.reduceGE, ez, e0]))
      rw [← eu]
      refine X_of (run_str Tryz.underlying28 Tryz.underlying5 Tryz.underlying9 hb2) ?_
      (repeat (simp only [SLB, Int.reduceEq, Int.reduceNe, Int.reduceLT, Int.reduceLE, Int.reduceGT, Int.reduceGE]))
      refine X_of (had_lookup had hm2 (by omega)) ?_
      rw [decide_eq_false hnb]
      (repeat (simp only [SLB, Int.reduceEq, Int.reduceNe, Int.reduceLT, Int.reduceLE, Int.reduceGT, Int.reduceGE]))
      rw [X_eql_bool_4]
      have ebb : ((true : Bool) == false) = false := rfl
      (repeat (simp only [SLB, Int.reduceEq, Int.reduceNe, Int.reduceLT, Int.reduceLE, Int.reduceGT, Int.reduceGE, ebb]))
      refine joinS_of (fun ρ3 W3 => ∃ (τ3 : Nat → Nat) (bb2 : List (List UInt8)), bb2.length ≤ i + 1 ∧ StM W3 τ3 sb 150 (mOf bb2) ∧ (mOf bb2).Ok ∧ MapAt W3 mb ms ∧ τ3 mb = 0 ∧ (∀ g, g < w3.heap.size → τ3 g = τ0 g) ∧ Keep (fun g => (τ0 g ≠ 0 ∧ τ0 g ≠ 6) ∨ g = mb) w3 W3 ∧ (∀ x, x ∈ bb2 ↔ x ∈ bb ∨ x = b) ∧
        body (mOf bb2).ps ≤ 438 * bb2.length ∧ Bts W3 u b ∧ ρ3 11 = u ∧ ρ3 27 = .int .i64 (i : Int) ∧ ρ3 26 = .int .i64 (ls.length : Int) ∧ ρ3 25 = v ∧ ρ3 8 = .int .i64 ((body (mOf bb2).ps : Nat) : Int) ∧ ρ3 9 = .map (some mb) ∧ ρ3 6 = ptr sb ∧ ρ3 5 = .bool true) ?_ ?_
      · rintro ρ3 W3 ⟨τ3, bb2, hbl2, hM3', ok3, hm3', hm30, hz3, hk3, hmem, hbd, hb3, t11, t27, t26, t25, t8, t9, t6, t5⟩
        rw [t11, t9]
        refine X_of (run_str Tryz.underlying28 Tryz.underlying5 Tryz.underlying9 hb3) ?_
        refine had_update had hm3' (by omega) ?_
        intro W4 ms4 hm4 had4 hk4
        exact hJ2 _ _ ⟨τ3, bb2, ms4, by omega, hbl2, hM3'.keep hk4 (fun g hg hh => hg (by rw [hh]; exact hm30)), ok3, hm4, hm30, hz3, Keep.seq hk3 hk4 (fun g hg hh => .inr hh), had4 bb2 hmem, hbd, t27, t26, t25, t8, t9, t6, t5⟩
      intro J3 hJ3
      (repeat (simp only [SLB, Int.reduceEq, Int.reduceNe, Int.reduceLT, Int.reduceLE, Int.reduceGT, Int.reduceGE]))
      rw [eu]
      refine X_of (run_build_40d b _) ?_
      obtain ⟨x0, hx0⟩ : ∃ x : Pc, x = ⟨⟨nilKy, b⟩, .slice au b.length cu⟩ := ⟨_, rfl⟩
      rw [← hx0]
      have hx0in : x0.In W2 := by rw [hx0]; show Bts _ (Value.slice au b.length cu) b; rw [← eu]; exact hb2
      have hx0b : x0.p.bs = b := by rw [hx0]
      refine X_buildSliceK Tryz.underlying41 el_40 (by decide) (by decide) (Pc.len _) ?_
      have hx5 := newB_ext W2 x0.cs.toArray 40
      have hrow5 : RowK 34 Pc.cs (newB W2 x0.cs.toArray 40) (.slice (some ⟨W2.heap.size, 0, none⟩) 1 1) [x0] := by
        refine RowK.ofK (T := 40) (fr := (0, 0)) (by decide) Pc.len ?_ rfl (by decide)
        rw [newB_get]
        unfold cellsK
        simp
      generalize newB W2 x0.cs.toArray 40 = W5 at hx5 hrow5 ⊢
      refine Size_one hrow5 (hx0in.ext hx5) (by rw [hx0b]; omega) ?_
      intro W6 hx6
      refine CSize_nil ?_
      intro W7 hx7
      have hx27 := (hx5.trans hx6).trans hx7
      rw [hx0b, X_sub, w64 (by omega) (by omega), r8, X_add, w64 (by omega) (by omega)]
      have ebody : body (mOf (bb ++ [b])).ps = body (mOf bb).ps + 38 + b.length := by rw [mOf_ps_snoc, body_append, body_one]; show _ + (38 + b.length) = _; omega
      exact hJ3 _ _ ⟨τ1, bb ++ [b], by simp; omega, hM2.ext hx27, ok1, hm2.ext hx27, hm10, hz1, stk2.trans (Keep.ext hx27), fun y => by simp, by rw [ebody, List.length_append, List.length_singleton]; omega, hb2.ext hx27, eu.symm, r27, r26, r25, by show Value.int .i64 _ = _; rw [ebody]; congr 1; omega, r9, r6, r5⟩
  · rintro ρ W ⟨τ', bb, hbl, hM, ok, hxW, hz, hbody, r8, r6, r5⟩
    simp only [inBlockS_same, thenS_normal]
    rw [r8, r6, r5]
    refine CSize_nil ?_
    intro W2 hx2
    rw [X_sub, w64 (by omega) (by omega)]
    have hM2 := hM.ext hx2
    have hx02 := hxW.trans hx2
    have kd := Keep.drew (fun _ => False) W2
    have hMd := hM2.ext kd
    have hxd := hx02.trans kd
    refine ⟨Ext, Ext.frame, ?_⟩
    generalize drewW W2 = wd at kd hMd hxd ⊢
    have hps := mOf_len bb
    have hroom := Sm.room ok
    have htk := took_le ok
    have hSl := S_le ok
    have fin : ∀ (W3 : World), Ext w W3 → ∀ {τ3 : Nat → Nat} {tk id vb fb s1 w1 s2 w2 : Nat} {S : List (List Pp)} {R : List Ex} {sz at_ : Int} {hv : Value} {hc : List Pc} {c : Nat → List UInt8},
        StIn W3 τ3 sb 150 S [] R tk id sz at_ vb fb s1 w1 s2 w2 hv hc c → tk ≤ 2 * body (mOf bb).ps / 498 + 1 → tk ≤ 1000 →
        ∀ K' : Value → World → Prop, (∀ W4, Ext w W4 → K' (.bool true) W4) → (XP Tryz.prog (binOp .mul 3 (.int .i64 2) (.int .i64 ((body (mOf bb).ps : Nat) : Int))) W3 fun v47 w68 => XP Tryz.prog (binOp .quo 3 v47 (.int .i64 498)) w68 fun v49 w72 => XP Tryz.prog (binOp .add 3 v49 (.int .i64 1)) w72 fun v50 w74 =>
          CALL Tryz.prog 9 #[ptr sb] w74 fun v51 w76 => XP Tryz.prog (Builtin.len_ #[43] 3 #[v51]) w76 fun v52 w78 => XP Tryz.prog (binOp .leq 3 v52 v50) w78 fun v53 w80 => K' v53 w80) := by
      intro W3 ht3 τ3 tk id vb fb s1 w1 s2 w2 S R sz at_ hv hc c hin htk1 htk2 K' hK'
      rw [XP_mul, w64 (by omega) (by omega)]
      refine XP_of (fun w' => run_quo 3 .i64 _ 498 (by decide) w') ?_
      have eq : ((2 : Int) * ((body (mOf bb).ps : Nat) : Int)).tdiv 498 = ((2 * body (mOf bb).ps / 498 : Nat) : Int) := by rw [Int.tdiv_eq_ediv_of_nonneg (by omega)]; omega
      rw [eq, w64 (by omega) (by omega), XP_add, w64 (by omega) (by omega)]
      refine Shelves_spec hin (ht.ext ht3) (by omega) ?_
      intro a cc W4 hx4
      rw [XP_len_43, XP_leq, decide_eq_true (by omega)]
      exact hK' W4 (ht3.trans hx4)
    obtain ⟨vb, fb, s1, w1, s2, w2, hv, hc, c, at_, hin, hat⟩ := hMd
    (repeat (simp only [SLB, Int.reduceEq, Int.reduceNe, Int.reduceLT, Int.reduceLE, Int.reduceGT, Int.reduceGE]))
    by_cases hH : (mOf bb).H = []
    · rw [hH] at hin
      refine StSeal_none hin ?_
      (repeat (simp only [SLB, Int.reduceEq, Int.reduceNe, Int.reduceLT, Int.reduceLE, Int.reduceGT, Int.reduceGE]))
      exact fin wd hxd hin hroom (by omega) _ (fun W4 h4 => hK W4 h4)
    · have hatS := hat hH
      rw [hatS] at hin
      refine StSeal_spec hin hH (ok.chk hM.keys _ (by simp)) (ok.fit _ (by simp)) (by omega) (by omega) ?_
      intro W3 τ3 c3 st3 hin3
      (repeat (simp only [SLB, Int.reduceEq, Int.reduceNe, Int.reduceLT, Int.reduceLE, Int.reduceGT, Int.reduceGE]))
      exact fin W3 (Ext.seq hxd st3.keep (fun g hg => Nat.le_of_not_lt (fun h => hg.1 (hz g h)))) hin3 hroom (by omega) _ (fun W4 h4 => hK W4 h4)
end
end Go.Proofs.YtcigpjejbkngfaaGreatDoor
end
