/- Part 15 of what the law is proved with. -/
import Derived.Test.YtcigpjejbkngfaaGreatDoorQTR14
set_option linter.unusedVariables false
set_option linter.unusedSimpArgs false
section
set_option maxRecDepth 8000
namespace Go.Proofs.YtcigpjejbkngfaaGreatDoor
open Go Go.Sh Go.RowKit
attribute [local irreducible] X XU XP XR CALL loopS resC closS
structure StM (w : World) (τ : Nat → Nat) (sb n : Nat) (m : Sm) : Prop where
  ex : ∃ (vb fb s1 w1 s2 w2 : Nat) (hv : Value) (hc : List Pc) (c : Nat → List UInt8) (at_ : Int), StIn w τ sb n m.S m.H m.R m.took m.S.length (heldSize m.H) at_ vb fb s1 w1 s2 w2 hv hc c ∧ (m.H ≠ [] → at_ = (m.S.length : Int))
theorem StM.ext {w W : World} {τ : Nat → Nat} {sb n : Nat} {m : Sm} (h : StM w τ sb n m) (k : Ext w W) : StM W τ sb n m := by
  obtain ⟨vb, fb, s1, w1, s2, w2, hv, hc, c, at_, h1, h2⟩ := h
  exact ⟨vb, fb, s1, w1, s2, w2, hv, hc, c, at_, h1.ext k, h2⟩
theorem StM.lt {w : World} {τ : Nat → Nat} {sb n : Nat} {m : Sm} (h : StM w τ sb n m) : ∀ g, τ g ≠ 0 → g < w.heap.size := by
  obtain ⟨vb, fb, s1, w1, s2, w2, hv, hc, c, at_, h1, h2⟩ := h
  exact h1.lt
theorem StM.keys {w : World} {τ : Nat → Nat} {sb n : Nat} {m : Sm} (h : StM w τ sb n m) : (m.ps.map Pp.k).Nodup := by
  obtain ⟨vb, fb, s1, w1, s2, w2, hv, hc, c, at_, h1, h2⟩ := h
  rw [← m.keys]
  exact h1.fnd.nodup
theorem R_seal (S : List (List Pp)) (H : List Pp) : (⟨S ++ [H], []⟩ : Sm).R = (⟨S, H⟩ : Sm).R := by
  show exsAll 0 ((S ++ [H]) ++ [[]]) = exsAll 0 (S ++ [H])
  rw [exsAll_append _ (S ++ [H])]
  simp [exsAll, exsC]
theorem R_put (S : List (List Pp)) (H : List Pp) (p : Pp) : (⟨S, H ++ [p]⟩ : Sm).R = (⟨S, H⟩ : Sm).R ++ [mkR p.k S.length H.length] := by
  show exsAll 0 (S ++ [H ++ [p]]) = exsAll 0 (S ++ [H]) ++ _
  rw [exsAll_append, exsAll_append, List.append_assoc]
  congr 1
  show exsC (0 + S.length) 0 (H ++ [p]) ++ [] = (exsC (0 + S.length) 0 H ++ []) ++ _
  rw [exsC_append, List.append_nil, List.append_nil, Nat.zero_add, Nat.zero_add]
theorem pc_load {w : World} {q : Nat} {x : Pc} {fr : Nat × Nat} (h : w.heap[q]? = some (.cells x.cs.toArray 40 fr)) : (Instr.loadAt 40 (ptr q)).run Tryz.prog w = .ok (.agg x.cs.toArray) w :=
  load_cells Tryz.underlying40 agg_40 info_40 (l := x.cs) (by rw [sz_40, Pc.len]) (fun j u hj => by rw [add_plain, Nat.zero_add, cell_blk h]; rw [← List.getElem?_toArray] at hj; exact hj)
theorem run_build_104p (a b : Int) (w : World) : (Instr.build 104 #[(0, .int .i64 a), (1, .int .i64 b)]).run Tryz.prog w = .ok (plV (a, b)) w := by kernel_rfl
theorem X_append1 {w : World} {K : Value → World → Prop} {v y : Value} {cs : List Pc} {x : Pc} (ho : OwnK 34 40 Pc.cs w 0 v cs) (hy : RowK 34 Pc.cs w y [x]) (hx : x.In w) (hb : cs.length ≤ 1000)
    (h : ∀ v' w1, OwnK 34 40 Pc.cs w1 0 v' (cs ++ [x]) → Keep (fun q => some q = v.ownBlock) w w1 → (∀ g, v'.ownBlock = some g → v.ownBlock = some g ∨ w.heap.size ≤ g) → K v' w1) : X Tryz.prog (Builtin.append_ #[41, 41] 41 #[v, y]) w K := by
  obtain ⟨a, c, rfl, h3⟩ := hy.cells (by decide) Pc.len
  obtain ⟨ad, rfl, hc⟩ := h3 (by simp)
  have hone : ∀ u ∈ cellsK Pc.cs [x], u.oneCell' = true := by
    intro u hu
    unfold cellsK at hu
    obtain ⟨s, hs, hu⟩ := List.mem_flatten.1 hu
    obtain ⟨z, hz, rfl⟩ := List.mem_map.1 hs
    rw [List.mem_singleton.1 hz] at hu
    exact Pc.one hx u hu
  refine X_appendW (base := 0) (m := 1) Tryz.underlying41 el_40 (by decide) ho (news := cellsK Pc.cs [x]) (cellsK_len Pc.len _) hc hone (by omega) (by decide) (Nat.zero_le _) (fun v' w1 o k b => h v' w1 ?_ k b)
  unfold OwnK
  rw [List.length_append, cellsK_append]
  exact o
theorem CSize_nil {w : World} {K : Value → World → Prop} (hK : ∀ w1, Ext w w1 → K (i64v 10) w1) : CALL Tryz.prog 7 #[.slice none 0 0] w K :=
  Size_pieces (l := []) ⟨none, 0, rfl, Nat.le_refl _, by decide, fun h => absurd h (by simp)⟩ (by simp) (by simp [totB]) hK
section
variable {w : World} {K : Value → World → Prop} {τ : Nat → Nat} {sb n : Nat}
theorem Size_one {v : Value} {x : Pc} (hl : RowK 34 Pc.cs w v [x]) (hin : x.In w) (hb : x.p.bs.length ≤ 100000) (hK : ∀ w1, Ext w w1 → K (i64v ((48 + x.p.bs.length : Nat) : Int)) w1) : CALL Tryz.prog 7 #[v] w K := by
  refine Size_pieces (l := [x]) hl (by intro c hc; rw [List.mem_singleton.1 hc]; exact hin) (by simp [totB]; omega) ?_
  intro w1 hx1
  have e : sizeP (pl [x]) = 48 + x.p.bs.length := by
    show sizeP [x.p] = _
    rw [size_body, body_one]
    omega
  rw [e]
  exact hK w1 hx1
set_option maxHeartbeats 2000000 in
theorem hold_spec {m : Sm} {x : Pc} (h : StM w τ sb n m) (ok : m.Ok) (hx : x.In w) (hxb : ∀ g, x.dv.ownBlock = some g → τ g = 6) (hbl : x.p.bs.length ≤ 460) (hk : x.p.k ∉ m.ps.map Pp.k) (hnum : ∀ y ∈ numsP m.ps x.p.k.sum, y < x.p.k.num) (hn : m.took < n) (hps : m.ps.length ≤ 1000) (hS : m.S.length ≤ 1000)
    (hK : ∀ W τ', Stp w τ W τ' → StM W τ' sb n (m.hold x.p) → K (i64v 0) W) : CALL Tryz.prog 22 #[ptr sb, .agg x.cs.toArray] w K := by
  have e0 : decide ((0 : Int) ≠ 0) = false := rfl
  have hnd := h.keys
  obtain ⟨vb, fb, s1, w1, s2, w2, hv, hc, c, at_, h, hat⟩ := h
  apply call_store_Store_hold
  unfold B_store_Store_hold
  refine X_box ?_
  have hx1 := newB_ext w (Value.agg x.cs.toArray).cells 40
  have hg1 : (newB w (Value.agg x.cs.toArray).cells 40).heap[w.heap.size]? = some (.cells x.cs.toArray 40 (0, 0)) := newB_get _ _ _
  generalize newB w (Value.agg x.cs.toArray).cells 40 = wa at hx1 hg1 ⊢
  generalize hqb : w.heap.size = qb at hg1
  refine X_of (pc_load hg1) ?_
  refine X_buildSliceK Tryz.underlying41 el_40 (by decide) (by decide) (Pc.len _) ?_
  have hx2 := newB_ext wa x.cs.toArray 40
  have hrow2 : RowK 34 Pc.cs (newB wa x.cs.toArray 40) (.slice (some ⟨wa.heap.size, 0, none⟩) 1 1) [x] := by
    refine RowK.ofK (T := 40) (fr := (0, 0)) (by decide) Pc.len ?_ rfl (by decide)
    rw [newB_get]
    unfold cellsK
    simp
  generalize newB wa x.cs.toArray 40 = wb at hx2 hrow2 ⊢
  have hx02 := hx1.trans hx2
  refine Size_one hrow2 (hx.ext hx02) (by omega) ?_
  intro wc hx3
  have hx03 := hx02.trans hx3
  have hg3 := Ext.get hx3 (Ext.get hx2 hg1)
  have hc3 := h.ext hx03
  have hxc := hx.ext hx03
  have hq0 : τ qb = 0 := by
    by_cases h0 : τ qb = 0
    · exact h0
    · have := h.lt _ h0; omega
  refine joinS_of (fun ρ W => ∃ (m1 : Sm) (τ' : Nat → Nat) (hv' : Value) (hc' : List Pc) (c' : Nat → List UInt8) (at' : Int), Stp w τ W τ' ∧ StIn W τ' sb n m1.S m1.H m1.R m1.took m1.S.length (heldSize m1.H) at' vb fb s1 w1 s2 w2 hv' hc' c' ∧ (m1.H ≠ [] → at' = (m1.S.length : Int)) ∧
      m.hold x.p = ⟨m1.S, m1.H ++ [x.p]⟩ ∧ m1.R = m.R ∧ (m1.H = [] → m1.S.length < n) ∧ x.In W ∧ W.heap[qb]? = some (.cells x.cs.toArray 40 (0, 0)) ∧ ρ 0 = ptr sb ∧ ρ 3 = ptr qb ∧ ρ 6 = i64v ((sizeP (m1.H ++ [x.p]) : Nat) : Int) ∧ τ' qb = 0) ?_ ?_
  case refine_2 =>
    intro J1 hJ1
    obtain ⟨ha, hcc, e⟩ := held_sl hc3
    have eone : sizeP [x.p] = 48 + x.p.bs.length := by rw [size_body, body_one]; omega
    (repeat (simp only [SLB, Int.reduceEq, Int.reduceNe, Int.reduceLT, Int.reduceLE, Int.reduceGT, Int.reduceGE, X_field_71_4]))
    refine X_of (run_loadAt (v := hv) agg_41 ((cell_blk hc3.cell).trans rfl)) ?_
    rw [e, X_len_41, X_gtr]
    by_cases hH : m.H = []
    · have e1 : decide ((m.H.length : Int) > 0) = false := by rw [hH]; rfl
      rw [e1]
      (repeat (simp only [SLB, Int.reduceEq, Int.reduceNe, Int.reduceLT, Int.reduceLE, Int.reduceGT, Int.reduceGE]))
      have hho : m.hold x.p = ⟨m.S, m.H ++ [x.p]⟩ := if_neg (fun hh => hh.1 hH)
      have htk : m.took = m.S.length := if_pos hH
      exact hJ1 _ _ ⟨m, τ, hv, hc, c, at_, Stp.ext hx03, hc3, hat, hho, rfl, fun _ => by omega, hxc, hg3, rfl, rfl, by rw [hH, List.nil_append, eone]; rfl, hq0⟩
    have hHl := List.length_pos_iff.2 hH
    have e1 : decide ((m.H.length : Int) > 0) = true := decide_eq_true (by omega)
    rw [e1]
    (repeat (simp only [SLB, Int.reduceEq, Int.reduceNe, Int.reduceLT, Int.reduceLE, Int.reduceGT, Int.reduceGE]))
    have kd := Keep.drew (fun _ => False) wc
    refine ⟨Ext, Ext.frame, ?_⟩
    have hcd := hc3.ext kd
    have hx0d := hx03.trans kd
    have hgd := Ext.get kd hg3
    have hxd := hxc.ext kd
    generalize drewW wc = wd at kd hcd hx0d hgd hxd ⊢
    have hfit := ok.fit m.H (by simp)
    have hszH : heldSize m.H = ((sizeP m.H : Nat) : Int) := if_neg hH
    have esz : sizeP (m.H ++ [x.p]) = sizeP m.H + 38 + x.p.bs.length := by rw [size_body, size_body, body_append, body_one]; omega
    (repeat (simp only [SLB, Int.reduceEq, Int.reduceNe, Int.reduceLT, Int.reduceLE, Int.reduceGT, Int.reduceGE, XP_field_71_5]))
    refine XR_ok Ext.frame (fun w' kk => run_loadAt (v := .int .i64 (heldSize m.H)) agg_3 ((cell_blk (Ext.get kk hcd.cell)).trans rfl)) ?_
    rw [hszH, XP_add, w64 (by omega) (by omega)]
    refine CSize_nil ?_
    intro we hxe
    refine ⟨hxe, ?_⟩
    rw [XP_sub, w64 (by omega) (by omega)]
    have hce := hcd.ext hxe
    have hx0e := hx0d.trans hxe
    have hge := Ext.get hxe hgd
    have hxe' := hxd.ext hxe
    (repeat (simp only [SLB, Int.reduceEq, Int.reduceNe, Int.reduceLT, Int.reduceLE, Int.reduceGT, Int.reduceGE, X_field_71_4]))
    refine X_of (run_loadAt (v := hv) agg_41 ((cell_blk hce.cell).trans rfl)) ?_
    have h12 := ok.len m.H (by simp)
    have eg : decide ((m.H.length : Int) ≥ 1000) = false := decide_eq_false (by omega)
    rw [e, X_len_41]
    (repeat (simp only [SLB, Int.reduceEq, Int.reduceNe, Int.reduceLT, Int.reduceLE, Int.reduceGT, Int.reduceGE, eg]))
    refine limit_spec hce ?_
    have emore : ((sizeP m.H : Nat) : Int) + ((48 + x.p.bs.length : Nat) : Int) - 10 = ((sizeP (m.H ++ [x.p]) : Nat) : Int) := by rw [esz]; omega
    rw [emore]
    by_cases hbig : 508 < sizeP (m.H ++ [x.p])
    · have eb : decide (((sizeP (m.H ++ [x.p]) : Nat) : Int) > 508) = true := decide_eq_true (by omega)
      (repeat (simp only [SLB, Int.reduceEq, Int.reduceNe, Int.reduceLT, Int.reduceLE, Int.reduceGT, Int.reduceGE, eb]))
      have hatS := hat hH
      rw [hatS] at hce
      have htk : m.took = m.S.length + 1 := if_neg hH
      have hchk := ok.chk hnd m.H (by simp)
      refine StSeal_spec hce hH hchk hfit (by omega) hS ?_
      intro W τ' c' st hW
      (repeat (simp only [SLB, Int.reduceEq, Int.reduceNe, Int.reduceLT, Int.reduceLE, Int.reduceGT, Int.reduceGE, e0]))
      have hho : m.hold x.p = ⟨m.S ++ [m.H], [x.p]⟩ := if_pos ⟨hH, hbig⟩
      have hgW : W.heap[qb]? = some (.cells x.cs.toArray 40 (0, 0)) := st.keep.get (fun h0 => by have := h.lt _ h0.1; omega) hge
      have hqW : τ' qb = 0 := by rw [st.old qb (lt_of_blk hge)]; exact hq0
      have hxW : x.In W := In_keep hxe' st.keep (fun g hg hh => hh.2 (hxb g hg))
      have hR : (⟨m.S ++ [m.H], []⟩ : Sm).R = m.R := R_seal m.S m.H
      refine hJ1 _ _ ⟨⟨m.S ++ [m.H], []⟩, τ', .slice none 0 0, [], c', (m.S.length : Int), (Stp.ext hx0e).trans st, ?_, fun hh => absurd rfl hh, hho, hR, fun _ => by simp; omega, hxW, hgW, rfl, rfl, by show i64v ((48 + x.p.bs.length : Nat) : Int) = i64v ((sizeP ([] ++ [x.p]) : Nat) : Int); rw [List.nil_append, eone], hqW⟩
      show StIn W τ' sb n (m.S ++ [m.H]) [] (⟨m.S ++ [m.H], []⟩ : Sm).R (⟨m.S ++ [m.H], []⟩ : Sm).took (m.S ++ [m.H]).length 0 _ _ _ _ _ _ _ _ _ _
      have etk : (⟨m.S ++ [m.H], []⟩ : Sm).took = m.took := by
        rw [htk]
        show (m.S ++ [m.H]).length = _
        simp
      rw [hR, etk, List.length_append, List.length_singleton]
      exact hW
    · have eb : decide (((sizeP (m.H ++ [x.p]) : Nat) : Int) > 508) = false := decide_eq_false (by omega)
      (repeat (simp only [SLB, Int.reduceEq, Int.reduceNe, Int.reduceLT, Int.reduceLE, Int.reduceGT, Int.reduceGE, eb]))
      have hho : m.hold x.p = ⟨m.S, m.H ++ [x.p]⟩ := if_neg (fun hh => hbig hh.2)
      exact hJ1 _ _ ⟨m, τ, hv, hc, c, at_, Stp.ext hx0e, hce, hat, hho, rfl, fun hh => absurd hh hH, hxe', hge, rfl, rfl, rfl, hq0⟩
  rintro ρ W ⟨m1, τ1, hv1, hc1, c1, at1, st1, h1, hat1, hho, hR1, hn1, hx1', hgq1, r0, r3, r6, hq1⟩
  refine joinS_of (fun ρ W => ∃ (τ' : Nat → Nat) (hv' : Value) (hc' : List Pc) (c' : Nat → List UInt8), Stp w τ W τ' ∧ StIn W τ' sb n m1.S m1.H m1.R (m1.S.length + 1) m1.S.length (heldSize m1.H) (m1.S.length : Int) vb fb s1 w1 s2 w2 hv' hc' c' ∧
      x.In W ∧ W.heap[qb]? = some (.cells x.cs.toArray 40 (0, 0)) ∧ ρ 0 = ptr sb ∧ ρ 3 = ptr qb ∧ ρ 6 = i64v ((sizeP (m1.H ++ [x.p]) : Nat) : Int) ∧ τ' qb = 0) ?_ ?_
  case refine_2 =>
    intro J2 hJ2
    rw [r0]
    obtain ⟨ha, hcc, e⟩ := held_sl h1
    (repeat (simp only [SLB, Int.reduceEq, Int.reduceNe, Int.reduceLT, Int.reduceLE, Int.reduceGT, Int.reduceGE, X_field_71_4]))
    refine X_of (run_loadAt (v := hv1) agg_41 ((cell_blk h1.cell).trans rfl)) ?_
    rw [e, X_len_41]
    by_cases hH : m1.H = []
    · have e1 : decide ((m1.H.length : Int) = 0) = true := by rw [hH]; rfl
      (repeat (simp only [SLB, Int.reduceEq, Int.reduceNe, Int.reduceLT, Int.reduceLE, Int.reduceGT, Int.reduceGE, e1]))
      have htk : m1.took = m1.S.length := if_pos hH
      rw [htk] at h1
      refine StTake_spec h1 (hn1 hH) ?_
      intro W2 st2 h2
      (repeat (simp only [SLB, Int.reduceEq, Int.reduceNe, Int.reduceLT, Int.reduceLE, Int.reduceGT, Int.reduceGE, e0]))
      have hg2 := st2.keep.get (fun h0 => h0.1 hq1) hgq1
      have hx2' : x.In W2 := In_keep hx1' st2.keep (fun g hg hh => by
        have h6 := hxb g hg
        have h7 : τ1 g = 6 := by rw [st1.old g (h.lt g (by rw [h6]; decide))]; exact h6
        exact hh.2 h7)
      exact hJ2 _ _ ⟨τ1, hv1, hc1, c1, st1.trans st2, h2, hx2', hg2, r0, r3, r6, hq1⟩
    · have hHl := List.length_pos_iff.2 hH
      have e1 : decide ((m1.H.length : Int) = 0) = false := decide_eq_false (by omega)
      (repeat (simp only [SLB, Int.reduceEq, Int.reduceNe, Int.reduceLT, Int.reduceLE, Int.reduceGT, Int.reduceGE, e1]))
      have htk : m1.took = m1.S.length + 1 := if_neg hH
      rw [htk, hat1 hH] at h1
      exact hJ2 _ _ ⟨τ1, hv1, hc1, c1, st1, h1, hx1', hgq1, r0, r3, r6, hq1⟩
  rintro ρ W ⟨τ2, hv2, hc2, c2, st2, h2, hx2', hgq2, r0, r3, r6, hq2⟩
  rw [r0, r3, r6]
  have kd := Keep.drew (fun _ => False) W
  have h2d := h2.ext kd
  have st2d := st2.trans (Stp.ext kd)
  have hx2d := hx2'.ext kd
  have hg2d := Ext.get kd hgq2
  have hm1ps : m1.R.map Ex.k = m.ps.map Pp.k := by rw [hR1, m.keys]
  have hRlen : m1.R.length ≤ 1000 := by
    have := congrArg List.length hm1ps
    rw [List.length_map, List.length_map] at this
    omega
  have hm1S : m1.S.length ≤ 1001 := by
    have h1 := congrArg Sm.S hho
    unfold Sm.hold at h1
    split at h1
    · have h2 := congrArg List.length h1
      simp at h2
      omega
    · have h2 := congrArg List.length h1
      dsimp only at h2
      omega
  have hcl : hc2.length = m1.H.length := by rw [← h2.pls, List.length_map]
  have hHlen : m1.H.length ≤ 1000 := by
    have : m1.H.length ≤ m1.R.length := by
      show _ ≤ (exsAll 0 (m1.S ++ [m1.H])).length
      rw [exsAll_append, List.length_append]
      show _ ≤ _ + (exsC _ 0 m1.H ++ []).length
      rw [List.append_nil, exsC_len]
      omega
    omega
  refine ⟨Keep (τ2 · = 1), Keep.frame _, ?_⟩
  generalize drewW W = wd at kd h2d st2d hx2d hg2d ⊢
  obtain ⟨ha, hcc, e⟩ := held_sl h2d
  have hsb1 : ¬ τ2 sb = 1 := by rw [h2d.sb]; decide
  have hqb1 : ¬ τ2 qb = 1 := by rw [hq2]; decide
  (repeat (simp only [SLB, Int.reduceEq, Int.reduceNe, Int.reduceLT, Int.reduceLE, Int.reduceGT, Int.reduceGE, XP_field_71_1]))
  refine XR_ok (Keep.frame _) (fun w' kk => run_loadAt (v := ptr fb) agg_68 ((cell_blk (Keep.get kk hsb1 h2d.cell)).trans rfl)) ?_
  (repeat (simp only [SLB, Int.reduceEq, Int.reduceNe, Int.reduceLT, Int.reduceLE, Int.reduceGT, Int.reduceGE, XP_field_40_0]))
  refine XR_ok (Keep.frame _) (fun w' kk => piece_key (Keep.get kk hqb1 hg2d)) ?_
  (repeat (simp only [SLB, Int.reduceEq, Int.reduceNe, Int.reduceLT, Int.reduceLE, Int.reduceGT, Int.reduceGE, XP_field_71_6]))
  refine XR_ok (Keep.frame _) (fun w' kk => run_loadAt (v := .int .i64 ((m1.S.length : Nat) : Int)) agg_3 ((cell_blk (Keep.get kk hsb1 h2d.cell)).trans rfl)) ?_
  (repeat (simp only [SLB, Int.reduceEq, Int.reduceNe, Int.reduceLT, Int.reduceLE, Int.reduceGT, Int.reduceGE, XP_field_71_4]))
  refine XR_ok (Keep.frame _) (fun w' kk => run_loadAt (v := hv2) agg_41 ((cell_blk (Keep.get kk hsb1 h2d.cell)).trans rfl)) ?_
  rw [e, XP_len_41]
  refine XP_of (fun w' => run_build_104p _ _ w') ?_
  have eoff : (mkR x.p.k m1.S.length m1.H.length).off = (m1.S.length : Int) := bnd_id (by omega)
  have elen : (mkR x.p.k m1.S.length m1.H.length).len = (m1.H.length : Int) := bnd_id (by omega)
  have epl : plV (((m1.S.length : Nat) : Int), ((m1.H.length : Nat) : Int)) = plV ((mkR x.p.k m1.S.length m1.H.length).off, (mkR x.p.k m1.S.length m1.H.length).len) := by rw [eoff, elen]
  rw [epl]
  refine FPut_spec (e := mkR x.p.k m1.S.length m1.H.length) h2d.fnd (by omega) ⟨Ex.o1 _, Ex.o2 _⟩ ?_ ?_ ?_
  · rw [hm1ps]
    exact hk
  · rw [hR1, m.nums]
    exact hnum
  intro W3 k3 hf3
  refine ⟨k3, ?_⟩
  have h3 := h2d.find k3 hf3
  have st3 := st2d.trans (stp_tag (i := 1) (by decide) k3)
  have hx3' : x.In W3 := In_keep hx2d k3 (fun g hg hh => by
    have h6 := hxb g hg
    have h7 : τ2 g = 6 := by rw [st2.old g (h.lt g (by rw [h6]; decide))]; exact h6
    have hh' : τ2 g = 1 := hh
    omega)
  have hgq3 := Keep.get k3 hqb1 hg2d
  have hq3 : tag τ2 wd W3 1 qb = 0 := by rw [tag_old (lt_of_blk hg2d)]; exact hq2
  generalize tag τ2 wd W3 1 = τ3 at h3 st3 hq3
  have kd4 := Keep.drew (fun _ => False) W3
  have h4 := h3.ext kd4
  have st4 := st3.trans (Stp.ext kd4)
  have hx4' := hx3'.ext kd4
  have hgq4 := Ext.get kd4 hgq3
  refine ⟨Keep (fun g => some g = hv2.ownBlock), Keep.frame _, ?_⟩
  generalize drewW W3 = w4 at h4 st4 hx4' hgq4 ⊢
  have hsb5 : ¬ some sb = hv2.ownBlock := fun hh => by have := h4.hb sb hh.symm; rw [h4.sb] at this; omega
  have hqb5 : ¬ some qb = hv2.ownBlock := fun hh => by have := h4.hb qb hh.symm; rw [hq3] at this; omega
  (repeat (simp only [SLB, Int.reduceEq, Int.reduceNe, Int.reduceLT, Int.reduceLE, Int.reduceGT, Int.reduceGE, XP_field_71_4]))
  refine XR_ok (Keep.frame _) (fun w' kk => run_loadAt (v := hv2) agg_41 ((cell_blk (Keep.get kk hsb5 h4.cell)).trans rfl)) ?_
  refine XR_ok (Keep.frame _) (fun w' kk => pc_load (Keep.get kk hqb5 hgq4)) ?_
  refine X_buildSliceK Tryz.underlying41 el_40 (by decide) (by decide) (Pc.len _) ?_
  have hx5 := newB_ext w4 x.cs.toArray 40
  have hrow5 : RowK 34 Pc.cs (newB w4 x.cs.toArray 40) (.slice (some ⟨w4.heap.size, 0, none⟩) 1 1) [x] := by
    refine RowK.ofK (T := 40) (fr := (0, 0)) (by decide) Pc.len ?_ rfl (by decide)
    rw [newB_get]
    unfold cellsK
    simp
  generalize newB w4 x.cs.toArray 40 = w5 at hx5 hrow5 ⊢
  refine ⟨Keep.ext hx5, ?_⟩
  have h5 := h4.ext hx5
  have st5 := st4.trans (Stp.ext hx5)
  have hx5' := hx4'.ext hx5
  refine X_append1 h5.held hrow5 hx5' (by omega) ?_
  intro v6 w6 ho6 k6 hb6
  refine ⟨k6, ?_⟩
  have c6 := k6.get hsb5 h5.cell
  obtain ⟨a6, cc6, e6⟩ := (OwnK.rowK (by decide) Pc.len ho6).slice
  (repeat (simp only [SLB, Int.reduceEq, Int.reduceNe, Int.reduceLT, Int.reduceLE, Int.reduceGT, Int.reduceGE, XP_field_71_4]))
  refine XU_store info_41 sz_41 (by rw [e6]; rfl) c6 (by show 0 + 4 < 8; decide) (by show ¬ (0 ≤ 0 + 4 ∧ 0 + 4 < 0); omega) ?_
  have k7 := setAt_keep w6 sb (#[ptr vb, ptr fb, ptr s1, ptr s2, hv2, .int .i64 (heldSize m1.H), .int .i64 ((m1.S.length : Nat) : Int), .int .u32 ((m1.S.length : Nat) : Int)].setIfInBounds (0 + 4) v6) 71 (0, 0)
  have c7 : (setAt w6 sb (#[ptr vb, ptr fb, ptr s1, ptr s2, hv2, .int .i64 (heldSize m1.H), .int .i64 ((m1.S.length : Nat) : Int), .int .u32 ((m1.S.length : Nat) : Int)].setIfInBounds (0 + 4) v6) 71 (0, 0)).heap[sb]? = some (.cells #[ptr vb, ptr fb, ptr s1, ptr s2, v6, .int .i64 (heldSize m1.H), .int .i64 ((m1.S.length : Nat) : Int), .int .u32 ((m1.S.length : Nat) : Int)] 71 (0, 0)) := setAt_same (lt_of_blk c6)
  generalize setAt w6 sb (#[ptr vb, ptr fb, ptr s1, ptr s2, hv2, .int .i64 (heldSize m1.H), .int .i64 ((m1.S.length : Nat) : Int), .int .u32 ((m1.S.length : Nat) : Int)].setIfInBounds (0 + 4) v6) 71 (0, 0) = w7 at k7 c7 ⊢
  (repeat (simp only [SLB, Int.reduceEq, Int.reduceNe, Int.reduceLT, Int.reduceLE, Int.reduceGT, Int.reduceGE, X_field_71_5]))
  refine XU_store info_3 sz_3 rfl c7 (by show 0 + 5 < 8; decide) (by show ¬ (0 ≤ 0 + 5 ∧ 0 + 5 < 0); omega) ?_
  have k8 := setAt_keep w7 sb (#[ptr vb, ptr fb, ptr s1, ptr s2, v6, .int .i64 (heldSize m1.H), .int .i64 ((m1.S.length : Nat) : Int), .int .u32 ((m1.S.length : Nat) : Int)].setIfInBounds (0 + 5) (i64v ((sizeP (m1.H ++ [x.p]) : Nat) : Int))) 71 (0, 0)
  have c8 : (setAt w7 sb (#[ptr vb, ptr fb, ptr s1, ptr s2, v6, .int .i64 (heldSize m1.H), .int .i64 ((m1.S.length : Nat) : Int), .int .u32 ((m1.S.length : Nat) : Int)].setIfInBounds (0 + 5) (i64v ((sizeP (m1.H ++ [x.p]) : Nat) : Int))) 71 (0, 0)).heap[sb]? = some (.cells #[ptr vb, ptr fb, ptr s1, ptr s2, v6, i64v ((sizeP (m1.H ++ [x.p]) : Nat) : Int), .int .i64 ((m1.S.length : Nat) : Int), .int .u32 ((m1.S.length : Nat) : Int)] 71 (0, 0)) := setAt_same (lt_of_blk c7)
  generalize setAt w7 sb (#[ptr vb, ptr fb, ptr s1, ptr s2, v6, .int .i64 (heldSize m1.H), .int .i64 ((m1.S.length : Nat) : Int), .int .u32 ((m1.S.length : Nat) : Int)].setIfInBounds (0 + 5) (i64v ((sizeP (m1.H ++ [x.p]) : Nat) : Int))) 71 (0, 0) = w8 at k8 c8 ⊢
  have k78 := k7.trans k8
  have k58 : Keep (fun g => g = sb ∨ some g = hv2.ownBlock) w5 w8 := (k6.mono (fun g _ hg => .inr hg)).trans (k78.mono (fun g _ hg => .inl hg))
  have hb6s : ∀ g, v6.ownBlock = some g → g ≠ sb ∧ tag τ3 w5 w8 5 g = 5 := fun g hg => by
    have hgl : g < w6.heap.size := (ho6.lt g hg).2
    have hs78 := k78.size
    rcases hb6 g hg with hh | hh
    · have h5t := h5.hb g hh
      refine ⟨fun he => by rw [he, h5.sb] at h5t; omega, ?_⟩
      rw [tag_old (h5.lt g (by rw [h5t]; decide))]
      exact h5t
    · have := lt_of_blk h5.cell
      exact ⟨by omega, tag_new ⟨hh, by omega⟩⟩
  have hdat : ∀ y ∈ hc2 ++ [x], y.In w5 ∧ ∀ g, y.dv.ownBlock = some g → τ3 g = 6 := fun y hy => by
    rcases List.mem_append.1 hy with hy | hy
    · exact ⟨h5.data y hy, h5.db y hy⟩
    · rw [List.mem_singleton.1 hy]
      refine ⟨hx5', fun g hg => ?_⟩
      have h6 := hxb g hg
      rw [st3.old g (h.lt g (by rw [h6]; decide))]
      exact h6
  have h8 := h5.remake (τ' := tag τ3 w5 w8 5) (H' := m1.H ++ [x.p]) k58 (fun g _ hg => by
      rcases hg with hg | hg
      · exact .inl (by rw [hg]; exact h5.sb)
      · exact .inr (h5.hb g hg.symm)) (fun g hg => tag_old hg) (fun g hg => by
      by_cases hn' : w5.heap.size ≤ g ∧ g < w8.heap.size
      · exact hn'.2
      · rw [tag, if_neg hn'] at hg
        have := h5.lt g hg
        have := k58.size
        omega) c8 (ho6.keep k78 (fun g hg => (hb6s g hg).1)) (by have hpl := h5.pls; unfold pl at hpl ⊢; rw [List.map_append, hpl]; rfl) (fun g hg => (hb6s g hg).2)
      (fun y hy => In_keep (hdat y hy).1 k58 (fun g hg hh => by
        have h6 := (hdat y hy).2 g hg
        rcases hh with hh | hh
        · rw [hh, h5.sb] at h6; omega
        · rw [h5.hb g hh.symm] at h6; omega))
      (fun y hy g hg => by
        have h6 := (hdat y hy).2 g hg
        rw [tag_old (h5.lt g (by rw [h6]; decide))]
        exact h6)
  have st8 : Stp w5 τ3 w8 (tag τ3 w5 w8 5) := ⟨k58.mono (fun g _ hg => by
    rcases hg with hg | hg
    · rw [hg, h5.sb]; decide
    · rw [h5.hb g hg.symm]; decide), fun g hg => tag_old hg⟩
  refine hK w8 _ (st5.trans st8) ?_
  rw [hho]
  have ehs : heldSize (m1.H ++ [x.p]) = ((sizeP (m1.H ++ [x.p]) : Nat) : Int) := if_neg (by simp)
  have etk : (⟨m1.S, m1.H ++ [x.p]⟩ : Sm).took = m1.S.length + 1 := if_neg (by simp)
  refine ⟨vb, fb, s1, w1, s2, w2, v6, hc2 ++ [x], c2, _, ?_, fun _ => rfl⟩
  show StIn w8 _ sb n m1.S (m1.H ++ [x.p]) (⟨m1.S, m1.H ++ [x.p]⟩ : Sm).R (⟨m1.S, m1.H ++ [x.p]⟩ : Sm).took m1.S.length (heldSize (m1.H ++ [x.p])) _ _ _ _ _ _ _ _ _ _
  rw [ehs, etk, R_put]
  exact h8
end
end Go.Proofs.YtcigpjejbkngfaaGreatDoor
end
section
set_option maxRecDepth 8000
namespace Go.Proofs.YtcigpjejbkngfaaGreatDoor
open Go Go.Sh Go.RowKit
attribute [local irreducible] X XU XP XR CALL loopS resC closS
theorem StIn.data6 {w W : World} {τ : Nat → Nat} {sb n tk id vb fb s1 w1 s2 w2 : Nat} {S : List (List Pp)} {H : List Pp} {R : List Ex} {sz at_ : Int} {hv : Value} {hc : List Pc} {c : Nat → List UInt8}
    (h : StIn w τ sb n S H R tk id sz at_ vb fb s1 w1 s2 w2 hv hc c) (k : Ext w W) : StIn W (tag τ w W 6) sb n S H R tk id sz at_ vb fb s1 w1 s2 w2 hv hc c := by
  have hl : ∀ g, tag τ w W 6 g ≠ 0 → g < W.heap.size := fun g hg => by
    by_cases hn : w.heap.size ≤ g ∧ g < W.heap.size
    · exact hn.2
    · rw [tag, if_neg hn] at hg
      have := h.lt g hg
      have := k.size
      omega
  have ho : ∀ g i, i ≠ 0 → τ g = i → tag τ w W 6 g = i := fun g i hi hg => by rw [tag_old (h.lt g (by rw [hg]; exact hi))]; exact hg
  have hk := h.ext k
  exact {
    cell := hk.cell
    vau := hk.vau.grow (fun g hg => ho g 2 (by decide) hg) (fun g hg => hl g (by rw [hg]; decide))
    con := hk.con
    fnd := hk.fnd.grow (fun g hg => ho g 1 (by decide) hg) (fun g hg => hl g (by rw [hg]; decide))
    now := hk.now
    kept := hk.kept
    g1 := ho _ _ (by decide) h.g1
    g2 := ho _ _ (by decide) h.g2
    g3 := ho _ _ (by decide) h.g3
    g4 := ho _ _ (by decide) h.g4
    held := hk.held
    pls := h.pls
    hb := fun g hg => ho _ _ (by decide) (h.hb g hg)
    data := hk.data
    db := fun x hx g hg => ho _ _ (by decide) (h.db x hx g hg)
    sb := ho _ _ (by decide) h.sb
    lt := hl }
theorem StM.data6 {w W : World} {τ : Nat → Nat} {sb n : Nat} {m : Sm} (h : StM w τ sb n m) (k : Ext w W) : StM W (tag τ w W 6) sb n m := by
  obtain ⟨vb, fb, s1, w1, s2, w2, hv, hc, c, at_, h1, h2⟩ := h
  exact ⟨vb, fb, s1, w1, s2, w2, hv, hc, c, at_, h1.data6 k, h2⟩
theorem StM.keep {w W : World} {τ : Nat → Nat} {sb n : Nat} {m : Sm} {E : Nat → Prop} (h : StM w τ sb n m) (k : Keep E w W) (hd : ∀ g, τ g ≠ 0 → ¬ E g) : StM W τ sb n m := by
  obtain ⟨vb, fb, s1, w1, s2, w2, hv, hc, c, at_, h1, h2⟩ := h
  exact ⟨vb, fb, s1, w1, s2, w2, hv, hc, c, at_, h1.keep k hd, h2⟩
theorem StM.fresh {w : World} {τ : Nat → Nat} {sb n g : Nat} {m : Sm} (h : StM w τ sb n m) (hg : w.heap.size ≤ g) : τ g = 0 := by
  by_cases h0 : τ g = 0
  · exact h0
  · have := h.lt g h0; omega
theorem took_le {m : Sm} (ok : m.Ok) : m.took ≤ m.ps.length := by
  have h1 : ∀ S : List (List Pp), (∀ c ∈ S, c ≠ []) → S.length ≤ S.flatten.length := by
    intro S
    induction S with
    | nil => intro _; exact Nat.le_refl _
    | cons c S ih =>
      intro h
      have := ih (fun x hx => h x (by simp [hx]))
      have hc := List.length_pos_iff.2 (h c (by simp))
      rw [List.flatten_cons, List.length_append, List.length_cons]
      omega
  have h2 := h1 m.S ok.ne
  unfold Sm.took Sm.ps
  rw [List.length_append]
  split
  · omega
  · rename_i hH
    have := List.length_pos_iff.2 hH
    omega
theorem S_le {m : Sm} (ok : m.Ok) : m.S.length ≤ m.ps.length := by
  have := took_le ok
  unfold Sm.took at this
  split at this <;> omega
def newP (m : Sm) (b : List UInt8) : Pp := ⟨⟨digL b, (numsP m.ps (digL b)).length % 4294967296, digL_len b, Nat.mod_lt _ (by decide)⟩, b⟩
theorem nums_le (ps : List Pp) (d : List UInt8) : (numsP ps d).length ≤ ps.length := by
  unfold numsP
  rw [List.length_map]
  exact List.length_filter_le _ _
theorem newP_num {m : Sm} (b : List UInt8) (hl : m.ps.length ≤ 1000) : (newP m b).k.num = (numsP m.ps (digL b)).length := Nat.mod_eq_of_lt (by have := nums_le m.ps (digL b); omega)
theorem twin_at {m : Sm} (ok : m.Ok) {d : List UInt8} {i : Nat} (hi : i < (twinsOf m.R d).length) : ∃ p ∈ m.ps, (twinsOf m.R d)[i] = p.k ∧ p.k.sum = d ∧ p.k.num = i := by
  have ht := m.twins d
  have hl : (twinsOf m.R d).length = (m.ps.filter fun p => decide (p.k.sum = d)).length := by rw [ht, List.length_map]
  have hi2 : i < (m.ps.filter fun p => decide (p.k.sum = d)).length := by omega
  refine ⟨(m.ps.filter fun p => decide (p.k.sum = d))[i], (List.mem_filter.1 (List.getElem_mem hi2)).1, ?_, by simpa using (List.mem_filter.1 (List.getElem_mem hi2)).2, ?_⟩
  · simp only [ht, List.getElem_map]
  · have hn := ok.num d
    have h3 : (numsP m.ps d)[i]? = (List.range (numsP m.ps d).length)[i]? := congrArg (fun l => l[i]?) hn
    have hln : (numsP m.ps d).length = (m.ps.filter fun p => decide (p.k.sum = d)).length := by unfold numsP; rw [List.length_map]
    rw [List.getElem?_range (by omega)] at h3
    unfold numsP at h3
    rw [List.getElem?_map, List.getElem?_eq_getElem hi2] at h3
    exact Option.some.inj h3
theorem twin_all {m : Sm} {b : List UInt8} (ok : m.Ok) {q : Pp} (hq : q ∈ m.ps) (hb : q.bs = b) : ∃ i, ∃ hi : i < (twinsOf m.R (digL b)).length, (twinsOf m.R (digL b))[i] = q.k := by
  have hm : q.k ∈ twinsOf m.R (digL b) := by
    rw [m.twins]
    exact List.mem_map.2 ⟨q, List.mem_filter.2 ⟨hq, by simpa [hb] using ok.key q hq⟩, rfl⟩
  obtain ⟨i, hi, he⟩ := List.mem_iff_getElem.1 hm
  exact ⟨i, hi, he⟩
theorem key_inj {m : Sm} (hn : (m.ps.map Pp.k).Nodup) {p q : Pp} (hp : p ∈ m.ps) (hq : q ∈ m.ps) (h : p.k = q.k) : p = q := nodup_inj hn hp hq h
section
variable {w : World} {K : Value → World → Prop} {τ : Nat → Nat} {sb n : Nat}
theorem Equal_spec {u v : Value} {a b : List UInt8} (ha : Bts w u a) (hb : Bts w v b) (hK : K (.bool (decide (a = b))) w) : CALL Tryz.prog 21 #[u, v] w K := by
  apply call_bytes_Equal
  unfold B_bytes_Equal
  refine X_of (run_str Tryz.underlying28 Tryz.underlying5 Tryz.underlying9 ha) ?_
  refine X_of (run_str Tryz.underlying28 Tryz.underlying5 Tryz.underlying9 hb) ?_
  rw [X_eq_str]
  exact hK
theorem key_store {q : Nat} {cs : Array Value} {k : Ky} {Q : World → Prop} (h : w.heap[q]? = some (.cells cs 33 (0, 0))) (hc : cs.size = 33) (hQ : ∀ w1, Keep (· = q) w w1 → w1.heap.size = w.heap.size → w1.heap[q]? = some (.cells k.cs.toArray 33 (0, 0)) → Q w1) :
    XU Tryz.prog (Instr.storeAt 33 (ptr q) k.v) w Q := by
  refine XU_storeAgg info_33 h (by rw [sz_33, hc]) (by rw [sz_33, Ky.cs_len]) (Ky.one k) ?_
  exact hQ _ (setAt_keep _ _ _ _ _) setAt_size (setAt_same (lt_of_blk h))
theorem key_res {q : Nat} {k : Ky} {Q : Value → Prop} (h : w.heap[q]? = some (.cells k.cs.toArray 33 (0, 0))) (hQ : Q k.v) : resC Tryz.prog 33 (ptr q) w Q :=
  resC_agg Tryz.underlying33 agg_33 info_33 (l := k.cs) h (by rw [sz_33, Ky.cs_len]) hQ
theorem key_numAt {W : World} {q : Nat} {k : Ky} (h : W.heap[q]? = some (.cells k.cs.toArray 33 (0, 0))) : W.cell? ⟨q, 0 + 32, none⟩ = some (.int .u32 (k.num : Int)) := (cell_blk h).trans (by
  have := k.cs_num
  rw [List.getElem?_toArray, Nat.zero_add]
  simpa using this)
set_option maxHeartbeats 2000000 in
theorem StPut_spec {m : Sm} {v : Value} {b : List UInt8} {d : Nat} (h : StM w τ sb n m) (ok : m.Ok) (hv : Bts w v b) (hvb : ∀ g, v.ownBlock = some g → τ g = 0) (hb0 : b ≠ []) (hbl : b.length ≤ 460) (hd : d < 18446744073709551616) (hn : m.ps.length < n) (hps : m.ps.length ≤ 900)
    (hK1 : ∀ q ∈ m.ps, q.bs = b → ∀ W τ', Stp w τ W τ' → StM W τ' sb n m → K (.tuple #[q.k.v, .bool false, i64v 0]) W)
    (hK2 : b ∉ m.ps.map Pp.bs → ∀ W τ', Stp w τ W τ' → StM W τ' sb n (m.hold (newP m b)) → (m.hold (newP m b)).Ok → K (.tuple #[(newP m b).k.v, .bool true, i64v 0]) W) : CALL Tryz.prog 6 #[ptr sb, v, .int .u64 (d : Int)] w K := by
  have e0 : decide ((0 : Int) ≠ 0) = false := rfl
  obtain ⟨av, cv, ev⟩ := Bts.slice hv
  have hbp := List.length_pos_iff.2 hb0
  have htk := took_le ok
  have hSl := S_le ok
  apply call_store_Store_Put
  unfold B_store_Store_Put
  refine X_alloc zero_33 ?_
  have hx1 := newB_ext w (Value.agg (List.replicate 32 (Value.int .u8 0) ++ [Value.int .u32 0]).toArray).cells 33
  have hg1 : (newB w (Value.agg (List.replicate 32 (Value.int .u8 0) ++ [Value.int .u32 0]).toArray).cells 33).heap[w.heap.size]? = some (.cells nilKy.cs.toArray 33 (0, 0)) := by rw [nilKy_cs]; exact newB_get _ _ _
  show X _ _ (newB w (Value.agg (List.replicate 32 (Value.int .u8 0) ++ [Value.int .u32 0]).toArray).cells 33) _
  generalize newB w (Value.agg (List.replicate 32 (Value.int .u8 0) ++ [Value.int .u32 0]).toArray).cells 33 = wa at hx1 hg1 ⊢
  generalize hrb : w.heap.size = rb at hg1
  have ez : decide ((b.length : Int) = 0) = false := decide_eq_false (by omega)
  have el : decide ((b.length : Int) > 4096) = false := decide_eq_false (by omega)
  rw [ev]
  (repeat (simp only [SLB, Int.reduceEq, Int.reduceNe, Int.reduceLT, Int.reduceLE, Int.reduceGT, Int.reduceGE, ez, el]))
  refine X_of (run_build_40d b _) ?_
  obtain ⟨x0, hx0⟩ : ∃ x : Pc, x = ⟨⟨nilKy, b⟩, .slice av b.length cv⟩ := ⟨_, rfl⟩
  rw [← hx0]
  have hx0in : x0.In wa := by rw [hx0]; show Bts _ (Value.slice av b.length cv) b; rw [← ev]; exact hv.ext hx1
  have hx0b : x0.p.bs = b := by rw [hx0]
  refine X_buildSliceK Tryz.underlying41 el_40 (by decide) (by decide) (Pc.len _) ?_
  have hx2 := newB_ext wa x0.cs.toArray 40
  have hrow2 : RowK 34 Pc.cs (newB wa x0.cs.toArray 40) (.slice (some ⟨wa.heap.size, 0, none⟩) 1 1) [x0] := by
    refine RowK.ofK (T := 40) (fr := (0, 0)) (by decide) Pc.len ?_ rfl (by decide)
    rw [newB_get]
    unfold cellsK
    simp
  generalize newB wa x0.cs.toArray 40 = wb at hx2 hrow2 ⊢
  refine Size_one hrow2 (hx0in.ext hx2) (by rw [hx0b]; omega) ?_
  intro wc hx3
  have hx03 := (hx1.trans hx2).trans hx3
  have hg3 := Ext.get hx3 (Ext.get hx2 hg1)
  have hc := h.ext hx03
  rw [hx0b]
  (repeat (simp only [SLB, Int.reduceEq, Int.reduceNe, Int.reduceLT, Int.reduceLE, Int.reduceGT, Int.reduceGE]))
  obtain ⟨vb, fb, s1, w1, s2, w2, hv0, hc0, c0, at0, hin, hat⟩ := hc
  refine limit_spec hin ?_
  have es : decide (((48 + b.length : Nat) : Int) > 508) = false := decide_eq_false (by omega)
  (repeat (simp only [SLB, Int.reduceEq, Int.reduceNe, Int.reduceLT, Int.reduceLE, Int.reduceGT, Int.reduceGE, es]))
  refine X_buildSlice1 Tryz.underlying22 el_28 rfl ?_
  have hx4 := newB_ext wc #[Value.slice av b.length cv] 28
  have hg4 : (newB wc #[Value.slice av b.length cv] 28).heap[wc.heap.size]? = some (.cells #[v] 28 (0, 0)) := by rw [ev]; exact newB_get _ _ _
  generalize newB wc #[Value.slice av b.length cv] 28 = wd at hx4 hg4 ⊢
  have hx04 := hx03.trans hx4
  refine Dig_spec hg4 (hv.ext hx04) ?_
  intro we hx5
  have hx05 := hx04.trans hx5
  have hg5 := Ext.get hx5 (Ext.get hx4 hg3)
  refine X_of (run_build_33s (digL_len b) _) ?_
  refine X_alloc zero_33 ?_
  have hx6 := newB_ext we (Value.agg (List.replicate 32 (Value.int .u8 0) ++ [Value.int .u32 0]).toArray).cells 33
  have hg6 : (newB we (Value.agg (List.replicate 32 (Value.int .u8 0) ++ [Value.int .u32 0]).toArray).cells 33).heap[we.heap.size]? = some (.cells nilKy.cs.toArray 33 (0, 0)) := by rw [nilKy_cs]; exact newB_get _ _ _
  have hg61 := Ext.get hx6 hg5
  have hs6 := lt_of_blk hg6
  have hx06 := hx05.trans hx6
  generalize newB we (Value.agg (List.replicate 32 (Value.int .u8 0) ++ [Value.int .u32 0]).toArray).cells 33 = wf at hx6 hg6 hg61 hs6 hx06 ⊢
  have hkb0 : rb < we.heap.size := lt_of_blk hg5
  generalize hkb : we.heap.size = kb at hg6 hs6 hkb0
  refine key_store (k := ⟨digL b, 0, digL_len b, by decide⟩) hg6 (by rw [List.size_toArray, Ky.cs_len]) ?_
  intro wg k7 s7 hg7
  have hx07 : Ext w wg := Ext.seq hx06 k7 (fun g hg => by rw [hg, ← hkb]; exact hx05.size)
  have hg71 := k7.get (by omega) hg61
  have kd := Keep.drew (fun _ => False) wg
  have hx0h := hx07.trans kd
  have hgk8 := Ext.get kd hg7
  have hgr8 := Ext.get kd hg71
  refine ⟨Ext, Ext.frame, ?_⟩
  generalize drewW wg = wh at hx0h hgk8 hgr8 ⊢
  clear hin hat
  have h8 := h.ext hx0h
  have hkbn : τ kb = 0 := h.fresh (by rw [← hkb]; exact hx05.size)
  have hrbn : τ rb = 0 := h.fresh (by omega)
  obtain ⟨vb, fb, s1, w1, s2, w2, hv0, hc0, c0, at0, hin, hat⟩ := id h8
  (repeat (simp only [SLB, Int.reduceEq, Int.reduceNe, Int.reduceLT, Int.reduceLE, Int.reduceGT, Int.reduceGE, XP_field_71_1]))
  refine XR_ok Ext.frame (fun w' kk => run_loadAt (v := ptr fb) agg_68 ((cell_blk (Ext.get kk hin.cell)).trans rfl)) ?_
  (repeat (simp only [SLB, Int.reduceEq, Int.reduceNe, Int.reduceLT, Int.reduceLE, Int.reduceGT, Int.reduceGE, XP_field_33_0]))
  refine XR_ok Ext.frame (fun w' kk => load_cells Tryz.underlying30 agg_30 info_30 (l := B8 (digL b)) (by rw [sz_30]; simp [digL_len]) (fun j u hj => by
    rw [add_plain, Nat.zero_add, cell_blk (Ext.get kk hgk8), List.getElem?_toArray]
    show (B8 (digL b) ++ _)[j]? = _
    rw [List.getElem?_append_left (List.getElem?_eq_some_iff.1 hj).1]
    exact hj)) ?_
  have hRl : m.R.length ≤ 1000000 := by
    have := congrArg List.length m.keys
    rw [List.length_map, List.length_map] at this
    omega
  refine FTwins_spec hin.fnd (digL_len b) hRl ?_
  intro u wi hx9 ho9
  obtain ⟨au, cu, eu⟩ := (OwnK.rowK (by decide) Ky.cs_len ho9).slice
  have hx0i := hx0h.trans hx9
  have hgk9 := Ext.get hx9 hgk8
  have hgr9 := Ext.get hx9 hgr8
  have h9 := h8.ext hx9
  have hub : ∀ g, u.ownBlock = some g → kb < g ∧ rb < g ∧ τ g = 0 := fun g hg => by
    have := (ho9.lt g hg).1
    have hk := lt_of_blk hgk8
    exact ⟨by omega, by omega, h8.fresh this⟩
  rw [eu, XP_len_67, ← eu, ← ev]
  have htl : (twinsOf m.R (digL b)).length = (numsP m.ps (digL b)).length := by rw [m.twins]; unfold numsP; rw [List.length_map, List.length_map]
  have htn := nums_le m.ps (digL b)
  refine loopGR 1 (fun ρ W => ∃ (i : Nat) (τ' : Nat → Nat), i ≤ (twinsOf m.R (digL b)).length ∧ Stp w τ W τ' ∧ StM W τ' sb n m ∧ OwnK 33 33 Ky.cs W wh.heap.size u (twinsOf m.R (digL b)) ∧ (∀ g, u.ownBlock = some g → τ' g = 0) ∧ τ' kb = 0 ∧ τ' rb = 0 ∧
      (∃ k : Ky, k.sum = digL b ∧ k.num = i ∧ W.heap[kb]? = some (.cells k.cs.toArray 33 (0, 0))) ∧ W.heap[rb]? = some (.cells nilKy.cs.toArray 33 (0, 0)) ∧ (∀ j (hj : j < (twinsOf m.R (digL b)).length), j < i → ∀ q ∈ m.ps, q.k = (twinsOf m.R (digL b))[j] → q.bs ≠ b) ∧
      ρ 50 = .int .i64 (i : Int) ∧ ρ 49 = .int .i64 ((twinsOf m.R (digL b)).length : Int) ∧ ρ 48 = u ∧ ρ 9 = ptr kb ∧ ρ 6 = ptr rb ∧ ρ 0 = ptr sb ∧ ρ 1 = v ∧ ρ 2 = .int .u64 (d : Int))
    (fun ρ W => match ρ 50 with | .int _ s => ((twinsOf m.R (digL b)).length - s).toNat | _ => 0)
    (fun ρ W => ∃ (τ' : Nat → Nat), Stp w τ W τ' ∧ StM W τ' sb n m ∧ τ' kb = 0 ∧ τ' rb = 0 ∧ W.heap[kb]? = some (.cells (newP m b).k.cs.toArray 33 (0, 0)) ∧ W.heap[rb]? = some (.cells nilKy.cs.toArray 33 (0, 0)) ∧ b ∉ m.ps.map Pp.bs ∧ ρ 9 = ptr kb ∧ ρ 6 = ptr rb ∧ ρ 0 = ptr sb ∧ ρ 1 = v)
    (fun ρ W => ∃ (τ' : Nat → Nat), ∃ q ∈ m.ps, q.bs = b ∧ Stp w τ W τ' ∧ StM W τ' sb n m ∧ W.heap[rb]? = some (.cells q.k.cs.toArray 33 (0, 0)) ∧ ρ 6 = ptr rb ∧ ρ 7 = .bool false ∧ ρ 8 = i64v 0) ?_ ?_ ?_ ?_
  · exact ⟨0, τ, Nat.zero_le _, Stp.ext hx0i, h9, ho9, fun g hg => (hub g hg).2.2, hkbn, hrbn, ⟨_, rfl, rfl, hgk9⟩, hgr9, fun j _ hj => absurd hj (Nat.not_lt_zero _), rfl, rfl, rfl, rfl, rfl, rfl, rfl, rfl⟩
  · rintro J hJ hJR ρ W ⟨i, τ', hi, st, hW, ho, hu0, hk0, hr0, ⟨k, hks, hkn, hgk⟩, hgr, hno, r50, r49, r48, r9, r6, r0, r1, r2⟩
    rw [r50, r49, X_lss, condS_bool]
    by_cases hie : i = (twinsOf m.R (digL b)).length
    · rw [if_neg (by simp; omega)]
      have hkk : k = (newP m b).k := Ky.ext' hks (by rw [hkn, newP_num b (by omega), hie, htl])
      refine hJ _ _ ⟨τ', st, hW, hk0, hr0, by rw [← hkk]; exact hgk, hgr, fun hm => ?_, r9, r6, r0, r1⟩
      obtain ⟨q, hq, hqb⟩ := List.mem_map.1 hm
      obtain ⟨j, hj, hjk⟩ := twin_all ok hq hqb
      exact hno j hj (by omega) q hq hjk.symm hqb
    rw [if_pos (by simp; omega)]
    have hilt : i < (twinsOf m.R (digL b)).length := by omega
    obtain ⟨p, hp, hpk, hps', hpn⟩ := twin_at ok hilt
    rw [r48, r0, r2, r1, r9, r6]
    refine joinS_of (fun ρ' W' => ∃ (τ2 : Nat → Nat), Stp w τ W' τ2 ∧ StM W' τ2 sb n m ∧ OwnK 33 33 Ky.cs W' wh.heap.size u (twinsOf m.R (digL b)) ∧ (∀ g, u.ownBlock = some g → τ2 g = 0) ∧ τ2 kb = 0 ∧ τ2 rb = 0 ∧
      (∃ k : Ky, k.sum = digL b ∧ k.num = i + 1 ∧ W'.heap[kb]? = some (.cells k.cs.toArray 33 (0, 0))) ∧ W'.heap[rb]? = some (.cells nilKy.cs.toArray 33 (0, 0)) ∧ p.bs ≠ b ∧
      ρ' 50 = .int .i64 (i : Int) ∧ ρ' 49 = .int .i64 ((twinsOf m.R (digL b)).length : Int) ∧ ρ' 48 = u ∧ ρ' 9 = ptr kb ∧ ρ' 6 = ptr rb ∧ ρ' 0 = ptr sb ∧ ρ' 1 = v ∧ ρ' 2 = .int .u64 (d : Int)) ?_ ?_
    · rintro ρ' W' ⟨τ2, st2, hW2, ho2, hu2, hk2, hr2, hkk2, hgr2, hpb, s50, s49, s48, s9, s6, s0, s1, s2⟩
      rw [s50, X_add]
      show _ ∧ _
      refine ⟨⟨i + 1, τ2, by omega, st2, hW2, ho2, hu2, hk2, hr2, hkk2, hgr2, ?_, next64 (n := 100000) (by decide) (by omega), s49, s48, s9, s6, s0, s1, s2⟩, ?_⟩
      · intro j hj hj1 q hq hqk
        by_cases hji : j < i
        · exact hno j hj hji q hq hqk
        · have hje : j = i := by omega
          subst hje
          have : q = p := key_inj hW2.keys hq hp (hqk.trans hpk)
          rw [this]
          exact hpb
      · show (_ - IntKind.i64.wrap _).toNat < _
        rw [w64 (by omega) (by omega)]
        first | omega | (show _ < (_ : Int).toNat; omega)
    intro J2 hJ2
    obtain ⟨ad, hix, hcs⟩ := (OwnK.rowK (by decide) Ky.cs_len ho).at Tryz.underlying67 info_33 sz_33 (kd := .i64) i rfl hilt
    rw [hpk] at hcs
    refine X_of (hix _) ?_
    refine X_of (load_cells Tryz.underlying33 agg_33 info_33 (l := p.k.cs) (by rw [sz_33, Ky.cs_len]) hcs) ?_
    refine X_alloc zero_33 ?_
    have hxa := newB_ext W (Value.agg (List.replicate 32 (Value.int .u8 0) ++ [Value.int .u32 0]).toArray).cells 33
    have hga : (newB W (Value.agg (List.replicate 32 (Value.int .u8 0) ++ [Value.int .u32 0]).toArray).cells 33).heap[W.heap.size]? = some (.cells nilKy.cs.toArray 33 (0, 0)) := by rw [nilKy_cs]; exact newB_get _ _ _
    generalize newB W (Value.agg (List.replicate 32 (Value.int .u8 0) ++ [Value.int .u32 0]).toArray).cells 33 = W1 at hxa hga ⊢
    have hqW : W.heap.size < W1.heap.size := lt_of_blk hga
    generalize hqe : W.heap.size = q2 at hga hqW
    refine key_store (k := p.k) hga (by rw [List.size_toArray, Ky.cs_len]) ?_
    intro W2 k2 s2' hg2
    have hx02 : Ext W W2 := Ext.seq hxa k2 (fun g hg => by omega)
    refine X_of (key_load hg2) ?_
    have hW2 := hW.ext hx02
    obtain ⟨vb, fb, s1, w1, s2, w2, hv0, hc0, c0, at0, hin, hat⟩ := hW2
    refine read_spec hin ok hp hd (by omega) (by omega) hat ?_
    intro uu W3 τ3 st3 hin3 hbt3
    have hW3 : StM W3 τ3 sb n m := ⟨vb, fb, s1, w1, s2, w2, hv0, hc0, c0, at0, hin3, hat⟩
    have stW3 := (st.trans (Stp.ext hx02)).trans st3
    have hvW3 : Bts W3 v b := hv.keep stW3.keep (fun g hg hh => hh.1 (hvb g hg))
    have hq20 : τ' q2 = 0 := hW.fresh (by omega)
    have hgq3 := st3.keep.get (fun hh => hh.1 hq20) hg2
    have hgk3 := st3.keep.get (fun hh => hh.1 hk0) (Ext.get hx02 hgk)
    have hgr3 := st3.keep.get (fun hh => hh.1 hr0) (Ext.get hx02 hgr)
    have ho3 := (ho.ext hx02).keep st3.keep (fun g hg hh => hh.1 (hu0 g hg))
    have hsz2 := hx02.size
    have t0 : ∀ g, g < W2.heap.size → τ' g = 0 → τ3 g = 0 := fun g hg h0 => by rw [st3.old g hg]; exact h0
    have hkl := lt_of_blk hgk
    have hrl := lt_of_blk hgr
    (repeat (simp only [SLB, Int.reduceEq, Int.reduceNe, Int.reduceLT, Int.reduceLE, Int.reduceGT, Int.reduceGE, e0]))
    refine Equal_spec hbt3 hvW3 ?_
    by_cases hpb : p.bs = b
    · rw [decide_eq_true hpb]
      (repeat (simp only [SLB, Int.reduceEq, Int.reduceNe, Int.reduceLT, Int.reduceLE, Int.reduceGT, Int.reduceGE]))
      refine X_of (key_load hgq3) ?_
      refine key_store (k := p.k) hgr3 (by rw [List.size_toArray, Ky.cs_len]) ?_
      intro W4 k4 s4 hg4
      refine hJR _ _ ⟨τ3, p, hp, hpb, ⟨Keep.seq stW3.keep k4 (fun g hg hg' => by omega), stW3.old⟩, hW3.keep k4 (fun g hg hg' => hg (by rw [hg']; exact t0 rb (by omega) hr0)), hg4, r6, rfl, rfl⟩
    rw [decide_eq_false hpb]
    (repeat (simp only [SLB, Int.reduceEq, Int.reduceNe, Int.reduceLT, Int.reduceLE, Int.reduceGT, Int.reduceGE, X_field_33_1]))
    refine X_of (run_loadAt (v := .int .u32 (p.k.num : Int)) agg_31 (key_numAt hgq3)) ?_
    (repeat (simp only [SLB, Int.reduceEq, Int.reduceNe, Int.reduceLT, Int.reduceLE, Int.reduceGT, Int.reduceGE, X_field_33_1]))
    refine X_of (run_loadAt (v := .int .u32 (k.num : Int)) agg_31 (key_numAt hgk3)) ?_
    have eqn : decide ((p.k.num : Int) = (k.num : Int)) = true := decide_eq_true (by rw [hpn, hkn])
    (repeat (simp only [SLB, Int.reduceEq, Int.reduceNe, Int.reduceLT, Int.reduceLE, Int.reduceGT, Int.reduceGE, eqn, X_field_33_1]))
    refine X_of (run_loadAt (v := .int .u32 (k.num : Int)) agg_31 (key_numAt hgk3)) ?_
    have hklt := k.lt
    rw [X_add, wrap_u32, Int.emod_eq_of_lt (by omega) (by omega)]
    (repeat (simp only [SLB, Int.reduceEq, Int.reduceNe, Int.reduceLT, Int.reduceLE, Int.reduceGT, Int.reduceGE, X_field_33_1]))
    refine XU_store info_31 sz_31 rfl hgk3 (by rw [List.size_toArray, Ky.cs_len]; decide) (by show ¬ (0 ≤ 0 + 32 ∧ 0 + 32 < 0); omega) ?_
    have ek : k.cs.toArray.setIfInBounds (0 + 32) (.int .u32 ((k.num : Int) + 1)) = (Ky.cs ⟨digL b, i + 1, digL_len b, by omega⟩).toArray := by
      apply Array.ext'
      rw [Array.toList_setIfInBounds]
      show (B8 k.sum ++ [Value.int .u32 (k.num : Int)]).set (0 + 32) _ = B8 (digL b) ++ [Value.int .u32 ((i + 1 : Nat) : Int)]
      have h32 : (B8 k.sum).length = 32 := by simp [k.len]
      rw [List.set_append_right _ _ (by omega), h32, hks, hkn]
      rfl
    rw [ek]
    have k4 := setAt_keep W3 kb (Ky.cs ⟨digL b, i + 1, digL_len b, by omega⟩).toArray 33 (0, 0)
    have g4 := setAt_same (cs := (Ky.cs ⟨digL b, i + 1, digL_len b, by omega⟩).toArray) (T := 33) (fr := (0, 0)) (lt_of_blk hgk3)
    generalize setAt W3 kb (Ky.cs ⟨digL b, i + 1, digL_len b, by omega⟩).toArray 33 (0, 0) = W4 at k4 g4 ⊢
    refine hJ2 _ _ ⟨τ3, ⟨Keep.seq stW3.keep k4 (fun g hg hg' => by have := hx0h.size; have := hx05.size; omega), stW3.old⟩, hW3.keep k4 (fun g hg hg' => hg (by rw [hg']; exact t0 kb (by omega) hk0)), ho3.keep k4 (fun g hg hg' => by have := (hub g hg).1; omega),
      fun g hg => t0 g (by have := (ho.lt g hg).2; omega) (hu0 g hg), t0 kb (by omega) hk0, t0 rb (by omega) hr0, ⟨_, rfl, rfl, g4⟩, k4.get (by omega) hgr3, hpb, r50, r49, r48, r9, r6, r0, r1, r2⟩
  · rintro ρ W ⟨τ', st, hW, hk0, hr0, hgk, hgr, hnot, r9, r6, r0, r1⟩
    simp only [inBlockS_same, thenS_normal]
    rw [r9, r6, r0, r1]
    have kd := Keep.drew (fun _ => False) W
    have hWd := hW.ext kd
    have std := st.trans (Stp.ext kd)
    have hgkd := Ext.get kd hgk
    have hgrd := Ext.get kd hgr
    refine ⟨Keep (fun g => τ' g ≠ 0 ∧ τ' g ≠ 6), Keep.frame _, ?_⟩
    generalize drewW W = wd' at kd hWd std hgkd hgrd ⊢
    refine XR_ok (Keep.frame _) (fun w' kk => key_load (Keep.get kk (fun hh => hh.1 hk0) hgkd)) ?_
    have hvd : Bts wd' v b := hv.keep std.keep (fun g hg hh => hh.1 (hvb g hg))
    refine Clone_spec hvd (by omega) ?_
    intro v' W1 hx1' ho1
    refine ⟨Keep.ext hx1', ?_⟩
    obtain ⟨a1, c1, e1⟩ := own_sl ho1
    rw [e1]
    refine XP_of (fun w' => run_build_40b (newP m b).k b w') ?_
    rw [← e1]
    have hW1 := hWd.data6 hx1'
    have st1 : Stp wd' τ' W1 (tag τ' wd' W1 6) := ⟨Keep.ext hx1', fun g hg => tag_old hg⟩
    have hF : ∀ q ∈ m.ps, q.k.sum = digL b → q.k.num < (numsP m.ps (digL b)).length := fun q hq hs => by
      have hm : q.k.num ∈ numsP m.ps (digL b) := List.mem_map.2 ⟨q, List.mem_filter.2 ⟨hq, by simpa using hs⟩, rfl⟩
      rw [ok.num (digL b)] at hm
      exact List.mem_range.1 hm
    have hnn := newP_num (m := m) b (by omega)
    refine hold_spec (x := ⟨newP m b, v'⟩) hW1 ok (own_bts ho1).1 (fun g hg => tag_new (ho1.lt g hg)) hbl ?_ ?_ (by omega) (by omega) (by omega) ?_
    · intro hm
      obtain ⟨q, hq, hqk⟩ := List.mem_map.1 hm
      have h1 := hF q hq (by rw [hqk]; rfl)
      rw [hqk] at h1
      have h2 : (newP m b).k.num < (numsP m.ps (digL b)).length := h1
      omega
    · intro y hy
      show y < (newP m b).k.num
      have hy' : y ∈ numsP m.ps (digL b) := hy
      rw [ok.num (digL b)] at hy'
      have := List.mem_range.1 hy'
      omega
    intro W2 τ2 st2 hW2
    refine ⟨st2.keep.mono (fun g hg hh => by
      by_cases hgl : g < wd'.heap.size
      · rw [tag_old hgl] at hh; exact hh
      · rw [tag_new ⟨by omega, hg⟩] at hh
        exact absurd rfl hh.2), ?_⟩
    (repeat (simp only [SLB, Int.reduceEq, Int.reduceNe, Int.reduceLT, Int.reduceLE, Int.reduceGT, Int.reduceGE, e0]))
    have hkl := lt_of_blk hgkd
    have hrl := lt_of_blk hgrd
    have hg2 : ∀ {g : Nat} {o : Obj}, g < wd'.heap.size → τ' g = 0 → wd'.heap[g]? = some o → W2.heap[g]? = some o := fun {g o} hgl h0 hg => st2.keep.get (fun hh => hh.1 (by rw [tag_old hgl]; exact h0)) (Ext.get hx1' hg)
    refine X_of (key_load (hg2 hkl hk0 hgkd)) ?_
    refine key_store (k := (newP m b).k) (hg2 hrl hr0 hgrd) (by rw [List.size_toArray, Ky.cs_len]) ?_
    intro W3 k3 s3 hg3
    refine key_res hg3 ?_
    have stt := (std.trans st1).trans st2
    have hr2 : τ2 rb = 0 := by rw [st2.old rb (by have := hx1'.size; omega), tag_old hrl]; exact hr0
    exact hK2 hnot W3 τ2 ⟨Keep.seq stt.keep k3 (fun g hg hg' => by omega), stt.old⟩ (hW2.keep k3 (fun g hg hg' => hg (by rw [hg']; exact hr2))) (ok.hold hb0 hbl rfl hnn hnot)
  · rintro ρ W ⟨τ', q, hq, hqb, st, hW, hgr, r6, r7, r8⟩
    show resC _ 33 (ρ 6) W (fun r => K (.tuple #[r, ρ 7, ρ 8]) W)
    rw [r6, r7, r8]
    exact key_res hgr (hK1 q hq hqb W τ' st hW)
end
end Go.Proofs.YtcigpjejbkngfaaGreatDoor
end
section
set_option maxRecDepth 8000
namespace Go.Proofs.YtcigpjejbkngfaaGreatDoor
open Go Go.Sh Go.RowKit
attribute [local irreducible] X XU XP XR CALL loopS resC closS
def Sm.nil : Sm := ⟨[], []⟩
theorem Sm.nil_ok : Sm.nil.Ok where
  ne := by intro c hc; cases hc
  fit := by
    intro c hc
    rcases List.mem_append.1 hc with hc | hc
    · cases hc
    · rw [List.mem_singleton.1 hc]
      show sizeP [] ≤ 508
      decide
  bs := by intro p hp; cases hp
  key := by intro p hp; cases hp
  num := by intro d; rfl
  dist := List.nodup_nil
  first := fun _ => rfl
  near := by
    intro i c c' h1 h2 h3
    have := (List.getElem?_eq_some_iff.1 h2).1
    simp [Sm.nil] at this
theorem run_build_71 (a b c d : Nat) (w : World) : (Instr.build 71 #[(0, ptr a), (1, ptr b), (2, ptr c), (3, ptr d)]).run Tryz.prog w = .ok (.agg #[ptr a, ptr b, ptr c, ptr d, .slice none 0 0, .int .i64 0, .int .i64 0, .int .u32 0]) w := by kernel_rfl
section
variable {w : World} {K : Value → World → Prop} {τ : Nat → Nat} {sb n : Nat}
theorem StNew_spec {vb base bits probes room : Nat} (hv : VauAt w (fun g => base ≤ g ∧ g < w.heap.size) vb n 0 (fun _ => [])) (h0 : 0 < n) (hn : n ≤ 4096) (hb : bits ≤ 1048576) (hp : probes ≤ 30) (hr : room ≤ 4096)
    (hK : ∀ sb W τ, Ext w W → (∀ g, τ g ≠ 0 → base ≤ g) → StM W τ sb n Sm.nil → K (.tuple #[ptr sb, i64v 0]) W) : CALL Tryz.prog 15 #[ptr vb, .agg #[.int .i64 (bits : Int), .int .i64 (probes : Int), .int .i64 (room : Int)]] w K := by
  have e0 : decide ((0 : Int) ≠ 0) = false := rfl
  have hbase : base ≤ w.heap.size := by have := hv.vb; omega
  apply call_store_New
  unfold B_store_New
  refine X_box ?_
  have hx1 := newB_ext w (Value.agg #[.int .i64 (bits : Int), .int .i64 (probes : Int), .int .i64 (room : Int)]).cells 63
  have hg1 : (newB w (Value.agg #[.int .i64 (bits : Int), .int .i64 (probes : Int), .int .i64 (room : Int)]).cells 63).heap[w.heap.size]? = some (.cells #[.int .i64 (bits : Int), .int .i64 (probes : Int), .int .i64 (room : Int)] 63 (0, 0)) := newB_get _ _ _
  generalize newB w (Value.agg #[.int .i64 (bits : Int), .int .i64 (probes : Int), .int .i64 (room : Int)]).cells 63 = wa at hx1 hg1 ⊢
  (repeat (simp only [SLB, Int.reduceEq, Int.reduceNe, Int.reduceLT, Int.reduceLE, Int.reduceGT, Int.reduceGE, X_field_63_0]))
  refine X_of (run_loadAt (v := .int .i64 (bits : Int)) agg_3 ((cell_blk hg1).trans rfl)) ?_
  (repeat (simp only [SLB, Int.reduceEq, Int.reduceNe, Int.reduceLT, Int.reduceLE, Int.reduceGT, Int.reduceGE, X_field_63_1]))
  refine X_of (run_loadAt (v := .int .i64 (probes : Int)) agg_3 ((cell_blk hg1).trans rfl)) ?_
  (repeat (simp only [SLB, Int.reduceEq, Int.reduceNe, Int.reduceLT, Int.reduceLE, Int.reduceGT, Int.reduceGE, X_field_63_2]))
  refine X_of (run_loadAt (v := .int .i64 (room : Int)) agg_3 ((cell_blk hg1).trans rfl)) ?_
  refine FNew_spec hb hp hr ?_
  intro fb wb hxb hf
  (repeat (simp only [SLB, Int.reduceEq, Int.reduceNe, Int.reduceLT, Int.reduceLE, Int.reduceGT, Int.reduceGE, e0]))
  have hv2 := (hv.ext hx1).ext hxb
  refine VauLen_spec hv2 ?_
  refine SpNew_spec h0 (by omega) ?_
  intro s1 w1 wc hxc hs1 hw1 hne1 hsp1
  (repeat (simp only [SLB, Int.reduceEq, Int.reduceNe, Int.reduceLT, Int.reduceLE, Int.reduceGT, Int.reduceGE, e0]))
  have hv3 := hv2.ext hxc
  refine VauLen_spec hv3 ?_
  refine SpNew_spec h0 (by omega) ?_
  intro s2 w2 wd hxd hs2 hw2 hne2 hsp2
  (repeat (simp only [SLB, Int.reduceEq, Int.reduceNe, Int.reduceLT, Int.reduceLE, Int.reduceGT, Int.reduceGE, e0]))
  refine X_of (run_build_71 _ _ _ _ _) ?_
  refine X_box ?_
  have hxe := newB_ext wd (Value.agg #[ptr vb, ptr fb, ptr s1, ptr s2, .slice none 0 0, .int .i64 0, .int .i64 0, .int .u32 0]).cells 71
  have hge : (newB wd (Value.agg #[ptr vb, ptr fb, ptr s1, ptr s2, .slice none 0 0, .int .i64 0, .int .i64 0, .int .u32 0]).cells 71).heap[wd.heap.size]? = some (.cells #[ptr vb, ptr fb, ptr s1, ptr s2, .slice none 0 0, .int .i64 0, .int .i64 0, .int .u32 0] 71 (0, 0)) := newB_get _ _ _
  generalize newB wd (Value.agg #[ptr vb, ptr fb, ptr s1, ptr s2, .slice none 0 0, .int .i64 0, .int .i64 0, .int .u32 0]).cells 71 = we at hxe hge ⊢
  have z1 := hx1.size
  have zb := hxb.size
  have zc := hxc.size
  have zd := hxd.size
  have ze := lt_of_blk hge
  have l1 := lt_of_blk hsp1.h
  have l2 := lt_of_blk hsp1.ws
  have l3 := lt_of_blk hsp2.h
  have l4 := lt_of_blk hsp2.ws
  obtain ⟨τ, hτ⟩ : ∃ τ : Nat → Nat, τ = fun g => if base ≤ g ∧ g < w.heap.size then 2 else if wa.heap.size ≤ g ∧ g < wb.heap.size then 1 else if g = s1 ∨ g = w1 then 3 else if g = s2 ∨ g = w2 then 4 else if g = wd.heap.size then 7 else 0 := ⟨_, rfl⟩
  have t2 : ∀ g, base ≤ g ∧ g < w.heap.size → τ g = 2 := fun g hg => by rw [hτ]; exact if_pos hg
  have t1 : ∀ g, wa.heap.size ≤ g ∧ g < wb.heap.size → τ g = 1 := fun g hg => by rw [hτ]; dsimp only; rw [if_neg (by omega), if_pos hg]
  have t3 : ∀ g, g = s1 ∨ g = w1 → τ g = 3 := fun g hg => by rw [hτ]; dsimp only; rw [if_neg (by omega), if_neg (by omega), if_pos hg]
  have t4 : ∀ g, g = s2 ∨ g = w2 → τ g = 4 := fun g hg => by rw [hτ]; dsimp only; rw [if_neg (by omega), if_neg (by omega), if_neg (by omega), if_pos hg]
  have t7 : τ wd.heap.size = 7 := by rw [hτ]; dsimp only; rw [if_neg (by omega), if_neg (by omega), if_neg (by omega), if_neg (by omega), if_pos rfl]
  have tl : ∀ g, τ g ≠ 0 → base ≤ g ∧ g < we.heap.size := fun g hg => by
    rw [hτ] at hg
    dsimp only at hg
    repeat' split at hg
    all_goals first | omega | exact absurd rfl hg
  have hxce := (hxc.trans hxd).trans hxe
  refine hK _ we τ ((((hx1.trans hxb).trans hxc).trans hxd).trans hxe) (fun g hg => (tl g hg).1) ⟨vb, fb, s1, w1, s2, w2, .slice none 0 0, [], fun _ => [], 0, ?_, fun hh => absurd rfl hh⟩
  exact {
    cell := hge
    vau := ((hv3.ext hxd).ext hxe).grow (fun g hg => t2 g hg) (fun g hg => (tl g (by rw [hg]; decide)).2)
    con := fun i hi => absurd hi (Nat.not_lt_zero _)
    fnd := (hf.ext hxce).grow (fun g hg => t1 g hg) (fun g hg => (tl g (by rw [hg]; decide)).2)
    now := (hsp1.ext hxd).ext hxe
    kept := hsp2.ext hxe
    g1 := t3 _ (.inl rfl)
    g2 := t3 _ (.inr rfl)
    g3 := t4 _ (.inl rfl)
    g4 := t4 _ (.inr rfl)
    held := ownK_nil _ _
    pls := rfl
    hb := fun g hg => by cases hg
    data := fun x hx => by cases hx
    db := fun x hx => by cases hx
    sb := t7
    lt := fun g hg => (tl g hg).2 }
theorem IndexF_spec {v : Value} {L : List Int} {f : Value} (hl : RowK 1 intC w v L) (hn : L.length ≤ 100000) (hf : ∀ a ∈ L, ∀ K' : Value → World → Prop, K' (.bool false) w → closS Tryz.prog f #[.int .i64 a] w K') (hK : K (.int .i64 (-1)) w) : CALL Tryz.prog 51 #[v, f] w K := by
  obtain ⟨a, c, ev⟩ := hl.slice
  apply call_slices_IndexFunc_int
  unfold B_slices_IndexFunc_int
  rw [ev, X_len_43, ← ev]
  refine loopGR 0 (fun ρ W => ∃ i : Nat, i ≤ L.length ∧ W = w ∧ ρ 8 = .int .i64 (i : Int) ∧ ρ 7 = .int .i64 (L.length : Int) ∧ ρ 0 = v ∧ ρ 1 = f)
    (fun ρ W => match ρ 8 with | .int _ s => (L.length - s).toNat | _ => 0) (fun ρ W => W = w) (fun ρ W => False) ?_ ?_ ?_ ?_
  · exact ⟨0, Nat.zero_le _, rfl, rfl, rfl, rfl, rfl⟩
  · rintro J hJ hJR ρ W ⟨i, hi, rfl, r8, r7, r0, r1⟩
    rw [r8, r7, r0, r1, X_lss, condS_bool]
    by_cases hie : i = L.length
    · rw [if_neg (by simp; omega)]
      exact hJ _ _ rfl
    rw [if_pos (by simp; omega)]
    obtain ⟨g, hix, hc, _⟩ := int_at hl (i := i) (by omega)
    refine X_of (hix _) ?_
    refine X_of (run_loadAt agg_3 hc) ?_
    refine hf _ (List.getElem_mem _) _ ?_
    (repeat (simp only [SLB, Int.reduceEq, Int.reduceNe, Int.reduceLT, Int.reduceLE, Int.reduceGT, Int.reduceGE]))
    rw [X_add]
    show _ ∧ _
    refine ⟨⟨i + 1, by omega, rfl, next64 (n := 100000) (by decide) (by omega), r7, r0, r1⟩, ?_⟩
    show (_ - IntKind.i64.wrap _).toNat < _
    rw [w64 (by omega) (by omega)]
    first | omega | (show _ < (_ : Int).toNat; omega)
  · rintro ρ W rfl
    exact hK
  · rintro ρ W hF
    exact hF.elim
theorem Shelves_spec {tk id vb fb s1 w1 s2 w2 : Nat} {S : List (List Pp)} {R : List Ex} {sz at_ : Int} {hv : Value} {hc : List Pc} {c : Nat → List UInt8}
    (h : StIn w τ sb n S [] R tk id sz at_ vb fb s1 w1 s2 w2 hv hc c) (ht : TabAt w) (htk : tk ≤ 100000) (hK : ∀ a cc W, Ext w W → K (.slice a tk cc) W) : CALL Tryz.prog 9 #[ptr sb] w K := by
  apply call_store_Store_Shelves
  unfold B_store_Store_Shelves
  (repeat (simp only [SLB, Int.reduceEq, Int.reduceNe, Int.reduceLT, Int.reduceLE, Int.reduceGT, Int.reduceGE, X_field_71_2]))
  refine X_of (run_loadAt (v := ptr s1) agg_69 ((cell_blk h.cell).trans rfl)) ?_
  refine All_spec h.now ht ?_
  intro v L W hx hL hrow
  refine X_of (v := .func (.func 28) #[ptr sb] #[]) (w1 := W) rfl ?_
  have hW := h.ext hx
  obtain ⟨a, cc, ev⟩ := hrow.slice
  apply call_slices_DeleteFunc_int
  unfold B_slices_DeleteFunc_int
  refine IndexF_spec hrow (by omega) ?_ ?_
  · intro x _ K' hK'
    refine closS_of ?_
    refine holds_spec hW ?_
    rw [decide_eq_false (fun hh => hh.1 rfl)]
    exact hK'
  · (repeat (simp only [SLB, Int.reduceEq, Int.reduceNe, Int.reduceLT, Int.reduceLE, Int.reduceGT, Int.reduceGE]))
    rw [ev, hL]
    exact hK _ _ _ hx
end
end Go.Proofs.YtcigpjejbkngfaaGreatDoor
end
section
namespace Go.Proofs.YtcigpjejbkngfaaGreatDoor
open Go Go.Sh
attribute [local irreducible] X XU XP XR CALL loopS resC closS
def B_chunk_All (x0 x1 : Value) (w : World) (K : Value → World → Prop) : Prop :=
  X Tryz.prog (Instr.box 50 x0) w fun v1 w1 =>
  X Tryz.prog (Instr.loadAt 50 v1) w1 fun v2 w2 =>
  CALL Tryz.prog 53 #[v2] w2 fun v3 w3 =>
  CALL Tryz.prog 54 #[v3, x1] w3 fun v4 w4 =>
  CALL Tryz.prog 55 #[v3] w4 fun v5 w5 =>
  X Tryz.prog (Builtin.append_ #[22, 22] 22 #[v4, v5]) w5 fun v6 w6 =>
  K v6 w6
theorem eq_chunk_All (x0 x1 : Value) (w : World) (K : Value → World → Prop) :
    sh Tryz.prog (Tryz.f29.body.getD .skip) (retS Tryz.prog Tryz.f29.results K) (env0 #[x0, x1]) w = B_chunk_All x0 x1 w K := by kernel_rfl
theorem call_chunk_All (x0 x1 : Value) (w : World) (K : Value → World → Prop) (h : B_chunk_All x0 x1 w K) : CALL Tryz.prog 29 #[x0, x1] w K :=
  call_of_eq (c := Tryz.f29.body.getD .skip) mixed Tryz.func29 (by kernel_rfl) (by kernel_rfl) (by kernel_rfl) (Nat.le_of_ble_eq_true (by kernel_rfl)) (eq_chunk_All x0 x1 w K) h
def B_chunk_New (x0 : Value) (w : World) (K : Value → World → Prop) : Prop :=
  X Tryz.prog (Instr.box 50 x0) w fun v1 w1 =>
  X Tryz.prog (Instr.loadAt 50 v1) w1 fun v2 w2 =>
  CALL Tryz.prog 79 #[v2] w2 fun v3 w3 =>
  X Tryz.prog (Op.unary .not v3) w3 fun v4 w4 =>
  condS v4 (
  K (.pointer none) w4) (
  X Tryz.prog (Instr.loadAt 50 v1) w4 fun v5 w5 =>
  X Tryz.prog (Instr.build 165 #[(0, v5)]) w5 fun v6 w6 =>
  X Tryz.prog (Instr.build 167 #[(0, v6)]) w6 fun v7 w7 =>
  X Tryz.prog (Instr.box 167 v7) w7 fun v8 w8 =>
  K v8 w8)
theorem eq_chunk_New (x0 : Value) (w : World) (K : Value → World → Prop) :
    sh Tryz.prog (Tryz.f53.body.getD .skip) (retS Tryz.prog Tryz.f53.results K) (env0 #[x0]) w = B_chunk_New x0 w K := by kernel_rfl
theorem call_chunk_New (x0 : Value) (w : World) (K : Value → World → Prop) (h : B_chunk_New x0 w K) : CALL Tryz.prog 53 #[x0] w K :=
  call_of_eq (c := Tryz.f53.body.getD .skip) mixed Tryz.func53 (by kernel_rfl) (by kernel_rfl) (by kernel_rfl) (Nat.le_of_ble_eq_true (by kernel_rfl)) (eq_chunk_New x0 w K) h
def B_chunk_Stream_Write (x0 x1 : Value) (w : World) (K : Value → World → Prop) : Prop :=
  X Tryz.prog (binOpG .eql 120 (.tmp 8) (.const (.pointer none)) x0 (.pointer none)) w fun v1 w1 =>
  condS v1 (
  K (.slice none 0 0) w1) (
  X Tryz.prog (nilS x0) w1 fun v2 w2 =>
  X Tryz.prog (Instr.fieldAt 167 v2 1) w2 fun v3 w3 =>
  X Tryz.prog (Instr.loadAt 28 v3) w3 fun v4 w4 =>
  CALL Tryz.prog 80 #[v4] w4 fun v5 w5 =>
  X Tryz.prog (Builtin.append_ #[28, 28] 28 #[v5, x1]) w5 fun v6 w6 =>
  loopS (fun Q1 ρ1 w7 =>
  X Tryz.prog (nilS (ρ1 0)) w7 fun v7 w8 =>
  X Tryz.prog (Instr.fieldAt 167 v7 0) w8 fun v8 w9 =>
  CALL Tryz.prog 81 #[v8, (ρ1 5)] w9 fun v9 w10 =>
  X Tryz.prog (binOpG .eql 3 (.tmp 22) (.const (.int .i64 0)) v9 (.int .i64 0)) w10 fun v10 w11 =>
  condS v10 (
  X Tryz.prog (nilS (ρ1 0)) w11 fun v11 w12 =>
  X Tryz.prog (Instr.fieldAt 167 v11 1) w12 fun v12 w13 =>
  XU Tryz.prog (Instr.storeAt 28 v12 (ρ1 5)) w13 fun w14 =>
  Q1 .ret (upds ρ1 [(4, (ρ1 6)), (28, (ρ1 6)), (27, v12), (26, v11), (25, (ρ1 5)), (24, (ρ1 0)), (23, v10), (22, v9), (7, v9), (21, v9), (20, (ρ1 5)), (19, v8), (18, v7), (17, (ρ1 0))]) w14) (
  X Tryz.prog (Instr.sliceAt 28 (ρ1 5) none (some v9) none) w11 fun v13 w15 =>
  CALL Tryz.prog 80 #[v13] w15 fun v14 w16 =>
  X Tryz.prog (Instr.buildSlice 22 1 #[(0, v14)]) w16 fun v15 w17 =>
  X Tryz.prog (Builtin.append_ #[22, 22] 22 #[(ρ1 6), v15]) w17 fun v16 w18 =>
  X Tryz.prog (Instr.sliceAt 28 (ρ1 5) (some v9) none none) w18 fun v17 w19 =>
  X Tryz.prog (nilS (ρ1 0)) w19 fun v18 w20 =>
  X Tryz.prog (Instr.fieldAt 167 v18 0) w20 fun v19 w21 =>
  X Tryz.prog (Instr.fieldAt 165 v19 0) w21 fun v20 w22 =>
  X Tryz.prog (Instr.loadAt 50 v20) w22 fun v21 w23 =>
  X Tryz.prog (Instr.build 165 #[(0, v21)]) w23 fun v22 w24 =>
  X Tryz.prog (nilS (ρ1 0)) w24 fun v23 w25 =>
  X Tryz.prog (Instr.fieldAt 167 v23 0) w25 fun v24 w26 =>
  XU Tryz.prog (Instr.storeAt 165 v24 v22) w26 fun w27 =>
  Q1 .normal (upds ρ1 [(47, v24), (46, v23), (45, v22), (44, v21), (43, v20), (42, v19), (41, v18), (40, (ρ1 0)), (39, (ρ1 0)), (5, v17), (38, v17), (37, v9), (36, (ρ1 5)), (6, v16), (35, v16), (34, v15), (33, v14), (32, v13), (31, v9), (30, (ρ1 5)), (29, (ρ1 6)), (23, v10), (22, v9), (7, v9), (21, v9), (20, (ρ1 5)), (19, v8), (18, v7), (17, (ρ1 0))]) w27)) (inBlockS 0 (retS Tryz.prog (Tryz.f54).results K)) (upds (env0 #[x0, x1]) [(6, (.slice none 0 0)), (5, v6), (16, v6), (15, x1), (14, v5), (13, v4), (12, v3), (11, v2), (10, x0), (9, v1), (8, x0), (4, (.slice none 0 0))]) w6)
theorem eq_chunk_Stream_Write (x0 x1 : Value) (w : World) (K : Value → World → Prop) :
    sh Tryz.prog (Tryz.f54.body.getD .skip) (retS Tryz.prog Tryz.f54.results K) (env0 #[x0, x1]) w = B_chunk_Stream_Write x0 x1 w K := by kernel_rfl
theorem call_chunk_Stream_Write (x0 x1 : Value) (w : World) (K : Value → World → Prop) (h : B_chunk_Stream_Write x0 x1 w K) : CALL Tryz.prog 54 #[x0, x1] w K :=
  call_of_eq (c := Tryz.f54.body.getD .skip) mixed Tryz.func54 (by kernel_rfl) (by kernel_rfl) (by kernel_rfl) (Nat.le_of_ble_eq_true (by kernel_rfl)) (eq_chunk_Stream_Write x0 x1 w K) h
def B_chunk_Stream_Close (x0 : Value) (w : World) (K : Value → World → Prop) : Prop :=
  X Tryz.prog (binOpG .eql 120 (.tmp 4) (.const (.pointer none)) x0 (.pointer none)) w fun v1 w1 =>
  gstep v1 false (fun w2 K => K x0 w2) w1 fun v2 w3 =>
  gstep v1 false (fun w4 K => X Tryz.prog (nilS v2) w4 K) w3 fun v3 w5 =>
  gstep v1 false (fun w6 K => X Tryz.prog (Instr.fieldAt 167 v3 1) w6 K) w5 fun v4 w7 =>
  gstep v1 false (fun w8 K => X Tryz.prog (Instr.loadAt 28 v4) w8 K) w7 fun v5 w9 =>
  gstep v1 false (fun w10 K => X Tryz.prog (Builtin.len_ #[28] 3 #[v5]) w10 K) w9 fun v6 w11 =>
  gstep v1 false (fun w12 K => X Tryz.prog (binOpG .eql 3 (.tmp 11) (.const (.int .i64 0)) v6 (.int .i64 0)) w12 K) w11 fun v7 w13 =>
  X Tryz.prog (pickS v1 (.bool true) v7) w13 fun v8 w14 =>
  condS v8 (
  K (.slice none 0 0) w14) (
  X Tryz.prog (nilS x0) w14 fun v9 w15 =>
  X Tryz.prog (Instr.fieldAt 167 v9 1) w15 fun v10 w16 =>
  X Tryz.prog (Instr.loadAt 28 v10) w16 fun v11 w17 =>
  CALL Tryz.prog 80 #[v11] w17 fun v12 w18 =>
  X Tryz.prog (Instr.buildSlice 22 1 #[(0, v12)]) w18 fun v13 w19 =>
  X Tryz.prog (nilS x0) w19 fun v14 w20 =>
  X Tryz.prog (Instr.fieldAt 167 v14 0) w20 fun v15 w21 =>
  X Tryz.prog (Instr.fieldAt 165 v15 0) w21 fun v16 w22 =>
  X Tryz.prog (Instr.loadAt 50 v16) w22 fun v17 w23 =>
  X Tryz.prog (Instr.build 165 #[(0, v17)]) w23 fun v18 w24 =>
  X Tryz.prog (nilS x0) w24 fun v19 w25 =>
  X Tryz.prog (Instr.fieldAt 167 v19 1) w25 fun v20 w26 =>
  XU Tryz.prog (Instr.storeAt 28 v20 (.slice none 0 0)) w26 fun w27 =>
  X Tryz.prog (nilS x0) w27 fun v21 w28 =>
  X Tryz.prog (Instr.fieldAt 167 v21 0) w28 fun v22 w29 =>
  XU Tryz.prog (Instr.storeAt 165 v22 v18) w29 fun w30 =>
  K v13 w30)
theorem eq_chunk_Stream_Close (x0 : Value) (w : World) (K : Value → World → Prop) :
    sh Tryz.prog (Tryz.f55.body.getD .skip) (retS Tryz.prog Tryz.f55.results K) (env0 #[x0]) w = B_chunk_Stream_Close x0 w K := by kernel_rfl
theorem call_chunk_Stream_Close (x0 : Value) (w : World) (K : Value → World → Prop) (h : B_chunk_Stream_Close x0 w K) : CALL Tryz.prog 55 #[x0] w K :=
  call_of_eq (c := Tryz.f55.body.getD .skip) mixed Tryz.func55 (by kernel_rfl) (by kernel_rfl) (by kernel_rfl) (Nat.le_of_ble_eq_true (by kernel_rfl)) (eq_chunk_Stream_Close x0 w K) h
def B_chunk_Right (x0 : Value) (w : World) (K : Value → World → Prop) : Prop :=
  X Tryz.prog (Instr.box 50 x0) w fun v1 w1 =>
  X Tryz.prog (Instr.fieldAt 50 v1 0) w1 fun v2 w2 =>
  X Tryz.prog (Instr.loadAt 3 v2) w2 fun v3 w3 =>
  X Tryz.prog (binOp .leq 3 (.int .i64 16) v3) w3 fun v4 w4 =>
  gstep v4 true (fun w5 K => X Tryz.prog (Instr.fieldAt 50 v1 0) w5 K) w4 fun v5 w6 =>
  gstep v4 true (fun w7 K => X Tryz.prog (Instr.loadAt 3 v5) w7 K) w6 fun v6 w8 =>
  gstep v4 true (fun w9 K => X Tryz.prog (Instr.fieldAt 50 v1 1) w9 K) w8 fun v7 w10 =>
  gstep v4 true (fun w11 K => X Tryz.prog (Instr.loadAt 3 v7) w11 K) w10 fun v8 w12 =>
  gstep v4 true (fun w13 K => X Tryz.prog (binOp .leq 3 v6 v8) w13 K) w12 fun v9 w14 =>
  X Tryz.prog (pickS v4 v9 (.bool false)) w14 fun v10 w15 =>
  gstep v10 true (fun w16 K => X Tryz.prog (Instr.fieldAt 50 v1 1) w16 K) w15 fun v11 w17 =>
  gstep v10 true (fun w18 K => X Tryz.prog (Instr.loadAt 3 v11) w18 K) w17 fun v12 w19 =>
  gstep v10 true (fun w20 K => X Tryz.prog (binOp .leq 3 v12 (.int .i64 4096)) w20 K) w19 fun v13 w21 =>
  X Tryz.prog (pickS v10 v13 (.bool false)) w21 fun v14 w22 =>
  gstep v14 true (fun w23 K => X Tryz.prog (Instr.fieldAt 50 v1 2) w23 K) w22 fun v15 w24 =>
  gstep v14 true (fun w25 K => X Tryz.prog (Instr.loadAt 31 v15) w25 K) w24 fun v16 w26 =>
  gstep v14 true (fun w27 K => X Tryz.prog (binOp .gtr 31 v16 (.int .u32 0)) w27 K) w26 fun v17 w28 =>
  X Tryz.prog (pickS v14 v17 (.bool false)) w28 fun v18 w29 =>
  gstep v18 true (fun w30 K => X Tryz.prog (Instr.fieldAt 50 v1 3) w30 K) w29 fun v19 w31 =>
  gstep v18 true (fun w32 K => X Tryz.prog (Instr.loadAt 31 v19) w32 K) w31 fun v20 w33 =>
  gstep v18 true (fun w34 K => X Tryz.prog (binOp .gtr 31 v20 (.int .u32 0)) w34 K) w33 fun v21 w35 =>
  X Tryz.prog (pickS v18 v21 (.bool false)) w35 fun v22 w36 =>
  K v22 w36
theorem eq_chunk_Right (x0 : Value) (w : World) (K : Value → World → Prop) :
    sh Tryz.prog (Tryz.f79.body.getD .skip) (retS Tryz.prog Tryz.f79.results K) (env0 #[x0]) w = B_chunk_Right x0 w K := by kernel_rfl
theorem call_chunk_Right (x0 : Value) (w : World) (K : Value → World → Prop) (h : B_chunk_Right x0 w K) : CALL Tryz.prog 79 #[x0] w K :=
  call_of_eq (c := Tryz.f79.body.getD .skip) mixed Tryz.func79 (by kernel_rfl) (by kernel_rfl) (by kernel_rfl) (Nat.le_of_ble_eq_true (by kernel_rfl)) (eq_chunk_Right x0 w K) h
def B_chunk_part (x0 : Value) (w : World) (K : Value → World → Prop) : Prop :=
  X Tryz.prog (Builtin.len_ #[28] 3 #[x0]) w fun v1 w1 =>
  X Tryz.prog (Instr.makeSlice 28 v1 v1) w1 fun v2 w2 =>
  X Tryz.prog (Builtin.copy_ #[28, 28] 3 #[v2, x0]) w2 fun v3 w3 =>
  K v2 w3
theorem eq_chunk_part (x0 : Value) (w : World) (K : Value → World → Prop) :
    sh Tryz.prog (Tryz.f80.body.getD .skip) (retS Tryz.prog Tryz.f80.results K) (env0 #[x0]) w = B_chunk_part x0 w K := by kernel_rfl
theorem call_chunk_part (x0 : Value) (w : World) (K : Value → World → Prop) (h : B_chunk_part x0 w K) : CALL Tryz.prog 80 #[x0] w K :=
  call_of_eq (c := Tryz.f80.body.getD .skip) mixed Tryz.func80 (by kernel_rfl) (by kernel_rfl) (by kernel_rfl) (Nat.le_of_ble_eq_true (by kernel_rfl)) (eq_chunk_part x0 w K) h
def B_chunk_scan_look (x0 x1 : Value) (w : World) (K : Value → World → Prop) : Prop :=
  loopS (fun Q1 ρ1 w1 =>
  ∃ R, Frame? R ∧
  XP Tryz.prog (nilS (ρ1 0)) (drewW w1) fun v1 w2 =>
  XP Tryz.prog (Instr.fieldAt 165 v1 2) w2 fun v2 w3 =>
  XR Tryz.prog R (Instr.loadAt 3 v2) w3 fun v3 w4 =>
  XP Tryz.prog (Builtin.len_ #[28] 3 #[(ρ1 1)]) w4 fun v4 w5 =>
  XP Tryz.prog (nilS (ρ1 0)) w5 fun v5 w6 =>
  XP Tryz.prog (Instr.fieldAt 165 v5 0) w6 fun v6 w7 =>
  XP Tryz.prog (Instr.fieldAt 50 v6 1) w7 fun v7 w8 =>
  XR Tryz.prog R (Instr.loadAt 3 v7) w8 fun v8 w9 =>
  XP Tryz.prog (Builtin.min_ #[3, 3] 3 #[v4, v8]) w9 fun v9 w10 =>
  XP Tryz.prog (binOp .lss 3 v3 v9) w10 fun v10 w11 =>
  condS v10 (
  X Tryz.prog (nilS (ρ1 0)) w11 fun v11 w12 =>
  X Tryz.prog (Instr.fieldAt 165 v11 2) w12 fun v12 w13 =>
  X Tryz.prog (Instr.loadAt 3 v12) w13 fun v13 w14 =>
  X Tryz.prog (binOp .add 3 v13 (.int .i64 1)) w14 fun v14 w15 =>
  joinS (fun ρ2 w16 =>
  X Tryz.prog (nilS (ρ2 0)) w16 fun v15 w17 =>
  X Tryz.prog (Instr.fieldAt 165 v15 2) w17 fun v16 w18 =>
  XU Tryz.prog (Instr.storeAt 3 v16 (ρ2 5)) w18 fun w19 =>
  ∃ R, Frame? R ∧
  XP Tryz.prog (nilS (ρ2 0)) (drewW w19) fun v17 w20 =>
  XP Tryz.prog (Instr.fieldAt 165 v17 1) w20 fun v18 w21 =>
  XR Tryz.prog R (Instr.loadAt 31 v18) w21 fun v19 w22 =>
  XP Tryz.prog (nilS (ρ2 0)) w22 fun v20 w23 =>
  XP Tryz.prog (Instr.fieldAt 165 v20 0) w23 fun v21 w24 =>
  XP Tryz.prog (Instr.fieldAt 50 v21 2) w24 fun v22 w25 =>
  XR Tryz.prog R (Instr.loadAt 31 v22) w25 fun v23 w26 =>
  XP Tryz.prog (binOp .rem 31 v19 v23) w26 fun v24 w27 =>
  XP Tryz.prog (nilS (ρ2 0)) w27 fun v25 w28 =>
  XP Tryz.prog (Instr.fieldAt 165 v25 0) w28 fun v26 w29 =>
  XP Tryz.prog (Instr.fieldAt 50 v26 2) w29 fun v27 w30 =>
  XR Tryz.prog R (Instr.loadAt 31 v27) w30 fun v28 w31 =>
  XP Tryz.prog (binOp .sub 31 v28 (.int .u32 1)) w31 fun v29 w32 =>
  XP Tryz.prog (binOpG .eql 31 (.tmp 91) (.tmp 97) v24 v29) w32 fun v30 w33 =>
  condS v30 (
  Q1 .ret (upds ρ2 [(4, (ρ2 5)), (99, (ρ2 5)), (98, v30), (97, v29), (96, v28), (95, v27), (94, v26), (93, v25), (92, (ρ2 0)), (91, v24), (90, v23), (89, v22), (88, v21), (87, v20), (86, (ρ2 0)), (85, v19), (84, v18), (83, v17), (82, (ρ2 0)), (81, v16), (80, v15), (79, (ρ2 5)), (78, (ρ2 0))]) w33) (
  ∃ R, Frame? R ∧
  XP Tryz.prog (nilS (ρ2 0)) (drewW w33) fun v31 w34 =>
  XP Tryz.prog (Instr.fieldAt 165 v31 1) w34 fun v32 w35 =>
  XR Tryz.prog R (Instr.loadAt 31 v32) w35 fun v33 w36 =>
  XP Tryz.prog (nilS (ρ2 0)) w36 fun v34 w37 =>
  XP Tryz.prog (Instr.fieldAt 165 v34 0) w37 fun v35 w38 =>
  XP Tryz.prog (Instr.fieldAt 50 v35 3) w38 fun v36 w39 =>
  XR Tryz.prog R (Instr.loadAt 31 v36) w39 fun v37 w40 =>
  XP Tryz.prog (binOp .rem 31 v33 v37) w40 fun v38 w41 =>
  XP Tryz.prog (nilS (ρ2 0)) w41 fun v39 w42 =>
  XP Tryz.prog (Instr.fieldAt 165 v39 0) w42 fun v40 w43 =>
  XP Tryz.prog (Instr.fieldAt 50 v40 3) w43 fun v41 w44 =>
  XR Tryz.prog R (Instr.loadAt 31 v41) w44 fun v42 w45 =>
  XP Tryz.prog (binOp .sub 31 v42 (.int .u32 1)) w45 fun v43 w46 =>
  XP Tryz.prog (binOpG .eql 31 (.tmp 109) (.tmp 115) v38 v43) w46 fun v44 w47 =>
  condS v44 (
  X Tryz.prog (nilS (ρ2 0)) w47 fun v45 w48 =>
  X Tryz.prog (Instr.fieldAt 165 v45 3) w48 fun v46 w49 =>
  XU Tryz.prog (Instr.storeAt 3 v46 (ρ2 5)) w49 fun w50 =>
  Q1 .normal (upds ρ2 [(120, v46), (119, v45), (118, (ρ2 5)), (117, (ρ2 0)), (116, v44), (115, v43), (114, v42), (113, v41), (112, v40), (111, v39), (110, (ρ2 0)), (109, v38), (108, v37), (107, v36), (106, v35), (105, v34), (104, (ρ2 0)), (103, v33), (102, v32), (101, v31), (100, (ρ2 0)), (98, v30), (97, v29), (96, v28), (95, v27), (94, v26), (93, v25), (92, (ρ2 0)), (91, v24), (90, v23), (89, v22), (88, v21), (87, v20), (86, (ρ2 0)), (85, v19), (84, v18), (83, v17), (82, (ρ2 0)), (81, v16), (80, v15), (79, (ρ2 5)), (78, (ρ2 0))]) w50) (
  Q1 .normal (upds ρ2 [(116, v44), (115, v43), (114, v42), (113, v41), (112, v40), (111, v39), (110, (ρ2 0)), (109, v38), (108, v37), (107, v36), (106, v35), (105, v34), (104, (ρ2 0)), (103, v33), (102, v32), (101, v31), (100, (ρ2 0)), (98, v30), (97, v29), (96, v28), (95, v27), (94, v26), (93, v25), (92, (ρ2 0)), (91, v24), (90, v23), (89, v22), (88, v21), (87, v20), (86, (ρ2 0)), (85, v19), (84, v18), (83, v17), (82, (ρ2 0)), (81, v16), (80, v15), (79, (ρ2 5)), (78, (ρ2 0))]) w47))) fun J2 =>
  X Tryz.prog (nilS (ρ1 0)) w15 fun v47 w51 =>
  X Tryz.prog (Instr.fieldAt 165 v47 0) w51 fun v48 w52 =>
  X Tryz.prog (Instr.fieldAt 50 v48 0) w52 fun v49 w53 =>
  X Tryz.prog (Instr.loadAt 3 v49) w53 fun v50 w54 =>
  X Tryz.prog (binOp .lss 3 v14 v50) w54 fun v51 w55 =>
  condS v51 (
  X Tryz.prog (Builtin.len_ #[28] 3 #[(ρ1 1)]) w55 fun v52 w56 =>
  X Tryz.prog (nilS (ρ1 0)) w56 fun v53 w57 =>
  X Tryz.prog (Instr.fieldAt 165 v53 0) w57 fun v54 w58 =>
  X Tryz.prog (Instr.fieldAt 50 v54 0) w58 fun v55 w59 =>
  X Tryz.prog (Instr.loadAt 3 v55) w59 fun v56 w60 =>
  X Tryz.prog (binOp .sub 3 v56 (.int .i64 1)) w60 fun v57 w61 =>
  X Tryz.prog (Builtin.min_ #[3, 3] 3 #[v52, v57]) w61 fun v58 w62 =>
  X Tryz.prog (nilS (ρ1 0)) w62 fun v59 w63 =>
  X Tryz.prog (Instr.fieldAt 165 v59 2) w63 fun v60 w64 =>
  XU Tryz.prog (Instr.storeAt 3 v60 v58) w64 fun w65 =>
  Q1 .normal (upds ρ1 [(62, v60), (61, v59), (60, v58), (59, v57), (58, v56), (57, v55), (56, v54), (55, v53), (54, (ρ1 0)), (53, v52), (52, (ρ1 1)), (51, (ρ1 0)), (43, v51), (50, v51), (49, v50), (48, v49), (47, v48), (46, v47), (45, (ρ1 0)), (44, v14), (5, v14), (23, v14), (22, v13), (21, v12), (20, v11), (19, (ρ1 0)), (18, v10), (17, v9), (16, v8), (15, v7), (14, v6), (13, v5), (12, (ρ1 0)), (11, v4), (10, (ρ1 1)), (9, v3), (8, v2), (7, v1), (6, (ρ1 0))]) w65) (
  X Tryz.prog (nilS (ρ1 0)) w55 fun v61 w66 =>
  X Tryz.prog (Instr.fieldAt 165 v61 0) w66 fun v62 w67 =>
  X Tryz.prog (Instr.fieldAt 50 v62 0) w67 fun v63 w68 =>
  X Tryz.prog (Instr.loadAt 3 v63) w68 fun v64 w69 =>
  X Tryz.prog (binOpG .eql 3 (.tmp 64) (.tmp 69) v14 v64) w69 fun v65 w70 =>
  condS v65 (
  X Tryz.prog (Instr.sliceAt 28 (ρ1 1) none (some v14) none) w70 fun v66 w71 =>
  CALL Tryz.prog 105 #[v66] w71 fun v67 w72 =>
  X Tryz.prog (nilS (ρ1 0)) w72 fun v68 w73 =>
  X Tryz.prog (Instr.fieldAt 165 v68 1) w73 fun v69 w74 =>
  XU Tryz.prog (Instr.storeAt 31 v69 v67) w74 fun w75 =>
  J2 (upds ρ1 [(77, v69), (76, v68), (75, v67), (74, v66), (73, v14), (72, (ρ1 1)), (71, (ρ1 0)), (63, v65), (70, v65), (69, v64), (68, v63), (67, v62), (66, v61), (65, (ρ1 0)), (64, v14), (43, v51), (50, v51), (49, v50), (48, v49), (47, v48), (46, v47), (45, (ρ1 0)), (44, v14), (5, v14), (23, v14), (22, v13), (21, v12), (20, v11), (19, (ρ1 0)), (18, v10), (17, v9), (16, v8), (15, v7), (14, v6), (13, v5), (12, (ρ1 0)), (11, v4), (10, (ρ1 1)), (9, v3), (8, v2), (7, v1), (6, (ρ1 0))]) w75) (
  ∃ R, Frame? R ∧
  XP Tryz.prog (nilS (ρ1 0)) (drewW w70) fun v70 w76 =>
  XP Tryz.prog (Instr.fieldAt 165 v70 1) w76 fun v71 w77 =>
  XR Tryz.prog R (Instr.loadAt 31 v71) w77 fun v72 w78 =>
  XP Tryz.prog (binOp .sub 3 v14 (.int .i64 1)) w78 fun v73 w79 =>
  XP Tryz.prog (binOp .sub 3 v73 (.int .i64 16)) w79 fun v74 w80 =>
  XP Tryz.prog (Instr.indexAt 28 (ρ1 1) v74) w80 fun v75 w81 =>
  XR Tryz.prog R (Instr.loadAt 5 v75) w81 fun v76 w82 =>
  XP Tryz.prog (binOp .sub 3 v14 (.int .i64 1)) w82 fun v77 w83 =>
  XP Tryz.prog (Instr.indexAt 28 (ρ1 1) v77) w83 fun v78 w84 =>
  XR Tryz.prog R (Instr.loadAt 5 v78) w84 fun v79 w85 =>
  CALL Tryz.prog 106 #[v72, v76, v79] w85 fun v80 w86 =>
  XP Tryz.prog (nilS (ρ1 0)) w86 fun v81 w87 =>
  XP Tryz.prog (Instr.fieldAt 165 v81 1) w87 fun v82 w88 =>
  XU Tryz.prog (Instr.storeAt 31 v82 v80) w88 fun w89 =>
  J2 (upds ρ1 [(42, v82), (41, v81), (40, v80), (39, v79), (38, v78), (37, v77), (36, v14), (35, (ρ1 1)), (34, v76), (33, v75), (32, v74), (31, v73), (30, v14), (29, (ρ1 1)), (28, v72), (27, v71), (26, v70), (25, (ρ1 0)), (24, (ρ1 0)), (63, v65), (70, v65), (69, v64), (68, v63), (67, v62), (66, v61), (65, (ρ1 0)), (64, v14), (43, v51), (50, v51), (49, v50), (48, v49), (47, v48), (46, v47), (45, (ρ1 0)), (44, v14), (5, v14), (23, v14), (22, v13), (21, v12), (20, v11), (19, (ρ1 0)), (18, v10), (17, v9), (16, v8), (15, v7), (14, v6), (13, v5), (12, (ρ1 0)), (11, v4), (10, (ρ1 1)), (9, v3), (8, v2), (7, v1), (6, (ρ1 0))]) w89))) (
  Q1 (.exit 0) (upds ρ1 [(18, v10), (17, v9), (16, v8), (15, v7), (14, v6), (13, v5), (12, (ρ1 0)), (11, v4), (10, (ρ1 1)), (9, v3), (8, v2), (7, v1), (6, (ρ1 0))]) w11)) (inBlockS 0 (thenS (fun ρ3 w90 =>
  ∃ R, Frame? R ∧
  XP Tryz.prog (nilS (ρ3 0)) (drewW w90) fun v83 w91 =>
  XP Tryz.prog (Instr.fieldAt 165 v83 2) w91 fun v84 w92 =>
  XR Tryz.prog R (Instr.loadAt 3 v84) w92 fun v85 w93 =>
  XP Tryz.prog (nilS (ρ3 0)) w93 fun v86 w94 =>
  XP Tryz.prog (Instr.fieldAt 165 v86 0) w94 fun v87 w95 =>
  XP Tryz.prog (Instr.fieldAt 50 v87 1) w95 fun v88 w96 =>
  XR Tryz.prog R (Instr.loadAt 3 v88) w96 fun v89 w97 =>
  XP Tryz.prog (binOp .lss 3 v85 v89) w97 fun v90 w98 =>
  condS v90 (
  K (.int .i64 0) w98) (
  X Tryz.prog (nilS (ρ3 0)) w98 fun v91 w99 =>
  X Tryz.prog (Instr.fieldAt 165 v91 3) w99 fun v92 w100 =>
  X Tryz.prog (Instr.loadAt 3 v92) w100 fun v93 w101 =>
  X Tryz.prog (binOp .gtr 3 v93 (.int .i64 0)) w101 fun v94 w102 =>
  condS v94 (
  X Tryz.prog (nilS (ρ3 0)) w102 fun v95 w103 =>
  X Tryz.prog (Instr.fieldAt 165 v95 3) w103 fun v96 w104 =>
  X Tryz.prog (Instr.loadAt 3 v96) w104 fun v97 w105 =>
  K v97 w105) (
  X Tryz.prog (nilS (ρ3 0)) w102 fun v98 w106 =>
  X Tryz.prog (Instr.fieldAt 165 v98 0) w106 fun v99 w107 =>
  X Tryz.prog (Instr.fieldAt 50 v99 1) w107 fun v100 w108 =>
  X Tryz.prog (Instr.loadAt 3 v100) w108 fun v101 w109 =>
  K v101 w109))) (retS Tryz.prog (Tryz.f81).results K))) (upds (env0 #[x0, x1]) [(4, (.int .i64 0))]) w
theorem eq_chunk_scan_look (x0 x1 : Value) (w : World) (K : Value → World → Prop) :
    sh Tryz.prog (Tryz.f81.body.getD .skip) (retS Tryz.prog Tryz.f81.results K) (env0 #[x0, x1]) w = B_chunk_scan_look x0 x1 w K := by kernel_rfl
theorem call_chunk_scan_look (x0 x1 : Value) (w : World) (K : Value → World → Prop) (h : B_chunk_scan_look x0 x1 w K) : CALL Tryz.prog 81 #[x0, x1] w K :=
  call_of_eq (c := Tryz.f81.body.getD .skip) mixed Tryz.func81 (by kernel_rfl) (by kernel_rfl) (by kernel_rfl) (Nat.le_of_ble_eq_true (by kernel_rfl)) (eq_chunk_scan_look x0 x1 w K) h
def B_roll_Of (x0 : Value) (w : World) (K : Value → World → Prop) : Prop :=
  X Tryz.prog (Builtin.len_ #[28] 3 #[x0]) w fun v1 w1 =>
  X Tryz.prog (binOp .sub 3 v1 (.int .i64 1)) w1 fun v2 w2 =>
  loopS (fun Q1 ρ1 w3 =>
  X Tryz.prog (binOp .geq 3 (ρ1 5) (.int .i64 0)) w3 fun v3 w4 =>
  gstep v3 true (fun w5 K => K (ρ1 5) w5) w4 fun v4 w6 =>
  gstep v3 true (fun w7 K => K (ρ1 0) w7) w6 fun v5 w8 =>
  gstep v3 true (fun w9 K => X Tryz.prog (Builtin.len_ #[28] 3 #[v5]) w9 K) w8 fun v6 w10 =>
  gstep v3 true (fun w11 K => X Tryz.prog (binOp .sub 3 v6 (.int .i64 16)) w11 K) w10 fun v7 w12 =>
  gstep v3 true (fun w13 K => X Tryz.prog (binOp .geq 3 v4 v7) w13 K) w12 fun v8 w14 =>
  X Tryz.prog (pickS v3 v8 (.bool false)) w14 fun v9 w15 =>
  condS v9 (
  X Tryz.prog (Instr.indexAt 28 (ρ1 0) (ρ1 5)) w15 fun v10 w16 =>
  X Tryz.prog (Instr.loadAt 5 v10) w16 fun v11 w17 =>
  CALL Tryz.prog 125 #[v11] w17 fun v12 w18 =>
  X Tryz.prog (binOp .mul 31 v12 (ρ1 4)) w18 fun v13 w19 =>
  X Tryz.prog (binOp .add 31 (ρ1 3) v13) w19 fun v14 w20 =>
  X Tryz.prog (binOp .mul 31 (ρ1 4) (.int .u32 16777619)) w20 fun v15 w21 =>
  X Tryz.prog (binOp .sub 3 (ρ1 5) (.int .i64 1)) w21 fun v16 w22 =>
  Q1 .normal (upds ρ1 [(5, v16), (19, v16), (18, (ρ1 5)), (4, v15), (30, v15), (29, (ρ1 4)), (3, v14), (28, v14), (27, v13), (26, (ρ1 4)), (25, v12), (24, v11), (23, v10), (22, (ρ1 5)), (21, (ρ1 0)), (20, (ρ1 3)), (17, v9), (16, v8), (15, v7), (14, v6), (13, v5), (12, v4), (11, v3), (10, v3), (9, (ρ1 5))]) w22) (
  Q1 (.exit 0) (upds ρ1 [(17, v9), (16, v8), (15, v7), (14, v6), (13, v5), (12, v4), (11, v3), (10, v3), (9, (ρ1 5))]) w15)) (inBlockS 0 (thenS (fun ρ2 w23 =>
  K (ρ2 3) w23) (retS Tryz.prog (Tryz.f105).results K))) (upds (env0 #[x0]) [(5, v2), (8, v2), (7, v1), (6, x0), (4, (.int .u32 1)), (3, (.int .u32 0)), (2, (.int .u32 0))]) w2
theorem eq_roll_Of (x0 : Value) (w : World) (K : Value → World → Prop) :
    sh Tryz.prog (Tryz.f105.body.getD .skip) (retS Tryz.prog Tryz.f105.results K) (env0 #[x0]) w = B_roll_Of x0 w K := by kernel_rfl
theorem call_roll_Of (x0 : Value) (w : World) (K : Value → World → Prop) (h : B_roll_Of x0 w K) : CALL Tryz.prog 105 #[x0] w K :=
  call_of_eq (c := Tryz.f105.body.getD .skip) mixed Tryz.func105 (by kernel_rfl) (by kernel_rfl) (by kernel_rfl) (Nat.le_of_ble_eq_true (by kernel_rfl)) (eq_roll_Of x0 w K) h
def B_roll_count (x0 : Value) (w : World) (K : Value → World → Prop) : Prop :=
  X Tryz.prog (convert 5 31 x0) w fun v1 w1 =>
  X Tryz.prog (binOp .add 31 v1 (.int .u32 1)) w1 fun v2 w2 =>
  K v2 w2
theorem eq_roll_count (x0 : Value) (w : World) (K : Value → World → Prop) :
    sh Tryz.prog (Tryz.f125.body.getD .skip) (retS Tryz.prog Tryz.f125.results K) (env0 #[x0]) w = B_roll_count x0 w K := by kernel_rfl
theorem call_roll_count (x0 : Value) (w : World) (K : Value → World → Prop) (h : B_roll_count x0 w K) : CALL Tryz.prog 125 #[x0] w K :=
  call_of_eq (c := Tryz.f125.body.getD .skip) mixed Tryz.func125 (by kernel_rfl) (by kernel_rfl) (by kernel_rfl) (Nat.le_of_ble_eq_true (by kernel_rfl)) (eq_roll_count x0 w K) h
end Go.Proofs.YtcigpjejbkngfaaGreatDoor
end
section
set_option maxRecDepth 8000
namespace Go.Proofs.YtcigpjejbkngfaaGreatDoor
open Go Go.Sh Go.RowKit
attribute [local irreducible] X XU XP XR CALL loopS resC closS
abbrev cutV : Value := .agg #[.int .i64 26, .int .i64 36, .int .u32 1, .int .u32 1]
def stC (s n : Int) (h : Value) : Array Value := #[.int .i64 26, .int .i64 36, .int .u32 1, .int .u32 1, .int .u32 s, .int .i64 n, .int .i64 0, h]
section
variable {w : World} {K : Value → World → Prop}
theorem count_spec {n : Int} (hK : ∀ s : Int, K (.int .u32 s) w) : CALL Tryz.prog 125 #[.int .u8 n] w K := by
  apply call_roll_count
  unfold B_roll_count
  rw [X_conv_5_31, X_add]
  exact hK _
theorem Of_spec {v : Value} {bs : List UInt8} (hb : Bts w v bs) (hl : bs.length ≤ 100000) (hK : ∀ s : Int, K (.int .u32 s) w) : CALL Tryz.prog 105 #[v] w K := by
  obtain ⟨a, c, ev⟩ := Bts.slice hb
  apply call_roll_Of
  unfold B_roll_Of
  rw [ev, X_len_28, X_sub, w64 (by omega) (by omega), ← ev]
  refine loopG 0 (fun ρ W => W = w ∧ ∃ i s p : Int, -1 ≤ i ∧ i < bs.length ∧ ρ 5 = .int .i64 i ∧ ρ 0 = v ∧ ρ 3 = .int .u32 s ∧ ρ 4 = .int .u32 p)
    (fun ρ W => match ρ 5 with | .int _ s => (s + 1).toNat | _ => 0) (fun ρ W => W = w ∧ ∃ s : Int, ρ 3 = .int .u32 s) ?_ ?_ ?_
  · exact ⟨rfl, (bs.length : Int) - 1, 0, 1, by omega, by omega, rfl, rfl, rfl, rfl⟩
  · rintro J hJ ρ W ⟨rfl, i, s, p, hi0, hi1, r5, r0, r3, r4⟩
    rw [r5, r0, r3, r4, X_geq]
    by_cases h0 : i ≥ 0
    · rw [decide_eq_true h0]
      (repeat (simp only [SLB, Int.reduceEq, Int.reduceNe, Int.reduceLT, Int.reduceLE, Int.reduceGT, Int.reduceGE]))
      rw [ev, X_len_28]
      (repeat (simp only [SLB, Int.reduceEq, Int.reduceNe, Int.reduceLT, Int.reduceLE, Int.reduceGT, Int.reduceGE]))
      rw [X_sub, w64 (by omega) (by omega)]
      (repeat (simp only [SLB, Int.reduceEq, Int.reduceNe, Int.reduceLT, Int.reduceLE, Int.reduceGT, Int.reduceGE]))
      by_cases h1 : i ≥ (bs.length : Int) - 16
      · have e1 : decide (i ≥ (bs.length : Int) - 16) = true := decide_eq_true h1
        (repeat (simp only [SLB, Int.reduceEq, Int.reduceNe, Int.reduceLT, Int.reduceLE, Int.reduceGT, Int.reduceGE, e1]))
        obtain ⟨j, rfl⟩ := Int.eq_ofNat_of_zero_le h0
        rw [← ev]
        obtain ⟨ad, hix, hc⟩ := bts_at hb (k := .i64) (i := j) (by omega)
        refine X_of (hix _) ?_
        refine X_of (run_loadAt agg_5 hc) ?_
        refine count_spec ?_
        intro t
        rw [X_mul, X_add, X_mul, X_sub]
        show _ ∧ _
        refine ⟨⟨rfl, (j : Int) - 1, _, _, by omega, by omega, ?_, r0, rfl, rfl⟩, ?_⟩
        · show Value.int .i64 (IntKind.i64.wrap _) = _
          rw [w64 (by omega) (by omega)]
        · show (IntKind.i64.wrap _ + 1).toNat < _
          rw [w64 (by omega) (by omega)]
          first | omega | (show _ < (_ : Int).toNat; omega)
      · have e1 : decide (i ≥ (bs.length : Int) - 16) = false := decide_eq_false h1
        (repeat (simp only [SLB, Int.reduceEq, Int.reduceNe, Int.reduceLT, Int.reduceLE, Int.reduceGT, Int.reduceGE, e1]))
        exact hJ _ _ ⟨rfl, s, r3⟩
    · rw [decide_eq_false h0]
      (repeat (simp only [SLB, Int.reduceEq, Int.reduceNe, Int.reduceLT, Int.reduceLE, Int.reduceGT, Int.reduceGE]))
      exact hJ _ _ ⟨rfl, s, r3⟩
  · rintro ρ W ⟨rfl, s, r3⟩
    show K (ρ 3) _
    rw [r3]
    exact hK s
theorem part_spec {v : Value} {bs : List UInt8} (hb : Bts w v bs) (hl : bs.length ≤ 100000) (hK : ∀ u w1, Ext w w1 → w1.ownsRow w.heap.size 5 1 u bs.length (B8 bs) → K u w1) : CALL Tryz.prog 80 #[v] w K := by
  obtain ⟨a, c, ev⟩ := Bts.slice hb
  apply call_chunk_part
  unfold B_chunk_part
  rw [ev, X_len_28, ← ev]
  refine X_make (z := .int .u8 0) (bytes := 1) (size := 1) Tryz.underlying28 el_5 bs.length bs.length rfl rfl (Nat.le_refl _) (by omega) (by omega) ?_
  have hx1 := newB_ext w (madeCells (Value.int .u8 0).cells (bs.length * 1)) 5
  have hg1 := newB_get w (madeCells (Value.int .u8 0).cells (bs.length * 1)) 5
  have hcl : (madeCells (Value.int .u8 0).cells (bs.length * 1)).size = bs.length := by
    rw [← Array.length_toList, Nat.mul_one]
    show (madeCells #[Value.int .u8 0] bs.length).toList.length = _
    rw [made_one, List.length_replicate]
  generalize madeCells (Value.int .u8 0).cells (bs.length * 1) = cur at hx1 hg1 hcl ⊢
  generalize newB w cur 5 = w1 at hx1 hg1 ⊢
  refine X_copy_bts Tryz.underlying28 szm_5 hg1 (hb.ext hx1) (by omega) ?_
  intro w2 hg2 hs2 hk2
  have hx2 : Ext w w2 := Ext.seq hx1 hk2 (fun g hg => by omega)
  refine hK _ w2 hx2 ⟨by simp, .inr ⟨w.heap.size, bs.length, _, rfl, Nat.le_refl _, hg2, Nat.le_refl _, by simp only [maxLen]; omega, ?_, ?_⟩⟩
  · simp
    omega
  · simp
theorem CRight_spec (hK : ∀ w1, Ext w w1 → K (.bool true) w1) : CALL Tryz.prog 79 #[cutV] w K := by
  apply call_chunk_Right
  unfold B_chunk_Right
  refine X_box ?_
  have hx1 := newB_ext w cutV.cells 50
  have hg1 : (newB w cutV.cells 50).heap[w.heap.size]? = some (.cells #[.int .i64 26, .int .i64 36, .int .u32 1, .int .u32 1] 50 (0, 0)) := newB_get _ _ _
  generalize newB w cutV.cells 50 = w1 at hx1 hg1 ⊢
  (repeat (simp only [SLB, Int.reduceEq, Int.reduceNe, Int.reduceLT, Int.reduceLE, Int.reduceGT, Int.reduceGE, X_field_50_0]))
  refine X_of (run_loadAt (v := .int .i64 26) agg_3 ((cell_blk hg1).trans rfl)) ?_
  (repeat (simp only [SLB, Int.reduceEq, Int.reduceNe, Int.reduceLT, Int.reduceLE, Int.reduceGT, Int.reduceGE, X_field_50_0]))
  refine X_of (run_loadAt (v := .int .i64 26) agg_3 ((cell_blk hg1).trans rfl)) ?_
  (repeat (simp only [SLB, Int.reduceEq, Int.reduceNe, Int.reduceLT, Int.reduceLE, Int.reduceGT, Int.reduceGE, X_field_50_1]))
  refine X_of (run_loadAt (v := .int .i64 36) agg_3 ((cell_blk hg1).trans rfl)) ?_
  (repeat (simp only [SLB, Int.reduceEq, Int.reduceNe, Int.reduceLT, Int.reduceLE, Int.reduceGT, Int.reduceGE, X_field_50_1]))
  refine X_of (run_loadAt (v := .int .i64 36) agg_3 ((cell_blk hg1).trans rfl)) ?_
  (repeat (simp only [SLB, Int.reduceEq, Int.reduceNe, Int.reduceLT, Int.reduceLE, Int.reduceGT, Int.reduceGE, X_field_50_2]))
  refine X_of (run_loadAt (v := .int .u32 1) agg_31 ((cell_blk hg1).trans rfl)) ?_
  (repeat (simp only [SLB, Int.reduceEq, Int.reduceNe, Int.reduceLT, Int.reduceLE, Int.reduceGT, Int.reduceGE, X_field_50_3]))
  refine X_of (run_loadAt (v := .int .u32 1) agg_31 ((cell_blk hg1).trans rfl)) ?_
  (repeat (simp only [SLB, Int.reduceEq, Int.reduceNe, Int.reduceLT, Int.reduceLE, Int.reduceGT, Int.reduceGE]))
  exact hK w1 hx1
end
end Go.Proofs.YtcigpjejbkngfaaGreatDoor
end
section
set_option maxRecDepth 8000
namespace Go.Proofs.YtcigpjejbkngfaaGreatDoor
open Go Go.Sh Go.RowKit
attribute [local irreducible] X XU XP XR CALL loopS resC closS
def seenOf (w : World) (b : Nat) : Nat := match w.heap[b]? with
  | some (Obj.cells cs _ _) => (match (cs[5]? : Option Value) with | some (Value.int _ s) => (1000 - s).toNat | _ => 0)
  | _ => 0
theorem seenOf_st {w : World} {b : Nat} {s n : Int} {h : Value} (hg : w.heap[b]? = some (.cells (stC s n h) 167 (0, 0))) : seenOf w b = (1000 - n).toNat := by
  unfold seenOf
  rw [hg]
  rfl
section
variable {w : World} {K : Value → World → Prop}
set_option maxHeartbeats 2000000 in
theorem look_spec {b : Nat} {s0 : Int} {h v : Value} {bs : List UInt8} (hg : w.heap[b]? = some (.cells (stC s0 0 h) 167 (0, 0))) (hb : Bts w v bs) (hbv : ∀ g, v.ownBlock = some g → g ≠ b) (h0 : 0 < bs.length) (hl : bs.length ≤ 1000)
    (hK1 : 26 ≤ bs.length → ∀ w1 s, Keep (· = b) w w1 → w1.heap[b]? = some (.cells (stC s 26 h) 167 (0, 0)) → K (.int .i64 26) w1)
    (hK2 : bs.length < 26 → ∀ w1 s, Keep (· = b) w w1 → w1.heap[b]? = some (.cells (stC s (bs.length : Int) h) 167 (0, 0)) → K (.int .i64 0) w1) : CALL Tryz.prog 81 #[ptr b, v] w K := by
  obtain ⟨a, c, ev⟩ := Bts.slice hb
  apply call_chunk_scan_look
  unfold B_chunk_scan_look
  refine loopGR 0 (fun ρ W => ∃ (n s : Int), Keep (· = b) w W ∧ W.heap[b]? = some (.cells (stC s n h) 167 (0, 0)) ∧ (n = 0 ∨ n = min (bs.length : Int) 25) ∧ ρ 0 = ptr b ∧ ρ 1 = v)
    (fun ρ W => seenOf W b) (fun ρ W => ∃ s : Int, bs.length < 26 ∧ Keep (· = b) w W ∧ W.heap[b]? = some (.cells (stC s (bs.length : Int) h) 167 (0, 0)) ∧ ρ 0 = ptr b)
    (fun ρ W => ∃ s : Int, 26 ≤ bs.length ∧ Keep (· = b) w W ∧ W.heap[b]? = some (.cells (stC s 26 h) 167 (0, 0)) ∧ ρ 4 = .int .i64 26) ?_ ?_ ?_ ?_
  · exact ⟨0, s0, Keep.refl _ _, hg, .inl rfl, rfl, rfl⟩
  · rintro J hJ hJR ρ W ⟨n, s, hk, hgW, hn, r0, r1⟩
    rw [r0, r1, seenOf_st hgW]
    have kd := Keep.drew (fun _ => False) W
    have hgd := Ext.get kd hgW
    have hkd := hk.trans (Keep.ext kd)
    refine ⟨Ext, Ext.frame, ?_⟩
    generalize drewW W = wd at kd hgd hkd ⊢
    (repeat (simp only [SLB, Int.reduceEq, Int.reduceNe, Int.reduceLT, Int.reduceLE, Int.reduceGT, Int.reduceGE, XP_field_165_2]))
    refine XR_ok Ext.frame (fun w' kk => run_loadAt (v := .int .i64 n) agg_3 ((cell_blk (Ext.get kk hgd)).trans rfl)) ?_
    rw [ev, XP_len_28, ← ev]
    (repeat (simp only [SLB, Int.reduceEq, Int.reduceNe, Int.reduceLT, Int.reduceLE, Int.reduceGT, Int.reduceGE, XP_field_165_0, XP_field_50_1]))
    refine XR_ok Ext.frame (fun w' kk => run_loadAt (v := .int .i64 36) agg_3 ((cell_blk (Ext.get kk hgd)).trans rfl)) ?_
    rw [XP_min, XP_lss]
    by_cases hge : min (bs.length : Int) 36 ≤ n
    · rw [decide_eq_false (by omega), condS_bool, if_neg (by decide)]
      have hlen : bs.length < 26 := by omega
      have en : n = (bs.length : Int) := by omega
      rw [en] at hgd
      exact hJ _ _ ⟨s, hlen, hkd, hgd, r0⟩
    have hlt : n < min (bs.length : Int) 36 := by omega
    rw [decide_eq_true hlt, condS_bool, if_pos rfl]
    (repeat (simp only [SLB, Int.reduceEq, Int.reduceNe, Int.reduceLT, Int.reduceLE, Int.reduceGT, Int.reduceGE, X_field_165_2]))
    refine X_of (run_loadAt (v := .int .i64 n) agg_3 ((cell_blk hgd).trans rfl)) ?_
    rw [X_add, w64 (by omega) (by omega)]
    -- how the sum is told
    refine joinS_of (fun ρ' W' => ∃ s : Int, 26 ≤ bs.length ∧ n = 25 ∧ Keep (· = b) w W' ∧ W'.heap[b]? = some (.cells (stC s 25 h) 167 (0, 0)) ∧ ρ' 0 = ptr b ∧ ρ' 5 = .int .i64 26) ?_ ?_
    · rintro ρ' W' ⟨s', hlen, hn25, hk', hg', s0', s5⟩
      rw [s0', s5]
      (repeat (simp only [SLB, Int.reduceEq, Int.reduceNe, Int.reduceLT, Int.reduceLE, Int.reduceGT, Int.reduceGE, X_field_165_2]))
      refine XU_store info_3 sz_3 rfl hg' (by show 0 + 5 < 8; decide) (by show ¬ (0 ≤ 0 + 5 ∧ 0 + 5 < 0); omega) ?_
      have k4 := setAt_keep W' b ((stC s' 25 h).setIfInBounds (0 + 5) (.int .i64 26)) 167 (0, 0)
      have c4 : (setAt W' b ((stC s' 25 h).setIfInBounds (0 + 5) (.int .i64 26)) 167 (0, 0)).heap[b]? = some (.cells (stC s' 26 h) 167 (0, 0)) := setAt_same (lt_of_blk hg')
      generalize setAt W' b ((stC s' 25 h).setIfInBounds (0 + 5) (.int .i64 26)) 167 (0, 0) = W4 at k4 c4 ⊢
      have kd5 := Keep.drew (fun _ => False) W4
      have hg5 := Ext.get kd5 c4
      have hk5 := (hk'.trans k4).trans (Keep.ext kd5)
      refine ⟨Ext, Ext.frame, ?_⟩
      generalize drewW W4 = w5 at kd5 hg5 hk5 ⊢
      (repeat (simp only [SLB, Int.reduceEq, Int.reduceNe, Int.reduceLT, Int.reduceLE, Int.reduceGT, Int.reduceGE, XP_field_165_1]))
      refine XR_ok Ext.frame (fun w' kk => run_loadAt (v := .int .u32 s') agg_31 ((cell_blk (Ext.get kk hg5)).trans rfl)) ?_
      (repeat (simp only [SLB, Int.reduceEq, Int.reduceNe, Int.reduceLT, Int.reduceLE, Int.reduceGT, Int.reduceGE, XP_field_165_0, XP_field_50_2]))
      refine XR_ok Ext.frame (fun w' kk => run_loadAt (v := .int .u32 1) agg_31 ((cell_blk (Ext.get kk hg5)).trans rfl)) ?_
      refine XP_of (fun w' => run_rem 31 .u32 s' 1 (by decide) w') ?_
      rw [Int.tmod_one]
      (repeat (simp only [SLB, Int.reduceEq, Int.reduceNe, Int.reduceLT, Int.reduceLE, Int.reduceGT, Int.reduceGE, XP_field_165_0, XP_field_50_2]))
      refine XR_ok Ext.frame (fun w' kk => run_loadAt (v := .int .u32 1) agg_31 ((cell_blk (Ext.get kk hg5)).trans rfl)) ?_
      rw [XP_sub, wrap_u32]
      (repeat (simp only [SLB, Int.reduceEq, Int.reduceNe, Int.reduceLT, Int.reduceLE, Int.reduceGT, Int.reduceGE]))
      exact hJR _ _ ⟨s', hlen, hk5, hg5, rfl⟩
    intro J2 hJ2
    (repeat (simp only [SLB, Int.reduceEq, Int.reduceNe, Int.reduceLT, Int.reduceLE, Int.reduceGT, Int.reduceGE, X_field_165_0, X_field_50_0]))
    refine X_of (run_loadAt (v := .int .i64 26) agg_3 ((cell_blk hgd).trans rfl)) ?_
    rw [X_lss]
    by_cases h26 : n + 1 < 26
    · rw [decide_eq_true h26, condS_bool, if_pos rfl]
      have hn0 : n = 0 := by omega
      rw [ev, X_len_28]
      (repeat (simp only [SLB, Int.reduceEq, Int.reduceNe, Int.reduceLT, Int.reduceLE, Int.reduceGT, Int.reduceGE, X_field_165_0, X_field_50_0]))
      refine X_of (run_loadAt (v := .int .i64 26) agg_3 ((cell_blk hgd).trans rfl)) ?_
      rw [X_sub, w64 (by omega) (by omega), X_min]
      (repeat (simp only [SLB, Int.reduceEq, Int.reduceNe, Int.reduceLT, Int.reduceLE, Int.reduceGT, Int.reduceGE, X_field_165_2]))
      refine XU_store info_3 sz_3 rfl hgd (by show 0 + 5 < 8; decide) (by show ¬ (0 ≤ 0 + 5 ∧ 0 + 5 < 0); omega) ?_
      have k4 := setAt_keep wd b ((stC s n h).setIfInBounds (0 + 5) (.int .i64 (min (bs.length : Int) (26 - 1)))) 167 (0, 0)
      have c4 : (setAt wd b ((stC s n h).setIfInBounds (0 + 5) (.int .i64 (min (bs.length : Int) (26 - 1)))) 167 (0, 0)).heap[b]? = some (.cells (stC s (min (bs.length : Int) 25) h) 167 (0, 0)) := setAt_same (lt_of_blk hgd)
      generalize setAt wd b ((stC s n h).setIfInBounds (0 + 5) (.int .i64 (min (bs.length : Int) (26 - 1)))) 167 (0, 0) = W4 at k4 c4 ⊢
      show _ ∧ _
      refine ⟨⟨_, s, hkd.trans k4, c4, .inr rfl, r0, r1.trans ev⟩, ?_⟩
      rw [seenOf_st c4]
      omega
    · rw [decide_eq_false h26, condS_bool, if_neg (by decide)]
      have hn25 : n = 25 := by omega
      have hlen : 26 ≤ bs.length := by omega
      (repeat (simp only [SLB, Int.reduceEq, Int.reduceNe, Int.reduceLT, Int.reduceLE, Int.reduceGT, Int.reduceGE, X_field_165_0, X_field_50_0]))
      refine X_of (run_loadAt (v := .int .i64 26) agg_3 ((cell_blk hgd).trans rfl)) ?_
      have ee : decide (n + 1 = 26) = true := decide_eq_true (by omega)
      rw [X_eql, ee, condS_bool, if_pos rfl]
      have hbd : Bts wd v bs := hb.keep hkd (fun g hg => hbv g hg)
      obtain ⟨u, hu, hub, _⟩ := cut_hi Tryz.underlying28 info_5 hbd (kh := .i64) (hj := n + 1) 26 (by omega) hlen
      refine X_of (hu _) ?_
      refine Of_spec hub (by simp; omega) ?_
      intro t
      (repeat (simp only [SLB, Int.reduceEq, Int.reduceNe, Int.reduceLT, Int.reduceLE, Int.reduceGT, Int.reduceGE, X_field_165_1]))
      refine XU_store info_31 sz_31 rfl hgd (by show 0 + 4 < 8; decide) (by show ¬ (0 ≤ 0 + 4 ∧ 0 + 4 < 0); omega) ?_
      have k4 := setAt_keep wd b ((stC s n h).setIfInBounds (0 + 4) (.int .u32 t)) 167 (0, 0)
      have c4 : (setAt wd b ((stC s n h).setIfInBounds (0 + 4) (.int .u32 t)) 167 (0, 0)).heap[b]? = some (.cells (stC t n h) 167 (0, 0)) := setAt_same (lt_of_blk hgd)
      generalize setAt wd b ((stC s n h).setIfInBounds (0 + 4) (.int .u32 t)) 167 (0, 0) = W4 at k4 c4 ⊢
      rw [hn25] at c4
      exact hJ2 _ _ ⟨t, hlen, hn25, hkd.trans k4, c4, r0, by show Value.int .i64 (n + 1) = _; rw [hn25]; rfl⟩
  · rintro ρ W ⟨s, hlen, hk, hgW, r0⟩
    simp only [inBlockS_same, thenS_normal]
    rw [r0]
    have kd := Keep.drew (fun _ => False) W
    have hgd := Ext.get kd hgW
    have hkd := hk.trans (Keep.ext kd)
    refine ⟨Ext, Ext.frame, ?_⟩
    generalize drewW W = wd at kd hgd hkd ⊢
    (repeat (simp only [SLB, Int.reduceEq, Int.reduceNe, Int.reduceLT, Int.reduceLE, Int.reduceGT, Int.reduceGE, XP_field_165_2]))
    refine XR_ok Ext.frame (fun w' kk => run_loadAt (v := .int .i64 (bs.length : Int)) agg_3 ((cell_blk (Ext.get kk hgd)).trans rfl)) ?_
    (repeat (simp only [SLB, Int.reduceEq, Int.reduceNe, Int.reduceLT, Int.reduceLE, Int.reduceGT, Int.reduceGE, XP_field_165_0, XP_field_50_1]))
    refine XR_ok Ext.frame (fun w' kk => run_loadAt (v := .int .i64 36) agg_3 ((cell_blk (Ext.get kk hgd)).trans rfl)) ?_
    have e : decide ((bs.length : Int) < 36) = true := decide_eq_true (by omega)
    (repeat (simp only [SLB, Int.reduceEq, Int.reduceNe, Int.reduceLT, Int.reduceLE, Int.reduceGT, Int.reduceGE, e]))
    exact hK2 hlen wd s hkd hgd
  · rintro ρ W ⟨s, hlen, hk, hgW, r4⟩
    show K (ρ 4) _
    rw [r4]
    exact hK1 hlen W s hk hgW
end
end Go.Proofs.YtcigpjejbkngfaaGreatDoor
end
