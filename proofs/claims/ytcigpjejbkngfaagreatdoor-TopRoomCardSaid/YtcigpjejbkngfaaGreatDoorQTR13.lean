/- Part 13 of what the law is proved with. -/
import Derived.Test.YtcigpjejbkngfaaGreatDoorQTR12
set_option linter.unusedVariables false
set_option linter.unusedSimpArgs false
section
set_option maxRecDepth 8000
namespace Go.Proofs.YtcigpjejbkngfaaGreatDoor
open Go Go.Sh Go.RowKit
attribute [local irreducible] X XU XP XR CALL loopS resC closS
theorem loadT_mem {T : Tbl} {room : Nat} {s : Int} {rows : List Ex} {d : Nat} {p : Int × List Ex} (h : p ∈ loadT T room s rows d) : p ∈ T ∨ p = (s, rows) := by
  unfold loadT at h
  split at h
  · exact .inl h
  · rw [List.mem_append, List.mem_singleton] at h
    rcases h with h | h
    · left
      split at h
      · unfold dropT at h; exact (List.mem_filter.1 h).1
      · exact h
    · exact .inr h
theorem findR_has {R : List Ex} {k : Ky} {p : Pl} (h : findR R k = some p) : ∃ r ∈ R, r.k = k ∧ r.off = p.1 ∧ r.len = p.2 := by
  unfold findR at h
  obtain ⟨r, hr, rfl⟩ := Option.map_eq_some_iff.1 h
  exact ⟨r, List.mem_of_find?_eq_some hr, by simpa using List.find?_some hr, rfl, rfl⟩
section
variable {w : World} {K : Value → World → Prop}
theorem two_cget {D : Nat → Prop} {cb room : Nat} {T : Tbl} {k : Ky} {R0 : World → World → Prop} (h : CacheAt w D cb room T) (hR0 : ∀ a b, Ext a b → R0 a b) {K1 : Value → Value → Value → Value → World → Prop} {K2 : Value → Value → Value → Value → World → Prop}
    (hK1 : ∀ t q w1, Ext w w1 → w.heap.size ≤ q → w1.heap[q]? = some (.cells #[.int .i64 ((findT T k).getD (0, 0)).1, .int .i64 ((findT T k).getD (0, 0)).2] 104 (0, 0)) → K1 t (plV ((findT T k).getD (0, 0))) (.bool (findT T k).isSome) (ptr q) w1)
    (hK2 : ∀ t q w1, Ext w w1 → w.heap.size ≤ q → w1.heap[q]? = some (.cells #[.int .i64 ((findT T k).getD (0, 0)).1, .int .i64 ((findT T k).getD (0, 0)).2] 104 (0, 0)) → K2 (ptr q) t (plV ((findT T k).getD (0, 0))) (.bool (findT T k).isSome) w1) :
    (CALL Tryz.prog 64 #[ptr cb, k.v] w fun t w13 => XP Tryz.prog (Instr.extract t 0) w13 fun a w14 => XP Tryz.prog (Instr.extract t 1) w14 fun b w15 => X Tryz.prog (Instr.alloc 104 true (.tuple #[])) w15 fun q w16 => R0 w15 w16 ∧ XU Tryz.prog (Instr.storeAt 104 q a) w16 fun w17 => K1 t a b q w17) ∧
    (X Tryz.prog (Instr.alloc 104 true (.tuple #[])) w fun q w18 => R0 w w18 ∧ CALL Tryz.prog 64 #[ptr cb, k.v] w18 fun t w19 => XP Tryz.prog (Instr.extract t 0) w19 fun a w20 => XP Tryz.prog (Instr.extract t 1) w20 fun b w21 => XU Tryz.prog (Instr.storeAt 104 q a) w21 fun w22 => K2 q t a b w22) := by
  have hone : ∀ p : Pl, ∀ u ∈ [Value.int .i64 p.1, Value.int .i64 p.2], u.oneCell' = true := by intro p u hu; simp only [List.mem_cons, List.not_mem_nil, or_false] at hu; rcases hu with rfl | rfl <;> rfl
  constructor
  · refine Get_specC h ?_
    intro w1 hx1
    generalize (findT T k).getD (0, 0) = p at hK1 ⊢
    generalize (findT T k).isSome = b at hK1 ⊢
    (repeat (simp only [SLB, Int.reduceEq, Int.reduceNe, Int.reduceLT, Int.reduceLE, Int.reduceGT, Int.reduceGE]))
    refine X_alloc zero_104 ?_
    have hx2 := newB_ext w1 (Value.agg #[(.int .i64 0), (.int .i64 0)]).cells 104
    have hg2 : (newB w1 (Value.agg #[(.int .i64 0), (.int .i64 0)]).cells 104).heap[w1.heap.size]? = some (.cells [Value.int .i64 0, Value.int .i64 0].toArray 104 (0, 0)) := newB_get _ _ _
    generalize newB w1 (Value.agg #[(.int .i64 0), (.int .i64 0)]).cells 104 = w2 at hx2 hg2 ⊢
    refine ⟨hR0 _ _ hx2, ?_⟩
    refine XU_storeAgg (l := [.int .i64 p.1, .int .i64 p.2]) info_104 hg2 (by rw [sz_104]; rfl) (by rw [sz_104]; rfl) (hone p) ?_
    have h12 := hx1.size
    exact hK1 _ _ _ (Ext.seq (hx1.trans hx2) (setAt_keep _ _ _ _ _) (fun g hg => by omega)) h12 (setAt_same (lt_of_blk hg2))
  · refine X_alloc zero_104 ?_
    have hx2 := newB_ext w (Value.agg #[(.int .i64 0), (.int .i64 0)]).cells 104
    have hg2 : (newB w (Value.agg #[(.int .i64 0), (.int .i64 0)]).cells 104).heap[w.heap.size]? = some (.cells [Value.int .i64 0, Value.int .i64 0].toArray 104 (0, 0)) := newB_get _ _ _
    generalize newB w (Value.agg #[(.int .i64 0), (.int .i64 0)]).cells 104 = w2 at hx2 hg2 ⊢
    refine ⟨hR0 _ _ hx2, ?_⟩
    refine Get_specC (h.ext hx2) ?_
    intro w1 hx1
    generalize (findT T k).getD (0, 0) = p at hK2 ⊢
    generalize (findT T k).isSome = b at hK2 ⊢
    (repeat (simp only [SLB, Int.reduceEq, Int.reduceNe, Int.reduceLT, Int.reduceLE, Int.reduceGT, Int.reduceGE]))
    have hg3 := Ext.get hx1 hg2
    refine XU_storeAgg (l := [.int .i64 p.1, .int .i64 p.2]) info_104 hg3 (by rw [sz_104]; rfl) (by rw [sz_104]; rfl) (hone p) ?_
    exact hK2 _ _ _ (Ext.seq (hx2.trans hx1) (setAt_keep _ _ _ _ _) (fun g hg => by omega)) (Nat.le_refl _) (setAt_same (lt_of_blk hg3))
theorem pl_load {q : Nat} {p : Pl} {w' : World} (h : w'.heap[q]? = some (.cells #[.int .i64 p.1, .int .i64 p.2] 104 (0, 0))) : (Instr.loadAt 104 (ptr q)).run Tryz.prog w' = .ok (plV p) w' :=
  load_cells Tryz.underlying104 agg_104 info_104 (l := [.int .i64 p.1, .int .i64 p.2]) (by rw [sz_104]; rfl) (fun j u hj => by rw [add_plain, Nat.zero_add, cell_blk h]; rw [← List.getElem?_toArray] at hj; exact hj)
theorem pl_store {q : Nat} {p : Pl} {cs : Array Value} {w : World} {Q : World → Prop} (h : w.heap[q]? = some (.cells cs 104 (0, 0))) (hc : cs.size = 2) (hQ : ∀ w1, Keep (· = q) w w1 → w1.heap.size = w.heap.size → w1.heap[q]? = some (.cells #[.int .i64 p.1, .int .i64 p.2] 104 (0, 0)) → Q w1) :
    XU Tryz.prog (Instr.storeAt 104 (ptr q) (plV p)) w Q := by
  refine XU_storeAgg (l := [.int .i64 p.1, .int .i64 p.2]) info_104 h (by rw [sz_104, hc]) (by rw [sz_104]; rfl) (by intro u hu; simp only [List.mem_cons, List.not_mem_nil, or_false] at hu; rcases hu with rfl | rfl <;> rfl) ?_
  exact hQ _ (setAt_keep _ _ _ _ _) setAt_size (setAt_same (lt_of_blk h))
theorem pl_res {q : Nat} {p : Pl} {w : World} {Q : Value → Prop} (h : w.heap[q]? = some (.cells #[.int .i64 p.1, .int .i64 p.2] 104 (0, 0))) (hQ : Q (plV p)) : resC Tryz.prog 104 (ptr q) w Q :=
  resC_agg Tryz.underlying104 agg_104 info_104 (l := [.int .i64 p.1, .int .i64 p.2]) h (by rw [sz_104]; rfl) hQ
set_option maxHeartbeats 1000000 in
theorem FFind_spec {D : Nat → Prop} {fb : Nat} {R : List Ex} {k : Ky} {p : Pl} {d : Nat} (h : FindAt w D fb R) (hk : findR R k = some p) (hd : d < 18446744073709551616) (hI : I64 p.1) (hlen : (onShelf R p.1).length ≤ 12)
    (hK : ∀ w1, Keep D w w1 → FindAt w1 (Grown w w1 D) fb R → K (.tuple #[plV p, .bool true]) w1) : CALL Tryz.prog 42 #[ptr fb, k.v, .int .u64 (d : Int)] w K := by
  have hF := h
  obtain ⟨⟨xb, vb, cb, bits, probes, room, n1, n2, T, ks, DI, DV, DC, h1, h2, h3, h4, h5, h6, d1, d2, d3, a1, a2, a3, a4, a5, a6⟩, hf, hlt⟩ := h
  have lfb := hlt _ hf
  obtain ⟨r, hrR, hrk, hro, _⟩ := findR_has hk
  have hin : k ∈ ks := by rw [← hrk]; exact h5 r hrR
  have hDlt : ∀ g, D g → g < w.heap.size := hlt
  apply call_find_Finder_Find
  unfold B_find_Finder_Find
  refine X_box ?_
  have hx1 := newB_ext w k.v.cells 33
  have hg1 : (newB w k.v.cells 33).heap[w.heap.size]? = some (.cells k.cs.toArray 33 (0, 0)) := newB_get w k.v.cells 33
  have hs1 : (newB w k.v.cells 33).heap.size = w.heap.size + 1 := newB_size _ _ _
  generalize newB w k.v.cells 33 = w1 at hx1 hg1 hs1 ⊢
  refine X_alloc zero_104 ?_
  have hx2 := newB_ext w1 (Value.agg #[(.int .i64 0), (.int .i64 0)]).cells 104
  have hg2 : (newB w1 (Value.agg #[(.int .i64 0), (.int .i64 0)]).cells 104).heap[w1.heap.size]? = some (.cells #[Value.int .i64 0, Value.int .i64 0] 104 (0, 0)) := newB_get _ _ _
  have hs2 : (newB w1 (Value.agg #[(.int .i64 0), (.int .i64 0)]).cells 104).heap.size = w1.heap.size + 1 := newB_size _ _ _
  generalize newB w1 (Value.agg #[(.int .i64 0), (.int .i64 0)]).cells 104 = w2 at hx2 hg2 hs2 ⊢
  generalize hrb : w1.heap.size = rb at hg2 hs1 hs2 ⊢
  have hx02 := hx1.trans hx2
  have hg12 := Ext.get hx2 hg1
  generalize hkb : w.heap.size = kb at hg1 hg12 hs1 lfb hDlt ⊢
  have kd := Keep.drew (fun _ => False) w2
  have hx0d := hx02.trans kd
  have hg1d := Ext.get kd hg12
  have hg2d := Ext.get kd hg2
  have sd : (drewW w2).heap.size = w2.heap.size := rfl
  clear kd
  refine ⟨Ext, Ext.frame, ?_⟩
  generalize drewW w2 = wd at hx0d hg1d hg2d sd ⊢
  (repeat (simp only [SLB, Int.reduceEq, Int.reduceNe, Int.reduceLT, Int.reduceLE, Int.reduceGT, Int.reduceGE, XP_field_134_1]))
  refine XR_ok Ext.frame (fun w' kk => run_loadAt (v := ptr vb) agg_127 ((cell_blk (Ext.get (hx0d.trans kk) h1)).trans rfl)) ?_
  (repeat (simp only [SLB, Int.reduceEq, Int.reduceNe, Int.reduceLT, Int.reduceLE, Int.reduceGT, Int.reduceGE]))
  refine XR_ok Ext.frame (fun w' kk => key_load (Ext.get kk hg1d)) ?_
  (repeat (simp only [SLB, Int.reduceEq, Int.reduceNe, Int.reduceLT, Int.reduceLE, Int.reduceGT, Int.reduceGE]))
  refine May_spec (h3.ext hx0d) hin ?_
  intro w3 hx3
  (repeat (simp only [SLB, Int.reduceEq, Int.reduceNe, Int.reduceLT, Int.reduceLE, Int.reduceGT, Int.reduceGE]))
  have hx03 := hx0d.trans hx3
  have hg13 := Ext.get hx3 hg1d
  have hg23 := Ext.get hx3 hg2d
  have sz3 := hx3.size
  refine joinS_of (fun ρ w' => ∃ q, Ext w w' ∧ rb < q ∧ w'.heap[kb]? = some (.cells k.cs.toArray 33 (0, 0)) ∧ w'.heap[rb]? = some (.cells #[.int .i64 0, .int .i64 0] 104 (0, 0)) ∧
      w'.heap[q]? = some (.cells #[.int .i64 ((findT T k).getD (0, 0)).1, .int .i64 ((findT T k).getD (0, 0)).2] 104 (0, 0)) ∧ ρ 0 = ptr fb ∧ ρ 2 = .int .u64 (d : Int) ∧ ρ 4 = ptr kb ∧ ρ 6 = ptr rb ∧ ρ 8 = ptr q ∧ ρ 9 = .bool (findT T k).isSome) ?_ ?_
  case refine_2 =>
    intro J1 hJ1
    have kd := Keep.drew (fun _ => False) w3
    have hx0e := hx03.trans kd
    have hg1e := Ext.get kd hg13
    have hg2e := Ext.get kd hg23
    have se : (drewW w3).heap.size = w3.heap.size := rfl
    refine ⟨Ext, Ext.frame, ?_⟩
    generalize drewW w3 = we at hx0e hg1e hg2e se ⊢
    (repeat (simp only [SLB, Int.reduceEq, Int.reduceNe, Int.reduceLT, Int.reduceLE, Int.reduceGT, Int.reduceGE, XP_field_134_2]))
    refine XR_ok Ext.frame (fun w' kk => run_loadAt (v := ptr cb) agg_130 ((cell_blk (Ext.get (hx0e.trans kk) h1)).trans rfl)) ?_
    refine XR_ok Ext.frame (fun w' kk => key_load (Ext.get kk hg1e)) ?_
    refine two_cget (h4.ext hx0e) (fun _ _ h => h) ?_ ?_
    · intro t q w4 hx4 hq hgq
      exact hJ1 _ _ ⟨q, hx0e.trans hx4, by omega, Ext.get hx4 hg1e, Ext.get hx4 hg2e, hgq, rfl, rfl, rfl, rfl, rfl, rfl⟩
    · intro t q w4 hx4 hq hgq
      exact hJ1 _ _ ⟨q, hx0e.trans hx4, by omega, Ext.get hx4 hg1e, Ext.get hx4 hg2e, hgq, rfl, rfl, rfl, rfl, rfl, rfl⟩
  rintro ρ w4 ⟨q, hx4, hqr, hgk, hgr, hgq, r0, r2, r4, r6, r8, r9⟩
  rw [r0, r4, r6, r8, r9]
  cases hft : findT T k with
  | some p' =>
    have hp' := findT_R hF.nodup h6 hft
    rw [hk] at hp'
    cases hp'
    rw [hft] at hgq
    rw [Option.isSome_some, condS_bool, if_pos rfl]
    refine X_of (pl_load hgq) ?_
    refine pl_store hgr rfl ?_
    intro w5 k5 s5 hg5
    refine pl_res hg5 ?_
    have k05 : Ext w w5 := Ext.seq hx4 k5 (fun g hg => by omega)
    exact hK w5 (Keep.ext k05) ((hF.ext k05).grow (fun g hg => .inl hg) (fun g hg => by
      rcases hg with hg | hg
      · have := hDlt g hg; have := k05.size; omega
      · exact hg.2))
  | none =>
  rw [Option.isSome_none, condS_bool, if_neg (by decide)]
  have h14 := Ext.get hx4 h1
  (repeat (simp only [SLB, Int.reduceEq, Int.reduceNe, Int.reduceLT, Int.reduceLE, Int.reduceGT, Int.reduceGE, X_field_134_3]))
  refine X_of (run_loadAt (v := .int .i64 n1) agg_3 ((cell_blk h14).trans rfl)) ?_
  rw [X_add]
  (repeat (simp only [SLB, Int.reduceEq, Int.reduceNe, Int.reduceLT, Int.reduceLE, Int.reduceGT, Int.reduceGE, X_field_134_3]))
  refine XU_store info_3 sz_3 rfl h14 (Nat.le_of_ble_eq_true rfl) (by show ¬ ((0 : Nat) ≤ 0 + 3 ∧ 0 + 3 < 0); omega) ?_
  obtain ⟨n1', hn1⟩ : ∃ n : Int, (#[ptr xb, ptr vb, ptr cb, Value.int .i64 n1, Value.int .i64 n2].setIfInBounds (0 + 3) (Value.int .i64 (IntKind.i64.wrap (n1 + 1)))) = #[ptr xb, ptr vb, ptr cb, Value.int .i64 n, Value.int .i64 n2] := ⟨_, rfl⟩
  rw [hn1]
  have k45 := setAt_keep w4 fb #[ptr xb, ptr vb, ptr cb, Value.int .i64 n1', Value.int .i64 n2] 134 (0, 0)
  have h15 := setAt_same (cs := #[ptr xb, ptr vb, ptr cb, Value.int .i64 n1', Value.int .i64 n2]) (T := 134) (fr := (0, 0)) (lt_of_blk h14)
  have s5 : (setAt w4 fb #[ptr xb, ptr vb, ptr cb, Value.int .i64 n1', Value.int .i64 n2] 134 (0, 0)).heap.size = w4.heap.size := setAt_size
  generalize setAt w4 fb #[ptr xb, ptr vb, ptr cb, Value.int .i64 n1', Value.int .i64 n2] 134 (0, 0) = w5 at k45 h15 s5 ⊢
  have k05 : Keep (· = fb) w w5 := (Keep.ext hx4).trans k45
  have hgk5 := k45.get (by omega) hgk
  have hgr5 := k45.get (by omega) hgr
  refine joinS_of (fun ρ w' => ∃ q, Keep (· = fb) w w' ∧ rb < q ∧ q < w'.heap.size ∧ w'.heap[fb]? = some (.cells #[ptr xb, ptr vb, ptr cb, Value.int .i64 n1', Value.int .i64 n2] 134 (0, 0)) ∧ w'.heap[rb]? = some (.cells #[.int .i64 0, .int .i64 0] 104 (0, 0)) ∧
      w'.heap[q]? = some (.cells #[.int .i64 p.1, .int .i64 p.2] 104 (0, 0)) ∧ ρ 0 = ptr fb ∧ ρ 2 = .int .u64 (d : Int) ∧ ρ 6 = ptr rb ∧ ρ 10 = ptr q ∧ ρ 11 = .bool true) ?_ ?_
  case refine_2 =>
    intro J2 hJ2
    have kd := Keep.drew (fun _ => False) w5
    have k0e := k05.trans (Keep.ext kd)
    have hg1e := Ext.get kd hgk5
    have hg2e := Ext.get kd hgr5
    have h1e := Ext.get kd h15
    have se : (drewW w5).heap.size = w5.heap.size := rfl
    refine ⟨Ext, Ext.frame, ?_⟩
    have hs45 := hx4.size
    generalize drewW w5 = we at k0e hg1e hg2e h1e se ⊢
    (repeat (simp only [SLB, Int.reduceEq, Int.reduceNe, Int.reduceLT, Int.reduceLE, Int.reduceGT, Int.reduceGE, XP_field_134_0]))
    refine XR_ok Ext.frame (fun w' kk => run_loadAt (v := ptr xb) agg_101 ((cell_blk (Ext.get kk h1e)).trans rfl)) ?_
    refine XR_ok Ext.frame (fun w' kk => key_load (Ext.get kk hg1e)) ?_
    have hrs := lt_of_blk hg2e
    refine two_get (k := k) (h2.keep k0e (fun g hg hg' => a4 (hg' ▸ hg))) (fun _ _ h => h) ?_ ?_
    · intro t q w6 hx6 hq hgq
      rw [hk] at hgq ⊢
      exact hJ2 _ _ ⟨q, k0e.trans (Keep.ext hx6), by omega, lt_of_blk hgq, Ext.get hx6 h1e, Ext.get hx6 hg2e, hgq, r0, r2, r6, rfl, rfl⟩
    · intro t q w6 hx6 hq hgq
      rw [hk] at hgq ⊢
      exact hJ2 _ _ ⟨q, k0e.trans (Keep.ext hx6), by omega, lt_of_blk hgq, Ext.get hx6 h1e, Ext.get hx6 hg2e, hgq, r0, r2, r6, rfl, rfl⟩
  rintro ρ w6 ⟨q, k06, hqr, hqs, h16, hgr6, hgq6, r0, r2, r6, r10, r11⟩
  refine joinS_of (fun ρ w' => Keep D w w' ∧ (∃ E, FindAt w' E fb R ∧ (∀ g, E g → D g ∨ (kb ≤ g ∧ g < w'.heap.size)) ∧ (∀ g, D g → E g) ∧ ¬ E rb) ∧ w'.heap[rb]? = some (.cells #[.int .i64 0, .int .i64 0] 104 (0, 0)) ∧ w'.heap[q]? = some (.cells #[.int .i64 p.1, .int .i64 p.2] 104 (0, 0)) ∧ ρ 6 = ptr rb ∧ ρ 10 = ptr q ∧ ρ 11 = .bool true) ?_ ?_
  · rintro ρ w7 ⟨k7, ⟨E, hF7, hE, hDE, hnr⟩, hgr7, hgq7, s6, s10, s11⟩
    rw [s6, s10, s11]
    refine X_of (pl_load hgq7) ?_
    refine pl_store hgr7 rfl ?_
    intro w8 k8 s8 hg8
    refine pl_res hg8 ?_
    refine hK w8 (Keep.seq k7 k8 (fun g hg hg' => by omega)) ((hF7.keep k8 (fun g hg hg' => hnr (hg' ▸ hg))).grow (fun g hg => ?_) (fun g hg => ?_))
    · rcases hE g hg with hg | hg
      · exact .inl hg
      · exact .inr ⟨by omega, by omega⟩
    · rcases hg with hg | hg
      · have := hF7.lt g (hDE g hg); omega
      · exact hg.2
  intro J3 hJ3
  rw [r11, r0, r10, r2, condS_bool, if_pos rfl]
  (repeat (simp only [SLB, Int.reduceEq, Int.reduceNe, Int.reduceLT, Int.reduceLE, Int.reduceGT, Int.reduceGE, X_field_134_4]))
  refine X_of (run_loadAt (v := .int .i64 n2) agg_3 ((cell_blk h16).trans rfl)) ?_
  rw [X_add]
  (repeat (simp only [SLB, Int.reduceEq, Int.reduceNe, Int.reduceLT, Int.reduceLE, Int.reduceGT, Int.reduceGE, X_field_134_4]))
  refine XU_store info_3 sz_3 rfl h16 (Nat.le_of_ble_eq_true rfl) (by show ¬ ((0 : Nat) ≤ 0 + 4 ∧ 0 + 4 < 0); omega) ?_
  obtain ⟨n2', hn2⟩ : ∃ n : Int, (#[ptr xb, ptr vb, ptr cb, Value.int .i64 n1', Value.int .i64 n2].setIfInBounds (0 + 4) (Value.int .i64 (IntKind.i64.wrap (n2 + 1)))) = #[ptr xb, ptr vb, ptr cb, Value.int .i64 n1', Value.int .i64 n] := ⟨_, rfl⟩
  rw [hn2]
  have k67 := setAt_keep w6 fb #[ptr xb, ptr vb, ptr cb, Value.int .i64 n1', Value.int .i64 n2'] 134 (0, 0)
  have h17 := setAt_same (cs := #[ptr xb, ptr vb, ptr cb, Value.int .i64 n1', Value.int .i64 n2']) (T := 134) (fr := (0, 0)) (lt_of_blk h16)
  have s7 : (setAt w6 fb #[ptr xb, ptr vb, ptr cb, Value.int .i64 n1', Value.int .i64 n2'] 134 (0, 0)).heap.size = w6.heap.size := setAt_size
  generalize setAt w6 fb #[ptr xb, ptr vb, ptr cb, Value.int .i64 n1', Value.int .i64 n2'] 134 (0, 0) = w7 at k67 h17 s7 ⊢
  have k07 : Keep (· = fb) w w7 := k06.trans k67
  have hgr7 := k67.get (by omega) hgr6
  have hgq7 := k67.get (by omega) hgq6
  have kd := Keep.drew (fun _ => False) w7
  have k0e := k07.trans (Keep.ext kd)
  have h1e := Ext.get kd h17
  have hgre := Ext.get kd hgr7
  have hgqe := Ext.get kd hgq7
  have se : (drewW w7).heap.size = w7.heap.size := rfl
  have hkbC : ∀ g, DC g → g < kb := fun g hg => by have := hlt _ (d3 _ hg); omega
  refine ⟨Keep DC, Keep.frame _, ?_⟩
  generalize drewW w7 = we at k0e h1e hgre hgqe se ⊢
  (repeat (simp only [SLB, Int.reduceEq, Int.reduceNe, Int.reduceLT, Int.reduceLE, Int.reduceGT, Int.reduceGE, XP_field_134_2]))
  refine XR_ok (Keep.frame _) (fun w' kk => run_loadAt (v := ptr cb) agg_130 ((cell_blk (Keep.get kk a6 h1e)).trans rfl)) ?_
  (repeat (simp only [SLB, Int.reduceEq, Int.reduceNe, Int.reduceLT, Int.reduceLE, Int.reduceGT, Int.reduceGE, XP_field_104_0]))
  have hqC : ¬ DC q := fun hh => by have := hkbC _ hh; omega
  have hrC : ¬ DC rb := fun hh => by have := hkbC _ hh; omega
  refine XR_ok (Keep.frame _) (fun w' kk => run_loadAt (v := .int .i64 p.1) agg_3 ((cell_blk (Keep.get kk hqC hgqe)).trans rfl)) ?_
  (repeat (simp only [SLB, Int.reduceEq, Int.reduceNe, Int.reduceLT, Int.reduceLE, Int.reduceGT, Int.reduceGE, XP_field_104_0]))
  refine XR_ok (Keep.frame _) (fun w' kk => run_loadAt (v := .int .i64 p.1) agg_3 ((cell_blk (Keep.get kk hqC hgqe)).trans rfl)) ?_
  have h2e := h2.keep k0e (fun g hg hg' => a4 (hg' ▸ hg))
  have h3e := h3.keep k0e (fun g hg hg' => a5 (hg' ▸ hg))
  have h4e := h4.keep k0e (fun g hg hg' => a6 (hg' ▸ hg))
  have sze := k0e.size
  have hFe : FindAt we D fb R := ⟨⟨xb, vb, cb, bits, probes, room, n1', n2', T, ks, DI, DV, DC, h1e, h2e, h3e, h4e, h5, h6, d1, d2, d3, a1, a2, a3, a4, a5, a6⟩, hf, fun g hg => by have := hlt g hg; omega⟩
  refine FShelf_spec hFe ⟨r, hrR, hro⟩ hlen ?_
  intro u rows w8 hx8 hperm hrow hown
  refine ⟨Keep.ext hx8, ?_⟩
  have s8 := hx8.size
  refine Load_spec (h4e.ext hx8) hI hrow (by rw [hperm.length_eq]; omega) hd (fun _ g hg hD => by have := hown g hg; have := hkbC _ hD; omega) ?_
  intro w9 k9 hc9
  refine ⟨k9, ?_⟩
  have s9 := k9.size
  have k09 : Keep D w w9 := ((k0e.mono (fun g _ hg => by subst hg; exact hf)).trans (Keep.ext hx8)).trans (k9.mono (fun g _ hg => d3 g hg))
  refine hJ3 _ _ ⟨k09, ⟨fun g => D g ∨ (w8.heap.size ≤ g ∧ g < w9.heap.size), ⟨⟨xb, vb, cb, bits, probes, room, n1', n2', _, ks, DI, DV, _, k9.get a6 (Ext.get hx8 h1e), (h2e.ext hx8).keep k9 a2, (h3e.ext hx8).keep k9 a3, hc9, h5, ?_, fun g hg => .inl (d1 g hg), fun g hg => .inl (d2 g hg), ?_, a1, ?_, ?_, a4, a5, ?_⟩, .inl hf, ?_⟩, ?_, fun g hg => .inl hg, ?_⟩, k9.get hrC (Ext.get hx8 hgre), k9.get hqC (Ext.get hx8 hgqe), r6, r10, r11⟩
  · intro p' hp'
    rcases loadT_mem hp' with hp' | rfl
    · exact h6 p' hp'
    · exact hperm
  · intro g hg
    rcases hg with hg | hg
    · exact .inl (d3 g hg)
    · exact .inr hg
  · intro g hg hg'
    have := hlt _ (d1 g hg)
    rcases hg' with hg' | hg'
    · exact a2 g hg hg'
    · omega
  · intro g hg hg'
    have := hlt _ (d2 g hg)
    rcases hg' with hg' | hg'
    · exact a3 g hg hg'
    · omega
  · intro hg
    rcases hg with hg | hg
    · exact a6 hg
    · omega
  · intro g hg
    rcases hg with hg | hg
    · have := hlt g hg; omega
    · exact hg.2
  · intro g hg
    rcases hg with hg | hg
    · exact .inl hg
    · exact .inr ⟨by omega, hg.2⟩
  · intro hg
    have := lt_of_blk hgre
    rcases hg with hg | hg
    · have := hDlt _ hg; omega
    · omega
end
end Go.Proofs.YtcigpjejbkngfaaGreatDoor
end
section
set_option maxRecDepth 8000
namespace Go.Proofs.YtcigpjejbkngfaaGreatDoor
open Go Go.Sh Go.RowKit
attribute [local irreducible] X XU XP XR CALL loopS resC closS
structure VauAt (w : World) (D : Nat → Prop) (vb n k : Nat) (c : Nat → List UInt8) : Prop where
  ex : ∃ (b : Nat) (d : Dk), VaultAt w vb b ⟨0, 4, n⟩ ∧ DiskAt w b d ∧ (⟨0, 4, n⟩ : Vt).ok d.safe.length ∧ Live d ∧ d.ws.length ≤ 600 * k ∧ 0 ≤ d.done ∧ d.done ≤ 600 * k ∧ (∀ i, i < n → vget ⟨0, 4, n⟩ d (i : Int) = (c i, 0)) ∧ (∀ g, foot w b g → D g) ∧ ¬ foot w b vb
  vb : D vb
  lt : ∀ g, D g → g < w.heap.size
theorem VauAt.keep {w w1 : World} {D E : Nat → Prop} {vb n k : Nat} {c : Nat → List UInt8} (h : VauAt w D vb n k c) (kp : Keep E w w1) (hd : ∀ g, D g → ¬ E g) : VauAt w1 D vb n k c := by
  obtain ⟨⟨b, d, h1, h2, h3, h4, h5, h6, h7, h8, h9, h10⟩, hv, hlt⟩ := h
  have hb := hd _ (h9 _ (foot_self _ _))
  have hl : w1.heap[b]? = w.heap[b]? := kp.block b (h2.lt b (foot_self _ _)) hb
  refine ⟨⟨b, d, kp.get (hd _ hv) h1, h2.keep kp (fun g hg => hd _ (h9 g hg)), h3, h4, h5, h6, h7, h8, fun g hg => h9 g ((foot_same hl).1 hg), fun hg => h10 ((foot_same hl).1 hg)⟩, hv, fun g hg => by have := hlt g hg; have := kp.size; omega⟩
theorem VauAt.ext {w w1 : World} {D : Nat → Prop} {vb n k : Nat} {c : Nat → List UInt8} (h : VauAt w D vb n k c) (kp : Ext w w1) : VauAt w1 D vb n k c := h.keep kp (fun _ _ h => h)
section
variable {w : World} {K : Value → World → Prop}
theorem VauRoom_spec {D : Nat → Prop} {vb n k : Nat} {c : Nat → List UInt8} (h : VauAt w D vb n k c) (hK : K (i64v 508) w) : CALL Tryz.prog 36 #[ptr vb] w K := by
  obtain ⟨⟨b, d, h1, h2, h3, _⟩, _⟩ := h
  exact VRoom_spec h1 h3 hK
theorem VauLen_spec {D : Nat → Prop} {vb n k : Nat} {c : Nat → List UInt8} (h : VauAt w D vb n k c) (hK : K (i64v (n : Int)) w) : CALL Tryz.prog 35 #[ptr vb] w K := by
  obtain ⟨⟨b, d, h1, h2, h3, _⟩, _⟩ := h
  exact VLen_spec h1 hK
theorem VauGet_spec {D : Nat → Prop} {vb n k i : Nat} {c : Nat → List UInt8} (h : VauAt w D vb n k c) (hi : i < n) (hK : ∀ u w1, Ext w w1 → Bts w1 u (c i) → K (.tuple #[u, i64v 0]) w1) : CALL Tryz.prog 68 #[ptr vb, i64v (i : Int)] w K := by
  obtain ⟨⟨b, d, h1, h2, h3, h4, h5, h6, h7, h8, h9, h10⟩, _⟩ := h
  refine VGet_spec h1 h2 h3 ?_
  rw [h8 i hi]
  exact hK
theorem VauPut_spec {D : Nat → Prop} {vb n k i : Nat} {c : Nat → List UInt8} {x : Value} {bs : List UInt8} (h : VauAt w D vb n k c) (hi : i < n) (hk : k ≤ 1000) (hb : Bts w x bs) (hl : bs.length ≤ 508)
    (hK : ∀ w1, Keep D w w1 → VauAt w1 (Grown w w1 D) vb n (k + 1) (fun j => if j = i then bs else c j) → K (i64v 0) w1) : CALL Tryz.prog 25 #[ptr vb, i64v (i : Int), x] w K := by
  obtain ⟨⟨b, d, h1, h2, h3, h4, h5, h6, h7, h8, h9, h10⟩, hv, hlt⟩ := h
  obtain ⟨p1, p2, p3, p4, p5, p6⟩ := vput_good h2.1 h3 h4 (at_ := i) hi (bs := bs) (by show _ ≤ 4 * 128 - 4; omega) h6 (by omega)
  have pw := vput_ws (⟨0, 4, n⟩ : Vt) d (i : Int) bs
  refine VPut_spec h1 h2 h3 (by omega) hb ?_
  intro w1 hd1 st
  rw [p1]
  have hs := st.size
  have hb1 := st.keep
  refine hK w1 (hb1.mono (fun g _ hg => h9 g hg)) ⟨⟨b, _, hb1.get h10 h1, hd1, by rw [vput_size]; exact h3, p2, by omega, by omega, by omega, ?_, ?_, ?_⟩, .inl hv, ?_⟩
  · intro j hj
    by_cases he : j = i
    · subst he
      rw [if_pos rfl]
      exact p4
    · rw [if_neg he, p5 j hj he]
      exact h8 j hj
  · intro g hg
    have hgl := hd1.lt g hg
    rcases st.grow g hg with hg | hg
    · exact .inl (h9 g hg)
    · exact .inr ⟨hg, hgl⟩
  · intro hg
    rcases st.grow _ hg with hg | hg
    · exact h10 hg
    · have := hlt _ hv; omega
  · intro g hg
    rcases hg with hg | hg
    · have := hlt g hg; omega
    · exact hg.2
theorem VauNew_spec {n b base : Nat} (hn : n ≤ 4096) (hd : DiskAt w b (Dk.new (4 * n))) (hf : ∀ g, foot w b g → base ≤ g)
    (hK : ∀ vb w1, Ext w w1 → VauAt w1 (fun g => base ≤ g ∧ g < w1.heap.size) vb n 0 (fun _ => []) → K (.tuple #[ptr vb, i64v 0]) w1) : CALL Tryz.prog 14 #[ptr b, i64v 0, i64v 4, i64v (n : Int)] w K := by
  have hs : (Dk.new (4 * n)).safe.length = 4 * n := by simp [Dk.new]
  have hvn : vnew (4 * n) 0 4 (n : Int) = some ⟨0, 4, n⟩ := by
    unfold vnew
    rw [if_neg (by omega)]
    rfl
  have hok : (⟨0, 4, n⟩ : Vt).ok (4 * n) := (vnew_ok (by omega) hvn).1
  refine VNew_spec hd (by omega) ?_ ?_
  · rw [hs, hvn]
    intro h
    cases h
  · intro v hv vb w1 hx1 hlo hv1
    rw [hs, hvn] at hv
    cases hv
    have hb0 := hd.lt b (foot_self _ _)
    have hl : w1.heap[b]? = w.heap[b]? := hx1.block b hb0 (fun h => h)
    have hb1 := hf b (foot_self _ _)
    have hsz := hx1.size
    have hvl := lt_of_blk hv1
    have hvf : ¬ foot w1 b vb := fun h => by
      have := hd.lt vb ((foot_same hl).1 h)
      omega
    refine hK vb w1 hx1 ⟨⟨b, _, hv1, hd.ext hx1, by rw [hs]; exact hok, ⟨rfl, rfl⟩, by simp [Dk.new], by simp [Dk.new], by simp [Dk.new], fun i hi => ?_, fun g hg => ?_, hvf⟩, ⟨by omega, hvl⟩, fun g hg => hg.2⟩
    · exact new_get (by omega) hok hi
    · have hg' := (foot_same hl).1 hg
      have := hd.lt g hg'
      exact ⟨hf g hg', by omega⟩
end
end Go.Proofs.YtcigpjejbkngfaaGreatDoor
end
section
namespace Go.Proofs.YtcigpjejbkngfaaGreatDoor
open Go Go.Sh Go.RowKit
attribute [local irreducible] X XU XP XR CALL loopS resC closS
theorem tk {α : Type} (a b : List α) {n : Nat} (h : a.length = n) : (a ++ b).take n = a := by subst h; simp
theorem dr {α : Type} (a b : List α) {n : Nat} (h : a.length = n) : (a ++ b).drop n = b := by subst h; simp
theorem be4_num {l : List UInt8} (h : l.length = 4) : be 4 (num l) = l := by have := be_num l; rwa [h] at this
theorem be2_num {l : List UInt8} (h : l.length = 2) : be 2 (num l) = l := by have := be_num l; rwa [h] at this
theorem num_be4 {n : Nat} (h : n < 4294967296) : num (be 4 n) = n := by rw [num_be]; exact Nat.mod_eq_of_lt h
theorem num_be2 {n : Nat} (h : n < 65536) : num (be 2 n) = n := by rw [num_be]; exact Nat.mod_eq_of_lt h
theorem num_lt4 {l : List UInt8} (h : l.length = 4) : num l < 4294967296 := by have := num_lt l; rw [h] at this; exact this
theorem num_lt2 {l : List UInt8} (h : l.length = 2) : num l < 65536 := by have := num_lt l; rw [h] at this; exact this
def Fit (l : List Pp) : Prop := l.length < 65536 ∧ ∀ p ∈ l, p.bs.length < 65536
theorem fit_chk {l : List Pp} (h : chk l = 0) : Fit l := by
  obtain ⟨_, k2, k3, _, _⟩ := chk_ok h
  exact ⟨by omega, fun p hp => by have := k3 p hp; omega⟩
theorem body_split {id : Nat} {l : List Pp} (hid : id < 4294967296) (hf : Fit l) : num ((bodyP id l).take 4) = id ∧ num (((bodyP id l).drop 4).take 2) = l.length ∧
    ((bodyP id l).take (6 + 38 * l.length)).drop 6 = rowsP l ∧ (bodyP id l).drop (6 + 38 * l.length) = dataP l := by
  have e : bodyP id l = be 4 id ++ (be 2 l.length ++ (rowsP l ++ dataP l)) := by simp [bodyP, List.append_assoc]
  have e2 : bodyP id l = (be 4 id ++ be 2 l.length) ++ (rowsP l ++ dataP l) := by simp [bodyP, List.append_assoc]
  have e3 : bodyP id l = (be 4 id ++ be 2 l.length ++ rowsP l) ++ dataP l := rfl
  refine ⟨?_, ?_, ?_, ?_⟩
  · rw [e, tk _ _ (be_length 4 id), num_be4 hid]
  · rw [e, dr _ _ (be_length 4 id), tk _ _ (be_length 2 _), num_be2 hf.1]
  · rw [e3, tk _ _ (by simp [rowsP_len]; omega), dr _ _ (by simp)]
  · rw [e3, dr _ _ (by simp [rowsP_len]; omega)]
theorem body_of {x : List UInt8} {n : Nat} (h : 6 + 38 * n ≤ x.length) (hn : num ((x.drop 4).take 2) = n) : x = be 4 (num (x.take 4)) ++ be 2 n ++ ((x.take (6 + 38 * n)).drop 6) ++ x.drop (6 + 38 * n) := by
  rw [be4_num (by simp; omega), ← hn, be2_num (by simp; omega), hn]
  have e1 : x.take 4 ++ (x.drop 4).take 2 = x.take 6 := by rw [show (6 : Nat) = 4 + 2 from rfl, List.take_add]
  have e2 : x.take 6 ++ (x.take (6 + 38 * n)).drop 6 = x.take (6 + 38 * n) := by
    have : x.take 6 = (x.take (6 + 38 * n)).take 6 := by rw [List.take_take]; congr 1; omega
    rw [this, List.take_append_drop]
  rw [e1, e2, List.take_append_drop]
def kyOf (rows : List UInt8) (h : 38 ≤ rows.length) : Ky := ⟨rows.take 32, num (((rows.take 38).drop 32).take 4), by simp; omega, num_lt4 (by simp; omega)⟩
theorem row_of {rows : List UInt8} (h : 38 ≤ rows.length) {d : List UInt8} (hd : d.length = num (((rows.take 38).drop 32).drop 4)) : rows = rowP ⟨kyOf rows h, d⟩ ++ rows.drop 38 := by
  have e : rowP ⟨kyOf rows h, d⟩ = rows.take 38 := by
    unfold rowP kyOf
    show rows.take 32 ++ be 4 (num (((rows.take 38).drop 32).take 4)) ++ be 2 d.length = _
    rw [be4_num (by simp; omega), hd, be2_num (by simp; omega), List.append_assoc, List.take_append_drop]
    have : rows.take 32 = (rows.take 38).take 32 := by rw [List.take_take]; congr 1
    rw [this, List.take_append_drop]
  rw [e, List.take_append_drop]
theorem row_split {p : Pp} {l : List Pp} (hp : p.bs.length < 65536) (h : 38 ≤ (rowsP (p :: l)).length) : kyOf (rowsP (p :: l)) h = p.k ∧ num ((((rowsP (p :: l)).take 38).drop 32).drop 4) = p.bs.length ∧ (rowsP (p :: l)).drop 38 = rowsP l := by
  have e : rowsP (p :: l) = rowP p ++ rowsP l := by simp [rowsP]
  have e0 : rowP p = p.k.sum ++ (be 4 p.k.num ++ be 2 p.bs.length) := by simp [rowP]
  have e38 : (rowsP (p :: l)).take 38 = rowP p := by rw [e, tk _ _ (rowP_len p)]
  have e6 : ((rowsP (p :: l)).take 38).drop 32 = be 4 p.k.num ++ be 2 p.bs.length := by rw [e38, e0, dr _ _ p.k.len]
  refine ⟨Ky.ext' ?_ ?_, ?_, ?_⟩
  · show (rowsP (p :: l)).take 32 = _
    rw [e, e0, List.append_assoc, tk _ _ p.k.len]
  · show num ((((rowsP (p :: l)).take 38).drop 32).take 4) = _
    rw [e6, tk _ _ (be_length 4 _), num_be4 p.k.lt]
  · rw [e6, dr _ _ (be_length 4 _), num_be2 hp]
  · rw [e, dr _ _ (rowP_len p)]
theorem dataP_cons (p : Pp) (l : List Pp) : dataP (p :: l) = p.bs ++ dataP l := by simp [dataP]
theorem rowsP_app (l : List Pp) (p : Pp) : rowsP (l ++ [p]) = rowsP l ++ rowP p := by simp [rowsP]
theorem dataP_app (l : List Pp) (p : Pp) : dataP (l ++ [p]) = dataP l ++ p.bs := by simp [dataP]
structure Parsing (x : List UInt8) (id n : Nat) (done : List Pp) (rows data : List UInt8) : Prop where
  eq : x = be 4 id ++ be 2 n ++ (rowsP done ++ rows) ++ (dataP done ++ data)
  len : rows.length + 38 * done.length = 38 * n
  fit : ∀ p ∈ done, p.bs.length < 65536
  all : ∀ id' l', id' < 4294967296 → Fit l' → x = bodyP id' l' → id' = id ∧ ∃ r, l' = done ++ r ∧ rows = rowsP r ∧ data = dataP r
theorem parsing_start {x : List UInt8} (h : 6 + 38 * num ((x.drop 4).take 2) ≤ x.length) :
    Parsing x (num (x.take 4)) (num ((x.drop 4).take 2)) [] ((x.take (6 + 38 * num ((x.drop 4).take 2))).drop 6) (x.drop (6 + 38 * num ((x.drop 4).take 2))) where
  eq := by
    show x = be 4 _ ++ be 2 _ ++ ([] ++ _) ++ ([] ++ _)
    rw [List.nil_append, List.nil_append]
    exact body_of h rfl
  len := by simp; omega
  fit := by simp
  all := by
    intro id' l' hid hf e
    obtain ⟨h1, h2, h3, h4⟩ := body_split hid hf
    rw [← e] at h1 h2 h3 h4
    refine ⟨h1.symm, l', rfl, ?_, ?_⟩
    · rw [h2]; exact h3
    · rw [h2]; exact h4
theorem no_short {x : List UInt8} (h : x.length < 6) (id l) : x ≠ bodyP id l := by
  intro e
  have := bodyP_len id l
  rw [← e] at this
  omega
theorem no_many {x : List UInt8} (h : ¬ 6 + 38 * num ((x.drop 4).take 2) ≤ x.length) {id : Nat} {l : List Pp} (hid : id < 4294967296) (hf : Fit l) : x ≠ bodyP id l := by
  intro e
  obtain ⟨h1, h2, _, _⟩ := body_split hid hf
  rw [← e] at h2
  have := bodyP_len id l
  rw [← e] at this
  omega
theorem Parsing.more {x : List UInt8} {id n : Nat} {done : List Pp} {rows data : List UInt8} (p : Parsing x id n done rows data) (h : 38 ≤ rows.length) (hs : num (((rows.take 38).drop 32).drop 4) ≤ data.length) :
    Parsing x id n (done ++ [⟨kyOf rows h, data.take (num (((rows.take 38).drop 32).drop 4))⟩]) (rows.drop 38) (data.drop (num (((rows.take 38).drop 32).drop 4))) where
  eq := by
    have hr := row_of h (d := data.take (num (((rows.take 38).drop 32).drop 4))) (by rw [List.length_take]; omega)
    rw [rowsP_app, dataP_app, List.append_assoc (rowsP done), ← hr, List.append_assoc (dataP done), List.take_append_drop]
    exact p.eq
  len := by have := p.len; simp; omega
  fit := by
    intro q hq
    rcases List.mem_append.1 hq with hq | hq
    · exact p.fit q hq
    · rw [List.mem_singleton.1 hq]
      show (data.take _).length < 65536
      have : num (((rows.take 38).drop 32).drop 4) < 65536 := num_lt2 (by simp; omega)
      rw [List.length_take]
      omega
  all := by
    intro id' l' hid hf e
    obtain ⟨h1, r, h2, h3, h4⟩ := p.all id' l' hid hf e
    refine ⟨h1, ?_⟩
    cases r with
    | nil => rw [h3] at h; simp [rowsP] at h
    | cons q r =>
      subst h3
      obtain ⟨g1, g2, g3⟩ := row_split (hf.2 q (by rw [h2]; simp)) h
      rw [g1, g2, g3, h4, dataP_cons, tk _ _ rfl, dr _ _ rfl]
      exact ⟨r, by rw [h2]; simp, rfl, rfl⟩
theorem Parsing.stuck {x : List UInt8} {id n : Nat} {done : List Pp} {rows data : List UInt8} (p : Parsing x id n done rows data) (h : 38 ≤ rows.length) (hs : ¬ num (((rows.take 38).drop 32).drop 4) ≤ data.length) {id' : Nat} {l' : List Pp} (hid : id' < 4294967296) (hf : Fit l') : x ≠ bodyP id' l' := by
  intro e
  obtain ⟨h1, r, h2, h3, h4⟩ := p.all id' l' hid hf e
  cases r with
  | nil => rw [h3] at h; simp [rowsP] at h
  | cons q r =>
    subst h3
    obtain ⟨g1, g2, g3⟩ := row_split (hf.2 q (by rw [h2]; simp)) h
    rw [g2, h4, dataP_cons] at hs
    exact hs (by simp)
theorem Parsing.done {x : List UInt8} {id n : Nat} {done : List Pp} (p : Parsing x id n done [] []) (hn : n < 65536) : x = bodyP id done ∧ Fit done := by
  have h1 := p.len
  have h2 := p.eq
  have e : n = done.length := by simp at h1; omega
  subst e
  refine ⟨?_, hn, p.fit⟩
  rw [h2]
  simp [bodyP]
theorem Parsing.rest {x : List UInt8} {id n : Nat} {done : List Pp} {data : List UInt8} (p : Parsing x id n done [] data) (hd : data ≠ []) {id' : Nat} {l' : List Pp} (hid : id' < 4294967296) (hf : Fit l') : x ≠ bodyP id' l' := by
  intro e
  obtain ⟨h1, r, h2, h3, h4⟩ := p.all id' l' hid hf e
  cases r with
  | nil => exact hd h4
  | cons q r =>
    have := rowsP_len (q :: r)
    rw [← h3] at this
    simp at this
theorem lay_inj {id id' : Nat} {l l' : List Pp} (hid : id < 4294967296) (hid' : id' < 4294967296) (hf : Fit l) (hf' : Fit l') (h : bodyP id l = bodyP id' l') : id = id' ∧ l = l' := by
  have key : ∀ (l l' : List Pp), (∀ p ∈ l, p.bs.length < 65536) → (∀ p ∈ l', p.bs.length < 65536) → rowsP l = rowsP l' → dataP l = dataP l' → l = l' := by
    intro l
    induction l with
    | nil =>
      intro l' _ _ hr _
      have := rowsP_len l'
      rw [← hr] at this
      exact (List.eq_nil_of_length_eq_zero (by simp [rowsP] at this; omega)).symm
    | cons p l ih =>
      intro l' h1 h2 hr hd
      cases l' with
      | nil =>
        have := rowsP_len (p :: l)
        rw [hr] at this
        simp [rowsP] at this
      | cons q r =>
        have hlen : 38 ≤ (rowsP (p :: l)).length := by rw [rowsP_len, List.length_cons]; omega
        have hlen' : 38 ≤ (rowsP (q :: r)).length := by rw [rowsP_len, List.length_cons]; omega
        obtain ⟨g1, g2, g3⟩ := row_split (h1 p (by simp)) hlen
        obtain ⟨k1, k2, k3⟩ := row_split (h2 q (by simp)) hlen'
        have e1 : p.k = q.k := by
          rw [← g1, ← k1]
          congr 1
        have e2 : p.bs.length = q.bs.length := by rw [← g2, ← k2, hr]
        rw [dataP_cons, dataP_cons] at hd
        obtain ⟨e3, e4⟩ := List.append_inj hd e2
        have e5 := ih r (fun p hp => h1 p (by simp [hp])) (fun p hp => h2 p (by simp [hp])) (by rw [← g3, ← k3, hr]) e4
        rw [e5]
        congr 1
        cases p; cases q
        simp only at e1 e3
        rw [e1, e3]
  obtain ⟨h1, h2, h3, h4⟩ := body_split hid hf
  obtain ⟨k1, k2, k3, k4⟩ := body_split hid' hf'
  rw [h] at h1 h2 h3 h4
  have hl : l.length = l'.length := by rw [← h2, ← k2]
  refine ⟨h1.symm.trans k1, key l l' hf.2 hf'.2 ?_ ?_⟩
  · rw [← h3, ← k3, hl]
  · rw [← h4, ← k4, hl]
end Go.Proofs.YtcigpjejbkngfaaGreatDoor
end
section
namespace Go.Proofs.YtcigpjejbkngfaaGreatDoor
open Go Go.Sh Go.RowKit
attribute [local irreducible] X XU XP XR CALL loopS resC closS
structure Told (w : World) (base q : Nat) (vl : Value) (cs : List Pc) : Prop where
  cell : w.heap[q]? = some (.cells #[vl] 41 (0, 0))
  low : base ≤ q
  row : OwnK 34 40 Pc.cs w base vl cs
  data : ∀ c ∈ cs, w.ownsRow base 5 1 c.dv c.p.bs.length (B8 c.p.bs)
  apart : cs.Pairwise (fun c d => ∀ g, c.dv.ownBlock = some g → d.dv.ownBlock ≠ some g)
theorem Told.inn {w : World} {base q : Nat} {vl : Value} {cs : List Pc} (h : Told w base q vl cs) : ∀ c ∈ cs, c.In w := fun c hc => (own_bts (h.data c hc)).1
theorem Told.keep {w w1 : World} {base q : Nat} {vl : Value} {cs : List Pc} {D : Nat → Prop} (h : Told w base q vl cs) (k : Keep D w w1) (hd : ∀ g, base ≤ g → (∀ cs' fr, w.heap[g]? = some (.cells cs' 41 fr) ∨ w.heap[g]? = some (.cells cs' 40 fr) ∨ w.heap[g]? = some (.cells cs' 5 fr) → ¬ D g)) : Told w1 base q vl cs where
  cell := k.get (hd q h.low _ _ (.inl h.cell)) h.cell
  low := h.low
  row := h.row.keep k (fun g hg => by obtain ⟨cs', hc⟩ := own_blkT h.row hg; exact hd g (h.row.lt g hg).1 _ _ (.inr (.inl hc)))
  data := fun c hc => own_keepD (h.data c hc) k (fun g hg => by obtain ⟨cs', hc'⟩ := own_blkT (h.data c hc) hg; exact hd g ((h.data c hc).lt g hg).1 _ _ (.inr (.inr hc')))
  apart := h.apart
theorem Told.ext {w w1 : World} {base q : Nat} {vl : Value} {cs : List Pc} (h : Told w base q vl cs) (k : Ext w w1) : Told w1 base q vl cs := h.keep k (fun _ _ _ _ _ h => h)
theorem Told.slice {w : World} {base q : Nat} {vl : Value} {cs : List Pc} (h : Told w base q vl cs) : RowK 34 Pc.cs w vl cs := h.row.rowK (by decide) Pc.len
section
variable {w : World} {K : Value → World → Prop}
set_option maxHeartbeats 1000000 in
theorem told_spec {base q : Nat} {vl x : Value} {cs : List Pc} {k : Ky} {bs : List UInt8} (ht : Told w base q vl cs) (hb : Bts w x bs) (hl : bs.length ≤ 1000000000) (hn : cs.length ≤ 1000000)
    (hK : ∀ vl' dv w1, Keep (fun i => i = q ∨ vl.ownBlock = some i) w w1 → Told w1 base q vl' (cs ++ [⟨⟨k, bs⟩, dv⟩]) → K (.tuple #[]) w1) : CALL Tryz.prog 95 #[k.v, x, ptr q] w K := by
  have hqlt := lt_of_blk ht.cell
  apply call_cont_Take_1
  unfold B_cont_Take_1
  refine X_box ?_
  have hx1 := newB_ext w k.v.cells 33
  have hg1 := newB_get w k.v.cells 33
  generalize newB w k.v.cells 33 = w1 at hx1 hg1 ⊢
  have hxd := hx1.trans (Keep.drew (fun _ => False) w1)
  have hgd : (drewW w1).heap[w.heap.size]? = some (.cells k.v.cells 33 (0, 0)) := hg1
  have td := ht.ext hxd
  have hbd := hb.ext hxd
  refine ⟨Keep (fun g => vl.ownBlock = some g), Keep.frame _, ?_⟩
  generalize drewW w1 = wd at hxd hgd td hbd ⊢
  refine XR_ok (Keep.frame _) (fun w' kk => run_loadAt agg_41 (cell_blk (kk.get (own_neT td.row td.cell (by decide)) td.cell))) ?_
  refine XR_ok (Keep.frame _) (fun w' kk => load_cells (l := k.cs) Tryz.underlying33 agg_33 info_33 (by rw [sz_33, Ky.cs_len]) (fun j u hj => ?_)) ?_
  · have hg' := kk.get (own_neT td.row hgd (by decide)) hgd
    rw [add_plain, Nat.zero_add, cell_blk hg']
    simpa [Value.cells] using hj
  refine X_append_btsW (base := base) Tryz.underlying28 el_5 (n := 0) (xs := []) (World.ownsRow_nil wd base 5 1) hbd (by omega) (Nat.le_trans ht.low (by have := hxd.size; omega)) ?_
  intro dv w2 ho hk hnew
  have hx2 : Ext wd w2 := hk.mono (fun i _ h => by cases h)
  have ho : w2.ownsRow base 5 1 dv bs.length (B8 bs) := by simpa using ho
  obtain ⟨a, c, e⟩ := Bts.slice (own_bts ho).1
  refine ⟨Keep.ext hx2, ?_⟩
  subst e
  refine XP_of (fun w' => run_build_40b k bs w') ?_
  refine X_buildSliceK Tryz.underlying41 el_40 (by decide) (by decide) (Pc.len _) ?_
  have hx3 := newB_ext w2 (Pc.cs ⟨⟨k, bs⟩, .slice a bs.length c⟩).toArray 40
  have hg3 := newB_get w2 (Pc.cs ⟨⟨k, bs⟩, .slice a bs.length c⟩).toArray 40
  show Keep _ w2 (newB w2 (Pc.cs ⟨⟨k, bs⟩, .slice a bs.length c⟩).toArray 40) ∧ X _ _ (newB w2 (Pc.cs ⟨⟨k, bs⟩, .slice a bs.length c⟩).toArray 40) _
  generalize newB w2 (Pc.cs ⟨⟨k, bs⟩, .slice a bs.length c⟩).toArray 40 = w3 at hx3 hg3 ⊢
  refine ⟨Keep.ext hx3, ?_⟩
  have hx23 := hx2.trans hx3
  have t3 := td.ext hx23
  have ho3 := own_extD ho hx3
  have hrow : RowK 34 Pc.cs w3 (.slice (some ⟨w2.heap.size, 0, none⟩) 1 1) [⟨⟨k, bs⟩, .slice a bs.length c⟩] := by
    refine RowK.ofK (T := 40) (fr := (0, 0)) (by decide) Pc.len ?_ rfl (by decide)
    rw [hg3]
    unfold cellsK
    simp
  refine X_appendK Tryz.underlying41 el_40 (by decide) Pc.len (fun x hx => by rw [List.mem_singleton.1 hx]; exact Pc.one (own_bts ho3).1) t3.row hrow (by simp; omega) (by decide) (Nat.le_trans t3.low (Nat.le_of_lt (lt_of_blk t3.cell))) ?_
  intro vl' w4 ho4 hk4
  have hk4' : Keep (fun g => vl.ownBlock = some g) w3 w4 := hk4.mono (fun i _ h => h.symm)
  refine ⟨hk4', ?_⟩
  have hq4 := hk4'.get (own_neT t3.row t3.cell (by decide)) t3.cell
  obtain ⟨a', c', e'⟩ := (ho4.rowK (by decide) Pc.len).slice
  refine XU_store info_41 sz_41 (by rw [e']; rfl) hq4 (by show 0 < 1; decide) (by decide) ?_
  have hk5 := setAt_keep w4 q (#[vl].setIfInBounds 0 vl') 41 (0, 0)
  have hs5 : (setAt w4 q (#[vl].setIfInBounds 0 vl') 41 (0, 0)).heap[q]? = some (.cells #[vl'] 41 (0, 0)) := setAt_same (lt_of_blk hq4)
  generalize setAt w4 q (#[vl].setIfInBounds 0 vl') 41 (0, 0) = w5 at hk5 hs5 ⊢
  have hx03 : Ext w w3 := hxd.trans hx23
  refine hK vl' (.slice a bs.length c) w5 ?_ ⟨hs5, ht.low, ho4.keep hk5 (fun g hg hgq => ?_), ?_, ?_⟩
  · refine Keep.trans (Keep.trans (Keep.ext hx03) (hk4'.mono (fun i _ h => .inr h))) (hk5.mono (fun i _ h => .inl h))
  · subst hgq
    exact own_neT ho4 hq4 (by decide) hg
  · have both : ∀ {v : Value} {bb : List UInt8}, w3.ownsRow base 5 1 v bb.length (B8 bb) → w5.ownsRow base 5 1 v bb.length (B8 bb) := by
      intro v bb h
      have h4 : w4.ownsRow base 5 1 v bb.length (B8 bb) := own_keepD h hk4' (fun g hg hg' => own_neO h t3.row (by decide) hg hg')
      refine own_keepD h4 hk5 (fun g hg hgq => ?_)
      subst hgq
      exact own_neT h4 hq4 (by decide) hg
    intro d hd
    rcases List.mem_append.1 hd with hd | hd
    · exact both (t3.data d hd)
    · rw [List.mem_singleton.1 hd]
      exact both ho3
  · rw [List.pairwise_append]
    refine ⟨ht.apart, by simp, fun d hd d' hd' g hg hg' => ?_⟩
    rw [List.mem_singleton.1 hd'] at hg'
    rcases hnew g hg' with h | h
    · cases h
    · have := ((td.data d hd).lt g hg).2
      omega
end
theorem cut_hi3 {P : Program} {T e : TypeId} (hT : P.underlying T = some (.slice e)) (hi : infoB P e = true) {v : Value} {bs : List UInt8} {w0 : World} (hb : Bts w0 v bs) {kh km : IntKind} {hj mj : Int} (h' : Nat) (e2 : hj = h') (e3 : mj = h') (h1 : h' ≤ bs.length) :
    ∃ u, (∀ w, (Instr.sliceAt T v none (some (.int kh hj)) (some (.int km mj))).run P w = .ok u w) ∧ Bts w0 u (bs.take h') ∧ u.ownBlock = v.ownBlock := by
  subst e2; subst e3
  obtain ⟨a, c, rfl, g1, g2, g3⟩ := hb
  refine ⟨.slice (if h' = 0 then a else a.map (·.add 0)) h' h', fun w => ?_, ?_, ?_⟩
  · have q1 : h' ≤ c := by omega
    simp [Instr.sliceAt, Instr.slice, run_underlying hT, Instr.sliceBounds, Instr.sliceBound, asIntOf, sizeOf_run hi, q1]
  · have hlen : (bs.take h').length = h' := by rw [List.length_take]; omega
    rw [map_add0]
    refine ⟨a, h', by rw [hlen], by rw [hlen]; exact Nat.le_refl _, by omega, fun h0 => ?_⟩
    rw [hlen] at h0
    obtain ⟨ad, rfl, hc⟩ := g3 (by omega)
    refine ⟨ad, rfl, fun j u hj => hc j u ?_⟩
    rw [List.getElem?_take] at hj
    split at hj
    · exact hj
    · cases hj
  · rw [map_add0]
    cases a <;> rfl
end Go.Proofs.YtcigpjejbkngfaaGreatDoor
end
section
namespace Go.Proofs.YtcigpjejbkngfaaGreatDoor
open Go Go.Sh Go.RowKit
attribute [local irreducible] X XU XP XR CALL loopS resC closS
theorem cw32 {n : Nat} (h : n < 4294967296) : IntKind.u32.wrap (n : Int) = (n : Int) := by rw [wrap_u32]; omega
theorem getR4' {b : List UInt8} (h : 4 ≤ b.length) : getR b 0 4 = (num (b.take 4), b.drop 4, 0) := by
  have e4 : (4 : Int).toNat = 4 := rfl
  simp only [getR, e4]
  rw [if_neg (by simp), if_neg (by decide), if_neg (by omega)]
theorem getR2' {b : List UInt8} (h : 2 ≤ b.length) : getR b 0 2 = (num (b.take 2), b.drop 2, 0) := by
  have e4 : (2 : Int).toNat = 2 := rfl
  simp only [getR, e4]
  rw [if_neg (by simp), if_neg (by decide), if_neg (by omega)]
structure Part (w : World) (B : Nat) (v : Value) (bs : List UInt8) : Prop where
  bts : Bts w v bs
  blk : ∀ g, v.ownBlock = some g → g = B
theorem Part.keep {w w1 : World} {B : Nat} {v : Value} {bs : List UInt8} {D : Nat → Prop} (h : Part w B v bs) (k : Keep D w w1) (hd : ¬ D B) : Part w1 B v bs :=
  ⟨h.bts.keep k (fun g hg => by rw [h.blk g hg]; exact hd), h.blk⟩
theorem Part.ext {w w1 : World} {B : Nat} {v : Value} {bs : List UInt8} (h : Part w B v bs) (k : Ext w w1) : Part w1 B v bs := h.keep k (fun h => h)
section
variable {w : World} {K : Value → World → Prop}
set_option maxHeartbeats 4000000 in
theorem each_spec {v : Value} {b : List UInt8} {base q : Nat} {vl : Value} (hb : Bts w v b) (hl : b.length ≤ 1000000) (ht : Told w base q vl [])
    (h0 : (∀ id l, id < 4294967296 → Fit l → openB b ≠ some (bodyP id l)) → ∀ u vl' cs w1, Keep (fun g => base ≤ g) w w1 → Told w1 base q vl' cs → K (.tuple #[u, .bool false]) w1)
    (h1 : ∀ id l, id < 4294967296 → Fit l → openB b = some (bodyP id l) → ∀ vl' cs w1, pl cs = l → Keep (fun g => base ≤ g) w w1 → Told w1 base q vl' cs → K (.tuple #[.int .u32 (id : Int), .bool true]) w1) :
    CALL Tryz.prog 94 #[v, .func (.func 95) #[] #[ptr q]] w K := by
  have hqlt := lt_of_blk ht.cell
  apply call_cont_each
  unfold B_cont_each
  refine Open_spec hb (by omega) (fun hn w1 hx1 => ?_) (fun x v1 w1 hx hx1 ho1 => ?_)
  · (repeat (simp only [SLB, Int.reduceEq, Int.reduceNe, Int.reduceLT, Int.reduceLE, Int.reduceGT, Int.reduceGE]))
    exact h0 (fun id l _ _ h => by rw [hn] at h; cases h) _ _ _ _ (Keep.ext hx1) (ht.ext hx1)
  have hxl : x.length ≤ b.length := by
    unfold openB at hx
    split at hx
    · cases hx
    · split at hx
      · injection hx with hx
        rw [← hx, List.length_take]
        omega
      · cases hx
  have hb1 := (own_bts ho1).1
  obtain ⟨a1, c1, e1⟩ := Bts.slice hb1
  have fail : (∀ id l, id < 4294967296 → Fit l → x ≠ bodyP id l) → ∀ u vl' cs w1, Keep (fun g => base ≤ g) w w1 → Told w1 base q vl' cs → K (.tuple #[u, .bool false]) w1 :=
    fun h => h0 (fun id l hid hf he => by rw [hx] at he; injection he with he; exact h id l hid hf he)
  have t1 := ht.ext hx1
  rw [e1]
  (repeat (simp only [SLB, Int.reduceEq, Int.reduceNe, Int.reduceLT, Int.reduceLE, Int.reduceGT, Int.reduceGE]))
  by_cases h6 : x.length < 6
  · have c : decide ((x.length : Int) < 6) = true := by simp; omega
    (repeat (simp only [SLB, Int.reduceEq, Int.reduceNe, Int.reduceLT, Int.reduceLE, Int.reduceGT, Int.reduceGE, c]))
    exact fail (fun id l _ _ => no_short h6 id l) _ _ _ _ (Keep.ext hx1) t1
  have c : decide ((x.length : Int) < 6) = false := by simp; omega
  (repeat (simp only [SLB, Int.reduceEq, Int.reduceNe, Int.reduceLT, Int.reduceLE, Int.reduceGT, Int.reduceGE, c]))
  rw [← e1]
  obtain ⟨B, hB1, hB2⟩ : ∃ B, v1.ownBlock = some B ∧ w.heap.size ≤ B := by
    rcases ho1.2 with ⟨_, h⟩ | ⟨g, cap, cur, e, hg, _⟩
    · omega
    · exact ⟨g, by rw [e]; rfl, hg⟩
  obtain ⟨Bc, hBg⟩ := own_blkT ho1 hB1
  have p1 : Part w1 B v1 x := ⟨hb1, fun g hg => by rw [hB1] at hg; injection hg with hg; exact hg.symm⟩
  have hBlt := lt_of_blk hBg
  obtain ⟨v2, hv2, hb2, k2⟩ := cut_hi Tryz.underlying28 info_5 hb1 (kh := .i64) (hj := 6) 6 rfl (by omega)
  refine X_of (hv2 _) ?_
  refine New_spec hb2 (by rw [List.length_take]; omega) ?_
  intro rb w2 hx2 hrb hr2
  have h6l : (x.take 6).length = 6 := by rw [List.length_take]; omega
  have hBrb : B ≠ rb := by omega
  refine Get_spec hr2 ?_
  intro w3 hk3 hr3
  rw [getR4' (by omega)] at hr3 ⊢
  have e46 : (x.take 6).take 4 = x.take 4 := by rw [List.take_take]; congr 1
  have e26 : ((x.take 6).drop 4).take 2 = (x.drop 4).take 2 := by
    rw [List.drop_take]
    rw [List.take_take]
    congr 1
  have hid : num (x.take 4) < 4294967296 := num_lt4 (by simp; omega)
  have hn16 : num ((x.drop 4).take 2) < 65536 := num_lt2 (by simp; omega)
  have hstart := parsing_start (x := x)
  have hmany : ¬ 6 + 38 * num ((x.drop 4).take 2) ≤ x.length → ∀ id l, id < 4294967296 → Fit l → x ≠ bodyP id l := fun h id l hid hf => no_many h hid hf
  show X _ (convert 37 31 (.int .u64 ((num ((x.take 6).take 4) : Nat) : Int))) _ _
  rw [e46, X_conv_37_31, cw32 hid]
  refine Get_spec hr3 ?_
  intro w4 hk4 hr4
  show X _ (convert 37 3 (.int .u64 (((getR ((x.take 6).drop 4) 0 2).1 : Nat) : Int))) _ _
  rw [getR2' (by simp; omega), e26, X_conv_37_3, w64 (by omega) (by omega)]
  generalize num (x.take 4) = id at hid hstart ⊢
  generalize num ((x.drop 4).take 2) = n at hn16 hstart hmany ⊢
  have hk24 : Keep (fun g => g = rb) w2 w4 := hk3.trans hk4
  have hk14 : Keep (fun g => w1.heap.size ≤ g) w1 w4 := Keep.trans (Keep.ext hx2) (hk24.mono (fun i hi h => by subst h; omega))
  have hx14 : Ext w1 w4 := ⟨hk14.os, hk14.tape, hk14.output, hk14.size, fun i hi _ => hk14.block i hi (by omega)⟩
  have hx04 := hx1.trans hx14
  have t4 := t1.ext hx14
  have p4 := p1.ext hx14
  have hBg4 := hx14.get hBg
  rw [e1]
  (repeat (simp only [SLB, Int.reduceEq, Int.reduceNe, Int.reduceLT, Int.reduceLE, Int.reduceGT, Int.reduceGE]))
  rw [X_sub, w64 (by omega) (by omega)]
  refine X_of (run_quo 3 .i64 _ 38 (by decide) _) ?_
  rw [tdiv_ediv (by omega), w64 (by omega) (by omega)]
  (repeat (simp only [SLB, Int.reduceEq, Int.reduceNe, Int.reduceLT, Int.reduceLE, Int.reduceGT, Int.reduceGE]))
  by_cases hm : 6 + 38 * n ≤ x.length
  case neg =>
    have c : decide ((n : Int) > ((x.length : Int) - 6) / 38) = true := by simp; omega
    (repeat (simp only [SLB, Int.reduceEq, Int.reduceNe, Int.reduceLT, Int.reduceLE, Int.reduceGT, Int.reduceGE, c]))
    exact fail (hmany hm) _ _ _ _ (Keep.ext hx04) t4
  have c : decide ((n : Int) > ((x.length : Int) - 6) / 38) = false := by simp; omega
  (repeat (simp only [SLB, Int.reduceEq, Int.reduceNe, Int.reduceLT, Int.reduceLE, Int.reduceGT, Int.reduceGE, c]))
  rw [← e1]
  have P0 := hstart hm
  have hxd := Keep.drew (fun _ => False) w4
  have p5 := p4.ext hxd
  have t5 := t4.ext hxd
  have hBg5 : (drewW w4).heap[B]? = some (.cells Bc 5 (0, 0)) := hBg4
  have hx05 := hx04.trans hxd
  refine ⟨Ext, Ext.frame, ?_⟩
  generalize drewW w4 = w5 at hxd p5 t5 hBg5 hx05 ⊢
  have em : IntKind.i64.wrap ((n : Int) * 38) = ((38 * n : Nat) : Int) := by rw [w64 (by omega) (by omega)]; omega
  have ea : IntKind.i64.wrap ((6 : Int) + ((38 * n : Nat) : Int)) = ((6 + 38 * n : Nat) : Int) := by rw [w64 (by omega) (by omega)]; omega
  refine XP_of (fun w' => run_mul 3 .i64 _ _ w') ?_
  rw [em]
  refine XP_of (fun w' => run_add 3 .i64 _ _ w') ?_
  rw [ea]
  obtain ⟨rv, hrv, hbr, kr⟩ := cut_both Tryz.underlying28 info_5 sz_5 p5.bts (kl := .i64) (kh := .i64) (li := 6) (hj := ((6 + 38 * n : Nat) : Int)) 6 (6 + 38 * n) rfl rfl (by omega) (by omega)
  refine XP_of hrv ?_
  refine XP_of (fun w' => run_mul 3 .i64 _ _ w') ?_
  rw [em]
  refine XP_of (fun w' => run_add 3 .i64 _ _ w') ?_
  rw [ea]
  obtain ⟨dv, hdv, hbd, kd⟩ := cut_lo Tryz.underlying28 info_5 sz_5 p5.bts (kl := .i64) (li := ((6 + 38 * n : Nat) : Int)) (6 + 38 * n) rfl (by omega)
  refine XP_of hdv ?_
  have pr : Part w5 B rv ((x.take (6 + 38 * n)).drop 6) := ⟨hbr, fun g hg => p5.blk g (kr ▸ hg)⟩
  have pd : Part w5 B dv (x.drop (6 + 38 * n)) := ⟨hbd, fun g hg => p5.blk g (kd ▸ hg)⟩
  refine loopE (fun ρ wr => ∃ (done : List Pp) (rows data : List UInt8) (rv dv vl' : Value) (cs : List Pc), Parsing x id n done rows data ∧ pl cs = done ∧ Keep (fun g => base ≤ g ∧ g ≠ B) w5 wr ∧ Told wr base q vl' cs ∧ Part wr B rv rows ∧ Part wr B dv data ∧
      ρ 11 = rv ∧ ρ 12 = dv ∧ ρ 9 = .int .u32 (id : Int) ∧ ρ 1 = .func (.func 95) #[] #[ptr q])
    (fun ρ wr => match ρ 11 with | .slice _ n _ => n | _ => 0)
    (fun ρ wr => ∃ (done : List Pp) (data : List UInt8) (dv vl' : Value) (cs : List Pc), Parsing x id n done [] data ∧ pl cs = done ∧ Keep (fun g => base ≤ g ∧ g ≠ B) w5 wr ∧ Told wr base q vl' cs ∧ Part wr B dv data ∧ ρ 12 = dv ∧ ρ 9 = .int .u32 (id : Int)) ?_ ?_ ?_
  · exact ⟨[], _, _, rv, dv, vl, [], P0, rfl, Keep.refl _ _, t5, pr, pd, rfl, rfl, rfl, rfl⟩
  · rintro J hJ ρ wr ⟨done, rows, data, rv, dv, vl', cs, P, hcs, hk, t, pr, pd, r11, r12, r9, r1⟩
    obtain ⟨ar, cr, er⟩ := Bts.slice pr.bts
    obtain ⟨ad, cd, ed⟩ := Bts.slice pd.bts
    have hBr : wr.heap[B]? = some (.cells Bc 5 (0, 0)) := hk.get (fun h => h.2 rfl) hBg5
    have hPl := P.len
    have hPe := congrArg List.length P.eq
    simp only [List.length_append, be_length] at hPe
    rw [r11, er, X_len_28, X_gtr, condS_bool]
    by_cases hr0 : rows.length = 0
    · rw [if_neg (by rw [hr0]; decide)]
      have : rows = [] := List.eq_nil_of_length_eq_zero hr0
      subst this
      exact hJ _ _ ⟨done, data, dv, vl', cs, P, hcs, hk, t, pd, r12, r9⟩
    rw [if_pos (by simp; omega), ← er]
    have h38 : 38 ≤ rows.length := by omega
    obtain ⟨sv, hsv, hbs, ks⟩ := cut_both Tryz.underlying28 info_5 sz_5 pr.bts (kl := .i64) (kh := .i64) (li := 32) (hj := 38) 32 38 rfl rfl (by omega) (by omega)
    refine X_of (hsv _) ?_
    refine New_spec hbs (by simp; omega) ?_
    intro rb2 w7 hx7 hrb2 hr7
    have hBrb2 : B ≠ rb2 := by have := lt_of_blk hBr; omega
    have h6b : (((rows.take 38).drop 32)).length = 6 := by simp; omega
    have pr7 := pr.ext hx7
    have pd7 := pd.ext hx7
    have t7 := t.ext hx7
    have hk7 := hk.trans (Keep.ext hx7)
    have hBr7 := hx7.get hBr
    refine joinS_of (fun ρ2 w2 => ∃ kb, ρ2 14 = ptr kb ∧ w2.heap[kb]? = some (.cells (kyOf rows h38).cs.toArray 33 (0, 0)) ∧ wr.heap.size ≤ kb ∧ Ext wr w2 ∧ Rdr w2 wr.heap.size w7.heap.size rb2 (((rows.take 38).drop 32).drop 4) 0 ∧ ρ2 13 = ptr rb2 ∧ ρ2 11 = rv ∧ ρ2 12 = dv ∧ ρ2 9 = .int .u32 (id : Int) ∧ ρ2 1 = .func (.func 95) #[] #[ptr q]) ?_ ?_
    · rintro ρ2 w8 ⟨kb, q14, hkb, hkbl, hx8, hr8, q13, q11, q12, q9, q1⟩
      rw [q13, q12, q11, q1, q14]
      refine Get_spec hr8 ?_
      intro w9 hk9 hr9
      rw [getR2' (by simp; omega)]
      have e2 : (((rows.take 38).drop 32).drop 4).take 2 = ((rows.take 38).drop 32).drop 4 := List.take_of_length_le (by simp; omega)
      have hsz : num (((rows.take 38).drop 32).drop 4) < 65536 := num_lt2 (by simp; omega)
      have Pmore := P.more h38
      have Pstuck : ¬ num (((rows.take 38).drop 32).drop 4) ≤ data.length → ∀ id' l', id' < 4294967296 → Fit l' → x ≠ bodyP id' l' := fun hs id' l' hid hf => P.stuck h38 hs hid hf
      show X _ (convert 37 3 (.int .u64 ((num ((((rows.take 38).drop 32).drop 4).take 2) : Nat) : Int))) _ _
      rw [e2]
      generalize num (((rows.take 38).drop 32).drop 4) = size at hsz Pmore Pstuck ⊢
      have hx9 : Ext wr w9 := Ext.seq hx8 hk9 (fun i hi => by subst hi; exact hrb2)
      have pr9 := pr.ext hx9
      have pd9 := pd.ext hx9
      have t9 := t.ext hx9
      have hkb9 := hk9.get (b := kb) (fun h => by
        obtain ⟨_, hh, _⟩ := hr8
        rw [← h, hkb] at hh
        injection hh with hh
        injection hh with _ hh
        exact absurd hh (by decide)) hkb
      have hk09 := hk.trans (Keep.ext hx9)
      rw [X_conv_37_3, w64 (by omega) (by omega), ed]
      (repeat (simp only [SLB, Int.reduceEq, Int.reduceNe, Int.reduceLT, Int.reduceLE, Int.reduceGT, Int.reduceGE]))
      by_cases hs : size ≤ data.length
      case neg =>
        have c : decide ((size : Int) > (data.length : Int)) = true := by simp; omega
        (repeat (simp only [SLB, Int.reduceEq, Int.reduceNe, Int.reduceLT, Int.reduceLE, Int.reduceGT, Int.reduceGE, c]))
        exact fail (Pstuck hs) _ _ _ _ (Keep.trans (Keep.ext hx05) (hk09.mono (fun i _ h => h.1))) t9
      have c : decide ((size : Int) > (data.length : Int)) = false := by simp; omega
      (repeat (simp only [SLB, Int.reduceEq, Int.reduceNe, Int.reduceLT, Int.reduceLE, Int.reduceGT, Int.reduceGE, c]))
      rw [← ed]
      refine ⟨Ext, Ext.frame, ?_⟩
      have hxd9 := Keep.drew (fun _ => False) w9
      have hkbd : (drewW w9).heap[kb]? = some (.cells (kyOf rows h38).cs.toArray 33 (0, 0)) := hkb9
      have prd := pr9.ext hxd9
      have pdd := pd9.ext hxd9
      have tdd := t9.ext hxd9
      have hk0d := hk09.trans (Keep.ext hxd9)
      have hBd : (drewW w9).heap[B]? = some (.cells Bc 5 (0, 0)) := hx9.get hBr
      generalize drewW w9 = wd at hkbd prd pdd tdd hk0d hBd ⊢
      refine XR_ok Ext.frame (fun w' kk => load_cells (l := (kyOf rows h38).cs) Tryz.underlying33 agg_33 info_33 (by rw [sz_33, Ky.cs_len]) (fun j u hj => ?_)) ?_
      · rw [add_plain, Nat.zero_add, cell_blk (kk.get hkbd)]
        simpa using hj
      obtain ⟨pv, hpv, hbp, kp⟩ := cut_hi3 Tryz.underlying28 info_5 pdd.bts (kh := .i64) (km := .i64) (hj := (size : Int)) (mj := (size : Int)) size rfl rfl hs
      refine XP_of hpv ?_
      refine closS_of ?_
      have hcl : cs.length = done.length := by rw [← hcs]; simp
      have hplen : (data.take size).length ≤ 65536 := by rw [List.length_take]; omega
      refine told_spec (k := kyOf rows h38) tdd hbp (by omega) (by omega) ?_
      intro vl2 dv2 w10 hk10 t10
      have hnB : ¬ (B = q ∨ vl'.ownBlock = some B) := by
        rintro (h | h)
        · have hc := tdd.cell
          rw [← h, hBd] at hc
          injection hc with hc
          injection hc with _ hc
          exact absurd hc (by decide)
        · exact own_neT tdd.row hBd (by decide) h
      have prX := prd.keep hk10 hnB
      have pdX := pdd.keep hk10 hnB
      have hk0X : Keep (fun g => base ≤ g ∧ g ≠ B) w5 w10 := hk0d.trans (hk10.mono (fun i _ h => by
        refine ⟨?_, fun e => hnB (e ▸ h)⟩
        rcases h with h | h
        · rw [h]; exact tdd.low
        · exact (tdd.row.lt i h).1))
      obtain ⟨dn, hdn, hbn, kn⟩ := cut_lo Tryz.underlying28 info_5 sz_5 pdX.bts (kl := .i64) (li := (size : Int)) size rfl (by omega)
      refine X_of (hdn _) ?_
      obtain ⟨rn, hrn, hbrn, krn⟩ := cut_lo Tryz.underlying28 info_5 sz_5 prX.bts (kl := .i64) (li := 38) 38 rfl (by omega)
      refine X_of (hrn _) ?_
      show _ ∧ _
      obtain ⟨arn, crn, ern⟩ := Bts.slice hbrn
      refine ⟨⟨_, _, _, rn, dn, vl2, _, Pmore hs, ?_, hk0X, t10, ⟨hbrn, fun g hg => prX.blk g (krn ▸ hg)⟩, ⟨hbn, fun g hg => pdX.blk g (kn ▸ hg)⟩, rfl, rfl, q9, q1⟩, ?_⟩
      · simp [pl, hcs]
      · show (match rn with | .slice _ n _ => n | _ => 0) < _
        rw [ern]
        first | rw [er] | rw [r11, er]
        show (rows.drop 38).length < rows.length
        rw [List.length_drop]
        omega
    · intro J2 hJ2
      have hxd7 := Keep.drew (fun _ => False) w7
      have hr8 := hr7.ext hxd7
      have pr8 := pr7.ext hxd7
      have hx8 := hx7.trans hxd7
      have hBr8 : (drewW w7).heap[B]? = some (.cells Bc 5 (0, 0)) := hBr7
      refine ⟨Keep (fun g => g = rb2), Keep.frame _, ?_⟩
      generalize drewW w7 = w8 at hxd7 hr8 pr8 hx8 hBr8 ⊢
      obtain ⟨hv, hhv, hbh, kh⟩ := cut_hi Tryz.underlying28 info_5 pr8.bts (kh := .i64) (hj := 32) 32 rfl (by omega)
      refine XP_of hhv ?_
      have hbh' := hbh
      obtain ⟨ah, ch, eh, g1, g2, g3⟩ := hbh'
      have hl32 : (rows.take 32).length = 32 := by rw [List.length_take]; omega
      obtain ⟨adr, hadr, hcell⟩ := g3 (by omega)
      subst hadr
      rw [eh]
      refine XP_of (fun w' => run_arrayAt Tryz.underlying30 _ (by omega) _ w') ?_
      have hBad : adr.block = B := pr8.blk _ (by rw [← kh, eh]; rfl)
      refine XR_ok (Keep.frame _) (fun w' kk => load_cells (l := B8 (rows.take 32)) Tryz.underlying30 agg_30 info_30 (by rw [sz_30]; simp; omega) (fun j u hj => ?_)) ?_
      · rw [B8_getElem?] at hj
        obtain ⟨y, hy, rfl⟩ := Option.map_eq_some_iff.1 hj
        refine kk.cell ?_ (hcell j y hy)
        rw [add_block, hBad]
        exact hBrb2
      have hkl : (kyOf rows h38).sum = rows.take 32 := rfl
      have hkn : ((kyOf rows h38).num : Int) = ((num (((rows.take 38).drop 32).take 4) : Nat) : Int) := rfl
      have hknum := (kyOf rows h38).lt
      have hbuild := run_build_33b (kyOf rows h38)
      rw [hkl, hkn] at hbuild
      have hn4 : num (((rows.take 38).drop 32).take 4) < 4294967296 := num_lt4 (by simp; omega)
      refine ⟨?_, ?_⟩
      · refine Get_spec hr8 ?_
        intro w9 hk9 hr9
        rw [getR4' (by omega)] at hr9 ⊢
        refine ⟨hk9, ?_⟩
        show XR _ _ (convert 37 31 (.int .u64 ((num (((rows.take 38).drop 32).take 4) : Nat) : Int))) _ _
        rw [XR_conv_37_31, cw32 hn4]
        refine XP_of (fun w' => hbuild w') ?_
        refine X_alloc zero_33 ?_
        have hxA := newB_ext w9 (List.replicate 32 (Value.int .u8 0) ++ [Value.int .u32 0]).toArray 33
        have hgA := newB_get w9 (List.replicate 32 (Value.int .u8 0) ++ [Value.int .u32 0]).toArray 33
        show Keep _ w9 (newB w9 (List.replicate 32 (Value.int .u8 0) ++ [Value.int .u32 0]).toArray 33) ∧ XU _ _ (newB w9 (List.replicate 32 (Value.int .u8 0) ++ [Value.int .u32 0]).toArray 33) _
        generalize newB w9 (List.replicate 32 (Value.int .u8 0) ++ [Value.int .u32 0]).toArray 33 = w10 at hxA hgA ⊢
        refine ⟨Keep.ext hxA, ?_⟩
        have hx9 : Ext wr w9 := Ext.seq hx8 hk9 (fun i hi => by subst hi; exact hrb2)
        refine XU_storeAgg info_33 hgA (by rw [sz_33]; simp) (by rw [sz_33, Ky.cs_len]) (Ky.one _) ?_
        refine hJ2 _ _ ⟨w9.heap.size, rfl, setAt_same (lt_of_blk hgA), hx9.size, Ext.seq (hx9.trans hxA) (setAt_keep _ _ _ _ _) (fun i hi => by subst hi; exact hx9.size), ?_, rfl, r11, r12, r9, r1⟩
        refine (hr9.ext hxA).keep (setAt_keep _ _ _ _ _) ?_ ?_
        · have := hr9.lt
          omega
        · intro i _ hi _ he
          have h1 := hk9.size
          have h2 := hxd7.size
          omega
      · refine X_alloc zero_33 ?_
        have hxA := newB_ext w8 (Value.agg (List.replicate 32 (Value.int .u8 0) ++ [Value.int .u32 0]).toArray).cells 33
        have hgA := newB_get w8 (Value.agg (List.replicate 32 (Value.int .u8 0) ++ [Value.int .u32 0]).toArray).cells 33
        generalize newB w8 (Value.agg (List.replicate 32 (Value.int .u8 0) ++ [Value.int .u32 0]).toArray).cells 33 = w9 at hxA hgA ⊢
        have hgA : w9.heap[w8.heap.size]? = some (.cells (List.replicate 32 (Value.int .u8 0) ++ [Value.int .u32 0]).toArray 33 (0, 0)) := hgA
        refine ⟨Keep.ext hxA, ?_⟩
        have hrlt := hr8.lt
        refine Get_spec (hr8.ext hxA) ?_
        intro w10 hk10 hr10
        rw [getR4' (by omega)] at hr10 ⊢
        refine ⟨hk10, ?_⟩
        show XR _ _ (convert 37 31 (.int .u64 ((num (((rows.take 38).drop 32).take 4) : Nat) : Int))) _ _
        rw [XR_conv_37_31, cw32 hn4]
        refine XP_of (fun w' => hbuild w') ?_
        have hgB := hk10.get (b := w8.heap.size) (by omega) hgA
        refine XU_storeAgg info_33 hgB (by rw [sz_33]; simp) (by rw [sz_33, Ky.cs_len]) (Ky.one _) ?_
        refine hJ2 _ _ ⟨w8.heap.size, rfl, setAt_same (lt_of_blk hgB), hx8.size, Ext.seq (Ext.seq (hx8.trans hxA) hk10 (fun i hi => by subst hi; exact hrb2)) (setAt_keep _ _ _ _ _) (fun i hi => by subst hi; exact hx8.size), ?_, rfl, r11, r12, r9, r1⟩
        refine hr10.keep (setAt_keep _ _ _ _ _) ?_ ?_
        · omega
        · intro i _ hi _ he
          have := hxd7.size
          omega
  · rintro ρ wr ⟨done, data, dv, vl', cs, P, hcs, hk, t, pd, r12, r9⟩
    obtain ⟨ad, cd, ed⟩ := Bts.slice pd.bts
    have hk0 : Keep (fun g => base ≤ g) w wr := Keep.trans (Keep.ext hx05) (hk.mono (fun i _ h => h.1))
    rw [r12, r9, ed]
    (repeat (simp only [SLB, Int.reduceEq, Int.reduceNe, Int.reduceLT, Int.reduceLE, Int.reduceGT, Int.reduceGE]))
    by_cases hd : data = []
    · subst hd
      obtain ⟨g1, g2⟩ := P.done hn16
      exact h1 id done hid g2 (by rw [hx, g1]) vl' cs wr hcs hk0 t
    · have hpos := List.length_pos_iff.2 hd
      have c : decide ((data.length : Int) = 0) = false := by simp; omega
      rw [c]
      exact fail (fun id l hid hf => P.rest hd hid hf) _ _ _ _ hk0 t
end
end Go.Proofs.YtcigpjejbkngfaaGreatDoor
end
section
namespace Go.Proofs.YtcigpjejbkngfaaGreatDoor
open Go Go.Sh Go.RowKit
attribute [local irreducible] X XU XP XR CALL loopS resC closS
theorem open_seal (bs : List UInt8) : openB (sealB bs) = some bs := by
  have hl : (sealB bs).length - 4 = bs.length := by rw [sealB_len]; omega
  have ht : (sealB bs).take bs.length = bs := by
    unfold sealB
    rw [List.take_append_of_le_length (Nat.le_refl _), List.take_length]
  have hd : (sealB bs).drop bs.length = be 4 (crc bs).toNat := by
    unfold sealB
    rw [List.drop_append_of_le_length (Nat.le_refl _), List.drop_length, List.nil_append]
  have hlt : (crc bs).toNat < 256 ^ 4 := (crc bs).isLt
  unfold openB
  rw [hl, ht, hd, num_be, Nat.mod_eq_of_lt hlt, if_neg (by rw [sealB_len]; omega), if_pos rfl]
theorem seal_open {bs cs : List UInt8} (h : openB bs = some cs) : sealB cs = bs := by
  unfold openB at h
  split at h
  · cases h
  · rename_i h4
    split at h
    · rename_i he
      obtain rfl := Option.some.inj h
      unfold sealB
      rw [← he]
      have hb4 := be_num (bs.drop (bs.length - 4))
      have hl4 : (bs.drop (bs.length - 4)).length = 4 := by simp; omega
      rw [hl4] at hb4
      rw [hb4, List.take_append_drop]
    · cases h
theorem open_lay (id : Nat) (l : List Pp) : openB (layP id l) = some (bodyP id l) := open_seal _
theorem lay_eq {id id' : Nat} {l l' : List Pp} (hid : id < 4294967296) (hid' : id' < 4294967296) (hf : Fit l) (hf' : Fit l') (h : layP id l = layP id' l') : id = id' ∧ l = l' := by
  have := open_lay id l
  rw [h, open_lay] at this
  injection this with this
  obtain ⟨h1, h2⟩ := lay_inj hid' hid hf' hf this
  exact ⟨h1.symm, h2.symm⟩
section
variable {w : World} {K : Value → World → Prop}
theorem Take_spec {v : Value} {b : List UInt8} (hb : Bts w v b) (hl : b.length ≤ 1000000)
    (h0 : (∀ id l, id < 4294967296 → chk l = 0 → b ≠ layP id l) → ∀ w1, Ext w w1 → K (.tuple #[.int .u32 0, .slice none 0 0, i64v 110]) w1)
    (h1 : ∀ id l, id < 4294967296 → chk l = 0 → b = layP id l → ∀ q vl cs w1, pl cs = l → Ext w w1 → Told w1 w.heap.size q vl cs → K (.tuple #[.int .u32 (id : Int), vl, i64v 0]) w1) : CALL Tryz.prog 69 #[v] w K := by
  apply call_cont_Take
  unfold B_cont_Take
  refine X_alloc zero_41 ?_
  have hx1 := newB_ext w #[Value.slice none 0 0] 41
  have hg1 := newB_get w #[Value.slice none 0 0] 41
  show X _ _ (newB w #[Value.slice none 0 0] 41) _
  generalize newB w #[Value.slice none 0 0] 41 = w1 at hx1 hg1 ⊢
  refine X_of (v := .func (.func 95) #[] #[ptr w.heap.size]) (w1 := w1) rfl ?_
  have t1 : Told w1 w.heap.size w.heap.size (.slice none 0 0) [] := ⟨hg1, Nat.le_refl _, ownK_nil _ _, by simp, List.Pairwise.nil⟩
  have toExt : ∀ {w2}, Keep (fun g => w.heap.size ≤ g) w1 w2 → Ext w w2 := fun k => Ext.seq hx1 k (fun _ h => h)
  refine each_spec (hb.ext hx1) hl t1 (fun hno u vl cs w2 hk2 t2 => ?_) (fun id l hid hf ho vl cs w2 hcs hk2 t2 => ?_)
  · (repeat (simp only [SLB, Int.reduceEq, Int.reduceNe, Int.reduceLT, Int.reduceLE, Int.reduceGT, Int.reduceGE]))
    exact h0 (fun id l hid hc he => hno id l hid (fit_chk hc) (by rw [he]; exact open_lay id l)) _ (toExt hk2)
  · have hbl : b = layP id l := (seal_open ho).symm
    have hsz : sizeP l ≤ 1000000 := by rw [← layP_len id l, ← hbl]; exact hl
    have hcl : cs.length = l.length := by rw [← hcs]; simp
    (repeat (simp only [SLB, Int.reduceEq, Int.reduceNe, Int.reduceLT, Int.reduceLE, Int.reduceGT, Int.reduceGE]))
    refine X_of (run_loadAt agg_41 (cell_blk t2.cell)) ?_
    refine check_spec t2.slice t2.inn (by rw [hcs]; unfold sizeP at hsz; omega) ?_
    intro w3 hx3
    have t3 := t2.ext hx3
    have hx03 := (toExt hk2).trans hx3
    rw [hcs]
    by_cases hc : chk l = 0
    · rw [hc]
      have c : decide ((0 : Int) ≠ 0) = false := by decide
      (repeat (simp only [SLB, Int.reduceEq, Int.reduceNe, Int.reduceLT, Int.reduceLE, Int.reduceGT, Int.reduceGE, c]))
      have hxd := Keep.drew (fun _ => False) w3
      have td := t3.ext hxd
      refine ⟨Ext, Ext.frame, XR_ok Ext.frame (fun w' kk => run_loadAt agg_41 (cell_blk (kk.get td.cell))) ?_⟩
      exact h1 id l hid hc hbl _ vl cs _ hcs (hx03.trans hxd) td
    · have c : decide (chk l ≠ 0) = true := by simpa using hc
      (repeat (simp only [SLB, Int.reduceEq, Int.reduceNe, Int.reduceLT, Int.reduceLE, Int.reduceGT, Int.reduceGE, c]))
      refine h0 (fun id' l' hid' hc' he => ?_) _ hx03
      rw [hbl] at he
      obtain ⟨_, h⟩ := lay_eq hid hid' hf (fit_chk hc') he
      exact hc (h ▸ hc')
end
end Go.Proofs.YtcigpjejbkngfaaGreatDoor
end
section
set_option maxRecDepth 8000
namespace Go.Proofs.YtcigpjejbkngfaaGreatDoor
open Go Go.Sh Go.RowKit
def bnd (i : Nat) : Int := ((i % 1000000 : Nat) : Int)
theorem bnd_id {i : Nat} (h : i < 1000000) : bnd i = (i : Int) := by unfold bnd; rw [Nat.mod_eq_of_lt h]
theorem bnd_lt (i : Nat) : 0 ≤ bnd i ∧ bnd i < 1000000 := by unfold bnd; omega
def mkR (k : Ky) (i j : Nat) : Ex := ⟨k, bnd i, bnd j, by have := bnd_lt i; omega, by have := bnd_lt i; omega, by have := bnd_lt j; omega, by have := bnd_lt j; omega⟩
def exsC (i : Nat) : Nat → List Pp → List Ex
  | _, [] => []
  | j, p :: l => mkR p.k i j :: exsC i (j + 1) l
def exsAll : Nat → List (List Pp) → List Ex
  | _, [] => []
  | i, c :: cs => exsC i 0 c ++ exsAll (i + 1) cs
theorem exsC_append (i j : Nat) (l : List Pp) (p : Pp) : exsC i j (l ++ [p]) = exsC i j l ++ [mkR p.k i (j + l.length)] := by
  induction l generalizing j with
  | nil => rfl
  | cons a l ih =>
    show mkR a.k i j :: exsC i (j + 1) (l ++ [p]) = _
    rw [ih, List.length_cons, show j + 1 + l.length = j + (l.length + 1) by omega]
    rfl
theorem exsC_keys (i j : Nat) (l : List Pp) : (exsC i j l).map Ex.k = l.map Pp.k := by
  induction l generalizing j with
  | nil => rfl
  | cons a l ih =>
    show a.k :: (exsC i (j + 1) l).map Ex.k = _
    rw [ih]
    rfl
theorem exsC_len (i j : Nat) (l : List Pp) : (exsC i j l).length = l.length := by
  have := congrArg List.length (exsC_keys i j l)
  simpa using this
theorem exsAll_append (i : Nat) (a b : List (List Pp)) : exsAll i (a ++ b) = exsAll i a ++ exsAll (i + a.length) b := by
  induction a generalizing i with
  | nil => rfl
  | cons c a ih =>
    show exsC i 0 c ++ exsAll (i + 1) (a ++ b) = _
    rw [ih, List.length_cons, show i + 1 + a.length = i + (a.length + 1) by omega, ← List.append_assoc]
    rfl
theorem exsAll_keys (i : Nat) (cs : List (List Pp)) : (exsAll i cs).map Ex.k = cs.flatten.map Pp.k := by
  induction cs generalizing i with
  | nil => rfl
  | cons c cs ih =>
    show (exsC i 0 c ++ exsAll (i + 1) cs).map Ex.k = _
    rw [List.map_append, exsC_keys, ih, List.flatten_cons, List.map_append]
theorem exsC_off {i j : Nat} {l : List Pp} {r : Ex} (h : r ∈ exsC i j l) : r.off = bnd i := by
  induction l generalizing j with
  | nil => cases h
  | cons a l ih =>
    rcases List.mem_cons.1 h with rfl | h
    · rfl
    · exact ih h
theorem exsC_mem {i j : Nat} {l : List Pp} {r : Ex} (h : r ∈ exsC i j l) : ∃ t p, l[t]? = some p ∧ r = mkR p.k i (j + t) := by
  induction l generalizing j with
  | nil => cases h
  | cons a l ih =>
    rcases List.mem_cons.1 h with rfl | h
    · exact ⟨0, a, rfl, rfl⟩
    · obtain ⟨t, p, h1, h2⟩ := ih h
      exact ⟨t + 1, p, h1, by rw [h2, show j + 1 + t = j + (t + 1) by omega]⟩
theorem exsAll_mem {i : Nat} {cs : List (List Pp)} {r : Ex} (h : r ∈ exsAll i cs) : ∃ s c t p, cs[s]? = some c ∧ c[t]? = some p ∧ r = mkR p.k (i + s) t := by
  induction cs generalizing i with
  | nil => cases h
  | cons c cs ih =>
    rcases List.mem_append.1 h with h | h
    · obtain ⟨t, p, h1, h2⟩ := exsC_mem h
      exact ⟨0, c, t, p, rfl, h1, by rw [h2, Nat.zero_add]; rfl⟩
    · obtain ⟨s, c', t, p, h1, h2, h3⟩ := ih h
      exact ⟨s + 1, c', t, p, h1, h2, by rw [h3, show i + 1 + s = i + (s + 1) by omega]⟩
theorem exsAll_off {i : Nat} {cs : List (List Pp)} {r : Ex} (h : r ∈ exsAll i cs) (hb : i + cs.length ≤ 1000000) : (i : Int) ≤ r.off := by
  obtain ⟨s, c, t, p, h1, h2, rfl⟩ := exsAll_mem h
  have := (List.getElem?_eq_some_iff.1 h1).1
  show (i : Int) ≤ bnd (i + s)
  rw [bnd_id (by omega)]
  omega
theorem shelf_le {cs : List (List Pp)} (h : ∀ c ∈ cs, c.length ≤ 12) (i : Nat) (hb : i + cs.length ≤ 1000000) (a : Int) : (onShelf (exsAll i cs) a).length ≤ 12 := by
  induction cs generalizing i with
  | nil => exact Nat.zero_le _
  | cons c cs ih =>
    rw [List.length_cons] at hb
    show (List.filter _ (exsC i 0 c ++ exsAll (i + 1) cs)).length ≤ 12
    rw [List.filter_append, List.length_append]
    by_cases ha : a = (i : Int)
    · have h0 : List.filter (fun r => decide (r.off = a)) (exsAll (i + 1) cs) = [] := List.filter_eq_nil_iff.2 (fun r hr => by
        have := exsAll_off hr (by omega)
        simp only [decide_eq_true_eq]
        omega)
      rw [h0, List.length_nil, Nat.add_zero]
      have := List.length_filter_le (fun r => decide (r.off = a)) (exsC i 0 c)
      rw [exsC_len] at this
      have := h c (by simp)
      omega
    · have h0 : List.filter (fun r => decide (r.off = a)) (exsC i 0 c) = [] := List.filter_eq_nil_iff.2 (fun r hr => by
        have := exsC_off hr
        rw [bnd_id (by omega)] at this
        simp only [decide_eq_true_eq]
        omega)
      rw [h0, List.length_nil, Nat.zero_add]
      exact ih (fun c hc => h c (by simp [hc])) (i + 1) (by omega)
structure Sm where
  S : List (List Pp)
  H : List Pp
def Sm.ps (m : Sm) : List Pp := m.S.flatten ++ m.H
def Sm.R (m : Sm) : List Ex := exsAll 0 (m.S ++ [m.H])
def Sm.took (m : Sm) : Nat := if m.H = [] then m.S.length else m.S.length + 1
def body (l : List Pp) : Nat := 38 * l.length + totB l
theorem body_append (a b : List Pp) : body (a ++ b) = body a + body b := by
  unfold body totB
  rw [List.length_append, List.map_append, List.sum_append]
  omega
theorem size_body (l : List Pp) : sizeP l = 10 + body l := by unfold sizeP body; omega
theorem body_one (p : Pp) : body [p] = 38 + p.bs.length := by simp [body, totB]
def numsP (ps : List Pp) (d : List UInt8) : List Nat := (ps.filter fun p => decide (p.k.sum = d)).map fun p => p.k.num
theorem Sm.keys (m : Sm) : m.R.map Ex.k = m.ps.map Pp.k := by
  unfold Sm.R Sm.ps
  rw [exsAll_keys, List.flatten_append]
  simp
theorem map_filter_k {α β : Type} (f : α → Ky) (g : β → Ky) (q : Ky → Bool) {x : List α} {y : List β} (h : x.map f = y.map g) : (x.filter fun r => q (f r)).map f = (y.filter fun r => q (g r)).map g := by
  have e1 : (x.filter fun r => q (f r)).map f = (x.map f).filter q := by rw [List.filter_map]; rfl
  have e2 : (y.filter fun r => q (g r)).map g = (y.map g).filter q := by rw [List.filter_map]; rfl
  rw [e1, e2, h]
theorem Sm.twins (m : Sm) (d : List UInt8) : twinsOf m.R d = (m.ps.filter fun p => decide (p.k.sum = d)).map Pp.k :=
  map_filter_k Ex.k Pp.k (fun k => decide (k.sum = d)) m.keys
theorem Sm.nums (m : Sm) (d : List UInt8) : numsOf m.R d = numsP m.ps d := by
  rw [nums_twins, m.twins, List.map_map]
  rfl
structure Sm.Ok (m : Sm) : Prop where
  ne : ∀ c ∈ m.S, c ≠ []
  fit : ∀ c ∈ m.S ++ [m.H], sizeP c ≤ 508
  bs : ∀ p ∈ m.ps, p.bs ≠ []
  key : ∀ p ∈ m.ps, p.k.sum = digL p.bs
  num : ∀ d, numsP m.ps d = List.range (numsP m.ps d).length
  dist : (m.ps.map Pp.bs).Nodup
  first : m.H = [] → m.S = []
  near : ∀ i c c', (m.S ++ [m.H])[i]? = some c → (m.S ++ [m.H])[i + 1]? = some c' → c' ≠ [] → 498 < body c + body c'
def Sm.hold (m : Sm) (p : Pp) : Sm := if m.H ≠ [] ∧ 508 < sizeP (m.H ++ [p]) then ⟨m.S ++ [m.H], [p]⟩ else ⟨m.S, m.H ++ [p]⟩
theorem Sm.hold_ps (m : Sm) (p : Pp) : (m.hold p).ps = m.ps ++ [p] := by
  unfold Sm.hold Sm.ps
  split
  · simp
  · simp
theorem len_body {l : List Pp} (h : ∀ p ∈ l, p.bs ≠ []) : 39 * l.length ≤ body l := by
  induction l with
  | nil => simp [body]
  | cons p l ih =>
    have e : p :: l = [p] ++ l := rfl
    rw [e, body_append, body_one, List.length_append]
    have h1 := ih (fun q hq => h q (by simp [hq]))
    have h2 : 0 < p.bs.length := List.length_pos_iff.2 (h p (by simp))
    simp only [List.length_cons, List.length_nil]
    omega
theorem Sm.Ok.len {m : Sm} (h : m.Ok) : ∀ c ∈ m.S ++ [m.H], c.length ≤ 12 := by
  intro c hc
  have h1 := h.fit c hc
  rw [size_body] at h1
  have h2 := len_body (l := c) (fun p hp => h.bs p (by
    unfold Sm.ps
    rcases List.mem_append.1 hc with hc | hc
    · exact List.mem_append_left _ (List.mem_flatten.2 ⟨c, hc, hp⟩)
    · rw [List.mem_singleton.1 hc] at hp
      exact List.mem_append_right _ hp))
  omega
theorem Sm.Ok.chk {m : Sm} (h : m.Ok) (hn : (m.ps.map Pp.k).Nodup) : ∀ c ∈ m.S ++ [m.H], chk c = 0 := by
  intro c hc
  have hsub : ∀ p ∈ c, p ∈ m.ps := fun p hp => by
    unfold Sm.ps
    rcases List.mem_append.1 hc with hc | hc
    · exact List.mem_append_left _ (List.mem_flatten.2 ⟨c, hc, hp⟩)
    · rw [List.mem_singleton.1 hc] at hp
      exact List.mem_append_right _ hp
  have hfit := h.fit c hc
  have hl := h.len c hc
  unfold Go.Proofs.YtcigpjejbkngfaaGreatDoor.chk
  rw [if_neg (by rintro ⟨p, hp, h0⟩; exact h.bs p (hsub p hp) h0), if_neg, if_pos]
  · have hs : c.Sublist m.ps := by
      unfold Sm.ps
      rcases List.mem_append.1 hc with hc | hc
      · exact (List.sublist_flatten_of_mem hc).trans (List.sublist_append_left _ _)
      · rw [List.mem_singleton.1 hc]
        exact List.sublist_append_right _ _
    exact (hs.map Pp.k).nodup hn
  · rintro (h1 | ⟨p, hp, h1⟩ | h1)
    · omega
    · have := totB_mem hp
      unfold sizeP at hfit
      omega
    · omega
theorem nodup_inj {α β : Type} {f : α → β} {l : List α} (h : (l.map f).Nodup) {a b : α} (ha : a ∈ l) (hb : b ∈ l) (e : f a = f b) : a = b := by
  induction l with
  | nil => cases ha
  | cons x l ih =>
    rw [List.map_cons, List.nodup_cons] at h
    rcases List.mem_cons.1 ha with h1 | h1
    · rcases List.mem_cons.1 hb with h2 | h2
      · rw [h1, h2]
      · exact absurd (List.mem_map.2 ⟨b, h2, by rw [← e, h1]⟩) h.1
    · rcases List.mem_cons.1 hb with h2 | h2
      · exact absurd (List.mem_map.2 ⟨a, h1, by rw [e, h2]⟩) h.1
      · exact ih h.2 h1 h2
theorem Sm.at_ {m : Sm} {p : Pp} {r : Ex} (hr : r ∈ m.R) (hs : m.S.length < 1000000) (hl : ∀ c ∈ m.S ++ [m.H], c.length ≤ 12) (hn : (m.ps.map Pp.k).Nodup) (hp : p ∈ m.ps) (hk : r.k = p.k) :
    (∃ i t : Nat, ∃ hi : i < m.S.length, r.off = (i : Int) ∧ r.len = (t : Int) ∧ m.S[i][t]? = some p) ∨ (∃ t : Nat, m.H ≠ [] ∧ r.off = (m.S.length : Int) ∧ r.len = (t : Int) ∧ m.H[t]? = some p) := by
  obtain ⟨s, c, t, q, h1, h2, rfl⟩ := exsAll_mem hr
  have hsl := (List.getElem?_eq_some_iff.1 h1).1
  have htl := (List.getElem?_eq_some_iff.1 h2).1
  rw [List.length_append, List.length_singleton] at hsl
  have hcm := List.mem_of_getElem? h1
  have hc12 := hl c hcm
  have hqm : q ∈ m.ps := by
    unfold Sm.ps
    rcases List.mem_append.1 hcm with hc | hc
    · exact List.mem_append_left _ (List.mem_flatten.2 ⟨c, hc, List.mem_of_getElem? h2⟩)
    · rw [List.mem_singleton.1 hc] at h2
      exact List.mem_append_right _ (List.mem_of_getElem? h2)
  have hqp : q = p := by
    have hk' : q.k = p.k := hk
    exact nodup_inj hn hqm hp hk'
  subst hqp
  have e1 : (mkR q.k (0 + s) t).off = (s : Int) := by
    show bnd (0 + s) = _
    rw [Nat.zero_add, bnd_id (by omega)]
  have e2 : (mkR q.k (0 + s) t).len = (t : Int) := bnd_id (by omega)
  by_cases hlt : s < m.S.length
  · left
    refine ⟨s, t, hlt, e1, e2, ?_⟩
    rw [List.getElem?_append_left hlt, List.getElem?_eq_getElem hlt] at h1
    rw [Option.some.inj h1]
    exact h2
  · right
    have es : s = m.S.length := by omega
    subst es
    rw [List.getElem?_append_right (Nat.le_refl _)] at h1
    simp at h1
    subst h1
    refine ⟨t, fun h0 => ?_, e1, e2, h2⟩
    rw [h0] at h2
    cases h2
theorem numsP_append (a b : List Pp) (d : List UInt8) : numsP (a ++ b) d = numsP a d ++ numsP b d := by
  unfold numsP
  rw [List.filter_append, List.map_append]
theorem Sm.Ok.hold {m : Sm} (h : m.Ok) {p : Pp} (hb : p.bs ≠ []) (hl : p.bs.length ≤ 460) (hk : p.k.sum = digL p.bs) (hnum : p.k.num = (numsP m.ps p.k.sum).length) (hd : p.bs ∉ m.ps.map Pp.bs) : (m.hold p).Ok := by
  have hps := m.hold_ps p
  have c1 : ∀ q ∈ (m.hold p).ps, q.bs ≠ [] := by
    rw [hps]
    intro q hq
    rcases List.mem_append.1 hq with hq | hq
    · exact h.bs q hq
    · rw [List.mem_singleton.1 hq]; exact hb
  have c2 : ∀ q ∈ (m.hold p).ps, q.k.sum = digL q.bs := by
    rw [hps]
    intro q hq
    rcases List.mem_append.1 hq with hq | hq
    · exact h.key q hq
    · rw [List.mem_singleton.1 hq]; exact hk
  have c3 : ∀ d, numsP (m.hold p).ps d = List.range (numsP (m.hold p).ps d).length := by
    rw [hps]
    intro d
    rw [numsP_append]
    have hn := h.num d
    by_cases he : p.k.sum = d
    · have e1 : numsP [p] d = [p.k.num] := by
        unfold numsP
        rw [List.filter_cons_of_pos (by simpa using he)]
        rfl
      rw [e1, List.length_append, List.length_singleton, List.range_succ, ← hn, hnum, he]
    · have e1 : numsP [p] d = [] := by
        unfold numsP
        rw [List.filter_cons_of_neg (by simpa using he)]
        rfl
      rw [e1, List.append_nil]
      exact hn
  have c4 : ((m.hold p).ps.map Pp.bs).Nodup := by
    rw [hps, List.map_append, List.nodup_append]
    refine ⟨h.dist, by simp, fun a ha b hb' => ?_⟩
    rw [List.mem_singleton.1 hb']
    rintro rfl
    exact hd ha
  have one : sizeP [p] ≤ 508 := by rw [size_body, body_one]; omega
  by_cases hc : m.H ≠ [] ∧ 508 < sizeP (m.H ++ [p])
  · have e : m.hold p = ⟨m.S ++ [m.H], [p]⟩ := if_pos hc
    rw [e] at c1 c2 c3 c4 ⊢
    clear hps e
    obtain ⟨hH, hbig⟩ := hc
    refine ⟨?_, ?_, c1, c2, c3, c4, fun h0 => absurd h0 (by simp), ?_⟩
    · intro c hc
      rcases List.mem_append.1 hc with hc | hc
      · exact h.ne c hc
      · rw [List.mem_singleton.1 hc]; exact hH
    · intro c hc
      rcases List.mem_append.1 hc with hc | hc
      · exact h.fit c hc
      · rw [List.mem_singleton.1 hc]; exact one
    · intro i c c' h1 h2 h3
      dsimp only at h1 h2
      have hi := (List.getElem?_eq_some_iff.1 h2).1
      simp only [List.length_append, List.length_singleton] at hi
      by_cases hi2 : i + 1 < (m.S ++ [m.H]).length
      · rw [List.getElem?_append_left hi2] at h2
        rw [List.getElem?_append_left (by omega)] at h1
        exact h.near i c c' h1 h2 h3
      · simp only [List.length_append, List.length_singleton] at hi2
        have ei : i = m.S.length := by omega
        subst ei
        rw [List.getElem?_append_left (by simp), List.getElem?_append_right (Nat.le_refl _)] at h1
        rw [List.getElem?_append_right (by simp)] at h2
        simp at h1 h2
        subst h1
        subst h2
        rw [size_body, body_append] at hbig
        omega
  · have e : m.hold p = ⟨m.S, m.H ++ [p]⟩ := if_neg hc
    rw [e] at c1 c2 c3 c4 ⊢
    clear hps e
    refine ⟨h.ne, ?_, c1, c2, c3, c4, fun h0 => absurd h0 (by simp), ?_⟩
    · intro c hc'
      rcases List.mem_append.1 hc' with hc' | hc'
      · exact h.fit c (List.mem_append_left _ hc')
      · rw [List.mem_singleton.1 hc']
        show sizeP (m.H ++ [p]) ≤ 508
        by_cases hH : m.H = []
        · rw [hH]; exact one
        · have : ¬ 508 < sizeP (m.H ++ [p]) := fun hx => hc ⟨hH, hx⟩
          omega
    · intro i c c' h1 h2 h3
      dsimp only at h1 h2
      have hi := (List.getElem?_eq_some_iff.1 h2).1
      simp only [List.length_append, List.length_singleton] at hi
      by_cases hi2 : i + 1 < m.S.length
      · rw [List.getElem?_append_left hi2] at h2
        rw [List.getElem?_append_left (by omega)] at h1
        exact h.near i c c' (by rw [List.getElem?_append_left (by omega)]; exact h1) (by rw [List.getElem?_append_left hi2]; exact h2) h3
      · have ei : i + 1 = m.S.length := by omega
        rw [List.getElem?_append_left (by omega)] at h1
        rw [ei, List.getElem?_append_right (Nat.le_refl _)] at h2
        simp at h2
        have hH : m.H ≠ [] := fun h0 => by
          have := h.first h0
          rw [this] at ei
          simp at ei
        have := h.near i c m.H (by rw [List.getElem?_append_left (by omega)]; exact h1) (by rw [ei, List.getElem?_append_right (Nat.le_refl _)]; simp) hH
        rw [← h2, body_append]
        omega
theorem chain_room (l : List (List Pp)) (c : List Pp) (hne : ∀ x ∈ l, x ≠ []) (h : ∀ i a b, (c :: l)[i]? = some a → (c :: l)[i + 1]? = some b → b ≠ [] → 498 < body a + body b) : 498 * l.length + body c ≤ 2 * body (c :: l).flatten := by
  induction l generalizing c with
  | nil =>
    simp
    omega
  | cons b l ih =>
    have h1 := ih b (fun x hx => hne x (by simp [hx])) (fun i x y hx hy hn => h (i + 1) x y hx hy hn)
    have h2 := h 0 c b rfl rfl (hne b (by simp))
    rw [List.flatten_cons, body_append, List.length_cons]
    omega
theorem Sm.room {m : Sm} (h : m.Ok) : m.took ≤ 2 * body m.ps / 498 + 1 := by
  by_cases hH : m.H = []
  · have hS := h.first hH
    unfold Sm.took
    rw [if_pos hH, hS]
    exact Nat.zero_le _
  · have key : ∀ C : List (List Pp), C = m.S ++ [m.H] → C.length ≤ 2 * body m.ps / 498 + 1 := by
      intro C hC
      have hps : C.flatten = m.ps := by rw [hC]; unfold Sm.ps; simp
      cases C with
      | nil => exact Nat.zero_le _
      | cons c l =>
        have hne : ∀ x ∈ l, x ≠ [] := by
          intro x hx
          have : x ∈ m.S ++ [m.H] := by rw [← hC]; simp [hx]
          rcases List.mem_append.1 this with hx | hx
          · exact h.ne x hx
          · rw [List.mem_singleton.1 hx]; exact hH
        have := chain_room l c hne (fun i a b h1 h2 h3 => h.near i a b (by rw [← hC]; exact h1) (by rw [← hC]; exact h2) h3)
        rw [hps] at this
        rw [List.length_cons]
        omega
    have := key _ rfl
    unfold Sm.took
    rw [if_neg hH]
    simpa using this
end Go.Proofs.YtcigpjejbkngfaaGreatDoor
end
section
namespace Go.Proofs.YtcigpjejbkngfaaGreatDoor
open Go Go.Sh
attribute [local irreducible] X XU XP XR CALL loopS resC closS
def B_space_New (x0 : Value) (w : World) (K : Value → World → Prop) : Prop :=
  X Tryz.prog (binOp .lss 3 x0 (.int .i64 0)) w fun v1 w1 =>
  gstep v1 false (fun w2 K => K x0 w2) w1 fun v2 w3 =>
  gstep v1 false (fun w4 K => X Tryz.prog (binOp .gtr 3 v2 (.int .i64 16384)) w4 K) w3 fun v3 w5 =>
  X Tryz.prog (pickS v1 (.bool true) v3) w5 fun v4 w6 =>
  condS v4 (
  K (.tuple #[(.pointer none), (.int .i64 1)]) w6) (
  X Tryz.prog (binOp .add 3 x0 (.int .i64 63)) w6 fun v5 w7 =>
  X Tryz.prog (binOp .shr 3 v5 (.int .u64 6)) w7 fun v6 w8 =>
  X Tryz.prog (Instr.makeSlice 115 v6 v6) w8 fun v7 w9 =>
  X Tryz.prog (Instr.build 117 #[(0, v7), (1, x0)]) w9 fun v8 w10 =>
  X Tryz.prog (Instr.box 117 v8) w10 fun v9 w11 =>
  K (.tuple #[v9, (.int .i64 0)]) w11)
theorem eq_space_New (x0 : Value) (w : World) (K : Value → World → Prop) :
    sh Tryz.prog (Tryz.f34.body.getD .skip) (retS Tryz.prog Tryz.f34.results K) (env0 #[x0]) w = B_space_New x0 w K := by kernel_rfl
theorem call_space_New (x0 : Value) (w : World) (K : Value → World → Prop) (h : B_space_New x0 w K) : CALL Tryz.prog 34 #[x0] w K :=
  call_of_eq (c := Tryz.f34.body.getD .skip) mixed Tryz.func34 (by kernel_rfl) (by kernel_rfl) (by kernel_rfl) (Nat.le_of_ble_eq_true (by kernel_rfl)) (eq_space_New x0 w K) h
def B_space_Space_Len (x0 : Value) (w : World) (K : Value → World → Prop) : Prop :=
  X Tryz.prog (binOpG .eql 69 (.tmp 3) (.const (.pointer none)) x0 (.pointer none)) w fun v1 w1 =>
  condS v1 (
  K (.int .i64 0) w1) (
  X Tryz.prog (nilS x0) w1 fun v2 w2 =>
  X Tryz.prog (Instr.fieldAt 117 v2 1) w2 fun v3 w3 =>
  X Tryz.prog (Instr.loadAt 3 v3) w3 fun v4 w4 =>
  K v4 w4)
theorem eq_space_Space_Len (x0 : Value) (w : World) (K : Value → World → Prop) :
    sh Tryz.prog (Tryz.f70.body.getD .skip) (retS Tryz.prog Tryz.f70.results K) (env0 #[x0]) w = B_space_Space_Len x0 w K := by kernel_rfl
theorem call_space_Space_Len (x0 : Value) (w : World) (K : Value → World → Prop) (h : B_space_Space_Len x0 w K) : CALL Tryz.prog 70 #[x0] w K :=
  call_of_eq (c := Tryz.f70.body.getD .skip) mixed Tryz.func70 (by kernel_rfl) (by kernel_rfl) (by kernel_rfl) (Nat.le_of_ble_eq_true (by kernel_rfl)) (eq_space_Space_Len x0 w K) h
def B_space_Space_Has (x0 x1 : Value) (w : World) (K : Value → World → Prop) : Prop :=
  X Tryz.prog (binOpG .neq 69 (.tmp 5) (.const (.pointer none)) x0 (.pointer none)) w fun v1 w1 =>
  gstep v1 true (fun w2 K => K x0 w2) w1 fun v2 w3 =>
  gstep v1 true (fun w4 K => K x1 w4) w3 fun v3 w5 =>
  gstep v1 true (fun w6 K => CALL Tryz.prog 96 #[v2, v3] w6 K) w5 fun v4 w7 =>
  X Tryz.prog (pickS v1 v4 (.bool false)) w7 fun v5 w8 =>
  gstep v5 true (fun w9 K => K x0 w9) w8 fun v6 w10 =>
  gstep v5 true (fun w11 K => X Tryz.prog (nilS v6) w11 K) w10 fun v7 w12 =>
  gstep v5 true (fun w13 K => X Tryz.prog (Instr.fieldAt 117 v7 0) w13 K) w12 fun v8 w14 =>
  gstep v5 true (fun w15 K => X Tryz.prog (Instr.loadAt 115 v8) w15 K) w14 fun v9 w16 =>
  gstep v5 true (fun w17 K => K x1 w17) w16 fun v10 w18 =>
  gstep v5 true (fun w19 K => X Tryz.prog (binOp .shr 3 v10 (.int .u64 6)) w19 K) w18 fun v11 w20 =>
  gstep v5 true (fun w21 K => X Tryz.prog (Instr.indexAt 115 v9 v11) w21 K) w20 fun v12 w22 =>
  gstep v5 true (fun w23 K => X Tryz.prog (Instr.loadAt 37 v12) w23 K) w22 fun v13 w24 =>
  gstep v5 true (fun w25 K => K x1 w25) w24 fun v14 w26 =>
  gstep v5 true (fun w27 K => X Tryz.prog (binOp .and 3 v14 (.int .i64 63)) w27 K) w26 fun v15 w28 =>
  gstep v5 true (fun w29 K => X Tryz.prog (binOp .shr 37 v13 v15) w29 K) w28 fun v16 w30 =>
  gstep v5 true (fun w31 K => X Tryz.prog (binOp .and 37 v16 (.int .u64 1)) w31 K) w30 fun v17 w32 =>
  gstep v5 true (fun w33 K => X Tryz.prog (binOpG .eql 37 (.tmp 24) (.const (.int .u64 1)) v17 (.int .u64 1)) w33 K) w32 fun v18 w34 =>
  X Tryz.prog (pickS v5 v18 (.bool false)) w34 fun v19 w35 =>
  K v19 w35
theorem eq_space_Space_Has (x0 x1 : Value) (w : World) (K : Value → World → Prop) :
    sh Tryz.prog (Tryz.f71.body.getD .skip) (retS Tryz.prog Tryz.f71.results K) (env0 #[x0, x1]) w = B_space_Space_Has x0 x1 w K := by kernel_rfl
theorem call_space_Space_Has (x0 x1 : Value) (w : World) (K : Value → World → Prop) (h : B_space_Space_Has x0 x1 w K) : CALL Tryz.prog 71 #[x0, x1] w K :=
  call_of_eq (c := Tryz.f71.body.getD .skip) mixed Tryz.func71 (by kernel_rfl) (by kernel_rfl) (by kernel_rfl) (Nat.le_of_ble_eq_true (by kernel_rfl)) (eq_space_Space_Has x0 x1 w K) h
def B_space_Space_Hold (x0 x1 : Value) (w : World) (K : Value → World → Prop) : Prop :=
  X Tryz.prog (binOpG .eql 69 (.tmp 6) (.const (.pointer none)) x0 (.pointer none)) w fun v1 w1 =>
  condS v1 (
  K (.int .i64 2) w1) (
  CALL Tryz.prog 96 #[x0, x1] w1 fun v2 w2 =>
  X Tryz.prog (Op.unary .not v2) w2 fun v3 w3 =>
  condS v3 (
  K (.int .i64 1) w3) (
  CALL Tryz.prog 71 #[x0, x1] w3 fun v4 w4 =>
  condS v4 (
  K (.int .i64 3) w4) (
  CALL Tryz.prog 97 #[x0, x1, (.int .i64 1)] w4 fun v5 w5 =>
  K (.int .i64 0) w5)))
theorem eq_space_Space_Hold (x0 x1 : Value) (w : World) (K : Value → World → Prop) :
    sh Tryz.prog (Tryz.f72.body.getD .skip) (retS Tryz.prog Tryz.f72.results K) (env0 #[x0, x1]) w = B_space_Space_Hold x0 x1 w K := by kernel_rfl
theorem call_space_Space_Hold (x0 x1 : Value) (w : World) (K : Value → World → Prop) (h : B_space_Space_Hold x0 x1 w K) : CALL Tryz.prog 72 #[x0, x1] w K :=
  call_of_eq (c := Tryz.f72.body.getD .skip) mixed Tryz.func72 (by kernel_rfl) (by kernel_rfl) (by kernel_rfl) (Nat.le_of_ble_eq_true (by kernel_rfl)) (eq_space_Space_Hold x0 x1 w K) h
def B_space_Space_there (x0 x1 : Value) (w : World) (K : Value → World → Prop) : Prop :=
  X Tryz.prog (binOp .geq 3 x1 (.int .i64 0)) w fun v1 w1 =>
  gstep v1 true (fun w2 K => K x1 w2) w1 fun v2 w3 =>
  gstep v1 true (fun w4 K => K x0 w4) w3 fun v3 w5 =>
  gstep v1 true (fun w6 K => X Tryz.prog (nilS v3) w6 K) w5 fun v4 w7 =>
  gstep v1 true (fun w8 K => X Tryz.prog (Instr.fieldAt 117 v4 1) w8 K) w7 fun v5 w9 =>
  gstep v1 true (fun w10 K => X Tryz.prog (Instr.loadAt 3 v5) w10 K) w9 fun v6 w11 =>
  gstep v1 true (fun w12 K => X Tryz.prog (binOp .lss 3 v2 v6) w12 K) w11 fun v7 w13 =>
  X Tryz.prog (pickS v1 v7 (.bool false)) w13 fun v8 w14 =>
  K v8 w14
theorem eq_space_Space_there (x0 x1 : Value) (w : World) (K : Value → World → Prop) :
    sh Tryz.prog (Tryz.f96.body.getD .skip) (retS Tryz.prog Tryz.f96.results K) (env0 #[x0, x1]) w = B_space_Space_there x0 x1 w K := by kernel_rfl
theorem call_space_Space_there (x0 x1 : Value) (w : World) (K : Value → World → Prop) (h : B_space_Space_there x0 x1 w K) : CALL Tryz.prog 96 #[x0, x1] w K :=
  call_of_eq (c := Tryz.f96.body.getD .skip) mixed Tryz.func96 (by kernel_rfl) (by kernel_rfl) (by kernel_rfl) (Nat.le_of_ble_eq_true (by kernel_rfl)) (eq_space_Space_there x0 x1 w K) h
def B_space_Space_turn (x0 x1 x2 : Value) (w : World) (K : Value → World → Prop) : Prop :=
  ∃ R, Frame? R ∧
  XP Tryz.prog (nilS x0) (drewW w) fun v1 w1 =>
  XP Tryz.prog (Instr.fieldAt 117 v1 0) w1 fun v2 w2 =>
  XR Tryz.prog R (Instr.loadAt 115 v2) w2 fun v3 w3 =>
  XP Tryz.prog (binOp .shr 3 x1 (.int .u64 6)) w3 fun v4 w4 =>
  XP Tryz.prog (Instr.indexAt 115 v3 v4) w4 fun v5 w5 =>
  XR Tryz.prog R (Instr.loadAt 37 v5) w5 fun v6 w6 =>
  XP Tryz.prog (binOp .and 3 x1 (.int .i64 63)) w6 fun v7 w7 =>
  XP Tryz.prog (binOp .shl 37 (.int .u64 1) v7) w7 fun v8 w8 =>
  XP Tryz.prog (binOp .xor 37 v6 v8) w8 fun v9 w9 =>
  XP Tryz.prog (Instr.indexAt 115 v3 v4) w9 fun v10 w10 =>
  XU Tryz.prog (Instr.storeAt 37 v10 v9) w10 fun w11 =>
  X Tryz.prog (nilS x0) w11 fun v11 w12 =>
  X Tryz.prog (Instr.fieldAt 117 v11 2) w12 fun v12 w13 =>
  X Tryz.prog (Instr.loadAt 3 v12) w13 fun v13 w14 =>
  X Tryz.prog (binOp .add 3 v13 x2) w14 fun v14 w15 =>
  X Tryz.prog (nilS x0) w15 fun v15 w16 =>
  X Tryz.prog (Instr.fieldAt 117 v15 2) w16 fun v16 w17 =>
  XU Tryz.prog (Instr.storeAt 3 v16 v14) w17 fun w18 =>
  K (.tuple #[]) w18
theorem eq_space_Space_turn (x0 x1 x2 : Value) (w : World) (K : Value → World → Prop) :
    sh Tryz.prog (Tryz.f97.body.getD .skip) (retS Tryz.prog Tryz.f97.results K) (env0 #[x0, x1, x2]) w = B_space_Space_turn x0 x1 x2 w K := by kernel_rfl
theorem call_space_Space_turn (x0 x1 x2 : Value) (w : World) (K : Value → World → Prop) (h : B_space_Space_turn x0 x1 x2 w K) : CALL Tryz.prog 97 #[x0, x1, x2] w K :=
  call_of_eq (c := Tryz.f97.body.getD .skip) mixed Tryz.func97 (by kernel_rfl) (by kernel_rfl) (by kernel_rfl) (Nat.le_of_ble_eq_true (by kernel_rfl)) (eq_space_Space_turn x0 x1 x2 w K) h
def B_space_Space_All (x0 : Value) (w : World) (K : Value → World → Prop) : Prop :=
  X Tryz.prog (binOpG .eql 69 (.tmp 6) (.const (.pointer none)) x0 (.pointer none)) w fun v1 w1 =>
  condS v1 (
  K (.slice none 0 0) w1) (
  X Tryz.prog (nilS x0) w1 fun v2 w2 =>
  X Tryz.prog (Instr.fieldAt 117 v2 0) w2 fun v3 w3 =>
  X Tryz.prog (Instr.loadAt 115 v3) w3 fun v4 w4 =>
  X Tryz.prog (Builtin.len_ #[115] 3 #[v4]) w4 fun v5 w5 =>
  loopS (fun Q1 ρ1 w6 =>
  X Tryz.prog (binOp .lss 3 (ρ1 13) (ρ1 12)) w6 fun v6 w7 =>
  condS v6 (
  X Tryz.prog (Instr.indexAt 115 (ρ1 11) (ρ1 13)) w7 fun v7 w8 =>
  X Tryz.prog (Instr.loadAt 37 v7) w8 fun v8 w9 =>
  loopS (fun Q2 ρ2 w10 =>
  X Tryz.prog (binOpG .neq 37 (.tmp 18) (.const (.int .u64 0)) (ρ2 5) (.int .u64 0)) w10 fun v9 w11 =>
  condS v9 (
  X Tryz.prog (binOp .shl 3 (ρ2 4) (.int .u64 6)) w11 fun v10 w12 =>
  CALL Tryz.prog 52 #[(ρ2 5)] w12 fun v11 w13 =>
  X Tryz.prog (binOp .add 3 v10 v11) w13 fun v12 w14 =>
  X Tryz.prog (Instr.buildSlice 43 1 #[(0, v12)]) w14 fun v13 w15 =>
  X Tryz.prog (Builtin.append_ #[43, 43] 43 #[(ρ2 3), v13]) w15 fun v14 w16 =>
  X Tryz.prog (binOp .sub 37 (ρ2 5) (.int .u64 1)) w16 fun v15 w17 =>
  X Tryz.prog (binOp .and 37 (ρ2 5) v15) w17 fun v16 w18 =>
  Q2 .normal (upds ρ2 [(5, v16), (23, v16), (22, v15), (21, (ρ2 5)), (20, (ρ2 5)), (3, v14), (31, v14), (30, v13), (29, v12), (28, v11), (27, (ρ2 5)), (26, v10), (25, (ρ2 4)), (24, (ρ2 3)), (19, v9), (18, (ρ2 5))]) w18) (
  Q2 (.exit 2) (upds ρ2 [(19, v9), (18, (ρ2 5))]) w11)) (inBlockS 2 (inBlockS 1 (thenS (fun ρ3 w19 =>
  X Tryz.prog (binOp .add 3 (ρ3 13) (.int .i64 1)) w19 fun v17 w20 =>
  Q1 .normal (upds ρ3 [(13, v17), (32, v17)]) w20) Q1))) (upds ρ1 [(5, v8), (4, (ρ1 13)), (17, v8), (16, v7), (15, (ρ1 13)), (14, v6)]) w9) (
  Q1 (.exit 0) (upds ρ1 [(14, v6)]) w7)) (inBlockS 0 (thenS (fun ρ4 w21 =>
  K (ρ4 3) w21) (retS Tryz.prog (Tryz.f27).results K))) (upds (env0 #[x0]) [(13, (.int .i64 0)), (12, v5), (11, v4), (10, v3), (9, v2), (8, x0), (3, (.slice none 0 0)), (7, v1), (6, x0), (2, (.slice none 0 0))]) w5)
theorem eq_space_Space_All (x0 : Value) (w : World) (K : Value → World → Prop) :
    sh Tryz.prog (Tryz.f27.body.getD .skip) (retS Tryz.prog Tryz.f27.results K) (env0 #[x0]) w = B_space_Space_All x0 w K := by kernel_rfl
theorem call_space_Space_All (x0 : Value) (w : World) (K : Value → World → Prop) (h : B_space_Space_All x0 w K) : CALL Tryz.prog 27 #[x0] w K :=
  call_of_eq (c := Tryz.f27.body.getD .skip) mixed Tryz.func27 (by kernel_rfl) (by kernel_rfl) (by kernel_rfl) (Nat.le_of_ble_eq_true (by kernel_rfl)) (eq_space_Space_All x0 w K) h
def B_math_bits_TrailingZeros64 (x0 : Value) (w : World) (K : Value → World → Prop) : Prop :=
  X Tryz.prog (binOpG .eql 37 (.tmp 3) (.const (.int .u64 0)) x0 (.int .u64 0)) w fun v1 w1 =>
  condS v1 (
  K (.int .i64 64) w1) (
  X Tryz.prog (Op.unary .neg x0) w1 fun v2 w2 =>
  X Tryz.prog (binOp .and 37 x0 v2) w2 fun v3 w3 =>
  X Tryz.prog (binOp .mul 37 v3 (.int .u64 285870213051353865)) w3 fun v4 w4 =>
  X Tryz.prog (binOp .shr 37 v4 (.int .u64 58)) w4 fun v5 w5 =>
  X Tryz.prog (Instr.indexAt 137 (.pointer (some ⟨0, 0, none⟩)) v5) w5 fun v6 w6 =>
  X Tryz.prog (Instr.loadAt 5 v6) w6 fun v7 w7 =>
  X Tryz.prog (convert 5 3 v7) w7 fun v8 w8 =>
  K v8 w8)
theorem eq_math_bits_TrailingZeros64 (x0 : Value) (w : World) (K : Value → World → Prop) :
    sh Tryz.prog (Tryz.f52.body.getD .skip) (retS Tryz.prog Tryz.f52.results K) (env0 #[x0]) w = B_math_bits_TrailingZeros64 x0 w K := by kernel_rfl
theorem call_math_bits_TrailingZeros64 (x0 : Value) (w : World) (K : Value → World → Prop) (h : B_math_bits_TrailingZeros64 x0 w K) : CALL Tryz.prog 52 #[x0] w K :=
  call_of_eq (c := Tryz.f52.body.getD .skip) mixed Tryz.func52 (by kernel_rfl) (by kernel_rfl) (by kernel_rfl) (Nat.le_of_ble_eq_true (by kernel_rfl)) (eq_math_bits_TrailingZeros64 x0 w K) h
end Go.Proofs.YtcigpjejbkngfaaGreatDoor
end
section
set_option maxRecDepth 8000
namespace Go.Proofs.YtcigpjejbkngfaaGreatDoor
open Go Go.Sh Go.RowKit
attribute [local irreducible] X XU XP XR CALL loopS resC closS
def wd (m i : Nat) : Nat := 2 ^ (min 64 (m - 64 * i)) - 1
theorem wd_lt (m i : Nat) : wd m i < 18446744073709551616 := by
  unfold wd
  have h : 2 ^ (min 64 (m - 64 * i)) ≤ 2 ^ 64 := Nat.pow_le_pow_right (by decide) (Nat.min_le_left _ _)
  have e : (2 : Nat) ^ 64 = 18446744073709551616 := by decide
  have := Nat.two_pow_pos (min 64 (m - 64 * i))
  omega
def wdV (m i : Nat) : Value := .int .u64 ((wd m i : Nat) : Int)
def spW (n m : Nat) : List Value := (List.range ((n + 63) / 64)).map (wdV m)
theorem sp_at {n m i : Nat} (h : i < (n + 63) / 64) : (spW n m).toArray[i]? = some (wdV m i) := by
  rw [List.getElem?_toArray]
  unfold spW
  rw [List.getElem?_map, List.getElem?_range h]
  rfl
theorem sp_len (n m : Nat) : (spW n m).length = (n + 63) / 64 := by simp [spW]
theorem bits_has : ∀ c < 65, ∀ j < 64, (2 ^ c - 1) / 2 ^ j % 2 = if j < c then 1 else 0 := by decide +kernel
theorem bits_set : ∀ j < 64, (2 ^ j - 1) ^^^ 2 ^ j = 2 ^ (j + 1) - 1 := by decide +kernel
theorem bits_drop : ∀ c < 65, ∀ j < c, (2 ^ c - 2 ^ j) &&& (2 ^ c - 2 ^ j - 1) = 2 ^ c - 2 ^ (j + 1) := by decide +kernel
theorem wd_has (m a : Nat) : wd m (a / 64) / 2 ^ (a % 64) % 2 = if a < m then 1 else 0 := by
  unfold wd
  rw [bits_has _ (by omega) _ (Nat.mod_lt _ (by decide))]
  split <;> split <;> first | rfl | omega
theorem wd_set (m : Nat) : wd m (m / 64) ^^^ 2 ^ (m % 64) = wd (m + 1) (m / 64) := by
  have e1 : min 64 (m - 64 * (m / 64)) = m % 64 := by omega
  have e2 : min 64 (m + 1 - 64 * (m / 64)) = m % 64 + 1 := by omega
  unfold wd
  rw [e1, e2, bits_set _ (Nat.mod_lt _ (by decide))]
theorem wd_ne {m i : Nat} (h : i ≠ m / 64) : wd (m + 1) i = wd m i := by
  have e : min 64 (m + 1 - 64 * i) = min 64 (m - 64 * i) := by omega
  unfold wd
  rw [e]
theorem spW_set {n m : Nat} : (spW n m).set (m / 64) (wdV (m + 1) (m / 64)) = spW n (m + 1) := by
  apply List.ext_getElem?
  intro i
  unfold spW
  rw [List.getElem?_set]
  by_cases hi : i < (n + 63) / 64
  · rw [List.getElem?_map, List.getElem?_map, List.getElem?_range hi]
    by_cases he : m / 64 = i
    · rw [if_pos he, if_pos (by simp; omega), he]
      rfl
    · rw [if_neg he]
      show some (wdV m i) = some (wdV (m + 1) i)
      unfold wdV
      rw [wd_ne (fun h => he h.symm)]
  · have e : (List.range ((n + 63) / 64))[i]? = none := by simp; omega
    rw [List.getElem?_map, List.getElem?_map, e]
    split
    · rw [if_neg (by simp; omega)]; rfl
    · rfl
structure SpAt (w : World) (sb wb n m : Nat) : Prop where
  h : w.heap[sb]? = some (.cells #[.slice (some ⟨wb, 0, none⟩) ((n + 63) / 64) ((n + 63) / 64), .int .i64 (n : Int), .int .i64 (m : Int)] 117 (0, 0))
  ws : w.heap[wb]? = some (.cells (spW n m).toArray 37 (0, 0))
  le : m ≤ n
  pos : 0 < n
  small : n ≤ 16384
theorem SpAt.keep {w w1 : World} {E : Nat → Prop} {sb wb n m : Nat} (h : SpAt w sb wb n m) (k : Keep E w w1) (h1 : ¬ E sb) (h2 : ¬ E wb) : SpAt w1 sb wb n m := ⟨k.get h1 h.h, k.get h2 h.ws, h.le, h.pos, h.small⟩
theorem SpAt.ext {w w1 : World} {sb wb n m : Nat} (h : SpAt w sb wb n m) (k : Ext w w1) : SpAt w1 sb wb n m := h.keep k (fun h => h) (fun h => h)
theorem run_build_117 (a : Option Addr) (n c : Nat) (x : Int) (w : World) : (Instr.build 117 #[(0, .slice a n c), (1, .int .i64 x)]).run Tryz.prog w = .ok (.agg #[.slice a n c, .int .i64 x, .int .i64 0]) w := by kernel_rfl
theorem i64_shr6 (a : Nat) (w : World) : (binOp .shr 3 (.int .i64 (a : Int)) (.int .u64 6)).run Tryz.prog w = .ok (.int .i64 ((a / 64 : Nat) : Int)) w := by
  rw [run_shr _ _ (by decide) w]
  have e1 : min ((6 : Int).toNat) IntKind.i64.bits = 6 := rfl
  rw [e1, fdiv_pow]
theorem i64_and63 (a : Nat) (h : a ≤ 16384) (w : World) : (binOp .and 3 (.int .i64 (a : Int)) (.int .i64 63)).run Tryz.prog w = .ok (.int .i64 ((a % 64 : Nat) : Int)) w := by
  have e : a &&& 63 = a % 64 := Nat.and_two_pow_sub_one_eq_mod a 6
  have := run_and (P := Tryz.prog) (k := .i64) 3 a 63 (Nat.lt_of_le_of_lt h (by decide)) (by decide) (by rw [e, w64 (by omega) (by omega)]) w
  rw [e] at this
  exact this
theorem u64_shr (x j : Nat) (hj : j ≤ 64) (k : IntKind) (w : World) : (binOp .shr 37 (.int .u64 (x : Int)) (.int k (j : Int))).run Tryz.prog w = .ok (.int .u64 ((x / 2 ^ j : Nat) : Int)) w := by
  rw [run_shr _ _ (by omega) w]
  have e1 : min ((j : Int).toNat) IntKind.u64.bits = j := by show min _ 64 = _; omega
  rw [e1, fdiv_pow]
theorem u64_and1 (x : Nat) (hx : x < 18446744073709551616) (w : World) : (binOp .and 37 (.int .u64 (x : Int)) (.int .u64 1)).run Tryz.prog w = .ok (.int .u64 ((x % 2 : Nat) : Int)) w := by
  have e : x &&& 1 = x % 2 := Nat.and_two_pow_sub_one_eq_mod x 1
  have := run_and (P := Tryz.prog) (k := .u64) 37 x 1 (by exact hx) (by decide) (by rw [e, wrap_u64]; omega) w
  rw [e] at this
  exact this
theorem u64_shl1 (j : Nat) (hj : j < 64) (w : World) : (binOp .shl 37 (.int .u64 1) (.int .i64 (j : Int))).run Tryz.prog w = .ok (.int .u64 ((2 ^ j : Nat) : Int)) w := by
  rw [run_shl _ _ (by omega) w]
  have e1 : min ((j : Int).toNat) IntKind.u64.bits = j := by show min _ 64 = _; omega
  have h2 : 2 ^ j < 18446744073709551616 := (by
    have : 2 ^ j < 2 ^ 64 := Nat.pow_lt_pow_right (by decide) hj
    exact this)
  rw [e1, wrap_u64, Int.one_mul, Int.emod_eq_of_lt]
  · congr 2
  · exact_mod_cast Nat.zero_le (2 ^ j)
  · have := Int.ofNat_lt.2 h2
    rw [Int.natCast_pow] at this
    exact this
section
variable {w : World} {K : Value → World → Prop}
theorem SpNew_spec {n : Nat} (h0 : 0 < n) (h1 : n ≤ 16384) (hK : ∀ sb wb w1, Ext w w1 → w.heap.size ≤ sb → w.heap.size ≤ wb → sb ≠ wb → SpAt w1 sb wb n 0 → K (.tuple #[ptr sb, .int .i64 0]) w1) : CALL Tryz.prog 34 #[.int .i64 (n : Int)] w K := by
  apply call_space_New
  unfold B_space_New
  have e1 : decide ((n : Int) < 0) = false := decide_eq_false (by omega)
  have e2 : decide ((n : Int) > 16384) = false := decide_eq_false (by omega)
  rw [X_lss, e1]
  simp only [GS]
  rw [X_gtr, e2]
  simp only [GS]
  rw [X_add, w64 (by omega) (by omega)]
  refine X_of (i64_shr6 (n + 63) _) ?_
  refine X_make (z := .int .u64 0) (bytes := 8) (size := 1) Tryz.underlying115 el_37 ((n + 63) / 64) ((n + 63) / 64) rfl rfl (Nat.le_refl _) (by omega) (by omega) ?_
  have hx1 := newB_ext w (madeCells (Value.int .u64 0).cells ((n + 63) / 64 * 1)) 37
  have hg1 := newB_get w (madeCells (Value.int .u64 0).cells ((n + 63) / 64 * 1)) 37
  have ec : madeCells (Value.int .u64 0).cells ((n + 63) / 64 * 1) = (spW n 0).toArray := by
    apply Array.ext'
    rw [Nat.mul_one]
    show (madeCells #[Value.int .u64 0] ((n + 63) / 64)).toList = _
    rw [made_one]
    apply List.ext_getElem?
    intro i
    by_cases hi : i < (n + 63) / 64
    · show _ = (spW n 0).toArray.toList[i]?
      have := sp_at (m := 0) hi
      rw [List.getElem?_toArray] at this
      rw [List.getElem?_replicate, if_pos hi]
      show _ = (spW n 0)[i]?
      rw [this]
      show _ = some (Value.int .u64 ((wd 0 i : Nat) : Int))
      have : wd 0 i = 0 := by unfold wd; rw [Nat.zero_sub, Nat.min_zero]
      rw [this]
      rfl
    · rw [List.getElem?_eq_none (by simp; omega), List.getElem?_eq_none (by simp [sp_len]; omega)]
  rw [ec] at hx1 hg1 ⊢
  have hs1 : (newB w (spW n 0).toArray 37).heap.size = w.heap.size + 1 := newB_size _ _ _
  generalize newB w (spW n 0).toArray 37 = w1 at hx1 hg1 hs1 ⊢
  refine X_of (run_build_117 _ _ _ _ _) ?_
  refine X_box ?_
  have hx2 := newB_ext w1 (Value.agg #[.slice (some ⟨w.heap.size, 0, none⟩) ((n + 63) / 64) ((n + 63) / 64), .int .i64 (n : Int), .int .i64 0]).cells 117
  have hg2 : (newB w1 (Value.agg #[.slice (some ⟨w.heap.size, 0, none⟩) ((n + 63) / 64) ((n + 63) / 64), .int .i64 (n : Int), .int .i64 0]).cells 117).heap[w1.heap.size]? = some (.cells #[.slice (some ⟨w.heap.size, 0, none⟩) ((n + 63) / 64) ((n + 63) / 64), .int .i64 (n : Int), .int .i64 0] 117 (0, 0)) := newB_get _ _ _
  exact hK _ _ _ (hx1.trans hx2) (by omega) (Nat.le_refl _) (by omega) ⟨hg2, Ext.get hx2 hg1, Nat.zero_le _, h0, h1⟩
theorem SpLen_spec {sb wb n m : Nat} (h : SpAt w sb wb n m) (hK : K (.int .i64 (n : Int)) w) : CALL Tryz.prog 70 #[ptr sb] w K := by
  apply call_space_Space_Len
  unfold B_space_Space_Len
  (repeat (simp only [SLB, Int.reduceEq, Int.reduceNe, Int.reduceLT, Int.reduceLE, Int.reduceGT, Int.reduceGE, X_field_117_1]))
  exact X_of (run_loadAt (v := .int .i64 (n : Int)) agg_3 ((cell_blk h.h).trans rfl)) hK
theorem there_spec {sb wb n m a : Nat} (h : SpAt w sb wb n m) (hK : K (.bool (decide (a < n))) w) : CALL Tryz.prog 96 #[ptr sb, .int .i64 (a : Int)] w K := by
  apply call_space_Space_there
  unfold B_space_Space_there
  have e1 : decide ((a : Int) ≥ 0) = true := decide_eq_true (by omega)
  have e2 : decide ((a : Int) < (n : Int)) = decide (a < n) := by simp
  (repeat (simp only [SLB, Int.reduceEq, Int.reduceNe, Int.reduceLT, Int.reduceLE, Int.reduceGT, Int.reduceGE, e1, X_field_117_1]))
  refine X_of (run_loadAt (v := .int .i64 (n : Int)) agg_3 ((cell_blk h.h).trans rfl)) ?_
  (repeat (simp only [SLB, Int.reduceEq, Int.reduceNe, Int.reduceLT, Int.reduceLE, Int.reduceGT, Int.reduceGE, e2]))
  exact hK
theorem sp_idx {wb n i : Nat} (hi : i < (n + 63) / 64) (w' : World) : (Instr.indexAt 115 (.slice (some ⟨wb, 0, none⟩) ((n + 63) / 64) ((n + 63) / 64)) (.int .i64 (i : Int))).run Tryz.prog w' = .ok (.pointer (some ⟨wb, i, none⟩)) w' := by
  rw [ix Tryz.underlying115 info_37 i rfl hi w', sz_37, add_plain, Nat.mul_one, Nat.zero_add]
theorem Has_spec' {sb wb n m a : Nat} (h : SpAt w sb wb n m) (ha : a ≤ 16384) (hK : K (.bool (decide (a < m))) w) : CALL Tryz.prog 71 #[ptr sb, .int .i64 (a : Int)] w K := by
  apply call_space_Space_Has
  unfold B_space_Space_Has
  (repeat (simp only [SLB, Int.reduceEq, Int.reduceNe, Int.reduceLT, Int.reduceLE, Int.reduceGT, Int.reduceGE]))
  refine there_spec h ?_
  have hle := h.le
  by_cases hn : a < n
  · have e : decide (a < n) = true := decide_eq_true hn
    rw [e]
    (repeat (simp only [SLB, Int.reduceEq, Int.reduceNe, Int.reduceLT, Int.reduceLE, Int.reduceGT, Int.reduceGE, X_field_117_0]))
    refine X_of (run_loadAt (v := .slice (some ⟨wb, 0, none⟩) ((n + 63) / 64) ((n + 63) / 64)) agg_115 ((cell_blk h.h).trans rfl)) ?_
    refine X_of (i64_shr6 a _) ?_
    have hi : a / 64 < (n + 63) / 64 := by omega
    refine X_of (sp_idx hi _) ?_
    refine X_of (run_loadAt (v := wdV m (a / 64)) agg_37 ((cell_blk h.ws).trans (sp_at hi))) ?_
    refine X_of (i64_and63 a ha _) ?_
    refine X_of (u64_shr _ (a % 64) (by omega) .i64 _) ?_
    refine X_of (u64_and1 _ (Nat.lt_of_le_of_lt (Nat.div_le_self _ _) (wd_lt _ _)) _) ?_
    rw [wd_has]
    by_cases hm : a < m
    · rw [if_pos hm]
      rw [decide_eq_true hm] at hK
      (repeat (simp only [SLB, Int.reduceEq, Int.reduceNe, Int.reduceLT, Int.reduceLE, Int.reduceGT, Int.reduceGE]))
      exact hK
    · rw [if_neg hm]
      rw [decide_eq_false hm] at hK
      (repeat (simp only [SLB, Int.reduceEq, Int.reduceNe, Int.reduceLT, Int.reduceLE, Int.reduceGT, Int.reduceGE]))
      exact hK
  · have e : decide (a < n) = false := decide_eq_false hn
    rw [e]
    rw [decide_eq_false (by omega)] at hK
    (repeat (simp only [SLB, Int.reduceEq, Int.reduceNe, Int.reduceLT, Int.reduceLE, Int.reduceGT, Int.reduceGE]))
    exact hK
end
end Go.Proofs.YtcigpjejbkngfaaGreatDoor
end
