/- Part 16 of what the law is proved with. -/
import Derived.Test.YtcigpjejbkngfaaGreatDoorQTR15
set_option linter.unusedVariables false
set_option linter.unusedSimpArgs false
section
set_option maxRecDepth 8000
namespace Go.Proofs.YtcigpjejbkngfaaGreatDoor
open Go Go.Sh Go.RowKit
attribute [local irreducible] X XU XP XR CALL loopS resC closS
def slC (v : Value) : List Value := [v]
theorem slC_len (v : Value) : (slC v).length = 1 := rfl
abbrev nilB : Value := .slice none 0 0
theorem run_build_165 (w : World) : (Instr.build 165 #[(0, cutV)]).run Tryz.prog w = .ok (.agg #[.int .i64 26, .int .i64 36, .int .u32 1, .int .u32 1, .int .u32 0, .int .i64 0, .int .i64 0]) w := by kernel_rfl
theorem run_build_167 (w : World) : (Instr.build 167 #[(0, .agg #[.int .i64 26, .int .i64 36, .int .u32 1, .int .u32 1, .int .u32 0, .int .i64 0, .int .i64 0])]).run Tryz.prog w = .ok (.agg (stC 0 0 nilB)) w := by kernel_rfl
theorem cut_load {w : World} {b : Nat} {s n : Int} {h : Value} {T : TypeId} {fr : Nat × Nat} (hg : w.heap[b]? = some (.cells (stC s n h) T fr)) : (Instr.loadAt 50 (ptr b)).run Tryz.prog w = .ok cutV w :=
  load_cells Tryz.underlying50 agg_50 info_50 (l := [.int .i64 26, .int .i64 36, .int .u32 1, .int .u32 1]) (by rw [sz_50]; rfl) (fun j u hj => by
    rw [add_plain, Nat.zero_add, cell_blk hg]
    have hjl := (List.getElem?_eq_some_iff.1 hj).1
    simp only [List.length_cons, List.length_nil] at hjl
    have : j = 0 ∨ j = 1 ∨ j = 2 ∨ j = 3 := by omega
    rcases this with rfl | rfl | rfl | rfl <;> exact hj)
section
variable {w : World} {K : Value → World → Prop}
theorem CNew_spec (hK : ∀ b w1, Ext w w1 → w.heap.size ≤ b → w1.heap[b]? = some (.cells (stC 0 0 nilB) 167 (0, 0)) → K (ptr b) w1) : CALL Tryz.prog 53 #[cutV] w K := by
  apply call_chunk_New
  unfold B_chunk_New
  refine X_box ?_
  have hx1 := newB_ext w cutV.cells 50
  have hg1 : (newB w cutV.cells 50).heap[w.heap.size]? = some (.cells [Value.int .i64 26, .int .i64 36, .int .u32 1, .int .u32 1].toArray 50 (0, 0)) := newB_get _ _ _
  generalize newB w cutV.cells 50 = w1 at hx1 hg1 ⊢
  have hload : ∀ w', Ext w1 w' → (Instr.loadAt 50 (ptr w.heap.size)).run Tryz.prog w' = .ok cutV w' := fun w' kk =>
    load_cells Tryz.underlying50 agg_50 info_50 (l := [.int .i64 26, .int .i64 36, .int .u32 1, .int .u32 1]) (by rw [sz_50]; rfl) (fun j u hj => by
      rw [add_plain, Nat.zero_add, cell_blk (Ext.get kk hg1), List.getElem?_toArray]
      exact hj)
  refine X_of (hload _ (Keep.refl _ _)) ?_
  refine CRight_spec ?_
  intro w2 hx2
  (repeat (simp only [SLB, Int.reduceEq, Int.reduceNe, Int.reduceLT, Int.reduceLE, Int.reduceGT, Int.reduceGE]))
  refine X_of (hload _ hx2) ?_
  refine X_of (run_build_165 _) ?_
  refine X_of (run_build_167 _) ?_
  refine X_box ?_
  have hx3 := newB_ext w2 (Value.agg (stC 0 0 nilB)).cells 167
  have hg3 : (newB w2 (Value.agg (stC 0 0 nilB)).cells 167).heap[w2.heap.size]? = some (.cells (stC 0 0 nilB) 167 (0, 0)) := newB_get _ _ _
  have hs := (hx1.trans hx2).size
  exact hK _ _ ((hx1.trans hx2).trans hx3) hs hg3
theorem scan_store {b : Nat} {s n : Int} {h : Value} {Q : World → Prop} (hg : w.heap[b]? = some (.cells (stC s n h) 167 (0, 0))) (hQ : ∀ w1, Keep (· = b) w w1 → w1.heap[b]? = some (.cells (stC 0 0 h) 167 (0, 0)) → Q w1) :
    XU Tryz.prog (Instr.storeAt 165 (ptr b) (.agg #[.int .i64 26, .int .i64 36, .int .u32 1, .int .u32 1, .int .u32 0, .int .i64 0, .int .i64 0])) w Q := by
  refine XU_storeAggAt (o := 0) (l := [.int .i64 26, .int .i64 36, .int .u32 1, .int .u32 1, .int .u32 0, .int .i64 0, .int .i64 0]) info_165 hg (by show 0 + 7 ≤ 8; decide) (by rw [sz_165]; rfl) (by
    intro u hu
    simp only [List.mem_cons, List.not_mem_nil, or_false] at hu
    rcases hu with rfl | rfl | rfl | rfl | rfl | rfl | rfl <;> rfl) ?_
  exact hQ _ (setAt_keep _ _ _ _ _) (setAt_same (lt_of_blk hg))
theorem one_row {p : Value} {W : World} : RowK 1 slC (newB W #[p] 28) (.slice (some ⟨W.heap.size, 0, none⟩) 1 1) [p] :=
  RowK.ofK (f := slC) (T := 28) (fr := (0, 0)) (by decide) slC_len (by rw [newB_get]; rfl) rfl (by decide)
set_option maxHeartbeats 2000000 in
theorem CWrite_spec {b : Nat} {v : Value} {bs : List UInt8} (hg : w.heap[b]? = some (.cells (stC 0 0 nilB) 167 (0, 0))) (hb : Bts w v bs) (h1 : 26 < bs.length) (h2 : bs.length < 52)
    (hK : ∀ out p rest W s n, Keep (· = b) w W → OwnK 1 28 slC W w.heap.size out [p] → Bts W p (bs.take 26) → (∀ g, p.ownBlock = some g → w.heap.size ≤ g ∧ out.ownBlock ≠ some g) → W.heap[b]? = some (.cells (stC s n rest) 167 (0, 0)) → Bts W rest (bs.drop 26) → (∀ g, rest.ownBlock = some g → w.heap.size ≤ g) → K out W) :
    CALL Tryz.prog 54 #[ptr b, v] w K := by
  have lb := lt_of_blk hg
  apply call_chunk_Stream_Write
  unfold B_chunk_Stream_Write
  (repeat (simp only [SLB, Int.reduceEq, Int.reduceNe, Int.reduceLT, Int.reduceLE, Int.reduceGT, Int.reduceGE, X_field_167_1]))
  refine X_of (run_loadAt (v := nilB) agg_28 ((cell_blk hg).trans rfl)) ?_
  refine part_spec (Bts.nil w) (by decide) ?_
  intro u0 wa hxa hoa
  refine X_append_bts Tryz.underlying28 el_5 hoa (hb.ext hxa) (by simp; omega) hxa.size ?_
  intro all wb hob hkb
  rw [List.nil_append] at hob
  have hx0b : Ext w wb := Ext.seq hxa hkb (fun g hg => (hoa.lt g hg.symm).1)
  have hall := (own_bts hob).1
  have hablk : ∀ g, all.ownBlock = some g → w.heap.size ≤ g := fun g hg => (hob.lt g hg).1
  have hgb := Ext.get hx0b hg
  refine loopGR 0 (fun ρ W => ∃ (i : Nat) (ps : List Value), i ≤ 1 ∧ ps.length = i ∧ Keep (· = b) w W ∧ W.heap[b]? = some (.cells (stC 0 0 nilB) 167 (0, 0)) ∧ (∀ p ∈ ps, Bts W p (bs.take 26) ∧ ∀ g, p.ownBlock = some g → w.heap.size ≤ g ∧ (ρ 6).ownBlock ≠ some g) ∧ Bts W (ρ 5) (bs.drop (26 * i)) ∧
      (∀ g, (ρ 5).ownBlock = some g → w.heap.size ≤ g) ∧ OwnK 1 28 slC W w.heap.size (ρ 6) ps ∧ ρ 0 = ptr b ∧ (i = 0 → ρ 6 = nilB))
    (fun ρ W => match ρ 5 with | .slice _ n _ => n | _ => 0) (fun ρ W => False)
    (fun ρ W => ∃ p rest s n, Keep (· = b) w W ∧ OwnK 1 28 slC W w.heap.size (ρ 4) [p] ∧ Bts W p (bs.take 26) ∧ (∀ g, p.ownBlock = some g → w.heap.size ≤ g ∧ (ρ 4).ownBlock ≠ some g) ∧ W.heap[b]? = some (.cells (stC s n rest) 167 (0, 0)) ∧ Bts W rest (bs.drop 26) ∧ (∀ g, rest.ownBlock = some g → w.heap.size ≤ g)) ?_ ?_ ?_ ?_
  · exact ⟨0, [], by omega, rfl, Keep.ext hx0b, hgb, (fun p hp => by cases hp), hall, hablk, ownK_nil _ _, rfl, fun _ => rfl⟩
  · rintro J hJ hJR ρ W ⟨i, ps, hi, hpl, hk, hgW, hps, h5, h5b, ho6, r0, r6⟩
    obtain ⟨a5, c5, e5⟩ := Bts.slice h5
    rw [r0]
    (repeat (simp only [SLB, Int.reduceEq, Int.reduceNe, Int.reduceLT, Int.reduceLE, Int.reduceGT, Int.reduceGE, X_field_167_0]))
    have hsW := hk.size
    have hdl : (bs.drop (26 * i)).length = bs.length - 26 * i := List.length_drop ..
    refine look_spec hgW h5 (fun g hg => by have := h5b g hg; omega) (by omega) (by omega) ?_ ?_
    · intro hlen W1 s k1 hg1
      have hi0 : i = 0 := by omega
      subst hi0
      (repeat (simp only [SLB, Int.reduceEq, Int.reduceNe, Int.reduceLT, Int.reduceLE, Int.reduceGT, Int.reduceGE]))
      have h51 := h5.keep k1 (fun g hg hh => by have := h5b g hg; omega)
      obtain ⟨u, hu, hub, hubk⟩ := cut_hi Tryz.underlying28 info_5 h51 (kh := .i64) (hj := 26) 26 rfl hlen
      refine X_of (hu _) ?_
      refine part_spec hub (by simp; omega) ?_
      intro p W2 hx2 ho2
      have hpb := (own_bts ho2).1
      obtain ⟨a2, c2, e2⟩ := own_sl ho2
      refine X_buildSlice1 Tryz.underlying22 el_28 (by rw [e2]; rfl) ?_
      have hx3 := newB_ext W2 #[p] 28
      have hrow3 := one_row (p := p) (W := W2)
      generalize newB W2 #[p] 28 = W3 at hx3 hrow3 ⊢
      have hps0 : ps = [] := List.eq_nil_of_length_eq_zero hpl
      subst hps0
      have ho63 := ((ho6.keep k1 (fun g hg hh => by have := (ho6.lt g hg).1; omega)).ext hx2).ext hx3
      have hs1 := k1.size
      have hs2 := hx2.size
      have hs3 := hx3.size
      refine X_appendK Tryz.underlying22 el_28 (by decide) slC_len (by intro x hx u hu; rw [List.mem_singleton.1 hx] at hu; rw [List.mem_singleton.1 hu, e2]; rfl) ho63 hrow3 (by simp) (by decide) (by omega) ?_
      intro out W4 ho4 k4
      have h34 : Ext W3 W4 := k4.mono (fun g _ hg => by rw [r6 rfl] at hg; cases hg)
      have h14 : Ext W1 W4 := (hx2.trans hx3).trans h34
      rw [List.nil_append] at ho4
      have h54 := h51.ext h14
      obtain ⟨u2, hu2, hub2, hubk2⟩ := cut_lo Tryz.underlying28 info_5 sz_5 h54 (kl := .i64) (li := 26) 26 rfl hlen
      refine X_of (hu2 _) ?_
      have hg4 := Ext.get h14 hg1
      (repeat (simp only [SLB, Int.reduceEq, Int.reduceNe, Int.reduceLT, Int.reduceLE, Int.reduceGT, Int.reduceGE, X_field_167_0, X_field_165_0]))
      refine X_of (cut_load hg4) ?_
      refine X_of (run_build_165 _) ?_
      (repeat (simp only [SLB, Int.reduceEq, Int.reduceNe, Int.reduceLT, Int.reduceLE, Int.reduceGT, Int.reduceGE, X_field_167_0]))
      refine scan_store hg4 ?_
      intro W5 k5 hg5
      have k15 : Keep (· = b) W1 W5 := (Keep.ext h14).trans k5
      have hpW : Bts W5 p (bs.take 26) := by
        have := ((hpb.ext hx3).ext h34).keep k5 (fun g hg hh => by have := (ho2.lt g hg).1; omega)
        simpa using this
      show _ ∧ _
      refine ⟨⟨1, [p], by omega, rfl, (hk.trans k1).trans k15, hg5, ?_, ?_, ?_, ho4.keep k5 (fun g hg hh => by have := (ho4.lt g hg).1; omega), r0, fun h => absurd h (by decide)⟩, ?_⟩
      · intro q hq
        rw [List.mem_singleton.1 hq]
        refine ⟨hpW, fun g hg => ⟨by have := (ho2.lt g hg).1; omega, fun hh => ?_⟩⟩
        have hh' : out.ownBlock = some g := hh
        obtain ⟨c1, hc1⟩ := own_blkT (own_extD (own_extD ho2 hx3) h34) hg
        obtain ⟨c2, hc2⟩ := own_blkT ho4 hh'
        rw [hc1] at hc2
        injection hc2 with hc2
        injection hc2 with _ hc2 _
        exact absurd hc2 (by decide)
      · have := hub2.keep k5 (fun g hg hh => by rw [hubk2] at hg; have := h5b g hg; omega)
        show Bts W5 u2 (bs.drop (26 * (0 + 1)))
        simpa using this
      · intro g hg
        have hg' : u2.ownBlock = some g := hg
        rw [hubk2] at hg'
        exact h5b g hg'
      · show (match u2 with | .slice _ n _ => n | _ => 0) < (match ρ 5 with | .slice _ n _ => n | _ => 0)
        obtain ⟨a6, c6, e6⟩ := Bts.slice hub2
        rw [e6, e5]
        show ((bs.drop (26 * 0)).drop 26).length < (bs.drop (26 * 0)).length
        simp
        omega
    · intro hlen W1 s k1 hg1
      have hi1 : i = 1 := by omega
      subst hi1
      (repeat (simp only [SLB, Int.reduceEq, Int.reduceNe, Int.reduceLT, Int.reduceLE, Int.reduceGT, Int.reduceGE, X_field_167_1]))
      refine XU_store info_28 sz_28 (by rw [e5]; rfl) hg1 (by show 0 + 7 < 8; decide) (by show ¬ (0 ≤ 0 + 7 ∧ 0 + 7 < 0); omega) ?_
      have k4 := setAt_keep W1 b ((stC s ((bs.drop (26 * 1)).length : Int) nilB).setIfInBounds (0 + 7) (ρ 5)) 167 (0, 0)
      have c4 : (setAt W1 b ((stC s ((bs.drop (26 * 1)).length : Int) nilB).setIfInBounds (0 + 7) (ρ 5)) 167 (0, 0)).heap[b]? = some (.cells (stC s ((bs.drop (26 * 1)).length : Int) (ρ 5)) 167 (0, 0)) := setAt_same (lt_of_blk hg1)
      generalize setAt W1 b ((stC s ((bs.drop (26 * 1)).length : Int) nilB).setIfInBounds (0 + 7) (ρ 5)) 167 (0, 0) = W4 at k4 c4 ⊢
      have k14 := k1.trans k4
      match ps, hpl with
      | [p], _ =>
        obtain ⟨hp1, hp2⟩ := hps p (by simp)
        refine hJR _ _ ⟨p, ρ 5, s, _, hk.trans k14, ?_, hp1.keep k14 (fun g hg hh => by have := (hp2 g hg).1; omega), hp2, c4, h5.keep k14 (fun g hg hh => by have := h5b g hg; omega), h5b⟩
        exact ho6.keep k14 (fun g hg hh => by have := (ho6.lt g hg).1; omega)
  · rintro ρ W hF
    exact hF.elim
  · rintro ρ W ⟨p, rest, s, n, hk, ho, hp1, hp2, hc, hr1, hr2⟩
    show K (ρ 4) W
    exact hK _ p rest W s n hk ho hp1 hp2 hc hr1 hr2
theorem CClose_spec {b : Nat} {s n : Int} {h : Value} {r : List UInt8} (hg : w.heap[b]? = some (.cells (stC s n h) 167 (0, 0))) (hb : Bts w h r) (hbb : ∀ g, h.ownBlock = some g → g ≠ b) (h0 : 0 < r.length) (hl : r.length ≤ 1000)
    (hK : ∀ out p W, Keep (· = b) w W → RowK 1 slC W out [p] → Bts W p r → (∀ g, p.ownBlock = some g → w.heap.size ≤ g) → K out W) : CALL Tryz.prog 55 #[ptr b] w K := by
  have lb := lt_of_blk hg
  obtain ⟨a, c, eh⟩ := Bts.slice hb
  apply call_chunk_Stream_Close
  unfold B_chunk_Stream_Close
  (repeat (simp only [SLB, Int.reduceEq, Int.reduceNe, Int.reduceLT, Int.reduceLE, Int.reduceGT, Int.reduceGE, X_field_167_1]))
  refine X_of (run_loadAt (v := h) agg_28 ((cell_blk hg).trans rfl)) ?_
  have e0 : decide ((r.length : Int) = 0) = false := decide_eq_false (by omega)
  rw [eh]
  (repeat (simp only [SLB, Int.reduceEq, Int.reduceNe, Int.reduceLT, Int.reduceLE, Int.reduceGT, Int.reduceGE, e0, X_field_167_1]))
  refine X_of (run_loadAt (v := h) agg_28 ((cell_blk hg).trans rfl)) ?_
  refine part_spec hb (by omega) ?_
  intro p W2 hx2 ho2
  have hpb := (own_bts ho2).1
  obtain ⟨a2, c2, e2⟩ := own_sl ho2
  refine X_buildSlice1 Tryz.underlying22 el_28 (by rw [e2]; rfl) ?_
  have hx3 := newB_ext W2 #[p] 28
  have hrow3 := one_row (p := p) (W := W2)
  have hg3' : W2.heap.size < (newB W2 #[p] 28).heap.size := by rw [newB_size]; omega
  have hrb : (Value.slice (some ⟨W2.heap.size, 0, none⟩) 1 1).ownBlock = some W2.heap.size := rfl
  generalize newB W2 #[p] 28 = W3 at hx3 hrow3 hg3' ⊢
  have hg3 := Ext.get (hx2.trans hx3) hg
  have hs2 := hx2.size
  have hs3 := hx3.size
  (repeat (simp only [SLB, Int.reduceEq, Int.reduceNe, Int.reduceLT, Int.reduceLE, Int.reduceGT, Int.reduceGE, X_field_167_0, X_field_165_0]))
  refine X_of (cut_load hg3) ?_
  refine X_of (run_build_165 _) ?_
  (repeat (simp only [SLB, Int.reduceEq, Int.reduceNe, Int.reduceLT, Int.reduceLE, Int.reduceGT, Int.reduceGE, X_field_167_1]))
  refine XU_store info_28 sz_28 rfl hg3 (by show 0 + 7 < 8; decide) (by show ¬ (0 ≤ 0 + 7 ∧ 0 + 7 < 0); omega) ?_
  have k4 := setAt_keep W3 b ((stC s n h).setIfInBounds (0 + 7) nilB) 167 (0, 0)
  have c4 : (setAt W3 b ((stC s n h).setIfInBounds (0 + 7) nilB) 167 (0, 0)).heap[b]? = some (.cells (stC s n nilB) 167 (0, 0)) := setAt_same (lt_of_blk hg3)
  generalize setAt W3 b ((stC s n h).setIfInBounds (0 + 7) nilB) 167 (0, 0) = W4 at k4 c4 ⊢
  (repeat (simp only [SLB, Int.reduceEq, Int.reduceNe, Int.reduceLT, Int.reduceLE, Int.reduceGT, Int.reduceGE, X_field_167_0]))
  refine scan_store c4 ?_
  intro W5 k5 hg5
  have k35 := k4.trans k5
  refine hK _ p W5 ((Keep.ext (hx2.trans hx3)).trans k35) (hrow3.keep k35 (fun _ g hg hh => by have h7 : W2.heap.size = g := Option.some.inj hg; omega)) ((hpb.ext hx3).keep k35 (fun g hg hh => by have := (ho2.lt g hg).1; omega)) (fun g hg => (ho2.lt g hg).1)
theorem CAll_spec {v : Value} {bs : List UInt8} (hb : Bts w v bs) (h1 : 26 < bs.length) (h2 : bs.length < 52)
    (hK : ∀ out p q W, Ext w W → RowK 1 slC W out [p, q] → (∀ g, out.ownBlock = some g → w.heap.size ≤ g ∧ g < W.heap.size) → Bts W p (bs.take 26) → Bts W q (bs.drop 26) → (∀ g, p.ownBlock = some g → w.heap.size ≤ g) → (∀ g, q.ownBlock = some g → w.heap.size ≤ g) → K out W) : CALL Tryz.prog 29 #[cutV, v] w K := by
  apply call_chunk_All
  unfold B_chunk_All
  refine X_box ?_
  have hx1 := newB_ext w cutV.cells 50
  have hg1 : (newB w cutV.cells 50).heap[w.heap.size]? = some (.cells [Value.int .i64 26, .int .i64 36, .int .u32 1, .int .u32 1].toArray 50 (0, 0)) := newB_get _ _ _
  generalize newB w cutV.cells 50 = w1 at hx1 hg1 ⊢
  refine X_of (v := cutV) (w1 := w1) (load_cells Tryz.underlying50 agg_50 info_50 (l := [.int .i64 26, .int .i64 36, .int .u32 1, .int .u32 1]) (by rw [sz_50]; rfl) (fun j u hj => by
    rw [add_plain, Nat.zero_add, cell_blk hg1, List.getElem?_toArray]
    exact hj)) ?_
  refine CNew_spec ?_
  intro b w2 hx2 hlb hg2
  have hx02 := hx1.trans hx2
  have hs1 := hx1.size
  have hs2 := hx2.size
  refine CWrite_spec hg2 (hb.ext hx02) h1 h2 ?_
  intro out p rest W s n k3 ho3 hp3 hp3b hg3 hr3 hr3b
  have lb := lt_of_blk hg2
  have hs3 := k3.size
  refine CClose_spec hg3 hr3 (fun g hg => by have := hr3b g hg; omega) (by simp; omega) (by simp; omega) ?_
  intro out2 q W2 k4 ho4 hq4 hq4b
  have k24 := k3.trans k4
  have hx04 : Ext w W2 := Ext.seq hx02 k24 (fun g hg => by omega)
  have ho34 := ho3.keep k4 (fun g hg hh => by have := (ho3.lt g hg).1; omega)
  have hp4 := hp3.keep k4 (fun g hg hh => by have := (hp3b g hg).1; omega)
  obtain ⟨aq, cq, eq⟩ := Bts.slice hq4
  have hs4 := k4.size
  refine X_appendK Tryz.underlying22 el_28 (by decide) slC_len (by intro x hx u hu; rw [List.mem_singleton.1 hx] at hu; rw [List.mem_singleton.1 hu, eq]; rfl) ho34 ho4 (by simp) (by decide) (by omega) ?_
  intro out' W3 ho5 k5
  have hx05 : Ext w W3 := Ext.seq hx04 k5 (fun g hg => by have := (ho34.lt g hg.symm).1; omega)
  refine hK out' p q W3 hx05 (OwnK.rowK (by decide) slC_len ho5) (fun g hg => ⟨by have := (ho5.lt g hg).1; omega, (ho5.lt g hg).2⟩) (hp4.keep k5 (fun g hg hh => (hp3b g hg).2 hh.symm)) (hq4.keep k5 (fun g hg hh => ?_)) (fun g hg => by have := (hp3b g hg).1; omega) (fun g hg => by have := hq4b g hg; omega)
  have h1 := (ho3.lt g hh.symm).2
  have h2 := hq4b g hg
  omega
end
end Go.Proofs.YtcigpjejbkngfaaGreatDoor
end
section
namespace Go.Proofs.YtcigpjejbkngfaaGreatDoor
open Go Go.Sh Go.RowKit Go.ChangeShapes Go.WideShapes Go.ChangeAt
attribute [local irreducible] X XU XP XR CALL loopS resC closS Value.okWide
theorem wrap_lo (n : Int) : -9223372036854775808 ≤ IntKind.i64.wrap n := by rw [IntKind.wrap_i64]; omega
theorem wrap_hi (n : Int) : IntKind.i64.wrap n ≤ 9223372036854775807 := by rw [IntKind.wrap_i64]; omega
def mkEx (k : Ky) (a b : Int) : Ex := ⟨k, IntKind.i64.wrap a, IntKind.i64.wrap b, wrap_lo a, wrap_hi a, wrap_lo b, wrap_hi b⟩
theorem X_appEx {w : World} {base : Nat} {vo : Value} {ks : List Ex} {e : Ex} (ho : OwnK 35 84 Ex.cs w base vo ks) (hn : ks.length ≤ 1000000) (hbase : base ≤ w.heap.size) {K2 : Value → Value → World → Prop}
    (hK : ∀ u v' w1, OwnK 35 84 Ex.cs w1 base v' (ks ++ [e]) → Keep (fun q => some q = vo.ownBlock) w w1 → K2 u v' w1) :
    X Tryz.prog (Instr.buildSlice 46 1 #[(0, .agg e.cs.toArray)]) w fun u w1 => X Tryz.prog (Builtin.append_ #[46, 46] 46 #[vo, u]) w1 fun v' w2 => K2 u v' w2 := by
  refine X_buildSliceK Tryz.underlying46 el_84 (by decide) (by decide) e.cs_len ?_
  have hx3 := newB_ext w e.cs.toArray 84
  have hg3 := newB_get w e.cs.toArray 84
  show X _ _ (newB w e.cs.toArray 84) _
  generalize newB w e.cs.toArray 84 = w3 at hx3 hg3 ⊢
  have hrow : RowK 35 Ex.cs w3 (.slice (some ⟨w.heap.size, 0, none⟩) 1 1) [e] := by
    refine RowK.ofK (T := 84) (fr := (0, 0)) (by decide) Ex.cs_len ?_ rfl (by decide)
    rw [hg3]
    unfold cellsK
    simp
  refine X_appendK Tryz.underlying46 el_84 (by decide) Ex.cs_len (fun x hx => by rw [List.mem_singleton.1 hx]; exact Ex.one e) (ho.ext hx3) hrow (by simp; omega) (by decide) (by have := hx3.size; omega) ?_
  intro v' w4 ho4 hk4
  exact hK _ _ _ ho4 (Keep.trans (Keep.ext hx3) hk4)
end Go.Proofs.YtcigpjejbkngfaaGreatDoor
end
section
namespace Go.Proofs.YtcigpjejbkngfaaGreatDoor
open Go Go.Sh Go.RowKit
attribute [local irreducible] X XU XP XR CALL loopS resC closS
section
variable {w : World} {K : Value → World → Prop}
end
end Go.Proofs.YtcigpjejbkngfaaGreatDoor
end
section
namespace Go.Proofs.YtcigpjejbkngfaaGreatDoor
open Go Go.Sh
end Go.Proofs.YtcigpjejbkngfaaGreatDoor
end
section
namespace Go.Proofs.YtcigpjejbkngfaaGreatDoor
open Go Go.Sh Go.RowKit
attribute [local irreducible] X XU XP XR CALL loopS resC closS
end Go.Proofs.YtcigpjejbkngfaaGreatDoor
end
section
namespace Go.Proofs.YtcigpjejbkngfaaGreatDoor
open Go Go.Sh Go.RowKit
attribute [local irreducible] X XU XP XR CALL loopS resC closS
def mrg (p : Ex) (n : Int) : Ex := ⟨p.k, p.off, IntKind.i64.wrap n, p.o1, p.o2, wrap_lo n, wrap_hi n⟩
def Fits (p x : Ex) : Prop := p.k = x.k ∧ p.off + p.len = x.off
instance (p x : Ex) : Decidable (Fits p x) := inferInstanceAs (Decidable (_ ∧ _))
def put1 (out : List Ex) (x : Ex) : List Ex :=
  if h : 0 < out.length then if Fits (out[out.length - 1]'(by omega)) x then out.take (out.length - 1) ++ [mrg (out[out.length - 1]'(by omega)) ((out[out.length - 1]'(by omega)).len + x.len)] else out ++ [x] else out ++ [x]
def joinL (l : List Ex) : List Ex := l.foldl put1 []
def joinE (ls : List (List Ex)) : List Ex := if (∀ p ∈ ls, RightP p) ∧ RightP (joinL ls.flatten) then joinL ls.flatten else []
theorem put1_none {out : List Ex} {x : Ex} (h : out.length = 0) : put1 out x = out ++ [x] := by unfold put1; rw [dif_neg (by omega)]
theorem put1_yes {out : List Ex} {x : Ex} {n : Nat} (h : n + 1 = out.length) (hf : Fits (out[n]'(by omega)) x) : put1 out x = out.take n ++ [mrg (out[n]'(by omega)) ((out[n]'(by omega)).len + x.len)] := by
  have e : n = out.length - 1 := by omega
  subst e
  unfold put1
  rw [dif_pos (by omega), if_pos hf]
theorem put1_no {out : List Ex} {x : Ex} {n : Nat} (h : n + 1 = out.length) (hf : ¬ Fits (out[n]'(by omega)) x) : put1 out x = out ++ [x] := by
  have e : n = out.length - 1 := by omega
  subst e
  unfold put1
  rw [dif_pos (by omega), if_neg hf]
theorem set_last {α : Type} {l : List α} {n : Nat} (h : n + 1 = l.length) (x : α) : l.set n x = l.take n ++ [x] := by
  apply List.ext_getElem?
  intro i
  by_cases hi : i = n
  · subst hi
    rw [List.getElem?_set_self (by omega), List.getElem?_append_right (by simp; omega)]
    have : i - (l.take i).length = 0 := by simp; omega
    rw [this]; rfl
  · rw [List.getElem?_set_ne (by omega)]
    by_cases h2 : i < n
    · rw [List.getElem?_append_left (by simp; omega), List.getElem?_take, if_pos h2]
    · rw [List.getElem?_append_right (by simp; omega), List.getElem?_eq_none (by omega), List.getElem?_eq_none (by simp; omega)]
theorem put1_len (out : List Ex) (x : Ex) : (put1 out x).length ≤ out.length + 1 := by
  by_cases h : out.length = 0
  · rw [put1_none h]; simp
  · have hn : out.length - 1 + 1 = out.length := by omega
    by_cases hf : Fits (out[out.length - 1]'(by omega)) x
    · rw [put1_yes hn hf]; simp
    · rw [put1_no hn hf]; simp
theorem right_mrg {p x : Ex} (hp : right1 p) (hx : right1 x) (h : Fits p x) : right1 (mrg p (p.len + x.len)) ∧ (mrg p (p.len + x.len)).len = p.len + x.len := by
  obtain ⟨_, h2⟩ := h
  unfold right1 at hp hx ⊢
  have e : (mrg p (p.len + x.len)).len = p.len + x.len := w64 (by omega) (by omega)
  refine ⟨?_, e⟩
  have e2 : (mrg p (p.len + x.len)).off = p.off := rfl
  rw [e, e2]
  omega
theorem put1_right {out : List Ex} {x : Ex} (ho : ∀ e ∈ out, right1 e) (hx : right1 x) : ∀ e ∈ put1 out x, right1 e := by
  intro e he
  by_cases h : out.length = 0
  · rw [put1_none h] at he
    rcases List.mem_append.1 he with he | he
    · exact ho e he
    · rw [List.mem_singleton.1 he]; exact hx
  · have hn : out.length - 1 + 1 = out.length := by omega
    by_cases hf : Fits (out[out.length - 1]'(by omega)) x
    · rw [put1_yes hn hf] at he
      rcases List.mem_append.1 he with he | he
      · exact ho e (List.mem_of_mem_take he)
      · rw [List.mem_singleton.1 he]; exact (right_mrg (ho _ (List.getElem_mem _)) hx hf).1
    · rw [put1_no hn hf] at he
      rcases List.mem_append.1 he with he | he
      · exact ho e he
      · rw [List.mem_singleton.1 he]; exact hx
theorem joinL_snoc (l : List Ex) (x : Ex) : joinL (l ++ [x]) = put1 (joinL l) x := by
  unfold joinL
  rw [List.foldl_append]
  rfl
theorem joinL_inv (l : List Ex) (h : ∀ e ∈ l, right1 e) : (joinL l).length ≤ l.length ∧ ∀ e ∈ joinL l, right1 e := by
  suffices ∀ (l : List Ex) (out : List Ex), (∀ e ∈ l, right1 e) → (∀ e ∈ out, right1 e) → (l.foldl put1 out).length ≤ out.length + l.length ∧ ∀ e ∈ l.foldl put1 out, right1 e by
    have := this l [] h (by simp)
    simpa [joinL] using this
  intro l
  induction l with
  | nil => intro out _ ho; exact ⟨by simp, ho⟩
  | cons x l ih =>
    intro out hl ho
    have h1 := put1_len out x
    obtain ⟨a, b⟩ := ih (put1 out x) (fun e he => hl e (by simp [he])) (put1_right ho (hl x (by simp)))
    refine ⟨?_, b⟩
    simp only [List.foldl_cons, List.length_cons]
    omega
def doneE (ls : List (List Ex)) (i j : Nat) : List Ex := (ls.take i).flatten ++ (ls.getD i []).take j
theorem done_zero (ls : List (List Ex)) (i : Nat) : doneE ls i 0 = (ls.take i).flatten := by simp [doneE]
theorem done_step {ls : List (List Ex)} {i j : Nat} (h : i < ls.length) (h2 : j < ls[i].length) : doneE ls i (j + 1) = doneE ls i j ++ [ls[i][j]] := by
  unfold doneE
  have : ls.getD i [] = ls[i] := by rw [List.getD_eq_getElem?_getD, List.getElem?_eq_getElem h]; rfl
  rw [this, List.take_succ_eq_append_getElem h2, List.append_assoc]
theorem done_full {ls : List (List Ex)} {i : Nat} (h : i < ls.length) : doneE ls i ls[i].length = (ls.take (i + 1)).flatten := by
  unfold doneE
  have : ls.getD i [] = ls[i] := by rw [List.getD_eq_getElem?_getD, List.getElem?_eq_getElem h]; rfl
  rw [this, List.take_length, List.take_succ_eq_append_getElem h, List.flatten_append]
  simp
theorem done_len {ls : List (List Ex)} {i j : Nat} (h : i < ls.length) : (doneE ls i j).length ≤ ls.flatten.length := by
  have e : ls = ls.take i ++ ls[i] :: ls.drop (i + 1) := by rw [← List.drop_eq_getElem_cons h, List.take_append_drop]
  have e2 : ls.flatten.length = (ls.take i).flatten.length + (ls[i].length + (ls.drop (i + 1)).flatten.length) := by
    conv => lhs; rw [e]
    rw [List.flatten_append, List.flatten_cons, List.length_append, List.length_append]
  unfold doneE
  have : ls.getD i [] = ls[i] := by rw [List.getD_eq_getElem?_getD, List.getElem?_eq_getElem h]; rfl
  rw [this, List.length_append, List.length_take, e2]
  omega
theorem done_right {ls : List (List Ex)} {i j : Nat} (h : i < ls.length) (hr : ∀ p ∈ ls.take i, RightP p) (hi : RightP ls[i]) : ∀ e ∈ doneE ls i j, right1 e := by
  intro e he
  unfold doneE at he
  have : ls.getD i [] = ls[i] := by rw [List.getD_eq_getElem?_getD, List.getElem?_eq_getElem h]; rfl
  rw [this] at he
  rcases List.mem_append.1 he with he | he
  · obtain ⟨p, hp, hep⟩ := List.mem_flatten.1 he
    exact (hr p hp).2 e hep
  · exact hi.2 e (List.mem_of_mem_take he)
theorem own_set {w : World} {base e k n : Nat} {v : Value} {cells : List Value} (ho : w.ownsRow base e k v n cells) {p : Nat} (hp : p < n * k) :
    ∃ g cap cur, v = .slice (some ⟨g, 0, none⟩) n cap ∧ base ≤ g ∧ w.heap[g]? = some (.cells cur e (0, 0)) ∧ p < cur.size ∧
      ∀ (w2 : World) (u : Value), w2.heap[g]? = some (.cells cur e (0, 0)) → (setAt w2 g (cur.setIfInBounds p u) e (0, 0)).ownsRow base e k v n (cells.set p u) := by
  have hl : cells.length = n * k := ho.1
  rcases id ho.2 with ⟨_, h0⟩ | ⟨g, cap, cur, hv, hg, hh, hn, hm, hs, ht⟩
  · subst h0; omega
  · have hcs : n * k ≤ cur.size := by
      have := congrArg List.length ht
      rw [List.length_take, hl, Array.length_toList] at this
      omega
    refine ⟨g, cap, cur, hv, hg, hh, by omega, fun w2 u h2 => ⟨by simp [hl], .inr ⟨g, cap, _, hv, hg, setAt_same (lt_of_blk h2), hn, hm, by simpa using hs, ?_⟩⟩⟩
    rw [← ht]
    simp [List.take_set]
theorem Ex.csLen : ∀ x : Ex, (Ex.cs x).length = 35 := Ex.cs_len
theorem mrg_cs (p : Ex) (m : Int) : (mrg p m).cs = p.k.cs ++ [.int .i64 p.off, .int .i64 (IntKind.i64.wrap m)] := rfl
theorem cellsE_set (ps : List Ex) (i : Nat) (h : i < ps.length) (m : Int) : cellsK Ex.cs (ps.set i (mrg ps[i] m)) = (cellsK Ex.cs ps).set (i * 35 + 34) (.int .i64 (IntKind.i64.wrap m)) := by
  have hlen := cellsK_len Ex.csLen ps
  apply List.ext_getElem?
  intro p
  rw [cellsK_get (by decide) Ex.csLen]
  by_cases hpi : p / 35 = i
  · subst hpi
    rw [List.getElem?_set_self h, Option.bind_some]
    by_cases h33 : p % 35 = 34
    · have e : p / 35 * 35 + 34 = p := by omega
      have hlt : p < (cellsK Ex.cs ps).length := by rw [hlen]; omega
      rw [e, List.getElem?_set_self hlt, h33]
      exact Ex.lenAt _
    · rw [List.getElem?_set_ne (by omega), cellsK_get (by decide) Ex.csLen, List.getElem?_eq_getElem h, Option.bind_some]
      rw [mrg_cs]
      unfold Ex.cs
      have hk : ps[p / 35].k.cs.length = 33 := Ky.cs_len _
      have hm : p % 35 < 34 := by omega
      have e1 : ∀ z : Value, ps[p / 35].k.cs ++ [Value.int .i64 ps[p / 35].off, z] = (ps[p / 35].k.cs ++ [Value.int .i64 ps[p / 35].off]) ++ [z] := fun z => by simp
      have e2 : p % 35 < (ps[p / 35].k.cs ++ [Value.int .i64 ps[p / 35].off]).length := by rw [List.length_append, List.length_singleton]; omega
      rw [e1, e1, List.getElem?_append_left e2, List.getElem?_append_left e2]
  · rw [List.getElem?_set_ne (by omega), List.getElem?_set_ne (by omega), cellsK_get (by decide) Ex.csLen]
theorem own_at {w : World} {base : Nat} {v : Value} {out : List Ex} (ho : OwnK 35 84 Ex.cs w base v out) {n : Nat} (hn : n < out.length) :
    ∃ g cur, v.ownBlock = some g ∧ base ≤ g ∧ w.heap[g]? = some (.cells cur 84 (0, 0)) ∧ n * 35 + 34 < cur.size ∧ (∀ w', (Instr.indexAt 46 v (.int .i64 (n : Int))).run Tryz.prog w' = .ok (.pointer (some ⟨g, n * 35, none⟩)) w') ∧
      (∀ j u, out[n].cs[j]? = some u → cur[n * 35 + j]? = some u) ∧ ∀ (w2 : World) (m : Int), w2.heap[g]? = some (.cells cur 84 (0, 0)) → OwnK 35 84 Ex.cs (setAt w2 g (cur.setIfInBounds (n * 35 + 34) (.int .i64 (IntKind.i64.wrap m))) 84 (0, 0)) base v (out.set n (mrg out[n] m)) := by
  obtain ⟨g, cap, cur, hv, hg, hh, hp, hset⟩ := own_set ho (p := n * 35 + 34) (by omega)
  refine ⟨g, cur, by rw [hv]; rfl, hg, hh, hp, ?_, ?_, ?_⟩
  · intro w'
    have := ix Tryz.underlying46 info_84 (a := ⟨g, 0, none⟩) (n := out.length) (c := cap) (k := .i64) (ii := (n : Int)) n rfl hn w'
    rw [sz_84, add_plain, Nat.zero_add] at this
    rw [hv]
    exact this
  · intro j u hu
    obtain ⟨g2, o2, hix, hc⟩ := ext_at (OwnK.rowK (by decide) Ex.csLen ho) hn
    have := ix Tryz.underlying46 info_84 (a := ⟨g, 0, none⟩) (n := out.length) (c := cap) (k := .i64) (ii := (n : Int)) n rfl hn w
    rw [sz_84, add_plain, Nat.zero_add, ← hv] at this
    have h := (hix w).symm.trans this
    simp only [Result.ok.injEq, Value.pointer.injEq, Option.some.injEq, Addr.mk.injEq, and_true] at h
    obtain ⟨h1, h2⟩ := h
    subst h1; subst h2
    have := hc j u hu
    rw [cell_blk hh] at this
    exact this
  · intro w2 m h2
    have := hset w2 (.int .i64 (IntKind.i64.wrap m)) h2
    rw [← cellsE_set out n hn m] at this
    unfold OwnK
    rw [List.length_set]
    exact this
def RowsE (w : World) (v : Value) (ls : List (List Ex)) : Prop := ∃ us : List Value, RowK 1 (fun u : Value => [u]) w v us ∧ us.length = ls.length ∧ ∀ (i : Nat) (u : Value) (l : List Ex), us[i]? = some u → ls[i]? = some l → RowK 35 Ex.cs w u l
theorem RowsE.ext {w w1 : World} {v : Value} {ls : List (List Ex)} (h : RowsE w v ls) (k : Ext w w1) : RowsE w1 v ls := by
  obtain ⟨us, h1, h2, h3⟩ := h
  exact ⟨us, h1.ext k, h2, fun i u l hu hl => (h3 i u l hu hl).ext k⟩
theorem RowsE.slice {w : World} {v : Value} {ls : List (List Ex)} (h : RowsE w v ls) : ∃ a c, v = .slice a ls.length c := by
  obtain ⟨us, h1, h2, h3⟩ := h
  rw [← h2]
  exact h1.slice
theorem X_row {w0 w : World} {v : Value} {ls : List (List Ex)} {i : Nat} (h : RowsE w0 v ls) (hx : Ext w0 w) (hi : i < ls.length) {K : Value → Value → World → Prop} (hK : ∀ p u, RowK 35 Ex.cs w0 u ls[i] → (∀ w1, Ext w0 w1 → (Instr.indexAt 124 v (.int .i64 (i : Int))).run Tryz.prog w1 = .ok p w1 ∧ (Instr.loadAt 46 p).run Tryz.prog w1 = .ok u w1) → K p u w) :
    X Tryz.prog (Instr.indexAt 124 v (.int .i64 (i : Int))) w fun p w1 => X Tryz.prog (Instr.loadAt 46 p) w1 fun u w2 => K p u w2 := by
  obtain ⟨us, h1, h2, h3⟩ := h
  have hi' : i < us.length := by omega
  obtain ⟨a, hix, hc⟩ := h1.at Tryz.underlying124 info_46 sz_46 (kd := .i64) (ii := (i : Int)) i rfl hi'
  have h0 := hc 0 us[i] rfl
  have e : a.add 0 = a := by simp [Addr.add]
  rw [e] at h0
  refine X_of (hix w) ?_
  refine X_of (run_loadAt agg_46 (hx.cell (fun h => h) h0)) ?_
  exact hK _ _ (h3 i _ _ (List.getElem?_eq_getElem hi') (List.getElem?_eq_getElem hi)) (fun w1 hx => ⟨hix w1, run_loadAt agg_46 (hx.cell (fun h => h) h0)⟩)
theorem joinE_bad {ls : List (List Ex)} {p : List Ex} (h : p ∈ ls) (hr : ¬ RightP p) : joinE ls = [] := if_neg (fun h' => hr (h'.1 p h))
end Go.Proofs.YtcigpjejbkngfaaGreatDoor
end
section
namespace Go.Proofs.YtcigpjejbkngfaaGreatDoor
open Go Go.Sh Go.RowKit
attribute [local irreducible] X XU XP XR CALL loopS resC closS
section
variable {w : World} {K : Value → World → Prop}
set_option maxHeartbeats 2000000 in
theorem Join_spec {v : Value} {ls : List (List Ex)} (hv : RowsE w v ls) (hn : ls.flatten.length ≤ 1000000) (hls : ls.length ≤ 1000000) (hK : ∀ u w1, Ext w w1 → OwnK 35 84 Ex.cs w1 w.heap.size u (joinE ls) → K u w1) : CALL Tryz.prog 30 #[v] w K := by
  obtain ⟨a, c, ev⟩ := hv.slice
  have nil : joinE ls = [] → ∀ w1, Ext w w1 → K (.slice none 0 0) w1 := fun h w1 hx => hK _ w1 hx (by rw [h]; exact ownK_nil _ _)
  apply call_extent_Join
  unfold B_extent_Join
  rw [ev, X_len_124, ← ev]
  refine loopGR 0 (fun ρ wr => ∃ (i : Nat) (vo : Value), i ≤ ls.length ∧ Ext w wr ∧ OwnK 35 84 Ex.cs wr w.heap.size vo (joinL (ls.take i).flatten) ∧ (∀ p ∈ ls.take i, RightP p) ∧ ρ 11 = .int .i64 (i : Int) ∧ ρ 10 = .int .i64 (ls.length : Int) ∧ ρ 9 = v ∧ ρ 3 = vo)
    (fun ρ wr => match ρ 11 with | .int _ s => (ls.length - s).toNat | _ => 0)
    (fun ρ wr => ∃ vo : Value, Ext w wr ∧ OwnK 35 84 Ex.cs wr w.heap.size vo (joinL ls.flatten) ∧ (∀ p ∈ ls, RightP p) ∧ ρ 3 = vo)
    (fun ρ wr => Ext w wr ∧ joinE ls = [] ∧ ρ 2 = .slice none 0 0) ?_ ?_ ?_ ?_
  · exact ⟨0, _, by omega, Keep.refl _ _, ownK_nil _ _, by simp, rfl, rfl, rfl, rfl⟩
  · rintro J hJ hJR ρ wr ⟨i, vo, hi, hx, ho, hr, r11, r10, r9, r3⟩
    rw [r11, r10, r9, X_lss, condS_bool]
    by_cases hie : i = ls.length
    · rw [if_neg (by simp; omega)]
      rw [hie, List.take_of_length_le (Nat.le_refl _)] at hr ho
      exact hJ _ _ ⟨vo, hx, ho, hr, r3⟩
    rw [if_pos (by simp; omega)]
    have hlt : i < ls.length := by omega
    refine X_row hv hx hlt ?_
    intro p u hu _
    refine Right_spec (hu.ext hx) ?_
    intro w1 hx1
    have hx01 := hx.trans hx1
    by_cases hri : RightP ls[i]
    case neg =>
      have c : decide (RightP ls[i]) = false := decide_eq_false hri
      (repeat (simp only [SLB, Int.reduceEq, Int.reduceNe, Int.reduceLT, Int.reduceLE, Int.reduceGT, Int.reduceGE, c]))
      exact hJR _ _ ⟨hx01, joinE_bad (List.getElem_mem hlt) hri, rfl⟩
    have c : decide (RightP ls[i]) = true := decide_eq_true hri
    (repeat (simp only [SLB, Int.reduceEq, Int.reduceNe, Int.reduceLT, Int.reduceLE, Int.reduceGT, Int.reduceGE, c]))
    obtain ⟨a1, c1, eu⟩ := hu.slice
    rw [eu, X_len_46, ← eu]
    have hlen := hri.1
    refine loopG 2 (fun ρ2 wr => ∃ (j : Nat) (vo : Value), j ≤ ls[i].length ∧ Ext w wr ∧ OwnK 35 84 Ex.cs wr w.heap.size vo (joinL (doneE ls i j)) ∧ ρ2 20 = .int .i64 (j : Int) ∧ ρ2 19 = .int .i64 (ls[i].length : Int) ∧ ρ2 18 = u ∧ ρ2 3 = vo ∧ ρ2 11 = .int .i64 (i : Int) ∧ ρ2 10 = .int .i64 (ls.length : Int) ∧ ρ2 9 = v)
      (fun ρ2 wr => match ρ2 20 with | .int _ s => (ls[i].length - s).toNat | _ => 0)
      (fun ρ2 wr => ∃ (vo : Value), Ext w wr ∧ OwnK 35 84 Ex.cs wr w.heap.size vo (joinL (doneE ls i ls[i].length)) ∧ ρ2 3 = vo ∧ ρ2 11 = .int .i64 (i : Int) ∧ ρ2 10 = .int .i64 (ls.length : Int) ∧ ρ2 9 = v) ?_ ?_ ?_
    · refine ⟨0, vo, by omega, hx01, ?_, rfl, rfl, rfl, r3, r11, r10, r9⟩
      rw [done_zero]
      exact ho.ext hx1
    · rintro J2 hJ2 ρ2 wr2 ⟨j, vo, hj, hx2, ho2, q20, q19, q18, q3, q11, q10, q9⟩
      rw [q20, q19, q18, q3, X_lss, condS_bool]
      by_cases hje : j = ls[i].length
      · rw [if_neg (by simp; omega)]
        rw [hje] at ho2
        exact hJ2 _ _ ⟨vo, hx2, ho2, q3, q11, q10, q9⟩
      rw [if_pos (by simp; omega)]
      have hjlt : j < ls[i].length := by omega
      have hds := done_step hlt hjlt
      have hdr := done_right (j := j) hlt hr hri
      have hdl := done_len (j := j) hlt
      obtain ⟨hol, hor⟩ := joinL_inv _ hdr
      refine joinS_of (fun ρ3 w3 => ∃ (vo : Value), Ext w w3 ∧ OwnK 35 84 Ex.cs w3 w.heap.size vo (joinL (doneE ls i (j + 1))) ∧ ρ3 20 = .int .i64 (j : Int) ∧ ρ3 19 = .int .i64 (ls[i].length : Int) ∧ ρ3 18 = u ∧ ρ3 3 = vo ∧ ρ3 11 = .int .i64 (i : Int) ∧ ρ3 10 = .int .i64 (ls.length : Int) ∧ ρ3 9 = v) ?_ ?_
      · rintro ρ3 w3 ⟨vo, g1, g3, p20, p19, p18, p3, p11, p10, p9⟩
        rw [p20, X_add]
        show _ ∧ _
        refine ⟨⟨j + 1, vo, by omega, g1, g3, next64 (n := 1000000) (by decide) (by omega), p19, p18, p3, p11, p10, p9⟩, ?_⟩
        show (_ - IntKind.i64.wrap _).toNat < _
        rw [w64 (by omega) (by omega)]
        first | omega | (show _ < (_ : Int).toNat; omega)
      · intro J3 hJ3
        refine X_takeExt (hu.ext hx2) hjlt ?_
        intro u1 u2 q w4 hx4 hq hqb
        rw [hds, joinL_snoc] at hJ3
        have hrx := hri.2 _ (List.getElem_mem hjlt)
        generalize ls[i][j] = x at hJ3 hqb hrx
        generalize joinL (doneE ls i j) = out at hJ3 ho2 hol hor
        have hx04 := hx2.trans hx4
        have ho4 := ho2.ext hx4
        have hol' : out.length ≤ 1000000 := by omega
        refine joinS_of (fun ρ4 w5 => put1 out x = out ++ [x] ∧ Ext w w5 ∧ OwnK 35 84 Ex.cs w5 w.heap.size vo out ∧ w5.heap[q]? = some (.cells x.cs.toArray 84 (0, 0)) ∧ ρ4 7 = ptr q ∧ ρ4 20 = .int .i64 (j : Int) ∧ ρ4 19 = .int .i64 (ls[i].length : Int) ∧ ρ4 18 = u ∧ ρ4 3 = vo ∧ ρ4 11 = .int .i64 (i : Int) ∧ ρ4 10 = .int .i64 (ls.length : Int) ∧ ρ4 9 = v) ?_ ?_
        · rintro ρ4 w5 ⟨hput, g1, g3, g4, p7, p20, p19, p18, p3, p11, p10, p9⟩
          rw [p7, p3]
          refine X_of (load_cells Tryz.underlying84 agg_84 info_84 (l := x.cs) (by rw [sz_84, Ex.cs_len]) (fun j u hj => by rw [add_plain, Nat.zero_add, cell_blk g4]; simpa using hj)) ?_
          refine X_appEx g3 hol' g1.size ?_
          intro u3 v' w7 ho7 hk7
          exact hJ3 _ _ ⟨v', Ext.seq g1 hk7 (fun g hg => (g3.lt g hg.symm).1), by rw [hput]; exact ho7, p20, p19, p18, rfl, p11, p10, p9⟩
        · intro J4 hJ4
          obtain ⟨a2, c2, eo⟩ := (OwnK.rowK (by decide) Ex.csLen ho4).slice
          rw [eo, X_len_46, X_gtr, condS_bool, ← eo]
          by_cases h0 : out.length = 0
          · rw [if_neg (by rw [h0]; decide)]
            exact hJ4 _ _ ⟨put1_none h0, hx04, ho4, hqb, rfl, q20, q19, q18, q3, q11, q10, q9⟩
          rw [if_pos (decide_eq_true (by omega)), eo, X_len_46, X_sub, ← eo]
          obtain ⟨n, hn1⟩ : ∃ n, n + 1 = out.length := ⟨out.length - 1, by omega⟩
          have ew : IntKind.i64.wrap ((out.length : Int) - 1) = (n : Int) := by rw [w64 (by omega) (by omega)]; omega
          rw [ew]
          have hnlt : n < out.length := by omega
          obtain ⟨g, cur, hgo, hgb, hgh, hgs, hix, hgc, hset⟩ := own_at ho4 hnlt
          have hpr := hor _ (List.getElem_mem hnlt)
          have hgq : g < wr2.heap.size := (ho2.lt g hgo).2
          have hyes := @put1_yes out x n hn1
          have hno := @put1_no out x n hn1
          have hsl := @set_last _ out n hn1
          generalize out[n] = p at hpr hgc hset hyes hno
          refine X_of (hix w4) ?_
          have hxd := hx04.trans (Keep.drew (fun _ => False) w4)
          have hod := ho4.ext (Keep.drew (fun _ => False) w4)
          have hgd : (drewW w4).heap[g]? = some (.cells cur 84 (0, 0)) := hgh
          have hqd : (drewW w4).heap[q]? = some (.cells x.cs.toArray 84 (0, 0)) := hqb
          refine ⟨Ext, Ext.frame, ?_⟩
          generalize drewW w4 = wd at hxd hod hgd hqd ⊢
          have lk : ∀ w', Ext wd w' → (Instr.loadAt 33 (.pointer (some ⟨g, n * 35, none⟩))).run Tryz.prog w' = .ok p.k.v w' := fun w' kk => load_cells Tryz.underlying33 agg_33 info_33 (l := p.k.cs) (by rw [sz_33, Ky.cs_len]) (fun j u hj => by rw [add_plain, cell_blk (kk.get hgd)]; exact hgc j u (p.keyAt hj))
          have lo : ∀ w', Ext wd w' → (Instr.loadAt 3 (.pointer (some ⟨g, n * 35 + 33, none⟩))).run Tryz.prog w' = .ok (.int .i64 p.off) w' := fun w' kk => run_loadAt agg_3 ((cell_blk (kk.get hgd)).trans (hgc 33 _ p.offAt))
          have ll : ∀ w', Ext wd w' → (Instr.loadAt 3 (.pointer (some ⟨g, n * 35 + 34, none⟩))).run Tryz.prog w' = .ok (.int .i64 p.len) w' := fun w' kk => run_loadAt agg_3 ((cell_blk (kk.get hgd)).trans (hgc 34 _ p.lenAt))
          have xk : ∀ w', Ext wd w' → (Instr.loadAt 33 (ptr q)).run Tryz.prog w' = .ok x.k.v w' := fun w' kk => load_cells Tryz.underlying33 agg_33 info_33 (l := x.k.cs) (by rw [sz_33, Ky.cs_len]) (fun j u hj => by rw [add_plain, cell_blk (kk.get hqd)]; simpa using x.keyAt hj)
          have xo : ∀ w', Ext wd w' → (Instr.loadAt 3 (.pointer (some ⟨q, 0 + 33, none⟩))).run Tryz.prog w' = .ok (.int .i64 x.off) w' := fun w' kk => run_loadAt agg_3 ((cell_blk (kk.get hqd)).trans (by simpa using x.offAt))
          have xl : ∀ w', Ext wd w' → (Instr.loadAt 3 (.pointer (some ⟨q, 0 + 34, none⟩))).run Tryz.prog w' = .ok (.int .i64 x.len) w' := fun w' kk => run_loadAt agg_3 ((cell_blk (kk.get hqd)).trans (by simpa using x.lenAt))
          unfold right1 at hpr hrx
          rw [XP_nilS, XP_field_84_0]
          refine XR_ok Ext.frame lk ?_
          rw [XP_field_84_0]
          refine XR_ok Ext.frame xk ?_
          refine XP_of (fun w' => run_key_eql _ _ _ _ w') ?_
          by_cases hk : p.k = x.k
          case neg =>
            have c : decide (p.k = x.k) = false := decide_eq_false hk
            (repeat (simp only [SLB, Int.reduceEq, Int.reduceNe, Int.reduceLT, Int.reduceLE, Int.reduceGT, Int.reduceGE, c]))
            exact hJ4 _ _ ⟨hno (fun h => hk h.1), hxd, hod, hqd, rfl, q20, q19, q18, q3, q11, q10, q9⟩
          have c : decide (p.k = x.k) = true := decide_eq_true hk
          (repeat (simp only [SLB, Int.reduceEq, Int.reduceNe, Int.reduceLT, Int.reduceLE, Int.reduceGT, Int.reduceGE, c, XP_field_84_1]))
          refine XR_ok Ext.frame lo ?_
          (repeat (simp only [SLB, Int.reduceEq, Int.reduceNe, Int.reduceLT, Int.reduceLE, Int.reduceGT, Int.reduceGE, c, XP_field_84_2]))
          refine XR_ok Ext.frame ll ?_
          (repeat (simp only [SLB, Int.reduceEq, Int.reduceNe, Int.reduceLT, Int.reduceLE, Int.reduceGT, Int.reduceGE, c, XP_add, XP_field_84_1]))
          refine XR_ok Ext.frame xo ?_
          rw [w64 (x := p.off + p.len) (by omega) (by omega)]
          by_cases hf : p.off + p.len = x.off
          case neg =>
            have c2 : decide (p.off + p.len = x.off) = false := decide_eq_false hf
            (repeat (simp only [SLB, Int.reduceEq, Int.reduceNe, Int.reduceLT, Int.reduceLE, Int.reduceGT, Int.reduceGE, c2]))
            exact hJ4 _ _ ⟨hno (fun h => hf h.2), hxd, hod, hqd, rfl, q20, q19, q18, q3, q11, q10, q9⟩
          have c2 : decide (p.off + p.len = x.off) = true := decide_eq_true hf
          (repeat (simp only [SLB, Int.reduceEq, Int.reduceNe, Int.reduceLT, Int.reduceLE, Int.reduceGT, Int.reduceGE, c2]))
          refine ⟨Ext, Ext.frame, ?_⟩
          have kd := Keep.drew (fun _ => False) wd
          have hxd2 := hxd.trans kd
          have hgd2 : (drewW wd).heap[g]? = some (.cells cur 84 (0, 0)) := hgd
          generalize drewW wd = we at kd hxd2 hgd2 ⊢
          (repeat (simp only [SLB, Int.reduceEq, Int.reduceNe, Int.reduceLT, Int.reduceLE, Int.reduceGT, Int.reduceGE, XP_field_84_2]))
          refine XR_ok Ext.frame (fun w' kk => ll w' (kd.trans kk)) ?_
          (repeat (simp only [SLB, Int.reduceEq, Int.reduceNe, Int.reduceLT, Int.reduceLE, Int.reduceGT, Int.reduceGE, XP_field_84_2]))
          refine XR_ok Ext.frame (fun w' kk => xl w' (kd.trans kk)) ?_
          (repeat (simp only [SLB, Int.reduceEq, Int.reduceNe, Int.reduceLT, Int.reduceLE, Int.reduceGT, Int.reduceGE, XP_add, XP_field_84_2]))
          refine XU_store info_3 sz_3 rfl hgd2 hgs (by show ¬ (0 ≤ _ ∧ _ < 0); omega) ?_
          have ho5 := hset we (p.len + x.len) hgd2
          have hk5 := setAt_keep we g (cur.setIfInBounds (n * 35 + 34) (.int .i64 (IntKind.i64.wrap (p.len + x.len)))) 84 (0, 0)
          generalize setAt we g (cur.setIfInBounds (n * 35 + 34) (.int .i64 (IntKind.i64.wrap (p.len + x.len)))) 84 (0, 0) = w6 at ho5 hk5 ⊢
          refine hJ3 _ _ ⟨vo, Ext.seq hxd2 hk5 (fun i hi => by omega), ?_, q20, q19, q18, q3, q11, q10, q9⟩
          rw [hyes ⟨hk, hf⟩, ← hsl]
          exact ho5
    · rintro ρ2 wr2 ⟨vo, hx2, ho2, q3, q11, q10, q9⟩
      show X _ (binOp .add 3 (ρ2 11) _) _ _
      rw [q11, X_add]
      show _ ∧ _
      refine ⟨⟨i + 1, vo, by omega, hx2, by rw [← done_full hlt]; exact ho2, ?_, next64 (n := 1000000000) (by decide) (by omega), q10, q9, q3⟩, ?_⟩
      · rw [List.take_succ_eq_append_getElem hlt]
        intro p hp
        rcases List.mem_append.1 hp with hp | hp
        · exact hr p hp
        · rw [List.mem_singleton.1 hp]; exact hri
      · show (_ - IntKind.i64.wrap _).toNat < _
        rw [w64 (by omega) (by omega)]
        first | omega | (show _ < (_ : Int).toNat; omega)
  · rintro ρ wr ⟨vo, hx, ho, hr, r3⟩
    show CALL _ 56 #[ρ 3] _ _
    rw [r3]
    refine Right_spec (OwnK.rowK (by decide) Ex.csLen ho) ?_
    intro w1 hx1
    by_cases hj : RightP (joinL ls.flatten)
    · have c : decide (RightP (joinL ls.flatten)) = true := decide_eq_true hj
      (repeat (simp only [SLB, Int.reduceEq, Int.reduceNe, Int.reduceLT, Int.reduceLE, Int.reduceGT, Int.reduceGE, c]))
      refine hK _ _ (hx.trans hx1) ?_
      unfold joinE
      rw [if_pos ⟨hr, hj⟩]
      exact ho.ext hx1
    · have c : decide (RightP (joinL ls.flatten)) = false := decide_eq_false hj
      (repeat (simp only [SLB, Int.reduceEq, Int.reduceNe, Int.reduceLT, Int.reduceLE, Int.reduceGT, Int.reduceGE, c]))
      exact nil (if_neg (fun h => hj h.2)) _ (hx.trans hx1)
  · rintro ρ wr ⟨hx, hj, r2⟩
    show K (ρ 2) wr
    rw [r2]
    exact nil hj _ hx
end
end Go.Proofs.YtcigpjejbkngfaaGreatDoor
end
section
namespace Go.Proofs.YtcigpjejbkngfaaGreatDoor
open Go Go.Sh
attribute [local irreducible] X XU XP XR CALL loopS resC closS
def B_top_how (x0 : Value) (w : World) (K : Value → World → Prop) : Prop :=
  X Tryz.prog (Instr.alloc 63 true (.tuple #[])) w fun v1 w1 =>
  X Tryz.prog (convert 5 3 x0) w1 fun v2 w2 =>
  X Tryz.prog (binOp .mul 3 v2 (.int .i64 3)) w2 fun v3 w3 =>
  X Tryz.prog (binOp .rem 5 x0 (.int .u8 7)) w3 fun v4 w4 =>
  X Tryz.prog (convert 5 3 v4) w4 fun v5 w5 =>
  X Tryz.prog (binOp .rem 5 x0 (.int .u8 5)) w5 fun v6 w6 =>
  X Tryz.prog (convert 5 3 v6) w6 fun v7 w7 =>
  X Tryz.prog (Instr.build 63 #[(0, v3), (1, v5), (2, v7)]) w7 fun v8 w8 =>
  XU Tryz.prog (Instr.storeAt 63 v1 v8) w8 fun w9 =>
  resC Tryz.prog 63 v1 w9 fun r0 =>
  K r0 w9
theorem eq_top_how (x0 : Value) (w : World) (K : Value → World → Prop) :
    sh Tryz.prog (Tryz.f16.body.getD .skip) (retS Tryz.prog Tryz.f16.results K) (env0 #[x0]) w = B_top_how x0 w K := by kernel_rfl
theorem call_top_how (x0 : Value) (w : World) (K : Value → World → Prop) (h : B_top_how x0 w K) : CALL Tryz.prog 16 #[x0] w K :=
  call_of_eq (c := Tryz.f16.body.getD .skip) mixed Tryz.func16 (by kernel_rfl) (by kernel_rfl) (by kernel_rfl) (Nat.le_of_ble_eq_true (by kernel_rfl)) (eq_top_how x0 w K) h
def B_top_cutter (x0 : Value) (w : World) (K : Value → World → Prop) : Prop :=
  X Tryz.prog (Instr.alloc 50 true (.tuple #[])) w fun v1 w1 =>
  X Tryz.prog (binOp .rem 5 x0 (.int .u8 15)) w1 fun v2 w2 =>
  X Tryz.prog (convert 5 3 v2) w2 fun v3 w3 =>
  X Tryz.prog (binOp .add 3 (.int .i64 16) v3) w3 fun v4 w4 =>
  X Tryz.prog (binOp .rem 5 x0 (.int .u8 15)) w4 fun v5 w5 =>
  X Tryz.prog (convert 5 3 v5) w5 fun v6 w6 =>
  X Tryz.prog (binOp .add 3 (.int .i64 16) v6) w6 fun v7 w7 =>
  X Tryz.prog (binOp .quo 5 x0 (.int .u8 4)) w7 fun v8 w8 =>
  X Tryz.prog (convert 5 3 v8) w8 fun v9 w9 =>
  X Tryz.prog (binOp .add 3 v7 v9) w9 fun v10 w10 =>
  X Tryz.prog (binOp .rem 5 x0 (.int .u8 20)) w10 fun v11 w11 =>
  X Tryz.prog (convert 5 31 v11) w11 fun v12 w12 =>
  X Tryz.prog (binOp .add 31 v12 (.int .u32 1)) w12 fun v13 w13 =>
  X Tryz.prog (binOp .rem 5 x0 (.int .u8 5)) w13 fun v14 w14 =>
  X Tryz.prog (convert 5 31 v14) w14 fun v15 w15 =>
  X Tryz.prog (binOp .add 31 v15 (.int .u32 1)) w15 fun v16 w16 =>
  X Tryz.prog (Instr.build 50 #[(0, v4), (1, v10), (2, v13), (3, v16)]) w16 fun v17 w17 =>
  XU Tryz.prog (Instr.storeAt 50 v1 v17) w17 fun w18 =>
  resC Tryz.prog 50 v1 w18 fun r0 =>
  K r0 w18
theorem eq_top_cutter (x0 : Value) (w : World) (K : Value → World → Prop) :
    sh Tryz.prog (Tryz.f11.body.getD .skip) (retS Tryz.prog Tryz.f11.results K) (env0 #[x0]) w = B_top_cutter x0 w K := by kernel_rfl
theorem call_top_cutter (x0 : Value) (w : World) (K : Value → World → Prop) (h : B_top_cutter x0 w K) : CALL Tryz.prog 11 #[x0] w K :=
  call_of_eq (c := Tryz.f11.body.getD .skip) mixed Tryz.func11 (by kernel_rfl) (by kernel_rfl) (by kernel_rfl) (Nat.le_of_ble_eq_true (by kernel_rfl)) (eq_top_cutter x0 w K) h
def B_top_made (x0 x1 : Value) (w : World) (K : Value → World → Prop) : Prop :=
  X Tryz.prog (binOp .mul 3 (.int .i64 4) x0) w fun v1 w1 =>
  CALL Tryz.prog 13 #[v1] w1 fun v2 w2 =>
  X Tryz.prog (Instr.extract v2 0) w2 fun v3 w3 =>
  X Tryz.prog (Instr.extract v2 1) w3 fun v4 w4 =>
  CALL Tryz.prog 14 #[v3, (.int .i64 0), (.int .i64 4), x0] w4 fun v5 w5 =>
  X Tryz.prog (Instr.extract v5 0) w5 fun v6 w6 =>
  X Tryz.prog (Instr.extract v5 1) w6 fun v7 w7 =>
  CALL Tryz.prog 16 #[x1] w7 fun v8 w8 =>
  CALL Tryz.prog 15 #[v6, v8] w8 fun v9 w9 =>
  X Tryz.prog (Instr.extract v9 0) w9 fun v10 w10 =>
  X Tryz.prog (Instr.extract v9 1) w10 fun v11 w11 =>
  X Tryz.prog (binOpG .neq 24 (.tmp 32) (.const (.pointer none)) v10 (.pointer none)) w11 fun v12 w12 =>
  gstep v12 true (fun w13 K => K v11 w13) w12 fun v13 w14 =>
  gstep v12 true (fun w15 K => X Tryz.prog (binOpG .eql 34 (.tmp 35) (.const (.int .i64 0)) v13 (.int .i64 0)) w15 K) w14 fun v14 w16 =>
  X Tryz.prog (pickS v12 v14 (.bool false)) w16 fun v15 w17 =>
  K (.tuple #[v10, v15]) w17
theorem eq_top_made (x0 x1 : Value) (w : World) (K : Value → World → Prop) :
    sh Tryz.prog (Tryz.f5.body.getD .skip) (retS Tryz.prog Tryz.f5.results K) (env0 #[x0, x1]) w = B_top_made x0 x1 w K := by kernel_rfl
theorem call_top_made (x0 x1 : Value) (w : World) (K : Value → World → Prop) (h : B_top_made x0 x1 w K) : CALL Tryz.prog 5 #[x0, x1] w K :=
  call_of_eq (c := Tryz.f5.body.getD .skip) mixed Tryz.func5 (by kernel_rfl) (by kernel_rfl) (by kernel_rfl) (Nat.le_of_ble_eq_true (by kernel_rfl)) (eq_top_made x0 x1 w K) h
def B_top_stored (x0 x1 x2 : Value) (w : World) (K : Value → World → Prop) : Prop :=
  X Tryz.prog (Instr.box 50 x1) w fun v1 w1 =>
  X Tryz.prog (Instr.loadAt 50 v1) w1 fun v2 w2 =>
  CALL Tryz.prog 29 #[v2, x2] w2 fun v3 w3 =>
  X Tryz.prog (Builtin.len_ #[22] 3 #[v3]) w3 fun v4 w4 =>
  loopS (fun Q1 ρ1 w5 =>
  X Tryz.prog (binOp .lss 3 (ρ1 18) (ρ1 17)) w5 fun v5 w6 =>
  condS v5 (
  X Tryz.prog (Instr.indexAt 22 (ρ1 16) (ρ1 18)) w6 fun v6 w7 =>
  X Tryz.prog (Instr.loadAt 28 v6) w7 fun v7 w8 =>
  X Tryz.prog (Builtin.len_ #[46] 3 #[(ρ1 8)]) w8 fun v8 w9 =>
  X Tryz.prog (convert 3 37 v8) w9 fun v9 w10 =>
  CALL Tryz.prog 6 #[(ρ1 0), v7, v9] w10 fun v10 w11 =>
  X Tryz.prog (Instr.extract v10 0) w11 fun v11 w12 =>
  X Tryz.prog (Instr.extract v10 1) w12 fun v12 w13 =>
  X Tryz.prog (Instr.extract v10 2) w13 fun v13 w14 =>
  X Tryz.prog (Instr.alloc 33 true (.tuple #[])) w14 fun v14 w15 =>
  XU Tryz.prog (Instr.storeAt 33 v14 v11) w15 fun w16 =>
  X Tryz.prog (binOpG .neq 34 (.tmp 32) (.const (.int .i64 0)) v13 (.int .i64 0)) w16 fun v15 w17 =>
  condS v15 (
  Q1 .ret (upds ρ1 [(7, (.bool false)), (6, (.slice none 0 0)), (33, v15), (32, v13), (13, v13), (12, v12), (11, v14), (31, v13), (30, v12), (29, v11), (22, v10), (28, v10), (27, v9), (26, v8), (25, (ρ1 8)), (24, v7), (23, (ρ1 0)), (10, v7), (21, v7), (20, v6), (19, v5)]) w17) (
  X Tryz.prog (Instr.loadAt 33 v14) w17 fun v16 w18 =>
  X Tryz.prog (Builtin.len_ #[28] 3 #[v7]) w18 fun v17 w19 =>
  X Tryz.prog (Instr.build 84 #[(0, v16), (2, v17)]) w19 fun v18 w20 =>
  X Tryz.prog (Instr.buildSlice 46 1 #[(0, v18)]) w20 fun v19 w21 =>
  X Tryz.prog (Builtin.append_ #[46, 46] 46 #[(ρ1 8), v19]) w21 fun v20 w22 =>
  X Tryz.prog (binOp .add 3 (ρ1 18) (.int .i64 1)) w22 fun v21 w23 =>
  Q1 .normal (upds ρ1 [(18, v21), (41, v21), (8, v20), (40, v20), (39, v19), (38, v18), (37, v17), (36, v7), (35, v16), (34, (ρ1 8)), (33, v15), (32, v13), (13, v13), (12, v12), (11, v14), (31, v13), (30, v12), (29, v11), (22, v10), (28, v10), (27, v9), (26, v8), (25, (ρ1 8)), (24, v7), (23, (ρ1 0)), (10, v7), (21, v7), (20, v6), (19, v5)]) w23)) (
  Q1 (.exit 0) (upds ρ1 [(19, v5)]) w6)) (inBlockS 0 (thenS (fun ρ2 w24 =>
  X Tryz.prog (Instr.buildSlice 124 1 #[(0, (ρ2 8))]) w24 fun v22 w25 =>
  CALL Tryz.prog 30 #[v22] w25 fun v23 w26 =>
  K (.tuple #[v23, (.bool true)]) w26) (retS Tryz.prog (Tryz.f10).results K))) (upds (env0 #[x0, x1, x2]) [(18, (.int .i64 0)), (17, v4), (16, v3), (15, x2), (14, v2), (8, (.slice none 0 0)), (7, (.bool false)), (6, (.slice none 0 0)), (4, v1)]) w4
theorem eq_top_stored (x0 x1 x2 : Value) (w : World) (K : Value → World → Prop) :
    sh Tryz.prog (Tryz.f10.body.getD .skip) (retS Tryz.prog Tryz.f10.results K) (env0 #[x0, x1, x2]) w = B_top_stored x0 x1 x2 w K := by kernel_rfl
theorem call_top_stored (x0 x1 x2 : Value) (w : World) (K : Value → World → Prop) (h : B_top_stored x0 x1 x2 w K) : CALL Tryz.prog 10 #[x0, x1, x2] w K :=
  call_of_eq (c := Tryz.f10.body.getD .skip) mixed Tryz.func10 (by kernel_rfl) (by kernel_rfl) (by kernel_rfl) (Nat.le_of_ble_eq_true (by kernel_rfl)) (eq_top_stored x0 x1 x2 w K) h
def B_top_fetched (x0 x1 : Value) (w : World) (K : Value → World → Prop) : Prop :=
  X Tryz.prog (Builtin.len_ #[46] 3 #[x1]) w fun v1 w1 =>
  loopS (fun Q1 ρ1 w2 =>
  X Tryz.prog (binOp .lss 3 (ρ1 13) (ρ1 12)) w2 fun v2 w3 =>
  condS v2 (
  X Tryz.prog (Instr.indexAt 46 (ρ1 11) (ρ1 13)) w3 fun v3 w4 =>
  X Tryz.prog (Instr.loadAt 84 v3) w4 fun v4 w5 =>
  X Tryz.prog (Instr.alloc 84 true (.tuple #[])) w5 fun v5 w6 =>
  XU Tryz.prog (Instr.storeAt 84 v5 v4) w6 fun w7 =>
  X Tryz.prog (Instr.fieldAt 84 v5 0) w7 fun v6 w8 =>
  X Tryz.prog (Instr.loadAt 33 v6) w8 fun v7 w9 =>
  CALL Tryz.prog 31 #[(ρ1 0), v7] w9 fun v8 w10 =>
  X Tryz.prog (Instr.extract v8 0) w10 fun v9 w11 =>
  X Tryz.prog (Instr.extract v8 1) w11 fun v10 w12 =>
  X Tryz.prog (binOpG .neq 34 (.tmp 24) (.const (.int .i64 0)) v10 (.int .i64 0)) w12 fun v11 w13 =>
  gstep v11 false (fun w14 K => X Tryz.prog (Instr.fieldAt 84 v5 1) w14 K) w13 fun v12 w15 =>
  gstep v11 false (fun w16 K => X Tryz.prog (Instr.loadAt 3 v12) w16 K) w15 fun v13 w17 =>
  gstep v11 false (fun w18 K => X Tryz.prog (Instr.fieldAt 84 v5 2) w18 K) w17 fun v14 w19 =>
  gstep v11 false (fun w20 K => X Tryz.prog (Instr.loadAt 3 v14) w20 K) w19 fun v15 w21 =>
  gstep v11 false (fun w22 K => X Tryz.prog (binOp .add 3 v13 v15) w22 K) w21 fun v16 w23 =>
  gstep v11 false (fun w24 K => K v9 w24) w23 fun v17 w25 =>
  gstep v11 false (fun w26 K => X Tryz.prog (Builtin.len_ #[28] 3 #[v17]) w26 K) w25 fun v18 w27 =>
  gstep v11 false (fun w28 K => X Tryz.prog (binOp .gtr 3 v16 v18) w28 K) w27 fun v19 w29 =>
  X Tryz.prog (pickS v11 (.bool true) v19) w29 fun v20 w30 =>
  condS v20 (
  Q1 .ret (upds ρ1 [(5, (.bool false)), (4, (.string { data := #[] })), (35, v20), (34, v19), (33, v18), (32, v17), (31, v16), (30, v15), (29, v14), (28, v13), (27, v12), (26, v11), (25, v11), (24, v10), (10, v10), (9, v9), (23, v10), (22, v9), (17, v8), (21, v8), (20, v7), (19, v6), (18, (ρ1 0)), (8, v5), (16, v4), (15, v3), (14, v2)]) w30) (
  X Tryz.prog (Instr.fieldAt 84 v5 1) w30 fun v21 w31 =>
  X Tryz.prog (Instr.loadAt 3 v21) w31 fun v22 w32 =>
  X Tryz.prog (Instr.fieldAt 84 v5 1) w32 fun v23 w33 =>
  X Tryz.prog (Instr.loadAt 3 v23) w33 fun v24 w34 =>
  X Tryz.prog (Instr.fieldAt 84 v5 2) w34 fun v25 w35 =>
  X Tryz.prog (Instr.loadAt 3 v25) w35 fun v26 w36 =>
  X Tryz.prog (binOp .add 3 v24 v26) w36 fun v27 w37 =>
  X Tryz.prog (Instr.sliceAt 28 v9 (some v22) (some v27) none) w37 fun v28 w38 =>
  X Tryz.prog (convert 28 9 v28) w38 fun v29 w39 =>
  X Tryz.prog (binOp .add 9 (ρ1 6) v29) w39 fun v30 w40 =>
  X Tryz.prog (binOp .add 3 (ρ1 13) (.int .i64 1)) w40 fun v31 w41 =>
  Q1 .normal (upds ρ1 [(13, v31), (48, v31), (6, v30), (47, v30), (46, v29), (45, v28), (44, v27), (43, v26), (42, v25), (41, v24), (40, v23), (39, v22), (38, v21), (37, v9), (36, (ρ1 6)), (35, v20), (34, v19), (33, v18), (32, v17), (31, v16), (30, v15), (29, v14), (28, v13), (27, v12), (26, v11), (25, v11), (24, v10), (10, v10), (9, v9), (23, v10), (22, v9), (17, v8), (21, v8), (20, v7), (19, v6), (18, (ρ1 0)), (8, v5), (16, v4), (15, v3), (14, v2)]) w41)) (
  Q1 (.exit 0) (upds ρ1 [(14, v2)]) w3)) (inBlockS 0 (thenS (fun ρ2 w42 =>
  K (.tuple #[(ρ2 6), (.bool true)]) w42) (retS Tryz.prog (Tryz.f12).results K))) (upds (env0 #[x0, x1]) [(13, (.int .i64 0)), (12, v1), (11, x1), (6, (.string { data := #[] })), (5, (.bool false)), (4, (.string { data := #[] }))]) w1
theorem eq_top_fetched (x0 x1 : Value) (w : World) (K : Value → World → Prop) :
    sh Tryz.prog (Tryz.f12.body.getD .skip) (retS Tryz.prog Tryz.f12.results K) (env0 #[x0, x1]) w = B_top_fetched x0 x1 w K := by kernel_rfl
theorem call_top_fetched (x0 x1 : Value) (w : World) (K : Value → World → Prop) (h : B_top_fetched x0 x1 w K) : CALL Tryz.prog 12 #[x0, x1] w K :=
  call_of_eq (c := Tryz.f12.body.getD .skip) mixed Tryz.func12 (by kernel_rfl) (by kernel_rfl) (by kernel_rfl) (Nat.le_of_ble_eq_true (by kernel_rfl)) (eq_top_fetched x0 x1 w K) h
def B_top_holds (w : World) (K : Value → World → Prop) : Prop :=
  CALL Tryz.prog 5 #[(.int .i64 5), (.int .u8 50)] w fun v1 w1 =>
  X Tryz.prog (Instr.extract v1 0) w1 fun v2 w2 =>
  X Tryz.prog (Instr.extract v1 1) w2 fun v3 w3 =>
  X Tryz.prog (Op.unary .not v3) w3 fun v4 w4 =>
  condS v4 (
  K (.bool false) w4) (
  CALL Tryz.prog 11 #[(.int .u8 40)] w4 fun v5 w5 =>
  X Tryz.prog (Instr.buildSlice 28 46 #[(0, (.int .u8 115)), (1, (.int .u8 111)), (2, (.int .u8 109)), (3, (.int .u8 101)), (4, (.int .u8 32)), (5, (.int .u8 98)), (6, (.int .u8 121)), (7, (.int .u8 116)), (8, (.int .u8 101)), (9, (.int .u8 115)), (10, (.int .u8 32)), (11, (.int .u8 116)), (12, (.int .u8 104)), (13, (.int .u8 97)), (14, (.int .u8 116)), (15, (.int .u8 32)), (16, (.int .u8 97)), (17, (.int .u8 114)), (18, (.int .u8 101)), (19, (.int .u8 32)), (20, (.int .u8 109)), (21, (.int .u8 111)), (22, (.int .u8 114)), (23, (.int .u8 101)), (24, (.int .u8 32)), (25, (.int .u8 116)), (26, (.int .u8 104)), (27, (.int .u8 97)), (28, (.int .u8 110)), (29, (.int .u8 32)), (30, (.int .u8 111)), (31, (.int .u8 110)), (32, (.int .u8 101)), (33, (.int .u8 32)), (34, (.int .u8 99)), (35, (.int .u8 104)), (36, (.int .u8 117)), (37, (.int .u8 110)), (38, (.int .u8 107)), (39, (.int .u8 44)), (40, (.int .u8 32)), (41, (.int .u8 111)), (42, (.int .u8 114)), (43, (.int .u8 32)), (44, (.int .u8 115)), (45, (.int .u8 111))]) w5 fun v6 w6 =>
  X Tryz.prog (convert 28 28 v6) w6 fun v7 w7 =>
  CALL Tryz.prog 10 #[v2, v5, v7] w7 fun v8 w8 =>
  X Tryz.prog (Instr.extract v8 0) w8 fun v9 w9 =>
  X Tryz.prog (Instr.extract v8 1) w9 fun v10 w10 =>
  CALL Tryz.prog 12 #[v2, v9] w10 fun v11 w11 =>
  X Tryz.prog (Instr.extract v11 0) w11 fun v12 w12 =>
  X Tryz.prog (Instr.extract v11 1) w12 fun v13 w13 =>
  gstep v10 true (fun w14 K => K v13 w14) w13 fun v14 w15 =>
  X Tryz.prog (pickS v10 v14 (.bool false)) w15 fun v15 w16 =>
  gstep v15 true (fun w17 K => K v12 w17) w16 fun v16 w18 =>
  gstep v15 true (fun w19 K => X Tryz.prog (binOpG .eql 9 (.tmp 32) (.const (.string { data := #[115, 111, 109, 101, 32, 98, 121, 116, 101, 115, 32, 116, 104, 97, 116, 32, 97, 114, 101, 32, 109, 111, 114, 101, 32, 116, 104, 97, 110, 32, 111, 110, 101, 32, 99, 104, 117, 110, 107, 44, 32, 111, 114, 32, 115, 111] })) v16 (.string { data := #[115, 111, 109, 101, 32, 98, 121, 116, 101, 115, 32, 116, 104, 97, 116, 32, 97, 114, 101, 32, 109, 111, 114, 101, 32, 116, 104, 97, 110, 32, 111, 110, 101, 32, 99, 104, 117, 110, 107, 44, 32, 111, 114, 32, 115, 111] })) w19 K) w18 fun v17 w20 =>
  X Tryz.prog (pickS v15 v17 (.bool false)) w20 fun v18 w21 =>
  K v18 w21)
theorem eq_top_holds (w : World) (K : Value → World → Prop) :
    sh Tryz.prog (Tryz.f4.body.getD .skip) (retS Tryz.prog Tryz.f4.results K) (env0 #[]) w = B_top_holds  w K := by kernel_rfl
theorem call_top_holds (w : World) (K : Value → World → Prop) (h : B_top_holds  w K) : CALL Tryz.prog 4 #[] w K :=
  call_of_eq (c := Tryz.f4.body.getD .skip) mixed Tryz.func4 (by kernel_rfl) (by kernel_rfl) (by kernel_rfl) (Nat.le_of_ble_eq_true (by kernel_rfl)) (eq_top_holds  w K) h
def B_top_TopRoom (x0 x1 : Value) (w : World) (K : Value → World → Prop) : Prop :=
  CALL Tryz.prog 4 #[] w fun v1 w1 =>
  CALL Tryz.prog 5 #[(.int .i64 150), x1] w1 fun v2 w2 =>
  X Tryz.prog (Instr.extract v2 0) w2 fun v3 w3 =>
  X Tryz.prog (Instr.extract v2 1) w3 fun v4 w4 =>
  X Tryz.prog (Op.unary .not v4) w4 fun v5 w5 =>
  condS v5 (
  K (.bool false) w5) (
  X Tryz.prog (Instr.makeMap 27 none) w5 fun v6 w6 =>
  X Tryz.prog (Builtin.len_ #[22] 3 #[x0]) w6 fun v7 w7 =>
  loopS (fun Q1 ρ1 w8 =>
  X Tryz.prog (binOp .lss 3 (ρ1 27) (ρ1 26)) w8 fun v8 w9 =>
  condS v8 (
  joinS (fun ρ2 w10 =>
  X Tryz.prog (binOp .add 3 (ρ2 27) (.int .i64 1)) w10 fun v9 w11 =>
  Q1 .normal (upds ρ2 [(27, v9), (71, v9)]) w11) fun J2 =>
  X Tryz.prog (Instr.indexAt 22 (ρ1 25) (ρ1 27)) w9 fun v10 w12 =>
  X Tryz.prog (Instr.loadAt 28 v10) w12 fun v11 w13 =>
  X Tryz.prog (binOp .geq 3 (ρ1 27) (.int .i64 100)) w13 fun v12 w14 =>
  gstep v12 false (fun w15 K => K v11 w15) w14 fun v13 w16 =>
  gstep v12 false (fun w17 K => X Tryz.prog (Builtin.len_ #[28] 3 #[v13]) w17 K) w16 fun v14 w18 =>
  gstep v12 false (fun w19 K => X Tryz.prog (binOp .gtr 3 v14 (.int .i64 400)) w19 K) w18 fun v15 w20 =>
  X Tryz.prog (pickS v12 (.bool true) v15) w20 fun v16 w21 =>
  condS v16 (
  Q1 (.exit 0) (upds ρ1 [(38, v16), (37, v15), (36, v14), (35, v13), (34, v12), (33, v12), (32, (ρ1 27)), (11, v11), (10, (ρ1 27)), (31, v11), (30, v10), (29, (ρ1 27)), (28, v8)]) w21) (
  CALL Tryz.prog 6 #[(ρ1 6), v11, (.int .u64 0)] w21 fun v17 w22 =>
  X Tryz.prog (Instr.extract v17 0) w22 fun v18 w23 =>
  X Tryz.prog (Instr.extract v17 1) w23 fun v19 w24 =>
  X Tryz.prog (Instr.extract v17 2) w24 fun v20 w25 =>
  X Tryz.prog (Instr.alloc 33 true (.tuple #[])) w25 fun v21 w26 =>
  XU Tryz.prog (Instr.storeAt 33 v21 v18) w26 fun w27 =>
  X Tryz.prog (Builtin.len_ #[28] 3 #[v11]) w27 fun v22 w28 =>
  X Tryz.prog (binOpG .eql 3 (.tmp 47) (.const (.int .i64 0)) v22 (.int .i64 0)) w28 fun v23 w29 =>
  condS v23 (
  J2 (upds ρ1 [(48, v23), (47, v22), (46, v11), (14, v20), (13, v19), (12, v21), (45, v20), (44, v19), (43, v18), (39, v17), (42, v17), (41, v11), (40, (ρ1 6)), (38, v16), (37, v15), (36, v14), (35, v13), (34, v12), (33, v12), (32, (ρ1 27)), (11, v11), (10, (ρ1 27)), (31, v11), (30, v10), (29, (ρ1 27)), (28, v8)]) w29) (
  X Tryz.prog (binOpG .neq 34 (.tmp 49) (.const (.int .i64 0)) v20 (.int .i64 0)) w29 fun v24 w30 =>
  gstep v24 false (fun w31 K => K v19 w31) w30 fun v25 w32 =>
  gstep v24 false (fun w33 K => K (ρ1 9) w33) w32 fun v26 w34 =>
  gstep v24 false (fun w35 K => K v11 w35) w34 fun v27 w36 =>
  gstep v24 false (fun w37 K => X Tryz.prog (convert 28 9 v27) w37 K) w36 fun v28 w38 =>
  gstep v24 false (fun w39 K => X Tryz.prog (Instr.lookup 27 v26 v28 false) w39 K) w38 fun v29 w40 =>
  gstep v24 false (fun w41 K => X Tryz.prog (binOpG .eql 4 (.tmp 52) (.tmp 56) v25 v29) w41 K) w40 fun v30 w42 =>
  X Tryz.prog (pickS v24 (.bool true) v30) w42 fun v31 w43 =>
  condS v31 (
  Q1 .ret (upds ρ1 [(4, (.bool false)), (58, v31), (57, v30), (56, v29), (55, v28), (54, v27), (53, v26), (52, v25), (51, v24), (50, v24), (49, v20), (48, v23), (47, v22), (46, v11), (14, v20), (13, v19), (12, v21), (45, v20), (44, v19), (43, v18), (39, v17), (42, v17), (41, v11), (40, (ρ1 6)), (38, v16), (37, v15), (36, v14), (35, v13), (34, v12), (33, v12), (32, (ρ1 27)), (11, v11), (10, (ρ1 27)), (31, v11), (30, v10), (29, (ρ1 27)), (28, v8)]) w43) (
  joinS (fun ρ3 w44 =>
  X Tryz.prog (convert 28 9 (ρ3 11)) w44 fun v32 w45 =>
  XU Tryz.prog (Instr.mapUpdate 27 (ρ3 9) v32 (.bool true)) w45 fun w46 =>
  J2 (upds ρ3 [(70, v32), (69, (ρ3 11)), (68, (ρ3 9))]) w46) fun J3 =>
  condS v19 (
  X Tryz.prog (Instr.build 40 #[(1, v11)]) w43 fun v33 w47 =>
  X Tryz.prog (Instr.buildSlice 41 1 #[(0, v33)]) w47 fun v34 w48 =>
  CALL Tryz.prog 7 #[v34] w48 fun v35 w49 =>
  CALL Tryz.prog 7 #[(.slice none 0 0)] w49 fun v36 w50 =>
  X Tryz.prog (binOp .sub 3 v35 v36) w50 fun v37 w51 =>
  X Tryz.prog (binOp .add 3 (ρ1 8) v37) w51 fun v38 w52 =>
  J3 (upds ρ1 [(8, v38), (67, v38), (66, v37), (65, v36), (64, v35), (63, v34), (62, v33), (61, v11), (60, (ρ1 8)), (59, v19), (58, v31), (57, v30), (56, v29), (55, v28), (54, v27), (53, v26), (52, v25), (51, v24), (50, v24), (49, v20), (48, v23), (47, v22), (46, v11), (14, v20), (13, v19), (12, v21), (45, v20), (44, v19), (43, v18), (39, v17), (42, v17), (41, v11), (40, (ρ1 6)), (38, v16), (37, v15), (36, v14), (35, v13), (34, v12), (33, v12), (32, (ρ1 27)), (11, v11), (10, (ρ1 27)), (31, v11), (30, v10), (29, (ρ1 27)), (28, v8)]) w52) (
  J3 (upds ρ1 [(59, v19), (58, v31), (57, v30), (56, v29), (55, v28), (54, v27), (53, v26), (52, v25), (51, v24), (50, v24), (49, v20), (48, v23), (47, v22), (46, v11), (14, v20), (13, v19), (12, v21), (45, v20), (44, v19), (43, v18), (39, v17), (42, v17), (41, v11), (40, (ρ1 6)), (38, v16), (37, v15), (36, v14), (35, v13), (34, v12), (33, v12), (32, (ρ1 27)), (11, v11), (10, (ρ1 27)), (31, v11), (30, v10), (29, (ρ1 27)), (28, v8)]) w43))))) (
  Q1 (.exit 0) (upds ρ1 [(28, v8)]) w9)) (inBlockS 0 (thenS (fun ρ4 w53 =>
  CALL Tryz.prog 7 #[(.slice none 0 0)] w53 fun v39 w54 =>
  X Tryz.prog (binOp .sub 3 (.int .i64 508) v39) w54 fun v40 w55 =>
  ∃ R, Frame? R ∧
  gstep (ρ4 5) true (fun w56 K => K (ρ4 6) w56) (drewW w55) fun v41 w57 =>
  gstep (ρ4 5) true (fun w58 K => CALL Tryz.prog 8 #[v41] w58 K) w57 fun v42 w59 =>
  gstep (ρ4 5) true (fun w60 K => XP Tryz.prog (binOpG .eql 34 (.tmp 77) (.const (.int .i64 0)) v42 (.int .i64 0)) w60 K) w59 fun v43 w61 =>
  XP Tryz.prog (pickS (ρ4 5) v43 (.bool false)) w61 fun v44 w62 =>
  gstep v44 true (fun w63 K => K (ρ4 6) w63) w62 fun v45 w64 =>
  gstep v44 true (fun w65 K => K (ρ4 8) w65) w64 fun v46 w66 =>
  gstep v44 true (fun w67 K => XP Tryz.prog (binOp .mul 3 (.int .i64 2) v46) w67 K) w66 fun v47 w68 =>
  gstep v44 true (fun w69 K => K v40 w69) w68 fun v48 w70 =>
  gstep v44 true (fun w71 K => XP Tryz.prog (binOp .quo 3 v47 v48) w71 K) w70 fun v49 w72 =>
  gstep v44 true (fun w73 K => XP Tryz.prog (binOp .add 3 v49 (.int .i64 1)) w73 K) w72 fun v50 w74 =>
  gstep v44 true (fun w75 K => CALL Tryz.prog 9 #[v45] w75 K) w74 fun v51 w76 =>
  gstep v44 true (fun w77 K => XP Tryz.prog (Builtin.len_ #[43] 3 #[v51]) w77 K) w76 fun v52 w78 =>
  gstep v44 true (fun w79 K => XP Tryz.prog (binOp .leq 3 v52 v50) w79 K) w78 fun v53 w80 =>
  XP Tryz.prog (pickS v44 v53 (.bool false)) w80 fun v54 w81 =>
  K v54 w81) (retS Tryz.prog (Tryz.f3).results K))) (upds (env0 #[x0, x1]) [(27, (.int .i64 0)), (26, v7), (25, x0), (9, v6), (24, v6), (8, (.int .i64 0)), (23, v5), (22, v4), (7, v4), (6, v3), (21, v4), (20, v3), (17, v2), (19, v2), (18, x1), (5, v1), (16, v1), (4, (.bool false))]) w7)
theorem eq_top_TopRoom (x0 x1 : Value) (w : World) (K : Value → World → Prop) :
    sh Tryz.prog (Tryz.f3.body.getD .skip) (retS Tryz.prog Tryz.f3.results K) (env0 #[x0, x1]) w = B_top_TopRoom x0 x1 w K := by kernel_rfl
theorem call_top_TopRoom (x0 x1 : Value) (w : World) (K : Value → World → Prop) (h : B_top_TopRoom x0 x1 w K) : CALL Tryz.prog 3 #[x0, x1] w K :=
  call_of_eq (c := Tryz.f3.body.getD .skip) mixed Tryz.func3 (by kernel_rfl) (by kernel_rfl) (by kernel_rfl) (Nat.le_of_ble_eq_true (by kernel_rfl)) (eq_top_TopRoom x0 x1 w K) h
end Go.Proofs.YtcigpjejbkngfaaGreatDoor
end
section
set_option maxRecDepth 8000
namespace Go.Proofs.YtcigpjejbkngfaaGreatDoor
open Go Go.Sh Go.RowKit
attribute [local irreducible] X XU XP XR CALL loopS resC closS
theorem run_build_63 (a b c : Int) (w : World) : (Instr.build 63 #[(0, .int .i64 a), (1, .int .i64 b), (2, .int .i64 c)]).run Tryz.prog w = .ok (.agg [Value.int .i64 a, .int .i64 b, .int .i64 c].toArray) w := by kernel_rfl
theorem run_build_50 (a b c d : Int) (w : World) : (Instr.build 50 #[(0, .int .i64 a), (1, .int .i64 b), (2, .int .u32 c), (3, .int .u32 d)]).run Tryz.prog w = .ok (.agg [Value.int .i64 a, .int .i64 b, .int .u32 c, .int .u32 d].toArray) w := by kernel_rfl
section
variable {w : World} {K : Value → World → Prop}
theorem how_spec {x : Nat} (hx : x < 256) (hK : ∀ w1, Ext w w1 → K (.agg #[.int .i64 ((x * 3 : Nat) : Int), .int .i64 ((x % 7 : Nat) : Int), .int .i64 ((x % 5 : Nat) : Int)]) w1) : CALL Tryz.prog 16 #[.int .u8 (x : Int)] w K := by
  apply call_top_how
  unfold B_top_how
  refine X_alloc zero_63 ?_
  have hx1 := newB_ext w (Value.agg #[.int .i64 0, .int .i64 0, .int .i64 0]).cells 63
  have hg1 : (newB w (Value.agg #[.int .i64 0, .int .i64 0, .int .i64 0]).cells 63).heap[w.heap.size]? = some (.cells #[.int .i64 0, .int .i64 0, .int .i64 0] 63 (0, 0)) := newB_get _ _ _
  generalize newB w (Value.agg #[.int .i64 0, .int .i64 0, .int .i64 0]).cells 63 = w1 at hx1 hg1 ⊢
  have e7 : (x : Int).tmod 7 = ((x % 7 : Nat) : Int) := by rw [Int.tmod_eq_emod_of_nonneg (by omega)]; omega
  have e5 : (x : Int).tmod 5 = ((x % 5 : Nat) : Int) := by rw [Int.tmod_eq_emod_of_nonneg (by omega)]; omega
  have e3 : (x : Int) * 3 = ((x * 3 : Nat) : Int) := by omega
  rw [X_conv_5_3, w64 (by omega) (by omega), X_mul, w64 (by omega) (by omega)]
  refine X_of (run_rem 5 .u8 _ 7 (by decide) _) ?_
  rw [X_conv_5_3, e7, w64 (by omega) (by omega)]
  refine X_of (run_rem 5 .u8 _ 5 (by decide) _) ?_
  rw [X_conv_5_3, e5, w64 (by omega) (by omega), e3]
  refine X_of (run_build_63 _ _ _ _) ?_
  refine XU_storeAgg (l := [Value.int .i64 ((x * 3 : Nat) : Int), .int .i64 ((x % 7 : Nat) : Int), .int .i64 ((x % 5 : Nat) : Int)]) info_63 hg1 (by rw [sz_63]; rfl) (by rw [sz_63]; rfl) (by intro u hu; simp only [List.mem_cons, List.not_mem_nil, or_false] at hu; rcases hu with rfl | rfl | rfl <;> rfl) ?_
  have k2 := setAt_keep w1 w.heap.size [Value.int .i64 ((x * 3 : Nat) : Int), .int .i64 ((x % 7 : Nat) : Int), .int .i64 ((x % 5 : Nat) : Int)].toArray 63 (0, 0)
  refine resC_agg Tryz.underlying63 agg_63 info_63 (l := [Value.int .i64 ((x * 3 : Nat) : Int), .int .i64 ((x % 7 : Nat) : Int), .int .i64 ((x % 5 : Nat) : Int)]) (setAt_same (lt_of_blk hg1)) (by rw [sz_63]; rfl) ?_
  exact hK _ (Ext.seq hx1 k2 (fun g hg => by omega))
theorem cutter_spec (hK : ∀ w1, Ext w w1 → K cutV w1) : CALL Tryz.prog 11 #[.int .u8 40] w K := by
  apply call_top_cutter
  unfold B_top_cutter
  refine X_alloc zero_50 ?_
  have hx1 := newB_ext w (Value.agg #[.int .i64 0, .int .i64 0, .int .u32 0, .int .u32 0]).cells 50
  have hg1 : (newB w (Value.agg #[.int .i64 0, .int .i64 0, .int .u32 0, .int .u32 0]).cells 50).heap[w.heap.size]? = some (.cells #[.int .i64 0, .int .i64 0, .int .u32 0, .int .u32 0] 50 (0, 0)) := newB_get _ _ _
  generalize newB w (Value.agg #[.int .i64 0, .int .i64 0, .int .u32 0, .int .u32 0]).cells 50 = w1 at hx1 hg1 ⊢
  refine X_of (run_rem 5 .u8 40 15 (by decide) _) ?_
  rw [X_conv_5_3, X_add]
  refine X_of (run_rem 5 .u8 40 15 (by decide) _) ?_
  rw [X_conv_5_3, X_add]
  refine X_of (v := .int .u8 10) (w1 := w1) (by kernel_rfl) ?_
  rw [X_conv_5_3, X_add]
  refine X_of (run_rem 5 .u8 40 20 (by decide) _) ?_
  rw [X_conv_5_31, X_add]
  refine X_of (run_rem 5 .u8 40 5 (by decide) _) ?_
  rw [X_conv_5_31, X_add]
  refine X_of (run_build_50 _ _ _ _ _) ?_
  have e : [Value.int .i64 (IntKind.i64.wrap (16 + IntKind.i64.wrap (Int.tmod 40 15))), .int .i64 (IntKind.i64.wrap (IntKind.i64.wrap (16 + IntKind.i64.wrap (Int.tmod 40 15)) + IntKind.i64.wrap 10)), .int .u32 (IntKind.u32.wrap (IntKind.u32.wrap (Int.tmod 40 20) + 1)), .int .u32 (IntKind.u32.wrap (IntKind.u32.wrap (Int.tmod 40 5) + 1))] = [Value.int .i64 26, .int .i64 36, .int .u32 1, .int .u32 1] := by rfl
  rw [e]
  refine XU_storeAgg (l := [Value.int .i64 26, .int .i64 36, .int .u32 1, .int .u32 1]) info_50 hg1 (by rw [sz_50]; rfl) (by rw [sz_50]; rfl) (by intro u hu; simp only [List.mem_cons, List.not_mem_nil, or_false] at hu; rcases hu with rfl | rfl | rfl | rfl <;> rfl) ?_
  have k2 := setAt_keep w1 w.heap.size [Value.int .i64 26, .int .i64 36, .int .u32 1, .int .u32 1].toArray 50 (0, 0)
  refine resC_agg Tryz.underlying50 agg_50 info_50 (l := [Value.int .i64 26, .int .i64 36, .int .u32 1, .int .u32 1]) (setAt_same (lt_of_blk hg1)) (by rw [sz_50]; rfl) ?_
  exact hK _ (Ext.seq hx1 k2 (fun g hg => by omega))
theorem made_spec {n x : Nat} (h0 : 0 < n) (hn : n ≤ 4096) (hx : x < 256) (hK : ∀ sb W τ, Ext w W → (∀ g, τ g ≠ 0 → w.heap.size ≤ g) → StM W τ sb n Sm.nil → K (.tuple #[ptr sb, .bool true]) W) : CALL Tryz.prog 5 #[i64v (n : Int), .int .u8 (x : Int)] w K := by
  apply call_top_made
  unfold B_top_made
  rw [X_mul, w64 (by omega) (by omega)]
  refine New_disk (fun hbad => absurd hbad (by omega)) ?_
  intro m hm hm2 b w1 hx1 hf1 hd1
  obtain rfl : m = 4 * n := by omega
  (repeat (simp only [SLB, Int.reduceEq, Int.reduceNe, Int.reduceLT, Int.reduceLE, Int.reduceGT, Int.reduceGE]))
  refine VauNew_spec hn hd1 hf1 ?_
  intro vb w2 hx2 hv2
  (repeat (simp only [SLB, Int.reduceEq, Int.reduceNe, Int.reduceLT, Int.reduceLE, Int.reduceGT, Int.reduceGE]))
  refine how_spec hx ?_
  intro w3 hx3
  have hv3 := (hv2.ext hx3).grow (E := fun g => w.heap.size ≤ g ∧ g < w3.heap.size) (fun g hg => ⟨hg.1, by have := hx3.size; omega⟩) (fun g hg => hg.2)
  refine StNew_spec (base := w.heap.size) hv3 h0 hn (by omega) (by omega) (by omega) ?_
  intro sb W τ hxW hτ hM
  (repeat (simp only [SLB, Int.reduceEq, Int.reduceNe, Int.reduceLT, Int.reduceLE, Int.reduceGT, Int.reduceGE]))
  exact hK sb W τ (((hx1.trans hx2).trans hx3).trans hxW) hτ hM
end
end Go.Proofs.YtcigpjejbkngfaaGreatDoor
end
section
set_option maxRecDepth 8000
namespace Go.Proofs.YtcigpjejbkngfaaGreatDoor
open Go Go.Sh Go.RowKit
attribute [local irreducible] X XU XP XR CALL loopS resC closS
def mOf (bb : List (List UInt8)) : Sm := bb.foldl (fun m b => m.hold (newP m b)) Sm.nil
theorem mOf_snoc (bb : List (List UInt8)) (b : List UInt8) : mOf (bb ++ [b]) = (mOf bb).hold (newP (mOf bb) b) := by
  unfold mOf
  rw [List.foldl_append]
  rfl
theorem mOf_ps_snoc (bb : List (List UInt8)) (b : List UInt8) : (mOf (bb ++ [b])).ps = (mOf bb).ps ++ [newP (mOf bb) b] := by
  rw [mOf_snoc, Sm.hold_ps]
theorem fold_bs (bb : List (List UInt8)) (m : Sm) : (bb.foldl (fun m b => m.hold (newP m b)) m).ps.map Pp.bs = m.ps.map Pp.bs ++ bb := by
  induction bb generalizing m with
  | nil => simp
  | cons b bb ih =>
    show (bb.foldl (fun m b => m.hold (newP m b)) (m.hold (newP m b))).ps.map Pp.bs = _
    rw [ih, Sm.hold_ps, List.map_append, List.append_assoc]
    rfl
theorem mOf_bs (bb : List (List UInt8)) : (mOf bb).ps.map Pp.bs = bb := fold_bs bb Sm.nil
theorem mOf_len (bb : List (List UInt8)) : (mOf bb).ps.length = bb.length := by
  have := congrArg List.length (mOf_bs bb)
  rwa [List.length_map] at this
def exP (p : Pp) : Ex := mkEx p.k 0 (p.bs.length : Int)
theorem exP_off (p : Pp) : (exP p).off = 0 := rfl
theorem exP_len {p : Pp} (h : p.bs.length ≤ 100000) : (exP p).len = (p.bs.length : Int) := w64 (by omega) (by omega)
theorem run_build3s {P : Program} {t : TypeId} {f0 f1 f2 : Field} {a : Nat} {zk : List Value} {z1 z2 : Value} (ht : P.underlying t = some (.struct #[f0, f1, f2])) (hz : zeroT P t = some (.agg (zk ++ [z1, z2]).toArray)) (o0 : f0.offset = 0) (o1 : f1.offset = a) (o2 : f2.offset = a + 1) (s0 : szT P f0.type = a) (s1 : szT P f1.type = 1) (s2 : szT P f2.type = 1)
    (i0 : infoB P f0.type = true) (i1 : infoB P f1.type = true) (i2 : infoB P f2.type = true) (hl : zk.length = a) {cs : List Value} (hc : cs.length = a) (y : Value) (hy : y.cells = #[y]) (w : World) :
    (Instr.build t #[(0, .agg cs.toArray), (2, y)]).run P w = .ok (.agg (cs ++ [z1, y]).toArray) w := by
  have hm : ((#[f0, f1, f2] : Array Field).mapM fun f => do pure (f.offset, ← sizeOf f.type) : Sem (Array (Nat × Nat))).run P w = .ok #[(0, a), (a, 1), (a + 1, 1)] w := by
    rw [Array.mapM_eq_mapM_toList]
    simp [sizeOf_run i0, sizeOf_run i1, sizeOf_run i2, s0, s1, s2, o0, o1, o2, List.mapM_cons, List.mapM_nil]
  have hf : Instr.fill (fun i => (#[(0, a), (a, 1), (a + 1, 1)] : Array (Nat × Nat))[i]?) (zk ++ [z1, z2]).toArray [(0, .agg cs.toArray), (2, y)] = some (cs ++ [z1, y]).toArray := by
    have h0 : (Value.agg cs.toArray).cells.size = a := by show cs.toArray.size = a; simpa using hc
    have t1 : (List.take 0 (zk ++ [z1, z2]).toArray.toList ++ (Value.agg cs.toArray).cells.toList ++ List.drop (0 + a) (zk ++ [z1, z2]).toArray.toList) = cs ++ [z1, z2] := by
      subst hl
      simp [Value.cells]
    have t3 : (List.take (a + 1) (cs ++ [z1, z2]).toArray.toList ++ y.cells.toList ++ List.drop (a + 1 + 1) (cs ++ [z1, z2]).toArray.toList) = cs ++ [z1, y] := by
      subst hc
      rw [hy]
      simp [List.take_append, List.drop_append]
      rw [List.take_of_length_le (by omega), List.drop_eq_nil_of_le (by omega), show cs.length + 1 + 1 - cs.length = 2 by omega]
      simp
    rw [fill_app (a := a) (off := 0) rfl h0 (by simp; omega), t1, fill_app (a := 1) (off := a + 1) rfl (by rw [hy]; rfl) (by simp; omega), t3]
    rfl
  simp only [Instr.build, Sem.run_bind, zeroValue_run hz, Result.andThen_ok, run_underlying ht, hm]
  have hc0 : (Value.agg (zk ++ [z1, z2]).toArray).cells = (zk ++ [z1, z2]).toArray := rfl
  rw [hc0, hf]
  rfl
theorem run_build_84s (p : Pp) (hn : p.bs.length ≤ 100000) (w : World) : (Instr.build 84 #[(0, p.k.v), (2, .int .i64 (p.bs.length : Int))]).run Tryz.prog w = .ok (.agg (exP p).cs.toArray) w := by
  have h := run_build3s (a := 33) (zk := List.replicate 32 (Value.int .u8 0) ++ [Value.int .u32 0]) (z1 := .int .i64 0) (z2 := .int .i64 0) Tryz.underlying84 zero_84 rfl rfl rfl sz_33 sz_3 sz_3 info_33 info_3 info_3 (by simp) p.k.cs_len (.int .i64 (p.bs.length : Int)) rfl w
  rw [h]
  have e : (exP p).cs = p.k.cs ++ [.int .i64 0, .int .i64 (p.bs.length : Int)] := by
    show p.k.cs ++ [.int .i64 (IntKind.i64.wrap 0), .int .i64 (IntKind.i64.wrap (p.bs.length : Int))] = _
    rw [w64 (by omega) (by omega), w64 (by omega) (by omega)]
  rw [e]
theorem joinE_two {m : Sm} {p q : Pp} (hm : m.ps = [p, q]) (hn : (m.ps.map Pp.k).Nodup) (hp : 1 ≤ p.bs.length ∧ p.bs.length ≤ 4096) (hq : 1 ≤ q.bs.length ∧ q.bs.length ≤ 4096) : joinE [m.ps.map exP] = m.ps.map exP := by
  rw [hm] at hn ⊢
  have hne : p.k ≠ q.k := by
    simp at hn
    exact hn
  have e : joinL [[exP p, exP q]].flatten = [exP p, exP q] := by
    show put1 (put1 [] (exP p)) (exP q) = _
    have e1 : put1 [] (exP p) = [exP p] := put1_none rfl
    rw [e1, put1_no (n := 0) rfl]
    · rfl
    · intro hf
      exact hne hf.1
  have hr : RightP [exP p, exP q] := ⟨by simp, by
    intro x hx
    simp only [List.mem_cons, List.not_mem_nil, or_false] at hx
    rcases hx with rfl | rfl
    · unfold right1; rw [exP_off, exP_len (by omega)]; omega
    · unfold right1; rw [exP_off, exP_len (by omega)]; omega⟩
  show joinE [[exP p, exP q]] = [exP p, exP q]
  unfold joinE
  rw [e, if_pos ⟨by intro l hl; rw [List.mem_singleton.1 hl]; exact hr, hr⟩]
theorem X_appEx1 {w : World} {base : Nat} {vo : Value} {ks : List Ex} {e : Ex} (ho : OwnK 35 84 Ex.cs w base vo ks) (hn : ks.length ≤ 1000000) (hbase : base ≤ w.heap.size) {K2 : Value → Value → World → Prop}
    (hK : ∀ u v' w1, OwnK 35 84 Ex.cs w1 base v' (ks ++ [e]) → Keep (fun q => some q = vo.ownBlock) w w1 → (∀ g, v'.ownBlock = some g → vo.ownBlock = some g ∨ w.heap.size ≤ g) → K2 u v' w1) :
    X Tryz.prog (Instr.buildSlice 46 1 #[(0, .agg e.cs.toArray)]) w fun u w1 => X Tryz.prog (Builtin.append_ #[46, 46] 46 #[vo, u]) w1 fun v' w2 => K2 u v' w2 := by
  refine X_buildSliceK Tryz.underlying46 el_84 (by decide) (by decide) e.cs_len ?_
  have hx3 := newB_ext w e.cs.toArray 84
  have hg3 := newB_get w e.cs.toArray 84
  show X _ _ (newB w e.cs.toArray 84) _
  generalize newB w e.cs.toArray 84 = w3 at hx3 hg3 ⊢
  have hrow : RowK 35 Ex.cs w3 (.slice (some ⟨w.heap.size, 0, none⟩) 1 1) [e] := by
    refine RowK.ofK (T := 84) (fr := (0, 0)) (by decide) Ex.cs_len ?_ rfl (by decide)
    rw [hg3]
    unfold cellsK
    simp
  obtain ⟨a, c, e1, h3⟩ := hrow.cells (by decide) Ex.cs_len
  obtain ⟨ad, e2, hc⟩ := h3 (by simp)
  rw [e1, e2]
  have hs3 := hx3.size
  refine X_appendW (base := base) (m := 1) Tryz.underlying46 el_84 (by decide) (ho.ext hx3) (news := cellsK Ex.cs [e]) (cellsK_len Ex.cs_len _) hc (by
    intro u hu
    unfold cellsK at hu
    obtain ⟨s, hs, hu⟩ := List.mem_flatten.1 hu
    obtain ⟨z, hz, rfl⟩ := List.mem_map.1 hs
    rw [List.mem_singleton.1 hz] at hu
    exact Ex.one e u hu) (by omega) (by decide) (by omega) (fun v' w1 o k b => hK _ v' w1 ?_ (Keep.trans (Keep.ext hx3) k) (fun g hg => by
      rcases b g hg with h | h
      · exact .inl h
      · exact .inr (by omega)))
  unfold OwnK
  rw [List.length_append, cellsK_append]
  exact o
section
variable {w : World} {K : Value → World → Prop} {τ : Nat → Nat} {sb n : Nat}
set_option maxHeartbeats 2000000 in
theorem stored_spec {v : Value} {bs : List UInt8} (h : StM w τ sb n Sm.nil) (hb : Bts w v bs) (h1 : 26 < bs.length) (h2 : bs.length < 52) (hn : 2 < n)
    (hK : ∀ u W τ', Stp w τ W τ' → StM W τ' sb n (mOf [bs.take 26, bs.drop 26]) → (mOf [bs.take 26, bs.drop 26]).Ok → RowK 35 Ex.cs W u ((mOf [bs.take 26, bs.drop 26]).ps.map exP) → (∀ g, u.ownBlock = some g → τ' g = 0) → K (.tuple #[u, .bool true]) W) : CALL Tryz.prog 10 #[ptr sb, cutV, v] w K := by
  have e0 : decide ((0 : Int) ≠ 0) = false := rfl
  obtain ⟨bb, hbb⟩ : ∃ bb, bb = [bs.take 26, bs.drop 26] := ⟨_, rfl⟩
  rw [← hbb] at hK
  have hbl : bb.length = 2 := by rw [hbb]; rfl
  have hbp : ∀ b ∈ bb, b ≠ [] ∧ b.length ≤ 460 := by
    intro b hb
    rw [hbb] at hb
    simp only [List.mem_cons, List.not_mem_nil, or_false] at hb
    rcases hb with rfl | rfl
    · exact ⟨fun h => by have := congrArg List.length h; rw [List.length_take, List.length_nil] at this; omega, by rw [List.length_take]; omega⟩
    · exact ⟨fun h => by have := congrArg List.length h; rw [List.length_drop, List.length_nil] at this; omega, by rw [List.length_drop]; omega⟩
  have hbn : bb.Nodup := by
    rw [hbb]
    simp
    intro h
    have := congrArg List.length h
    rw [List.length_take, List.length_drop] at this
    omega
  apply call_top_stored
  unfold B_top_stored
  refine X_box ?_
  have hx1 := newB_ext w cutV.cells 50
  have hg1 : (newB w cutV.cells 50).heap[w.heap.size]? = some (.cells [Value.int .i64 26, .int .i64 36, .int .u32 1, .int .u32 1].toArray 50 (0, 0)) := newB_get _ _ _
  generalize newB w cutV.cells 50 = w1 at hx1 hg1 ⊢
  refine X_of (v := cutV) (w1 := w1) (load_cells Tryz.underlying50 agg_50 info_50 (l := [.int .i64 26, .int .i64 36, .int .u32 1, .int .u32 1]) (by rw [sz_50]; rfl) (fun j u hj => by
    rw [add_plain, Nat.zero_add, cell_blk hg1, List.getElem?_toArray]
    exact hj)) ?_
  refine CAll_spec (hb.ext hx1) h1 h2 ?_
  intro out p q w2 hx2 hrow hob hp hq hpb hqb
  obtain ⟨ao, co, eo⟩ := hrow.slice
  have hx02 := hx1.trans hx2
  have hs1 := hx1.size
  have hfr : ∀ g, w.heap.size ≤ g → τ g = 0 := fun g hg => h.fresh hg
  have hpv : ∀ (i : Nat) (hi : i < 2), ∃ pv b, [p, q][i]? = some pv ∧ bb[i]? = some b ∧ Bts w2 pv b ∧ ∀ g, pv.ownBlock = some g → w.heap.size ≤ g ∧ g < w2.heap.size := by
    intro i hi
    have lt : ∀ {x : Value} {l : List UInt8}, Bts w2 x l → 0 < l.length → ∀ g, x.ownBlock = some g → g < w2.heap.size := by
      intro x l hb h0 g hg
      obtain ⟨a, c, rfl, _, _, h3⟩ := hb
      obtain ⟨ad, rfl, hc⟩ := h3 h0
      have hcell := hc 0 _ (List.getElem?_eq_getElem h0)
      have hgd : ad.block = g := Option.some.inj hg
      rw [← hgd]
      unfold World.cell? at hcell
      have hb : (ad.add 0).block = ad.block := by unfold Addr.add; split <;> rfl
      rw [hb] at hcell
      cases hh : w2.heap[ad.block]? with
      | none => rw [hh] at hcell; cases hcell
      | some o => exact lt_of_blk hh
    have : i = 0 ∨ i = 1 := by omega
    rcases this with rfl | rfl
    · exact ⟨p, bs.take 26, rfl, by rw [hbb]; rfl, hp, fun g hg => ⟨by have := hpb g hg; omega, lt hp (by simp; omega) g hg⟩⟩
    · exact ⟨q, bs.drop 26, rfl, by rw [hbb]; rfl, hq, fun g hg => ⟨by have := hqb g hg; omega, lt hq (by simp; omega) g hg⟩⟩
  rw [eo, X_len_22, ← eo]
  refine loopGR 0 (fun ρ W => ∃ (i : Nat) (τ' : Nat → Nat), i ≤ 2 ∧ Stp w τ W τ' ∧ StM W τ' sb n (mOf (bb.take i)) ∧ (mOf (bb.take i)).Ok ∧ (∀ g, g < w2.heap.size → τ g = 0 → τ' g = 0) ∧ w2.heap.size ≤ W.heap.size ∧ Stp w2 τ W τ' ∧
      OwnK 35 84 Ex.cs W 0 (ρ 8) ((mOf (bb.take i)).ps.map exP) ∧ (∀ g, (ρ 8).ownBlock = some g → τ' g = 0 ∧ w2.heap.size ≤ g) ∧ ρ 18 = .int .i64 (i : Int) ∧ ρ 17 = .int .i64 (([p, q] : List Value).length : Int) ∧ ρ 16 = out ∧ ρ 0 = ptr sb)
    (fun ρ W => match ρ 18 with | .int _ s => (2 - s).toNat | _ => 0)
    (fun ρ W => ∃ (τ' : Nat → Nat), Stp w τ W τ' ∧ StM W τ' sb n (mOf bb) ∧ (mOf bb).Ok ∧ OwnK 35 84 Ex.cs W 0 (ρ 8) ((mOf bb).ps.map exP) ∧ (∀ g, (ρ 8).ownBlock = some g → τ' g = 0)) (fun ρ W => False) ?_ ?_ ?_ ?_
  · exact ⟨0, τ, by omega, Stp.ext hx02, h.ext hx02, Sm.nil_ok, fun _ _ h => h, Nat.le_refl _, Stp.refl _ _, ownK_nil _ _, (fun g hg => by cases hg), rfl, rfl, rfl, rfl⟩
  · rintro J hJ hJR ρ W ⟨i, τ', hi, st, hM, ok, hz, hsz, st2, ho8, h8b, r18, r17, r16, r0⟩
    rw [r18, r17, r16, r0, X_lss, condS_bool]
    by_cases hi2 : i = 2
    · rw [if_neg (by simp; omega)]
      subst hi2
      rw [List.take_of_length_le (by omega)] at hM ok ho8
      exact hJ _ _ ⟨τ', st, hM, ok, ho8, fun g hg => (h8b g hg).1⟩
    rw [if_pos (by simp; omega)]
    have hilt : i < 2 := by omega
    obtain ⟨pv, b, hpi, hbi, hbt, hblk⟩ := hpv i hilt
    have htk : bb.take (i + 1) = bb.take i ++ [b] := by
      rw [List.take_succ_eq_append_getElem (by omega)]
      rw [List.getElem?_eq_getElem (by omega)] at hbi
      rw [Option.some.inj hbi]
    have hbmem : b ∈ bb := List.mem_of_getElem? hbi
    have hrowW := hrow.keep st2.keep (fun _ g hg hh => hh.1 (hfr g (by have := (hob g hg).1; omega)))
    obtain ⟨ad, hix, hcs⟩ := hrowW.at Tryz.underlying22 info_28 sz_28 (kd := .i64) i rfl (by simpa using hilt)
    have hpe : [p, q][i]'(by simpa using hilt) = pv := by
      rw [List.getElem?_eq_getElem (by simpa using hilt)] at hpi
      exact Option.some.inj hpi
    rw [hpe] at hcs
    refine X_of (hix _) ?_
    have hc0 := hcs 0 pv rfl
    have had : ad.add 0 = ad := by simp [Addr.add]
    rw [had] at hc0
    refine X_of (run_loadAt agg_28 hc0) ?_
    obtain ⟨a8, c8, e8⟩ := (OwnK.rowK (by decide) Ex.cs_len ho8).slice
    have hl8 : ((mOf (bb.take i)).ps.map exP).length = i := by rw [List.length_map, mOf_len, List.length_take]; omega
    rw [hl8] at e8
    rw [e8, X_len_46, X_conv_3_37, wrap_u64, Int.emod_eq_of_lt (by omega) (by omega), ← e8]
    have hbtW := hbt.keep st2.keep (fun g hg hh => hh.1 (hfr g (hblk g hg).1))
    have hpsl : (mOf (bb.take i)).ps.length = i := by rw [mOf_len, List.length_take]; omega
    obtain ⟨ab, cb, eb⟩ := Bts.slice hbt
    refine StPut_spec hM ok hbtW (fun g hg => by rw [st2.old g (hblk g hg).2]; exact hfr g (hblk g hg).1) (hbp b hbmem).1 (hbp b hbmem).2 (by omega) (by omega) (by omega) ?_ ?_
    · intro q' hq' hqb' W2 τ2 st3 hM3
      exfalso
      have h1 : b ∈ bb.take i := by rw [← mOf_bs (bb.take i)]; exact List.mem_map.2 ⟨q', hq', hqb'⟩
      obtain ⟨j, hj, hje⟩ := List.mem_iff_getElem.1 h1
      rw [List.length_take] at hj
      rw [List.getElem_take] at hje
      rw [List.getElem?_eq_getElem (by omega)] at hbi
      have := (List.getElem_inj hbn).1 (hje.trans (Option.some.inj hbi).symm)
      omega
    intro hnot W2 τ2 st3 hM3 ok3
    rw [← mOf_snoc, ← htk] at hM3 ok3
    have eps : (mOf (bb.take (i + 1))).ps = (mOf (bb.take i)).ps ++ [newP (mOf (bb.take i)) b] := by rw [htk, mOf_ps_snoc]
    (repeat (simp only [SLB, Int.reduceEq, Int.reduceNe, Int.reduceLT, Int.reduceLE, Int.reduceGT, Int.reduceGE]))
    refine X_alloc zero_33 ?_
    have hxa := newB_ext W2 (Value.agg (List.replicate 32 (Value.int .u8 0) ++ [Value.int .u32 0]).toArray).cells 33
    have hga : (newB W2 (Value.agg (List.replicate 32 (Value.int .u8 0) ++ [Value.int .u32 0]).toArray).cells 33).heap[W2.heap.size]? = some (.cells nilKy.cs.toArray 33 (0, 0)) := by rw [nilKy_cs]; exact newB_get _ _ _
    generalize newB W2 (Value.agg (List.replicate 32 (Value.int .u8 0) ++ [Value.int .u32 0]).toArray).cells 33 = W3 at hxa hga ⊢
    refine key_store (k := (newP (mOf (bb.take i)) b).k) hga (by rw [List.size_toArray, Ky.cs_len]) ?_
    intro W4 k4 s4 hg4
    have hx24 : Ext W2 W4 := Ext.seq hxa k4 (fun g hg => by omega)
    (repeat (simp only [SLB, Int.reduceEq, Int.reduceNe, Int.reduceLT, Int.reduceLE, Int.reduceGT, Int.reduceGE, e0]))
    refine X_of (key_load hg4) ?_
    rw [eb, X_len_28]
    refine X_of (run_build_84s (newP (mOf (bb.take i)) b) (by have := (hbp b hbmem).2; show b.length ≤ _; omega) _) ?_
    have sW := st3.size
    have s24 := hx24.size
    have ho84 := (ho8.keep st3.keep (fun g hg hh => hh.1 (h8b g hg).1)).ext hx24
    refine X_appEx1 ho84 (by rw [hl8]; omega) (Nat.zero_le _) ?_
    intro _ v5 W5 ho5 k5 hb5
    rw [X_add]
    have hM4 := hM3.ext hx24
    have h8W2 : ∀ g, (ρ 8).ownBlock = some g → g < W.heap.size ∧ τ2 g = 0 := fun g hg => by
      have hl := (ho8.lt g hg).2
      exact ⟨hl, by rw [st3.old g hl]; exact (h8b g hg).1⟩
    have hM5 := hM4.keep k5 (fun g hg hh => hg (h8W2 g hh.symm).2)
    have hst5 : ∀ {w0 : World} {τ0 : Nat → Nat}, Stp w0 τ0 W τ' → w0.heap.size ≤ w2.heap.size → Stp w0 τ0 W5 τ2 := fun {w0 τ0} s0 hs0 => by
      have s1 := (s0.trans st3).trans (Stp.ext hx24)
      exact ⟨Keep.seq s1.keep k5 (fun g hg hh => by have := (h8b g hh.symm).2; omega), s1.old⟩
    have s5 := k5.size
    show _ ∧ _
    refine ⟨⟨i + 1, τ2, by omega, hst5 st hx02.size, hM5, ok3, fun g hg h0 => by rw [st3.old g (by omega)]; exact hz g hg h0, by omega, hst5 st2 (Nat.le_refl _), ?_, ?_, next64 (n := 1000) (by decide) (by omega), r17, r16, r0⟩, ?_⟩
    · show OwnK 35 84 Ex.cs W5 0 v5 _
      rw [eps, List.map_append]
      exact ho5
    · intro g hg
      rcases hb5 g hg with hh | hh
      · exact ⟨(h8W2 g hh).2, (h8b g hh).2⟩
      · exact ⟨hM3.fresh (by omega), by omega⟩
    · show (_ - IntKind.i64.wrap _).toNat < _
      rw [w64 (by omega) (by omega)]
      first | omega | (show _ < (_ : Int).toNat; omega)
  · rintro ρ W ⟨τ', st, hM, ok, ho8, h8b⟩
    simp only [inBlockS_same, thenS_normal]
    obtain ⟨a8, c8, e8⟩ := (OwnK.rowK (by decide) Ex.cs_len ho8).slice
    refine X_buildSlice1 Tryz.underlying124 el_46 (by rw [e8]; rfl) ?_
    have hx3 := newB_ext W #[ρ 8] 46
    have hrow3 : RowK 1 (fun u : Value => [u]) (newB W #[ρ 8] 46) (.slice (some ⟨W.heap.size, 0, none⟩) 1 1) [ρ 8] := RowK.ofK (f := fun u : Value => [u]) (T := 46) (fr := (0, 0)) (by decide) (fun _ => rfl) (by rw [newB_get]; rfl) rfl (by decide)
    generalize newB W #[ρ 8] 46 = W3 at hx3 hrow3 ⊢
    have hl8 : ((mOf bb).ps.map exP).length = 2 := by rw [List.length_map, mOf_len, hbl]
    have hrows : RowsE W3 (.slice (some ⟨W.heap.size, 0, none⟩) 1 1) [(mOf bb).ps.map exP] := ⟨[ρ 8], hrow3, rfl, fun i u l hu hl => by
      have hi := (List.getElem?_eq_some_iff.1 hu).1
      simp only [List.length_cons, List.length_nil] at hi
      have : i = 0 := by omega
      subst this
      cases hu
      cases hl
      exact (OwnK.rowK (by decide) Ex.cs_len ho8).ext hx3⟩
    refine Join_spec hrows (by simp [mOf_len, hbl]) (by simp) ?_
    intro u W4 hx4 ho4
    have e : joinE [(mOf bb).ps.map exP] = (mOf bb).ps.map exP := by
      have hl2 : (mOf bb).ps.length = 2 := by rw [mOf_len, hbl]
      match hps : (mOf bb).ps, hl2 with
      | [p1, p2], _ =>
        have hb := mOf_bs bb
        rw [hps] at hb
        have hm1 : p1.bs ∈ bb := by rw [← hb]; simp
        have hm2 : p2.bs ∈ bb := by rw [← hb]; simp
        rw [← hps]
        exact joinE_two hps hM.keys ⟨List.length_pos_iff.2 (hbp _ hm1).1, by have := (hbp _ hm1).2; omega⟩ ⟨List.length_pos_iff.2 (hbp _ hm2).1, by have := (hbp _ hm2).2; omega⟩
    rw [e] at ho4
    have hx34 := hx3.trans hx4
    exact hK u W4 τ' (st.trans (Stp.ext hx34)) (hM.ext hx34) ok (OwnK.rowK (by decide) Ex.cs_len ho4) (fun g hg => hM.fresh (by have := (ho4.lt g hg).1; have := hx3.size; omega))
  · rintro ρ W hF
    exact hF.elim
end
end Go.Proofs.YtcigpjejbkngfaaGreatDoor
end
