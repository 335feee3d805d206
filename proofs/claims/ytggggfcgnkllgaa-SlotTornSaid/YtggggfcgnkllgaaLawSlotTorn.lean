/- cellaragelaw10.SlotTorn: for every two slots, a torn sector is one of both, or none. -/
import Derived.Test.YtggggfcgnkllgaaTorn
import Derived.Test.YtggggfcgnkllgaaFacts
import Derived.Test.YtggggfcgnkllgaaArgs
set_option linter.unusedVariables false
set_option linter.unusedSimpArgs false
set_option linter.constructorNameAsVariable false
namespace Go.Proofs.Ytggggfcgnkllgaa
open Go Go.Sh Go.RowKit Go.ChangeShapes Go.WideShapes Go.ChangeAt
open Go.Proofs.Ytggggfcgnkllgaa
section
attribute [local irreducible] X XU XP XR CALL loopS resC closS Value.okWide
theorem joinS_of {C : Env → World → Prop} {F : (Env → World → Prop) → Prop} (I : Env → World → Prop) (h1 : ∀ ρ w, I ρ w → C ρ w) (h2 : ∀ J : Env → World → Prop, (∀ ρ w, I ρ w → J ρ w) → F J) : joinS C F := h2 C h1
theorem run_empty27 (w : World) : (Instr.buildSlice 27 0 #[]).run Try.prog w = .ok (.slice (some ⟨w.heap.size, 0, none⟩) 0 0) (newB w #[] 5) := by kernel_rfl
theorem own_empty (w : World) : (newB w #[] 5).ownsRow w.heap.size 5 1 (.slice (some ⟨w.heap.size, 0, none⟩) 0 0) 0 (B8 []) :=
  ⟨rfl, .inr ⟨w.heap.size, 0, #[], rfl, Nat.le_refl _, newB_get _ _ _, Nat.le_refl _, by simp [maxLen], rfl, rfl⟩⟩
/-- Slots that lie in memory stay. -/
def Kept (w w1 : World) : Prop := ∀ (b : Nat) (cs : Array Value), w.heap[b]? = some (.cells cs 25 (0, 0)) → w1.heap[b]? = some (.cells cs 25 (0, 0))
theorem Kept.ext {w w1 : World} (h : Ext w w1) : Kept w w1 := fun b cs hb => Ext.get h hb
theorem own_ne {w : World} {base : Nat} {v : Value} {n : Nat} {xs : List Value} (ho : w.ownsRow base 5 1 v n xs) {b : Nat} {cs : Array Value} (hb : w.heap[b]? = some (.cells cs 25 (0, 0))) : v.ownBlock ≠ some b := by
  intro e
  rcases ho.2 with ⟨rfl, _⟩ | ⟨g, cap, cur, rfl, _, hg, _⟩
  · cases e
  · have : g = b := by simpa [Value.ownBlock] using e
    subst this
    rw [hb] at hg
    injection hg with hg
    injection hg with _ h2
    exact absurd h2 (by decide)
theorem S_build {w0 w : World} {K : Value → World → Prop} (hx : Ext w0 w) (h : ∀ v w1, Ext w0 w1 → Kept w w1 → w1.ownsRow w0.heap.size 5 1 v 0 (B8 []) → K v w1) : X Try.prog (Instr.buildSlice 27 0 #[]) w K := by
  refine X_of (run_empty27 _) ?_
  exact h _ _ (hx.trans (newB_ext _ _ _)) (Kept.ext (newB_ext _ _ _)) (own_mono (own_empty w) hx.size)
theorem S_app {w0 w : World} {K : Value → World → Prop} {v u : Value} {n : Nat} {xs l : List UInt8} (hx : Ext w0 w) (ho : w.ownsRow w0.heap.size 5 1 v n (B8 xs)) (hl : Bts w0 u l) (hn : n + l.length ≤ 140737488355328)
    (h : ∀ v' w1, Ext w0 w1 → Kept w w1 → w1.ownsRow w0.heap.size 5 1 v' (n + l.length) (B8 (xs ++ l)) → K v' w1) : X Try.prog (Builtin.append_ #[27, 27] 27 #[v, u]) w K := by
  refine X_append_bts Try.underlying27 el_5 ho (hl.ext hx) hn hx.size ?_
  intro v' w1 ho' hk
  refine h v' w1 (Ext.seq hx hk (fun i hi => (ho.lt i hi.symm).1)) ?_ ho'
  intro b cs hb
  exact hk.get (fun e => own_ne ho hb e.symm) hb
theorem S_alloc {w0 w : World} {K : Value → World → Prop} (hx : Ext w0 w) (h : ∀ b w1, Ext w0 w1 → Ext w w1 → w0.heap.size ≤ b → w1.heap[b]? = some (.cells nilSl.cs.toArray 25 (0, 0)) → K (.pointer (some ⟨b, 0, none⟩)) w1) : X Try.prog (Instr.alloc 25 true (.tuple #[])) w K := by
  refine X_alloc zero_25 ?_
  exact h w.heap.size _ (hx.trans (newB_ext w nilSl.cs.toArray 25)) (newB_ext w nilSl.cs.toArray 25) hx.size (newB_get _ _ _)
theorem S_store {w0 w : World} {K : World → Prop} {b : Nat} {s : Sl} (hx : Ext w0 w) (hb0 : w0.heap.size ≤ b) (hb : w.heap[b]? = some (.cells nilSl.cs.toArray 25 (0, 0))) (h : ∀ w1, Ext w0 w1 → w1.heap[b]? = some (.cells s.cs.toArray 25 (0, 0)) → K w1) :
    XU Try.prog (Instr.storeAt 25 (.pointer (some ⟨b, 0, none⟩)) (.agg s.cs.toArray)) w K := by
  refine XU_storeAgg info_25 hb (by rw [sz_25]; rfl) (by rw [sz_25]; rfl) (Sl.one _) ?_
  exact h _ (Ext.seq hx (setAt_keep _ _ _ _ _) (fun i hi => by omega)) (setAt_same (lt_of_blk hb))
/-- What an older sector holds. -/
def oldB (t : Sl) : List UInt8 := if t.gen = 0 then List.replicate 128 0 else layB t
theorem oldB_len (t : Sl) : (oldB t).length = 128 := by
  unfold oldB
  split
  · simp
  · exact layB_len t
theorem zero8 : be 8 0 = List.replicate 8 0 := by decide
theorem oldB_ends (t : Sl) : (oldB t).take 8 = be 8 t.gen ∧ (oldB t).drop 120 = be 8 t.gen := by
  unfold oldB
  split
  · rename_i h
    rw [h, zero8]
    exact ⟨by simp, by simp⟩
  · exact ⟨lay_take8 t, lay_drop120 t⟩
theorem torn_out {s t : Sl} (hs : s.ok) (ht : t.ok) (hg : s.gen ≠ 0) (hne : s.gen ≠ t.gen) {k : Nat} (hk : k ≤ 128) :
    (takeP ((layB s).take k ++ (oldB t).drop k) = (nilSl, 100) ∧ (0 < k ∧ k < 128 ∨ k = 0 ∧ t.gen = 0)) ∨ takeP ((layB s).take k ++ (oldB t).drop k) = (s, 0) ∨ (takeP ((layB s).take k ++ (oldB t).drop k) = (t, 0) ∧ t.gen ≠ 0) := by
  have full : k = 128 → (layB s).take k ++ (oldB t).drop k = layB s := by
    rintro rfl
    rw [List.take_of_length_le (by rw [layB_len]; omega), List.drop_eq_nil_of_le (by rw [oldB_len]; omega), List.append_nil]
  have hP : takeP (layB s) = (s, 0) := takeP_lay hs hg
  have old : t.gen ≠ 0 → takeP (oldB t) = (t, 0) := by
    intro h
    unfold oldB
    rw [if_neg h]
    exact takeP_lay ht h
  cases hT : takeB ((layB s).take k ++ (oldB t).drop k) with
  | none =>
    have hN : takeP ((layB s).take k ++ (oldB t).drop k) = (nilSl, 100) := by unfold takeP; rw [hT]
    refine .inl ⟨hN, ?_⟩
    rcases Nat.eq_zero_or_pos k with h | h
    · right
      refine ⟨h, ?_⟩
      by_cases hg0 : t.gen = 0
      · exact hg0
      · exfalso
        subst h
        rw [List.take_zero, List.drop_zero, List.nil_append, old hg0] at hN
        injection hN with _ h2
        exact absurd h2 (by decide)
    · left
      refine ⟨h, ?_⟩
      rcases Nat.lt_or_ge k 128 with h' | h'
      · exact h'
      · exfalso
        rw [full (by omega), hP] at hN
        injection hN with _ h2
        exact absurd h2 (by decide)
  | some u =>
    obtain ⟨o1, o2⟩ := oldB_ends t
    have hd : (layB s).take 8 ≠ (oldB t).take 8 := by
      rw [lay_take8, o1]
      intro e
      exact hne (be_inj (by have := hs.1; simpa using this) (by have := ht.1; simpa using this) e)
    rcases torn_is (layB_len s) (oldB_len t) (by rw [lay_take8, lay_drop120]) (by rw [o1, o2]) hd hT hk with e | e
    · exact .inr (.inl (by rw [e]; exact hP))
    · refine .inr (.inr ?_)
      by_cases hg0 : t.gen = 0
      · exfalso
        rw [e] at hT
        unfold oldB at hT
        rw [if_pos hg0, take_zero] at hT
        cases hT
      · exact ⟨by rw [e]; exact old hg0, hg0⟩
theorem slotTorn_run {s t : Sl} (hs : s.ok) (ht : t.ok) {n : Nat} (hn : n < 256) (W : World) : CALL Try.prog 6 #[s.v, t.v, .int .u8 (n : Int)] W (fun v w' => v = .bool true ∧ Ext W w') := by
  apply call_law10_SlotTorn
  unfold B_law10_SlotTorn
  refine X_box ?_
  have hbx : (newB W s.v.cells 25).heap[W.heap.size]? = some (.cells s.cs.toArray 25 (0, 0)) := newB_get _ _ _
  have hx1 := newB_ext W s.v.cells 25
  generalize newB W s.v.cells 25 = w1 at hbx hx1 ⊢
  refine X_box ?_
  have hby : (newB w1 t.v.cells 25).heap[w1.heap.size]? = some (.cells t.cs.toArray 25 (0, 0)) := newB_get _ _ _
  have hx2 := newB_ext w1 t.v.cells 25
  generalize newB w1 t.v.cells 25 = w2 at hby hx2 ⊢
  refine shown10 ?_
  intro w3 hx3
  have hbx3 := Ext.get (hx2.trans hx3) hbx
  have hby3 := Ext.get hx3 hby
  have hx03 : Ext W w3 := hx1.trans (hx2.trans hx3)
  simp only [X_field_25_0]
  refine X_loadL agg_22 hbx3 rfl ?_
  simp only [X_conv_22_5]
  refine X_loadL agg_22 hby3 rfl ?_
  simp only [X_conv_22_5, X_eql, gstep_bool]
  have ew : ∀ x : Nat, IntKind.u8.wrap ((x : Nat) : Int) = ((x % 256 : Nat) : Int) := fun x => by rw [wrap_u8]; omega
  rw [ew, ew]
  by_cases hlow : s.gen % 256 = t.gen % 256
  · have e1 : decide (((s.gen % 256 : Nat) : Int) = ((t.gen % 256 : Nat) : Int)) = true := by simp [hlow]
    simp only [e1, Bool.true_eq_false, if_false, X_pick, condS_bool, if_true]
    exact ⟨trivial, hx03⟩
  have e1 : decide (((s.gen % 256 : Nat) : Int) = ((t.gen % 256 : Nat) : Int)) = false := by simp; omega
  simp only [e1, if_true]
  refine X_loadL agg_22 hbx3 rfl ?_
  simp only [X_eql, X_pick, condS_bool, Bool.false_eq_true, if_false, if_true]
  by_cases hg : s.gen = 0
  · have e2 : decide ((s.gen : Int) = 0) = true := by simp [hg]
    rw [if_pos e2]
    exact ⟨trivial, hx03⟩
  have e2 : decide ((s.gen : Int) = 0) = false := by simp [hg]
  rw [if_neg (by rw [e2]; decide)]
  have hne : s.gen ≠ t.gen := fun e => hlow (by rw [e])
  refine X_make Try.underlying27 el_5 128 128 rfl rfl (Nat.le_refl _) (by decide) (by decide) ?_
  have hcells : madeCells (Value.int .u8 0).cells (128 * 1) = (B8 (List.replicate 128 0)).toArray := by
    apply Array.ext'
    have : (madeCells (Value.int .u8 0).cells (128 * 1)).toList = List.replicate (128 * 1) (.int .u8 0) := made_one _ _
    rw [this]
    simp [B8]
  rw [hcells]
  have hx4 := newB_ext w3 (B8 (List.replicate 128 0)).toArray 5
  have hb4 : Bts (newB w3 (B8 (List.replicate 128 0)).toArray 5) (.slice (some ⟨w3.heap.size, 0, none⟩) (List.replicate 128 (0 : UInt8)).length (List.replicate 128 (0 : UInt8)).length) (List.replicate 128 0) := blk_bts (newB_get _ _ _) (by simp)
  have hrl : (List.replicate 128 (0 : UInt8)).length = 128 := by simp
  rw [hrl] at hb4
  generalize newB w3 (B8 (List.replicate 128 0)).toArray 5 = w4 at hx4 hb4 ⊢
  refine joinS_of (fun ρ w => ρ 2 = .int .u8 (n : Int) ∧ ρ 3 = .pointer (some ⟨W.heap.size, 0, none⟩) ∧ ρ 4 = .pointer (some ⟨w1.heap.size, 0, none⟩) ∧ ρ 7 = .bool true ∧ ∃ a c, ρ 8 = .slice a 128 c ∧ Bts w (.slice a 128 c) (oldB t) ∧ Ext w3 w) ?_ ?_
  · rintro ρ w5 ⟨h2, h3, h4, h7, a, c, h8, hbo, hx5⟩
    simp only [h2, h3, h8]
    refine X_loadAgg Try.underlying25 agg_25 info_25 (Ext.get hx5 hbx3) (by rw [sz_25]; rfl) ?_
    refine Lay_spec hs ?_
    intro v6 w6 hx6 hv6
    obtain ⟨a6, c6, e6⟩ := Bts.slice hv6
    rw [layB_len] at e6
    subst e6
    have e128 : decide (((128 : Nat) : Int) ≠ 128) = false := by decide
    simp only [X_len_27, X_neq, e128, gstep_bool, if_true, X_pick, condS_bool, Bool.false_eq_true, if_false, X_conv_5_3]
    obtain ⟨k, hk⟩ : ∃ k, k = n % 129 := ⟨_, rfl⟩
    have hk128 : k ≤ 128 := by omega
    have en : IntKind.i64.wrap ((n : Nat) : Int) = (n : Int) := w64 (by omega) (by omega)
    rw [en]
    refine X_of (run_rem 3 .i64 _ 129 (by decide) _) ?_
    have er : ((n : Nat) : Int).tmod 129 = ((k : Nat) : Int) := by
      rw [Int.tmod_eq_emod_of_nonneg (by omega)]
      omega
    rw [er]
    obtain ⟨T, hT⟩ : ∃ T, T = (layB s).take k ++ (oldB t).drop k := ⟨_, rfl⟩
    have hTl : T.length = 128 := by rw [hT]; simp [layB_len, oldB_len]; omega
    refine joinS_of (fun ρ w => ρ 3 = .pointer (some ⟨W.heap.size, 0, none⟩) ∧ ρ 4 = .pointer (some ⟨w1.heap.size, 0, none⟩) ∧ ρ 7 = .bool true ∧ ρ 10 = .int .i64 ((k : Nat) : Int) ∧ ρ 12 = .int .i64 (takeP T).2 ∧ ∃ b, ρ 11 = .pointer (some ⟨b, 0, none⟩) ∧ w.heap[b]? = some (.cells (takeP T).1.cs.toArray 25 (0, 0)) ∧ Ext w3 w) ?_ ?_
    · rintro ρ' w7 ⟨h3', h4', h7', h10, h12, b, h11, hb, hx7⟩
      simp only [h3', h4', h7', h10, h12, h11, SS, ST, if_true]
      have hx07 := hx03.trans hx7
      have d1 : decide ((0 : Int) = 100) = false := by decide
      have d2 : decide ((100 : Int) = 0) = false := by decide
      rcases torn_out hs ht hg hne hk128 with ⟨hP, hkk⟩ | hP | ⟨hP, htg⟩
      · rw [← hT] at hP
        simp only [hP, decide_true, if_true, SS, ST]
        rcases hkk with ⟨hk0, hk1⟩ | ⟨hk0, htg⟩
        · have e1 : decide (((k : Nat) : Int) > 0) = true := by simp; omega
          have e2 : decide (((k : Nat) : Int) < 128) = true := by simp; omega
          simp only [e1, e2, decide_true, if_true, SS, ST, Bool.true_eq_false, if_false]
          exact ⟨trivial, hx07⟩
        · have e1 : decide (((k : Nat) : Int) > 0) = false := by simp; omega
          have e2 : decide (((k : Nat) : Int) = 0) = true := by simp; omega
          simp only [e1, e2, decide_true, if_true, SS, ST, Bool.false_eq_true, if_false]
          refine X_loadL agg_22 (Ext.get hx7 hby3) rfl ?_
          have e3 : decide ((t.gen : Int) = 0) = true := by simp [htg]
          simp only [e3, decide_true, if_true, SS, ST, Bool.true_eq_false, if_false]
          exact ⟨trivial, hx07⟩
      · rw [← hT] at hP
        rw [hP] at hb
        simp only [hP, d1, decide_true, if_true, SS, ST, Bool.false_eq_true, if_false]
        refine X_loadAgg Try.underlying25 agg_25 info_25 hb (by rw [sz_25]; rfl) ?_
        refine X_loadAgg Try.underlying25 agg_25 info_25 (Ext.get hx7 hbx3) (by rw [sz_25]; rfl) ?_
        simp only [X_slot_eql, decide_true, if_true, SS, ST, Bool.true_eq_false, if_false]
        exact ⟨trivial, hx07⟩
      · rw [← hT] at hP
        rw [hP] at hb
        simp only [hP, d1, decide_true, if_true, SS, ST, Bool.false_eq_true, if_false]
        refine X_loadAgg Try.underlying25 agg_25 info_25 hb (by rw [sz_25]; rfl) ?_
        refine X_loadAgg Try.underlying25 agg_25 info_25 (Ext.get hx7 hbx3) (by rw [sz_25]; rfl) ?_
        have ets : decide (t = s) = false := by simp only [decide_eq_false_iff_not]; rintro rfl; exact hne rfl
        simp only [X_slot_eql, ets, if_true, SS, ST, Bool.false_eq_true, if_false]
        refine X_loadAgg Try.underlying25 agg_25 info_25 hb (by rw [sz_25]; rfl) ?_
        refine X_loadAgg Try.underlying25 agg_25 info_25 (Ext.get hx7 hby3) (by rw [sz_25]; rfl) ?_
        simp only [X_slot_eql, decide_true, if_true, SS, ST, Bool.false_eq_true, if_false]
        refine X_loadL agg_22 (Ext.get hx7 hby3) rfl ?_
        have e3 : decide ((t.gen : Int) ≠ 0) = true := by simp; omega
        simp only [e3, decide_true, if_true, SS, ST]
        exact ⟨trivial, hx07⟩
    · intro J2 hJ2
      refine ⟨Ext, Ext.frame, ?_⟩
      have hbo6 := hbo.ext hx6
      obtain ⟨u1, hu1, hub1, _⟩ := cut_hi Try.underlying27 info_5 hv6.drew (kh := .i64) k rfl (by rw [layB_len]; exact hk128)
      obtain ⟨u2, hu2, hub2, _⟩ := cut_lo Try.underlying27 info_5 sz_5 hbo6.drew (kl := .i64) k rfl (by rw [oldB_len]; exact hk128)
      refine XP_of hu1 ?_
      refine XP_of hu2 ?_
      have hx36 : Ext w3 (drewW w6) := (hx5.trans hx6).trans (Keep.drew _ w6)
      have l1 : 0 + ((layB s).take k).length ≤ 140737488355328 := by simp [layB_len]; omega
      have l2 : 0 + ((layB s).take k).length + ((oldB t).drop k).length ≤ 140737488355328 := by simp [layB_len, oldB_len]; omega
      have r0 : Ext (drewW w6) (drewW w6) := Keep.refl _ _
      have toT : ∀ {w : World} {v : Value} {m : Nat}, w.ownsRow (drewW w6).heap.size 5 1 v m (B8 ([] ++ (layB s).take k ++ (oldB t).drop k)) → Bts w v T := fun ho => by
        have := (own_bts ho).1
        rw [List.nil_append, ← hT] at this
        exact this
      refine ⟨S_build r0 fun v7 w7 hx7 hk7 ho7 => ⟨S_app hx7 ho7 hub1 l1 fun v8 w8 hx8 hk8 ho8 => ⟨S_app hx8 ho8 hub2 l2 fun v9 w9 hx9 hk9 ho9 => ⟨?_, ?_⟩, ?_⟩, ?_⟩, ?_⟩
      · refine Take_all (toT ho9) ?_
        intro w10 hx10
        simp only [SS, ST]
        refine S_alloc (hx9.trans hx10) fun b w11 hx11 hy11 hb0 hb11 => ?_
        refine S_store hx11 hb0 hb11 fun w12 hx12 hb12 => ?_
        exact hJ2 _ _ ⟨h3, h4, h7, rfl, rfl, b, rfl, hb12, hx36.trans hx12⟩
      · refine S_alloc hx9 fun b w10 hx10 hy10 hb0 hb10 => ?_
        refine Take_all ((toT ho9).ext hy10) ?_
        intro w11 hx11
        simp only [SS, ST]
        refine S_store (hx10.trans hx11) hb0 (Ext.get hx11 hb10) fun w12 hx12 hb12 => ?_
        exact hJ2 _ _ ⟨h3, h4, h7, rfl, rfl, b, rfl, hb12, hx36.trans hx12⟩
      · refine S_alloc hx8 fun b w9 hx9 hy9 hb0 hb9 => ?_
        refine S_app hx9 (own_ext ho8 hy9) hub2 l2 fun v10 w10 hx10 hk10 ho10 => ?_
        refine Take_all (toT ho10) ?_
        intro w11 hx11
        simp only [SS, ST]
        refine S_store (hx10.trans hx11) hb0 (Ext.get hx11 (hk10 _ _ hb9)) fun w12 hx12 hb12 => ?_
        exact hJ2 _ _ ⟨h3, h4, h7, rfl, rfl, b, rfl, hb12, hx36.trans hx12⟩
      · refine S_alloc hx7 fun b w8 hx8 hy8 hb0 hb8 => ?_
        refine S_app hx8 (own_ext ho7 hy8) hub1 l1 fun v9 w9 hx9 hk9 ho9 => ?_
        refine S_app hx9 ho9 hub2 l2 fun v10 w10 hx10 hk10 ho10 => ?_
        refine Take_all (toT ho10) ?_
        intro w11 hx11
        simp only [SS, ST]
        refine S_store (hx10.trans hx11) hb0 (Ext.get hx11 (hk10 _ _ (hk9 _ _ hb8))) fun w12 hx12 hb12 => ?_
        exact hJ2 _ _ ⟨h3, h4, h7, rfl, rfl, b, rfl, hb12, hx36.trans hx12⟩
      · refine S_alloc r0 fun b w7 hx7 hy7 hb0 hb7 => ?_
        refine S_build hx7 fun v8 w8 hx8 hk8 ho8 => ?_
        refine S_app hx8 ho8 hub1 l1 fun v9 w9 hx9 hk9 ho9 => ?_
        refine S_app hx9 ho9 hub2 l2 fun v10 w10 hx10 hk10 ho10 => ?_
        refine Take_all (toT ho10) ?_
        intro w11 hx11
        simp only [SS, ST]
        refine S_store (hx10.trans hx11) hb0 (Ext.get hx11 (hk10 _ _ (hk9 _ _ (hk8 _ _ hb7)))) fun w12 hx12 hb12 => ?_
        exact hJ2 _ _ ⟨h3, h4, h7, rfl, rfl, b, rfl, hb12, hx36.trans hx12⟩
  · intro J1 hJ1
    have hby4 := Ext.get hx4 hby3
    refine X_loadL agg_22 hby4 rfl ?_
    simp only [X_neq, condS_bool]
    by_cases htg : t.gen = 0
    · have e3 : decide ((t.gen : Int) ≠ 0) = false := by simp [htg]
      rw [if_neg (by rw [e3]; decide)]
      refine hJ1 _ _ ⟨rfl, rfl, rfl, rfl, _, _, rfl, ?_, hx4⟩
      unfold oldB
      rw [if_pos htg]
      exact hb4
    · have e3 : decide ((t.gen : Int) ≠ 0) = true := by simp; omega
      rw [if_pos e3]
      refine X_loadAgg Try.underlying25 agg_25 info_25 hby4 (by rw [sz_25]; rfl) ?_
      refine Lay_spec ht ?_
      intro v5 w5 hx5 hv5
      obtain ⟨a5, c5, e5⟩ := Bts.slice hv5
      rw [layB_len] at e5
      subst e5
      refine hJ1 _ _ ⟨rfl, rfl, rfl, rfl, _, _, rfl, ?_, hx4.trans hx5⟩
      unfold oldB
      rw [if_neg htg]
      exact hv5
theorem slotTorn_walk {H : Type} (enc : TypeId × Value → H) (W : World) (v0 v1 v2 : Value) {base : Nat} (ok0 : Value.okWide Try.prog W .any base 25 v0) (ok1 : Value.okWide Try.prog W .any base 25 v1) (ok2 : Value.okWide Try.prog W .any base 5 v2) (d0 : DataW H) (p0 : List MemPlace) (d1 : DataW H) (p1 : List MemPlace) (d2 : DataW H) (p2 : List MemPlace) (h0 : DataW.Trod enc Try.prog W 0 (fun _ => true) true 25 v0 d0 p0) (h1 : DataW.Trod enc Try.prog W 0 (fun _ => true) true 25 v1 d1 p1) (h2 : DataW.Trod enc Try.prog W 0 (fun _ => true) true 5 v2 d2 p2) (hsz : (DataW.weightsEach Try.prog [25, 25, 5] [d0, d1, d2]).all (· ≤ reachBytes) = true) :
    CALL Try.prog 6 #[v0, v1, v2] W (fun v w' => v = .bool true ∧ Ext W w') := by
  obtain ⟨s, rfl, hs⟩ := arg_sl ok0 h0
  obtain ⟨t, rfl, ht⟩ := arg_sl ok1 h1
  obtain ⟨n, rfl, hn⟩ := arg_u8 Try.underlying5 ok2 h2
  exact slotTorn_run hs ht hn W
end
set_option maxRecDepth 100000 in
theorem slotTorn_lifted (os : Os) (started : os.Started) (H : Type) (enc : TypeId × Value → H) :
    ReturnsInHanded {} Try.checked os 6 .any (Rows.slotTornSpec.pre6 enc Try.prog Try.f6 Rows.slotTornRow.domain false) (Rows.slotTornSpec.post enc Try.prog Try.f6 false true false false) := by
  refine returnsInHanded_of_change_sized (C := Try.checked) (by kernel_rfl) started (by kernel_rfl) Try.func6
    (ChangeSpec.witness6 (enc := enc) (C := Try.checked) false ⟨#[], #[(.agg #[(.int .u64 0), (.int .u8 0), (.int .u32 0), (.int .u32 0)]), (.agg #[(.int .u64 0), (.int .u8 0), (.int .u32 0), (.int .u32 0)]), (.int .u8 0)], []⟩ 8 (by kernel_rfl) (by kernel_rfl) (by kernel_rfl) (by kernel_rfl)) ?_
  intro W base args ds gs before hval0 hW hcnd hsz0 _
  have hval : ∀ (j : Nat) t v, Try.f6.params[j]? = some t → args[j]? = some v → Value.okWide Try.prog W .any base t v := hval0
  have hW' := hW
  obtain ⟨p, q, hA0, hV, rfl, hfz, hnd⟩ := hW
  have hA : DataW.TrodAll enc Try.prog W 0 (fun _ => true) true Try.f6.params.toList args.toList ds p := hA0
  rw [Try.params6] at hA hval
  obtain ⟨v0, vs0, d0, ds0, p0, q0, hargs, rfl, rfl, h0, r0⟩ := trodAll_cons hA
  obtain ⟨v1, vs1, d1, ds1, p1, q1, rfl, rfl, rfl, h1, r1⟩ := trodAll_cons r0
  obtain ⟨v2, vs2, d2, ds2, p2, q2, rfl, rfl, rfl, h2, r2⟩ := trodAll_cons r1
  obtain ⟨rfl, rfl, rfl⟩ := trodAll_nil r2
  obtain rfl : args = #[v0, v1, v2] := by cases args; simp_all
  obtain ⟨rfl, rfl⟩ := trodVars_none hV
  have hsz : (DataW.weightsEach Try.prog [25, 25, 5] [d0, d1, d2]).all (· ≤ reachBytes) = true := hsz0
  have hw := slotTorn_walk enc W v0 v1 v2 (hval 0 25 v0 rfl rfl) (hval 1 25 v1 rfl rfl) (hval 2 5 v2 rfl rfl) d0 p0 d1 p1 d2 p2 h0 h1 h2 hsz
  refine (CALL_calls hw).mono fun e W' he => ?_
  cases e with
  | returned v =>
    obtain ⟨rfl, hx⟩ := he
    exact ⟨_, rfl, law_post (P := Try.prog) laidOut (by kernel_rfl) rfl rfl rfl Try.underlying4 hW' hx⟩
  | panicked c => exact he.elim
  | outgrown => exact he.elim

theorem slotTorn_closed : joinedFacts Try.prog 6 Try.f6 Rows.slotTornSpec Rows.slotTornRow = true := by
  unfold joinedFacts
  rw [mayEnter_is, liftsFinal_is, make_is]
  kernel_rfl
/-- For every input that the row lets in, cellarage/cellaragelaw10.SlotTorn returns true, and what was there stays as it was. -/
theorem slotTorn_holds : Rows.SlotTornSaid :=
  OpenClaim.holds_of_wide 6 Try.f6 rfl rfl rfl rfl rfl rfl rfl ⟨rfl, rfl, rfl, rfl, rfl⟩ rfl rfl rfl rfl rfl (by kernel_rfl) Try.func6 slotTorn_closed
    (of_decide_eq_true (by kernel_rfl)) (by unfold Func.isWrapper; first | (rw [if_pos (by decide +kernel)]; kernel_rfl) | (rw [if_neg (by decide +kernel)]; exact ⟨rfl, rfl⟩))
    (fun os started H enc _ => slotTorn_lifted os started H enc)
#print axioms slotTorn_holds
end Go.Proofs.Ytggggfcgnkllgaa
