/- cellaragelaw08: few, does, model, alike, shown. -/
import Derived.Test.YtggggfcgnkllgaaActs
set_option linter.unusedVariables false
set_option linter.unusedSimpArgs false
namespace Go.Proofs.Ytggggfcgnkllgaa
open Go Go.Sh Go.RowKit
attribute [local irreducible] X XU XP XR CALL loopS resC closS
/-- An act on the plain disk. -/
def _root_.Go.Sh.Dk.act (d : Dk) (a : DAct) : Dk × Int :=
  if a.kind % 5 = 0 then d.write a.pos a.bs
  else if a.kind % 5 = 1 then d.flush
  else if a.kind % 5 = 2 then (d.cut a.num, 0)
  else if a.kind % 5 = 3 then (d.crash a.fates, 0)
  else (d, 0)
theorem _root_.Go.Sh.Dk.act_ok {d : Dk} (h : d.ok) {a : DAct} {W : World} (ha : a.In W) : (d.act a).1.ok := by
  unfold Dk.act
  split
  · exact Dk.write_ok h _ _
  · split
    · exact Dk.flush_ok h
    · split
      · exact Dk.cut_ok h ha.num
      · split
        · exact Dk.crash_ok h _
        · exact h
theorem _root_.Go.Sh.Dk.act_size (d : Dk) (a : DAct) : (d.act a).1.safe.length = d.safe.length := by
  unfold Dk.act
  split
  · exact Dk.write_size _ _ _
  · split
    · exact Dk.flush_size _
    · split
      · exact Dk.cut_size _ _
      · split
        · exact Dk.crash_size _ _
        · rfl
theorem _root_.Go.Sh.Dk.act_ws (d : Dk) (a : DAct) : (d.act a).1.ws.length ≤ d.ws.length + 1 := by
  unfold Dk.act
  split
  · exact Dk.write_ws _ _ _
  · split
    · have := Dk.flush_ws d; omega
    · split
      · unfold Dk.cut; split <;> simp
      · split
        · simp [Dk.crash]
        · simp
theorem kind5 (T : TypeId) (k : Nat) (w : World) : (binOp .rem T (.int .u8 (k : Int)) (.int .u8 5)).run Try.prog w = .ok (.int .u8 ((k % 5 : Nat) : Int)) w := by
  rw [run_rem _ _ _ _ (by decide)]
  rfl
/-- The acts' slices lie apart from the object b. -/
def Off (w : World) (b : Nat) (a : DAct) : Prop := (0 < a.bs.length → ∀ k, a.bv.ownBlock = some k → ¬ foot w b k) ∧ (0 < a.fates.length → ∀ k, a.fv.ownBlock = some k → ¬ foot w b k)
theorem off_of {W w : World} {b : Nat} {a : DAct} (ha : a.In W) (hl : ∀ k, foot w b k → W.heap.size ≤ k) : Off w b a :=
  ⟨fun h0 k hk hf => by have := ha.bts.blk_lt h0 k hk; have := hl k hf; omega, fun h0 k hk hf => by have := ha.fate.blk_lt h0 k hk; have := hl k hf; omega⟩
section
variable {w : World} {b : Nat} {d : Dk} {K : Value → World → Prop}
theorem does_spec {a : DAct} (h : DiskAt w b d) (hw : d.ws.length ≤ 1000000) (ha : a.In w) (hoff : Off w b a) (hlen : a.bs.length ≤ 140737488351232)
    (hK : ∀ w1, DiskAt w1 b (d.act a).1 → Step b w w1 → K (i64v (d.act a).2) w1) : CALL Try.prog 75 #[ptr b, .agg a.cs.toArray] w K := by
  apply call_law08_does
  unfold B_law08_does
  refine X_box ?_
  have hq := newB_get w a.cs.toArray 86
  have hx := newB_ext w a.cs.toArray 86
  show joinS _ _
  have hc : (Value.agg a.cs.toArray).cells = a.cs.toArray := rfl
  rw [hc]
  have hqn : ¬ foot (newB w a.cs.toArray 86) b w.heap.size := fun hf => by
    have := h.lt _ ((foot_same (hx.block b (h.lt b (foot_self w b)) (fun h => h))).1 hf)
    omega
  generalize newB w a.cs.toArray 86 = w1 at hq hx hqn ⊢
  have h1 := h.ext hx
  have ha1 := ha.ext hx
  have s1 : Step b w w1 := Step.ext hx (h.lt b (foot_self w b))
  have hoff1 : Off w1 b a := ⟨fun h0 k hk hf => hoff.1 h0 k hk ((foot_same (hx.block b (h.lt b (foot_self w b)) (fun h => h))).1 hf), fun h0 k hk hf => hoff.2 h0 k hk ((foot_same (hx.block b (h.lt b (foot_self w b)) (fun h => h))).1 hf)⟩
  refine joinS_of (fun _ w' => (d.act a).2 = 0 ∧ DiskAt w' b (d.act a).1 ∧ Step b w w') ?_ ?_
  · rintro ρ w' ⟨e, h', s'⟩
    have := hK w' h' s'
    rw [e] at this
    exact this
  intro J hJ
  simp only [X_field_86_0]
  refine X_loadL agg_5 hq rfl ?_
  refine X_of (kind5 5 a.kind _) ?_
  simp only [X_eql, condS_bool]
  by_cases k0 : a.kind % 5 = 0
  · have e : d.act a = d.write a.pos a.bs := by unfold Dk.act; rw [if_pos k0]
    rw [if_pos (by simp [k0])]
    have hfl : ∀ k, foot w1 b k → k < w1.heap.size := h1.lt
    refine ⟨Keep (fun k => foot w1 b k ∨ w1.heap.size ≤ k), Keep.frame _, ?_⟩
    have hxd := Keep.drew (fun _ => False) w1
    have hqd : (drewW w1).heap[w.heap.size]? = some (.cells a.cs.toArray 86 (0, 0)) := hq
    have hqn' : ¬ (foot w1 b w.heap.size ∨ w1.heap.size ≤ w.heap.size) := fun h => h.elim hqn (fun h => by have := lt_of_blk hq; omega)
    simp only [XP_field_86_1, XP_field_86_3]
    refine XR_ok (Keep.frame _) (fun w' k => run_loadAt agg_3 (blk_get (k.get hqn' hqd) (v := .int .i64 a.pos) rfl)) ?_
    refine XR_ok (Keep.frame _) (fun w' k => run_loadAt agg_27 (blk_get (k.get hqn' hqd) (v := a.bv) rfl)) ?_
    refine X_of (run_empty27 _) ?_
    have hx2 := newB_ext (drewW w1) #[] 5
    have ho2 := own_emptyT (drewW w1) 5 1
    refine ⟨hx2.ext, ?_⟩
    refine X_append_bts (base := (drewW w1).heap.size) Try.underlying27 el_5 (xs := []) ho2 ((ha1.bts.ext hxd).ext hx2) (by omega) hx2.size ?_
    intro v3 w3 ho3 hk3
    rw [Nat.zero_add, List.nil_append] at ho3
    have hx3 : Ext (drewW w1) w3 := Ext.seq hx2 hk3 (fun i hi => by injection hi with hi; exact Nat.le_of_eq hi.symm)
    refine ⟨hk3.mono (fun i hi hi' => .inr (by injection hi' with hi'; exact Nat.le_of_eq hi'.symm)), ?_⟩
    have hx13 := hxd.trans hx3
    refine Write_spec (h1.ext hx13) hw (own_bts ho3).1 (fun h0 k hk hf => ?_) ?_
    · have := (ho3.lt k hk).1
      have := hfl k ((foot_same (hx13.block b (h1.lt b (foot_self w1 b)) (fun h => h))).1 hf)
      have e0 : (drewW w1).heap.size = w1.heap.size := rfl
      omega
    intro w4 h4 s4
    refine ⟨s4.keep.mono (fun i hi hf => .inl ((foot_same (hx13.block b (h1.lt b (foot_self w1 b)) (fun h => h))).1 hf)), ?_⟩
    have := hK w4 (by rw [e]; exact h4) (s1.trans ((Step.ext hx13 (h1.lt b (foot_self w1 b))).trans s4))
    rw [e] at this
    exact this
  rw [if_neg (by simp; omega)]
  by_cases k1 : a.kind % 5 = 1
  · have e : d.act a = d.flush := by unfold Dk.act; rw [if_neg k0, if_pos k1]
    rw [if_pos (by simp [k1])]
    refine Flush_spec h1 ?_
    intro w4 h4 s4
    have := hK w4 (by rw [e]; exact h4) (s1.trans s4)
    rw [e] at this
    exact this
  rw [if_neg (by simp; omega)]
  by_cases k2 : a.kind % 5 = 2
  · have e : d.act a = (d.cut a.num, 0) := by unfold Dk.act; rw [if_neg k0, if_neg k1, if_pos k2]
    rw [if_pos (by simp [k2])]
    simp only [X_field_86_2]
    refine X_loadL agg_3 hq (v := .int .i64 a.num) rfl ?_
    refine Cut_spec ha.num h1 ?_
    intro w4 h4 s4
    exact hJ _ _ ⟨by rw [e], by rw [e]; exact h4, s1.trans s4⟩
  rw [if_neg (by simp; omega)]
  by_cases k3 : a.kind % 5 = 3
  · have e : d.act a = (d.crash a.fates, 0) := by unfold Dk.act; rw [if_neg k0, if_neg k1, if_neg k2, if_pos k3]
    rw [if_pos (by simp [k3])]
    simp only [X_field_86_4]
    refine X_loadL agg_79 hq (v := a.fv) rfl ?_
    refine Crash_spec h1 ha1.fate hoff1.2 ?_
    intro w4 h4 s4
    exact hJ _ _ ⟨by rw [e], by rw [e]; exact h4, s1.trans s4⟩
  rw [if_neg (by simp; omega)]
  have e : d.act a = (d, 0) := by unfold Dk.act; rw [if_neg k0, if_neg k1, if_neg k2, if_neg k3]
  exact hJ _ _ ⟨by rw [e], by rw [e]; exact h1, s1⟩
theorem model_spec {a : DAct} (h : RefAt w b d) (hw : d.ws.length ≤ 1000000) (ha : a.In w) (hoff : Off w b a)
    (hK : ∀ w1, RefAt w1 b (d.act a).1 → Step b w w1 → K (i64v (d.act a).2) w1) : CALL Try.prog 82 #[ptr b, .agg a.cs.toArray] w K := by
  apply call_law08_model
  unfold B_law08_model
  refine X_box ?_
  have hq := newB_get w a.cs.toArray 86
  have hx := newB_ext w a.cs.toArray 86
  show joinS _ _
  have hc : (Value.agg a.cs.toArray).cells = a.cs.toArray := rfl
  rw [hc]
  generalize newB w a.cs.toArray 86 = w1 at hq hx ⊢
  have h1 := h.ext hx
  have ha1 := ha.ext hx
  have s1 : Step b w w1 := Step.ext hx (h.lt b (foot_self w b))
  have hoff1 : Off w1 b a := ⟨fun h0 k hk hf => hoff.1 h0 k hk ((foot_same (hx.block b (h.lt b (foot_self w b)) (fun h => h))).1 hf), fun h0 k hk hf => hoff.2 h0 k hk ((foot_same (hx.block b (h.lt b (foot_self w b)) (fun h => h))).1 hf)⟩
  refine joinS_of (fun _ w' => (d.act a).2 = 0 ∧ RefAt w' b (d.act a).1 ∧ Step b w w') ?_ ?_
  · rintro ρ w' ⟨e, h', s'⟩
    have := hK w' h' s'
    rw [e] at this
    exact this
  intro J hJ
  simp only [X_field_86_0]
  refine X_loadL agg_5 hq rfl ?_
  refine X_of (kind5 5 a.kind _) ?_
  simp only [X_eql, condS_bool]
  by_cases k0 : a.kind % 5 = 0
  · have e : d.act a = d.write a.pos a.bs := by unfold Dk.act; rw [if_pos k0]
    rw [if_pos (by simp [k0])]
    simp only [X_field_86_1, X_field_86_3]
    refine X_loadL agg_3 hq (v := .int .i64 a.pos) rfl ?_
    refine X_loadL agg_27 hq (v := a.bv) rfl ?_
    refine X_str Try.underlying27 Try.underlying5 Try.underlying9 ha1.bts ?_
    refine RWrite_spec h1 hw ?_
    intro w4 h4 s4
    have := hK w4 (by rw [e]; exact h4) (s1.trans s4)
    rw [e] at this
    exact this
  rw [if_neg (by simp; omega)]
  by_cases k1 : a.kind % 5 = 1
  · have e : d.act a = d.flush := by unfold Dk.act; rw [if_neg k0, if_pos k1]
    rw [if_pos (by simp [k1])]
    refine RFlush_spec h1 hw ?_
    intro w4 h4 s4
    have := hK w4 (by rw [e]; exact h4) (s1.trans s4)
    rw [e] at this
    exact this
  rw [if_neg (by simp; omega)]
  by_cases k2 : a.kind % 5 = 2
  · have e : d.act a = (d.cut a.num, 0) := by unfold Dk.act; rw [if_neg k0, if_neg k1, if_pos k2]
    rw [if_pos (by simp [k2])]
    simp only [X_field_86_2]
    refine X_loadL agg_3 hq (v := .int .i64 a.num) rfl ?_
    refine RCut_spec ha.num h1 ?_
    intro w4 h4 s4
    exact hJ _ _ ⟨by rw [e], by rw [e]; exact h4, s1.trans s4⟩
  rw [if_neg (by simp; omega)]
  by_cases k3 : a.kind % 5 = 3
  · have e : d.act a = (d.crash a.fates, 0) := by unfold Dk.act; rw [if_neg k0, if_neg k1, if_neg k2, if_pos k3]
    rw [if_pos (by simp [k3])]
    simp only [X_field_86_4]
    refine X_loadL agg_79 hq (v := a.fv) rfl ?_
    refine RCrash_spec h1 hw ha1.fate hoff1.2 ?_
    intro w4 h4 s4
    exact hJ _ _ ⟨by rw [e], by rw [e]; exact h4, s1.trans s4⟩
  rw [if_neg (by simp; omega)]
  have e : d.act a = (d, 0) := by unfold Dk.act; rw [if_neg k0, if_neg k1, if_neg k2, if_neg k3]
  exact hJ _ _ ⟨by rw [e], by rw [e]; exact h1, s1⟩
theorem does_nil {a : DAct} (ha : a.In w) (hlen : a.bs.length ≤ 140737488351232) (hK : ∀ w1, Ext w w1 → K (i64v (if a.kind % 5 < 2 then 2 else 0)) w1) : CALL Try.prog 75 #[.pointer none, .agg a.cs.toArray] w K := by
  apply call_law08_does
  unfold B_law08_does
  refine X_box ?_
  have hq := newB_get w a.cs.toArray 86
  have hx := newB_ext w a.cs.toArray 86
  show joinS _ _
  have hc : (Value.agg a.cs.toArray).cells = a.cs.toArray := rfl
  rw [hc]
  generalize newB w a.cs.toArray 86 = w1 at hq hx ⊢
  have ha1 := ha.ext hx
  refine joinS_of (fun _ w' => ¬ a.kind % 5 < 2 ∧ Ext w w') ?_ ?_
  · rintro ρ w' ⟨e, h'⟩
    have := hK w' h'
    rw [if_neg e] at this
    exact this
  intro J hJ
  simp only [X_field_86_0]
  refine X_loadL agg_5 hq rfl ?_
  refine X_of (kind5 5 a.kind _) ?_
  simp only [X_eql, condS_bool]
  by_cases k0 : a.kind % 5 = 0
  · rw [if_pos (by simp [k0])]
    refine ⟨Keep (fun k => w1.heap.size ≤ k), Keep.frame _, ?_⟩
    have hxd := Keep.drew (fun _ => False) w1
    have hqd : (drewW w1).heap[w.heap.size]? = some (.cells a.cs.toArray 86 (0, 0)) := hq
    have hqn' : ¬ (w1.heap.size ≤ w.heap.size) := fun h => by have := lt_of_blk hq; omega
    simp only [XP_field_86_1, XP_field_86_3]
    refine XR_ok (Keep.frame _) (fun w' k => run_loadAt agg_3 (blk_get (k.get hqn' hqd) (v := .int .i64 a.pos) rfl)) ?_
    refine XR_ok (Keep.frame _) (fun w' k => run_loadAt agg_27 (blk_get (k.get hqn' hqd) (v := a.bv) rfl)) ?_
    refine X_of (run_empty27 _) ?_
    have hx2 := newB_ext (drewW w1) #[] 5
    have ho2 := own_emptyT (drewW w1) 5 1
    refine ⟨hx2.ext, ?_⟩
    refine X_append_bts (base := (drewW w1).heap.size) Try.underlying27 el_5 (xs := []) ho2 ((ha1.bts.ext hxd).ext hx2) (by omega) hx2.size ?_
    intro v3 w3 ho3 hk3
    have hx3 : Ext (drewW w1) w3 := Ext.seq hx2 hk3 (fun i hi => by injection hi with hi; exact Nat.le_of_eq hi.symm)
    refine ⟨hk3.mono (fun i hi hi' => by injection hi' with hi'; exact Nat.le_of_eq hi'.symm), ?_⟩
    refine Write_nil ?_
    refine ⟨Keep.refl _ _, ?_⟩
    have := hK w3 (hx.trans (hxd.trans hx3))
    rw [if_pos (by omega)] at this
    exact this
  rw [if_neg (by simp; omega)]
  by_cases k1 : a.kind % 5 = 1
  · rw [if_pos (by simp [k1])]
    refine Flush_nil ?_
    have := hK w1 hx
    rw [if_pos (by omega)] at this
    exact this
  rw [if_neg (by simp; omega)]
  by_cases k2 : a.kind % 5 = 2
  · rw [if_pos (by simp [k2])]
    simp only [X_field_86_2]
    refine X_loadL agg_3 hq (v := .int .i64 a.num) rfl ?_
    refine Cut_nil ?_
    exact hJ _ _ ⟨by omega, hx⟩
  rw [if_neg (by simp; omega)]
  by_cases k3 : a.kind % 5 = 3
  · rw [if_pos (by simp [k3])]
    simp only [X_field_86_4]
    refine X_loadL agg_79 hq (v := a.fv) rfl ?_
    refine Crash_nil ?_
    exact hJ _ _ ⟨by omega, hx⟩
  rw [if_neg (by simp; omega)]
  exact hJ _ _ ⟨by omega, hx⟩
/-- The first acts. -/
theorem few_spec {l : List DAct} {v : Value} (hl : RowK 5 DAct.cs w v l) (hin : ∀ a ∈ l, a.In w) 
    (hK : ∀ m v1, m ≤ 100 → m ≤ l.length → (∀ W, RowK 5 DAct.cs W v l → RowK 5 DAct.cs W v1 (l.take m)) → (∀ a ∈ l.take m, a.bs.length ≤ 20000) → K v1 w) : CALL Try.prog 74 #[v] w K := by
  obtain ⟨a0, c0, e0⟩ := hl.slice
  have hn : l.length ≤ 9223372036854775807 := by
    obtain ⟨_, c, _, h1, h2, _⟩ := hl
    omega
  apply call_law08_few
  unfold B_law08_few
  rw [e0, X_len_83, ← e0]
  refine loopE (fun ρ wr => wr = w ∧ ∃ i left : Nat, i ≤ l.length ∧ i ≤ 100 ∧ left ≤ 20000 ∧ (∀ a ∈ l.take i, a.bs.length ≤ 20000) ∧ ρ 7 = .int .i64 (i : Nat) ∧ ρ 6 = .int .i64 (l.length : Nat) ∧ ρ 0 = v ∧ ρ 3 = .int .i64 (left : Nat))
    (fun ρ wr => match ρ 7 with | .int _ s => (l.length - s).toNat | _ => 0)
    (fun ρ wr => wr = w ∧ l.length ≤ 100 ∧ (∀ a ∈ l, a.bs.length ≤ 20000) ∧ ρ 0 = v) ?_ ?_ ?_
  · exact ⟨rfl, 0, 20000, by omega, by omega, by omega, by simp, rfl, rfl, rfl, rfl⟩
  · rintro J hJ ρ wr ⟨rfl, i, left, hi, hi100, hleft, hall, h7, h6, h0, h3⟩
    rw [h7, h6, X_lss, condS_bool]
    by_cases hin' : i = l.length
    · rw [if_neg (by simp; omega)]
      refine hJ _ _ ⟨rfl, by omega, ?_, h0⟩
      rw [hin', List.take_length] at hall
      exact hall
    rw [if_pos (by simp; omega)]
    have hlt : i < l.length := by omega
    have stop : Go.Sh.X Try.prog (Instr.sliceAt 83 v none (some (.int .i64 (i : Int))) none) wr fun v13 w22 => K v13 w22 := by
      obtain ⟨u, hu, hru⟩ := hl.cut Try.underlying83 info_86 (kh := .i64) (hj := (i : Int)) i rfl hi
      refine X_of (hu _) (hK i u hi100 hi (fun W hW => ?_) hall)
      obtain ⟨u', hu', hru'⟩ := hW.cut Try.underlying83 info_86 (kh := .i64) (hj := (i : Int)) i rfl hi
      have := (hu wr).symm.trans (hu' wr)
      injection this with this
      rw [this]
      exact hru'
    obtain ⟨ad, hix, hcs⟩ := hl.at Try.underlying83 info_86 sz_86 (kd := .i64) i rfl hlt
    have hini := hin _ (List.getElem_mem hlt)
    obtain ⟨ab, cb, eb⟩ := Bts.slice hini.bts
    have hfield : (Instr.fieldAt 86 (.pointer (some ad)) 3).run Try.prog wr = .ok (.pointer (some (ad.add 3))) wr := by kernel_rfl
    have hld : (Instr.loadAt 27 (.pointer (some (ad.add 3)))).run Try.prog wr = .ok l[i].bv wr := run_loadAt agg_27 (hcs 3 _ rfl)
    rw [h0, h3]
    rw [X_geq]
    by_cases h100 : i = 100
    · have e1 : decide ((i : Int) ≥ 100) = true := by simp; omega
      simp only [e1, GS]
      exact stop
    have e1 : decide ((i : Int) ≥ 100) = false := by simp; omega
    simp only [e1, GS]
    refine X_of (hix _) ?_
    refine X_of hfield ?_
    refine X_of hld ?_
    rw [eb]
    simp only [X_len_27, X_gtr, GS]
    rw [condS_bool]
    by_cases hbig : left < l[i].bs.length
    · rw [if_pos (by simp; omega)]
      exact stop
    rw [if_neg (by simp; omega)]
    refine X_of (hix _) ?_
    refine X_of hfield ?_
    refine X_of hld ?_
    rw [eb]
    simp only [X_len_27, X_sub, X_add]
    show _ ∧ _
    refine ⟨⟨rfl, i + 1, left - l[i].bs.length, by omega, by omega, by omega, ?_, next64 (n := 100) (by decide) (by omega), h6, h0, ?_⟩, ?_⟩
    · intro a ha
      rw [List.take_succ_eq_append_getElem hlt] at ha
      rcases List.mem_append.1 ha with ha | ha
      · exact hall a ha
      · rw [List.mem_singleton.1 ha]; omega
    · show Value.int .i64 (IntKind.i64.wrap ((left : Int) - (l[i].bs.length : Int))) = _
      have e : (left : Int) - (l[i].bs.length : Int) = ((left - l[i].bs.length : Nat) : Int) := by omega
      rw [w64 (by omega) (by omega), e]
    · show (_ - IntKind.i64.wrap _).toNat < _
      rw [w64 (by omega) (by omega)]
      first | omega | (show _ < (_ : Int).toNat; omega)
  · rintro ρ wr ⟨rfl, h100, hall, h0⟩
    rw [h0]
    exact hK l.length v h100 (Nat.le_refl _) (fun W hW => by rw [List.take_length]; exact hW) (by rw [List.take_length]; exact hall)
end
end Go.Proofs.Ytggggfcgnkllgaa
