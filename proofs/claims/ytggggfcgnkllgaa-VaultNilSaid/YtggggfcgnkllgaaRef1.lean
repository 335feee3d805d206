/- cellaragelaw08's reference disk in memory, and what its small functions compute. -/
import Derived.Test.YtggggfcgnkllgaaDisk5
import Derived.Test.YtggggfcgnkllgaaT8
set_option linter.unusedSimpArgs false
set_option linter.unusedVariables false
namespace Go.Proofs.Ytggggfcgnkllgaa
open Go Go.Sh Go.RowKit
attribute [local irreducible] X XU XP XR CALL loopS resC closS

section
variable {P : Program}
theorem run_index_str {T : TypeId} (hT : P.underlying T = some .string) (l : List UInt8) (k : IntKind) {ii : Int} (i : Nat) (e1 : ii = i) (h : i < l.length) (w : World) : (Instr.index T (.string (str l)) (.int k ii)).run P w = .ok (.int .u8 ((l[i].toNat : Nat) : Int)) w := by
  subst e1
  have h2 : (str l)[i]? = some l[i] := by
    have hs : i < (str l).size := by rw [str_size]; exact h
    have e := getElem?_pos (str l) i hs
    rw [e]
    congr 1
  simp [Instr.index, asIntOf, run_underlying hT, h2]
theorem extract_str (l : List UInt8) (a b : Nat) : (str l).extract a b = str ((l.take b).drop a) := by
  apply ByteArray.ext
  simp only [str, ByteArray.data_extract]
  rw [List.extract_toArray]
  simp [List.extract_eq_take_drop, List.drop_take]
theorem run_cutstr_hi {T : TypeId} (hT : P.underlying T = some .string) (l : List UInt8) (k : IntKind) (n : Nat) (h : n ≤ l.length) (w : World) : (Instr.sliceAt T (.string (str l)) none (some (.int k (n : Int))) none).run P w = .ok (.string (str (l.take n))) w := by
  have h' : n ≤ (str l).size := by rw [str_size]; exact h
  simp [Instr.sliceAt, Instr.slice, run_underlying hT, Instr.sliceBounds, Instr.sliceBound, asIntOf, h', extract_str]
theorem run_cutstr_lo {T : TypeId} (hT : P.underlying T = some .string) (l : List UInt8) (k : IntKind) (n : Nat) (h : n ≤ l.length) (w : World) : (Instr.sliceAt T (.string (str l)) (some (.int k (n : Int))) none none).run P w = .ok (.string (str (l.drop n))) w := by
  have h' : n ≤ (str l).size := by rw [str_size]; exact h
  simp [Instr.sliceAt, Instr.slice, run_underlying hT, Instr.sliceBounds, Instr.sliceBound, asIntOf, h, h', extract_str, str_size, List.take_length]
theorem str_append (a b : List UInt8) : str a ++ str b = str (a ++ b) := by
  apply ByteArray.ext
  simp [str]
end
def strs (l : List (List UInt8)) : List Value := l.map fun s => .string (str s)
def pcs (p : Nat × List UInt8) : List Value := [.int .i64 (p.1 : Int), .string (str p.2)]
def putL (ws : List (Nat × List UInt8)) : List Value := (ws.map pcs).flatten
theorem pcs_all (ws : List (Nat × List UInt8)) : ∀ s ∈ ws.map pcs, s.length = 2 := by
  intro s hs
  obtain ⟨p, hp, rfl⟩ := List.mem_map.1 hs
  rfl
theorem putL_append (a b : List (Nat × List UInt8)) : putL (a ++ b) = putL a ++ putL b := by simp [putL]
theorem pcs_one (p : Nat × List UInt8) : ∀ v ∈ pcs p, v.oneCell' = true := by
  intro v hv
  simp only [pcs, List.mem_cons, List.not_mem_nil, or_false] at hv
  rcases hv with rfl | rfl <;> rfl
theorem strs_one (l : List (List UInt8)) : ∀ v ∈ strs l, v.oneCell' = true := by
  intro v hv
  obtain ⟨s, _, rfl⟩ := List.mem_map.1 hv
  rfl
structure RAt (w : World) (b : Nat) (d : Dk) (sv pv : Value) : Prop where
  blk : w.heap[b]? = some (.cells #[sv, pv, .bool d.dead, .int .i64 d.fuse, .int .i64 d.done] 148 (0, 0))
  safe : w.ownsRow 0 9 1 sv d.safe.length (strs d.safe)
  ws : w.ownsRow 0 200 2 pv d.ws.length (putL d.ws)
def RefAt (w : World) (b : Nat) (d : Dk) : Prop := d.ok ∧ ∃ sv pv, RAt w b d sv pv
theorem RAt.foot {w : World} {b : Nat} {d : Dk} {sv pv : Value} (h : RAt w b d sv pv) {k : Nat} : Go.Sh.foot w b k ↔ k = b ∨ sv.ownBlock = some k ∨ pv.ownBlock = some k := by
  rw [foot_cells h.blk]
  simp [Value.ownBlock]
theorem RAt.lt {w : World} {b : Nat} {d : Dk} {sv pv : Value} (h : RAt w b d sv pv) {k : Nat} (hk : Go.Sh.foot w b k) : k < w.heap.size := by
  rcases h.foot.1 hk with rfl | h1 | h1
  · exact lt_of_blk h.blk
  · exact (h.safe.lt k h1).2
  · exact (h.ws.lt k h1).2
theorem RAt.keep {w w' : World} {b : Nat} {d : Dk} {sv pv : Value} {D : Nat → Prop} (h : RAt w b d sv pv) (k : Keep D w w') (hd : ∀ k, Go.Sh.foot w b k → ¬ D k) : RAt w' b d sv pv :=
  ⟨k.get (hd b (foot_self w b)) h.blk, own_keepD h.safe k (fun g hg => hd g (h.foot.2 (.inr (.inl hg)))), own_keepD h.ws k (fun g hg => hd g (h.foot.2 (.inr (.inr hg))))⟩
theorem RAt.ext {w w' : World} {b : Nat} {d : Dk} {sv pv : Value} (h : RAt w b d sv pv) (k : Ext w w') : RAt w' b d sv pv := h.keep k (fun _ _ h => h)
theorem RAt.b_ne {w : World} {b : Nat} {d : Dk} {sv pv : Value} (h : RAt w b d sv pv) : sv.ownBlock ≠ some b ∧ pv.ownBlock ≠ some b :=
  ⟨own_neT h.safe h.blk (by decide), own_neT h.ws h.blk (by decide)⟩
theorem RefAt.lt {w : World} {b : Nat} {d : Dk} (h : RefAt w b d) : ∀ k, Go.Sh.foot w b k → k < w.heap.size := fun k hk => by
  obtain ⟨_, sv, pv, h⟩ := h
  exact h.lt hk
theorem RefAt.keep {w w' : World} {b : Nat} {d : Dk} {D : Nat → Prop} (h : RefAt w b d) (k : Keep D w w') (hd : ∀ k, Go.Sh.foot w b k → ¬ D k) : RefAt w' b d := by
  obtain ⟨ho, sv, pv, h⟩ := h
  exact ⟨ho, sv, pv, h.keep k hd⟩
theorem RefAt.ext {w w' : World} {b : Nat} {d : Dk} (h : RefAt w b d) (k : Ext w w') : RefAt w' b d := h.keep k (fun _ _ h => h)
theorem RAt.put {w : World} {b : Nat} {d : Dk} {sv pv : Value} (h : RAt w b d sv pv) {cs' : Array Value} (d' : Dk) (e2 : d'.safe = d.safe) (e3 : d'.ws = d.ws)
    (e : cs' = #[sv, pv, .bool d'.dead, .int .i64 d'.fuse, .int .i64 d'.done]) : RAt (setAt w b cs' 148 (0, 0)) b d' sv pv ∧ Step b w (setAt w b cs' 148 (0, 0)) := by
  have k := setAt_keep w b cs' 148 (0, 0)
  have hb := setAt_same (cs := cs') (T := 148) (fr := (0, 0)) (lt_of_blk h.blk)
  obtain ⟨n1, n2⟩ := h.b_ne
  have hr : RAt (setAt w b cs' 148 (0, 0)) b d' sv pv := by
    refine ⟨by rw [hb, e], ?_, ?_⟩
    · rw [e2]; exact own_keepD h.safe k (fun g hg hgb => n1 (by rw [hg, hgb]))
    · rw [e3]; exact own_keepD h.ws k (fun g hg hgb => n2 (by rw [hg, hgb]))
  refine ⟨hr, k.mono (fun i _ hi => by subst hi; exact foot_self w i), fun k' hk' => .inl ?_⟩
  exact h.foot.2 (hr.foot.1 hk')
/-- A safe sector: where it lies, and what writing it does. -/
theorem RAt.safe_at {w : World} {b : Nat} {d : Dk} {sv pv : Value} (h : RAt w b d sv pv) {i : Nat} (hi : i < d.safe.length) :
    ∃ g cap cur, sv = .slice (some ⟨g, 0, none⟩) d.safe.length cap ∧ w.heap[g]? = some (.cells cur 9 (0, 0)) ∧ i < cur.size ∧ cur[i]? = some (.string (str d.safe[i])) ∧ (∀ w', (Instr.indexAt 66 sv (.int .i64 (i : Int))).run Try.prog w' = .ok (.pointer (some ⟨g, i, none⟩)) w') ∧
      ∀ x : List UInt8, RAt (setAt w g (cur.setIfInBounds i (.string (str x))) 9 (0, 0)) b { d with safe := d.safe.set i x } sv pv ∧ Step b w (setAt w g (cur.setIfInBounds i (.string (str x))) 9 (0, 0)) := by
  rcases id h.safe.2 with ⟨_, h0⟩ | ⟨g, cap, cur, hsv, hg, hh, hn, hm, hs, ht⟩
  · omega
  have hic : i < cur.size := by omega
  have hsb : sv.ownBlock = some g := by rw [hsv]; rfl
  refine ⟨g, cap, cur, hsv, hh, hic, ?_, fun w' => by rw [hsv, ix Try.underlying66 info_9 i rfl hi w', sz_9, Nat.mul_one, add_plain, Nat.zero_add], fun x => ?_⟩
  · have e := congrArg (fun x => x[i]?) ht
    simp only [List.getElem?_take, show i < d.safe.length * 1 by omega, if_true] at e
    simp only [strs, List.getElem?_map, List.getElem?_eq_getElem hi, Option.map_some] at e
    simpa using e
  · have k := setAt_keep w g (cur.setIfInBounds i (.string (str x))) 9 (0, 0)
    obtain ⟨n1, n2⟩ := h.b_ne
    have hgb : ¬ b = g := fun e => n1 (by rw [hsb, e])
    have hr : RAt (setAt w g (cur.setIfInBounds i (.string (str x))) 9 (0, 0)) b { d with safe := d.safe.set i x } sv pv := by
      refine ⟨k.get hgb h.blk, ?_, own_keepD h.ws k (fun g' hg' e => own_neO h.safe h.ws (by decide) hsb (by rw [hg', e]))⟩
      show World.ownsRow _ 0 9 1 sv (d.safe.set i x).length (strs (d.safe.set i x))
      rw [List.length_set]
      refine ⟨by simp [strs], .inr ⟨g, cap, _, hsv, hg, setAt_same (lt_of_blk hh), hn, hm, by simpa using hs, ?_⟩⟩
      unfold strs at ht ⊢
      rw [List.map_set, ← ht]
      simp [List.take_set]
    refine ⟨hr, k.mono (fun j _ hj => by rw [hj]; exact h.foot.2 (.inr (.inl hsb))), fun k' hk' => .inl ?_⟩
    exact h.foot.2 (hr.foot.1 hk')
/-- A write that is not safe. -/
theorem RAt.ws_at {w : World} {b : Nat} {d : Dk} {sv pv : Value} (h : RAt w b d sv pv) {i : Nat} (hi : i < d.ws.length) :
    ∃ g cap cur, pv = .slice (some ⟨g, 0, none⟩) d.ws.length cap ∧ w.heap[g]? = some (.cells cur 200 (0, 0)) ∧ cur[i * 2]? = some (.int .i64 (d.ws[i].1 : Int)) ∧ cur[i * 2 + 1]? = some (.string (str d.ws[i].2)) ∧ (cur.toList.drop (i * 2)).take 2 = pcs d.ws[i] ∧ (∀ w', (Instr.indexAt 146 pv (.int .i64 (i : Int))).run Try.prog w' = .ok (.pointer (some ⟨g, i * 2, none⟩)) w') := by
  rcases id h.ws.2 with ⟨_, h0⟩ | ⟨g, cap, cur, hv, hg, hh, hn, hm, hs, ht⟩
  · omega
  · have e := congrArg (fun x => (x.drop (i * 2)).take 2) ht
    rw [List.drop_take, List.take_take, show min 2 (d.ws.length * 2 - i * 2) = 2 by omega] at e
    have e2 : ((putL d.ws).drop (i * 2)).take 2 = pcs d.ws[i] := by
      unfold putL
      rw [flat_at (pcs_all d.ws) (by simpa using hi), List.getElem_map]
    rw [e2] at e
    refine ⟨g, cap, cur, hv, hh, ?_, ?_, e, fun w' => by rw [hv, ix Try.underlying146 info_200 i rfl hi w', sz_200, add_plain, Nat.zero_add]⟩
    · have e3 := congrArg (fun x => x[0]?) e
      simp only [List.getElem?_take, List.getElem?_drop, pcs] at e3
      simpa using e3
    · have e3 := congrArg (fun x => x[1]?) e
      simp only [List.getElem?_take, List.getElem?_drop, pcs] at e3
      simpa using e3
theorem RAt.append {w w1 : World} {b : Nat} {d : Dk} {sv pv v' : Value} (h : RAt w b d sv pv) (p : Nat × List UInt8) (k : Keep (fun k => some k = pv.ownBlock) w w1)
    (ho : w1.ownsRow 0 200 2 v' (d.ws.length + 1) (putL d.ws ++ pcs p)) (hn : ∀ g, v'.ownBlock = some g → pv.ownBlock = some g ∨ w.heap.size ≤ g) :
    w1.heap[b]? = some (.cells #[sv, pv, .bool d.dead, .int .i64 d.fuse, .int .i64 d.done] 148 (0, 0)) ∧
    RAt (setAt w1 b #[sv, v', .bool d.dead, .int .i64 d.fuse, .int .i64 d.done] 148 (0, 0)) b { d with ws := d.ws ++ [p] } sv v' ∧ Step b w (setAt w1 b #[sv, v', .bool d.dead, .int .i64 d.fuse, .int .i64 d.done] 148 (0, 0)) := by
  obtain ⟨n1, n2⟩ := h.b_ne
  have hb1 : w1.heap[b]? = some (.cells #[sv, pv, .bool d.dead, .int .i64 d.fuse, .int .i64 d.done] 148 (0, 0)) := k.get (fun e => n2 e.symm) h.blk
  have k2 := setAt_keep w1 b #[sv, v', .bool d.dead, .int .i64 d.fuse, .int .i64 d.done] 148 (0, 0)
  have hsafe1 := own_keepD h.safe k (fun g hg e => own_neO h.safe h.ws (by decide) hg e.symm)
  have hr : RAt (setAt w1 b #[sv, v', .bool d.dead, .int .i64 d.fuse, .int .i64 d.done] 148 (0, 0)) b { d with ws := d.ws ++ [p] } sv v' := by
    refine ⟨setAt_same (lt_of_blk hb1), own_keepD hsafe1 k2 (fun g hg e => n1 (by rw [hg, e])), ?_⟩
    have e1 : (d.ws ++ [p]).length = d.ws.length + 1 := by simp
    have e2 : putL (d.ws ++ [p]) = putL d.ws ++ pcs p := by rw [putL_append]; simp [putL]
    show World.ownsRow _ 0 200 2 v' (d.ws ++ [p]).length (putL (d.ws ++ [p]))
    rw [e1, e2]
    exact own_keepD ho k2 (fun g hg e => own_neT ho hb1 (by decide) (by rw [hg, e]))
  refine ⟨hb1, hr, ?_, fun k' hk' => ?_⟩
  · refine Keep.seq (k.mono (fun i _ hi => h.foot.2 (.inr (.inr hi.symm)))) k2 (fun i _ hi => ?_)
    rw [hi]; exact foot_self w b
  · rcases hr.foot.1 hk' with h1 | h1 | h1
    · exact .inl (h.foot.2 (.inl h1))
    · exact .inl (h.foot.2 (.inr (.inl h1)))
    · rcases hn _ h1 with h2 | h2
      · exact .inl (h.foot.2 (.inr (.inr h2)))
      · exact .inr h2
theorem RAt.clear {w : World} {b : Nat} {d : Dk} {sv pv : Value} (h : RAt w b d sv pv) :
    RAt (setAt w b #[sv, .slice none 0 0, .bool d.dead, .int .i64 d.fuse, .int .i64 d.done] 148 (0, 0)) b { d with ws := [] } sv (.slice none 0 0) ∧ Step b w (setAt w b #[sv, .slice none 0 0, .bool d.dead, .int .i64 d.fuse, .int .i64 d.done] 148 (0, 0)) := by
  obtain ⟨n1, n2⟩ := h.b_ne
  have k := setAt_keep w b #[sv, .slice none 0 0, .bool d.dead, .int .i64 d.fuse, .int .i64 d.done] 148 (0, 0)
  have hr : RAt (setAt w b #[sv, .slice none 0 0, .bool d.dead, .int .i64 d.fuse, .int .i64 d.done] 148 (0, 0)) b { d with ws := [] } sv (.slice none 0 0) :=
    ⟨setAt_same (lt_of_blk h.blk), own_keepD h.safe k (fun g hg e => n1 (by rw [hg, e])), ⟨rfl, .inl ⟨rfl, rfl⟩⟩⟩
  refine ⟨hr, k.mono (fun i _ hi => by rw [hi]; exact foot_self w b), fun k' hk' => .inl ?_⟩
  rcases hr.foot.1 hk' with h1 | h1 | h1
  · exact h.foot.2 (.inl h1)
  · exact h.foot.2 (.inr (.inl h1))
  · cases h1

/-- pad. -/
theorem pad_spec {l : List UInt8} {w : World} {K : Value → World → Prop} (hl : l.length ≤ 128) (hK : ∀ w1, Ext w w1 → K (.string (str (padB l))) w1) : CALL Try.prog 133 #[.string (str l)] w K := by
  apply call_ref08_pad
  unfold B_ref08_pad
  refine X_make Try.underlying27 el_5 128 128 rfl rfl (Nat.le_refl _) (by decide) (by decide) ?_
  have hcells : madeCells (Value.int .u8 0).cells (128 * 1) = (B8 (l.take 0 ++ List.replicate (128 - 0) 0)).toArray := by
    apply Array.ext'
    have : (madeCells (Value.int .u8 0).cells 128).toList = List.replicate 128 (.int .u8 0) := made_one _ _
    rw [Nat.mul_one, this]
    simp [B8]
  rw [hcells]
  have hg := newB_get w (B8 (l.take 0 ++ List.replicate (128 - 0) 0)).toArray 5
  have hx := newB_ext w (B8 (l.take 0 ++ List.replicate (128 - 0) 0)).toArray 5
  generalize newB w (B8 (l.take 0 ++ List.replicate (128 - 0) 0)).toArray 5 = w1 at hg hx ⊢
  refine loopE (fun ρ wr => ∃ i : Nat, i ≤ l.length ∧ Ext w wr ∧ wr.heap[w.heap.size]? = some (.cells (B8 (l.take i ++ List.replicate (128 - i) 0)).toArray 5 (0, 0)) ∧
      ρ 4 = .int .i64 (i : Nat) ∧ ρ 3 = .slice (some ⟨w.heap.size, 0, none⟩) 128 128 ∧ ρ 0 = .string (str l))
    (fun ρ wr => match ρ 4 with | .int _ s => (l.length - s).toNat | _ => 0)
    (fun ρ wr => Ext w wr ∧ wr.heap[w.heap.size]? = some (.cells (B8 (padB l)).toArray 5 (0, 0)) ∧ ρ 3 = .slice (some ⟨w.heap.size, 0, none⟩) 128 128) ?_ ?_ ?_
  · exact ⟨0, Nat.zero_le _, hx, hg, rfl, rfl, rfl⟩
  · rintro J hJ ρ wr ⟨i, hi, hxr, hgr, h4, h3, h0⟩
    rw [h4, h3, h0]
    simp only [X_len_9, X_lss, condS_bool, str_size]
    by_cases hin : i = l.length
    · rw [if_neg (by simp; omega)]
      refine hJ _ _ ⟨hxr, ?_, h3⟩
      rw [hin, List.take_length] at hgr
      exact hgr
    rw [if_pos (by simp; omega)]
    have hlt : i < l.length := by omega
    refine X_of (run_index_str Try.underlying9 l .i64 i rfl hlt _) ?_
    refine X_of (ix Try.underlying27 info_5 i rfl (by omega) _) ?_
    rw [sz_5, Nat.mul_one, add_plain, Nat.zero_add]
    refine XU_store info_5 sz_5 rfl hgr (by simp; omega) (by show ¬ ((0 : Nat) ≤ i ∧ i < 0); omega) ?_
    rw [X_add]
    show _ ∧ _
    refine ⟨⟨i + 1, by omega, Ext.seq hxr (setAt_keep _ _ _ _ _) (fun j hj => by omega), ?_, next64 (n := 128) (by decide) (by omega), h3, h0⟩, ?_⟩
    · have e : (B8 (l.take i ++ List.replicate (128 - i) 0)).toArray.setIfInBounds i (.int .u8 ((l[i].toNat : Nat) : Int)) = (B8 (l.take (i + 1) ++ List.replicate (128 - (i + 1)) 0)).toArray := by
        have e1 : List.replicate (128 - i) (0 : UInt8) = 0 :: List.replicate (128 - (i + 1)) 0 := by
          rw [show 128 - i = (128 - (i + 1)) + 1 by omega, List.replicate_succ]
        have e2 : (l.take i ++ List.replicate (128 - i) 0).set i l[i] = l.take (i + 1) ++ List.replicate (128 - (i + 1)) 0 := by
          rw [e1, List.set_append_right _ _ (by simp; omega), List.length_take, Nat.min_eq_left (by omega), Nat.sub_self, List.set_cons_zero, List.take_succ_eq_append_getElem hlt, List.append_assoc]
          rfl
        rw [← e2, ← B8_set]
        simp
      rw [← e]
      exact setAt_same (lt_of_blk hgr)
    · show (_ - IntKind.i64.wrap _).toNat < _
      rw [w64 (by omega) (by omega)]
      first | omega | (show _ < (_ : Int).toNat; omega)
  · rintro ρ wr ⟨hxr, hgr, h3⟩
    rw [h3]
    have hb : Bts wr (.slice (some ⟨w.heap.size, 0, none⟩) (padB l).length 128) (padB l) := by
      refine ⟨_, _, rfl, by rw [padB_len hl]; exact Nat.le_refl _, by decide, fun _ => ⟨_, rfl, fun j u hj => ?_⟩⟩
      rw [add_plain, cell_blk hgr, Nat.zero_add]
      simp [B8_getElem?, hj]
    rw [padB_len hl] at hb
    exact X_str Try.underlying27 Try.underlying5 Try.underlying9 hb (hK _ hxr)
section
variable {w : World} {b : Nat} {d : Dk} {sv pv : Value} {K : Value → World → Prop}
theorem off_spec (h : RAt w b d sv pv) (hK : ∀ w1, RAt w1 b d.trip sv pv → Step b w w1 → K (.bool d.trip.dead) w1) : CALL Try.prog 142 #[ptr b] w K := by
  apply call_ref08_Disk_off
  unfold B_ref08_Disk_off
  simp only [X_nilS, X_field_148_2, X_field_148_3]
  refine joinS_of (fun ρ w1 => ρ 0 = ptr b ∧ RAt w1 b d.trip sv pv ∧ Step b w w1) ?_ ?_
  · rintro ρ w1 ⟨e0, h1, s1⟩
    rw [e0]
    simp only [X_nilS, X_field_148_2]
    exact X_loadL agg_4 h1.blk rfl (hK w1 h1 s1)
  intro J hJ
  refine X_loadL agg_3 h.blk rfl ?_
  rw [X_eql, condS_bool]
  by_cases hf : d.fuse = 0
  · rw [if_pos (by simpa using hf)]
    have et : d.trip = { d with dead := true, fuse := -1 } := by unfold Dk.trip; rw [if_pos hf]
    refine XU_store info_4 sz_4 rfl h.blk (Nat.le_of_ble_eq_true rfl) (by show ¬ ((0 : Nat) ≤ 2 ∧ 2 < 0); omega) ?_
    obtain ⟨h1, s1⟩ := h.put (cs' := (#[sv, pv, .bool d.dead, .int .i64 d.fuse, .int .i64 d.done] : Array Value).setIfInBounds (0 + 2) (.bool true)) { d with dead := true } rfl rfl rfl
    generalize setAt w b _ 148 (0, 0) = w1 at h1 s1 ⊢
    refine XU_store info_3 sz_3 rfl h1.blk (Nat.le_of_ble_eq_true rfl) (by show ¬ ((0 : Nat) ≤ 3 ∧ 3 < 0); omega) ?_
    obtain ⟨h2, s2⟩ := h1.put (cs' := (#[sv, pv, .bool true, .int .i64 d.fuse, .int .i64 d.done] : Array Value).setIfInBounds (0 + 3) (.int .i64 (-1))) { d with dead := true, fuse := -1 } rfl rfl rfl
    refine hJ _ _ ⟨rfl, ?_, s1.trans s2⟩
    rw [et]; exact h2
  · rw [if_neg (by simpa using hf)]
    have et : d.trip = d := by unfold Dk.trip; rw [if_neg hf]
    refine hJ _ _ ⟨rfl, ?_, Step.refl⟩
    rw [et]; exact h
theorem done_spec (hf : d.fuse ≤ 9223372036854775807) (h : RAt w b d sv pv) (hK : ∀ w1, RAt w1 b d.tick sv pv → Step b w w1 → K (i64v 0) w1) : CALL Try.prog 143 #[ptr b] w K := by
  apply call_ref08_Disk_done
  unfold B_ref08_Disk_done
  simp only [X_nilS, X_field_148_4, X_field_148_3]
  refine X_loadL agg_3 h.blk rfl ?_
  rw [X_add]
  refine XU_store info_3 sz_3 rfl h.blk (Nat.le_of_ble_eq_true rfl) (by show ¬ ((0 : Nat) ≤ 4 ∧ 4 < 0); omega) ?_
  obtain ⟨h1, s1⟩ := h.put (cs' := (#[sv, pv, .bool d.dead, .int .i64 d.fuse, .int .i64 d.done] : Array Value).setIfInBounds (0 + 4) (.int .i64 (IntKind.i64.wrap (d.done + 1)))) { d with done := IntKind.i64.wrap (d.done + 1) } rfl rfl rfl
  generalize setAt w b _ 148 (0, 0) = w1 at h1 s1 ⊢
  refine joinS_of (fun ρ w1 => RAt w1 b d.tick sv pv ∧ Step b w w1) ?_ ?_
  · rintro ρ w1 ⟨h1, s1⟩
    exact hK w1 h1 s1
  intro J hJ
  refine X_loadL agg_3 h1.blk rfl ?_
  rw [X_gtr, condS_bool]
  by_cases hp : 0 < d.fuse
  · rw [if_pos (by simpa using hp)]
    refine X_loadL agg_3 h1.blk rfl ?_
    rw [X_sub]
    refine XU_store info_3 sz_3 rfl h1.blk (Nat.le_of_ble_eq_true rfl) (by show ¬ ((0 : Nat) ≤ 3 ∧ 3 < 0); omega) ?_
    obtain ⟨h2, s2⟩ := h1.put (cs' := (#[sv, pv, .bool d.dead, .int .i64 d.fuse, .int .i64 (IntKind.i64.wrap (d.done + 1))] : Array Value).setIfInBounds (0 + 3) (.int .i64 (IntKind.i64.wrap (d.fuse - 1)))) { d with done := IntKind.i64.wrap (d.done + 1), fuse := IntKind.i64.wrap (d.fuse - 1) } rfl rfl rfl
    refine hJ _ _ ⟨?_, s1.trans s2⟩
    have e : d.tick = { d with done := IntKind.i64.wrap (d.done + 1), fuse := IntKind.i64.wrap (d.fuse - 1) } := by
      unfold Dk.tick
      rw [if_pos hp, w64 (x := d.fuse - 1) (by omega) (by omega)]
    rw [e]; exact h2
  · rw [if_neg (by simpa using hp)]
    refine hJ _ _ ⟨?_, s1⟩
    have e : d.tick = { d with done := IntKind.i64.wrap (d.done + 1) } := by
      unfold Dk.tick
      rw [if_neg hp]
    rw [e]; exact h1
end
end Go.Proofs.Ytggggfcgnkllgaa
