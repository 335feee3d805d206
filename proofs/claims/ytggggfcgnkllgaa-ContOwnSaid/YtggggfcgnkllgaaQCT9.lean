/- Part 9 of what the law is proved with: Shown02 Own1 Does Alike Shown11 TellsNum TellsFlip TellsLaw Facts. -/
import Derived.Lib.SlBytesConst
import Derived.ProofKit
import Derived.Test.YtggggfcgnkllgaaQCT8
section
/- What cellaragelaw02.shown computes: true. -/
set_option linter.unusedVariables false
set_option linter.unusedSimpArgs false
namespace Go.Proofs.Ytggggfcgnkllgaa
open Go Go.Sh Go.RowKit
attribute [local irreducible] X XU XP XR CALL loopS resC closS

theorem lit_bts {w : World} (l : List UInt8) (hl : l.length ≤ 9223372036854775807) (T : TypeId) : Bts (newB w (B8 l).toArray T) (.slice (some ⟨w.heap.size, 0, none⟩) l.length l.length) l :=
  ⟨_, _, rfl, Nat.le_refl _, hl, fun _ => ⟨_, rfl, fun j u hj => by
    rw [add_plain, cell_blk (newB_get _ _ _), Nat.zero_add]
    simp [B8_getElem?, hj]⟩⟩
theorem lit3 (w : World) : (Instr.buildSlice 27 3 #[(0, (.int .u8 1)), (1, (.int .u8 2)), (2, (.int .u8 3))]).run Try.prog w = .ok (.slice (some ⟨w.heap.size, 0, none⟩) 3 3) (newB w (B8 [1, 2, 3]).toArray 5) := by kernel_rfl
theorem lit9 (w : World) : (Instr.buildSlice 27 9 #[(0, (.int .u8 49)), (1, (.int .u8 50)), (2, (.int .u8 51)), (3, (.int .u8 52)), (4, (.int .u8 53)), (5, (.int .u8 54)), (6, (.int .u8 55)), (7, (.int .u8 56)), (8, (.int .u8 57))]).run Try.prog w =
    .ok (.slice (some ⟨w.heap.size, 0, none⟩) 9 9) (newB w (B8 [49, 50, 51, 52, 53, 54, 55, 56, 57]).toArray 5) := by kernel_rfl
theorem alloc_ext (w : World) (o : Obj) : Ext w (w.alloc o) :=
  ⟨rfl, rfl, rfl, by show _ ≤ (w.heap.push _).size; rw [Array.size_push]; omega, fun i hi _ => by
    show (w.heap.push _)[i]? = _
    exact Array.getElem?_push_lt hi |>.trans (Array.getElem?_eq_getElem hi).symm⟩
theorem mark_bts {w : World} (l : List UInt8) (hl : l.length ≤ 9223372036854775807) (T : TypeId) (fr : Nat × Nat) : Bts (w.alloc (.cells (B8 l).toArray T fr)) (.slice (some ⟨w.heap.size, 0, none⟩) l.length l.length) l :=
  ⟨_, _, rfl, Nat.le_refl _, hl, fun _ => ⟨_, rfl, fun j u hj => by
    rw [add_plain, Nat.zero_add]
    have hg : (w.alloc (.cells (B8 l).toArray T fr)).heap[w.heap.size]? = some (.cells (B8 l).toArray T fr) := by
      show (w.heap.push _)[w.heap.size]? = _
      exact Array.getElem?_push_size
    rw [cell_blk hg]
    simp [B8_getElem?, hj]⟩⟩
theorem crc_nil' : (crc []).toNat = 0 := by decide +kernel
theorem crc_nine' : (crc [49, 50, 51, 52, 53, 54, 55, 56, 57]).toNat = 4236843288 := by decide +kernel
theorem crc_nil : U32 (crc []) = .int .u32 0 := by unfold U32; rw [crc_nil']; rfl
theorem crc_nine : U32 (crc [49, 50, 51, 52, 53, 54, 55, 56, 57]) = .int .u32 4236843288 := by unfold U32; rw [crc_nine']; rfl
theorem str_lit2 (l : List UInt8) : ({ data := l.toArray } : ByteArray) = str l := rfl

theorem shown02 {w : World} {K : Value → World → Prop} (h : ∀ w1, Ext w w1 → K (.bool true) w1) : CALL Try.prog 50 #[] w K := by
  apply call_law02_shown
  unfold B_law02_shown
  refine X_of (lit3 w) ?_
  have hx0 := newB_ext w (B8 [1, 2, 3]).toArray 5
  have hb0 := lit_bts (w := w) [1, 2, 3] (by decide) 5
  refine Open_spec hb0 (by decide) ?_ (fun cs v' w1 hc => absurd hc (by simp [openB]))
  intro _ w1 hx1
  simp only [SS, ST]
  refine Sum_spec (Bts.nil _) ?_
  intro w2 hx2
  simp only [crc_nil, SS, ST, decide_true, if_true]
  refine X_of (lit9 _) ?_
  have hx3 := alloc_ext w2 (.cells (B8 [49, 50, 51, 52, 53, 54, 55, 56, 57]).toArray 5 ((B8 [49, 50, 51, 52, 53, 54, 55, 56, 57]).toArray.size, (B8 [49, 50, 51, 52, 53, 54, 55, 56, 57]).toArray.size + 1))
  have hb3 := mark_bts (w := w2) [49, 50, 51, 52, 53, 54, 55, 56, 57] (by decide) 5 ((B8 [49, 50, 51, 52, 53, 54, 55, 56, 57]).toArray.size, (B8 [49, 50, 51, 52, 53, 54, 55, 56, 57]).toArray.size + 1)
  refine X_of (Lib.run_convert_bytes_const w2 27 5 (B8 [49, 50, 51, 52, 53, 54, 55, 56, 57]).toArray 9 9 Try.underlying27 Try.underlying5) ?_
  refine Sum_spec hb3 ?_
  intro w4 hx4
  simp only [crc_nine, SS, ST, decide_true, if_true]
  refine Seal_spec (Bts.nil _) (by decide) ?_
  intro v5 w5 hx5 ho5
  refine X_str Try.underlying27 Try.underlying5 Try.underlying9 (own_bts ho5).1 ?_
  have es : decide (sealB [] = ([0, 0, 0, 0] : List UInt8)) = true := by decide +kernel
  simp only [str_lit2, str_toList, l8_beq, es, SS, ST, if_true, Bool.not_false]
  exact h _ (hx0.trans (hx1.trans (hx2.trans (hx3.trans (hx4.trans hx5)))))
end Go.Proofs.Ytggggfcgnkllgaa
end
section
/- Pieces of the call's own, turned and made longer. -/
set_option linter.unusedVariables false
set_option linter.unusedSimpArgs false
namespace Go.Proofs.Ytggggfcgnkllgaa
open Go Go.Sh Go.RowKit
attribute [local irreducible] X XU XP XR CALL loopS resC closS
theorem own_set {w : World} {base e k n : Nat} {v : Value} {cells : List Value} (ho : w.ownsRow base e k v n cells) {p : Nat} (hp : p < n * k) (u : Value) :
    ∃ g cap cur, v = .slice (some ⟨g, 0, none⟩) n cap ∧ base ≤ g ∧ w.heap[g]? = some (.cells cur e (0, 0)) ∧ p < cur.size ∧
      (setAt w g (cur.setIfInBounds p u) e (0, 0)).ownsRow base e k v n (cells.set p u) := by
  have hl : cells.length = n * k := ho.1
  rcases id ho.2 with ⟨_, h0⟩ | ⟨g, cap, cur, hv, hg, hh, hn, hm, hs, ht⟩
  · subst h0; omega
  · have hcs : n * k ≤ cur.size := by
      have := congrArg List.length ht
      rw [List.length_take, hl, Array.length_toList] at this
      omega
    refine ⟨g, cap, cur, hv, hg, hh, by omega, ⟨by simp [hl], .inr ⟨g, cap, _, hv, hg, setAt_same (lt_of_blk hh), hn, hm, by simpa using hs, ?_⟩⟩⟩
    rw [← ht]
    simp [List.take_set]
theorem cellsK_set (ps : List Pc) (i : Nat) (h : i < ps.length) (u : Value) : cellsK Pc.cs (ps.set i ⟨ps[i].p, u⟩) = (cellsK Pc.cs ps).set (i * 34 + 33) u := by
  have hlen := cellsK_len Pc.len ps
  apply List.ext_getElem?
  intro p
  rw [cellsK_get (by decide) Pc.len]
  by_cases hpi : p / 34 = i
  · subst hpi
    rw [List.getElem?_set_self h, Option.bind_some]
    by_cases h33 : p % 34 = 33
    · have e : p / 34 * 34 + 33 = p := by omega
      have hlt : p < (cellsK Pc.cs ps).length := by rw [hlen]; omega
      rw [e, List.getElem?_set_self hlt, h33]
      exact Pc.dvAt _
    · rw [List.getElem?_set_ne (by omega), cellsK_get (by decide) Pc.len, List.getElem?_eq_getElem h, Option.bind_some]
      unfold Pc.cs
      have hk : ps[p / 34].p.k.cs.length = 33 := Ky.cs_len _
      have hm : p % 34 < 33 := by omega
      rw [List.getElem?_append_left (by show p % 34 < (ps[p / 34].p.k.cs).length; omega), List.getElem?_append_left (by omega)]
  · rw [List.getElem?_set_ne (by omega), List.getElem?_set_ne (by omega), cellsK_get (by decide) Pc.len]
structure Mine (w : World) (base : Nat) (vl : Value) (ps : List Pc) (f : Nat → List UInt8) : Prop where
  row : OwnK 34 115 Pc.cs w base vl ps
  data : ∀ j (h : j < ps.length), w.ownsRow base 5 1 (ps[j]).dv (f j).length (B8 (f j))
  apart : ∀ j k (hj : j < ps.length) (hk : k < ps.length), j ≠ k → ∀ g, ps[j].dv.ownBlock = some g → ps[k].dv.ownBlock ≠ some g
def upAt (f : Nat → List UInt8) (i : Nat) (x : List UInt8) : Nat → List UInt8 := fun j => if j = i then x else f j
theorem upAt_self (f : Nat → List UInt8) (i : Nat) (x : List UInt8) : upAt f i x i = x := if_pos rfl
theorem upAt_other {f : Nat → List UInt8} {i j : Nat} (h : j ≠ i) (x : List UInt8) : upAt f i x j = f j := if_neg h
def bsAt (l : List Pp) (j : Nat) : List UInt8 := (l.map Pp.bs).getD j []
theorem bsAt_get {l : List Pp} {j : Nat} (h : j < l.length) : bsAt l j = l[j].bs := by
  unfold bsAt
  rw [List.getD_eq_getElem?_getD, List.getElem?_map, List.getElem?_eq_getElem h]
  rfl
theorem Told.mine {w : World} {base q : Nat} {vl : Value} {cs : List Pc} (h : Told w base q vl cs) : Mine w base vl cs (bsAt (pl cs)) where
  row := h.row
  data := by
    intro j hj
    have e : bsAt (pl cs) j = cs[j].p.bs := by rw [bsAt_get (by simpa using hj)]; simp
    rw [e]
    exact h.data _ (List.getElem_mem hj)
  apart := by
    intro j k hj hk hne g hg hg'
    rcases Nat.lt_or_gt_of_ne hne with h' | h'
    · exact (List.pairwise_iff_getElem.1 h.apart) j k hj hk h' g hg hg'
    · exact (List.pairwise_iff_getElem.1 h.apart) k j hk hj h' g hg' hg
theorem Mine.keep {w w1 : World} {base : Nat} {vl : Value} {ps : List Pc} {f : Nat → List UInt8} {D : Nat → Prop} (h : Mine w base vl ps f) (k : Keep D w w1) (hd : ∀ g, base ≤ g → ¬ D g) : Mine w1 base vl ps f :=
  ⟨h.row.keep k (fun g hg => hd g (h.row.lt g hg).1), fun j hj => own_keepD (h.data j hj) k (fun g hg => hd g ((h.data j hj).lt g hg).1), h.apart⟩
theorem Mine.slice {w : World} {base : Nat} {vl : Value} {ps : List Pc} {f : Nat → List UInt8} (h : Mine w base vl ps f) : RowK 34 Pc.cs w vl ps := OwnK.rowK (by decide) Pc.len h.row
section
variable {w : World} {base i : Nat} {vl : Value} {ps : List Pc} {f : Nat → List UInt8}
theorem X_mineXor {k : Nat} {K : Value → Value → Value → Value → Value → Value → Value → World → Prop} (h : Mine w base vl ps f) (hi : i < ps.length) (hk : k < (f i).length) (u : UInt8)
    (hK : ∀ a b c d e f1 g w1, Mine w1 base vl ps (upAt f i ((f i).set k ((f i)[k] ^^^ u))) → Keep (fun g => base ≤ g) w w1 → K a b c d e f1 g w1) :
    X Try.prog (Instr.indexAt 100 vl (.int .i64 (i : Int))) w fun a w1 => X Try.prog (Instr.fieldAt 115 a 1) w1 fun b w2 => X Try.prog (Instr.loadAt 27 b) w2 fun c w3 =>
      X Try.prog (Instr.indexAt 27 c (.int .i64 (k : Int))) w3 fun d w4 => X Try.prog (Instr.loadAt 5 d) w4 fun e w5 => X Try.prog (binOp .xor 5 e (.int .u8 ((u.toNat : Nat) : Int))) w5 fun f1 w6 =>
      X Try.prog (Instr.indexAt 27 c (.int .i64 (k : Int))) w6 fun g w7 => XU Try.prog (Instr.storeAt 5 g f1) w7 fun w8 => K a b c d e f1 g w8 := by
  refine X_dataAt h.slice hi ?_
  intro v1 v2
  refine X_xorAt (h.data i hi) hk u ?_
  intro a b c d w1 ho hk1
  refine hK _ _ _ _ _ _ _ w1 ⟨h.row.keep hk1 (fun g hg => own_neO h.row (h.data i hi) (by decide) hg), fun j hj => ?_, h.apart⟩ (hk1.mono (fun g _ hg => ((h.data i hi).lt g hg).1))
  by_cases hji : j = i
  · subst hji
    rw [upAt_self, List.length_set]
    exact ho
  · rw [upAt_other hji]
    exact own_keepD (h.data j hj) hk1 (fun g hg => h.apart j i hj hi hji g hg)
theorem X_mineAdd {K : Value → Value → Value → Value → Value → Value → Value → World → Prop} (h : Mine w base vl ps f) (hi : i < ps.length) (hl : (f i).length ≤ 1000000)
    (hK : ∀ a b c d e f1 g dv w1, Mine w1 base vl (ps.set i ⟨ps[i].p, dv⟩) (upAt f i (f i ++ [1, 2, 3])) → Keep (fun g => base ≤ g) w w1 → K a b c d e f1 g w1) :
    X Try.prog (Instr.indexAt 100 vl (.int .i64 (i : Int))) w fun a w1 => X Try.prog (Instr.fieldAt 115 a 1) w1 fun b w2 => X Try.prog (Instr.loadAt 27 b) w2 fun c w3 =>
      X Try.prog (Instr.buildSlice 27 3 #[(0, (.int .u8 1)), (1, (.int .u8 2)), (2, (.int .u8 3))]) w3 fun d w4 => X Try.prog (Builtin.append_ #[27, 27] 27 #[c, d]) w4 fun e w5 =>
      X Try.prog (Instr.indexAt 100 vl (.int .i64 (i : Int))) w5 fun f1 w6 => X Try.prog (Instr.fieldAt 115 f1 1) w6 fun g w7 => XU Try.prog (Instr.storeAt 27 g e) w7 fun w8 => K a b c d e f1 g w8 := by
  refine X_dataAt h.slice hi ?_
  intro v1 v2
  refine X_of (lit3 w) ?_
  have hx1 := newB_ext w (B8 [1, 2, 3]).toArray 5
  have hg1 := newB_get w (B8 [1, 2, 3]).toArray 5
  show X _ _ (newB w (B8 [1, 2, 3]).toArray 5) _
  generalize newB w (B8 [1, 2, 3]).toArray 5 = w1 at hx1 hg1 ⊢
  have h1 := h.keep hx1 (fun _ _ h => h)
  have hb3 : Bts w1 (.slice (some ⟨w.heap.size, 0, none⟩) 3 3) [1, 2, 3] := by
    refine ⟨_, 3, rfl, Nat.le_refl _, by decide, fun _ => ⟨_, rfl, fun j u hj => ?_⟩⟩
    rw [add_plain, Nat.zero_add, cell_blk hg1]
    have : (B8 [1, 2, 3])[j]? = some (.int .u8 ((u.toNat : Nat) : Int)) := by rw [B8_getElem?, hj]; rfl
    simpa using this
  have hbase : base ≤ w1.heap.size := by
    have hp : 0 < ps.length := by omega
    rcases h1.row.2 with ⟨_, h0⟩ | ⟨g, cap, cur, _, hg, hh, _⟩
    · omega
    · have := lt_of_blk hh
      omega
  refine X_append_btsW Try.underlying27 el_5 (h1.data i hi) hb3 (by simp; omega) hbase ?_
  intro dv' w2 ho2 hk2 hn2
  have hk2' : Keep (fun g => ps[i].dv.ownBlock = some g) w1 w2 := hk2.mono (fun g _ hg => hg.symm)
  have hrow2 : OwnK 34 115 Pc.cs w2 base vl ps := h1.row.keep hk2' (fun g hg => own_neO h1.row (h1.data i hi) (by decide) hg)
  obtain ⟨g, cap, cur, ev, hg, hh, hpc, hset⟩ := own_set hrow2 (p := i * 34 + 33) (by omega) dv'
  obtain ⟨ad, cd, ed⟩ := Bts.slice (own_bts ho2).1
  have hix : ∀ w', (Instr.indexAt 100 vl (.int .i64 (i : Int))).run Try.prog w' = .ok (.pointer (some ⟨g, 0 + i * 34, none⟩)) w' := by
    intro w'
    have := ix Try.underlying100 info_115 (a := ⟨g, 0, none⟩) (n := ps.length) (c := cap) (k := .i64) (ii := (i : Int)) i rfl hi w'
    rw [sz_115, add_plain] at this
    rw [ev]
    exact this
  refine X_of (hix _) ?_
  rw [X_field_115_1]
  refine XU_store info_27 sz_27 (by rw [ed]; rfl) hh (by omega) (by show ¬ ((0 : Nat) ≤ _ ∧ _ < 0); omega) ?_
  have e33 : 0 + i * 34 + 33 = i * 34 + 33 := by omega
  rw [e33]
  have hk3 := setAt_keep w2 g (cur.setIfInBounds (i * 34 + 33) dv') 115 (0, 0)
  generalize setAt w2 g (cur.setIfInBounds (i * 34 + 33) dv') 115 (0, 0) = w3 at hset hk3 ⊢
  have hvb : vl.ownBlock = some g := by rw [ev]; rfl
  have hkeep : Keep (fun g => base ≤ g) w w3 := by
    refine Keep.trans (Keep.trans (Keep.ext hx1) (hk2'.mono (fun j _ hj => ((h1.data i hi).lt j hj).1))) (hk3.mono (fun j _ hj => by rw [hj]; exact hg))
  have after : ∀ {v : Value} {x : List UInt8}, w2.ownsRow base 5 1 v x.length (B8 x) → w3.ownsRow base 5 1 v x.length (B8 x) := by
    intro v x hv
    refine own_keepD hv hk3 (fun j hj hjg => ?_)
    subst hjg
    exact own_neT hv hh (by decide) hj
  have hlen : (ps.set i ⟨ps[i].p, dv'⟩).length = ps.length := List.length_set
  refine hK _ _ _ _ _ _ _ dv' w3 ⟨?_, fun j hj => ?_, fun j k hj hk hne b hb hb' => ?_⟩ hkeep
  · unfold OwnK
    rw [hlen, cellsK_set ps i hi dv']
    exact hset
  · by_cases hji : j = i
    · subst hji
      rw [upAt_self, List.getElem_set_self]
      refine after ?_
      rw [List.length_append]
      exact ho2
    · rw [upAt_other hji, List.getElem_set_ne (by omega)]
      have hj' : j < ps.length := by omega
      exact after (own_keepD (h1.data j hj') hk2' (fun b hb => h1.apart j i hj' hi hji b hb))
  · have hj' : j < ps.length := by omega
    have hk' : k < ps.length := by omega
    have new : ∀ m (hm : m < ps.length), m ≠ i → ∀ b, dv'.ownBlock = some b → ps[m].dv.ownBlock ≠ some b := by
      intro m hm hmi b hb hb'
      rcases hn2 b hb with h2 | h2
      · exact h1.apart i m hi hm (Ne.symm hmi) b h2 hb'
      · have := ((h1.data m hm).lt b hb').2
        omega
    by_cases hji : j = i
    · subst hji
      rw [List.getElem_set_self] at hb
      rw [List.getElem_set_ne (by omega)] at hb'
      exact new k hk' (Ne.symm hne) b hb hb'
    · rw [List.getElem_set_ne (by omega)] at hb
      by_cases hki : k = i
      · subst hki
        rw [List.getElem_set_self] at hb'
        exact new j hj' hji b hb' hb
      · rw [List.getElem_set_ne (by omega)] at hb'
        exact h1.apart j k hj' hk' hne b hb hb'
end
end Go.Proofs.Ytggggfcgnkllgaa
end
section
/- cellaragelaw08: few, does, model, alike, shown. -/
set_option linter.unusedVariables false
set_option linter.unusedSimpArgs false
namespace Go.Proofs.Ytggggfcgnkllgaa
open Go Go.Sh Go.RowKit
attribute [local irreducible] X XU XP XR CALL loopS resC closS
/-- An act on the plain disk. -/
def _root_.Go.Sh.Dk.act (d : Dk) (a : DAct) : Dk × Int :=
  if a.kind % 5 = 0 then d.write a.pos a.bs
  else if a.kind % 5 = 1 then d.flush
  else if a.kind % 5 = 2 then (d.cut a.num, 0)
  else if a.kind % 5 = 3 then (d.crash a.fates, 0)
  else (d, 0)
theorem _root_.Go.Sh.Dk.act_ok {d : Dk} (h : d.ok) {a : DAct} {W : World} (ha : a.In W) : (d.act a).1.ok := by
  unfold Dk.act
  split
  · exact Dk.write_ok h _ _
  · split
    · exact Dk.flush_ok h
    · split
      · exact Dk.cut_ok h ha.num
      · split
        · exact Dk.crash_ok h _
        · exact h
theorem _root_.Go.Sh.Dk.act_size (d : Dk) (a : DAct) : (d.act a).1.safe.length = d.safe.length := by
  unfold Dk.act
  split
  · exact Dk.write_size _ _ _
  · split
    · exact Dk.flush_size _
    · split
      · exact Dk.cut_size _ _
      · split
        · exact Dk.crash_size _ _
        · rfl
theorem _root_.Go.Sh.Dk.act_ws (d : Dk) (a : DAct) : (d.act a).1.ws.length ≤ d.ws.length + 1 := by
  unfold Dk.act
  split
  · exact Dk.write_ws _ _ _
  · split
    · have := Dk.flush_ws d; omega
    · split
      · unfold Dk.cut; split <;> simp
      · split
        · simp [Dk.crash]
        · simp
theorem kind5 (T : TypeId) (k : Nat) (w : World) : (binOp .rem T (.int .u8 (k : Int)) (.int .u8 5)).run Try.prog w = .ok (.int .u8 ((k % 5 : Nat) : Int)) w := by
  rw [run_rem _ _ _ _ (by decide)]
  rfl
/-- The acts' slices lie apart from the object b. -/
def Off (w : World) (b : Nat) (a : DAct) : Prop := (0 < a.bs.length → ∀ k, a.bv.ownBlock = some k → ¬ foot w b k) ∧ (0 < a.fates.length → ∀ k, a.fv.ownBlock = some k → ¬ foot w b k)
theorem off_of {W w : World} {b : Nat} {a : DAct} (ha : a.In W) (hl : ∀ k, foot w b k → W.heap.size ≤ k) : Off w b a :=
  ⟨fun h0 k hk hf => by have := ha.bts.blk_lt h0 k hk; have := hl k hf; omega, fun h0 k hk hf => by have := ha.fate.blk_lt h0 k hk; have := hl k hf; omega⟩
section
variable {w : World} {b : Nat} {d : Dk} {K : Value → World → Prop}
theorem does_spec {a : DAct} (h : DiskAt w b d) (hw : d.ws.length ≤ 1000000) (ha : a.In w) (hoff : Off w b a) (hlen : a.bs.length ≤ 140737488351232)
    (hK : ∀ w1, DiskAt w1 b (d.act a).1 → Step b w w1 → K (i64v (d.act a).2) w1) : CALL Try.prog 75 #[ptr b, .agg a.cs.toArray] w K := by
  apply call_law08_does
  unfold B_law08_does
  refine X_box ?_
  have hq := newB_get w a.cs.toArray 86
  have hx := newB_ext w a.cs.toArray 86
  show joinS _ _
  have hc : (Value.agg a.cs.toArray).cells = a.cs.toArray := rfl
  rw [hc]
  have hqn : ¬ foot (newB w a.cs.toArray 86) b w.heap.size := fun hf => by
    have := h.lt _ ((foot_same (hx.block b (h.lt b (foot_self w b)) (fun h => h))).1 hf)
    omega
  generalize newB w a.cs.toArray 86 = w1 at hq hx hqn ⊢
  have h1 := h.ext hx
  have ha1 := ha.ext hx
  have s1 : Step b w w1 := Step.ext hx (h.lt b (foot_self w b))
  have hoff1 : Off w1 b a := ⟨fun h0 k hk hf => hoff.1 h0 k hk ((foot_same (hx.block b (h.lt b (foot_self w b)) (fun h => h))).1 hf), fun h0 k hk hf => hoff.2 h0 k hk ((foot_same (hx.block b (h.lt b (foot_self w b)) (fun h => h))).1 hf)⟩
  refine joinS_of (fun _ w' => (d.act a).2 = 0 ∧ DiskAt w' b (d.act a).1 ∧ Step b w w') ?_ ?_
  · rintro ρ w' ⟨e, h', s'⟩
    have := hK w' h' s'
    rw [e] at this
    exact this
  intro J hJ
  simp only [X_field_86_0]
  refine X_loadL agg_5 hq rfl ?_
  refine X_of (kind5 5 a.kind _) ?_
  simp only [X_eql, condS_bool]
  by_cases k0 : a.kind % 5 = 0
  · have e : d.act a = d.write a.pos a.bs := by unfold Dk.act; rw [if_pos k0]
    rw [if_pos (by simp [k0])]
    have hfl : ∀ k, foot w1 b k → k < w1.heap.size := h1.lt
    refine ⟨Keep (fun k => foot w1 b k ∨ w1.heap.size ≤ k), Keep.frame _, ?_⟩
    have hxd := Keep.drew (fun _ => False) w1
    have hqd : (drewW w1).heap[w.heap.size]? = some (.cells a.cs.toArray 86 (0, 0)) := hq
    have hqn' : ¬ (foot w1 b w.heap.size ∨ w1.heap.size ≤ w.heap.size) := fun h => h.elim hqn (fun h => by have := lt_of_blk hq; omega)
    simp only [XP_field_86_1, XP_field_86_3]
    refine XR_ok (Keep.frame _) (fun w' k => run_loadAt agg_3 (blk_get (k.get hqn' hqd) (v := .int .i64 a.pos) rfl)) ?_
    refine XR_ok (Keep.frame _) (fun w' k => run_loadAt agg_27 (blk_get (k.get hqn' hqd) (v := a.bv) rfl)) ?_
    refine X_of (run_empty27 _) ?_
    have hx2 := newB_ext (drewW w1) #[] 5
    have ho2 := own_emptyT (drewW w1) 5 1
    refine ⟨hx2.ext, ?_⟩
    refine X_append_bts (base := (drewW w1).heap.size) Try.underlying27 el_5 (xs := []) ho2 ((ha1.bts.ext hxd).ext hx2) (by omega) hx2.size ?_
    intro v3 w3 ho3 hk3
    rw [Nat.zero_add, List.nil_append] at ho3
    have hx3 : Ext (drewW w1) w3 := Ext.seq hx2 hk3 (fun i hi => by injection hi with hi; exact Nat.le_of_eq hi.symm)
    refine ⟨hk3.mono (fun i hi hi' => .inr (by injection hi' with hi'; exact Nat.le_of_eq hi'.symm)), ?_⟩
    have hx13 := hxd.trans hx3
    refine Write_spec (h1.ext hx13) hw (own_bts ho3).1 (fun h0 k hk hf => ?_) ?_
    · have := (ho3.lt k hk).1
      have := hfl k ((foot_same (hx13.block b (h1.lt b (foot_self w1 b)) (fun h => h))).1 hf)
      have e0 : (drewW w1).heap.size = w1.heap.size := rfl
      omega
    intro w4 h4 s4
    refine ⟨s4.keep.mono (fun i hi hf => .inl ((foot_same (hx13.block b (h1.lt b (foot_self w1 b)) (fun h => h))).1 hf)), ?_⟩
    have := hK w4 (by rw [e]; exact h4) (s1.trans ((Step.ext hx13 (h1.lt b (foot_self w1 b))).trans s4))
    rw [e] at this
    exact this
  rw [if_neg (by simp; omega)]
  by_cases k1 : a.kind % 5 = 1
  · have e : d.act a = d.flush := by unfold Dk.act; rw [if_neg k0, if_pos k1]
    rw [if_pos (by simp [k1])]
    refine Flush_spec h1 ?_
    intro w4 h4 s4
    have := hK w4 (by rw [e]; exact h4) (s1.trans s4)
    rw [e] at this
    exact this
  rw [if_neg (by simp; omega)]
  by_cases k2 : a.kind % 5 = 2
  · have e : d.act a = (d.cut a.num, 0) := by unfold Dk.act; rw [if_neg k0, if_neg k1, if_pos k2]
    rw [if_pos (by simp [k2])]
    simp only [X_field_86_2]
    refine X_loadL agg_3 hq (v := .int .i64 a.num) rfl ?_
    refine Cut_spec ha.num h1 ?_
    intro w4 h4 s4
    exact hJ _ _ ⟨by rw [e], by rw [e]; exact h4, s1.trans s4⟩
  rw [if_neg (by simp; omega)]
  by_cases k3 : a.kind % 5 = 3
  · have e : d.act a = (d.crash a.fates, 0) := by unfold Dk.act; rw [if_neg k0, if_neg k1, if_neg k2, if_pos k3]
    rw [if_pos (by simp [k3])]
    simp only [X_field_86_4]
    refine X_loadL agg_79 hq (v := a.fv) rfl ?_
    refine Crash_spec h1 ha1.fate hoff1.2 ?_
    intro w4 h4 s4
    exact hJ _ _ ⟨by rw [e], by rw [e]; exact h4, s1.trans s4⟩
  rw [if_neg (by simp; omega)]
  have e : d.act a = (d, 0) := by unfold Dk.act; rw [if_neg k0, if_neg k1, if_neg k2, if_neg k3]
  exact hJ _ _ ⟨by rw [e], by rw [e]; exact h1, s1⟩
theorem model_spec {a : DAct} (h : RefAt w b d) (hw : d.ws.length ≤ 1000000) (ha : a.In w) (hoff : Off w b a)
    (hK : ∀ w1, RefAt w1 b (d.act a).1 → Step b w w1 → K (i64v (d.act a).2) w1) : CALL Try.prog 82 #[ptr b, .agg a.cs.toArray] w K := by
  apply call_law08_model
  unfold B_law08_model
  refine X_box ?_
  have hq := newB_get w a.cs.toArray 86
  have hx := newB_ext w a.cs.toArray 86
  show joinS _ _
  have hc : (Value.agg a.cs.toArray).cells = a.cs.toArray := rfl
  rw [hc]
  generalize newB w a.cs.toArray 86 = w1 at hq hx ⊢
  have h1 := h.ext hx
  have ha1 := ha.ext hx
  have s1 : Step b w w1 := Step.ext hx (h.lt b (foot_self w b))
  have hoff1 : Off w1 b a := ⟨fun h0 k hk hf => hoff.1 h0 k hk ((foot_same (hx.block b (h.lt b (foot_self w b)) (fun h => h))).1 hf), fun h0 k hk hf => hoff.2 h0 k hk ((foot_same (hx.block b (h.lt b (foot_self w b)) (fun h => h))).1 hf)⟩
  refine joinS_of (fun _ w' => (d.act a).2 = 0 ∧ RefAt w' b (d.act a).1 ∧ Step b w w') ?_ ?_
  · rintro ρ w' ⟨e, h', s'⟩
    have := hK w' h' s'
    rw [e] at this
    exact this
  intro J hJ
  simp only [X_field_86_0]
  refine X_loadL agg_5 hq rfl ?_
  refine X_of (kind5 5 a.kind _) ?_
  simp only [X_eql, condS_bool]
  by_cases k0 : a.kind % 5 = 0
  · have e : d.act a = d.write a.pos a.bs := by unfold Dk.act; rw [if_pos k0]
    rw [if_pos (by simp [k0])]
    simp only [X_field_86_1, X_field_86_3]
    refine X_loadL agg_3 hq (v := .int .i64 a.pos) rfl ?_
    refine X_loadL agg_27 hq (v := a.bv) rfl ?_
    refine X_str Try.underlying27 Try.underlying5 Try.underlying9 ha1.bts ?_
    refine RWrite_spec h1 hw ?_
    intro w4 h4 s4
    have := hK w4 (by rw [e]; exact h4) (s1.trans s4)
    rw [e] at this
    exact this
  rw [if_neg (by simp; omega)]
  by_cases k1 : a.kind % 5 = 1
  · have e : d.act a = d.flush := by unfold Dk.act; rw [if_neg k0, if_pos k1]
    rw [if_pos (by simp [k1])]
    refine RFlush_spec h1 hw ?_
    intro w4 h4 s4
    have := hK w4 (by rw [e]; exact h4) (s1.trans s4)
    rw [e] at this
    exact this
  rw [if_neg (by simp; omega)]
  by_cases k2 : a.kind % 5 = 2
  · have e : d.act a = (d.cut a.num, 0) := by unfold Dk.act; rw [if_neg k0, if_neg k1, if_pos k2]
    rw [if_pos (by simp [k2])]
    simp only [X_field_86_2]
    refine X_loadL agg_3 hq (v := .int .i64 a.num) rfl ?_
    refine RCut_spec ha.num h1 ?_
    intro w4 h4 s4
    exact hJ _ _ ⟨by rw [e], by rw [e]; exact h4, s1.trans s4⟩
  rw [if_neg (by simp; omega)]
  by_cases k3 : a.kind % 5 = 3
  · have e : d.act a = (d.crash a.fates, 0) := by unfold Dk.act; rw [if_neg k0, if_neg k1, if_neg k2, if_pos k3]
    rw [if_pos (by simp [k3])]
    simp only [X_field_86_4]
    refine X_loadL agg_79 hq (v := a.fv) rfl ?_
    refine RCrash_spec h1 hw ha1.fate hoff1.2 ?_
    intro w4 h4 s4
    exact hJ _ _ ⟨by rw [e], by rw [e]; exact h4, s1.trans s4⟩
  rw [if_neg (by simp; omega)]
  have e : d.act a = (d, 0) := by unfold Dk.act; rw [if_neg k0, if_neg k1, if_neg k2, if_neg k3]
  exact hJ _ _ ⟨by rw [e], by rw [e]; exact h1, s1⟩
theorem does_nil {a : DAct} (ha : a.In w) (hlen : a.bs.length ≤ 140737488351232) (hK : ∀ w1, Ext w w1 → K (i64v (if a.kind % 5 < 2 then 2 else 0)) w1) : CALL Try.prog 75 #[.pointer none, .agg a.cs.toArray] w K := by
  apply call_law08_does
  unfold B_law08_does
  refine X_box ?_
  have hq := newB_get w a.cs.toArray 86
  have hx := newB_ext w a.cs.toArray 86
  show joinS _ _
  have hc : (Value.agg a.cs.toArray).cells = a.cs.toArray := rfl
  rw [hc]
  generalize newB w a.cs.toArray 86 = w1 at hq hx ⊢
  have ha1 := ha.ext hx
  refine joinS_of (fun _ w' => ¬ a.kind % 5 < 2 ∧ Ext w w') ?_ ?_
  · rintro ρ w' ⟨e, h'⟩
    have := hK w' h'
    rw [if_neg e] at this
    exact this
  intro J hJ
  simp only [X_field_86_0]
  refine X_loadL agg_5 hq rfl ?_
  refine X_of (kind5 5 a.kind _) ?_
  simp only [X_eql, condS_bool]
  by_cases k0 : a.kind % 5 = 0
  · rw [if_pos (by simp [k0])]
    refine ⟨Keep (fun k => w1.heap.size ≤ k), Keep.frame _, ?_⟩
    have hxd := Keep.drew (fun _ => False) w1
    have hqd : (drewW w1).heap[w.heap.size]? = some (.cells a.cs.toArray 86 (0, 0)) := hq
    have hqn' : ¬ (w1.heap.size ≤ w.heap.size) := fun h => by have := lt_of_blk hq; omega
    simp only [XP_field_86_1, XP_field_86_3]
    refine XR_ok (Keep.frame _) (fun w' k => run_loadAt agg_3 (blk_get (k.get hqn' hqd) (v := .int .i64 a.pos) rfl)) ?_
    refine XR_ok (Keep.frame _) (fun w' k => run_loadAt agg_27 (blk_get (k.get hqn' hqd) (v := a.bv) rfl)) ?_
    refine X_of (run_empty27 _) ?_
    have hx2 := newB_ext (drewW w1) #[] 5
    have ho2 := own_emptyT (drewW w1) 5 1
    refine ⟨hx2.ext, ?_⟩
    refine X_append_bts (base := (drewW w1).heap.size) Try.underlying27 el_5 (xs := []) ho2 ((ha1.bts.ext hxd).ext hx2) (by omega) hx2.size ?_
    intro v3 w3 ho3 hk3
    have hx3 : Ext (drewW w1) w3 := Ext.seq hx2 hk3 (fun i hi => by injection hi with hi; exact Nat.le_of_eq hi.symm)
    refine ⟨hk3.mono (fun i hi hi' => by injection hi' with hi'; exact Nat.le_of_eq hi'.symm), ?_⟩
    refine Write_nil ?_
    refine ⟨Keep.refl _ _, ?_⟩
    have := hK w3 (hx.trans (hxd.trans hx3))
    rw [if_pos (by omega)] at this
    exact this
  rw [if_neg (by simp; omega)]
  by_cases k1 : a.kind % 5 = 1
  · rw [if_pos (by simp [k1])]
    refine Flush_nil ?_
    have := hK w1 hx
    rw [if_pos (by omega)] at this
    exact this
  rw [if_neg (by simp; omega)]
  by_cases k2 : a.kind % 5 = 2
  · rw [if_pos (by simp [k2])]
    simp only [X_field_86_2]
    refine X_loadL agg_3 hq (v := .int .i64 a.num) rfl ?_
    refine Cut_nil ?_
    exact hJ _ _ ⟨by omega, hx⟩
  rw [if_neg (by simp; omega)]
  by_cases k3 : a.kind % 5 = 3
  · rw [if_pos (by simp [k3])]
    simp only [X_field_86_4]
    refine X_loadL agg_79 hq (v := a.fv) rfl ?_
    refine Crash_nil ?_
    exact hJ _ _ ⟨by omega, hx⟩
  rw [if_neg (by simp; omega)]
  exact hJ _ _ ⟨by omega, hx⟩
/-- The first acts. -/
theorem few_spec {l : List DAct} {v : Value} (hl : RowK 5 DAct.cs w v l) (hin : ∀ a ∈ l, a.In w) 
    (hK : ∀ m v1, m ≤ 100 → m ≤ l.length → (∀ W, RowK 5 DAct.cs W v l → RowK 5 DAct.cs W v1 (l.take m)) → (∀ a ∈ l.take m, a.bs.length ≤ 20000) → K v1 w) : CALL Try.prog 74 #[v] w K := by
  obtain ⟨a0, c0, e0⟩ := hl.slice
  have hn : l.length ≤ 9223372036854775807 := by
    obtain ⟨_, c, _, h1, h2, _⟩ := hl
    omega
  apply call_law08_few
  unfold B_law08_few
  rw [e0, X_len_83, ← e0]
  refine loopE (fun ρ wr => wr = w ∧ ∃ i left : Nat, i ≤ l.length ∧ i ≤ 100 ∧ left ≤ 20000 ∧ (∀ a ∈ l.take i, a.bs.length ≤ 20000) ∧ ρ 7 = .int .i64 (i : Nat) ∧ ρ 6 = .int .i64 (l.length : Nat) ∧ ρ 0 = v ∧ ρ 3 = .int .i64 (left : Nat))
    (fun ρ wr => match ρ 7 with | .int _ s => (l.length - s).toNat | _ => 0)
    (fun ρ wr => wr = w ∧ l.length ≤ 100 ∧ (∀ a ∈ l, a.bs.length ≤ 20000) ∧ ρ 0 = v) ?_ ?_ ?_
  · exact ⟨rfl, 0, 20000, by omega, by omega, by omega, by simp, rfl, rfl, rfl, rfl⟩
  · rintro J hJ ρ wr ⟨rfl, i, left, hi, hi100, hleft, hall, h7, h6, h0, h3⟩
    rw [h7, h6, X_lss, condS_bool]
    by_cases hin' : i = l.length
    · rw [if_neg (by simp; omega)]
      refine hJ _ _ ⟨rfl, by omega, ?_, h0⟩
      rw [hin', List.take_length] at hall
      exact hall
    rw [if_pos (by simp; omega)]
    have hlt : i < l.length := by omega
    have stop : Go.Sh.X Try.prog (Instr.sliceAt 83 v none (some (.int .i64 (i : Int))) none) wr fun v13 w22 => K v13 w22 := by
      obtain ⟨u, hu, hru⟩ := hl.cut Try.underlying83 info_86 (kh := .i64) (hj := (i : Int)) i rfl hi
      refine X_of (hu _) (hK i u hi100 hi (fun W hW => ?_) hall)
      obtain ⟨u', hu', hru'⟩ := hW.cut Try.underlying83 info_86 (kh := .i64) (hj := (i : Int)) i rfl hi
      have := (hu wr).symm.trans (hu' wr)
      injection this with this
      rw [this]
      exact hru'
    obtain ⟨ad, hix, hcs⟩ := hl.at Try.underlying83 info_86 sz_86 (kd := .i64) i rfl hlt
    have hini := hin _ (List.getElem_mem hlt)
    obtain ⟨ab, cb, eb⟩ := Bts.slice hini.bts
    have hfield : (Instr.fieldAt 86 (.pointer (some ad)) 3).run Try.prog wr = .ok (.pointer (some (ad.add 3))) wr := by kernel_rfl
    have hld : (Instr.loadAt 27 (.pointer (some (ad.add 3)))).run Try.prog wr = .ok l[i].bv wr := run_loadAt agg_27 (hcs 3 _ rfl)
    rw [h0, h3]
    rw [X_geq]
    by_cases h100 : i = 100
    · have e1 : decide ((i : Int) ≥ 100) = true := by simp; omega
      simp only [e1, GS]
      exact stop
    have e1 : decide ((i : Int) ≥ 100) = false := by simp; omega
    simp only [e1, GS]
    refine X_of (hix _) ?_
    refine X_of hfield ?_
    refine X_of hld ?_
    rw [eb]
    simp only [X_len_27, X_gtr, GS]
    rw [condS_bool]
    by_cases hbig : left < l[i].bs.length
    · rw [if_pos (by simp; omega)]
      exact stop
    rw [if_neg (by simp; omega)]
    refine X_of (hix _) ?_
    refine X_of hfield ?_
    refine X_of hld ?_
    rw [eb]
    simp only [X_len_27, X_sub, X_add]
    show _ ∧ _
    refine ⟨⟨rfl, i + 1, left - l[i].bs.length, by omega, by omega, by omega, ?_, next64 (n := 100) (by decide) (by omega), h6, h0, ?_⟩, ?_⟩
    · intro a ha
      rw [List.take_succ_eq_append_getElem hlt] at ha
      rcases List.mem_append.1 ha with ha | ha
      · exact hall a ha
      · rw [List.mem_singleton.1 ha]; omega
    · show Value.int .i64 (IntKind.i64.wrap ((left : Int) - (l[i].bs.length : Int))) = _
      have e : (left : Int) - (l[i].bs.length : Int) = ((left - l[i].bs.length : Nat) : Int) := by omega
      rw [w64 (by omega) (by omega), e]
    · show (_ - IntKind.i64.wrap _).toNat < _
      rw [w64 (by omega) (by omega)]
      first | omega | (show _ < (_ : Int).toNat; omega)
  · rintro ρ wr ⟨rfl, h100, hall, h0⟩
    rw [h0]
    exact hK l.length v h100 (Nat.le_refl _) (fun W hW => by rw [List.take_length]; exact hW) (by rw [List.take_length]; exact hall)
end
end Go.Proofs.Ytggggfcgnkllgaa
end
section
/- cellaragelaw08.alike: two disks, alike. -/
set_option linter.unusedVariables false
set_option linter.unusedSimpArgs false
namespace Go.Proofs.Ytggggfcgnkllgaa
open Go Go.Sh Go.RowKit
attribute [local irreducible] X XU XP XR CALL loopS resC closS
section
variable {w : World} {b : Nat} {d : Dk} {K : Value → World → Prop}
theorem alike_spec {b' : Nat} (h : DiskAt w b d) (h' : RefAt w b' d) (hw : d.ws.length ≤ 1000000) (hK : ∀ w1, Ext w w1 → K (.bool true) w1) : CALL Try.prog 83 #[ptr b, ptr b'] w K := by
  have h'0 := h'
  obtain ⟨ok, sv, pv, hr⟩ := h'
  have hsl : d.safe.length ≤ 16384 := ok.2.2.1
  obtain ⟨a1, c1, es⟩ := own_sl hr.safe
  obtain ⟨a2, c2, ep⟩ := own_sl hr.ws
  subst es
  subst ep
  apply call_law08_alike
  unfold B_law08_alike
  refine ⟨Ext, Ext.frame, ?_⟩
  have hxd := Keep.drew (fun _ => False) w
  have hd := h.ext hxd
  have hrd := hr.ext hxd
  have en : decide ((d.safe.length : Int) ≠ (d.safe.length : Int)) = false := by simp
  have ew : decide ((d.ws.length : Int) ≠ (d.ws.length : Int)) = false := by simp
  have edn : decide (d.done ≠ d.done) = false := by simp
  have ed : (d.dead != d.dead) = false := by simp
  simp only [XP_nilS, XP_field_148_0]
  refine XR_ok Ext.frame (fun w' k => run_loadAt agg_66 (blk_get (k.get hrd.blk) (v := .slice a1 d.safe.length c1) rfl)) ?_
  rw [XP_len_66]
  refine Size_spec hd ?_
  refine ⟨Keep.refl _ _, ?_⟩
  simp only [XP_neq, en, XP_nilS, XP_field_148_1, decide_true, decide_false, GS]
  refine XR_ok Ext.frame (fun w' k => run_loadAt agg_146 (blk_get (k.get hrd.blk) (v := .slice a2 d.ws.length c2) rfl)) ?_
  rw [XP_len_146]
  refine Pending_spec hd ?_
  refine ⟨Keep.refl _ _, ?_⟩
  simp only [XP_neq, ew, XP_nilS, XP_field_148_2, decide_true, decide_false, GS]
  refine XR_ok Ext.frame (fun w' k => run_loadAt agg_4 (blk_get (k.get hrd.blk) (v := .bool d.dead) rfl)) ?_
  refine Dead_spec hd ?_
  refine ⟨Keep.refl _ _, ?_⟩
  refine XP_of (fun w => Go.Sh.run_neq_bool Try.underlying4 _ _ _ _ w) ?_
  simp only [ed, XP_nilS, XP_field_148_4, decide_true, decide_false, GS]
  refine XR_ok Ext.frame (fun w' k => run_loadAt agg_3 (blk_get (k.get hrd.blk) (v := .int .i64 d.done) rfl)) ?_
  refine Done_spec hd ?_
  refine ⟨Keep.refl _ _, ?_⟩
  simp only [XP_neq, edn, decide_true, decide_false, GS]
  refine loopE (fun ρ wr => ∃ i : Nat, i ≤ min 40 d.safe.length + 2 ∧ Ext w wr ∧ ρ 5 = .int .i64 ((i : Int) - 1) ∧ ρ 0 = ptr b ∧ ρ 1 = ptr b')
    (fun ρ wr => match ρ 5 with | .int _ s => (100 - s).toNat | _ => 0)
    (fun ρ wr => Ext w wr) ?_ ?_ ?_
  · exact ⟨0, by omega, hxd, rfl, rfl, rfl⟩
  · rintro JE hJE ρ wr ⟨i, hi, hxr, h5, h0, h1⟩
    have hdr := h.ext hxr
    have hrr := hr.ext hxr
    have hrr0 := h'0.ext hxr
    rw [h5, h0, h1]
    simp only [X_nilS, X_field_148_0]
    refine X_loadL agg_66 hrr.blk rfl ?_
    simp only [X_len_66, X_min, X_leq, condS_bool]
    by_cases hin : (i : Int) - 1 ≤ min 40 (d.safe.length : Int)
    case neg =>
      rw [if_neg (by simpa using hin)]
      exact hJE _ _ hxr
    rw [if_pos (by simpa using hin)]
    refine Read_spec hdr ?_
    intro v1 w1 hx1 ho1
    simp only [X_extract0, X_extract1]
    refine RRead_spec (hrr0.ext hx1) hw ?_
    simp only [X_extract0, X_extract1]
    have hb1 := (own_bts ho1).1
    refine X_str Try.underlying27 Try.underlying5 Try.underlying9 hb1 ?_
    have e1 : decide ((d.read ((i : Int) - 1)).1 ≠ (d.read ((i : Int) - 1)).1) = false := by simp
    have e2 : decide ((d.read ((i : Int) - 1)).2 ≠ (d.read ((i : Int) - 1)).2) = false := by simp
    simp only [X_str_neq, str_toList, l8_bne, e1, e2, X_neq, decide_true, decide_false, GS]
    obtain ⟨av, cv, ev⟩ := own_sl ho1
    rw [ev, X_len_27, ← ev]
    generalize hrb : (d.read ((i : Int) - 1)).1 = rb at ho1 hb1 ev ⊢
    have hrl : rb.length ≤ 9223372036854775807 := own_max ho1
    refine loopG 2 (fun ρ' w' => ∃ (j : Nat) (l : List UInt8), j ≤ rb.length ∧ l.length = rb.length ∧ Ext w w' ∧ w'.ownsRow wr.heap.size 5 1 v1 rb.length (B8 l) ∧ ρ' 80 = .int .i64 (j : Nat) ∧ ρ' 79 = .int .i64 (rb.length : Nat) ∧ ρ' 6 = v1 ∧ ρ' 5 = .int .i64 ((i : Int) - 1) ∧ ρ' 0 = ptr b ∧ ρ' 1 = ptr b')
      (fun ρ wr => match ρ 80 with | .int _ s => (rb.length - s).toNat | _ => 0)
      (fun ρ' w' => Ext w w' ∧ ρ' 5 = .int .i64 ((i : Int) - 1) ∧ ρ' 0 = ptr b ∧ ρ' 1 = ptr b') ?_ ?_ ?_
    · exact ⟨0, rb, by omega, rfl, hxr.trans hx1, ho1, rfl, rfl, rfl, h5, h0, h1⟩
    · rintro J hJ ρ' w' ⟨j, l, hj, hl, hx', ho', g80, g79, g6, g5, g0, g1⟩
      rw [g80, g79, X_lss, condS_bool]
      by_cases hjn : j = rb.length
      · rw [if_neg (by simp; omega)]
        exact hJ _ _ ⟨hx', g5, g0, g1⟩
      rw [if_pos (by simp; omega)]
      obtain ⟨g, cap, cur, ev', hg, hh, hjc, hcj, hjl, hput⟩ := own_put ho' (j := j) (by omega) (l[j]'(by omega) ^^^ 255)
      have hixj : ∀ w, (Instr.indexAt 27 v1 (.int .i64 (j : Int))).run Try.prog w = .ok (.pointer (some ⟨g, j, none⟩)) w := fun w => by
        rw [ev', ix Try.underlying27 info_5 j rfl hjl w, sz_5, Nat.mul_one, add_plain, Nat.zero_add]
      rw [g6]
      refine X_of (hixj _) ?_
      refine X_loadB agg_5 hh hcj ?_
      have e255 : (Value.int .u8 255) = .int .u8 (((255 : UInt8).toNat : Nat) : Int) := rfl
      rw [e255]
      refine X_of (u8_xor 5 _ _ _) ?_
      refine X_of (hixj _) ?_
      refine XU_store info_5 sz_5 rfl hh hjc (by show ¬ ((0 : Nat) ≤ j ∧ j < 0); omega) ?_
      rw [X_add]
      show _ ∧ _
      have hws : w.heap.size ≤ wr.heap.size := hxr.size
      refine ⟨⟨j + 1, l.set j (l[j]'(by omega) ^^^ 255), by omega, by rw [List.length_set]; exact hl, Ext.seq hx' (setAt_keep _ _ _ _ _) (fun k hk => by omega), hput, next64 (n := rb.length - 1) (by omega) (by omega), g79, g6, g5, g0, g1⟩, ?_⟩
      show (_ - IntKind.i64.wrap _).toNat < _
      rw [w64 (by omega) (by omega)]
      first | omega | (show _ < (_ : Int).toNat; omega)
    · rintro ρ' w' ⟨hx', g5, g0, g1⟩
      simp only [inBlockS_same, inBlockS_normal, thenS_normal]
      rw [g5, X_add, w64 (by omega) (by omega)]
      show _ ∧ _
      refine ⟨⟨i + 1, by omega, hx', ?_, g0, g1⟩, ?_⟩
      · show Value.int .i64 _ = _
        congr 1
        omega
      · show (100 - ((i : Int) - 1 + 1)).toNat < _
        omega
  · rintro ρ wr hx
    exact hK wr hx
/-- The document's examples. -/
theorem lit_xyz (w : World) : (Instr.buildSlice 27 3 #[(0, (.int .u8 120)), (1, (.int .u8 121)), (2, (.int .u8 122))]).run Try.prog w = .ok (.slice (some ⟨w.heap.size, 0, none⟩) 3 3) (newB w (B8 [120, 121, 122]).toArray 5) := by kernel_rfl
theorem bts_conv {w : World} {K : Value → World → Prop} (l : List UInt8) (n : Nat) (hn : l.length = n) (hn' : n ≤ 9223372036854775807) (h : ∀ v w1, Ext w w1 → Bts w1 v l → (∀ k, v.ownBlock = some k → w.heap.size ≤ k ∧ k < w1.heap.size) → K v w1) :
    X Try.prog (convert 27 27 (.slice (some ⟨w.heap.size, 0, none⟩) n n)) (newB w (B8 l).toArray 5) K := by
  subst hn
  refine X_of (Lib.run_convert_bytes_const w 27 5 (B8 l).toArray l.length l.length Try.underlying27 Try.underlying5) ?_
  refine h _ _ (alloc_ext w _) (mark_bts l hn' 5 _) (fun k hk => ?_)
  injection hk with hk
  have hs : (w.alloc (.cells (B8 l).toArray 5 ((B8 l).toArray.size, (B8 l).toArray.size + 1))).heap.size = w.heap.size + 1 := Array.size_push _
  rw [hs]
  have : w.heap.size = k := hk
  omega
theorem row_none {α : Type} (f : α → Value) (w : World) : Row f w (.slice none 0 0) [] := ⟨none, 0, rfl, Nat.le_refl _, by omega, fun h => absurd h (by simp)⟩
theorem run_lit79 (n : Int) (w : World) : (Instr.buildSlice 79 1 #[(0, .int .i64 n)]).run Try.prog w = .ok (.slice (some ⟨w.heap.size, 0, none⟩) 1 1) (newB w #[.int .i64 n] 3) := by kernel_rfl
theorem row_lit79 (n : Int) (w : World) : Row fI (newB w #[.int .i64 n] 3) (.slice (some ⟨w.heap.size, 0, none⟩) 1 1) [n] := by
  refine ⟨_, _, rfl, Nat.le_refl _, by omega, fun _ => ⟨_, rfl, fun j x hj => ?_⟩⟩
  have hj0 : j = 0 := by
    have := (List.getElem?_eq_some_iff.1 hj).1
    simp at this
    exact this
  subst hj0
  simp at hj
  subst hj
  rw [Addr.add_zero', cell_blk (newB_get _ _ _)]
  rfl
theorem shown08 (hK : ∀ w1, Ext w w1 → K (.bool true) w1) : CALL Try.prog 68 #[] w K := by
  apply call_law08_shown
  unfold B_law08_shown
  refine New_disk (fun h => absurd h (by omega)) ?_
  intro m hm _ b w1 hx1 hlow hd1
  obtain rfl : m = 2 := by omega
  have e0 : decide ((0 : Int) ≠ 0) = false := by decide
  simp only [X_extract0, X_extract1, X_eql_nil_74, Option.isNone_some, X_neq, e0, decide_true, decide_false, GS]
  refine X_of (lit_xyz _) ?_
  refine bts_conv [120, 121, 122] 3 rfl (by decide) ?_
  intro v2 w2 hx2 hb2 hk2
  have hd2 := hd1.ext hx2
  have ws0 : (Dk.new 2).ws.length ≤ 1000000 := by decide
  have out2 : Outs w2 b v2 := fun k hk => ⟨fun hf => by
    have := hd1.lt k ((foot_same (hx2.block b (hd1.lt b (foot_self _ b)) (fun h => h))).1 hf)
    have := (hk2 k hk).1
    omega, (hk2 k hk).2⟩
  refine Write_spec hd2 ws0 hb2 (fun _ k hk => (out2 k hk).1) ?_
  intro w3 hd3 s3
  have r3 : ((Dk.new 2).write 1 [120, 121, 122]).2 = 0 := by decide +kernel
  simp only [r3, X_neq, e0, decide_true, decide_false, GS]
  refine Crash_spec hd3 (row_none _ _) (fun h => absurd h (by simp)) ?_
  intro w4 hd4 s4
  refine Read_spec hd4 ?_
  intro v5 w5 hx5 ho5
  have r5 : (((Dk.new 2).write 1 [120, 121, 122]).1.crash []).read 1 = (List.replicate 128 0, 0) := by decide +kernel
  rw [r5] at ho5
  rw [r5]
  simp only [X_extract0, X_extract1]
  have out5 : Outs w5 b v5 := outs_own ho5 hx5 hd4.lt (Nat.le_refl _)
  have hb5 := (own_bts ho5).1
  have hd5 := hd4.ext hx5
  refine X_of (lit_xyz _) ?_
  refine bts_conv [120, 121, 122] 3 rfl (by decide) ?_
  intro v6 w6 hx6 hb6 hk6
  have hd6 := hd5.ext hx6
  have out6 : Outs w6 b v6 := fun k hk => ⟨fun hf => by
    have := hd5.lt k ((foot_same (hx6.block b (hd5.lt b (foot_self _ b)) (fun h => h))).1 hf)
    have := (hk6 k hk).1
    omega, (hk6 k hk).2⟩
  have out5' := out5.ext (hd5.lt b (foot_self _ b)) hx6
  have hb5' := hb5.ext hx6
  refine Write_spec hd6 (by decide +kernel) hb6 (fun _ k hk => (out6 k hk).1) ?_
  intro w7 hd7 s7
  have r7 : ((((Dk.new 2).write 1 [120, 121, 122]).1.crash []).write 1 [120, 121, 122]).2 = 0 := by decide +kernel
  have out7 := out5'.step s7
  have hb7 := hb5'.step out5' s7
  refine X_of (run_lit79 _ _) ?_
  have hx8 := newB_ext w7 #[.int .i64 2] 3
  have hr8 := row_lit79 2 w7
  have hs8 := newB_size w7 #[.int .i64 2] 3
  have hlt7 := hd7.lt
  have hd8 := hd7.ext hx8
  have out8 := out7.ext (hd7.lt b (foot_self _ b)) hx8
  have hb8 := hb7.ext hx8
  refine Crash_spec hd8 hr8 (fun _ k hk hf => ?_) ?_
  · have e1 : w7.heap.size = k := by injection hk
    have := hlt7 k ((foot_same (hx8.block b (hd7.lt b (foot_self _ b)) (fun h => h))).1 hf)
    omega
  intro w9 hd9 s9
  have out9 := out8.step s9
  have hb9 := hb8.step out8 s9
  refine Read_spec hd9 ?_
  intro v10 w10 hx10 ho10
  have r10 : (((((Dk.new 2).write 1 [120, 121, 122]).1.crash []).write 1 [120, 121, 122]).1.crash [2]).read 1 = ([120, 121] ++ List.replicate 126 0, 0) := by decide +kernel
  rw [r10] at ho10
  rw [r10]
  simp only [X_extract0, X_extract1]
  have out10 := out9.ext (hd9.lt b (foot_self _ b)) hx10
  have hb10 := hb9.ext hx10
  have outB : Outs w10 b v10 := outs_own ho10 hx10 hd9.lt (Nat.le_refl _)
  have hbB := (own_bts ho10).1
  have hd10 := hd9.ext hx10
  have hxd := Keep.drew (fun _ => False) w10
  refine ⟨Keep (foot w10 b), Keep.frame _, ?_⟩
  obtain ⟨a5, c5, ev5⟩ := Bts.slice hb10
  obtain ⟨a10, c10, ev10⟩ := Bts.slice hbB
  have hb10d := hb10.ext hxd
  have hbBd := hbB.ext hxd
  have e128 : decide (((List.replicate 128 (0 : UInt8)).length : Int) = 128) = true := by decide +kernel
  have e128' : decide ((([120, 121] ++ List.replicate 126 (0 : UInt8) : List UInt8).length : Int) = 128) = true := by decide +kernel
  rw [ev5, XP_len_27, XP_eql, ← ev5]
  simp only [e128, decide_true, decide_false, GS]
  refine XR_ok (Keep.frame _) (fun w' k => run_str Try.underlying27 Try.underlying5 Try.underlying9 (hb10d.keep k (fun i hi => (out10 i hi).1))) ?_
  refine X_make Try.underlying27 el_5 128 128 rfl rfl (Nat.le_refl _) (by decide) (by decide) ?_
  have hcells : madeCells (Value.int .u8 0).cells (128 * 1) = (B8 (List.replicate 128 0)).toArray := by
    apply Array.ext'
    have : (madeCells (Value.int .u8 0).cells 128).toList = List.replicate 128 (.int .u8 0) := made_one _ _
    rw [Nat.mul_one, this]
    simp [B8]
  rw [hcells]
  have hx11 := newB_ext (drewW w10) (B8 (List.replicate 128 0)).toArray 5
  have hb11 := lit_bts (w := drewW w10) (List.replicate 128 0) (by simp) 5
  have hl128 : (List.replicate 128 (0 : UInt8)).length = 128 := List.length_replicate
  rw [hl128] at hb11
  refine ⟨hx11.ext, ?_⟩
  generalize newB (drewW w10) (B8 (List.replicate 128 0)).toArray 5 = w11 at hx11 hb11 ⊢
  refine XR_ok (Keep.frame _) (fun w' k => run_str Try.underlying27 Try.underlying5 Try.underlying9 (hb11.keep k (fun i hi hf => by
    have h1 : (drewW w10).heap.size = i := by injection hi
    have h2 := hd10.lt i hf
    have h3 : (drewW w10).heap.size = w10.heap.size := rfl
    omega))) ?_
  simp only [XP_str_eql, str_toList, l8_beq, decide_true, decide_false, GS]
  have hbB11 := hbBd.ext hx11
  rw [ev10, XP_len_27, XP_eql, ← ev10]
  simp only [e128', decide_true, decide_false, GS]
  obtain ⟨u, hu, hub, hblk⟩ := cut_hi Try.underlying27 info_5 hbB11 (kh := .i64) (hj := 3) 3 rfl (by simp)
  refine XP_of hu ?_
  refine XR_ok (Keep.frame _) (fun w' k => run_str Try.underlying27 Try.underlying5 Try.underlying9 (hub.keep k (fun i hi => (outB i (by rw [← hblk]; exact hi)).1))) ?_
  have e3 : decide (([120, 121] ++ List.replicate 126 (0 : UInt8) : List UInt8).take 3 = [120, 121, 0]) = true := by decide +kernel
  have e00 : decide ((0 : Int) = 0) = true := by decide
  simp only [str_lit2, XP_str_eql, str_toList, l8_beq, e3, XP_eql, e00, r7, decide_true, decide_false, GS]
  have hd11 := (hd10.ext hxd).ext hx11
  refine Write_spec hd11 (by decide +kernel) (Bts.nil _) (fun h => absurd h (by simp)) ?_
  intro w12 hd12 s12
  have hf11 : ∀ k, foot w11 b k ↔ foot w10 b k := fun k => foot_same ((hxd.trans hx11).block b (hd10.lt b (foot_self _ b)) (fun h => h))
  refine ⟨s12.keep.mono (fun i _ hf => (hf11 i).1 hf), ?_⟩
  have r12 : ((((((Dk.new 2).write 1 [120, 121, 122]).1.crash []).write 1 [120, 121, 122]).1.crash [2]).write 2 []).2 = 1 := by decide +kernel
  have e11 : decide ((1 : Int) = 1) = true := by decide
  simp only [r12, XP_eql, e11, decide_true, decide_false, GS]
  have low2 := (Step.ext hx2 (hd1.lt b (foot_self _ b))).low hx1.size hlow
  have x3 := s3.out (hx1.trans hx2) low2
  have low3 := s3.low (hx1.trans hx2).size low2
  have x4 := s4.out x3 low3
  have low4 := s4.low x3.size low3
  have low6 := (Step.ext (hx5.trans hx6) (hd4.lt b (foot_self _ b))).low x4.size low4
  have x7 := s7.out (x4.trans (hx5.trans hx6)) low6
  have low7 := s7.low (x4.trans (hx5.trans hx6)).size low6
  have low8 := (Step.ext hx8 (hd7.lt b (foot_self _ b))).low x7.size low7
  have x9 := s9.out (x7.trans hx8) low8
  have low9 := s9.low (x7.trans hx8).size low8
  have low11 := (Step.ext (hx10.trans (hxd.trans hx11)) (hd9.lt b (foot_self _ b))).low x9.size low9
  exact hK w12 (s12.out (x9.trans (hx10.trans (hxd.trans hx11))) low11)
end
end Go.Proofs.Ytggggfcgnkllgaa
end
section
/- What cellaragelaw11.shown computes: true. -/
set_option linter.unusedVariables false
set_option linter.unusedSimpArgs false
namespace Go.Proofs.Ytggggfcgnkllgaa
open Go Go.Sh Go.RowKit
attribute [local irreducible] X XU XP XR CALL loopS resC closS
theorem lit_abc11 (w : World) : (Instr.buildSlice 27 3 #[(0, (.int .u8 97)), (1, (.int .u8 98)), (2, (.int .u8 99))]).run Try.prog w = .ok (.slice (some ⟨w.heap.size, 0, none⟩) 3 3) (newB w (B8 [97, 98, 99]).toArray 5) := by kernel_rfl
theorem str_eqT {x y : List UInt8} (h : x = y) : ((str x).toList == (str y).toList) = true := by rw [h]; simp
theorem head7 : ((layP 7 []).take 6).drop 0 = [0, 0, 0, 7, 0, 0] := by
  have e : layP 7 [] = [0, 0, 0, 7, 0, 0] ++ be 4 (crc (bodyP 7 [])).toNat := rfl
  rw [e, List.drop_zero, List.take_append_of_le_length (by decide)]
  rfl
theorem shown11 {w : World} {K : Value → World → Prop} (hK : ∀ w1, Ext w w1 → K (.bool true) w1) : CALL Try.prog 85 #[] w K := by
  have e00 : decide ((0 : Int) = 0) = true := by decide
  have e110 : decide ((110 : Int) = 110) = true := by decide
  have c0 : chk (pl []) = 0 := by decide
  apply call_law11_shown
  unfold B_law11_shown B_law11_shown_c1
  refine LayC_spec (id := 7) (l := []) (by omega) (row_nil w) (by simp) (by decide) (fun h => absurd c0 h) ?_
  intro _ u1 w1 hx1 ho1
  have hl10 : (layP 7 (pl [])).length = 10 := by rw [layP_len]; rfl
  have hb1 := (own_bts ho1).1
  obtain ⟨a1, cp1, e1⟩ := Bts.slice hb1
  subst e1
  (repeat (simp only [XP_extract0, XP_extract1, XP_extract2, XP_extract3, X_extract0, X_extract1, X_extract2, X_extract3, X_nilS, X_eql_nil_74, X_neq_nil_74, X_eql_nil_124, X_neq_nil_124, X_eql, X_neq, X_lss, X_leq, X_gtr, X_geq, X_not, X_min, X_max, X_len_27, X_len_9, X_len_79, XP_nilS, XP_eql, XP_neq, XP_lss, XP_leq, XP_gtr, XP_geq, XP_not, XP_min, XP_max, XP_len_27, XP_len_9, XP_eql_nil_74, X_str_eql, X_str_neq, XP_str_eql, XP_str_neq, GS, gs_u, decide_true, decide_false, Option.isNone_some, Option.isSome_some, Option.isNone_none, Option.isSome_none, eq_self, Bool.not_true, Bool.not_false, Int.reduceEq, Int.reduceNe, Int.reduceLT, Int.reduceLE, Int.reduceGT, Int.reduceGE]))
  refine Take_none (Bts.nil w1) (by decide) openB_nil ?_
  intro w2 hx2
  have hb2 := hb1.ext hx2
  have ct : decide (((layP 7 (pl [])).length : Int) = 10) = true := by rw [hl10]; rfl
  (repeat (simp only [XP_extract0, XP_extract1, XP_extract2, XP_extract3, X_extract0, X_extract1, X_extract2, X_extract3, X_nilS, X_eql_nil_74, X_neq_nil_74, X_eql_nil_124, X_neq_nil_124, X_eql, X_neq, X_lss, X_leq, X_gtr, X_geq, X_not, X_min, X_max, X_len_27, X_len_9, X_len_79, XP_nilS, XP_eql, XP_neq, XP_lss, XP_leq, XP_gtr, XP_geq, XP_not, XP_min, XP_max, XP_len_27, XP_len_9, XP_eql_nil_74, X_str_eql, X_str_neq, XP_str_eql, XP_str_neq, GS, gs_u, decide_true, decide_false, Option.isNone_some, Option.isSome_some, Option.isNone_none, Option.isSome_none, eq_self, Bool.not_true, Bool.not_false, Int.reduceEq, Int.reduceNe, Int.reduceLT, Int.reduceLE, Int.reduceGT, Int.reduceGE, e00, ct]))
  have hcap : (layP 7 (pl [])).length ≤ cp1 := by
    obtain ⟨_, _, e, h1, _, _⟩ := hb1
    injection e with _ _ e
    omega
  refine X_of (run_slice_hi Try.underlying27 info_5 a1 _ cp1 .i64 6 (by omega) w2) ?_
  have hcut := hb2.cut 0 6 (by omega) (by omega)
  have h6 : (((layP 7 (pl [])).take 6).drop 0) = [0, 0, 0, 7, 0, 0] := head7
  rw [h6] at hcut
  refine X_of (run_str (src := 27) (dst := 9) Try.underlying27 Try.underlying5 Try.underlying9 hcut) ?_
  have est : ({ data := #[0, 0, 0, 7, 0, 0] } : ByteArray) = str [0, 0, 0, 7, 0, 0] := rfl
  rw [est]
  (repeat (simp only [XP_extract0, XP_extract1, XP_extract2, XP_extract3, X_extract0, X_extract1, X_extract2, X_extract3, X_nilS, X_eql_nil_74, X_neq_nil_74, X_eql_nil_124, X_neq_nil_124, X_eql, X_neq, X_lss, X_leq, X_gtr, X_geq, X_not, X_min, X_max, X_len_27, X_len_9, X_len_79, XP_nilS, XP_eql, XP_neq, XP_lss, XP_leq, XP_gtr, XP_geq, XP_not, XP_min, XP_max, XP_len_27, XP_len_9, XP_eql_nil_74, X_str_eql, X_str_neq, XP_str_eql, XP_str_neq, GS, gs_u, decide_true, decide_false, Option.isNone_some, Option.isSome_some, Option.isNone_none, Option.isSome_none, eq_self, Bool.not_true, Bool.not_false, Int.reduceEq, Int.reduceNe, Int.reduceLT, Int.reduceLE, Int.reduceGT, Int.reduceGE, e110, str_eqT]))
  refine X_of (lit_abc11 _) ?_
  refine bts_conv [97, 98, 99] 3 rfl (by decide) ?_
  intro v3 w3 hx3 hb3 hk3
  obtain ⟨a3, cp3, e3⟩ := Bts.slice hb3
  subst e3
  (repeat (simp only [XP_extract0, XP_extract1, XP_extract2, XP_extract3, X_extract0, X_extract1, X_extract2, X_extract3, X_nilS, X_eql_nil_74, X_neq_nil_74, X_eql_nil_124, X_neq_nil_124, X_eql, X_neq, X_lss, X_leq, X_gtr, X_geq, X_not, X_min, X_max, X_len_27, X_len_9, X_len_79, XP_nilS, XP_eql, XP_neq, XP_lss, XP_leq, XP_gtr, XP_geq, XP_not, XP_min, XP_max, XP_len_27, XP_len_9, XP_eql_nil_74, X_str_eql, X_str_neq, XP_str_eql, XP_str_neq, GS, gs_u, decide_true, decide_false, Option.isNone_some, Option.isSome_some, Option.isNone_none, Option.isSome_none, eq_self, Bool.not_true, Bool.not_false, Int.reduceEq, Int.reduceNe, Int.reduceLT, Int.reduceLE, Int.reduceGT, Int.reduceGE]))
  refine X_of (run_build_115d [97, 98, 99] _) ?_
  refine X_buildSliceK Try.underlying100 el_115 (by decide) (by decide) (Pc.len _) ?_
  have hx4 := newB_ext w3 (Pc.cs ⟨⟨nilKy, [97, 98, 99]⟩, .slice a3 3 cp3⟩).toArray 115
  have hg4 := newB_get w3 (Pc.cs ⟨⟨nilKy, [97, 98, 99]⟩, .slice a3 3 cp3⟩).toArray 115
  have hb4 := hb3.ext hx4
  show CALL _ _ _ (newB w3 (Pc.cs ⟨⟨nilKy, [97, 98, 99]⟩, .slice a3 3 cp3⟩).toArray 115) _
  generalize newB w3 (Pc.cs ⟨⟨nilKy, [97, 98, 99]⟩, .slice a3 3 cp3⟩).toArray 115 = w4 at hx4 hg4 hb4 ⊢
  have hrow : RowK 34 Pc.cs w4 (.slice (some ⟨w3.heap.size, 0, none⟩) 1 1) [⟨⟨nilKy, [97, 98, 99]⟩, .slice a3 3 cp3⟩] := by
    refine RowK.ofK (T := 115) (fr := (0, 0)) (by decide) Pc.len ?_ rfl (by decide)
    rw [hg4]
    unfold cellsK
    simp
  refine Size_pieces hrow (fun c hc => by rw [List.mem_singleton.1 hc]; exact hb4) (by show 41 ≤ _; decide) ?_
  intro w5 hx5
  have e51 : decide (((sizeP (pl [(⟨⟨nilKy, [97, 98, 99]⟩, .slice a3 3 cp3⟩ : Pc)]) : Nat) : Int) = 51) = true := rfl
  (repeat (simp only [XP_extract0, XP_extract1, XP_extract2, XP_extract3, X_extract0, X_extract1, X_extract2, X_extract3, X_nilS, X_eql_nil_74, X_neq_nil_74, X_eql_nil_124, X_neq_nil_124, X_eql, X_neq, X_lss, X_leq, X_gtr, X_geq, X_not, X_min, X_max, X_len_27, X_len_9, X_len_79, XP_nilS, XP_eql, XP_neq, XP_lss, XP_leq, XP_gtr, XP_geq, XP_not, XP_min, XP_max, XP_len_27, XP_len_9, XP_eql_nil_74, X_str_eql, X_str_neq, XP_str_eql, XP_str_neq, GS, gs_u, decide_true, decide_false, Option.isNone_some, Option.isSome_some, Option.isNone_none, Option.isSome_none, eq_self, Bool.not_true, Bool.not_false, Int.reduceEq, Int.reduceNe, Int.reduceLT, Int.reduceLE, Int.reduceGT, Int.reduceGE, e51]))
  exact hK w5 ((((hx1.trans hx2).trans hx3).trans hx4).trans hx5)
end Go.Proofs.Ytggggfcgnkllgaa
end
section
/- Bursts and check sums: plain Lean. -/
set_option linter.unusedSimpArgs false
namespace Go.Sh
theorem bit1_inj0 (c : W32) (h : bit1 c = 0#32) : c = 0#32 := by
  unfold bit1 at h
  cases hm : c.msb with
  | true =>
    rw [hm, if_pos rfl] at h
    have h0 := congrArg (fun x : W32 => x.getLsbD 0) h
    simp only [BitVec.getLsbD_xor, BitVec.getLsbD_shiftLeft] at h0
    have hp : poly.getLsbD 0 = true := by decide
    rw [hp] at h0
    simp at h0
  | false =>
    rw [hm, if_neg (by decide), BitVec.xor_zero] at h
    apply BitVec.eq_of_getLsbD_eq
    intro i hi
    rcases Nat.lt_or_ge i 31 with h1 | h1
    · have h0 := congrArg (fun x : W32 => x.getLsbD (i + 1)) h
      simp only [BitVec.getLsbD_shiftLeft] at h0
      simpa [show i + 1 < 32 by omega] using h0
    · have e : i = 31 := by omega
      subst e
      have : c.msb = c.getLsbD 31 := BitVec.msb_eq_getLsbD_last c
      rw [← this, hm]
      simp
theorem iter_inj0 (k : Nat) (c : W32) (h : iter k c = 0#32) : c = 0#32 := by
  induction k generalizing c with
  | zero => exact h
  | succ k ih => exact bit1_inj0 c (ih (bit1 c) h)
/-- One bit at the top. -/
def topBit (b : Bool) : W32 := if b = true then BitVec.ofNat 32 2147483648 else 0#32
def foldBits (c : W32) (l : List Bool) : W32 := l.foldl (fun c b => bit1 (c ^^^ topBit b)) c
theorem foldBits_append (c : W32) (a b : List Bool) : foldBits c (a ++ b) = foldBits (foldBits c a) b := List.foldl_append
theorem foldBits_zeros (c : W32) (n : Nat) : foldBits c (List.replicate n false) = iter n c := by
  induction n generalizing c with
  | zero => rfl
  | succ n ih =>
    show foldBits (bit1 (c ^^^ topBit false)) (List.replicate n false) = iter n (bit1 c)
    rw [ih]
    simp [topBit]
/-- Bits as a word, from the top. -/
def word : List Bool → W32
  | [] => 0#32
  | b :: l => topBit b ^^^ (word l >>> 1)
theorem topBit_get (b : Bool) (i : Nat) (h : i < 31) : (topBit b).getLsbD i = false := by
  unfold topBit
  cases b
  · simp
  · rw [if_pos rfl, BitVec.getLsbD_ofNat]
    have e : (2147483648 : Nat) = 2 ^ 31 := rfl
    rw [e, Nat.testBit_two_pow]
    simp
    omega
theorem word_low (l : List Bool) (i : Nat) (h : i + l.length < 32) : (word l).getLsbD i = false := by
  induction l generalizing i with
  | nil => simp [word]
  | cons b l ih =>
    simp only [List.length_cons] at h
    show (topBit b ^^^ (word l >>> 1)).getLsbD i = false
    rw [BitVec.getLsbD_xor, BitVec.getLsbD_ushiftRight, topBit_get b i (by omega), ih (1 + i) (by omega)]
    rfl
theorem bit1_half (x : W32) (h : x.getLsbD 0 = false) : bit1 (x >>> 1) = x := by
  have hm : (x >>> 1).msb = false := by
    rw [BitVec.msb_eq_getLsbD_last, BitVec.getLsbD_ushiftRight]
    exact BitVec.getLsbD_of_ge _ _ (by decide)
  unfold bit1
  rw [hm, if_neg (by decide), BitVec.xor_zero]
  apply BitVec.eq_of_getLsbD_eq
  intro i hi
  rw [BitVec.getLsbD_shiftLeft, BitVec.getLsbD_ushiftRight]
  rcases Nat.eq_zero_or_pos i with h0 | h0
  · subst h0
    rw [h]
    rfl
  · have e : 1 + (i - 1) = i := by omega
    simp [hi, e]
    omega
theorem foldBits_word (c : W32) (l : List Bool) (h : l.length ≤ 32) : foldBits c l = iter l.length (c ^^^ word l) := by
  induction l generalizing c with
  | nil => simp [foldBits, word, iter]
  | cons b l ih =>
    simp only [List.length_cons] at h
    show foldBits (bit1 (c ^^^ topBit b)) l = iter l.length (bit1 (c ^^^ (topBit b ^^^ (word l >>> 1))))
    rw [ih _ (by omega), ← BitVec.xor_assoc, bit1_xor (c ^^^ topBit b), bit1_half (word l) (word_low l 0 (by omega))]
/-- A byte's bits, the highest first. -/
def bitsN (n : Nat) : List Bool := (List.range 8).map fun i => n.testBit (7 - i)
theorem word_bits : ∀ n, n < 256 → word (bitsN n) = BitVec.ofNat 32 n <<< 24 := by decide +kernel
def bitsOf (l : List UInt8) : List Bool := (l.map fun u => bitsN u.toNat).flatten
theorem bitsN_len (n : Nat) : (bitsN n).length = 8 := by simp [bitsN]
theorem upd1_bits (c : W32) (u : UInt8) : upd1 c u = foldBits c (bitsN u.toNat) := by
  rw [foldBits_word c _ (by rw [bitsN_len]; decide), word_bits _ u.toNat_lt, bitsN_len]
  rfl
theorem fold_bits (c : W32) (l : List UInt8) : fold c l = foldBits c (bitsOf l) := by
  induction l generalizing c with
  | nil => rfl
  | cons u l ih =>
    show fold (upd1 c u) l = foldBits c (bitsN u.toNat ++ bitsOf l)
    rw [ih, foldBits_append, upd1_bits]
def mix2 (a b : List UInt8) : List UInt8 := List.zipWith (· ^^^ ·) a b
theorem upd1_mix2 (s t : W32) (x y : UInt8) : upd1 (s ^^^ t) (x ^^^ y) = upd1 s x ^^^ upd1 t y := by
  have e : ∀ a b c d : W32, a ^^^ b ^^^ (c ^^^ d) = a ^^^ c ^^^ (b ^^^ d) := by
    intro a b c d
    apply BitVec.eq_of_getLsbD_eq
    intro i hi
    simp only [BitVec.getLsbD_xor]
    cases a.getLsbD i <;> cases b.getLsbD i <;> cases c.getLsbD i <;> cases d.getLsbD i <;> rfl
  unfold upd1
  rw [← iter_xor, top_xor, e]
theorem fold_mix2 (a b : List UInt8) (s t : W32) (h : a.length = b.length) : fold (s ^^^ t) (mix2 a b) = fold s a ^^^ fold t b := by
  induction a generalizing b s t with
  | nil =>
    cases b with
    | nil => rfl
    | cons _ _ => cases h
  | cons x a ih =>
    cases b with
    | nil => cases h
    | cons y b =>
      show fold (upd1 _ _) (mix2 a b) = _
      rw [upd1_mix2, ih b _ _ (by simpa using h)]
      rfl
theorem iter_inj (k : Nat) (a b : W32) (h : iter k a = iter k b) : a = b := by
  have h0 : iter k (a ^^^ b) = 0#32 := by rw [iter_xor, h, BitVec.xor_self]
  have h1 := iter_inj0 k _ h0
  have h2 : a ^^^ b ^^^ b = 0#32 ^^^ b := by rw [h1]
  rwa [BitVec.xor_assoc, BitVec.xor_self, BitVec.xor_zero, BitVec.zero_xor] at h2
/-- Bytes and a word behind them are sealed just where the whole leaves what all ones leave. -/
theorem res_iff (p : List UInt8) (d : W32) : fold (~~~0#32) (p ++ be 4 d.toNat) = iter 32 (BitVec.allOnes 32) ↔ d = crc p := by
  have e : ∀ x : W32, x ^^^ ~~~x = BitVec.allOnes 32 := fun x => by
    apply BitVec.eq_of_getLsbD_eq
    intro i hi
    rw [BitVec.getLsbD_xor, BitVec.getLsbD_not, BitVec.getLsbD_allOnes]
    cases x.getLsbD i <;> simp [hi]
  rw [fold_append, fold_be4]
  constructor
  · intro h
    have h1 := iter_inj 32 _ _ h
    rw [← e (fold (~~~0#32) p)] at h1
    have h2 : fold (~~~0#32) p ^^^ (fold (~~~0#32) p ^^^ d) = fold (~~~0#32) p ^^^ (fold (~~~0#32) p ^^^ ~~~(fold (~~~0#32) p)) := by rw [h1]
    rw [← BitVec.xor_assoc, ← BitVec.xor_assoc, BitVec.xor_self, BitVec.zero_xor, BitVec.zero_xor] at h2
    exact h2
  · intro h
    rw [h]
    unfold crc more
    rw [e]
theorem word_zero (l : List Bool) (h : l.length ≤ 32) (hw : word l = 0#32) : ∀ b ∈ l, b = false := by
  have key : iter l.length (word l) = 0#32 := by rw [hw, iter_zero]
  induction l with
  | nil => simp
  | cons b l ih =>
    simp only [List.length_cons] at h
    have h31 : (topBit b ^^^ (word l >>> 1)).getLsbD 31 = false := by
      have : word (b :: l) = topBit b ^^^ (word l >>> 1) := rfl
      rw [← this, hw]
      simp
    rw [BitVec.getLsbD_xor, BitVec.getLsbD_ushiftRight, BitVec.getLsbD_of_ge (word l) (1 + 31) (by decide), Bool.xor_false] at h31
    have hb : b = false := by
      cases b
      · rfl
      · exact absurd h31 (by decide)
    subst hb
    have hl : word l >>> 1 = 0#32 := by
      have : word (false :: l) = topBit false ^^^ (word l >>> 1) := rfl
      rw [hw] at this
      have ht : topBit false = 0#32 := rfl
      rw [ht, BitVec.zero_xor] at this
      exact this.symm
    have hwl : word l = 0#32 := by
      rw [← bit1_half (word l) (word_low l 0 (by omega)), hl, bit1_zero]
    intro x hx
    rcases List.mem_cons.1 hx with rfl | hx
    · rfl
    · exact ih (by omega) hwl (by rw [hwl, iter_zero]) x hx
/-- A burst of at most 32 bits, one of them set, leaves something. -/
theorem burst (e : List UInt8) (a r : Nat) (pat : List Bool) (hp : pat.length ≤ 32) (ht : true ∈ pat) (he : bitsOf e = List.replicate a false ++ pat ++ List.replicate r false) : fold 0#32 e ≠ 0#32 := by
  intro h
  rw [fold_bits, he, foldBits_append, foldBits_append, foldBits_zeros, foldBits_zeros, iter_zero, foldBits_word _ _ hp, BitVec.zero_xor] at h
  have h1 := iter_inj0 _ _ (iter_inj0 _ _ h)
  exact absurd (word_zero pat hp h1 true ht) (by decide)
end Go.Sh
end
section
/- One bit of a row of bytes turned: plain Lean. -/
set_option linter.unusedSimpArgs false
set_option linter.unusedVariables false
namespace Go.Sh
/-- A byte with one bit, counted from the highest. -/
def oneBit (r : Nat) : UInt8 := UInt8.ofNat (128 / 2 ^ r)
def flip (l : List UInt8) (j : Nat) : List UInt8 := l.modify (j / 8) (· ^^^ oneBit (j % 8))
theorem bits_flip1 : ∀ n, n < 256 → ∀ r, r < 8 → bitsN (n ^^^ (128 / 2 ^ r)) = (bitsN n).modify r not := by decide +kernel
theorem oneBit_toNat (r : Nat) (h : r < 8) : (oneBit r).toNat = 128 / 2 ^ r := by
  unfold oneBit
  rw [UInt8.toNat_ofNat']
  have : 128 / 2 ^ r ≤ 128 := Nat.div_le_self _ _
  exact Nat.mod_eq_of_lt (by omega)
theorem bits_flipU (u : UInt8) (r : Nat) (h : r < 8) : bitsN (u ^^^ oneBit r).toNat = (bitsN u.toNat).modify r not := by
  rw [UInt8.toNat_xor, oneBit_toNat r h, bits_flip1 _ u.toNat_lt r h]
theorem flip_length (l : List UInt8) (j : Nat) : (flip l j).length = l.length := by simp [flip]
theorem bitsOf_cons (u : UInt8) (l : List UInt8) : bitsOf (u :: l) = bitsN u.toNat ++ bitsOf l := by simp [bitsOf]
theorem bitsOf_len (l : List UInt8) : (bitsOf l).length = 8 * l.length := by
  induction l with
  | nil => rfl
  | cons u l ih => rw [bitsOf_cons, List.length_append, bitsN_len, ih, List.length_cons]; omega
theorem flip_head (u : UInt8) (l : List UInt8) (j : Nat) (h : j < 8) : flip (u :: l) j = (u ^^^ oneBit j) :: l := by
  unfold flip
  rw [Nat.div_eq_of_lt h, Nat.mod_eq_of_lt h]
  rfl
theorem flip_tail (u : UInt8) (l : List UInt8) (j : Nat) : flip (u :: l) (j + 8) = u :: flip l j := by
  unfold flip
  rw [Nat.add_div_right _ (by decide), Nat.add_mod_right]
  rfl
theorem modify_app_left {α : Type} (f : α → α) (a b : List α) (j : Nat) (h : j < a.length) : (a ++ b).modify j f = a.modify j f ++ b := by
  apply List.ext_getElem?
  intro i
  rw [List.getElem?_modify]
  by_cases hi : i < a.length
  · rw [List.getElem?_append_left hi, List.getElem?_append_left (by simpa using hi), List.getElem?_modify]
  · rw [List.getElem?_append_right (by omega), List.getElem?_append_right (by simp; omega)]
    have : ¬ j = i := by omega
    simp [this]
theorem modify_app_right {α : Type} (f : α → α) (a b : List α) (j : Nat) : (a ++ b).modify (j + a.length) f = a ++ b.modify j f := by
  apply List.ext_getElem?
  intro i
  rw [List.getElem?_modify]
  by_cases hi : i < a.length
  · rw [List.getElem?_append_left hi, List.getElem?_append_left hi]
    have : ¬ j + a.length = i := by omega
    simp [this]
  · rw [List.getElem?_append_right (by omega), List.getElem?_append_right (by omega), List.getElem?_modify]
    by_cases hj : j + a.length = i
    · subst hj
      have : j = j + a.length - a.length := by omega
      simp only [← this, if_true]
    · have : ¬ j = i - a.length := by omega
      simp only [hj, this, if_false]
theorem bitsOf_flip (l : List UInt8) (j : Nat) (h : j < 8 * l.length) : bitsOf (flip l j) = (bitsOf l).modify j not := by
  induction l generalizing j with
  | nil => simp at h
  | cons u l ih =>
    rcases Nat.lt_or_ge j 8 with h8 | h8
    · rw [flip_head u l j h8, bitsOf_cons, bitsOf_cons, bits_flipU u j h8, modify_app_left _ _ _ _ (by rw [bitsN_len]; exact h8)]
    · obtain ⟨k, rfl⟩ : ∃ k, j = k + 8 := ⟨j - 8, by omega⟩
      rw [flip_tail, bitsOf_cons, bitsOf_cons, ih k (by simp at h; omega)]
      have := modify_app_right not (bitsN u.toNat) (bitsOf l) k
      rw [bitsN_len] at this
      exact this.symm
theorem flip_mix2 (a b : List UInt8) (j : Nat) (h : a.length = b.length) : flip (mix2 a b) j = mix2 a (flip b j) := by
  induction a generalizing b j with
  | nil =>
    cases b with
    | nil => simp [flip, mix2]
    | cons _ _ => cases h
  | cons x a ih =>
    cases b with
    | nil => cases h
    | cons y b =>
      have e : mix2 (x :: a) (y :: b) = (x ^^^ y) :: mix2 a b := rfl
      rcases Nat.lt_or_ge j 8 with h8 | h8
      · rw [e, flip_head _ _ _ h8, flip_head _ _ _ h8, UInt8.xor_assoc]
        rfl
      · obtain ⟨k, rfl⟩ : ∃ k, j = k + 8 := ⟨j - 8, by omega⟩
        rw [e, flip_tail, flip_tail, ih b k (by simpa using h)]
        rfl
/-- The first i bits of a mask, turned from a place on. -/
def flips (l : List UInt8) (p m : Nat) : Nat → List UInt8
  | 0 => l
  | i + 1 => if m.testBit i = true then flip (flips l p m i) (p + i) else flips l p m i
theorem flips_length (l : List UInt8) (p m i : Nat) : (flips l p m i).length = l.length := by
  induction i with
  | zero => rfl
  | succ i ih =>
    show (if m.testBit i = true then flip (flips l p m i) (p + i) else flips l p m i).length = _
    split
    · rw [flip_length, ih]
    · exact ih
theorem mix2_zeros (l : List UInt8) : mix2 l (List.replicate l.length 0) = l := by
  induction l with
  | nil => rfl
  | cons x l ih =>
    show (x ^^^ 0) :: mix2 l (List.replicate l.length 0) = _
    rw [ih, UInt8.xor_zero]
theorem flips_mix (l : List UInt8) (p m i : Nat) : flips l p m i = mix2 l (flips (List.replicate l.length 0) p m i) := by
  induction i with
  | zero => exact (mix2_zeros l).symm
  | succ i ih =>
    show (if m.testBit i = true then flip (flips l p m i) (p + i) else flips l p m i) = mix2 l (if m.testBit i = true then flip (flips (List.replicate l.length 0) p m i) (p + i) else flips (List.replicate l.length 0) p m i)
    split
    · rw [ih, flip_mix2 _ _ _ (by rw [flips_length]; simp)]
    · exact ih
theorem bitsOf_zeros (n : Nat) : bitsOf (List.replicate n 0) = List.replicate (8 * n) false := by
  induction n with
  | zero => rfl
  | succ n ih =>
    rw [List.replicate_succ, bitsOf_cons, ih, show bitsN (0 : UInt8).toNat = List.replicate 8 false by decide, List.replicate_append_replicate]
    congr 1
    omega
def pat (m i : Nat) : List Bool := (List.range i).map m.testBit
theorem pat_succ (m i : Nat) : pat m (i + 1) = pat m i ++ [m.testBit i] := by simp [pat, List.range_succ]
theorem pat_length (m i : Nat) : (pat m i).length = i := by simp [pat]
theorem flips_bits (n p m i r : Nat) (h : p + i + r = 8 * n) : bitsOf (flips (List.replicate n 0) p m i) = List.replicate p false ++ pat m i ++ List.replicate r false := by
  induction i generalizing r with
  | zero =>
    show bitsOf (List.replicate n 0) = _
    rw [bitsOf_zeros, show pat m 0 = [] from rfl, List.append_nil, List.replicate_append_replicate]
    congr 1
    omega
  | succ i ih =>
    have hi := ih (r + 1) (by omega)
    rw [List.replicate_succ] at hi
    show bitsOf (if m.testBit i = true then flip (flips (List.replicate n 0) p m i) (p + i) else flips (List.replicate n 0) p m i) = _
    rw [pat_succ, ← List.append_assoc, List.append_assoc (List.replicate p false ++ pat m i)]
    cases hb : m.testBit i with
    | true =>
      rw [if_pos rfl, bitsOf_flip _ _ (by rw [flips_length]; simp; omega), hi]
      have hl : (List.replicate p false ++ pat m i).length = p + i := by simp [pat_length]
      have := modify_app_right not (List.replicate p false ++ pat m i) (false :: List.replicate r false) 0
      rw [Nat.zero_add, hl] at this
      rw [this]
      rfl
    | false =>
      rw [if_neg (by decide), hi]
      rfl
end Go.Sh
end
section
/- A row with some of 32 neighbouring bits turned: its fold, plain Lean. -/
set_option linter.unusedSimpArgs false
set_option linter.unusedVariables false
namespace Go.Sh
theorem flips_none (l : List UInt8) (p m i : Nat) (h : ∀ j, j < i → m.testBit j = false) : flips l p m i = l := by
  induction i with
  | zero => rfl
  | succ i ih =>
    show (if m.testBit i = true then flip (flips l p m i) (p + i) else flips l p m i) = l
    rw [h i (by omega), if_neg (by decide)]
    exact ih (fun j hj => h j (by omega))
theorem flip_append (a b : List UInt8) (j : Nat) (h : j < 8 * a.length) : flip (a ++ b) j = flip a j ++ b :=
  modify_app_left _ _ _ _ (by omega)
theorem flips_append (a b : List UInt8) (p m i : Nat) (h : p + i ≤ 8 * a.length) : flips (a ++ b) p m i = flips a p m i ++ b := by
  induction i with
  | zero => rfl
  | succ i ih =>
    show (if m.testBit i = true then flip (flips (a ++ b) p m i) (p + i) else flips (a ++ b) p m i) = (if m.testBit i = true then flip (flips a p m i) (p + i) else flips a p m i) ++ b
    rw [ih (by omega)]
    split
    · exact flip_append _ _ _ (by rw [flips_length]; omega)
    · rfl
theorem pat_some {m i j : Nat} (hj : j < i) (h : m.testBit j = true) : true ∈ pat m i := by
  unfold pat
  rw [List.mem_map]
  exact ⟨j, List.mem_range.2 hj, h⟩
/-- Such a row folds elsewhere. -/
theorem fold_flips (c : W32) (l : List UInt8) (p m i : Nat) (hp : p + i ≤ 8 * l.length) (hi : i ≤ 32) {j : Nat} (hj : j < i) (h : m.testBit j = true) : fold c (flips l p m i) ≠ fold c l := by
  have hb := burst (flips (List.replicate l.length 0) p m i) p (8 * l.length - (p + i)) (pat m i) (by rw [pat_length]; exact hi) (pat_some hj h) (flips_bits l.length p m i _ (by omega))
  have e : fold c (flips l p m i) = fold c l ^^^ fold 0#32 (flips (List.replicate l.length 0) p m i) := by
    rw [flips_mix]
    have := fold_mix2 l (flips (List.replicate l.length 0) p m i) c 0#32 (by rw [flips_length]; simp)
    rwa [BitVec.xor_zero] at this
  intro h'
  rw [e] at h'
  apply hb
  have h2 := congrArg (fun x => fold c l ^^^ x) h'
  simp only [← BitVec.xor_assoc, BitVec.xor_self, BitVec.zero_xor] at h2
  exact h2
/-- A sealed row with turned bits is not sealed. -/
theorem seal_flips (bs : List UInt8) (p m i : Nat) (hp : p + i ≤ 8 * (bs.length + 4)) (hi : i ≤ 32) {j : Nat} (hj : j < i) (h : m.testBit j = true) (q : List UInt8) (d : W32)
    (e : flips (bs ++ be 4 (crc bs).toNat) p m i = q ++ be 4 d.toNat) : d ≠ crc q := by
  intro hd
  have h1 := (res_iff q d).2 hd
  have h2 := (res_iff bs (crc bs)).2 rfl
  refine fold_flips (~~~0#32) (bs ++ be 4 (crc bs).toNat) p m i (by simpa using hp) hi hj h ?_
  rw [e, h1, h2]
theorem crc_flips (bs t : List UInt8) (p m i : Nat) (hp : p + i ≤ 8 * bs.length) (hi : i ≤ 32) {j : Nat} (hj : j < i) (h : m.testBit j = true) : crc ((flips (bs ++ t) p m i).take bs.length) ≠ crc bs := by
  rw [flips_append _ _ _ _ _ hp, List.take_append_of_le_length (by rw [flips_length]; omega), List.take_of_length_le (by rw [flips_length]; omega)]
  intro e
  unfold crc more at e
  refine fold_flips (~~~0#32) bs p m i hp hi hj h ?_
  have := congrArg (fun x => ~~~x) e
  simpa using this
end Go.Sh
end
section
/- Three facts of the whole program that the kernel cannot reckon head-on: what the first words of the order say. -/
set_option linter.constructorNameAsVariable false
namespace Go.Proofs.Ytggggfcgnkllgaa
open Go Go.Sh Go.RowKit

theorem words_cons (c : Char) (hc : c ≠ Char.ofNat 32) (r : List Char) : wordsSigns (c :: r) = match wordsSigns r with | w :: ws => (c :: w) :: ws | [] => [[c]] := by
  rw [wordsSigns.eq_def]
  split
  · rename_i h; cases h
  · rename_i h; injection h with h1 h2; exact absurd h1 hc
  · rename_i c' r' _ h
    injection h with h1 h2
    subst h1; subst h2
    rfl
theorem words_append : ∀ (u r : List Char), (∀ c ∈ u, c ≠ Char.ofNat 32) → wordsSigns (u ++ Char.ofNat 32 :: r) = u :: wordsSigns r
  | [], r, _ => by rw [List.nil_append, wordsSigns.eq_def]; rfl
  | c :: u, r, h => by
    rw [List.cons_append, words_cons c (h c (by simp)), words_append u r (fun x hx => h x (by simp [hx]))]

theorem words_are : ∃ ws, wordsSigns Try.prog.initOrder.toList = "harness".toList :: "62f34890e3c06fe2011e3a1f7b1d35cb61325f7f5314e4ae60b96fccc44d6865".toList :: "cut".toList :: ws := by
  have h : Try.prog.initOrder = "harness" ++ " " ++ "62f34890e3c06fe2011e3a1f7b1d35cb61325f7f5314e4ae60b96fccc44d6865" ++ " " ++ "cut" ++ " " ++ "at cellarage/cellaragelaw10.SlotLays cellarage/cellaragelaw10.SlotTakes cellarage/cellaragelaw10.SlotBack cellarage/cellaragelaw10.SlotTorn cellarage/cellaragelaw01.CodecOrder cellarage/cellaragelaw10.SlotNewer cellarage/cellaragelaw10.SlotCommits cellarage/cellaragelaw02.CrcSums cellarage/cellaragelaw02.CrcSeals cellarage/cellaragelaw02.CrcGoes cellarage/cellaragelaw02.CrcTells cellarage/cellaragelaw02.CrcBack cellarage/cellaragelaw02.CrcLinear cellarage/cellaragelaw01.CodecTakes cellarage/cellaragelaw01.CodecBack cellarage/cellaragelaw01.CodecShort cellarage/cellaragelaw01.CodecNil cellarage/cellaragelaw08.DiskTorn cellarage/cellaragelaw08.DiskSafe cellarage/cellaragelaw08.DiskFlush cellarage/cellaragelaw08.DiskCuts cellarage/cellaragelaw08.DiskPlays cellarage/cellaragelaw08.DiskNil cellarage/cellaragelaw11.ContLays cellarage/cellaragelaw11.ContBack cellarage/cellaragelaw11.ContOnce cellarage/cellaragelaw11.ContTurned cellarage/cellaragelaw11.ContOwn cellarage/cellaragelaw11.ContTakes cellarage/cellaragelaw12.VaultBack cellarage/cellaragelaw12.VaultShelves cellarage/cellaragelaw12.VaultNil cellarage/cellaragelaw12.VaultPlays cellarage/cellaragelaw20.HomeNil cellarage/cellaragelaw20.HomeBack cellarage/cellaragelaw20.HomeOps cellarage/cellaragelaw20.HomeCrashes cellarage/cellaragelaw20.HomePlays" := by kernel_rfl
  rw [h]
  simp only [String.toList_append, List.append_assoc]
  refine ⟨wordsSigns ("at cellarage/cellaragelaw10.SlotLays cellarage/cellaragelaw10.SlotTakes cellarage/cellaragelaw10.SlotBack cellarage/cellaragelaw10.SlotTorn cellarage/cellaragelaw01.CodecOrder cellarage/cellaragelaw10.SlotNewer cellarage/cellaragelaw10.SlotCommits cellarage/cellaragelaw02.CrcSums cellarage/cellaragelaw02.CrcSeals cellarage/cellaragelaw02.CrcGoes cellarage/cellaragelaw02.CrcTells cellarage/cellaragelaw02.CrcBack cellarage/cellaragelaw02.CrcLinear cellarage/cellaragelaw01.CodecTakes cellarage/cellaragelaw01.CodecBack cellarage/cellaragelaw01.CodecShort cellarage/cellaragelaw01.CodecNil cellarage/cellaragelaw08.DiskTorn cellarage/cellaragelaw08.DiskSafe cellarage/cellaragelaw08.DiskFlush cellarage/cellaragelaw08.DiskCuts cellarage/cellaragelaw08.DiskPlays cellarage/cellaragelaw08.DiskNil cellarage/cellaragelaw11.ContLays cellarage/cellaragelaw11.ContBack cellarage/cellaragelaw11.ContOnce cellarage/cellaragelaw11.ContTurned cellarage/cellaragelaw11.ContOwn cellarage/cellaragelaw11.ContTakes cellarage/cellaragelaw12.VaultBack cellarage/cellaragelaw12.VaultShelves cellarage/cellaragelaw12.VaultNil cellarage/cellaragelaw12.VaultPlays cellarage/cellaragelaw20.HomeNil cellarage/cellaragelaw20.HomeBack cellarage/cellaragelaw20.HomeOps cellarage/cellaragelaw20.HomeCrashes cellarage/cellaragelaw20.HomePlays".toList), ?_⟩
  have e : " ".toList = [Char.ofNat 32] := by kernel_rfl
  rw [e]
  simp only [List.singleton_append]
  rw [words_append _ _ (by decide), words_append _ _ (by decide), words_append _ _ (by decide)]


theorem head_is : ∃ ws, behindMainWord (wordsSigns Try.prog.initOrder.toList) = "cut".toList :: ws := by
  obtain ⟨ws, h⟩ := words_are
  rw [h]
  exact ⟨ws, by kernel_rfl⟩
theorem laysLater_is : Try.prog.laysLater = false := by kernel_rfl
theorem bearsReflect_is : Try.prog.bearsReflect = false := by kernel_rfl
theorem doorRows_is : Try.prog.doorRows = [] := by kernel_rfl
section
variable {P : Program} {ws : List (List Char)}
theorem make_of (h : behindMainWord (wordsSigns P.initOrder.toList) = "cut".toList :: ws) : P.make = some .cut := by
  unfold Program.make
  rw [h]
  kernel_rfl
theorem headLifts_of (h : behindMainWord (wordsSigns P.initOrder.toList) = "cut".toList :: ws) : P.headLifts = [] := by
  unfold Program.headLifts
  rw [h]
  kernel_rfl
theorem liftsFinal_of (h : behindMainWord (wordsSigns P.initOrder.toList) = "cut".toList :: ws) : P.liftsFinal = false := by
  unfold Program.liftsFinal
  rw [headLifts_of h, h]
  kernel_rfl
theorem mayEnter_of (h : behindMainWord (wordsSigns P.initOrder.toList) = "cut".toList :: ws) (h1 : P.laysLater = false) (h2 : P.bearsReflect = false) (h3 : P.doorRows = []) : P.mayEnter = true := by
  unfold Program.mayEnter Program.doorFits
  rw [h, h1, h2, h3]
  kernel_rfl
end
theorem mayEnter_is : Try.prog.mayEnter = true := by
  obtain ⟨ws, h⟩ := head_is
  exact mayEnter_of h laysLater_is bearsReflect_is doorRows_is
theorem liftsFinal_is : Try.prog.liftsFinal = false := by
  obtain ⟨ws, h⟩ := head_is
  exact liftsFinal_of h
theorem make_is : Try.prog.make = some .cut := by
  obtain ⟨ws, h⟩ := head_is
  exact make_of h
end Go.Proofs.Ytggggfcgnkllgaa
end
