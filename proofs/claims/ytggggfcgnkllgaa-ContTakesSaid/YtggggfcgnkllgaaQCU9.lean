/- Part 9 of what the law is proved with: Shown02 Own1 Cont13 Cont14 Does Alike Shown11 Facts. -/
import Derived.Lib.SlBytesConst
import Derived.ProofKit
import Derived.Test.YtggggfcgnkllgaaQCU8
section
/- What cellaragelaw02.shown computes: true. -/
set_option linter.unusedVariables false
set_option linter.unusedSimpArgs false
namespace Go.Proofs.Ytggggfcgnkllgaa
open Go Go.Sh Go.RowKit
attribute [local irreducible] X XU XP XR CALL loopS resC closS

theorem lit_bts {w : World} (l : List UInt8) (hl : l.length ≤ 9223372036854775807) (T : TypeId) : Bts (newB w (B8 l).toArray T) (.slice (some ⟨w.heap.size, 0, none⟩) l.length l.length) l :=
  ⟨_, _, rfl, Nat.le_refl _, hl, fun _ => ⟨_, rfl, fun j u hj => by
    rw [add_plain, cell_blk (newB_get _ _ _), Nat.zero_add]
    simp [B8_getElem?, hj]⟩⟩
theorem lit3 (w : World) : (Instr.buildSlice 27 3 #[(0, (.int .u8 1)), (1, (.int .u8 2)), (2, (.int .u8 3))]).run Try.prog w = .ok (.slice (some ⟨w.heap.size, 0, none⟩) 3 3) (newB w (B8 [1, 2, 3]).toArray 5) := by kernel_rfl
theorem lit9 (w : World) : (Instr.buildSlice 27 9 #[(0, (.int .u8 49)), (1, (.int .u8 50)), (2, (.int .u8 51)), (3, (.int .u8 52)), (4, (.int .u8 53)), (5, (.int .u8 54)), (6, (.int .u8 55)), (7, (.int .u8 56)), (8, (.int .u8 57))]).run Try.prog w =
    .ok (.slice (some ⟨w.heap.size, 0, none⟩) 9 9) (newB w (B8 [49, 50, 51, 52, 53, 54, 55, 56, 57]).toArray 5) := by kernel_rfl
theorem alloc_ext (w : World) (o : Obj) : Ext w (w.alloc o) :=
  ⟨rfl, rfl, rfl, by show _ ≤ (w.heap.push _).size; rw [Array.size_push]; omega, fun i hi _ => by
    show (w.heap.push _)[i]? = _
    exact Array.getElem?_push_lt hi |>.trans (Array.getElem?_eq_getElem hi).symm⟩
theorem mark_bts {w : World} (l : List UInt8) (hl : l.length ≤ 9223372036854775807) (T : TypeId) (fr : Nat × Nat) : Bts (w.alloc (.cells (B8 l).toArray T fr)) (.slice (some ⟨w.heap.size, 0, none⟩) l.length l.length) l :=
  ⟨_, _, rfl, Nat.le_refl _, hl, fun _ => ⟨_, rfl, fun j u hj => by
    rw [add_plain, Nat.zero_add]
    have hg : (w.alloc (.cells (B8 l).toArray T fr)).heap[w.heap.size]? = some (.cells (B8 l).toArray T fr) := by
      show (w.heap.push _)[w.heap.size]? = _
      exact Array.getElem?_push_size
    rw [cell_blk hg]
    simp [B8_getElem?, hj]⟩⟩
theorem crc_nil' : (crc []).toNat = 0 := by decide +kernel
theorem crc_nine' : (crc [49, 50, 51, 52, 53, 54, 55, 56, 57]).toNat = 4236843288 := by decide +kernel
theorem crc_nil : U32 (crc []) = .int .u32 0 := by unfold U32; rw [crc_nil']; rfl
theorem crc_nine : U32 (crc [49, 50, 51, 52, 53, 54, 55, 56, 57]) = .int .u32 4236843288 := by unfold U32; rw [crc_nine']; rfl
theorem str_lit2 (l : List UInt8) : ({ data := l.toArray } : ByteArray) = str l := rfl

theorem shown02 {w : World} {K : Value → World → Prop} (h : ∀ w1, Ext w w1 → K (.bool true) w1) : CALL Try.prog 50 #[] w K := by
  apply call_law02_shown
  unfold B_law02_shown
  refine X_of (lit3 w) ?_
  have hx0 := newB_ext w (B8 [1, 2, 3]).toArray 5
  have hb0 := lit_bts (w := w) [1, 2, 3] (by decide) 5
  refine Open_spec hb0 (by decide) ?_ (fun cs v' w1 hc => absurd hc (by simp [openB]))
  intro _ w1 hx1
  simp only [SS, ST]
  refine Sum_spec (Bts.nil _) ?_
  intro w2 hx2
  simp only [crc_nil, SS, ST, decide_true, if_true]
  refine X_of (lit9 _) ?_
  have hx3 := alloc_ext w2 (.cells (B8 [49, 50, 51, 52, 53, 54, 55, 56, 57]).toArray 5 ((B8 [49, 50, 51, 52, 53, 54, 55, 56, 57]).toArray.size, (B8 [49, 50, 51, 52, 53, 54, 55, 56, 57]).toArray.size + 1))
  have hb3 := mark_bts (w := w2) [49, 50, 51, 52, 53, 54, 55, 56, 57] (by decide) 5 ((B8 [49, 50, 51, 52, 53, 54, 55, 56, 57]).toArray.size, (B8 [49, 50, 51, 52, 53, 54, 55, 56, 57]).toArray.size + 1)
  refine X_of (Lib.run_convert_bytes_const w2 27 5 (B8 [49, 50, 51, 52, 53, 54, 55, 56, 57]).toArray 9 9 Try.underlying27 Try.underlying5) ?_
  refine Sum_spec hb3 ?_
  intro w4 hx4
  simp only [crc_nine, SS, ST, decide_true, if_true]
  refine Seal_spec (Bts.nil _) (by decide) ?_
  intro v5 w5 hx5 ho5
  refine X_str Try.underlying27 Try.underlying5 Try.underlying9 (own_bts ho5).1 ?_
  have es : decide (sealB [] = ([0, 0, 0, 0] : List UInt8)) = true := by decide +kernel
  simp only [str_lit2, str_toList, l8_beq, es, SS, ST, if_true, Bool.not_false]
  exact h _ (hx0.trans (hx1.trans (hx2.trans (hx3.trans (hx4.trans hx5)))))
end Go.Proofs.Ytggggfcgnkllgaa
end
section
/- Pieces of the call's own, turned and made longer. -/
set_option linter.unusedVariables false
set_option linter.unusedSimpArgs false
namespace Go.Proofs.Ytggggfcgnkllgaa
open Go Go.Sh Go.RowKit
attribute [local irreducible] X XU XP XR CALL loopS resC closS
theorem own_set {w : World} {base e k n : Nat} {v : Value} {cells : List Value} (ho : w.ownsRow base e k v n cells) {p : Nat} (hp : p < n * k) (u : Value) :
    ∃ g cap cur, v = .slice (some ⟨g, 0, none⟩) n cap ∧ base ≤ g ∧ w.heap[g]? = some (.cells cur e (0, 0)) ∧ p < cur.size ∧
      (setAt w g (cur.setIfInBounds p u) e (0, 0)).ownsRow base e k v n (cells.set p u) := by
  have hl : cells.length = n * k := ho.1
  rcases id ho.2 with ⟨_, h0⟩ | ⟨g, cap, cur, hv, hg, hh, hn, hm, hs, ht⟩
  · subst h0; omega
  · have hcs : n * k ≤ cur.size := by
      have := congrArg List.length ht
      rw [List.length_take, hl, Array.length_toList] at this
      omega
    refine ⟨g, cap, cur, hv, hg, hh, by omega, ⟨by simp [hl], .inr ⟨g, cap, _, hv, hg, setAt_same (lt_of_blk hh), hn, hm, by simpa using hs, ?_⟩⟩⟩
    rw [← ht]
    simp [List.take_set]
theorem cellsK_set (ps : List Pc) (i : Nat) (h : i < ps.length) (u : Value) : cellsK Pc.cs (ps.set i ⟨ps[i].p, u⟩) = (cellsK Pc.cs ps).set (i * 34 + 33) u := by
  have hlen := cellsK_len Pc.len ps
  apply List.ext_getElem?
  intro p
  rw [cellsK_get (by decide) Pc.len]
  by_cases hpi : p / 34 = i
  · subst hpi
    rw [List.getElem?_set_self h, Option.bind_some]
    by_cases h33 : p % 34 = 33
    · have e : p / 34 * 34 + 33 = p := by omega
      have hlt : p < (cellsK Pc.cs ps).length := by rw [hlen]; omega
      rw [e, List.getElem?_set_self hlt, h33]
      exact Pc.dvAt _
    · rw [List.getElem?_set_ne (by omega), cellsK_get (by decide) Pc.len, List.getElem?_eq_getElem h, Option.bind_some]
      unfold Pc.cs
      have hk : ps[p / 34].p.k.cs.length = 33 := Ky.cs_len _
      have hm : p % 34 < 33 := by omega
      rw [List.getElem?_append_left (by show p % 34 < (ps[p / 34].p.k.cs).length; omega), List.getElem?_append_left (by omega)]
  · rw [List.getElem?_set_ne (by omega), List.getElem?_set_ne (by omega), cellsK_get (by decide) Pc.len]
structure Mine (w : World) (base : Nat) (vl : Value) (ps : List Pc) (f : Nat → List UInt8) : Prop where
  row : OwnK 34 115 Pc.cs w base vl ps
  data : ∀ j (h : j < ps.length), w.ownsRow base 5 1 (ps[j]).dv (f j).length (B8 (f j))
  apart : ∀ j k (hj : j < ps.length) (hk : k < ps.length), j ≠ k → ∀ g, ps[j].dv.ownBlock = some g → ps[k].dv.ownBlock ≠ some g
def upAt (f : Nat → List UInt8) (i : Nat) (x : List UInt8) : Nat → List UInt8 := fun j => if j = i then x else f j
theorem upAt_self (f : Nat → List UInt8) (i : Nat) (x : List UInt8) : upAt f i x i = x := if_pos rfl
theorem upAt_other {f : Nat → List UInt8} {i j : Nat} (h : j ≠ i) (x : List UInt8) : upAt f i x j = f j := if_neg h
def bsAt (l : List Pp) (j : Nat) : List UInt8 := (l.map Pp.bs).getD j []
theorem bsAt_get {l : List Pp} {j : Nat} (h : j < l.length) : bsAt l j = l[j].bs := by
  unfold bsAt
  rw [List.getD_eq_getElem?_getD, List.getElem?_map, List.getElem?_eq_getElem h]
  rfl
theorem Told.mine {w : World} {base q : Nat} {vl : Value} {cs : List Pc} (h : Told w base q vl cs) : Mine w base vl cs (bsAt (pl cs)) where
  row := h.row
  data := by
    intro j hj
    have e : bsAt (pl cs) j = cs[j].p.bs := by rw [bsAt_get (by simpa using hj)]; simp
    rw [e]
    exact h.data _ (List.getElem_mem hj)
  apart := by
    intro j k hj hk hne g hg hg'
    rcases Nat.lt_or_gt_of_ne hne with h' | h'
    · exact (List.pairwise_iff_getElem.1 h.apart) j k hj hk h' g hg hg'
    · exact (List.pairwise_iff_getElem.1 h.apart) k j hk hj h' g hg' hg
theorem Mine.keep {w w1 : World} {base : Nat} {vl : Value} {ps : List Pc} {f : Nat → List UInt8} {D : Nat → Prop} (h : Mine w base vl ps f) (k : Keep D w w1) (hd : ∀ g, base ≤ g → ¬ D g) : Mine w1 base vl ps f :=
  ⟨h.row.keep k (fun g hg => hd g (h.row.lt g hg).1), fun j hj => own_keepD (h.data j hj) k (fun g hg => hd g ((h.data j hj).lt g hg).1), h.apart⟩
theorem Mine.slice {w : World} {base : Nat} {vl : Value} {ps : List Pc} {f : Nat → List UInt8} (h : Mine w base vl ps f) : RowK 34 Pc.cs w vl ps := OwnK.rowK (by decide) Pc.len h.row
section
variable {w : World} {base i : Nat} {vl : Value} {ps : List Pc} {f : Nat → List UInt8}
theorem X_mineXor {k : Nat} {K : Value → Value → Value → Value → Value → Value → Value → World → Prop} (h : Mine w base vl ps f) (hi : i < ps.length) (hk : k < (f i).length) (u : UInt8)
    (hK : ∀ a b c d e f1 g w1, Mine w1 base vl ps (upAt f i ((f i).set k ((f i)[k] ^^^ u))) → Keep (fun g => base ≤ g) w w1 → K a b c d e f1 g w1) :
    X Try.prog (Instr.indexAt 100 vl (.int .i64 (i : Int))) w fun a w1 => X Try.prog (Instr.fieldAt 115 a 1) w1 fun b w2 => X Try.prog (Instr.loadAt 27 b) w2 fun c w3 =>
      X Try.prog (Instr.indexAt 27 c (.int .i64 (k : Int))) w3 fun d w4 => X Try.prog (Instr.loadAt 5 d) w4 fun e w5 => X Try.prog (binOp .xor 5 e (.int .u8 ((u.toNat : Nat) : Int))) w5 fun f1 w6 =>
      X Try.prog (Instr.indexAt 27 c (.int .i64 (k : Int))) w6 fun g w7 => XU Try.prog (Instr.storeAt 5 g f1) w7 fun w8 => K a b c d e f1 g w8 := by
  refine X_dataAt h.slice hi ?_
  intro v1 v2
  refine X_xorAt (h.data i hi) hk u ?_
  intro a b c d w1 ho hk1
  refine hK _ _ _ _ _ _ _ w1 ⟨h.row.keep hk1 (fun g hg => own_neO h.row (h.data i hi) (by decide) hg), fun j hj => ?_, h.apart⟩ (hk1.mono (fun g _ hg => ((h.data i hi).lt g hg).1))
  by_cases hji : j = i
  · subst hji
    rw [upAt_self, List.length_set]
    exact ho
  · rw [upAt_other hji]
    exact own_keepD (h.data j hj) hk1 (fun g hg => h.apart j i hj hi hji g hg)
theorem X_mineAdd {K : Value → Value → Value → Value → Value → Value → Value → World → Prop} (h : Mine w base vl ps f) (hi : i < ps.length) (hl : (f i).length ≤ 1000000)
    (hK : ∀ a b c d e f1 g dv w1, Mine w1 base vl (ps.set i ⟨ps[i].p, dv⟩) (upAt f i (f i ++ [1, 2, 3])) → Keep (fun g => base ≤ g) w w1 → K a b c d e f1 g w1) :
    X Try.prog (Instr.indexAt 100 vl (.int .i64 (i : Int))) w fun a w1 => X Try.prog (Instr.fieldAt 115 a 1) w1 fun b w2 => X Try.prog (Instr.loadAt 27 b) w2 fun c w3 =>
      X Try.prog (Instr.buildSlice 27 3 #[(0, (.int .u8 1)), (1, (.int .u8 2)), (2, (.int .u8 3))]) w3 fun d w4 => X Try.prog (Builtin.append_ #[27, 27] 27 #[c, d]) w4 fun e w5 =>
      X Try.prog (Instr.indexAt 100 vl (.int .i64 (i : Int))) w5 fun f1 w6 => X Try.prog (Instr.fieldAt 115 f1 1) w6 fun g w7 => XU Try.prog (Instr.storeAt 27 g e) w7 fun w8 => K a b c d e f1 g w8 := by
  refine X_dataAt h.slice hi ?_
  intro v1 v2
  refine X_of (lit3 w) ?_
  have hx1 := newB_ext w (B8 [1, 2, 3]).toArray 5
  have hg1 := newB_get w (B8 [1, 2, 3]).toArray 5
  show X _ _ (newB w (B8 [1, 2, 3]).toArray 5) _
  generalize newB w (B8 [1, 2, 3]).toArray 5 = w1 at hx1 hg1 ⊢
  have h1 := h.keep hx1 (fun _ _ h => h)
  have hb3 : Bts w1 (.slice (some ⟨w.heap.size, 0, none⟩) 3 3) [1, 2, 3] := by
    refine ⟨_, 3, rfl, Nat.le_refl _, by decide, fun _ => ⟨_, rfl, fun j u hj => ?_⟩⟩
    rw [add_plain, Nat.zero_add, cell_blk hg1]
    have : (B8 [1, 2, 3])[j]? = some (.int .u8 ((u.toNat : Nat) : Int)) := by rw [B8_getElem?, hj]; rfl
    simpa using this
  have hbase : base ≤ w1.heap.size := by
    have hp : 0 < ps.length := by omega
    rcases h1.row.2 with ⟨_, h0⟩ | ⟨g, cap, cur, _, hg, hh, _⟩
    · omega
    · have := lt_of_blk hh
      omega
  refine X_append_btsW Try.underlying27 el_5 (h1.data i hi) hb3 (by simp; omega) hbase ?_
  intro dv' w2 ho2 hk2 hn2
  have hk2' : Keep (fun g => ps[i].dv.ownBlock = some g) w1 w2 := hk2.mono (fun g _ hg => hg.symm)
  have hrow2 : OwnK 34 115 Pc.cs w2 base vl ps := h1.row.keep hk2' (fun g hg => own_neO h1.row (h1.data i hi) (by decide) hg)
  obtain ⟨g, cap, cur, ev, hg, hh, hpc, hset⟩ := own_set hrow2 (p := i * 34 + 33) (by omega) dv'
  obtain ⟨ad, cd, ed⟩ := Bts.slice (own_bts ho2).1
  have hix : ∀ w', (Instr.indexAt 100 vl (.int .i64 (i : Int))).run Try.prog w' = .ok (.pointer (some ⟨g, 0 + i * 34, none⟩)) w' := by
    intro w'
    have := ix Try.underlying100 info_115 (a := ⟨g, 0, none⟩) (n := ps.length) (c := cap) (k := .i64) (ii := (i : Int)) i rfl hi w'
    rw [sz_115, add_plain] at this
    rw [ev]
    exact this
  refine X_of (hix _) ?_
  rw [X_field_115_1]
  refine XU_store info_27 sz_27 (by rw [ed]; rfl) hh (by omega) (by show ¬ ((0 : Nat) ≤ _ ∧ _ < 0); omega) ?_
  have e33 : 0 + i * 34 + 33 = i * 34 + 33 := by omega
  rw [e33]
  have hk3 := setAt_keep w2 g (cur.setIfInBounds (i * 34 + 33) dv') 115 (0, 0)
  generalize setAt w2 g (cur.setIfInBounds (i * 34 + 33) dv') 115 (0, 0) = w3 at hset hk3 ⊢
  have hvb : vl.ownBlock = some g := by rw [ev]; rfl
  have hkeep : Keep (fun g => base ≤ g) w w3 := by
    refine Keep.trans (Keep.trans (Keep.ext hx1) (hk2'.mono (fun j _ hj => ((h1.data i hi).lt j hj).1))) (hk3.mono (fun j _ hj => by rw [hj]; exact hg))
  have after : ∀ {v : Value} {x : List UInt8}, w2.ownsRow base 5 1 v x.length (B8 x) → w3.ownsRow base 5 1 v x.length (B8 x) := by
    intro v x hv
    refine own_keepD hv hk3 (fun j hj hjg => ?_)
    subst hjg
    exact own_neT hv hh (by decide) hj
  have hlen : (ps.set i ⟨ps[i].p, dv'⟩).length = ps.length := List.length_set
  refine hK _ _ _ _ _ _ _ dv' w3 ⟨?_, fun j hj => ?_, fun j k hj hk hne b hb hb' => ?_⟩ hkeep
  · unfold OwnK
    rw [hlen, cellsK_set ps i hi dv']
    exact hset
  · by_cases hji : j = i
    · subst hji
      rw [upAt_self, List.getElem_set_self]
      refine after ?_
      rw [List.length_append]
      exact ho2
    · rw [upAt_other hji, List.getElem_set_ne (by omega)]
      have hj' : j < ps.length := by omega
      exact after (own_keepD (h1.data j hj') hk2' (fun b hb => h1.apart j i hj' hi hji b hb))
  · have hj' : j < ps.length := by omega
    have hk' : k < ps.length := by omega
    have new : ∀ m (hm : m < ps.length), m ≠ i → ∀ b, dv'.ownBlock = some b → ps[m].dv.ownBlock ≠ some b := by
      intro m hm hmi b hb hb'
      rcases hn2 b hb with h2 | h2
      · exact h1.apart i m hi hm (Ne.symm hmi) b h2 hb'
      · have := ((h1.data m hm).lt b hb').2
        omega
    by_cases hji : j = i
    · subst hji
      rw [List.getElem_set_self] at hb
      rw [List.getElem_set_ne (by omega)] at hb'
      exact new k hk' (Ne.symm hne) b hb hb'
    · rw [List.getElem_set_ne (by omega)] at hb
      by_cases hki : k = i
      · subst hki
        rw [List.getElem_set_self] at hb'
        exact new j hj' hji b hb' hb
      · rw [List.getElem_set_ne (by omega)] at hb'
        exact h1.apart j k hj' hk' hne b hb hb'
end
end Go.Proofs.Ytggggfcgnkllgaa
end
section
/- One piece; the reference takes. -/
set_option linter.unusedVariables false
set_option linter.unusedSimpArgs false
namespace Go.Proofs.Ytggggfcgnkllgaa
open Go Go.Sh Go.RowKit
attribute [local irreducible] X XU XP XR CALL loopS resC closS
def nilPc : Pc := ⟨⟨nilKy, []⟩, .slice none 0 0⟩
theorem nilPc_cs : nilPc.cs = z115 := by
  unfold Pc.cs nilPc
  show nilKy.cs ++ [Value.slice none 0 0] = _
  rw [nilKy_cs]
theorem nilPc_in (w : World) : nilPc.In w := Bts.nil w
theorem run_build_115n (w : World) : (Instr.build 115 #[]).run Try.prog w = .ok (.agg nilPc.cs.toArray) w := by
  rw [nilPc_cs]
  exact run_build2 (a := 33) (b := 1) (z := z115) Try.underlying115 zero_115 rfl rfl sz_113 sz_27 info_113 info_27 rfl w
section
variable {w : World} {K : Value → World → Prop}
theorem One_spec {v : Value} {b : List UInt8} {at_ : Int} (hb : Bts w v b) (hl : b.length ≤ 1000000)
    (h0 : (∀ id l, id < 4294967296 → chk l = 0 → b ≠ layP id l) → ∀ w1, Ext w w1 → K (.tuple #[.agg nilPc.cs.toArray, i64v 110]) w1)
    (h1 : ∀ id l, id < 4294967296 → chk l = 0 → b = layP id l → (at_ < 0 ∨ (l.length : Int) ≤ at_) → ∀ w1, Ext w w1 → K (.tuple #[.agg nilPc.cs.toArray, i64v 2]) w1)
    (h2 : ∀ id l, id < 4294967296 → chk l = 0 → b = layP id l → ∀ i (h : i < l.length), at_ = (i : Int) → ∀ c w1, Ext w w1 → c.p = l[i] → c.In w1 → K (.tuple #[.agg (Pc.cs c).toArray, i64v 0]) w1) : CALL Try.prog 95 #[v, .int .i64 at_] w K := by
  have n110 : decide ((110 : Int) ≠ 0) = true := by decide
  have n00 : decide ((0 : Int) ≠ 0) = false := by decide
  apply call_cont_One
  unfold B_cont_One
  refine X_alloc zero_115 ?_
  have hx1 := newB_ext w z115.toArray 115
  have hg1 := newB_get w z115.toArray 115
  show CALL _ _ _ (newB w z115.toArray 115) _
  generalize newB w z115.toArray 115 = w1 at hx1 hg1 ⊢
  have fin : ∀ (c : Pc) (w2 : World) (r : Value), Ext w1 w2 → c.In w2 → (∀ g, c.dv.ownBlock = some g → g ≠ w.heap.size) → (∀ w3, Ext w w3 → c.In w3 → K (.tuple #[.agg (Pc.cs c).toArray, r]) w3) →
      XU Try.prog (Instr.storeAt 115 (.pointer (some ⟨w.heap.size, 0, none⟩)) (.agg (Pc.cs c).toArray)) w2 fun w3 => resC Try.prog 115 (.pointer (some ⟨w.heap.size, 0, none⟩)) w3 fun r0 => K (.tuple #[r0, r]) w3 := by
    intro c w2 r hx2 hc hno hK
    have hq := hx2.get hg1
    refine XU_storeAgg info_115 hq (by rw [sz_115]; simp) (by rw [sz_115, Pc.len]) (Pc.one hc) ?_
    refine resC_agg Try.underlying115 agg_115 info_115 (setAt_same (lt_of_blk hq)) (by rw [sz_115, Pc.len]) ?_
    have hk := setAt_keep w2 w.heap.size (Pc.cs c).toArray 115 (0, 0)
    exact hK _ (Ext.seq (hx1.trans hx2) hk (fun i hi => by omega)) (Bts.keep hc hk (fun g hg he => hno g hg he))
  have hs1 := lt_of_blk hg1
  refine Take_spec (hb.ext hx1) hl (fun hno w2 hx2 => ?_) (fun id l hid hc he q vl cs w2 hcs hx2 t2 => ?_)
  · (repeat (simp only [XP_extract0, XP_extract1, XP_extract2, XP_extract3, X_extract0, X_extract1, X_extract2, X_extract3, X_nilS, X_eql_nil_74, X_neq_nil_74, X_eql_nil_124, X_neq_nil_124, X_eql, X_neq, X_lss, X_leq, X_gtr, X_geq, X_not, X_min, X_max, X_len_27, X_len_9, X_len_79, XP_nilS, XP_eql, XP_neq, XP_lss, XP_leq, XP_gtr, XP_geq, XP_not, XP_min, XP_max, XP_len_27, XP_len_9, XP_eql_nil_74, X_str_eql, X_str_neq, XP_str_eql, XP_str_neq, GS, gs_u, decide_true, decide_false, Option.isNone_some, Option.isSome_some, Option.isNone_none, Option.isSome_none, eq_self, Bool.not_true, Bool.not_false, Int.reduceEq, Int.reduceNe, Int.reduceLT, Int.reduceLE, Int.reduceGT, Int.reduceGE, n110]))
    refine X_of (run_build_115n _) ?_
    exact fin nilPc w2 _ hx2 (nilPc_in _) (fun g hg => by cases hg) (fun w3 hx3 _ => h0 hno w3 hx3)
  · have hcl : cs.length = l.length := by rw [← hcs]; simp
    have hn := (chk_ok hc).2.1
    obtain ⟨a, c, ev⟩ := t2.slice.slice
    (repeat (simp only [XP_extract0, XP_extract1, XP_extract2, XP_extract3, X_extract0, X_extract1, X_extract2, X_extract3, X_nilS, X_eql_nil_74, X_neq_nil_74, X_eql_nil_124, X_neq_nil_124, X_eql, X_neq, X_lss, X_leq, X_gtr, X_geq, X_not, X_min, X_max, X_len_27, X_len_9, X_len_79, XP_nilS, XP_eql, XP_neq, XP_lss, XP_leq, XP_gtr, XP_geq, XP_not, XP_min, XP_max, XP_len_27, XP_len_9, XP_eql_nil_74, X_str_eql, X_str_neq, XP_str_eql, XP_str_neq, GS, gs_u, decide_true, decide_false, Option.isNone_some, Option.isSome_some, Option.isNone_none, Option.isSome_none, eq_self, Bool.not_true, Bool.not_false, Int.reduceEq, Int.reduceNe, Int.reduceLT, Int.reduceLE, Int.reduceGT, Int.reduceGE, n00]))
    by_cases hneg : at_ < 0
    · have c1 : decide (at_ < 0) = true := by simpa using hneg
      (repeat (simp only [XP_extract0, XP_extract1, XP_extract2, XP_extract3, X_extract0, X_extract1, X_extract2, X_extract3, X_nilS, X_eql_nil_74, X_neq_nil_74, X_eql_nil_124, X_neq_nil_124, X_eql, X_neq, X_lss, X_leq, X_gtr, X_geq, X_not, X_min, X_max, X_len_27, X_len_9, X_len_79, XP_nilS, XP_eql, XP_neq, XP_lss, XP_leq, XP_gtr, XP_geq, XP_not, XP_min, XP_max, XP_len_27, XP_len_9, XP_eql_nil_74, X_str_eql, X_str_neq, XP_str_eql, XP_str_neq, GS, gs_u, decide_true, decide_false, Option.isNone_some, Option.isSome_some, Option.isNone_none, Option.isSome_none, eq_self, Bool.not_true, Bool.not_false, Int.reduceEq, Int.reduceNe, Int.reduceLT, Int.reduceLE, Int.reduceGT, Int.reduceGE, c1]))
      refine X_of (run_build_115n _) ?_
      exact fin nilPc w2 _ hx2 (nilPc_in _) (fun g hg => by cases hg) (fun w3 hx3 _ => h1 id l hid hc he (.inl hneg) w3 hx3)
    · have c1 : decide (at_ < 0) = false := by simpa using hneg
      (repeat (simp only [XP_extract0, XP_extract1, XP_extract2, XP_extract3, X_extract0, X_extract1, X_extract2, X_extract3, X_nilS, X_eql_nil_74, X_neq_nil_74, X_eql_nil_124, X_neq_nil_124, X_eql, X_neq, X_lss, X_leq, X_gtr, X_geq, X_not, X_min, X_max, X_len_27, X_len_9, X_len_79, XP_nilS, XP_eql, XP_neq, XP_lss, XP_leq, XP_gtr, XP_geq, XP_not, XP_min, XP_max, XP_len_27, XP_len_9, XP_eql_nil_74, X_str_eql, X_str_neq, XP_str_eql, XP_str_neq, GS, gs_u, decide_true, decide_false, Option.isNone_some, Option.isSome_some, Option.isNone_none, Option.isSome_none, eq_self, Bool.not_true, Bool.not_false, Int.reduceEq, Int.reduceNe, Int.reduceLT, Int.reduceLE, Int.reduceGT, Int.reduceGE, c1]))
      rw [ev, X_len_100, X_geq, ← ev]
      by_cases hge : (cs.length : Int) ≤ at_
      · have c2 : decide (at_ ≥ (cs.length : Int)) = true := by simpa using hge
        (repeat (simp only [XP_extract0, XP_extract1, XP_extract2, XP_extract3, X_extract0, X_extract1, X_extract2, X_extract3, X_nilS, X_eql_nil_74, X_neq_nil_74, X_eql_nil_124, X_neq_nil_124, X_eql, X_neq, X_lss, X_leq, X_gtr, X_geq, X_not, X_min, X_max, X_len_27, X_len_9, X_len_79, XP_nilS, XP_eql, XP_neq, XP_lss, XP_leq, XP_gtr, XP_geq, XP_not, XP_min, XP_max, XP_len_27, XP_len_9, XP_eql_nil_74, X_str_eql, X_str_neq, XP_str_eql, XP_str_neq, GS, gs_u, decide_true, decide_false, Option.isNone_some, Option.isSome_some, Option.isNone_none, Option.isSome_none, eq_self, Bool.not_true, Bool.not_false, Int.reduceEq, Int.reduceNe, Int.reduceLT, Int.reduceLE, Int.reduceGT, Int.reduceGE, c2]))
        refine X_of (run_build_115n _) ?_
        exact fin nilPc w2 _ hx2 (nilPc_in _) (fun g hg => by cases hg) (fun w3 hx3 _ => h1 id l hid hc he (.inr (by rw [← hcl]; exact hge)) w3 hx3)
      · have c2 : decide (at_ ≥ (cs.length : Int)) = false := by simpa using hge
        (repeat (simp only [XP_extract0, XP_extract1, XP_extract2, XP_extract3, X_extract0, X_extract1, X_extract2, X_extract3, X_nilS, X_eql_nil_74, X_neq_nil_74, X_eql_nil_124, X_neq_nil_124, X_eql, X_neq, X_lss, X_leq, X_gtr, X_geq, X_not, X_min, X_max, X_len_27, X_len_9, X_len_79, XP_nilS, XP_eql, XP_neq, XP_lss, XP_leq, XP_gtr, XP_geq, XP_not, XP_min, XP_max, XP_len_27, XP_len_9, XP_eql_nil_74, X_str_eql, X_str_neq, XP_str_eql, XP_str_neq, GS, gs_u, decide_true, decide_false, Option.isNone_some, Option.isSome_some, Option.isNone_none, Option.isSome_none, eq_self, Bool.not_true, Bool.not_false, Int.reduceEq, Int.reduceNe, Int.reduceLT, Int.reduceLE, Int.reduceGT, Int.reduceGE, c2]))
        obtain ⟨i, rfl⟩ : ∃ i : Nat, at_ = (i : Int) := ⟨at_.toNat, by omega⟩
        have hi : i < cs.length := by omega
        obtain ⟨g, o, hix, hcell⟩ := piece_at t2.slice hi
        refine X_of (hix _) ?_
        refine X_of (load_cells Try.underlying115 agg_115 info_115 (l := cs[i].cs) (by rw [sz_115, Pc.len]) (fun j u hj => by rw [add_plain]; exact hcell j u hj)) ?_
        have hmem := List.getElem_mem hi
        have hd := t2.data _ hmem
        refine fin cs[i] w2 _ hx2 (t2.inn _ hmem) (fun g hg hgw => ?_) (fun w3 hx3 hc3 => h2 id l hid hc he i (by omega) rfl cs[i] w3 hx3 ?_ hc3)
        · have := (hd.lt g hg).1
          omega
        · have : (pl cs)[i]? = l[i]? := by rw [hcs]
          rw [List.getElem?_map, List.getElem?_eq_getElem hi, List.getElem?_eq_getElem (by omega)] at this
          simpa using this
end
end Go.Proofs.Ytggggfcgnkllgaa
end
section
/- The reference takes. -/
set_option linter.unusedVariables false
set_option linter.unusedSimpArgs false
namespace Go.Proofs.Ytggggfcgnkllgaa
open Go Go.Sh Go.RowKit
attribute [local irreducible] X XU XP XR CALL loopS resC closS
theorem run_build_57t (a : Option Addr) (n c : Nat) (w : World) : (Instr.build 57 #[(0, .slice a n c)]).run Try.prog w = .ok (.agg #[.slice a n c, .int .i64 0, .int .i64 0]) w := by kernel_rfl
theorem getR_lt (bs : List UInt8) (f m : Int) (hm : 0 ≤ m) : (getR bs f m).1 < 256 ^ m.toNat := by
  have hp : 0 < 256 ^ m.toNat := Nat.pow_pos (by decide)
  unfold getR
  split
  · exact hp
  · split
    · exact hp
    · split
      · exact hp
      · show num _ < _
        refine Nat.lt_of_lt_of_le (num_lt _) (Nat.pow_le_pow_right (by decide) ?_)
        rw [List.length_take]
        omega
theorem getR_lt4 (bs : List UInt8) (f : Int) : (getR bs f 4).1 < 4294967296 := getR_lt bs f 4 (by decide)
theorem getR_lt2 (bs : List UInt8) (f : Int) : (getR bs f 2).1 < 65536 := getR_lt bs f 2 (by decide)
def szC (s : Nat) : List Value := [.int .i64 (s : Int)]
theorem szC_len (s : Nat) : (szC s).length = 1 := rfl
/-- A row of numbers of the call's own. -/
theorem X_appSz {w : World} {base : Nat} {vo : Value} {ks : List Nat} {k : Nat} (ho : OwnK 1 3 szC w base vo ks) (hn : ks.length ≤ 1000000) (hbase : base ≤ w.heap.size) {K2 : Value → Value → World → Prop}
    (hK : ∀ u v' w1, OwnK 1 3 szC w1 base v' (ks ++ [k]) → Keep (fun q => some q = vo.ownBlock) w w1 → K2 u v' w1) :
    X Try.prog (Instr.buildSlice 79 1 #[(0, .int .i64 (k : Int))]) w fun u w1 => X Try.prog (Builtin.append_ #[79, 79] 79 #[vo, u]) w1 fun v' w2 => K2 u v' w2 := by
  refine X_buildSlice1 Try.underlying79 el_3 rfl ?_
  have hx3 := newB_ext w #[Value.int .i64 (k : Int)] 3
  have hg3 := newB_get w #[Value.int .i64 (k : Int)] 3
  generalize newB w #[Value.int .i64 (k : Int)] 3 = w3 at hx3 hg3 ⊢
  have hrow : RowK 1 szC w3 (.slice (some ⟨w.heap.size, 0, none⟩) 1 1) [k] := by
    refine RowK.ofK (T := 3) (fr := (0, 0)) (by decide) szC_len ?_ rfl (by decide)
    rw [hg3]
    rfl
  refine X_appendK Try.underlying79 el_3 (by decide) szC_len (fun x hx u hu => by rw [List.mem_singleton.1 hu]; rfl) (ho.ext hx3) hrow (by simp; omega) (by decide) (by have := hx3.size; omega) ?_
  intro v' w4 ho4 hk4
  exact hK _ _ _ ho4 (Keep.trans (Keep.ext hx3) hk4)
theorem X_appPc {w : World} {base : Nat} {vo : Value} {ks : List Pc} {k : Pc} (hk1 : k.In w) (ho : OwnK 34 115 Pc.cs w base vo ks) (hn : ks.length ≤ 1000000) (hbase : base ≤ w.heap.size) {K2 : Value → Value → World → Prop}
    (hK : ∀ u v' w1, OwnK 34 115 Pc.cs w1 base v' (ks ++ [k]) → Keep (fun q => some q = vo.ownBlock) w w1 → K2 u v' w1) :
    X Try.prog (Instr.buildSlice 100 1 #[(0, .agg (Pc.cs k).toArray)]) w fun u w1 => X Try.prog (Builtin.append_ #[100, 100] 100 #[vo, u]) w1 fun v' w2 => K2 u v' w2 := by
  refine X_buildSliceK Try.underlying100 el_115 (by decide) (by decide) (Pc.len k) ?_
  have hx3 := newB_ext w (Pc.cs k).toArray 115
  have hg3 := newB_get w (Pc.cs k).toArray 115
  show X _ _ (newB w (Pc.cs k).toArray 115) _
  generalize newB w (Pc.cs k).toArray 115 = w3 at hx3 hg3 ⊢
  have hrow : RowK 34 Pc.cs w3 (.slice (some ⟨w.heap.size, 0, none⟩) 1 1) [k] := by
    refine RowK.ofK (T := 115) (fr := (0, 0)) (by decide) Pc.len ?_ rfl (by decide)
    rw [hg3]
    unfold cellsK
    simp
  refine X_appendK Try.underlying100 el_115 (by decide) Pc.len (fun x hx => by rw [List.mem_singleton.1 hx]; exact Pc.one hk1) (ho.ext hx3) hrow (by simp; omega) (by decide) (by have := hx3.size; omega) ?_
  intro v' w4 ho4 hk4
  exact hK _ _ _ ho4 (Keep.trans (Keep.ext hx3) hk4)
/-- What is known of the bytes if they are a container's. -/
def IfCont (x : List UInt8) (P : Nat → List Pp → Prop) : Prop := ∀ id' l', id' < 4294967296 → Fit l' → x = bodyP id' l' → P id' l'
theorem ifCont_mono {x : List UInt8} {P Q : Nat → List Pp → Prop} (h : IfCont x P) (hPQ : ∀ id l, Fit l → P id l → Q id l) : IfCont x Q := fun id l hid hf e => hPQ id l hf (h id l hid hf e)
/-- The first part of the reference's walk: keys and sizes. -/
theorem totB_set : ∀ (l : List Pp) (i : Nat) (h : i < l.length) (p : Pp), l[i].bs = [] → totB (l.set i p) = totB l + p.bs.length := by
  intro l
  induction l with
  | nil => intro i h; simp at h
  | cons q l ih =>
    intro i h p he
    cases i with
    | zero =>
      simp only [List.getElem_cons_zero] at he
      simp [totB, he]
      omega
    | succ i =>
      have := ih i (by simpa using h) p (by simpa using he)
      simp only [totB, List.set_cons_succ, List.map_cons, List.sum_cons] at this ⊢
      omega
theorem pp_ext : ∀ (l l' : List Pp), l.map Pp.k = l'.map Pp.k → l.map Pp.bs = l'.map Pp.bs → l = l' := by
  intro l
  induction l with
  | nil => intro l' h _; cases l' with | nil => rfl | cons => cases h
  | cons p l ih =>
    intro l' h1 h2
    cases l' with
    | nil => cases h1
    | cons q r =>
      simp only [List.map_cons, List.cons.injEq] at h1 h2
      rw [ih r h1.2 h2.2]
      congr 1
      cases p; cases q
      simp only at h1 h2
      rw [h1.1, h2.1]
theorem cellsK_bs (ps : List Pc) (i : Nat) (h : i < ps.length) (bs : List UInt8) (u : Value) : cellsK Pc.cs (ps.set i ⟨⟨ps[i].p.k, bs⟩, u⟩) = (cellsK Pc.cs ps).set (i * 34 + 33) u := by
  rw [← cellsK_set ps i h u]
  unfold cellsK
  rw [List.map_set, List.map_set]
  rfl
theorem kys_set (ps : List Pc) (i : Nat) (h : i < ps.length) (bs : List UInt8) (u : Value) : kys (pl (ps.set i ⟨⟨ps[i].p.k, bs⟩, u⟩)) = kys (pl ps) := by
  apply List.ext_getElem?
  intro j
  simp only [kys, pl, List.getElem?_map, List.getElem?_set]
  by_cases hj : i = j
  · subst hj
    simp [h]
  · simp [hj]
structure RA (w : World) (x : List UInt8) (hi rb base : Nat) (sv lv : Value) (ss : List Nat) (ps : List Pc) (bs : List UInt8) (f : Int) : Prop where
  len : ss.length = ps.length
  small : ∀ s ∈ ss, s < 65536
  sizes : OwnK 1 3 szC w base sv ss
  row : OwnK 34 115 Pc.cs w base lv ps
  nodata : ∀ c ∈ ps, c.dv = .slice none 0 0 ∧ c.p.bs = []
  rdr : RdrR w 0 hi rb x bs f
theorem rows_drop {l : List Pp} {i : Nat} (h : i < l.length) (hf : Fit l) (t : List UInt8) : ∃ hk : 38 ≤ (rowsP (l.drop i) ++ t).length, (rowsP (l.drop i) ++ t).take 32 = l[i].k.sum ∧ ((rowsP (l.drop i) ++ t).drop 32).take 4 = be 4 l[i].k.num ∧ (((rowsP (l.drop i) ++ t).drop 32).drop 4).take 2 = be 2 l[i].bs.length ∧ (((rowsP (l.drop i) ++ t).drop 32).drop 4).drop 2 = rowsP (l.drop (i + 1)) ++ t := by
  have e : rowsP (l.drop i) ++ t = l[i].k.sum ++ (be 4 l[i].k.num ++ (be 2 l[i].bs.length ++ (rowsP (l.drop (i + 1)) ++ t))) := by
    have e1 : rowsP (l.drop i) = rowP l[i] ++ rowsP (l.drop (i + 1)) := by rw [List.drop_eq_getElem_cons h]; rfl
    rw [e1]
    simp [rowP, List.append_assoc]
  rw [e]
  refine ⟨by simp [l[i].k.len]; omega, tk _ _ l[i].k.len, ?_, ?_, ?_⟩
  · rw [dr _ _ l[i].k.len, tk _ _ (be_length 4 _)]
  · rw [dr _ _ l[i].k.len, dr _ _ (be_length 4 _), tk _ _ (be_length 2 _)]
  · rw [dr _ _ l[i].k.len, dr _ _ (be_length 4 _), dr _ _ (be_length 2 _)]
section
variable {w : World} {K : Value → World → Prop}
set_option maxRecDepth 20000 in
set_option maxHeartbeats 4000000 in
theorem RTake_spec {v : Value} {b : List UInt8} (hb : Bts w v b) (hl : b.length ≤ 1000000)
    (h0 : (∀ id l, id < 4294967296 → chk l = 0 → b ≠ layP id l) → ∀ w1, Ext w w1 → K (.tuple #[.int .u32 0, .slice none 0 0, i64v 110]) w1)
    (h1 : ∀ id l, id < 4294967296 → chk l = 0 → b = layP id l → ∀ vl cs w1, pl cs = l → Ext w w1 → RowK 34 Pc.cs w1 vl cs → (∀ c ∈ cs, c.In w1) → K (.tuple #[.int .u32 (id : Int), vl, i64v 0]) w1) : CALL Try.prog 93 #[v] w K := by
  have e00 : decide ((0 : Int) = 0) = true := by decide
  have n00 : decide ((0 : Int) ≠ 0) = false := by decide
  apply call_ref11_Take
  unfold B_ref11_Take
  refine ROpen_spec hb (by omega) (fun hn w1 hx1 => ?_) (fun x v1 w1 hx hx1 hb1 => ?_)
  · (repeat (simp only [XP_extract0, XP_extract1, XP_extract2, XP_extract3, X_extract0, X_extract1, X_extract2, X_extract3, X_nilS, X_eql_nil_74, X_neq_nil_74, X_eql_nil_124, X_neq_nil_124, X_eql, X_neq, X_lss, X_leq, X_gtr, X_geq, X_not, X_min, X_max, X_len_27, X_len_9, X_len_79, XP_nilS, XP_eql, XP_neq, XP_lss, XP_leq, XP_gtr, XP_geq, XP_not, XP_min, XP_max, XP_len_27, XP_len_9, XP_eql_nil_74, X_str_eql, X_str_neq, XP_str_eql, XP_str_neq, GS, gs_u, decide_true, decide_false, Option.isNone_some, Option.isSome_some, Option.isNone_none, Option.isSome_none, eq_self, Bool.not_true, Bool.not_false, Int.reduceEq, Int.reduceNe, Int.reduceLT, Int.reduceLE, Int.reduceGT, Int.reduceGE]))
    exact h0 (fun id l _ _ he => by rw [he, open_lay] at hn; cases hn) _ hx1
  have hxl : x.length ≤ b.length := by
    unfold openB at hx
    split at hx
    · cases hx
    · split at hx
      · injection hx with hx
        rw [← hx, List.length_take]
        omega
      · cases hx
  have hcont : ∀ id l, id < 4294967296 → chk l = 0 → b = layP id l → x = bodyP id l := by
    intro id l _ _ he
    rw [he, open_lay] at hx
    injection hx with hx
    exact hx.symm
  have fail : (IfCont x fun _ l => chk l ≠ 0) → ∀ w1, Ext w w1 → K (.tuple #[.int .u32 0, .slice none 0 0, i64v 110]) w1 :=
    fun h => h0 (fun id l hid hc he => h id l hid (fit_chk hc) (hcont id l hid hc he) hc)
  obtain ⟨a1, c1, e1⟩ := Bts.slice hb1
  (repeat (simp only [XP_extract0, XP_extract1, XP_extract2, XP_extract3, X_extract0, X_extract1, X_extract2, X_extract3, X_nilS, X_eql_nil_74, X_neq_nil_74, X_eql_nil_124, X_neq_nil_124, X_eql, X_neq, X_lss, X_leq, X_gtr, X_geq, X_not, X_min, X_max, X_len_27, X_len_9, X_len_79, XP_nilS, XP_eql, XP_neq, XP_lss, XP_leq, XP_gtr, XP_geq, XP_not, XP_min, XP_max, XP_len_27, XP_len_9, XP_eql_nil_74, X_str_eql, X_str_neq, XP_str_eql, XP_str_neq, GS, gs_u, decide_true, decide_false, Option.isNone_some, Option.isSome_some, Option.isNone_none, Option.isSome_none, eq_self, Bool.not_true, Bool.not_false, Int.reduceEq, Int.reduceNe, Int.reduceLT, Int.reduceLE, Int.reduceGT, Int.reduceGE]))
  rw [e1]
  refine X_of (run_build_57t _ _ _ _) ?_
  rw [← e1]
  refine X_box ?_
  have hx2 := newB_ext w1 (Value.agg #[v1, .int .i64 0, .int .i64 0]).cells 57
  have hg2 := newB_get w1 (Value.agg #[v1, .int .i64 0, .int .i64 0]).cells 57
  have hs2 := newB_size w1 (Value.agg #[v1, .int .i64 0, .int .i64 0]).cells 57
  generalize newB w1 (Value.agg #[v1, .int .i64 0, .int .i64 0]).cells 57 = w2 at hx2 hg2 hs2 ⊢
  have hr2 : RdrR w2 0 w1.heap.size w1.heap.size x x 0 := ⟨v1, 0, hg2, hb1.ext hx2, by omega, by simp, fun hp k hk => ⟨by omega, hb1.blk_lt hp k hk, by have := hb1.blk_lt hp k hk; omega⟩⟩
  have hwr : w.heap.size ≤ w1.heap.size := hx1.size
  have hx02 := hx1.trans hx2
  generalize hhi : w1.heap.size = hi at hr2 hwr hs2 ⊢
  refine RGet_spec hr2 ?_
  intro w3 hk3 hr3
  have hlt4 := getR_lt4 x 0
  have S1 : IfCont x fun id' l' => id' = (getR x 0 4).1 ∧ (getR x 0 4).2.1 = be 2 l'.length ++ (rowsP l' ++ dataP l') ∧ (getR x 0 4).2.2 = 0 := by
    intro id' l' hid' hf e
    have e' : x = be 4 id' ++ (be 2 l'.length ++ (rowsP l' ++ dataP l')) := by rw [e]; simp [bodyP, List.append_assoc]
    rw [getR4' (by rw [e']; simp)]
    refine ⟨?_, ?_, rfl⟩
    · rw [e', tk _ _ (be_length 4 _), num_be4 hid']
    · show x.drop 4 = _
      rw [e', dr _ _ (be_length 4 _)]
  generalize hgid : (getR x 0 4).1 = id at hlt4 S1 ⊢
  generalize (getR x 0 4).2.1 = s1 at S1 hr3
  generalize (getR x 0 4).2.2 = f1 at S1 hr3
  rw [X_conv_22_23, cw32 hlt4]
  refine RGet_spec hr3 ?_
  intro w4 hk4 hr4
  have hlt2 := getR_lt2 s1 f1
  have S2 : IfCont x fun id' l' => id' = id ∧ (getR s1 f1 2).1 = l'.length ∧ (getR s1 f1 2).2.1 = rowsP l' ++ dataP l' ∧ (getR s1 f1 2).2.2 = 0 := by
    intro id' l' hid' hf e
    obtain ⟨g1, g2, g3⟩ := S1 id' l' hid' hf e
    subst g3
    rw [getR2' (by rw [g2]; simp), g2]
    refine ⟨g1, ?_, ?_, rfl⟩
    · show num (List.take 2 _) = _
      rw [tk _ _ (be_length 2 _), num_be2 hf.1]
    · show List.drop 2 _ = _
      rw [dr _ _ (be_length 2 _)]
  generalize (getR s1 f1 2).1 = n at hlt2 S2 ⊢
  generalize (getR s1 f1 2).2.1 = s2 at S2 hr4
  generalize (getR s1 f1 2).2.2 = f2 at S2 hr4
  rw [X_conv_22_3, w64 (by omega) (by omega)]
  have hk24 : Keep (fun g => g = hi) w2 w4 := hk3.trans hk4
  have hs4 : w2.heap.size ≤ w4.heap.size := hk24.size
  generalize hbase : w2.heap.size = base at hs2 hs4
  have hE : ∀ {w'}, Keep (fun g => g = hi ∨ base ≤ g) w2 w' → Ext w w' := fun k => Ext.seq hx02 k (fun g hg => by omega)
  refine loopE (fun ρ wr => ∃ (i : Nat) (sv lv : Value) (ss : List Nat) (ps : List Pc) (bs : List UInt8) (f : Int), i ≤ n ∧ ps.length = i ∧ RA wr x hi hi base sv lv ss ps bs f ∧ Keep (fun g => g = hi ∨ base ≤ g) w2 wr ∧
      (IfCont x fun id' l' => id' = id ∧ n = l'.length ∧ f = 0 ∧ bs = rowsP (l'.drop i) ++ dataP l' ∧ kys (pl ps) = (kys l').take i ∧ ss = (l'.map fun p => p.bs.length).take i) ∧
      ρ 12 = .int .i64 (i : Nat) ∧ ρ 9 = .int .i64 (n : Nat) ∧ ρ 7 = ptr hi ∧ ρ 11 = sv ∧ ρ 10 = lv ∧ ρ 8 = .int .u32 (id : Int) ∧ ρ 0 = v)
    (fun ρ wr => match ρ 12 with | .int _ s => (n - s).toNat | _ => 0)
    (fun ρ wr => ∃ (sv lv : Value) (ss : List Nat) (ps : List Pc) (bs : List UInt8) (f : Int), ps.length ≤ n ∧ RA wr x hi hi base sv lv ss ps bs f ∧ Keep (fun g => g = hi ∨ base ≤ g) w2 wr ∧
      (IfCont x fun id' l' => id' = id ∧ f = 0 ∧ bs = dataP l' ∧ kys (pl ps) = kys l' ∧ ss = l'.map fun p => p.bs.length) ∧
      ρ 7 = ptr hi ∧ ρ 11 = sv ∧ ρ 10 = lv ∧ ρ 8 = .int .u32 (id : Int) ∧ ρ 0 = v) ?_ ?_ ?_
  · refine ⟨0, _, _, [], [], s2, f2, by omega, rfl, ⟨rfl, by simp, ownK_nil _ _, ownK_nil _ _, by simp, hr4⟩, hk24.mono (fun g _ h => .inl h), ?_, rfl, rfl, rfl, rfl, rfl, rfl, rfl⟩
    exact ifCont_mono S2 (fun id' l' _ h => ⟨h.1, h.2.1, h.2.2.2, h.2.2.1, by simp, by simp⟩)
  · rintro J hJ ρ wr ⟨i, sv, lv, ss, ps, bs, f, hi_, hpl, ra, hk, S, r12, r9, r7, r11, r10, r8, r0⟩
    rw [r12, r9, X_lss]
    by_cases hin : i = n
    · have c : decide ((i : Int) < (n : Int)) = false := by simp; omega
      (repeat (simp only [XP_extract0, XP_extract1, XP_extract2, XP_extract3, X_extract0, X_extract1, X_extract2, X_extract3, X_nilS, X_eql_nil_74, X_neq_nil_74, X_eql_nil_124, X_neq_nil_124, X_eql, X_neq, X_lss, X_leq, X_gtr, X_geq, X_not, X_min, X_max, X_len_27, X_len_9, X_len_79, XP_nilS, XP_eql, XP_neq, XP_lss, XP_leq, XP_gtr, XP_geq, XP_not, XP_min, XP_max, XP_len_27, XP_len_9, XP_eql_nil_74, X_str_eql, X_str_neq, XP_str_eql, XP_str_neq, GS, gs_u, decide_true, decide_false, Option.isNone_some, Option.isSome_some, Option.isNone_none, Option.isSome_none, eq_self, Bool.not_true, Bool.not_false, Int.reduceEq, Int.reduceNe, Int.reduceLT, Int.reduceLE, Int.reduceGT, Int.reduceGE, c]))
      refine hJ _ _ ⟨sv, lv, ss, ps, bs, f, by omega, ra, hk, ?_, r7, r11, r10, r8, r0⟩
      intro id' l' hid' hf e
      obtain ⟨g1, g2, g3, g4, g5, g6⟩ := S id' l' hid' hf e
      have hil : i = l'.length := by omega
      rw [hil] at g4 g5 g6
      refine ⟨g1, g3, ?_, ?_, ?_⟩
      · rw [g4, List.drop_length]; rfl
      · rw [g5, List.take_of_length_le (by simp)]
      · rw [g6, List.take_of_length_le (by simp)]
    have c : decide ((i : Int) < (n : Int)) = true := by simp; omega
    (repeat (simp only [XP_extract0, XP_extract1, XP_extract2, XP_extract3, X_extract0, X_extract1, X_extract2, X_extract3, X_nilS, X_eql_nil_74, X_neq_nil_74, X_eql_nil_124, X_neq_nil_124, X_eql, X_neq, X_lss, X_leq, X_gtr, X_geq, X_not, X_min, X_max, X_len_27, X_len_9, X_len_79, XP_nilS, XP_eql, XP_neq, XP_lss, XP_leq, XP_gtr, XP_geq, XP_not, XP_min, XP_max, XP_len_27, XP_len_9, XP_eql_nil_74, X_str_eql, X_str_neq, XP_str_eql, XP_str_neq, GS, gs_u, decide_true, decide_false, Option.isNone_some, Option.isSome_some, Option.isNone_none, Option.isSome_none, eq_self, Bool.not_true, Bool.not_false, Int.reduceEq, Int.reduceNe, Int.reduceLT, Int.reduceLE, Int.reduceGT, Int.reduceGE, c]))
    have hrdr := ra.rdr
    obtain ⟨vr, ar, hcr, hbr, har, hdr, hor⟩ := hrdr
    rw [r7]
    (repeat (simp only [XP_extract0, XP_extract1, XP_extract2, XP_extract3, X_extract0, X_extract1, X_extract2, X_extract3, X_nilS, X_eql_nil_74, X_neq_nil_74, X_eql_nil_124, X_neq_nil_124, X_eql, X_neq, X_lss, X_leq, X_gtr, X_geq, X_not, X_min, X_max, X_len_27, X_len_9, X_len_79, XP_nilS, XP_eql, XP_neq, XP_lss, XP_leq, XP_gtr, XP_geq, XP_not, XP_min, XP_max, XP_len_27, XP_len_9, XP_eql_nil_74, X_str_eql, X_str_neq, XP_str_eql, XP_str_neq, GS, gs_u, decide_true, decide_false, Option.isNone_some, Option.isSome_some, Option.isNone_none, Option.isSome_none, eq_self, Bool.not_true, Bool.not_false, Int.reduceEq, Int.reduceNe, Int.reduceLT, Int.reduceLE, Int.reduceGT, Int.reduceGE]))
    rw [X_field_57_2]
    refine X_of (run_loadAt agg_30 (v := .int .i64 f) ((cell_blk hcr).trans rfl)) ?_
    (repeat (simp only [XP_extract0, XP_extract1, XP_extract2, XP_extract3, X_extract0, X_extract1, X_extract2, X_extract3, X_nilS, X_eql_nil_74, X_neq_nil_74, X_eql_nil_124, X_neq_nil_124, X_eql, X_neq, X_lss, X_leq, X_gtr, X_geq, X_not, X_min, X_max, X_len_27, X_len_9, X_len_79, XP_nilS, XP_eql, XP_neq, XP_lss, XP_leq, XP_gtr, XP_geq, XP_not, XP_min, XP_max, XP_len_27, XP_len_9, XP_eql_nil_74, X_str_eql, X_str_neq, XP_str_eql, XP_str_neq, GS, gs_u, decide_true, decide_false, Option.isNone_some, Option.isSome_some, Option.isNone_none, Option.isSome_none, eq_self, Bool.not_true, Bool.not_false, Int.reduceEq, Int.reduceNe, Int.reduceLT, Int.reduceLE, Int.reduceGT, Int.reduceGE]))
    by_cases hf0 : f = 0
    case neg =>
      have c : decide (f = 0) = false := by simpa using hf0
      (repeat (simp only [XP_extract0, XP_extract1, XP_extract2, XP_extract3, X_extract0, X_extract1, X_extract2, X_extract3, X_nilS, X_eql_nil_74, X_neq_nil_74, X_eql_nil_124, X_neq_nil_124, X_eql, X_neq, X_lss, X_leq, X_gtr, X_geq, X_not, X_min, X_max, X_len_27, X_len_9, X_len_79, XP_nilS, XP_eql, XP_neq, XP_lss, XP_leq, XP_gtr, XP_geq, XP_not, XP_min, XP_max, XP_len_27, XP_len_9, XP_eql_nil_74, X_str_eql, X_str_neq, XP_str_eql, XP_str_neq, GS, gs_u, decide_true, decide_false, Option.isNone_some, Option.isSome_some, Option.isNone_none, Option.isSome_none, eq_self, Bool.not_true, Bool.not_false, Int.reduceEq, Int.reduceNe, Int.reduceLT, Int.reduceLE, Int.reduceGT, Int.reduceGE, c]))
      refine hJ _ _ ⟨sv, lv, ss, ps, bs, f, by omega, ra, hk, fun id' l' hid' hf e => absurd (S id' l' hid' hf e).2.2.1 hf0, r7, r11, r10, r8, r0⟩
    have c : decide (f = 0) = true := by simpa using hf0
    (repeat (simp only [XP_extract0, XP_extract1, XP_extract2, XP_extract3, X_extract0, X_extract1, X_extract2, X_extract3, X_nilS, X_eql_nil_74, X_neq_nil_74, X_eql_nil_124, X_neq_nil_124, X_eql, X_neq, X_lss, X_leq, X_gtr, X_geq, X_not, X_min, X_max, X_len_27, X_len_9, X_len_79, XP_nilS, XP_eql, XP_neq, XP_lss, XP_leq, XP_gtr, XP_geq, XP_not, XP_min, XP_max, XP_len_27, XP_len_9, XP_eql_nil_74, X_str_eql, X_str_neq, XP_str_eql, XP_str_neq, GS, gs_u, decide_true, decide_false, Option.isNone_some, Option.isSome_some, Option.isNone_none, Option.isSome_none, eq_self, Bool.not_true, Bool.not_false, Int.reduceEq, Int.reduceNe, Int.reduceLT, Int.reduceLE, Int.reduceGT, Int.reduceGE, c]))
    have hbw : base ≤ wr.heap.size := by have := hk.size; omega
    refine sum_spec ra.rdr (by omega) ?_
    intro s bs5 f5 w5 hsl hk5 hr5 hst5
    refine X_of (run_build_113s hsl _) ?_
    refine X_of (run_build_115k ⟨s, 0, hsl, by decide⟩ _) ?_
    refine X_alloc zero_115 ?_
    have hxA := newB_ext w5 z115.toArray 115
    have hgA := newB_get w5 z115.toArray 115
    have hbw5 : base ≤ w5.heap.size := by have := hk5.size; omega
    show XU _ _ (newB w5 z115.toArray 115) _
    generalize newB w5 z115.toArray 115 = w6 at hxA hgA ⊢
    refine XU_storeAgg info_115 hgA (by rw [sz_115]; simp) (by rw [sz_115, Pc.len]) (Pc.one (W := w6) (c := ⟨⟨⟨s, 0, hsl, by decide⟩, []⟩, .slice none 0 0⟩) (Bts.nil w6) |> fun h => h) ?_
    have hkB := setAt_keep w6 w5.heap.size (Pc.cs ⟨⟨⟨s, 0, hsl, by decide⟩, []⟩, .slice none 0 0⟩).toArray 115 (0, 0)
    have hgB : (setAt w6 w5.heap.size (Pc.cs ⟨⟨⟨s, 0, hsl, by decide⟩, []⟩, .slice none 0 0⟩).toArray 115 (0, 0)).heap[w5.heap.size]? = some (.cells (Pc.cs ⟨⟨⟨s, 0, hsl, by decide⟩, []⟩, .slice none 0 0⟩).toArray 115 (0, 0)) := setAt_same (lt_of_blk hgA)
    generalize setAt w6 w5.heap.size (Pc.cs ⟨⟨⟨s, 0, hsl, by decide⟩, []⟩, .slice none 0 0⟩).toArray 115 (0, 0) = w7 at hkB hgB ⊢
    generalize hqp : w5.heap.size = qp at hkB hgB hgA hbw5 ⊢
    have hr7 : RdrR w7 0 hi hi x bs5 f5 := (hr5.ext hxA).keep hkB (by omega) (fun j _ hj _ he => by omega)
    refine RGet_spec hr7 ?_
    intro w8 hk8 hr8
    have hm4 := getR_lt4 bs5 f5
    rw [X_conv_22_23, cw32 hm4]
    have hg8 := hk8.get (by omega) hgB
    rw [X_field_115_0, X_field_113_1]
    refine XU_store info_23 sz_23 rfl hg8 (by simp [Pc.len]) (by decide) ?_
    have hcs1 : (Pc.cs ⟨⟨⟨s, 0, hsl, by decide⟩, []⟩, .slice none 0 0⟩).toArray.setIfInBounds (0 + 32) (.int .u32 (((getR bs5 f5 4).1 : Nat) : Int)) = (Pc.cs ⟨⟨⟨s, (getR bs5 f5 4).1, hsl, hm4⟩, []⟩, .slice none 0 0⟩).toArray := by
      have hl32 : (B8 s).length = 32 := by simpa using hsl
      simp only [Pc.cs, Ky.cs, Nat.zero_add]
      rw [List.setIfInBounds_toArray, List.set_append_left _ _ (by simp [hsl]), List.set_append_right _ _ (by omega), hl32]
      rfl
    rw [hcs1]
    generalize hc1 : (⟨⟨⟨s, (getR bs5 f5 4).1, hsl, hm4⟩, []⟩, .slice none 0 0⟩ : Pc) = cn at *
    have hcnb : cn.dv = .slice none 0 0 ∧ cn.p.bs = [] := by rw [← hc1]; exact ⟨rfl, rfl⟩
    have hcnk : cn.p.k.sum = s ∧ cn.p.k.num = (getR bs5 f5 4).1 := by rw [← hc1]; exact ⟨rfl, rfl⟩
    have hkC := setAt_keep w8 qp (Pc.cs cn).toArray 115 (0, 0)
    have hgC : (setAt w8 qp (Pc.cs cn).toArray 115 (0, 0)).heap[qp]? = some (.cells (Pc.cs cn).toArray 115 (0, 0)) := setAt_same (lt_of_blk hg8)
    generalize setAt w8 qp (Pc.cs cn).toArray 115 (0, 0) = w9 at hkC hgC ⊢
    have hr9 := hr8.keep hkC (by omega) (fun j _ hj _ he => by omega)
    refine RGet_spec hr9 ?_
    intro w10 hk10 hr10
    have hm2 := getR_lt2 (getR bs5 f5 4).2.1 (getR bs5 f5 4).2.2
    rw [X_conv_22_3, w64 (by omega) (by omega), r11, r10]
    have hgD := hk10.get (by omega) hgC
    -- what is kept from wr to w10
    have hk510 : Keep (fun g => g = hi ∨ g = qp) w5 w10 := Keep.trans (Keep.trans (Keep.trans (Keep.trans (Keep.ext hxA) (hkB.mono (fun g _ h => .inr h))) (hk8.mono (fun g _ h => .inl h))) (hkC.mono (fun g _ h => .inr h))) (hk10.mono (fun g _ h => .inl h))
    have hkr5 : Keep (fun g => g = hi) wr w10 := Keep.seq hk5 hk510 (fun g hg h => by
      rcases h with h | h
      · exact h
      · have := hk5.size
        omega)
    have hlow : ∀ {e size n} {vv : Value} {xs : List Value}, wr.ownsRow base e size vv n xs → w10.ownsRow base e size vv n xs := fun h => own_keepD h hkr5 (fun g hg he => by have := (h.lt g hg).1; omega)
    have hsz10 : base ≤ w10.heap.size := by have := hkr5.size; omega
    refine X_appSz (hlow ra.sizes) (by have := ra.len; omega) hsz10 ?_
    intro y1 sv2 w11 hos hk11
    have hk11' : Keep (fun g => base ≤ g) w10 w11 := hk11.mono (fun g _ h => ((hlow ra.sizes).lt g h.symm).1)
    have hgE : w11.heap[qp]? = some (.cells (Pc.cs cn).toArray 115 (0, 0)) := hk11.get (fun h => own_neT (hlow ra.sizes) hgD (by decide) h.symm) hgD
    have hrow11 : OwnK 34 115 Pc.cs w11 base lv ps := own_keepD (hlow ra.row) hk11 (fun g hg he => own_neO (hlow ra.row) (hlow ra.sizes) (by decide) hg he.symm)
    have hr11 := hr10.keep hk11' (by omega) (fun j _ hj _ he => by omega)
    refine X_of (load_cells Try.underlying115 agg_115 info_115 (l := Pc.cs cn) (by rw [sz_115, Pc.len]) (fun j u hj => by rw [add_plain, Nat.zero_add, cell_blk hgE]; simpa using hj)) ?_
    refine X_appPc (by unfold Pc.In; rw [hcnb.1, hcnb.2]; exact Bts.nil _) hrow11 (by omega) (by have := hk11.size; omega) ?_
    intro y2 lv2 w12 hop hk12
    have hk12' : Keep (fun g => base ≤ g) w11 w12 := hk12.mono (fun g _ h => (hrow11.lt g h.symm).1)
    have hr12 := hr11.keep hk12' (by omega) (fun j _ hj _ he => by omega)
    have hos12 : OwnK 1 3 szC w12 base sv2 (ss ++ [(getR (getR bs5 f5 4).2.1 (getR bs5 f5 4).2.2 2).1]) := own_keepD hos hk12 (fun g hg he => own_neO hos hrow11 (by decide) hg he.symm)
    rw [X_add]
    show _ ∧ _
    refine ⟨⟨i + 1, sv2, lv2, _, ps ++ [cn], _, _, by omega, by simp [hpl], ⟨by simp [ra.len], ?_, hos12, hop, ?_, hr12⟩, ?_, ?_, next64 (n := 1000000) (by decide) (by omega), r9, r7, rfl, rfl, r8, r0⟩, ?_⟩
    · intro z hz
      rcases List.mem_append.1 hz with hz | hz
      · exact ra.small z hz
      · rw [List.mem_singleton.1 hz]; exact hm2
    · intro z hz
      rcases List.mem_append.1 hz with hz | hz
      · exact ra.nodata z hz
      · rw [List.mem_singleton.1 hz]; exact hcnb
    · exact Keep.trans (Keep.trans (Keep.trans hk (hkr5.mono (fun g _ h => .inl h))) (hk11'.mono (fun g _ h => .inr h))) (hk12'.mono (fun g _ h => .inr h))
    · intro id' l' hid' hf e
      obtain ⟨g1, g2, g3, g4, g5, g6⟩ := S id' l' hid' hf e
      have hil : i < l'.length := by omega
      obtain ⟨q0, q1, q2, q3, q4⟩ := rows_drop hil hf (dataP l')
      rw [← g4] at q0 q1 q2 q3 q4
      obtain ⟨z1, z2, z3⟩ := hst5 g3 (by omega)
      subst z2; subst z3
      have d4 : 4 ≤ (bs.drop 32).length := by rw [List.length_drop]; omega
      have hg4 := getR4' d4
      rw [hg4] at hcnk ⊢
      have d2 : 2 ≤ ((bs.drop 32).drop 4).length := by rw [List.length_drop, List.length_drop]; omega
      show id' = id ∧ n = l'.length ∧ (getR ((bs.drop 32).drop 4) 0 2).2.2 = 0 ∧ (getR ((bs.drop 32).drop 4) 0 2).2.1 = _ ∧ _ ∧ ss ++ [(getR ((bs.drop 32).drop 4) 0 2).1] = _
      rw [getR2' d2]
      refine ⟨g1, g2, rfl, q4, ?_, ?_⟩
      · have e1 : kys (pl (ps ++ [cn])) = kys (pl ps) ++ [cn.p.k] := by simp [kys, pl]
        rw [e1, g5, List.take_succ_eq_append_getElem (by simpa using hil)]
        congr 1
        have : cn.p.k = l'[i].k := by
          refine Ky.ext' ?_ ?_
          · rw [hcnk.1, z1, q1]
          · rw [hcnk.2]
            show num ((bs.drop 32).take 4) = _
            rw [q2, num_be4 l'[i].k.lt]
        rw [this]
        simp [kys]
      · rw [g6, List.take_succ_eq_append_getElem (show i < (l'.map fun p => p.bs.length).length by simpa using hil)]
        congr 1
        show [num (((bs.drop 32).drop 4).take 2)] = _
        rw [q3, num_be2 (hf.2 _ (List.getElem_mem hil))]
        simp
    · show (_ - IntKind.i64.wrap _).toNat < _
      rw [w64 (by omega) (by omega)]
      first | omega | (show _ < (_ : Int).toNat; omega)
  rintro ρ wr ⟨sv, lv, ss, ps0, bs0, f, hmn, ra, hk, S, r7, r11, r10, r8, r0⟩
  have hbw : base ≤ wr.heap.size := by have := hk.size; omega
  obtain ⟨vr0, ar0, _, _, har0, hdr0, _⟩ := (show RdrR wr 0 hi hi x bs0 f from ra.rdr)
  have hbs0 : bs0.length ≤ x.length := by rw [← hdr0, List.length_drop]; omega
  have hnil : ∀ j (h : j < ps0.length), ps0[j].p.bs = [] := fun j h => (ra.nodata _ (List.getElem_mem h)).2
  have htot0 : totB (pl ps0) = 0 := by
    have : ∀ l : List Pc, (∀ c ∈ l, c.p.bs = []) → totB (pl l) = 0 := by
      intro l
      induction l with
      | nil => intro _; rfl
      | cons c l ih =>
        intro h
        have h1 := h c (by simp)
        have h2 := ih (fun c hc => h c (by simp [hc]))
        simp only [totB, pl, List.map_cons, List.sum_cons] at h2 ⊢
        rw [h1, h2]
        rfl
    exact this ps0 (fun c hc => (ra.nodata c hc).2)
  have hlen0 := ra.len
  have hsmall := ra.small
  refine loopE (fun ρ wr => ∃ (i : Nat) (ps : List Pc) (bs : List UInt8), i ≤ ps0.length ∧ ps.length = ps0.length ∧ OwnK 1 3 szC wr base sv ss ∧ OwnK 34 115 Pc.cs wr base lv ps ∧
      (∀ c ∈ ps, c.In wr ∧ (0 < c.p.bs.length → ∀ k, c.dv.ownBlock = some k → k < hi)) ∧ RdrR wr 0 hi hi x bs f ∧ totB (pl ps) + bs.length ≤ x.length ∧ (∀ j (h : j < ps.length), i ≤ j → ps[j].p.bs = []) ∧ Keep (fun g => g = hi ∨ base ≤ g) w2 wr ∧
      (IfCont x fun id' l' => id' = id ∧ f = 0 ∧ ps0.length = l'.length ∧ kys (pl ps) = kys l' ∧ ((pl ps).map Pp.bs).take i = (l'.map Pp.bs).take i ∧ ss = (l'.map fun p => p.bs.length) ∧ bs = dataP (l'.drop i)) ∧
      ρ 14 = .int .i64 (i : Nat) ∧ ρ 7 = ptr hi ∧ ρ 11 = sv ∧ ρ 10 = lv ∧ ρ 8 = .int .u32 (id : Int) ∧ ρ 0 = v)
    (fun ρ wr => match ρ 14 with | .int _ s => (ps0.length - s).toNat | _ => 0)
    (fun ρ wr => ∃ (ps : List Pc) (bs : List UInt8), ps.length = ps0.length ∧ RowK 34 Pc.cs wr lv ps ∧ (∀ c ∈ ps, c.In wr) ∧ RdrR wr 0 hi hi x bs f ∧ totB (pl ps) ≤ x.length ∧ Keep (fun g => g = hi ∨ base ≤ g) w2 wr ∧
      (IfCont x fun id' l' => id' = id ∧ f = 0 ∧ pl ps = l' ∧ bs = []) ∧
      ρ 7 = ptr hi ∧ ρ 10 = lv ∧ ρ 8 = .int .u32 (id : Int) ∧ ρ 0 = v) ?_ ?_ ?_
  · refine ⟨0, ps0, bs0, by omega, rfl, ra.sizes, ra.row, fun c hc => ?_, ra.rdr, by omega, fun j h _ => hnil j h, hk, ?_, rfl, r7, r11, r10, r8, r0⟩
    · obtain ⟨g1, g2⟩ := ra.nodata c hc
      refine ⟨?_, fun h => by rw [g2] at h; exact absurd h (by decide)⟩
      unfold Pc.In
      rw [g1, g2]
      exact Bts.nil _
    · intro id' l' hid' hf e
      obtain ⟨g1, g2, g3, g4, g5⟩ := S id' l' hid' hf e
      have := congrArg List.length g5
      exact ⟨g1, g2, by rw [← hlen0]; simpa using this, g4, by simp, g5, by simpa using g3⟩
  · rintro J hJ ρ wr ⟨i, ps, bs, hi_, hpl, hos, hol, hin, hrd, htot, hempty, hk, S, r14, r7, r11, r10, r8, r0⟩
    have hbw : base ≤ wr.heap.size := by have := hk.size; omega
    have hrow : RowK 34 Pc.cs wr lv ps := OwnK.rowK (by decide) Pc.len hol
    obtain ⟨al, cl, el⟩ := hrow.slice
    rw [r14, r10, el, X_len_100, X_lss, ← el]
    by_cases him : i = ps0.length
    · have c : decide ((i : Int) < (ps.length : Int)) = false := by simp; omega
      (repeat (simp only [XP_extract0, XP_extract1, XP_extract2, XP_extract3, X_extract0, X_extract1, X_extract2, X_extract3, X_nilS, X_eql_nil_74, X_neq_nil_74, X_eql_nil_124, X_neq_nil_124, X_eql, X_neq, X_lss, X_leq, X_gtr, X_geq, X_not, X_min, X_max, X_len_27, X_len_9, X_len_79, XP_nilS, XP_eql, XP_neq, XP_lss, XP_leq, XP_gtr, XP_geq, XP_not, XP_min, XP_max, XP_len_27, XP_len_9, XP_eql_nil_74, X_str_eql, X_str_neq, XP_str_eql, XP_str_neq, GS, gs_u, decide_true, decide_false, Option.isNone_some, Option.isSome_some, Option.isNone_none, Option.isSome_none, eq_self, Bool.not_true, Bool.not_false, Int.reduceEq, Int.reduceNe, Int.reduceLT, Int.reduceLE, Int.reduceGT, Int.reduceGE, c]))
      refine hJ _ _ ⟨ps, bs, hpl, hrow, fun c hc => (hin c hc).1, hrd, by omega, hk, ?_, r7, r10, r8, r0⟩
      intro id' l' hid' hf e
      obtain ⟨g1, g2, g3, g4, g5, g6, g7⟩ := S id' l' hid' hf e
      refine ⟨g1, g2, pp_ext _ _ g4 ?_, ?_⟩
      · rw [List.take_of_length_le (by simp; omega), List.take_of_length_le (by simp; omega)] at g5
        exact g5
      · rw [g7, him, g3, List.drop_length]
        rfl
    have c : decide ((i : Int) < (ps.length : Int)) = true := by simp; omega
    (repeat (simp only [XP_extract0, XP_extract1, XP_extract2, XP_extract3, X_extract0, X_extract1, X_extract2, X_extract3, X_nilS, X_eql_nil_74, X_neq_nil_74, X_eql_nil_124, X_neq_nil_124, X_eql, X_neq, X_lss, X_leq, X_gtr, X_geq, X_not, X_min, X_max, X_len_27, X_len_9, X_len_79, XP_nilS, XP_eql, XP_neq, XP_lss, XP_leq, XP_gtr, XP_geq, XP_not, XP_min, XP_max, XP_len_27, XP_len_9, XP_eql_nil_74, X_str_eql, X_str_neq, XP_str_eql, XP_str_neq, GS, gs_u, decide_true, decide_false, Option.isNone_some, Option.isSome_some, Option.isNone_none, Option.isSome_none, eq_self, Bool.not_true, Bool.not_false, Int.reduceEq, Int.reduceNe, Int.reduceLT, Int.reduceLE, Int.reduceGT, Int.reduceGE, c]))
    have hip : i < ps.length := by omega
    have his : i < ss.length := by omega
    have hrd' := hrd
    obtain ⟨vr, ar, hcr, hbr, har, hdr, hor⟩ := hrd'
    rw [r7]
    (repeat (simp only [XP_extract0, XP_extract1, XP_extract2, XP_extract3, X_extract0, X_extract1, X_extract2, X_extract3, X_nilS, X_eql_nil_74, X_neq_nil_74, X_eql_nil_124, X_neq_nil_124, X_eql, X_neq, X_lss, X_leq, X_gtr, X_geq, X_not, X_min, X_max, X_len_27, X_len_9, X_len_79, XP_nilS, XP_eql, XP_neq, XP_lss, XP_leq, XP_gtr, XP_geq, XP_not, XP_min, XP_max, XP_len_27, XP_len_9, XP_eql_nil_74, X_str_eql, X_str_neq, XP_str_eql, XP_str_neq, GS, gs_u, decide_true, decide_false, Option.isNone_some, Option.isSome_some, Option.isNone_none, Option.isSome_none, eq_self, Bool.not_true, Bool.not_false, Int.reduceEq, Int.reduceNe, Int.reduceLT, Int.reduceLE, Int.reduceGT, Int.reduceGE]))
    rw [X_field_57_2]
    refine X_of (run_loadAt agg_30 (v := .int .i64 f) ((cell_blk hcr).trans rfl)) ?_
    (repeat (simp only [XP_extract0, XP_extract1, XP_extract2, XP_extract3, X_extract0, X_extract1, X_extract2, X_extract3, X_nilS, X_eql_nil_74, X_neq_nil_74, X_eql_nil_124, X_neq_nil_124, X_eql, X_neq, X_lss, X_leq, X_gtr, X_geq, X_not, X_min, X_max, X_len_27, X_len_9, X_len_79, XP_nilS, XP_eql, XP_neq, XP_lss, XP_leq, XP_gtr, XP_geq, XP_not, XP_min, XP_max, XP_len_27, XP_len_9, XP_eql_nil_74, X_str_eql, X_str_neq, XP_str_eql, XP_str_neq, GS, gs_u, decide_true, decide_false, Option.isNone_some, Option.isSome_some, Option.isNone_none, Option.isSome_none, eq_self, Bool.not_true, Bool.not_false, Int.reduceEq, Int.reduceNe, Int.reduceLT, Int.reduceLE, Int.reduceGT, Int.reduceGE]))
    by_cases hf0 : f = 0
    case neg =>
      have c : decide (f = 0) = false := by simpa using hf0
      (repeat (simp only [XP_extract0, XP_extract1, XP_extract2, XP_extract3, X_extract0, X_extract1, X_extract2, X_extract3, X_nilS, X_eql_nil_74, X_neq_nil_74, X_eql_nil_124, X_neq_nil_124, X_eql, X_neq, X_lss, X_leq, X_gtr, X_geq, X_not, X_min, X_max, X_len_27, X_len_9, X_len_79, XP_nilS, XP_eql, XP_neq, XP_lss, XP_leq, XP_gtr, XP_geq, XP_not, XP_min, XP_max, XP_len_27, XP_len_9, XP_eql_nil_74, X_str_eql, X_str_neq, XP_str_eql, XP_str_neq, GS, gs_u, decide_true, decide_false, Option.isNone_some, Option.isSome_some, Option.isNone_none, Option.isSome_none, eq_self, Bool.not_true, Bool.not_false, Int.reduceEq, Int.reduceNe, Int.reduceLT, Int.reduceLE, Int.reduceGT, Int.reduceGE, c]))
      exact hJ _ _ ⟨ps, bs, hpl, hrow, fun c hc => (hin c hc).1, hrd, by omega, hk, fun id' l' hid' hf e => absurd (S id' l' hid' hf e).2.1 hf0, r7, r10, r8, r0⟩
    have c : decide (f = 0) = true := by simpa using hf0
    (repeat (simp only [XP_extract0, XP_extract1, XP_extract2, XP_extract3, X_extract0, X_extract1, X_extract2, X_extract3, X_nilS, X_eql_nil_74, X_neq_nil_74, X_eql_nil_124, X_neq_nil_124, X_eql, X_neq, X_lss, X_leq, X_gtr, X_geq, X_not, X_min, X_max, X_len_27, X_len_9, X_len_79, XP_nilS, XP_eql, XP_neq, XP_lss, XP_leq, XP_gtr, XP_geq, XP_not, XP_min, XP_max, XP_len_27, XP_len_9, XP_eql_nil_74, X_str_eql, X_str_neq, XP_str_eql, XP_str_neq, GS, gs_u, decide_true, decide_false, Option.isNone_some, Option.isSome_some, Option.isNone_none, Option.isSome_none, eq_self, Bool.not_true, Bool.not_false, Int.reduceEq, Int.reduceNe, Int.reduceLT, Int.reduceLE, Int.reduceGT, Int.reduceGE, c]))
    rw [r11]
    have hbl : bs.length = x.length - ar := by rw [← hdr, List.length_drop]
    have hsi := hsmall _ (List.getElem_mem his)
    have szAt : ∀ {w0 : World}, OwnK 1 3 szC w0 base sv ss → ∃ g : Addr, (∀ w', (Instr.indexAt 79 sv (.int .i64 (i : Int))).run Try.prog w' = .ok (.pointer (some g)) w') ∧ (∀ w', Ext w0 w' → (Instr.loadAt 3 (.pointer (some g))).run Try.prog w' = .ok (.int .i64 ((ss[i] : Nat) : Int)) w') := by
      intro w0 ho
      obtain ⟨ad, hix, hcs⟩ := (OwnK.rowK (by decide) szC_len ho).at Try.underlying79 info_3 sz_3 (kd := .i64) (ii := (i : Int)) i rfl his
      refine ⟨ad, hix, fun w' kk => run_loadAt agg_3 (kk.cell (fun h => h) ?_)⟩
      have := hcs 0 _ rfl
      rw [show ad.add 0 = ad from rfl] at this
      exact this
    have hxd := Keep.drew (fun _ => False) wr
    have hosd := OwnK.ext hos hxd
    have hold := OwnK.ext hol hxd
    have hcd : (drewW wr).heap[hi]? = some (.cells #[vr, .int .i64 (ar : Nat), .int .i64 f] 57 (0, 0)) := hcr
    have hbd := hbr.ext hxd
    have hrd2 := hrd.ext hxd
    have hkd := hk.trans (Keep.ext hxd)
    have hind : ∀ c ∈ ps, c.In (drewW wr) ∧ (0 < c.p.bs.length → ∀ k, c.dv.ownBlock = some k → k < hi) := fun c hc => ⟨(hin c hc).1.ext hxd, (hin c hc).2⟩
    refine ⟨Ext, Ext.frame, ?_⟩
    generalize drewW wr = wd at hosd hold hcd hbd hrd2 hkd hind ⊢
    obtain ⟨gs, hixs, hlds⟩ := szAt hosd
    obtain ⟨ax, cx, ex⟩ := Bts.slice hbd
    have ldv : ∀ {w0 : World}, w0.heap[hi]? = some (.cells #[vr, .int .i64 (ar : Nat), .int .i64 f] 57 (0, 0)) → ∀ w', Ext w0 w' → (Instr.loadAt 27 (.pointer (some ⟨hi, 0, none⟩))).run Try.prog w' = .ok vr w' := fun h w' kk => run_loadAt agg_27 ((cell_blk (kk.get h)).trans rfl)
    have lda : ∀ {w0 : World}, w0.heap[hi]? = some (.cells #[vr, .int .i64 (ar : Nat), .int .i64 f] 57 (0, 0)) → ∀ w', Ext w0 w' → (Instr.loadAt 3 (.pointer (some ⟨hi, 0 + 1, none⟩))).run Try.prog w' = .ok (.int .i64 (ar : Nat)) w' := fun h w' kk => run_loadAt agg_3 ((cell_blk (kk.get h)).trans rfl)
    refine XP_of hixs ?_
    refine XR_ok Ext.frame hlds ?_
    rw [XP_field_57_0]
    refine XR_ok Ext.frame (ldv hcd) ?_
    rw [ex, XP_len_27, XP_field_57_1, ← ex]
    refine XR_ok Ext.frame (lda hcd) ?_
    refine XP_of (fun w' => run_sub 3 .i64 _ _ w') ?_
    rw [w64 (by omega) (by omega)]
    refine XP_of (fun w' => run_gtr 3 .i64 _ _ w') ?_
    rw [condS_bool]
    by_cases hbig : ss[i] ≤ bs.length
    case neg =>
      rw [if_pos (by simp; omega)]
      show K (.tuple #[.int .u32 0, .slice none 0 0, i64v 110]) wd
      refine fail ?_ _ (hE hkd)
      intro id' l' hid' hf e
      obtain ⟨g1, g2, g3, g4, g5, g6, g7⟩ := S id' l' hid' hf e
      exfalso
      have hil : i < l'.length := by omega
      apply hbig
      have e1 : ss[i] = l'[i].bs.length := by simp [g6]
      have e2 : dataP (l'.drop i) = l'[i].bs ++ dataP (l'.drop (i + 1)) := by rw [List.drop_eq_getElem_cons hil, dataP_cons]
      rw [e1, g7, e2, List.length_append]
      omega
    rw [if_neg (by simp; omega)]
    have hxe := Keep.drew (fun _ => False) wd
    have hose := OwnK.ext hosd hxe
    have hole := OwnK.ext hold hxe
    have hce : (drewW wd).heap[hi]? = some (.cells #[vr, .int .i64 (ar : Nat), .int .i64 f] 57 (0, 0)) := hcd
    have hbe := hbd.ext hxe
    have hrde := hrd2.ext hxe
    have hke := hkd.trans (Keep.ext hxe)
    have hine : ∀ c ∈ ps, c.In (drewW wd) ∧ (0 < c.p.bs.length → ∀ k, c.dv.ownBlock = some k → k < hi) := fun c hc => ⟨(hind c hc).1.ext hxe, (hind c hc).2⟩
    refine ⟨Ext, Ext.frame, ?_⟩
    generalize drewW wd = we at hose hole hce hbe hrde hke hine ⊢
    obtain ⟨gs2, hixs2, hlds2⟩ := szAt hose
    rw [XP_field_57_0]
    refine XR_ok Ext.frame (ldv hce) ?_
    rw [XP_field_57_1]
    refine XR_ok Ext.frame (lda hce) ?_
    rw [XP_field_57_1]
    refine XR_ok Ext.frame (lda hce) ?_
    refine XP_of hixs2 ?_
    refine XR_ok Ext.frame hlds2 ?_
    refine XP_of (fun w => xp_add 3 ar ss[i] (ar + ss[i]) rfl (by omega) w) ?_
    obtain ⟨u, hu, hub, huo⟩ := cut_both Try.underlying27 info_5 sz_5 hbe (kl := .i64) (kh := .i64) (li := ((ar : Nat) : Int)) (hj := ((ar + ss[i] : Nat) : Int)) ar (ar + ss[i]) rfl rfl (by omega) (by omega)
    refine XP_of hu ?_
    have hubs : (x.take (ar + ss[i])).drop ar = bs.take ss[i] := by
      rw [← hdr, List.drop_take]
      congr 1
      omega
    rw [hubs] at hub
    obtain ⟨au, cu, eu⟩ := Bts.slice hub
    obtain ⟨g, cap, cur, evl, hgb, hh, hpc, hset⟩ := own_set hole (p := i * 34 + 33) (by omega) u
    have hixl : ∀ w', (Instr.indexAt 100 lv (.int .i64 (i : Int))).run Try.prog w' = .ok (.pointer (some ⟨g, 0 + i * 34, none⟩)) w' := by
      intro w'
      have := ix Try.underlying100 info_115 (a := ⟨g, 0, none⟩) (n := ps.length) (c := cap) (k := .i64) (ii := (i : Int)) i rfl hip w'
      rw [sz_115, add_plain] at this
      rw [evl]
      exact this
    refine XP_of hixl ?_
    rw [XP_field_115_1]
    refine XU_store info_27 sz_27 (by rw [eu]; rfl) hh (by omega) (by show ¬ ((0 : Nat) ≤ _ ∧ _ < 0); omega) ?_
    have e33 : 0 + i * 34 + 33 = i * 34 + 33 := by omega
    rw [e33]
    have hkf := setAt_keep we g (cur.setIfInBounds (i * 34 + 33) u) 115 (0, 0)
    generalize setAt we g (cur.setIfInBounds (i * 34 + 33) u) 115 (0, 0) = wf at hset hkf ⊢
    have hhib : hi < base := by omega
    have hcf := hkf.get (b := hi) (by omega) hce
    have hosf : OwnK 1 3 szC wf base sv ss := own_keepD hose hkf (fun q hq hqg => by subst hqg; exact own_neT hose hh (by decide) hq)
    have hinf : ∀ c ∈ ps, c.In wf ∧ (0 < c.p.bs.length → ∀ k, c.dv.ownBlock = some k → k < hi) := fun c hc => ⟨(hine c hc).1.keep' hkf (fun hp k hk he => by have := (hine c hc).2 hp k hk; omega), (hine c hc).2⟩
    have hubk : 0 < (bs.take ss[i]).length → ∀ k, u.ownBlock = some k → k < hi := by
      intro hp k hk
      rw [huo] at hk
      refine (hor ?_ k hk).2.1
      rw [List.length_take] at hp
      omega
    have hubf := hub.keep' hkf (fun hp k hk he => by have := hubk hp k hk; omega)
    have hbf := hbe.keep' hkf (fun hp k hk he => by have := (hor hp k hk).2.1; omega)
    have hkf' := hke.trans (hkf.mono (fun q _ h => .inr (by rw [h]; exact hgb)))
    -- the third part
    have hxg := Keep.drew (fun _ => False) wf
    have hcg : (drewW wf).heap[hi]? = some (.cells #[vr, .int .i64 (ar : Nat), .int .i64 f] 57 (0, 0)) := hcf
    have hosg := OwnK.ext hosf hxg
    have hsetg := own_extD hset hxg
    have hing : ∀ c ∈ ps, c.In (drewW wf) ∧ (0 < c.p.bs.length → ∀ k, c.dv.ownBlock = some k → k < hi) := fun c hc => ⟨(hinf c hc).1.ext hxg, (hinf c hc).2⟩
    have hubg := hubf.ext hxg
    have hbg := hbf.ext hxg
    have hkg := hkf'.trans (Keep.ext hxg)
    refine ⟨Ext, Ext.frame, ?_⟩
    generalize drewW wf = wg at hcg hosg hsetg hing hubg hbg hkg ⊢
    obtain ⟨gs3, hixs3, hlds3⟩ := szAt hosg
    rw [XP_field_57_1]
    refine XR_ok Ext.frame (lda hcg) ?_
    refine XP_of hixs3 ?_
    refine XR_ok Ext.frame hlds3 ?_
    refine XP_of (fun w => xp_add 3 ar ss[i] (ar + ss[i]) rfl (by omega) w) ?_
    rw [XP_field_57_1]
    refine XU_store info_3 sz_3 rfl hcg (by show 1 < 3; decide) (by decide) ?_
    have hkh := setAt_keep wg hi (#[vr, .int .i64 (ar : Nat), .int .i64 f].setIfInBounds (0 + 1) (.int .i64 ((ar + ss[i] : Nat) : Int))) 57 (0, 0)
    have hch : (setAt wg hi (#[vr, .int .i64 (ar : Nat), .int .i64 f].setIfInBounds (0 + 1) (.int .i64 ((ar + ss[i] : Nat) : Int))) 57 (0, 0)).heap[hi]? = some (.cells #[vr, .int .i64 ((ar + ss[i] : Nat) : Int), .int .i64 f] 57 (0, 0)) := setAt_same (lt_of_blk hcg)
    generalize setAt wg hi (#[vr, .int .i64 (ar : Nat), .int .i64 f].setIfInBounds (0 + 1) (.int .i64 ((ar + ss[i] : Nat) : Int))) 57 (0, 0) = wh at hkh hch ⊢
    rw [X_add]
    show _ ∧ _
    have hpsl : (ps.set i ⟨⟨ps[i].p.k, bs.take ss[i]⟩, u⟩).length = ps.length := List.length_set
    have hei := hempty i hip (Nat.le_refl _)
    refine ⟨⟨i + 1, ps.set i ⟨⟨ps[i].p.k, bs.take ss[i]⟩, u⟩, bs.drop ss[i], by omega, by omega, own_keepD hosg hkh (fun q hq he => by have := (hosg.lt q hq).1; omega), ?_, fun c hc => ?_, ?_, ?_, fun j h hij => ?_, hkg.trans (hkh.mono (fun q _ h => .inl h)), ?_, next64 (n := 1000000) (by decide) (by omega), r7, r11, r10, r8, r0⟩, ?_⟩
    · unfold OwnK
      rw [hpsl, cellsK_bs ps i hip]
      exact own_keepD hsetg hkh (fun q hq he => by have := (hsetg.lt q hq).1; omega)
    · rcases List.mem_or_eq_of_mem_set hc with hc | hc
      · exact ⟨(hing c hc).1.keep' hkh (fun hp k hk he => by have := (hing c hc).2 hp k hk; omega), (hing c hc).2⟩
      · rw [hc]
        exact ⟨hubg.keep' hkh (fun hp k hk he => by have := hubk hp k hk; omega), hubk⟩
    · refine ⟨vr, ar + ss[i], hch, hbg.keep' hkh (fun hp k hk he => (hor hp k hk).2.2 he), by omega, ?_, hor⟩
      rw [← hdr, List.drop_drop]
    · have e1 : pl (ps.set i ⟨⟨ps[i].p.k, bs.take ss[i]⟩, u⟩) = (pl ps).set i ⟨ps[i].p.k, bs.take ss[i]⟩ := by
        unfold pl
        rw [List.map_set]
      rw [e1, totB_set (pl ps) i (by simpa using hip) _ (by simpa using hei), List.length_drop]
      show totB (pl ps) + (bs.take ss[i]).length + _ ≤ _
      rw [List.length_take]
      omega
    · rw [List.getElem_set_ne (by omega)]
      exact hempty j (by omega) (by omega)
    · intro id' l' hid' hf e
      obtain ⟨g1, g2, g3, g4, g5, g6, g7⟩ := S id' l' hid' hf e
      have hil : i < l'.length := by omega
      have e1 : ss[i] = l'[i].bs.length := by simp [g6]
      have e2 : dataP (l'.drop i) = l'[i].bs ++ dataP (l'.drop (i + 1)) := by rw [List.drop_eq_getElem_cons hil, dataP_cons]
      refine ⟨g1, g2, g3, by rw [kys_set ps i hip]; exact g4, ?_, g6, ?_⟩
      · have e3 : (pl (ps.set i ⟨⟨ps[i].p.k, bs.take ss[i]⟩, u⟩)).map Pp.bs = ((pl ps).map Pp.bs).set i (bs.take ss[i]) := by
          unfold pl
          rw [List.map_set, List.map_set]
        have hpi : i < ((pl ps).map Pp.bs).length := by simpa using hip
        rw [e3, List.take_succ_eq_append_getElem (show i < (((pl ps).map Pp.bs).set i (bs.take ss[i])).length by simpa using hip), List.take_succ_eq_append_getElem (show i < (l'.map Pp.bs).length by simpa using hil), List.getElem_set_self, List.take_set_of_le (Nat.le_refl _), g5]
        congr 1
        rw [g7, e1, e2, tk _ _ rfl]
        simp
      · rw [g7, e1, e2, dr _ _ rfl]
    · show (_ - IntKind.i64.wrap _).toNat < _
      rw [w64 (by omega) (by omega)]
      first | omega | (show _ < (_ : Int).toNat; omega)
  rintro ρ wr ⟨ps, bs, hpl, hrow, hin, hrd, htot, hk, S, r7, r10, r8, r0⟩
  have hxw := hE hk
  have hpll : (pl ps).length = ps.length := by simp
  rw [r8, r10, r7, r0]
  refine RLay_spec hlt4 hrow hin (by omega) (fun hc w5 hx5 => ?_) (fun hc y w5 hx5 ho5 => ?_)
  · have cc : decide (chk (pl ps) ≠ 0) = true := by simpa using hc
    have bad : (IfCont x fun _ l => chk l ≠ 0) := fun id' l' hid' hf e => by rw [← (S id' l' hid' hf e).2.2.1]; exact hc
    (repeat (simp only [XP_extract0, XP_extract1, XP_extract2, XP_extract3, X_extract0, X_extract1, X_extract2, X_extract3, X_nilS, X_eql_nil_74, X_neq_nil_74, X_eql_nil_124, X_neq_nil_124, X_eql, X_neq, X_lss, X_leq, X_gtr, X_geq, X_not, X_min, X_max, X_len_27, X_len_9, X_len_79, XP_nilS, XP_eql, XP_neq, XP_lss, XP_leq, XP_gtr, XP_geq, XP_not, XP_min, XP_max, XP_len_27, XP_len_9, XP_eql_nil_74, X_str_eql, X_str_neq, XP_str_eql, XP_str_neq, GS, gs_u, decide_true, decide_false, Option.isNone_some, Option.isSome_some, Option.isNone_none, Option.isSome_none, eq_self, Bool.not_true, Bool.not_false, Int.reduceEq, Int.reduceNe, Int.reduceLT, Int.reduceLE, Int.reduceGT, Int.reduceGE]))
    refine REnd_spec (hrd.ext hx5) ?_
    intro w6 hx6
    have hx := (hxw.trans hx5).trans hx6
    by_cases he : endR bs f = 0
    · have c1 : decide (endR bs f ≠ 0) = false := by simpa using he
      (repeat (simp only [XP_extract0, XP_extract1, XP_extract2, XP_extract3, X_extract0, X_extract1, X_extract2, X_extract3, X_nilS, X_eql_nil_74, X_neq_nil_74, X_eql_nil_124, X_neq_nil_124, X_eql, X_neq, X_lss, X_leq, X_gtr, X_geq, X_not, X_min, X_max, X_len_27, X_len_9, X_len_79, XP_nilS, XP_eql, XP_neq, XP_lss, XP_leq, XP_gtr, XP_geq, XP_not, XP_min, XP_max, XP_len_27, XP_len_9, XP_eql_nil_74, X_str_eql, X_str_neq, XP_str_eql, XP_str_neq, GS, gs_u, decide_true, decide_false, Option.isNone_some, Option.isSome_some, Option.isNone_none, Option.isSome_none, eq_self, Bool.not_true, Bool.not_false, Int.reduceEq, Int.reduceNe, Int.reduceLT, Int.reduceLE, Int.reduceGT, Int.reduceGE, c1, cc]))
      exact fail bad _ hx
    · have c1 : decide (endR bs f ≠ 0) = true := by simpa using he
      (repeat (simp only [XP_extract0, XP_extract1, XP_extract2, XP_extract3, X_extract0, X_extract1, X_extract2, X_extract3, X_nilS, X_eql_nil_74, X_neq_nil_74, X_eql_nil_124, X_neq_nil_124, X_eql, X_neq, X_lss, X_leq, X_gtr, X_geq, X_not, X_min, X_max, X_len_27, X_len_9, X_len_79, XP_nilS, XP_eql, XP_neq, XP_lss, XP_leq, XP_gtr, XP_geq, XP_not, XP_min, XP_max, XP_len_27, XP_len_9, XP_eql_nil_74, X_str_eql, X_str_neq, XP_str_eql, XP_str_neq, GS, gs_u, decide_true, decide_false, Option.isNone_some, Option.isSome_some, Option.isNone_none, Option.isSome_none, eq_self, Bool.not_true, Bool.not_false, Int.reduceEq, Int.reduceNe, Int.reduceLT, Int.reduceLE, Int.reduceGT, Int.reduceGE, c1]))
      exact fail bad _ hx
  · (repeat (simp only [XP_extract0, XP_extract1, XP_extract2, XP_extract3, X_extract0, X_extract1, X_extract2, X_extract3, X_nilS, X_eql_nil_74, X_neq_nil_74, X_eql_nil_124, X_neq_nil_124, X_eql, X_neq, X_lss, X_leq, X_gtr, X_geq, X_not, X_min, X_max, X_len_27, X_len_9, X_len_79, XP_nilS, XP_eql, XP_neq, XP_lss, XP_leq, XP_gtr, XP_geq, XP_not, XP_min, XP_max, XP_len_27, XP_len_9, XP_eql_nil_74, X_str_eql, X_str_neq, XP_str_eql, XP_str_neq, GS, gs_u, decide_true, decide_false, Option.isNone_some, Option.isSome_some, Option.isNone_none, Option.isSome_none, eq_self, Bool.not_true, Bool.not_false, Int.reduceEq, Int.reduceNe, Int.reduceLT, Int.reduceLE, Int.reduceGT, Int.reduceGE]))
    refine REnd_spec (hrd.ext hx5) ?_
    intro w6 hx6
    have hx := (hxw.trans hx5).trans hx6
    by_cases he : endR bs f = 0
    case neg =>
      have c1 : decide (endR bs f ≠ 0) = true := by simpa using he
      (repeat (simp only [XP_extract0, XP_extract1, XP_extract2, XP_extract3, X_extract0, X_extract1, X_extract2, X_extract3, X_nilS, X_eql_nil_74, X_neq_nil_74, X_eql_nil_124, X_neq_nil_124, X_eql, X_neq, X_lss, X_leq, X_gtr, X_geq, X_not, X_min, X_max, X_len_27, X_len_9, X_len_79, XP_nilS, XP_eql, XP_neq, XP_lss, XP_leq, XP_gtr, XP_geq, XP_not, XP_min, XP_max, XP_len_27, XP_len_9, XP_eql_nil_74, X_str_eql, X_str_neq, XP_str_eql, XP_str_neq, GS, gs_u, decide_true, decide_false, Option.isNone_some, Option.isSome_some, Option.isNone_none, Option.isSome_none, eq_self, Bool.not_true, Bool.not_false, Int.reduceEq, Int.reduceNe, Int.reduceLT, Int.reduceLE, Int.reduceGT, Int.reduceGE, c1]))
      refine fail (fun id' l' hid' hf e => ?_) _ hx
      obtain ⟨_, g2, _, g4⟩ := S id' l' hid' hf e
      exact absurd (by rw [g2, g4]; rfl) he
    have c1 : decide (endR bs f ≠ 0) = false := by simpa using he
    (repeat (simp only [XP_extract0, XP_extract1, XP_extract2, XP_extract3, X_extract0, X_extract1, X_extract2, X_extract3, X_nilS, X_eql_nil_74, X_neq_nil_74, X_eql_nil_124, X_neq_nil_124, X_eql, X_neq, X_lss, X_leq, X_gtr, X_geq, X_not, X_min, X_max, X_len_27, X_len_9, X_len_79, XP_nilS, XP_eql, XP_neq, XP_lss, XP_leq, XP_gtr, XP_geq, XP_not, XP_min, XP_max, XP_len_27, XP_len_9, XP_eql_nil_74, X_str_eql, X_str_neq, XP_str_eql, XP_str_neq, GS, gs_u, decide_true, decide_false, Option.isNone_some, Option.isSome_some, Option.isNone_none, Option.isSome_none, eq_self, Bool.not_true, Bool.not_false, Int.reduceEq, Int.reduceNe, Int.reduceLT, Int.reduceLE, Int.reduceGT, Int.reduceGE, c1, n00]))
    have hby := ((own_bts ho5).1).ext hx6
    refine X_of (run_str (src := 27) (dst := 9) Try.underlying27 Try.underlying5 Try.underlying9 hby) ?_
    refine X_of (run_str (src := 27) (dst := 9) Try.underlying27 Try.underlying5 Try.underlying9 (hb.ext hx)) ?_
    by_cases heq : layP id (pl ps) = b
    · have c2 := str_neF heq
      (repeat (simp only [XP_extract0, XP_extract1, XP_extract2, XP_extract3, X_extract0, X_extract1, X_extract2, X_extract3, X_nilS, X_eql_nil_74, X_neq_nil_74, X_eql_nil_124, X_neq_nil_124, X_eql, X_neq, X_lss, X_leq, X_gtr, X_geq, X_not, X_min, X_max, X_len_27, X_len_9, X_len_79, XP_nilS, XP_eql, XP_neq, XP_lss, XP_leq, XP_gtr, XP_geq, XP_not, XP_min, XP_max, XP_len_27, XP_len_9, XP_eql_nil_74, X_str_eql, X_str_neq, XP_str_eql, XP_str_neq, GS, gs_u, decide_true, decide_false, Option.isNone_some, Option.isSome_some, Option.isNone_none, Option.isSome_none, eq_self, Bool.not_true, Bool.not_false, Int.reduceEq, Int.reduceNe, Int.reduceLT, Int.reduceLE, Int.reduceGT, Int.reduceGE, c2]))
      exact h1 id (pl ps) hlt4 hc heq.symm lv ps w6 rfl hx (hrow.ext (hx5.trans hx6)) (fun c hc => (hin c hc).ext (hx5.trans hx6))
    · have c2 : ((str (layP id (pl ps))).toList != (str b).toList) = true := by rw [str_toList, str_toList, l8_bne]; simpa using heq
      (repeat (simp only [XP_extract0, XP_extract1, XP_extract2, XP_extract3, X_extract0, X_extract1, X_extract2, X_extract3, X_nilS, X_eql_nil_74, X_neq_nil_74, X_eql_nil_124, X_neq_nil_124, X_eql, X_neq, X_lss, X_leq, X_gtr, X_geq, X_not, X_min, X_max, X_len_27, X_len_9, X_len_79, XP_nilS, XP_eql, XP_neq, XP_lss, XP_leq, XP_gtr, XP_geq, XP_not, XP_min, XP_max, XP_len_27, XP_len_9, XP_eql_nil_74, X_str_eql, X_str_neq, XP_str_eql, XP_str_neq, GS, gs_u, decide_true, decide_false, Option.isNone_some, Option.isSome_some, Option.isNone_none, Option.isSome_none, eq_self, Bool.not_true, Bool.not_false, Int.reduceEq, Int.reduceNe, Int.reduceLT, Int.reduceLE, Int.reduceGT, Int.reduceGE, c2]))
      refine h0 (fun id' l' hid' hc' he' => ?_) _ hx
      obtain ⟨g1, _, g3, _⟩ := S id' l' hid' (fit_chk hc') (hcont id' l' hid' hc' he')
      exact heq (by rw [g3, ← g1]; exact he'.symm)
end
end Go.Proofs.Ytggggfcgnkllgaa
end
section
/- cellaragelaw08: few, does, model, alike, shown. -/
set_option linter.unusedVariables false
set_option linter.unusedSimpArgs false
namespace Go.Proofs.Ytggggfcgnkllgaa
open Go Go.Sh Go.RowKit
attribute [local irreducible] X XU XP XR CALL loopS resC closS
/-- An act on the plain disk. -/
def _root_.Go.Sh.Dk.act (d : Dk) (a : DAct) : Dk × Int :=
  if a.kind % 5 = 0 then d.write a.pos a.bs
  else if a.kind % 5 = 1 then d.flush
  else if a.kind % 5 = 2 then (d.cut a.num, 0)
  else if a.kind % 5 = 3 then (d.crash a.fates, 0)
  else (d, 0)
theorem _root_.Go.Sh.Dk.act_ok {d : Dk} (h : d.ok) {a : DAct} {W : World} (ha : a.In W) : (d.act a).1.ok := by
  unfold Dk.act
  split
  · exact Dk.write_ok h _ _
  · split
    · exact Dk.flush_ok h
    · split
      · exact Dk.cut_ok h ha.num
      · split
        · exact Dk.crash_ok h _
        · exact h
theorem _root_.Go.Sh.Dk.act_size (d : Dk) (a : DAct) : (d.act a).1.safe.length = d.safe.length := by
  unfold Dk.act
  split
  · exact Dk.write_size _ _ _
  · split
    · exact Dk.flush_size _
    · split
      · exact Dk.cut_size _ _
      · split
        · exact Dk.crash_size _ _
        · rfl
theorem _root_.Go.Sh.Dk.act_ws (d : Dk) (a : DAct) : (d.act a).1.ws.length ≤ d.ws.length + 1 := by
  unfold Dk.act
  split
  · exact Dk.write_ws _ _ _
  · split
    · have := Dk.flush_ws d; omega
    · split
      · unfold Dk.cut; split <;> simp
      · split
        · simp [Dk.crash]
        · simp
theorem kind5 (T : TypeId) (k : Nat) (w : World) : (binOp .rem T (.int .u8 (k : Int)) (.int .u8 5)).run Try.prog w = .ok (.int .u8 ((k % 5 : Nat) : Int)) w := by
  rw [run_rem _ _ _ _ (by decide)]
  rfl
/-- The acts' slices lie apart from the object b. -/
def Off (w : World) (b : Nat) (a : DAct) : Prop := (0 < a.bs.length → ∀ k, a.bv.ownBlock = some k → ¬ foot w b k) ∧ (0 < a.fates.length → ∀ k, a.fv.ownBlock = some k → ¬ foot w b k)
theorem off_of {W w : World} {b : Nat} {a : DAct} (ha : a.In W) (hl : ∀ k, foot w b k → W.heap.size ≤ k) : Off w b a :=
  ⟨fun h0 k hk hf => by have := ha.bts.blk_lt h0 k hk; have := hl k hf; omega, fun h0 k hk hf => by have := ha.fate.blk_lt h0 k hk; have := hl k hf; omega⟩
section
variable {w : World} {b : Nat} {d : Dk} {K : Value → World → Prop}
theorem does_spec {a : DAct} (h : DiskAt w b d) (hw : d.ws.length ≤ 1000000) (ha : a.In w) (hoff : Off w b a) (hlen : a.bs.length ≤ 140737488351232)
    (hK : ∀ w1, DiskAt w1 b (d.act a).1 → Step b w w1 → K (i64v (d.act a).2) w1) : CALL Try.prog 75 #[ptr b, .agg a.cs.toArray] w K := by
  apply call_law08_does
  unfold B_law08_does
  refine X_box ?_
  have hq := newB_get w a.cs.toArray 86
  have hx := newB_ext w a.cs.toArray 86
  show joinS _ _
  have hc : (Value.agg a.cs.toArray).cells = a.cs.toArray := rfl
  rw [hc]
  have hqn : ¬ foot (newB w a.cs.toArray 86) b w.heap.size := fun hf => by
    have := h.lt _ ((foot_same (hx.block b (h.lt b (foot_self w b)) (fun h => h))).1 hf)
    omega
  generalize newB w a.cs.toArray 86 = w1 at hq hx hqn ⊢
  have h1 := h.ext hx
  have ha1 := ha.ext hx
  have s1 : Step b w w1 := Step.ext hx (h.lt b (foot_self w b))
  have hoff1 : Off w1 b a := ⟨fun h0 k hk hf => hoff.1 h0 k hk ((foot_same (hx.block b (h.lt b (foot_self w b)) (fun h => h))).1 hf), fun h0 k hk hf => hoff.2 h0 k hk ((foot_same (hx.block b (h.lt b (foot_self w b)) (fun h => h))).1 hf)⟩
  refine joinS_of (fun _ w' => (d.act a).2 = 0 ∧ DiskAt w' b (d.act a).1 ∧ Step b w w') ?_ ?_
  · rintro ρ w' ⟨e, h', s'⟩
    have := hK w' h' s'
    rw [e] at this
    exact this
  intro J hJ
  simp only [X_field_86_0]
  refine X_loadL agg_5 hq rfl ?_
  refine X_of (kind5 5 a.kind _) ?_
  simp only [X_eql, condS_bool]
  by_cases k0 : a.kind % 5 = 0
  · have e : d.act a = d.write a.pos a.bs := by unfold Dk.act; rw [if_pos k0]
    rw [if_pos (by simp [k0])]
    have hfl : ∀ k, foot w1 b k → k < w1.heap.size := h1.lt
    refine ⟨Keep (fun k => foot w1 b k ∨ w1.heap.size ≤ k), Keep.frame _, ?_⟩
    have hxd := Keep.drew (fun _ => False) w1
    have hqd : (drewW w1).heap[w.heap.size]? = some (.cells a.cs.toArray 86 (0, 0)) := hq
    have hqn' : ¬ (foot w1 b w.heap.size ∨ w1.heap.size ≤ w.heap.size) := fun h => h.elim hqn (fun h => by have := lt_of_blk hq; omega)
    simp only [XP_field_86_1, XP_field_86_3]
    refine XR_ok (Keep.frame _) (fun w' k => run_loadAt agg_3 (blk_get (k.get hqn' hqd) (v := .int .i64 a.pos) rfl)) ?_
    refine XR_ok (Keep.frame _) (fun w' k => run_loadAt agg_27 (blk_get (k.get hqn' hqd) (v := a.bv) rfl)) ?_
    refine X_of (run_empty27 _) ?_
    have hx2 := newB_ext (drewW w1) #[] 5
    have ho2 := own_emptyT (drewW w1) 5 1
    refine ⟨hx2.ext, ?_⟩
    refine X_append_bts (base := (drewW w1).heap.size) Try.underlying27 el_5 (xs := []) ho2 ((ha1.bts.ext hxd).ext hx2) (by omega) hx2.size ?_
    intro v3 w3 ho3 hk3
    rw [Nat.zero_add, List.nil_append] at ho3
    have hx3 : Ext (drewW w1) w3 := Ext.seq hx2 hk3 (fun i hi => by injection hi with hi; exact Nat.le_of_eq hi.symm)
    refine ⟨hk3.mono (fun i hi hi' => .inr (by injection hi' with hi'; exact Nat.le_of_eq hi'.symm)), ?_⟩
    have hx13 := hxd.trans hx3
    refine Write_spec (h1.ext hx13) hw (own_bts ho3).1 (fun h0 k hk hf => ?_) ?_
    · have := (ho3.lt k hk).1
      have := hfl k ((foot_same (hx13.block b (h1.lt b (foot_self w1 b)) (fun h => h))).1 hf)
      have e0 : (drewW w1).heap.size = w1.heap.size := rfl
      omega
    intro w4 h4 s4
    refine ⟨s4.keep.mono (fun i hi hf => .inl ((foot_same (hx13.block b (h1.lt b (foot_self w1 b)) (fun h => h))).1 hf)), ?_⟩
    have := hK w4 (by rw [e]; exact h4) (s1.trans ((Step.ext hx13 (h1.lt b (foot_self w1 b))).trans s4))
    rw [e] at this
    exact this
  rw [if_neg (by simp; omega)]
  by_cases k1 : a.kind % 5 = 1
  · have e : d.act a = d.flush := by unfold Dk.act; rw [if_neg k0, if_pos k1]
    rw [if_pos (by simp [k1])]
    refine Flush_spec h1 ?_
    intro w4 h4 s4
    have := hK w4 (by rw [e]; exact h4) (s1.trans s4)
    rw [e] at this
    exact this
  rw [if_neg (by simp; omega)]
  by_cases k2 : a.kind % 5 = 2
  · have e : d.act a = (d.cut a.num, 0) := by unfold Dk.act; rw [if_neg k0, if_neg k1, if_pos k2]
    rw [if_pos (by simp [k2])]
    simp only [X_field_86_2]
    refine X_loadL agg_3 hq (v := .int .i64 a.num) rfl ?_
    refine Cut_spec ha.num h1 ?_
    intro w4 h4 s4
    exact hJ _ _ ⟨by rw [e], by rw [e]; exact h4, s1.trans s4⟩
  rw [if_neg (by simp; omega)]
  by_cases k3 : a.kind % 5 = 3
  · have e : d.act a = (d.crash a.fates, 0) := by unfold Dk.act; rw [if_neg k0, if_neg k1, if_neg k2, if_pos k3]
    rw [if_pos (by simp [k3])]
    simp only [X_field_86_4]
    refine X_loadL agg_79 hq (v := a.fv) rfl ?_
    refine Crash_spec h1 ha1.fate hoff1.2 ?_
    intro w4 h4 s4
    exact hJ _ _ ⟨by rw [e], by rw [e]; exact h4, s1.trans s4⟩
  rw [if_neg (by simp; omega)]
  have e : d.act a = (d, 0) := by unfold Dk.act; rw [if_neg k0, if_neg k1, if_neg k2, if_neg k3]
  exact hJ _ _ ⟨by rw [e], by rw [e]; exact h1, s1⟩
theorem model_spec {a : DAct} (h : RefAt w b d) (hw : d.ws.length ≤ 1000000) (ha : a.In w) (hoff : Off w b a)
    (hK : ∀ w1, RefAt w1 b (d.act a).1 → Step b w w1 → K (i64v (d.act a).2) w1) : CALL Try.prog 82 #[ptr b, .agg a.cs.toArray] w K := by
  apply call_law08_model
  unfold B_law08_model
  refine X_box ?_
  have hq := newB_get w a.cs.toArray 86
  have hx := newB_ext w a.cs.toArray 86
  show joinS _ _
  have hc : (Value.agg a.cs.toArray).cells = a.cs.toArray := rfl
  rw [hc]
  generalize newB w a.cs.toArray 86 = w1 at hq hx ⊢
  have h1 := h.ext hx
  have ha1 := ha.ext hx
  have s1 : Step b w w1 := Step.ext hx (h.lt b (foot_self w b))
  have hoff1 : Off w1 b a := ⟨fun h0 k hk hf => hoff.1 h0 k hk ((foot_same (hx.block b (h.lt b (foot_self w b)) (fun h => h))).1 hf), fun h0 k hk hf => hoff.2 h0 k hk ((foot_same (hx.block b (h.lt b (foot_self w b)) (fun h => h))).1 hf)⟩
  refine joinS_of (fun _ w' => (d.act a).2 = 0 ∧ RefAt w' b (d.act a).1 ∧ Step b w w') ?_ ?_
  · rintro ρ w' ⟨e, h', s'⟩
    have := hK w' h' s'
    rw [e] at this
    exact this
  intro J hJ
  simp only [X_field_86_0]
  refine X_loadL agg_5 hq rfl ?_
  refine X_of (kind5 5 a.kind _) ?_
  simp only [X_eql, condS_bool]
  by_cases k0 : a.kind % 5 = 0
  · have e : d.act a = d.write a.pos a.bs := by unfold Dk.act; rw [if_pos k0]
    rw [if_pos (by simp [k0])]
    simp only [X_field_86_1, X_field_86_3]
    refine X_loadL agg_3 hq (v := .int .i64 a.pos) rfl ?_
    refine X_loadL agg_27 hq (v := a.bv) rfl ?_
    refine X_str Try.underlying27 Try.underlying5 Try.underlying9 ha1.bts ?_
    refine RWrite_spec h1 hw ?_
    intro w4 h4 s4
    have := hK w4 (by rw [e]; exact h4) (s1.trans s4)
    rw [e] at this
    exact this
  rw [if_neg (by simp; omega)]
  by_cases k1 : a.kind % 5 = 1
  · have e : d.act a = d.flush := by unfold Dk.act; rw [if_neg k0, if_pos k1]
    rw [if_pos (by simp [k1])]
    refine RFlush_spec h1 hw ?_
    intro w4 h4 s4
    have := hK w4 (by rw [e]; exact h4) (s1.trans s4)
    rw [e] at this
    exact this
  rw [if_neg (by simp; omega)]
  by_cases k2 : a.kind % 5 = 2
  · have e : d.act a = (d.cut a.num, 0) := by unfold Dk.act; rw [if_neg k0, if_neg k1, if_pos k2]
    rw [if_pos (by simp [k2])]
    simp only [X_field_86_2]
    refine X_loadL agg_3 hq (v := .int .i64 a.num) rfl ?_
    refine RCut_spec ha.num h1 ?_
    intro w4 h4 s4
    exact hJ _ _ ⟨by rw [e], by rw [e]; exact h4, s1.trans s4⟩
  rw [if_neg (by simp; omega)]
  by_cases k3 : a.kind % 5 = 3
  · have e : d.act a = (d.crash a.fates, 0) := by unfold Dk.act; rw [if_neg k0, if_neg k1, if_neg k2, if_pos k3]
    rw [if_pos (by simp [k3])]
    simp only [X_field_86_4]
    refine X_loadL agg_79 hq (v := a.fv) rfl ?_
    refine RCrash_spec h1 hw ha1.fate hoff1.2 ?_
    intro w4 h4 s4
    exact hJ _ _ ⟨by rw [e], by rw [e]; exact h4, s1.trans s4⟩
  rw [if_neg (by simp; omega)]
  have e : d.act a = (d, 0) := by unfold Dk.act; rw [if_neg k0, if_neg k1, if_neg k2, if_neg k3]
  exact hJ _ _ ⟨by rw [e], by rw [e]; exact h1, s1⟩
theorem does_nil {a : DAct} (ha : a.In w) (hlen : a.bs.length ≤ 140737488351232) (hK : ∀ w1, Ext w w1 → K (i64v (if a.kind % 5 < 2 then 2 else 0)) w1) : CALL Try.prog 75 #[.pointer none, .agg a.cs.toArray] w K := by
  apply call_law08_does
  unfold B_law08_does
  refine X_box ?_
  have hq := newB_get w a.cs.toArray 86
  have hx := newB_ext w a.cs.toArray 86
  show joinS _ _
  have hc : (Value.agg a.cs.toArray).cells = a.cs.toArray := rfl
  rw [hc]
  generalize newB w a.cs.toArray 86 = w1 at hq hx ⊢
  have ha1 := ha.ext hx
  refine joinS_of (fun _ w' => ¬ a.kind % 5 < 2 ∧ Ext w w') ?_ ?_
  · rintro ρ w' ⟨e, h'⟩
    have := hK w' h'
    rw [if_neg e] at this
    exact this
  intro J hJ
  simp only [X_field_86_0]
  refine X_loadL agg_5 hq rfl ?_
  refine X_of (kind5 5 a.kind _) ?_
  simp only [X_eql, condS_bool]
  by_cases k0 : a.kind % 5 = 0
  · rw [if_pos (by simp [k0])]
    refine ⟨Keep (fun k => w1.heap.size ≤ k), Keep.frame _, ?_⟩
    have hxd := Keep.drew (fun _ => False) w1
    have hqd : (drewW w1).heap[w.heap.size]? = some (.cells a.cs.toArray 86 (0, 0)) := hq
    have hqn' : ¬ (w1.heap.size ≤ w.heap.size) := fun h => by have := lt_of_blk hq; omega
    simp only [XP_field_86_1, XP_field_86_3]
    refine XR_ok (Keep.frame _) (fun w' k => run_loadAt agg_3 (blk_get (k.get hqn' hqd) (v := .int .i64 a.pos) rfl)) ?_
    refine XR_ok (Keep.frame _) (fun w' k => run_loadAt agg_27 (blk_get (k.get hqn' hqd) (v := a.bv) rfl)) ?_
    refine X_of (run_empty27 _) ?_
    have hx2 := newB_ext (drewW w1) #[] 5
    have ho2 := own_emptyT (drewW w1) 5 1
    refine ⟨hx2.ext, ?_⟩
    refine X_append_bts (base := (drewW w1).heap.size) Try.underlying27 el_5 (xs := []) ho2 ((ha1.bts.ext hxd).ext hx2) (by omega) hx2.size ?_
    intro v3 w3 ho3 hk3
    have hx3 : Ext (drewW w1) w3 := Ext.seq hx2 hk3 (fun i hi => by injection hi with hi; exact Nat.le_of_eq hi.symm)
    refine ⟨hk3.mono (fun i hi hi' => by injection hi' with hi'; exact Nat.le_of_eq hi'.symm), ?_⟩
    refine Write_nil ?_
    refine ⟨Keep.refl _ _, ?_⟩
    have := hK w3 (hx.trans (hxd.trans hx3))
    rw [if_pos (by omega)] at this
    exact this
  rw [if_neg (by simp; omega)]
  by_cases k1 : a.kind % 5 = 1
  · rw [if_pos (by simp [k1])]
    refine Flush_nil ?_
    have := hK w1 hx
    rw [if_pos (by omega)] at this
    exact this
  rw [if_neg (by simp; omega)]
  by_cases k2 : a.kind % 5 = 2
  · rw [if_pos (by simp [k2])]
    simp only [X_field_86_2]
    refine X_loadL agg_3 hq (v := .int .i64 a.num) rfl ?_
    refine Cut_nil ?_
    exact hJ _ _ ⟨by omega, hx⟩
  rw [if_neg (by simp; omega)]
  by_cases k3 : a.kind % 5 = 3
  · rw [if_pos (by simp [k3])]
    simp only [X_field_86_4]
    refine X_loadL agg_79 hq (v := a.fv) rfl ?_
    refine Crash_nil ?_
    exact hJ _ _ ⟨by omega, hx⟩
  rw [if_neg (by simp; omega)]
  exact hJ _ _ ⟨by omega, hx⟩
/-- The first acts. -/
theorem few_spec {l : List DAct} {v : Value} (hl : RowK 5 DAct.cs w v l) (hin : ∀ a ∈ l, a.In w) 
    (hK : ∀ m v1, m ≤ 100 → m ≤ l.length → (∀ W, RowK 5 DAct.cs W v l → RowK 5 DAct.cs W v1 (l.take m)) → (∀ a ∈ l.take m, a.bs.length ≤ 20000) → K v1 w) : CALL Try.prog 74 #[v] w K := by
  obtain ⟨a0, c0, e0⟩ := hl.slice
  have hn : l.length ≤ 9223372036854775807 := by
    obtain ⟨_, c, _, h1, h2, _⟩ := hl
    omega
  apply call_law08_few
  unfold B_law08_few
  rw [e0, X_len_83, ← e0]
  refine loopE (fun ρ wr => wr = w ∧ ∃ i left : Nat, i ≤ l.length ∧ i ≤ 100 ∧ left ≤ 20000 ∧ (∀ a ∈ l.take i, a.bs.length ≤ 20000) ∧ ρ 7 = .int .i64 (i : Nat) ∧ ρ 6 = .int .i64 (l.length : Nat) ∧ ρ 0 = v ∧ ρ 3 = .int .i64 (left : Nat))
    (fun ρ wr => match ρ 7 with | .int _ s => (l.length - s).toNat | _ => 0)
    (fun ρ wr => wr = w ∧ l.length ≤ 100 ∧ (∀ a ∈ l, a.bs.length ≤ 20000) ∧ ρ 0 = v) ?_ ?_ ?_
  · exact ⟨rfl, 0, 20000, by omega, by omega, by omega, by simp, rfl, rfl, rfl, rfl⟩
  · rintro J hJ ρ wr ⟨rfl, i, left, hi, hi100, hleft, hall, h7, h6, h0, h3⟩
    rw [h7, h6, X_lss, condS_bool]
    by_cases hin' : i = l.length
    · rw [if_neg (by simp; omega)]
      refine hJ _ _ ⟨rfl, by omega, ?_, h0⟩
      rw [hin', List.take_length] at hall
      exact hall
    rw [if_pos (by simp; omega)]
    have hlt : i < l.length := by omega
    have stop : Go.Sh.X Try.prog (Instr.sliceAt 83 v none (some (.int .i64 (i : Int))) none) wr fun v13 w22 => K v13 w22 := by
      obtain ⟨u, hu, hru⟩ := hl.cut Try.underlying83 info_86 (kh := .i64) (hj := (i : Int)) i rfl hi
      refine X_of (hu _) (hK i u hi100 hi (fun W hW => ?_) hall)
      obtain ⟨u', hu', hru'⟩ := hW.cut Try.underlying83 info_86 (kh := .i64) (hj := (i : Int)) i rfl hi
      have := (hu wr).symm.trans (hu' wr)
      injection this with this
      rw [this]
      exact hru'
    obtain ⟨ad, hix, hcs⟩ := hl.at Try.underlying83 info_86 sz_86 (kd := .i64) i rfl hlt
    have hini := hin _ (List.getElem_mem hlt)
    obtain ⟨ab, cb, eb⟩ := Bts.slice hini.bts
    have hfield : (Instr.fieldAt 86 (.pointer (some ad)) 3).run Try.prog wr = .ok (.pointer (some (ad.add 3))) wr := by kernel_rfl
    have hld : (Instr.loadAt 27 (.pointer (some (ad.add 3)))).run Try.prog wr = .ok l[i].bv wr := run_loadAt agg_27 (hcs 3 _ rfl)
    rw [h0, h3]
    rw [X_geq]
    by_cases h100 : i = 100
    · have e1 : decide ((i : Int) ≥ 100) = true := by simp; omega
      simp only [e1, GS]
      exact stop
    have e1 : decide ((i : Int) ≥ 100) = false := by simp; omega
    simp only [e1, GS]
    refine X_of (hix _) ?_
    refine X_of hfield ?_
    refine X_of hld ?_
    rw [eb]
    simp only [X_len_27, X_gtr, GS]
    rw [condS_bool]
    by_cases hbig : left < l[i].bs.length
    · rw [if_pos (by simp; omega)]
      exact stop
    rw [if_neg (by simp; omega)]
    refine X_of (hix _) ?_
    refine X_of hfield ?_
    refine X_of hld ?_
    rw [eb]
    simp only [X_len_27, X_sub, X_add]
    show _ ∧ _
    refine ⟨⟨rfl, i + 1, left - l[i].bs.length, by omega, by omega, by omega, ?_, next64 (n := 100) (by decide) (by omega), h6, h0, ?_⟩, ?_⟩
    · intro a ha
      rw [List.take_succ_eq_append_getElem hlt] at ha
      rcases List.mem_append.1 ha with ha | ha
      · exact hall a ha
      · rw [List.mem_singleton.1 ha]; omega
    · show Value.int .i64 (IntKind.i64.wrap ((left : Int) - (l[i].bs.length : Int))) = _
      have e : (left : Int) - (l[i].bs.length : Int) = ((left - l[i].bs.length : Nat) : Int) := by omega
      rw [w64 (by omega) (by omega), e]
    · show (_ - IntKind.i64.wrap _).toNat < _
      rw [w64 (by omega) (by omega)]
      first | omega | (show _ < (_ : Int).toNat; omega)
  · rintro ρ wr ⟨rfl, h100, hall, h0⟩
    rw [h0]
    exact hK l.length v h100 (Nat.le_refl _) (fun W hW => by rw [List.take_length]; exact hW) (by rw [List.take_length]; exact hall)
end
end Go.Proofs.Ytggggfcgnkllgaa
end
section
/- cellaragelaw08.alike: two disks, alike. -/
set_option linter.unusedVariables false
set_option linter.unusedSimpArgs false
namespace Go.Proofs.Ytggggfcgnkllgaa
open Go Go.Sh Go.RowKit
attribute [local irreducible] X XU XP XR CALL loopS resC closS
section
variable {w : World} {b : Nat} {d : Dk} {K : Value → World → Prop}
theorem alike_spec {b' : Nat} (h : DiskAt w b d) (h' : RefAt w b' d) (hw : d.ws.length ≤ 1000000) (hK : ∀ w1, Ext w w1 → K (.bool true) w1) : CALL Try.prog 83 #[ptr b, ptr b'] w K := by
  have h'0 := h'
  obtain ⟨ok, sv, pv, hr⟩ := h'
  have hsl : d.safe.length ≤ 16384 := ok.2.2.1
  obtain ⟨a1, c1, es⟩ := own_sl hr.safe
  obtain ⟨a2, c2, ep⟩ := own_sl hr.ws
  subst es
  subst ep
  apply call_law08_alike
  unfold B_law08_alike
  refine ⟨Ext, Ext.frame, ?_⟩
  have hxd := Keep.drew (fun _ => False) w
  have hd := h.ext hxd
  have hrd := hr.ext hxd
  have en : decide ((d.safe.length : Int) ≠ (d.safe.length : Int)) = false := by simp
  have ew : decide ((d.ws.length : Int) ≠ (d.ws.length : Int)) = false := by simp
  have edn : decide (d.done ≠ d.done) = false := by simp
  have ed : (d.dead != d.dead) = false := by simp
  simp only [XP_nilS, XP_field_148_0]
  refine XR_ok Ext.frame (fun w' k => run_loadAt agg_66 (blk_get (k.get hrd.blk) (v := .slice a1 d.safe.length c1) rfl)) ?_
  rw [XP_len_66]
  refine Size_spec hd ?_
  refine ⟨Keep.refl _ _, ?_⟩
  simp only [XP_neq, en, XP_nilS, XP_field_148_1, decide_true, decide_false, GS]
  refine XR_ok Ext.frame (fun w' k => run_loadAt agg_146 (blk_get (k.get hrd.blk) (v := .slice a2 d.ws.length c2) rfl)) ?_
  rw [XP_len_146]
  refine Pending_spec hd ?_
  refine ⟨Keep.refl _ _, ?_⟩
  simp only [XP_neq, ew, XP_nilS, XP_field_148_2, decide_true, decide_false, GS]
  refine XR_ok Ext.frame (fun w' k => run_loadAt agg_4 (blk_get (k.get hrd.blk) (v := .bool d.dead) rfl)) ?_
  refine Dead_spec hd ?_
  refine ⟨Keep.refl _ _, ?_⟩
  refine XP_of (fun w => Go.Sh.run_neq_bool Try.underlying4 _ _ _ _ w) ?_
  simp only [ed, XP_nilS, XP_field_148_4, decide_true, decide_false, GS]
  refine XR_ok Ext.frame (fun w' k => run_loadAt agg_3 (blk_get (k.get hrd.blk) (v := .int .i64 d.done) rfl)) ?_
  refine Done_spec hd ?_
  refine ⟨Keep.refl _ _, ?_⟩
  simp only [XP_neq, edn, decide_true, decide_false, GS]
  refine loopE (fun ρ wr => ∃ i : Nat, i ≤ min 40 d.safe.length + 2 ∧ Ext w wr ∧ ρ 5 = .int .i64 ((i : Int) - 1) ∧ ρ 0 = ptr b ∧ ρ 1 = ptr b')
    (fun ρ wr => match ρ 5 with | .int _ s => (100 - s).toNat | _ => 0)
    (fun ρ wr => Ext w wr) ?_ ?_ ?_
  · exact ⟨0, by omega, hxd, rfl, rfl, rfl⟩
  · rintro JE hJE ρ wr ⟨i, hi, hxr, h5, h0, h1⟩
    have hdr := h.ext hxr
    have hrr := hr.ext hxr
    have hrr0 := h'0.ext hxr
    rw [h5, h0, h1]
    simp only [X_nilS, X_field_148_0]
    refine X_loadL agg_66 hrr.blk rfl ?_
    simp only [X_len_66, X_min, X_leq, condS_bool]
    by_cases hin : (i : Int) - 1 ≤ min 40 (d.safe.length : Int)
    case neg =>
      rw [if_neg (by simpa using hin)]
      exact hJE _ _ hxr
    rw [if_pos (by simpa using hin)]
    refine Read_spec hdr ?_
    intro v1 w1 hx1 ho1
    simp only [X_extract0, X_extract1]
    refine RRead_spec (hrr0.ext hx1) hw ?_
    simp only [X_extract0, X_extract1]
    have hb1 := (own_bts ho1).1
    refine X_str Try.underlying27 Try.underlying5 Try.underlying9 hb1 ?_
    have e1 : decide ((d.read ((i : Int) - 1)).1 ≠ (d.read ((i : Int) - 1)).1) = false := by simp
    have e2 : decide ((d.read ((i : Int) - 1)).2 ≠ (d.read ((i : Int) - 1)).2) = false := by simp
    simp only [X_str_neq, str_toList, l8_bne, e1, e2, X_neq, decide_true, decide_false, GS]
    obtain ⟨av, cv, ev⟩ := own_sl ho1
    rw [ev, X_len_27, ← ev]
    generalize hrb : (d.read ((i : Int) - 1)).1 = rb at ho1 hb1 ev ⊢
    have hrl : rb.length ≤ 9223372036854775807 := own_max ho1
    refine loopG 2 (fun ρ' w' => ∃ (j : Nat) (l : List UInt8), j ≤ rb.length ∧ l.length = rb.length ∧ Ext w w' ∧ w'.ownsRow wr.heap.size 5 1 v1 rb.length (B8 l) ∧ ρ' 80 = .int .i64 (j : Nat) ∧ ρ' 79 = .int .i64 (rb.length : Nat) ∧ ρ' 6 = v1 ∧ ρ' 5 = .int .i64 ((i : Int) - 1) ∧ ρ' 0 = ptr b ∧ ρ' 1 = ptr b')
      (fun ρ wr => match ρ 80 with | .int _ s => (rb.length - s).toNat | _ => 0)
      (fun ρ' w' => Ext w w' ∧ ρ' 5 = .int .i64 ((i : Int) - 1) ∧ ρ' 0 = ptr b ∧ ρ' 1 = ptr b') ?_ ?_ ?_
    · exact ⟨0, rb, by omega, rfl, hxr.trans hx1, ho1, rfl, rfl, rfl, h5, h0, h1⟩
    · rintro J hJ ρ' w' ⟨j, l, hj, hl, hx', ho', g80, g79, g6, g5, g0, g1⟩
      rw [g80, g79, X_lss, condS_bool]
      by_cases hjn : j = rb.length
      · rw [if_neg (by simp; omega)]
        exact hJ _ _ ⟨hx', g5, g0, g1⟩
      rw [if_pos (by simp; omega)]
      obtain ⟨g, cap, cur, ev', hg, hh, hjc, hcj, hjl, hput⟩ := own_put ho' (j := j) (by omega) (l[j]'(by omega) ^^^ 255)
      have hixj : ∀ w, (Instr.indexAt 27 v1 (.int .i64 (j : Int))).run Try.prog w = .ok (.pointer (some ⟨g, j, none⟩)) w := fun w => by
        rw [ev', ix Try.underlying27 info_5 j rfl hjl w, sz_5, Nat.mul_one, add_plain, Nat.zero_add]
      rw [g6]
      refine X_of (hixj _) ?_
      refine X_loadB agg_5 hh hcj ?_
      have e255 : (Value.int .u8 255) = .int .u8 (((255 : UInt8).toNat : Nat) : Int) := rfl
      rw [e255]
      refine X_of (u8_xor 5 _ _ _) ?_
      refine X_of (hixj _) ?_
      refine XU_store info_5 sz_5 rfl hh hjc (by show ¬ ((0 : Nat) ≤ j ∧ j < 0); omega) ?_
      rw [X_add]
      show _ ∧ _
      have hws : w.heap.size ≤ wr.heap.size := hxr.size
      refine ⟨⟨j + 1, l.set j (l[j]'(by omega) ^^^ 255), by omega, by rw [List.length_set]; exact hl, Ext.seq hx' (setAt_keep _ _ _ _ _) (fun k hk => by omega), hput, next64 (n := rb.length - 1) (by omega) (by omega), g79, g6, g5, g0, g1⟩, ?_⟩
      show (_ - IntKind.i64.wrap _).toNat < _
      rw [w64 (by omega) (by omega)]
      first | omega | (show _ < (_ : Int).toNat; omega)
    · rintro ρ' w' ⟨hx', g5, g0, g1⟩
      simp only [inBlockS_same, inBlockS_normal, thenS_normal]
      rw [g5, X_add, w64 (by omega) (by omega)]
      show _ ∧ _
      refine ⟨⟨i + 1, by omega, hx', ?_, g0, g1⟩, ?_⟩
      · show Value.int .i64 _ = _
        congr 1
        omega
      · show (100 - ((i : Int) - 1 + 1)).toNat < _
        omega
  · rintro ρ wr hx
    exact hK wr hx
/-- The document's examples. -/
theorem lit_xyz (w : World) : (Instr.buildSlice 27 3 #[(0, (.int .u8 120)), (1, (.int .u8 121)), (2, (.int .u8 122))]).run Try.prog w = .ok (.slice (some ⟨w.heap.size, 0, none⟩) 3 3) (newB w (B8 [120, 121, 122]).toArray 5) := by kernel_rfl
theorem bts_conv {w : World} {K : Value → World → Prop} (l : List UInt8) (n : Nat) (hn : l.length = n) (hn' : n ≤ 9223372036854775807) (h : ∀ v w1, Ext w w1 → Bts w1 v l → (∀ k, v.ownBlock = some k → w.heap.size ≤ k ∧ k < w1.heap.size) → K v w1) :
    X Try.prog (convert 27 27 (.slice (some ⟨w.heap.size, 0, none⟩) n n)) (newB w (B8 l).toArray 5) K := by
  subst hn
  refine X_of (Lib.run_convert_bytes_const w 27 5 (B8 l).toArray l.length l.length Try.underlying27 Try.underlying5) ?_
  refine h _ _ (alloc_ext w _) (mark_bts l hn' 5 _) (fun k hk => ?_)
  injection hk with hk
  have hs : (w.alloc (.cells (B8 l).toArray 5 ((B8 l).toArray.size, (B8 l).toArray.size + 1))).heap.size = w.heap.size + 1 := Array.size_push _
  rw [hs]
  have : w.heap.size = k := hk
  omega
theorem row_none {α : Type} (f : α → Value) (w : World) : Row f w (.slice none 0 0) [] := ⟨none, 0, rfl, Nat.le_refl _, by omega, fun h => absurd h (by simp)⟩
theorem run_lit79 (n : Int) (w : World) : (Instr.buildSlice 79 1 #[(0, .int .i64 n)]).run Try.prog w = .ok (.slice (some ⟨w.heap.size, 0, none⟩) 1 1) (newB w #[.int .i64 n] 3) := by kernel_rfl
theorem row_lit79 (n : Int) (w : World) : Row fI (newB w #[.int .i64 n] 3) (.slice (some ⟨w.heap.size, 0, none⟩) 1 1) [n] := by
  refine ⟨_, _, rfl, Nat.le_refl _, by omega, fun _ => ⟨_, rfl, fun j x hj => ?_⟩⟩
  have hj0 : j = 0 := by
    have := (List.getElem?_eq_some_iff.1 hj).1
    simp at this
    exact this
  subst hj0
  simp at hj
  subst hj
  rw [Addr.add_zero', cell_blk (newB_get _ _ _)]
  rfl
theorem shown08 (hK : ∀ w1, Ext w w1 → K (.bool true) w1) : CALL Try.prog 68 #[] w K := by
  apply call_law08_shown
  unfold B_law08_shown
  refine New_disk (fun h => absurd h (by omega)) ?_
  intro m hm _ b w1 hx1 hlow hd1
  obtain rfl : m = 2 := by omega
  have e0 : decide ((0 : Int) ≠ 0) = false := by decide
  simp only [X_extract0, X_extract1, X_eql_nil_74, Option.isNone_some, X_neq, e0, decide_true, decide_false, GS]
  refine X_of (lit_xyz _) ?_
  refine bts_conv [120, 121, 122] 3 rfl (by decide) ?_
  intro v2 w2 hx2 hb2 hk2
  have hd2 := hd1.ext hx2
  have ws0 : (Dk.new 2).ws.length ≤ 1000000 := by decide
  have out2 : Outs w2 b v2 := fun k hk => ⟨fun hf => by
    have := hd1.lt k ((foot_same (hx2.block b (hd1.lt b (foot_self _ b)) (fun h => h))).1 hf)
    have := (hk2 k hk).1
    omega, (hk2 k hk).2⟩
  refine Write_spec hd2 ws0 hb2 (fun _ k hk => (out2 k hk).1) ?_
  intro w3 hd3 s3
  have r3 : ((Dk.new 2).write 1 [120, 121, 122]).2 = 0 := by decide +kernel
  simp only [r3, X_neq, e0, decide_true, decide_false, GS]
  refine Crash_spec hd3 (row_none _ _) (fun h => absurd h (by simp)) ?_
  intro w4 hd4 s4
  refine Read_spec hd4 ?_
  intro v5 w5 hx5 ho5
  have r5 : (((Dk.new 2).write 1 [120, 121, 122]).1.crash []).read 1 = (List.replicate 128 0, 0) := by decide +kernel
  rw [r5] at ho5
  rw [r5]
  simp only [X_extract0, X_extract1]
  have out5 : Outs w5 b v5 := outs_own ho5 hx5 hd4.lt (Nat.le_refl _)
  have hb5 := (own_bts ho5).1
  have hd5 := hd4.ext hx5
  refine X_of (lit_xyz _) ?_
  refine bts_conv [120, 121, 122] 3 rfl (by decide) ?_
  intro v6 w6 hx6 hb6 hk6
  have hd6 := hd5.ext hx6
  have out6 : Outs w6 b v6 := fun k hk => ⟨fun hf => by
    have := hd5.lt k ((foot_same (hx6.block b (hd5.lt b (foot_self _ b)) (fun h => h))).1 hf)
    have := (hk6 k hk).1
    omega, (hk6 k hk).2⟩
  have out5' := out5.ext (hd5.lt b (foot_self _ b)) hx6
  have hb5' := hb5.ext hx6
  refine Write_spec hd6 (by decide +kernel) hb6 (fun _ k hk => (out6 k hk).1) ?_
  intro w7 hd7 s7
  have r7 : ((((Dk.new 2).write 1 [120, 121, 122]).1.crash []).write 1 [120, 121, 122]).2 = 0 := by decide +kernel
  have out7 := out5'.step s7
  have hb7 := hb5'.step out5' s7
  refine X_of (run_lit79 _ _) ?_
  have hx8 := newB_ext w7 #[.int .i64 2] 3
  have hr8 := row_lit79 2 w7
  have hs8 := newB_size w7 #[.int .i64 2] 3
  have hlt7 := hd7.lt
  have hd8 := hd7.ext hx8
  have out8 := out7.ext (hd7.lt b (foot_self _ b)) hx8
  have hb8 := hb7.ext hx8
  refine Crash_spec hd8 hr8 (fun _ k hk hf => ?_) ?_
  · have e1 : w7.heap.size = k := by injection hk
    have := hlt7 k ((foot_same (hx8.block b (hd7.lt b (foot_self _ b)) (fun h => h))).1 hf)
    omega
  intro w9 hd9 s9
  have out9 := out8.step s9
  have hb9 := hb8.step out8 s9
  refine Read_spec hd9 ?_
  intro v10 w10 hx10 ho10
  have r10 : (((((Dk.new 2).write 1 [120, 121, 122]).1.crash []).write 1 [120, 121, 122]).1.crash [2]).read 1 = ([120, 121] ++ List.replicate 126 0, 0) := by decide +kernel
  rw [r10] at ho10
  rw [r10]
  simp only [X_extract0, X_extract1]
  have out10 := out9.ext (hd9.lt b (foot_self _ b)) hx10
  have hb10 := hb9.ext hx10
  have outB : Outs w10 b v10 := outs_own ho10 hx10 hd9.lt (Nat.le_refl _)
  have hbB := (own_bts ho10).1
  have hd10 := hd9.ext hx10
  have hxd := Keep.drew (fun _ => False) w10
  refine ⟨Keep (foot w10 b), Keep.frame _, ?_⟩
  obtain ⟨a5, c5, ev5⟩ := Bts.slice hb10
  obtain ⟨a10, c10, ev10⟩ := Bts.slice hbB
  have hb10d := hb10.ext hxd
  have hbBd := hbB.ext hxd
  have e128 : decide (((List.replicate 128 (0 : UInt8)).length : Int) = 128) = true := by decide +kernel
  have e128' : decide ((([120, 121] ++ List.replicate 126 (0 : UInt8) : List UInt8).length : Int) = 128) = true := by decide +kernel
  rw [ev5, XP_len_27, XP_eql, ← ev5]
  simp only [e128, decide_true, decide_false, GS]
  refine XR_ok (Keep.frame _) (fun w' k => run_str Try.underlying27 Try.underlying5 Try.underlying9 (hb10d.keep k (fun i hi => (out10 i hi).1))) ?_
  refine X_make Try.underlying27 el_5 128 128 rfl rfl (Nat.le_refl _) (by decide) (by decide) ?_
  have hcells : madeCells (Value.int .u8 0).cells (128 * 1) = (B8 (List.replicate 128 0)).toArray := by
    apply Array.ext'
    have : (madeCells (Value.int .u8 0).cells 128).toList = List.replicate 128 (.int .u8 0) := made_one _ _
    rw [Nat.mul_one, this]
    simp [B8]
  rw [hcells]
  have hx11 := newB_ext (drewW w10) (B8 (List.replicate 128 0)).toArray 5
  have hb11 := lit_bts (w := drewW w10) (List.replicate 128 0) (by simp) 5
  have hl128 : (List.replicate 128 (0 : UInt8)).length = 128 := List.length_replicate
  rw [hl128] at hb11
  refine ⟨hx11.ext, ?_⟩
  generalize newB (drewW w10) (B8 (List.replicate 128 0)).toArray 5 = w11 at hx11 hb11 ⊢
  refine XR_ok (Keep.frame _) (fun w' k => run_str Try.underlying27 Try.underlying5 Try.underlying9 (hb11.keep k (fun i hi hf => by
    have h1 : (drewW w10).heap.size = i := by injection hi
    have h2 := hd10.lt i hf
    have h3 : (drewW w10).heap.size = w10.heap.size := rfl
    omega))) ?_
  simp only [XP_str_eql, str_toList, l8_beq, decide_true, decide_false, GS]
  have hbB11 := hbBd.ext hx11
  rw [ev10, XP_len_27, XP_eql, ← ev10]
  simp only [e128', decide_true, decide_false, GS]
  obtain ⟨u, hu, hub, hblk⟩ := cut_hi Try.underlying27 info_5 hbB11 (kh := .i64) (hj := 3) 3 rfl (by simp)
  refine XP_of hu ?_
  refine XR_ok (Keep.frame _) (fun w' k => run_str Try.underlying27 Try.underlying5 Try.underlying9 (hub.keep k (fun i hi => (outB i (by rw [← hblk]; exact hi)).1))) ?_
  have e3 : decide (([120, 121] ++ List.replicate 126 (0 : UInt8) : List UInt8).take 3 = [120, 121, 0]) = true := by decide +kernel
  have e00 : decide ((0 : Int) = 0) = true := by decide
  simp only [str_lit2, XP_str_eql, str_toList, l8_beq, e3, XP_eql, e00, r7, decide_true, decide_false, GS]
  have hd11 := (hd10.ext hxd).ext hx11
  refine Write_spec hd11 (by decide +kernel) (Bts.nil _) (fun h => absurd h (by simp)) ?_
  intro w12 hd12 s12
  have hf11 : ∀ k, foot w11 b k ↔ foot w10 b k := fun k => foot_same ((hxd.trans hx11).block b (hd10.lt b (foot_self _ b)) (fun h => h))
  refine ⟨s12.keep.mono (fun i _ hf => (hf11 i).1 hf), ?_⟩
  have r12 : ((((((Dk.new 2).write 1 [120, 121, 122]).1.crash []).write 1 [120, 121, 122]).1.crash [2]).write 2 []).2 = 1 := by decide +kernel
  have e11 : decide ((1 : Int) = 1) = true := by decide
  simp only [r12, XP_eql, e11, decide_true, decide_false, GS]
  have low2 := (Step.ext hx2 (hd1.lt b (foot_self _ b))).low hx1.size hlow
  have x3 := s3.out (hx1.trans hx2) low2
  have low3 := s3.low (hx1.trans hx2).size low2
  have x4 := s4.out x3 low3
  have low4 := s4.low x3.size low3
  have low6 := (Step.ext (hx5.trans hx6) (hd4.lt b (foot_self _ b))).low x4.size low4
  have x7 := s7.out (x4.trans (hx5.trans hx6)) low6
  have low7 := s7.low (x4.trans (hx5.trans hx6)).size low6
  have low8 := (Step.ext hx8 (hd7.lt b (foot_self _ b))).low x7.size low7
  have x9 := s9.out (x7.trans hx8) low8
  have low9 := s9.low (x7.trans hx8).size low8
  have low11 := (Step.ext (hx10.trans (hxd.trans hx11)) (hd9.lt b (foot_self _ b))).low x9.size low9
  exact hK w12 (s12.out (x9.trans (hx10.trans (hxd.trans hx11))) low11)
end
end Go.Proofs.Ytggggfcgnkllgaa
end
section
/- What cellaragelaw11.shown computes: true. -/
set_option linter.unusedVariables false
set_option linter.unusedSimpArgs false
namespace Go.Proofs.Ytggggfcgnkllgaa
open Go Go.Sh Go.RowKit
attribute [local irreducible] X XU XP XR CALL loopS resC closS
theorem lit_abc11 (w : World) : (Instr.buildSlice 27 3 #[(0, (.int .u8 97)), (1, (.int .u8 98)), (2, (.int .u8 99))]).run Try.prog w = .ok (.slice (some ⟨w.heap.size, 0, none⟩) 3 3) (newB w (B8 [97, 98, 99]).toArray 5) := by kernel_rfl
theorem str_eqT {x y : List UInt8} (h : x = y) : ((str x).toList == (str y).toList) = true := by rw [h]; simp
theorem head7 : ((layP 7 []).take 6).drop 0 = [0, 0, 0, 7, 0, 0] := by
  have e : layP 7 [] = [0, 0, 0, 7, 0, 0] ++ be 4 (crc (bodyP 7 [])).toNat := rfl
  rw [e, List.drop_zero, List.take_append_of_le_length (by decide)]
  rfl
theorem shown11 {w : World} {K : Value → World → Prop} (hK : ∀ w1, Ext w w1 → K (.bool true) w1) : CALL Try.prog 85 #[] w K := by
  have e00 : decide ((0 : Int) = 0) = true := by decide
  have e110 : decide ((110 : Int) = 110) = true := by decide
  have c0 : chk (pl []) = 0 := by decide
  apply call_law11_shown
  unfold B_law11_shown B_law11_shown_c1
  refine LayC_spec (id := 7) (l := []) (by omega) (row_nil w) (by simp) (by decide) (fun h => absurd c0 h) ?_
  intro _ u1 w1 hx1 ho1
  have hl10 : (layP 7 (pl [])).length = 10 := by rw [layP_len]; rfl
  have hb1 := (own_bts ho1).1
  obtain ⟨a1, cp1, e1⟩ := Bts.slice hb1
  subst e1
  (repeat (simp only [XP_extract0, XP_extract1, XP_extract2, XP_extract3, X_extract0, X_extract1, X_extract2, X_extract3, X_nilS, X_eql_nil_74, X_neq_nil_74, X_eql_nil_124, X_neq_nil_124, X_eql, X_neq, X_lss, X_leq, X_gtr, X_geq, X_not, X_min, X_max, X_len_27, X_len_9, X_len_79, XP_nilS, XP_eql, XP_neq, XP_lss, XP_leq, XP_gtr, XP_geq, XP_not, XP_min, XP_max, XP_len_27, XP_len_9, XP_eql_nil_74, X_str_eql, X_str_neq, XP_str_eql, XP_str_neq, GS, gs_u, decide_true, decide_false, Option.isNone_some, Option.isSome_some, Option.isNone_none, Option.isSome_none, eq_self, Bool.not_true, Bool.not_false, Int.reduceEq, Int.reduceNe, Int.reduceLT, Int.reduceLE, Int.reduceGT, Int.reduceGE]))
  refine Take_none (Bts.nil w1) (by decide) openB_nil ?_
  intro w2 hx2
  have hb2 := hb1.ext hx2
  have ct : decide (((layP 7 (pl [])).length : Int) = 10) = true := by rw [hl10]; rfl
  (repeat (simp only [XP_extract0, XP_extract1, XP_extract2, XP_extract3, X_extract0, X_extract1, X_extract2, X_extract3, X_nilS, X_eql_nil_74, X_neq_nil_74, X_eql_nil_124, X_neq_nil_124, X_eql, X_neq, X_lss, X_leq, X_gtr, X_geq, X_not, X_min, X_max, X_len_27, X_len_9, X_len_79, XP_nilS, XP_eql, XP_neq, XP_lss, XP_leq, XP_gtr, XP_geq, XP_not, XP_min, XP_max, XP_len_27, XP_len_9, XP_eql_nil_74, X_str_eql, X_str_neq, XP_str_eql, XP_str_neq, GS, gs_u, decide_true, decide_false, Option.isNone_some, Option.isSome_some, Option.isNone_none, Option.isSome_none, eq_self, Bool.not_true, Bool.not_false, Int.reduceEq, Int.reduceNe, Int.reduceLT, Int.reduceLE, Int.reduceGT, Int.reduceGE, e00, ct]))
  have hcap : (layP 7 (pl [])).length ≤ cp1 := by
    obtain ⟨_, _, e, h1, _, _⟩ := hb1
    injection e with _ _ e
    omega
  refine X_of (run_slice_hi Try.underlying27 info_5 a1 _ cp1 .i64 6 (by omega) w2) ?_
  have hcut := hb2.cut 0 6 (by omega) (by omega)
  have h6 : (((layP 7 (pl [])).take 6).drop 0) = [0, 0, 0, 7, 0, 0] := head7
  rw [h6] at hcut
  refine X_of (run_str (src := 27) (dst := 9) Try.underlying27 Try.underlying5 Try.underlying9 hcut) ?_
  have est : ({ data := #[0, 0, 0, 7, 0, 0] } : ByteArray) = str [0, 0, 0, 7, 0, 0] := rfl
  rw [est]
  (repeat (simp only [XP_extract0, XP_extract1, XP_extract2, XP_extract3, X_extract0, X_extract1, X_extract2, X_extract3, X_nilS, X_eql_nil_74, X_neq_nil_74, X_eql_nil_124, X_neq_nil_124, X_eql, X_neq, X_lss, X_leq, X_gtr, X_geq, X_not, X_min, X_max, X_len_27, X_len_9, X_len_79, XP_nilS, XP_eql, XP_neq, XP_lss, XP_leq, XP_gtr, XP_geq, XP_not, XP_min, XP_max, XP_len_27, XP_len_9, XP_eql_nil_74, X_str_eql, X_str_neq, XP_str_eql, XP_str_neq, GS, gs_u, decide_true, decide_false, Option.isNone_some, Option.isSome_some, Option.isNone_none, Option.isSome_none, eq_self, Bool.not_true, Bool.not_false, Int.reduceEq, Int.reduceNe, Int.reduceLT, Int.reduceLE, Int.reduceGT, Int.reduceGE, e110, str_eqT]))
  refine X_of (lit_abc11 _) ?_
  refine bts_conv [97, 98, 99] 3 rfl (by decide) ?_
  intro v3 w3 hx3 hb3 hk3
  obtain ⟨a3, cp3, e3⟩ := Bts.slice hb3
  subst e3
  (repeat (simp only [XP_extract0, XP_extract1, XP_extract2, XP_extract3, X_extract0, X_extract1, X_extract2, X_extract3, X_nilS, X_eql_nil_74, X_neq_nil_74, X_eql_nil_124, X_neq_nil_124, X_eql, X_neq, X_lss, X_leq, X_gtr, X_geq, X_not, X_min, X_max, X_len_27, X_len_9, X_len_79, XP_nilS, XP_eql, XP_neq, XP_lss, XP_leq, XP_gtr, XP_geq, XP_not, XP_min, XP_max, XP_len_27, XP_len_9, XP_eql_nil_74, X_str_eql, X_str_neq, XP_str_eql, XP_str_neq, GS, gs_u, decide_true, decide_false, Option.isNone_some, Option.isSome_some, Option.isNone_none, Option.isSome_none, eq_self, Bool.not_true, Bool.not_false, Int.reduceEq, Int.reduceNe, Int.reduceLT, Int.reduceLE, Int.reduceGT, Int.reduceGE]))
  refine X_of (run_build_115d [97, 98, 99] _) ?_
  refine X_buildSliceK Try.underlying100 el_115 (by decide) (by decide) (Pc.len _) ?_
  have hx4 := newB_ext w3 (Pc.cs ⟨⟨nilKy, [97, 98, 99]⟩, .slice a3 3 cp3⟩).toArray 115
  have hg4 := newB_get w3 (Pc.cs ⟨⟨nilKy, [97, 98, 99]⟩, .slice a3 3 cp3⟩).toArray 115
  have hb4 := hb3.ext hx4
  show CALL _ _ _ (newB w3 (Pc.cs ⟨⟨nilKy, [97, 98, 99]⟩, .slice a3 3 cp3⟩).toArray 115) _
  generalize newB w3 (Pc.cs ⟨⟨nilKy, [97, 98, 99]⟩, .slice a3 3 cp3⟩).toArray 115 = w4 at hx4 hg4 hb4 ⊢
  have hrow : RowK 34 Pc.cs w4 (.slice (some ⟨w3.heap.size, 0, none⟩) 1 1) [⟨⟨nilKy, [97, 98, 99]⟩, .slice a3 3 cp3⟩] := by
    refine RowK.ofK (T := 115) (fr := (0, 0)) (by decide) Pc.len ?_ rfl (by decide)
    rw [hg4]
    unfold cellsK
    simp
  refine Size_pieces hrow (fun c hc => by rw [List.mem_singleton.1 hc]; exact hb4) (by show 41 ≤ _; decide) ?_
  intro w5 hx5
  have e51 : decide (((sizeP (pl [(⟨⟨nilKy, [97, 98, 99]⟩, .slice a3 3 cp3⟩ : Pc)]) : Nat) : Int) = 51) = true := rfl
  (repeat (simp only [XP_extract0, XP_extract1, XP_extract2, XP_extract3, X_extract0, X_extract1, X_extract2, X_extract3, X_nilS, X_eql_nil_74, X_neq_nil_74, X_eql_nil_124, X_neq_nil_124, X_eql, X_neq, X_lss, X_leq, X_gtr, X_geq, X_not, X_min, X_max, X_len_27, X_len_9, X_len_79, XP_nilS, XP_eql, XP_neq, XP_lss, XP_leq, XP_gtr, XP_geq, XP_not, XP_min, XP_max, XP_len_27, XP_len_9, XP_eql_nil_74, X_str_eql, X_str_neq, XP_str_eql, XP_str_neq, GS, gs_u, decide_true, decide_false, Option.isNone_some, Option.isSome_some, Option.isNone_none, Option.isSome_none, eq_self, Bool.not_true, Bool.not_false, Int.reduceEq, Int.reduceNe, Int.reduceLT, Int.reduceLE, Int.reduceGT, Int.reduceGE, e51]))
  exact hK w5 ((((hx1.trans hx2).trans hx3).trans hx4).trans hx5)
end Go.Proofs.Ytggggfcgnkllgaa
end
section
/- Three facts of the whole program that the kernel cannot reckon head-on: what the first words of the order say. -/
set_option linter.constructorNameAsVariable false
namespace Go.Proofs.Ytggggfcgnkllgaa
open Go Go.Sh Go.RowKit

theorem words_cons (c : Char) (hc : c ≠ Char.ofNat 32) (r : List Char) : wordsSigns (c :: r) = match wordsSigns r with | w :: ws => (c :: w) :: ws | [] => [[c]] := by
  rw [wordsSigns.eq_def]
  split
  · rename_i h; cases h
  · rename_i h; injection h with h1 h2; exact absurd h1 hc
  · rename_i c' r' _ h
    injection h with h1 h2
    subst h1; subst h2
    rfl
theorem words_append : ∀ (u r : List Char), (∀ c ∈ u, c ≠ Char.ofNat 32) → wordsSigns (u ++ Char.ofNat 32 :: r) = u :: wordsSigns r
  | [], r, _ => by rw [List.nil_append, wordsSigns.eq_def]; rfl
  | c :: u, r, h => by
    rw [List.cons_append, words_cons c (h c (by simp)), words_append u r (fun x hx => h x (by simp [hx]))]

theorem words_are : ∃ ws, wordsSigns Try.prog.initOrder.toList = "harness".toList :: "62f34890e3c06fe2011e3a1f7b1d35cb61325f7f5314e4ae60b96fccc44d6865".toList :: "cut".toList :: ws := by
  have h : Try.prog.initOrder = "harness" ++ " " ++ "62f34890e3c06fe2011e3a1f7b1d35cb61325f7f5314e4ae60b96fccc44d6865" ++ " " ++ "cut" ++ " " ++ "at cellarage/cellaragelaw10.SlotLays cellarage/cellaragelaw10.SlotTakes cellarage/cellaragelaw10.SlotBack cellarage/cellaragelaw10.SlotTorn cellarage/cellaragelaw01.CodecOrder cellarage/cellaragelaw10.SlotNewer cellarage/cellaragelaw10.SlotCommits cellarage/cellaragelaw02.CrcSums cellarage/cellaragelaw02.CrcSeals cellarage/cellaragelaw02.CrcGoes cellarage/cellaragelaw02.CrcTells cellarage/cellaragelaw02.CrcBack cellarage/cellaragelaw02.CrcLinear cellarage/cellaragelaw01.CodecTakes cellarage/cellaragelaw01.CodecBack cellarage/cellaragelaw01.CodecShort cellarage/cellaragelaw01.CodecNil cellarage/cellaragelaw08.DiskTorn cellarage/cellaragelaw08.DiskSafe cellarage/cellaragelaw08.DiskFlush cellarage/cellaragelaw08.DiskCuts cellarage/cellaragelaw08.DiskPlays cellarage/cellaragelaw08.DiskNil cellarage/cellaragelaw11.ContLays cellarage/cellaragelaw11.ContBack cellarage/cellaragelaw11.ContOnce cellarage/cellaragelaw11.ContTurned cellarage/cellaragelaw11.ContOwn cellarage/cellaragelaw11.ContTakes cellarage/cellaragelaw12.VaultBack cellarage/cellaragelaw12.VaultShelves cellarage/cellaragelaw12.VaultNil cellarage/cellaragelaw12.VaultPlays cellarage/cellaragelaw20.HomeNil cellarage/cellaragelaw20.HomeBack cellarage/cellaragelaw20.HomeOps cellarage/cellaragelaw20.HomeCrashes cellarage/cellaragelaw20.HomePlays" := by kernel_rfl
  rw [h]
  simp only [String.toList_append, List.append_assoc]
  refine ⟨wordsSigns ("at cellarage/cellaragelaw10.SlotLays cellarage/cellaragelaw10.SlotTakes cellarage/cellaragelaw10.SlotBack cellarage/cellaragelaw10.SlotTorn cellarage/cellaragelaw01.CodecOrder cellarage/cellaragelaw10.SlotNewer cellarage/cellaragelaw10.SlotCommits cellarage/cellaragelaw02.CrcSums cellarage/cellaragelaw02.CrcSeals cellarage/cellaragelaw02.CrcGoes cellarage/cellaragelaw02.CrcTells cellarage/cellaragelaw02.CrcBack cellarage/cellaragelaw02.CrcLinear cellarage/cellaragelaw01.CodecTakes cellarage/cellaragelaw01.CodecBack cellarage/cellaragelaw01.CodecShort cellarage/cellaragelaw01.CodecNil cellarage/cellaragelaw08.DiskTorn cellarage/cellaragelaw08.DiskSafe cellarage/cellaragelaw08.DiskFlush cellarage/cellaragelaw08.DiskCuts cellarage/cellaragelaw08.DiskPlays cellarage/cellaragelaw08.DiskNil cellarage/cellaragelaw11.ContLays cellarage/cellaragelaw11.ContBack cellarage/cellaragelaw11.ContOnce cellarage/cellaragelaw11.ContTurned cellarage/cellaragelaw11.ContOwn cellarage/cellaragelaw11.ContTakes cellarage/cellaragelaw12.VaultBack cellarage/cellaragelaw12.VaultShelves cellarage/cellaragelaw12.VaultNil cellarage/cellaragelaw12.VaultPlays cellarage/cellaragelaw20.HomeNil cellarage/cellaragelaw20.HomeBack cellarage/cellaragelaw20.HomeOps cellarage/cellaragelaw20.HomeCrashes cellarage/cellaragelaw20.HomePlays".toList), ?_⟩
  have e : " ".toList = [Char.ofNat 32] := by kernel_rfl
  rw [e]
  simp only [List.singleton_append]
  rw [words_append _ _ (by decide), words_append _ _ (by decide), words_append _ _ (by decide)]


theorem head_is : ∃ ws, behindMainWord (wordsSigns Try.prog.initOrder.toList) = "cut".toList :: ws := by
  obtain ⟨ws, h⟩ := words_are
  rw [h]
  exact ⟨ws, by kernel_rfl⟩
theorem laysLater_is : Try.prog.laysLater = false := by kernel_rfl
theorem bearsReflect_is : Try.prog.bearsReflect = false := by kernel_rfl
theorem doorRows_is : Try.prog.doorRows = [] := by kernel_rfl
section
variable {P : Program} {ws : List (List Char)}
theorem make_of (h : behindMainWord (wordsSigns P.initOrder.toList) = "cut".toList :: ws) : P.make = some .cut := by
  unfold Program.make
  rw [h]
  kernel_rfl
theorem headLifts_of (h : behindMainWord (wordsSigns P.initOrder.toList) = "cut".toList :: ws) : P.headLifts = [] := by
  unfold Program.headLifts
  rw [h]
  kernel_rfl
theorem liftsFinal_of (h : behindMainWord (wordsSigns P.initOrder.toList) = "cut".toList :: ws) : P.liftsFinal = false := by
  unfold Program.liftsFinal
  rw [headLifts_of h, h]
  kernel_rfl
theorem mayEnter_of (h : behindMainWord (wordsSigns P.initOrder.toList) = "cut".toList :: ws) (h1 : P.laysLater = false) (h2 : P.bearsReflect = false) (h3 : P.doorRows = []) : P.mayEnter = true := by
  unfold Program.mayEnter Program.doorFits
  rw [h, h1, h2, h3]
  kernel_rfl
end
theorem mayEnter_is : Try.prog.mayEnter = true := by
  obtain ⟨ws, h⟩ := head_is
  exact mayEnter_of h laysLater_is bearsReflect_is doorRows_is
theorem liftsFinal_is : Try.prog.liftsFinal = false := by
  obtain ⟨ws, h⟩ := head_is
  exact liftsFinal_of h
theorem make_is : Try.prog.make = some .cut := by
  obtain ⟨ws, h⟩ := head_is
  exact make_of h
end Go.Proofs.Ytggggfcgnkllgaa
end
