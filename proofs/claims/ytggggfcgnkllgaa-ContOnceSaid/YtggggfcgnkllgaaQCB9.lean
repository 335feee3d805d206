/- Part 9 of what the law is proved with: Shown02 Alike Shown11 Facts. -/
import Derived.Lib.SlBytesConst
import Derived.ProofKit
import Derived.Test.YtggggfcgnkllgaaQCB8
section
/- What cellaragelaw02.shown computes: true. -/
set_option linter.unusedVariables false
set_option linter.unusedSimpArgs false
namespace Go.Proofs.Ytggggfcgnkllgaa
open Go Go.Sh Go.RowKit
attribute [local irreducible] X XU XP XR CALL loopS resC closS

theorem lit_bts {w : World} (l : List UInt8) (hl : l.length ≤ 9223372036854775807) (T : TypeId) : Bts (newB w (B8 l).toArray T) (.slice (some ⟨w.heap.size, 0, none⟩) l.length l.length) l :=
  ⟨_, _, rfl, Nat.le_refl _, hl, fun _ => ⟨_, rfl, fun j u hj => by
    rw [add_plain, cell_blk (newB_get _ _ _), Nat.zero_add]
    simp [B8_getElem?, hj]⟩⟩
theorem lit3 (w : World) : (Instr.buildSlice 27 3 #[(0, (.int .u8 1)), (1, (.int .u8 2)), (2, (.int .u8 3))]).run Try.prog w = .ok (.slice (some ⟨w.heap.size, 0, none⟩) 3 3) (newB w (B8 [1, 2, 3]).toArray 5) := by kernel_rfl
theorem lit9 (w : World) : (Instr.buildSlice 27 9 #[(0, (.int .u8 49)), (1, (.int .u8 50)), (2, (.int .u8 51)), (3, (.int .u8 52)), (4, (.int .u8 53)), (5, (.int .u8 54)), (6, (.int .u8 55)), (7, (.int .u8 56)), (8, (.int .u8 57))]).run Try.prog w =
    .ok (.slice (some ⟨w.heap.size, 0, none⟩) 9 9) (newB w (B8 [49, 50, 51, 52, 53, 54, 55, 56, 57]).toArray 5) := by kernel_rfl
theorem alloc_ext (w : World) (o : Obj) : Ext w (w.alloc o) :=
  ⟨rfl, rfl, rfl, by show _ ≤ (w.heap.push _).size; rw [Array.size_push]; omega, fun i hi _ => by
    show (w.heap.push _)[i]? = _
    exact Array.getElem?_push_lt hi |>.trans (Array.getElem?_eq_getElem hi).symm⟩
theorem mark_bts {w : World} (l : List UInt8) (hl : l.length ≤ 9223372036854775807) (T : TypeId) (fr : Nat × Nat) : Bts (w.alloc (.cells (B8 l).toArray T fr)) (.slice (some ⟨w.heap.size, 0, none⟩) l.length l.length) l :=
  ⟨_, _, rfl, Nat.le_refl _, hl, fun _ => ⟨_, rfl, fun j u hj => by
    rw [add_plain, Nat.zero_add]
    have hg : (w.alloc (.cells (B8 l).toArray T fr)).heap[w.heap.size]? = some (.cells (B8 l).toArray T fr) := by
      show (w.heap.push _)[w.heap.size]? = _
      exact Array.getElem?_push_size
    rw [cell_blk hg]
    simp [B8_getElem?, hj]⟩⟩
theorem crc_nil' : (crc []).toNat = 0 := by decide +kernel
theorem crc_nine' : (crc [49, 50, 51, 52, 53, 54, 55, 56, 57]).toNat = 4236843288 := by decide +kernel
theorem crc_nil : U32 (crc []) = .int .u32 0 := by unfold U32; rw [crc_nil']; rfl
theorem crc_nine : U32 (crc [49, 50, 51, 52, 53, 54, 55, 56, 57]) = .int .u32 4236843288 := by unfold U32; rw [crc_nine']; rfl
theorem str_lit2 (l : List UInt8) : ({ data := l.toArray } : ByteArray) = str l := rfl

theorem shown02 {w : World} {K : Value → World → Prop} (h : ∀ w1, Ext w w1 → K (.bool true) w1) : CALL Try.prog 50 #[] w K := by
  apply call_law02_shown
  unfold B_law02_shown
  refine X_of (lit3 w) ?_
  have hx0 := newB_ext w (B8 [1, 2, 3]).toArray 5
  have hb0 := lit_bts (w := w) [1, 2, 3] (by decide) 5
  refine Open_spec hb0 (by decide) ?_ (fun cs v' w1 hc => absurd hc (by simp [openB]))
  intro _ w1 hx1
  simp only [SS, ST]
  refine Sum_spec (Bts.nil _) ?_
  intro w2 hx2
  simp only [crc_nil, SS, ST, decide_true, if_true]
  refine X_of (lit9 _) ?_
  have hx3 := alloc_ext w2 (.cells (B8 [49, 50, 51, 52, 53, 54, 55, 56, 57]).toArray 5 ((B8 [49, 50, 51, 52, 53, 54, 55, 56, 57]).toArray.size, (B8 [49, 50, 51, 52, 53, 54, 55, 56, 57]).toArray.size + 1))
  have hb3 := mark_bts (w := w2) [49, 50, 51, 52, 53, 54, 55, 56, 57] (by decide) 5 ((B8 [49, 50, 51, 52, 53, 54, 55, 56, 57]).toArray.size, (B8 [49, 50, 51, 52, 53, 54, 55, 56, 57]).toArray.size + 1)
  refine X_of (Lib.run_convert_bytes_const w2 27 5 (B8 [49, 50, 51, 52, 53, 54, 55, 56, 57]).toArray 9 9 Try.underlying27 Try.underlying5) ?_
  refine Sum_spec hb3 ?_
  intro w4 hx4
  simp only [crc_nine, SS, ST, decide_true, if_true]
  refine Seal_spec (Bts.nil _) (by decide) ?_
  intro v5 w5 hx5 ho5
  refine X_str Try.underlying27 Try.underlying5 Try.underlying9 (own_bts ho5).1 ?_
  have es : decide (sealB [] = ([0, 0, 0, 0] : List UInt8)) = true := by decide +kernel
  simp only [str_lit2, str_toList, l8_beq, es, SS, ST, if_true, Bool.not_false]
  exact h _ (hx0.trans (hx1.trans (hx2.trans (hx3.trans (hx4.trans hx5)))))
end Go.Proofs.Ytggggfcgnkllgaa
end
section
/- cellaragelaw08.alike: two disks, alike. -/
set_option linter.unusedVariables false
set_option linter.unusedSimpArgs false
namespace Go.Proofs.Ytggggfcgnkllgaa
open Go Go.Sh Go.RowKit
attribute [local irreducible] X XU XP XR CALL loopS resC closS
section
variable {w : World} {b : Nat} {d : Dk} {K : Value → World → Prop}
theorem alike_spec {b' : Nat} (h : DiskAt w b d) (h' : RefAt w b' d) (hw : d.ws.length ≤ 1000000) (hK : ∀ w1, Ext w w1 → K (.bool true) w1) : CALL Try.prog 83 #[ptr b, ptr b'] w K := by
  have h'0 := h'
  obtain ⟨ok, sv, pv, hr⟩ := h'
  have hsl : d.safe.length ≤ 16384 := ok.2.2.1
  obtain ⟨a1, c1, es⟩ := own_sl hr.safe
  obtain ⟨a2, c2, ep⟩ := own_sl hr.ws
  subst es
  subst ep
  apply call_law08_alike
  unfold B_law08_alike
  refine ⟨Ext, Ext.frame, ?_⟩
  have hxd := Keep.drew (fun _ => False) w
  have hd := h.ext hxd
  have hrd := hr.ext hxd
  have en : decide ((d.safe.length : Int) ≠ (d.safe.length : Int)) = false := by simp
  have ew : decide ((d.ws.length : Int) ≠ (d.ws.length : Int)) = false := by simp
  have edn : decide (d.done ≠ d.done) = false := by simp
  have ed : (d.dead != d.dead) = false := by simp
  simp only [XP_nilS, XP_field_148_0]
  refine XR_ok Ext.frame (fun w' k => run_loadAt agg_66 (blk_get (k.get hrd.blk) (v := .slice a1 d.safe.length c1) rfl)) ?_
  rw [XP_len_66]
  refine Size_spec hd ?_
  refine ⟨Keep.refl _ _, ?_⟩
  simp only [XP_neq, en, XP_nilS, XP_field_148_1, decide_true, decide_false, GS]
  refine XR_ok Ext.frame (fun w' k => run_loadAt agg_146 (blk_get (k.get hrd.blk) (v := .slice a2 d.ws.length c2) rfl)) ?_
  rw [XP_len_146]
  refine Pending_spec hd ?_
  refine ⟨Keep.refl _ _, ?_⟩
  simp only [XP_neq, ew, XP_nilS, XP_field_148_2, decide_true, decide_false, GS]
  refine XR_ok Ext.frame (fun w' k => run_loadAt agg_4 (blk_get (k.get hrd.blk) (v := .bool d.dead) rfl)) ?_
  refine Dead_spec hd ?_
  refine ⟨Keep.refl _ _, ?_⟩
  refine XP_of (fun w => Go.Sh.run_neq_bool Try.underlying4 _ _ _ _ w) ?_
  simp only [ed, XP_nilS, XP_field_148_4, decide_true, decide_false, GS]
  refine XR_ok Ext.frame (fun w' k => run_loadAt agg_3 (blk_get (k.get hrd.blk) (v := .int .i64 d.done) rfl)) ?_
  refine Done_spec hd ?_
  refine ⟨Keep.refl _ _, ?_⟩
  simp only [XP_neq, edn, decide_true, decide_false, GS]
  refine loopE (fun ρ wr => ∃ i : Nat, i ≤ min 40 d.safe.length + 2 ∧ Ext w wr ∧ ρ 5 = .int .i64 ((i : Int) - 1) ∧ ρ 0 = ptr b ∧ ρ 1 = ptr b')
    (fun ρ wr => match ρ 5 with | .int _ s => (100 - s).toNat | _ => 0)
    (fun ρ wr => Ext w wr) ?_ ?_ ?_
  · exact ⟨0, by omega, hxd, rfl, rfl, rfl⟩
  · rintro JE hJE ρ wr ⟨i, hi, hxr, h5, h0, h1⟩
    have hdr := h.ext hxr
    have hrr := hr.ext hxr
    have hrr0 := h'0.ext hxr
    rw [h5, h0, h1]
    simp only [X_nilS, X_field_148_0]
    refine X_loadL agg_66 hrr.blk rfl ?_
    simp only [X_len_66, X_min, X_leq, condS_bool]
    by_cases hin : (i : Int) - 1 ≤ min 40 (d.safe.length : Int)
    case neg =>
      rw [if_neg (by simpa using hin)]
      exact hJE _ _ hxr
    rw [if_pos (by simpa using hin)]
    refine Read_spec hdr ?_
    intro v1 w1 hx1 ho1
    simp only [X_extract0, X_extract1]
    refine RRead_spec (hrr0.ext hx1) hw ?_
    simp only [X_extract0, X_extract1]
    have hb1 := (own_bts ho1).1
    refine X_str Try.underlying27 Try.underlying5 Try.underlying9 hb1 ?_
    have e1 : decide ((d.read ((i : Int) - 1)).1 ≠ (d.read ((i : Int) - 1)).1) = false := by simp
    have e2 : decide ((d.read ((i : Int) - 1)).2 ≠ (d.read ((i : Int) - 1)).2) = false := by simp
    simp only [X_str_neq, str_toList, l8_bne, e1, e2, X_neq, decide_true, decide_false, GS]
    obtain ⟨av, cv, ev⟩ := own_sl ho1
    rw [ev, X_len_27, ← ev]
    generalize hrb : (d.read ((i : Int) - 1)).1 = rb at ho1 hb1 ev ⊢
    have hrl : rb.length ≤ 9223372036854775807 := own_max ho1
    refine loopG 2 (fun ρ' w' => ∃ (j : Nat) (l : List UInt8), j ≤ rb.length ∧ l.length = rb.length ∧ Ext w w' ∧ w'.ownsRow wr.heap.size 5 1 v1 rb.length (B8 l) ∧ ρ' 80 = .int .i64 (j : Nat) ∧ ρ' 79 = .int .i64 (rb.length : Nat) ∧ ρ' 6 = v1 ∧ ρ' 5 = .int .i64 ((i : Int) - 1) ∧ ρ' 0 = ptr b ∧ ρ' 1 = ptr b')
      (fun ρ wr => match ρ 80 with | .int _ s => (rb.length - s).toNat | _ => 0)
      (fun ρ' w' => Ext w w' ∧ ρ' 5 = .int .i64 ((i : Int) - 1) ∧ ρ' 0 = ptr b ∧ ρ' 1 = ptr b') ?_ ?_ ?_
    · exact ⟨0, rb, by omega, rfl, hxr.trans hx1, ho1, rfl, rfl, rfl, h5, h0, h1⟩
    · rintro J hJ ρ' w' ⟨j, l, hj, hl, hx', ho', g80, g79, g6, g5, g0, g1⟩
      rw [g80, g79, X_lss, condS_bool]
      by_cases hjn : j = rb.length
      · rw [if_neg (by simp; omega)]
        exact hJ _ _ ⟨hx', g5, g0, g1⟩
      rw [if_pos (by simp; omega)]
      obtain ⟨g, cap, cur, ev', hg, hh, hjc, hcj, hjl, hput⟩ := own_put ho' (j := j) (by omega) (l[j]'(by omega) ^^^ 255)
      have hixj : ∀ w, (Instr.indexAt 27 v1 (.int .i64 (j : Int))).run Try.prog w = .ok (.pointer (some ⟨g, j, none⟩)) w := fun w => by
        rw [ev', ix Try.underlying27 info_5 j rfl hjl w, sz_5, Nat.mul_one, add_plain, Nat.zero_add]
      rw [g6]
      refine X_of (hixj _) ?_
      refine X_loadB agg_5 hh hcj ?_
      have e255 : (Value.int .u8 255) = .int .u8 (((255 : UInt8).toNat : Nat) : Int) := rfl
      rw [e255]
      refine X_of (u8_xor 5 _ _ _) ?_
      refine X_of (hixj _) ?_
      refine XU_store info_5 sz_5 rfl hh hjc (by show ¬ ((0 : Nat) ≤ j ∧ j < 0); omega) ?_
      rw [X_add]
      show _ ∧ _
      have hws : w.heap.size ≤ wr.heap.size := hxr.size
      refine ⟨⟨j + 1, l.set j (l[j]'(by omega) ^^^ 255), by omega, by rw [List.length_set]; exact hl, Ext.seq hx' (setAt_keep _ _ _ _ _) (fun k hk => by omega), hput, next64 (n := rb.length - 1) (by omega) (by omega), g79, g6, g5, g0, g1⟩, ?_⟩
      show (_ - IntKind.i64.wrap _).toNat < _
      rw [w64 (by omega) (by omega)]
      first | omega | (show _ < (_ : Int).toNat; omega)
    · rintro ρ' w' ⟨hx', g5, g0, g1⟩
      simp only [inBlockS_same, inBlockS_normal, thenS_normal]
      rw [g5, X_add, w64 (by omega) (by omega)]
      show _ ∧ _
      refine ⟨⟨i + 1, by omega, hx', ?_, g0, g1⟩, ?_⟩
      · show Value.int .i64 _ = _
        congr 1
        omega
      · show (100 - ((i : Int) - 1 + 1)).toNat < _
        omega
  · rintro ρ wr hx
    exact hK wr hx
/-- The document's examples. -/
theorem lit_xyz (w : World) : (Instr.buildSlice 27 3 #[(0, (.int .u8 120)), (1, (.int .u8 121)), (2, (.int .u8 122))]).run Try.prog w = .ok (.slice (some ⟨w.heap.size, 0, none⟩) 3 3) (newB w (B8 [120, 121, 122]).toArray 5) := by kernel_rfl
theorem bts_conv {w : World} {K : Value → World → Prop} (l : List UInt8) (n : Nat) (hn : l.length = n) (hn' : n ≤ 9223372036854775807) (h : ∀ v w1, Ext w w1 → Bts w1 v l → (∀ k, v.ownBlock = some k → w.heap.size ≤ k ∧ k < w1.heap.size) → K v w1) :
    X Try.prog (convert 27 27 (.slice (some ⟨w.heap.size, 0, none⟩) n n)) (newB w (B8 l).toArray 5) K := by
  subst hn
  refine X_of (Lib.run_convert_bytes_const w 27 5 (B8 l).toArray l.length l.length Try.underlying27 Try.underlying5) ?_
  refine h _ _ (alloc_ext w _) (mark_bts l hn' 5 _) (fun k hk => ?_)
  injection hk with hk
  have hs : (w.alloc (.cells (B8 l).toArray 5 ((B8 l).toArray.size, (B8 l).toArray.size + 1))).heap.size = w.heap.size + 1 := Array.size_push _
  rw [hs]
  have : w.heap.size = k := hk
  omega
theorem row_none {α : Type} (f : α → Value) (w : World) : Row f w (.slice none 0 0) [] := ⟨none, 0, rfl, Nat.le_refl _, by omega, fun h => absurd h (by simp)⟩
theorem run_lit79 (n : Int) (w : World) : (Instr.buildSlice 79 1 #[(0, .int .i64 n)]).run Try.prog w = .ok (.slice (some ⟨w.heap.size, 0, none⟩) 1 1) (newB w #[.int .i64 n] 3) := by kernel_rfl
theorem row_lit79 (n : Int) (w : World) : Row fI (newB w #[.int .i64 n] 3) (.slice (some ⟨w.heap.size, 0, none⟩) 1 1) [n] := by
  refine ⟨_, _, rfl, Nat.le_refl _, by omega, fun _ => ⟨_, rfl, fun j x hj => ?_⟩⟩
  have hj0 : j = 0 := by
    have := (List.getElem?_eq_some_iff.1 hj).1
    simp at this
    exact this
  subst hj0
  simp at hj
  subst hj
  rw [Addr.add_zero', cell_blk (newB_get _ _ _)]
  rfl
theorem shown08 (hK : ∀ w1, Ext w w1 → K (.bool true) w1) : CALL Try.prog 68 #[] w K := by
  apply call_law08_shown
  unfold B_law08_shown
  refine New_disk (fun h => absurd h (by omega)) ?_
  intro m hm _ b w1 hx1 hlow hd1
  obtain rfl : m = 2 := by omega
  have e0 : decide ((0 : Int) ≠ 0) = false := by decide
  simp only [X_extract0, X_extract1, X_eql_nil_74, Option.isNone_some, X_neq, e0, decide_true, decide_false, GS]
  refine X_of (lit_xyz _) ?_
  refine bts_conv [120, 121, 122] 3 rfl (by decide) ?_
  intro v2 w2 hx2 hb2 hk2
  have hd2 := hd1.ext hx2
  have ws0 : (Dk.new 2).ws.length ≤ 1000000 := by decide
  have out2 : Outs w2 b v2 := fun k hk => ⟨fun hf => by
    have := hd1.lt k ((foot_same (hx2.block b (hd1.lt b (foot_self _ b)) (fun h => h))).1 hf)
    have := (hk2 k hk).1
    omega, (hk2 k hk).2⟩
  refine Write_spec hd2 ws0 hb2 (fun _ k hk => (out2 k hk).1) ?_
  intro w3 hd3 s3
  have r3 : ((Dk.new 2).write 1 [120, 121, 122]).2 = 0 := by decide +kernel
  simp only [r3, X_neq, e0, decide_true, decide_false, GS]
  refine Crash_spec hd3 (row_none _ _) (fun h => absurd h (by simp)) ?_
  intro w4 hd4 s4
  refine Read_spec hd4 ?_
  intro v5 w5 hx5 ho5
  have r5 : (((Dk.new 2).write 1 [120, 121, 122]).1.crash []).read 1 = (List.replicate 128 0, 0) := by decide +kernel
  rw [r5] at ho5
  rw [r5]
  simp only [X_extract0, X_extract1]
  have out5 : Outs w5 b v5 := outs_own ho5 hx5 hd4.lt (Nat.le_refl _)
  have hb5 := (own_bts ho5).1
  have hd5 := hd4.ext hx5
  refine X_of (lit_xyz _) ?_
  refine bts_conv [120, 121, 122] 3 rfl (by decide) ?_
  intro v6 w6 hx6 hb6 hk6
  have hd6 := hd5.ext hx6
  have out6 : Outs w6 b v6 := fun k hk => ⟨fun hf => by
    have := hd5.lt k ((foot_same (hx6.block b (hd5.lt b (foot_self _ b)) (fun h => h))).1 hf)
    have := (hk6 k hk).1
    omega, (hk6 k hk).2⟩
  have out5' := out5.ext (hd5.lt b (foot_self _ b)) hx6
  have hb5' := hb5.ext hx6
  refine Write_spec hd6 (by decide +kernel) hb6 (fun _ k hk => (out6 k hk).1) ?_
  intro w7 hd7 s7
  have r7 : ((((Dk.new 2).write 1 [120, 121, 122]).1.crash []).write 1 [120, 121, 122]).2 = 0 := by decide +kernel
  have out7 := out5'.step s7
  have hb7 := hb5'.step out5' s7
  refine X_of (run_lit79 _ _) ?_
  have hx8 := newB_ext w7 #[.int .i64 2] 3
  have hr8 := row_lit79 2 w7
  have hs8 := newB_size w7 #[.int .i64 2] 3
  have hlt7 := hd7.lt
  have hd8 := hd7.ext hx8
  have out8 := out7.ext (hd7.lt b (foot_self _ b)) hx8
  have hb8 := hb7.ext hx8
  refine Crash_spec hd8 hr8 (fun _ k hk hf => ?_) ?_
  · have e1 : w7.heap.size = k := by injection hk
    have := hlt7 k ((foot_same (hx8.block b (hd7.lt b (foot_self _ b)) (fun h => h))).1 hf)
    omega
  intro w9 hd9 s9
  have out9 := out8.step s9
  have hb9 := hb8.step out8 s9
  refine Read_spec hd9 ?_
  intro v10 w10 hx10 ho10
  have r10 : (((((Dk.new 2).write 1 [120, 121, 122]).1.crash []).write 1 [120, 121, 122]).1.crash [2]).read 1 = ([120, 121] ++ List.replicate 126 0, 0) := by decide +kernel
  rw [r10] at ho10
  rw [r10]
  simp only [X_extract0, X_extract1]
  have out10 := out9.ext (hd9.lt b (foot_self _ b)) hx10
  have hb10 := hb9.ext hx10
  have outB : Outs w10 b v10 := outs_own ho10 hx10 hd9.lt (Nat.le_refl _)
  have hbB := (own_bts ho10).1
  have hd10 := hd9.ext hx10
  have hxd := Keep.drew (fun _ => False) w10
  refine ⟨Keep (foot w10 b), Keep.frame _, ?_⟩
  obtain ⟨a5, c5, ev5⟩ := Bts.slice hb10
  obtain ⟨a10, c10, ev10⟩ := Bts.slice hbB
  have hb10d := hb10.ext hxd
  have hbBd := hbB.ext hxd
  have e128 : decide (((List.replicate 128 (0 : UInt8)).length : Int) = 128) = true := by decide +kernel
  have e128' : decide ((([120, 121] ++ List.replicate 126 (0 : UInt8) : List UInt8).length : Int) = 128) = true := by decide +kernel
  rw [ev5, XP_len_27, XP_eql, ← ev5]
  simp only [e128, decide_true, decide_false, GS]
  refine XR_ok (Keep.frame _) (fun w' k => run_str Try.underlying27 Try.underlying5 Try.underlying9 (hb10d.keep k (fun i hi => (out10 i hi).1))) ?_
  refine X_make Try.underlying27 el_5 128 128 rfl rfl (Nat.le_refl _) (by decide) (by decide) ?_
  have hcells : madeCells (Value.int .u8 0).cells (128 * 1) = (B8 (List.replicate 128 0)).toArray := by
    apply Array.ext'
    have : (madeCells (Value.int .u8 0).cells 128).toList = List.replicate 128 (.int .u8 0) := made_one _ _
    rw [Nat.mul_one, this]
    simp [B8]
  rw [hcells]
  have hx11 := newB_ext (drewW w10) (B8 (List.replicate 128 0)).toArray 5
  have hb11 := lit_bts (w := drewW w10) (List.replicate 128 0) (by simp) 5
  have hl128 : (List.replicate 128 (0 : UInt8)).length = 128 := List.length_replicate
  rw [hl128] at hb11
  refine ⟨hx11.ext, ?_⟩
  generalize newB (drewW w10) (B8 (List.replicate 128 0)).toArray 5 = w11 at hx11 hb11 ⊢
  refine XR_ok (Keep.frame _) (fun w' k => run_str Try.underlying27 Try.underlying5 Try.underlying9 (hb11.keep k (fun i hi hf => by
    have h1 : (drewW w10).heap.size = i := by injection hi
    have h2 := hd10.lt i hf
    have h3 : (drewW w10).heap.size = w10.heap.size := rfl
    omega))) ?_
  simp only [XP_str_eql, str_toList, l8_beq, decide_true, decide_false, GS]
  have hbB11 := hbBd.ext hx11
  rw [ev10, XP_len_27, XP_eql, ← ev10]
  simp only [e128', decide_true, decide_false, GS]
  obtain ⟨u, hu, hub, hblk⟩ := cut_hi Try.underlying27 info_5 hbB11 (kh := .i64) (hj := 3) 3 rfl (by simp)
  refine XP_of hu ?_
  refine XR_ok (Keep.frame _) (fun w' k => run_str Try.underlying27 Try.underlying5 Try.underlying9 (hub.keep k (fun i hi => (outB i (by rw [← hblk]; exact hi)).1))) ?_
  have e3 : decide (([120, 121] ++ List.replicate 126 (0 : UInt8) : List UInt8).take 3 = [120, 121, 0]) = true := by decide +kernel
  have e00 : decide ((0 : Int) = 0) = true := by decide
  simp only [str_lit2, XP_str_eql, str_toList, l8_beq, e3, XP_eql, e00, r7, decide_true, decide_false, GS]
  have hd11 := (hd10.ext hxd).ext hx11
  refine Write_spec hd11 (by decide +kernel) (Bts.nil _) (fun h => absurd h (by simp)) ?_
  intro w12 hd12 s12
  have hf11 : ∀ k, foot w11 b k ↔ foot w10 b k := fun k => foot_same ((hxd.trans hx11).block b (hd10.lt b (foot_self _ b)) (fun h => h))
  refine ⟨s12.keep.mono (fun i _ hf => (hf11 i).1 hf), ?_⟩
  have r12 : ((((((Dk.new 2).write 1 [120, 121, 122]).1.crash []).write 1 [120, 121, 122]).1.crash [2]).write 2 []).2 = 1 := by decide +kernel
  have e11 : decide ((1 : Int) = 1) = true := by decide
  simp only [r12, XP_eql, e11, decide_true, decide_false, GS]
  have low2 := (Step.ext hx2 (hd1.lt b (foot_self _ b))).low hx1.size hlow
  have x3 := s3.out (hx1.trans hx2) low2
  have low3 := s3.low (hx1.trans hx2).size low2
  have x4 := s4.out x3 low3
  have low4 := s4.low x3.size low3
  have low6 := (Step.ext (hx5.trans hx6) (hd4.lt b (foot_self _ b))).low x4.size low4
  have x7 := s7.out (x4.trans (hx5.trans hx6)) low6
  have low7 := s7.low (x4.trans (hx5.trans hx6)).size low6
  have low8 := (Step.ext hx8 (hd7.lt b (foot_self _ b))).low x7.size low7
  have x9 := s9.out (x7.trans hx8) low8
  have low9 := s9.low (x7.trans hx8).size low8
  have low11 := (Step.ext (hx10.trans (hxd.trans hx11)) (hd9.lt b (foot_self _ b))).low x9.size low9
  exact hK w12 (s12.out (x9.trans (hx10.trans (hxd.trans hx11))) low11)
end
end Go.Proofs.Ytggggfcgnkllgaa
end
section
/- What cellaragelaw11.shown computes: true. -/
set_option linter.unusedVariables false
set_option linter.unusedSimpArgs false
namespace Go.Proofs.Ytggggfcgnkllgaa
open Go Go.Sh Go.RowKit
attribute [local irreducible] X XU XP XR CALL loopS resC closS
theorem lit_abc11 (w : World) : (Instr.buildSlice 27 3 #[(0, (.int .u8 97)), (1, (.int .u8 98)), (2, (.int .u8 99))]).run Try.prog w = .ok (.slice (some ⟨w.heap.size, 0, none⟩) 3 3) (newB w (B8 [97, 98, 99]).toArray 5) := by kernel_rfl
theorem str_eqT {x y : List UInt8} (h : x = y) : ((str x).toList == (str y).toList) = true := by rw [h]; simp
theorem head7 : ((layP 7 []).take 6).drop 0 = [0, 0, 0, 7, 0, 0] := by
  have e : layP 7 [] = [0, 0, 0, 7, 0, 0] ++ be 4 (crc (bodyP 7 [])).toNat := rfl
  rw [e, List.drop_zero, List.take_append_of_le_length (by decide)]
  rfl
theorem shown11 {w : World} {K : Value → World → Prop} (hK : ∀ w1, Ext w w1 → K (.bool true) w1) : CALL Try.prog 85 #[] w K := by
  have e00 : decide ((0 : Int) = 0) = true := by decide
  have e110 : decide ((110 : Int) = 110) = true := by decide
  have c0 : chk (pl []) = 0 := by decide
  apply call_law11_shown
  unfold B_law11_shown B_law11_shown_c1
  refine LayC_spec (id := 7) (l := []) (by omega) (row_nil w) (by simp) (by decide) (fun h => absurd c0 h) ?_
  intro _ u1 w1 hx1 ho1
  have hl10 : (layP 7 (pl [])).length = 10 := by rw [layP_len]; rfl
  have hb1 := (own_bts ho1).1
  obtain ⟨a1, cp1, e1⟩ := Bts.slice hb1
  subst e1
  (repeat (simp only [XP_extract0, XP_extract1, XP_extract2, XP_extract3, X_extract0, X_extract1, X_extract2, X_extract3, X_nilS, X_eql_nil_74, X_neq_nil_74, X_eql_nil_124, X_neq_nil_124, X_eql, X_neq, X_lss, X_leq, X_gtr, X_geq, X_not, X_min, X_max, X_len_27, X_len_9, X_len_79, XP_nilS, XP_eql, XP_neq, XP_lss, XP_leq, XP_gtr, XP_geq, XP_not, XP_min, XP_max, XP_len_27, XP_len_9, XP_eql_nil_74, X_str_eql, X_str_neq, XP_str_eql, XP_str_neq, GS, gs_u, decide_true, decide_false, Option.isNone_some, Option.isSome_some, Option.isNone_none, Option.isSome_none, eq_self, Bool.not_true, Bool.not_false, Int.reduceEq, Int.reduceNe, Int.reduceLT, Int.reduceLE, Int.reduceGT, Int.reduceGE]))
  refine Take_none (Bts.nil w1) (by decide) openB_nil ?_
  intro w2 hx2
  have hb2 := hb1.ext hx2
  have ct : decide (((layP 7 (pl [])).length : Int) = 10) = true := by rw [hl10]; rfl
  (repeat (simp only [XP_extract0, XP_extract1, XP_extract2, XP_extract3, X_extract0, X_extract1, X_extract2, X_extract3, X_nilS, X_eql_nil_74, X_neq_nil_74, X_eql_nil_124, X_neq_nil_124, X_eql, X_neq, X_lss, X_leq, X_gtr, X_geq, X_not, X_min, X_max, X_len_27, X_len_9, X_len_79, XP_nilS, XP_eql, XP_neq, XP_lss, XP_leq, XP_gtr, XP_geq, XP_not, XP_min, XP_max, XP_len_27, XP_len_9, XP_eql_nil_74, X_str_eql, X_str_neq, XP_str_eql, XP_str_neq, GS, gs_u, decide_true, decide_false, Option.isNone_some, Option.isSome_some, Option.isNone_none, Option.isSome_none, eq_self, Bool.not_true, Bool.not_false, Int.reduceEq, Int.reduceNe, Int.reduceLT, Int.reduceLE, Int.reduceGT, Int.reduceGE, e00, ct]))
  have hcap : (layP 7 (pl [])).length ≤ cp1 := by
    obtain ⟨_, _, e, h1, _, _⟩ := hb1
    injection e with _ _ e
    omega
  refine X_of (run_slice_hi Try.underlying27 info_5 a1 _ cp1 .i64 6 (by omega) w2) ?_
  have hcut := hb2.cut 0 6 (by omega) (by omega)
  have h6 : (((layP 7 (pl [])).take 6).drop 0) = [0, 0, 0, 7, 0, 0] := head7
  rw [h6] at hcut
  refine X_of (run_str (src := 27) (dst := 9) Try.underlying27 Try.underlying5 Try.underlying9 hcut) ?_
  have est : ({ data := #[0, 0, 0, 7, 0, 0] } : ByteArray) = str [0, 0, 0, 7, 0, 0] := rfl
  rw [est]
  (repeat (simp only [XP_extract0, XP_extract1, XP_extract2, XP_extract3, X_extract0, X_extract1, X_extract2, X_extract3, X_nilS, X_eql_nil_74, X_neq_nil_74, X_eql_nil_124, X_neq_nil_124, X_eql, X_neq, X_lss, X_leq, X_gtr, X_geq, X_not, X_min, X_max, X_len_27, X_len_9, X_len_79, XP_nilS, XP_eql, XP_neq, XP_lss, XP_leq, XP_gtr, XP_geq, XP_not, XP_min, XP_max, XP_len_27, XP_len_9, XP_eql_nil_74, X_str_eql, X_str_neq, XP_str_eql, XP_str_neq, GS, gs_u, decide_true, decide_false, Option.isNone_some, Option.isSome_some, Option.isNone_none, Option.isSome_none, eq_self, Bool.not_true, Bool.not_false, Int.reduceEq, Int.reduceNe, Int.reduceLT, Int.reduceLE, Int.reduceGT, Int.reduceGE, e110, str_eqT]))
  refine X_of (lit_abc11 _) ?_
  refine bts_conv [97, 98, 99] 3 rfl (by decide) ?_
  intro v3 w3 hx3 hb3 hk3
  obtain ⟨a3, cp3, e3⟩ := Bts.slice hb3
  subst e3
  (repeat (simp only [XP_extract0, XP_extract1, XP_extract2, XP_extract3, X_extract0, X_extract1, X_extract2, X_extract3, X_nilS, X_eql_nil_74, X_neq_nil_74, X_eql_nil_124, X_neq_nil_124, X_eql, X_neq, X_lss, X_leq, X_gtr, X_geq, X_not, X_min, X_max, X_len_27, X_len_9, X_len_79, XP_nilS, XP_eql, XP_neq, XP_lss, XP_leq, XP_gtr, XP_geq, XP_not, XP_min, XP_max, XP_len_27, XP_len_9, XP_eql_nil_74, X_str_eql, X_str_neq, XP_str_eql, XP_str_neq, GS, gs_u, decide_true, decide_false, Option.isNone_some, Option.isSome_some, Option.isNone_none, Option.isSome_none, eq_self, Bool.not_true, Bool.not_false, Int.reduceEq, Int.reduceNe, Int.reduceLT, Int.reduceLE, Int.reduceGT, Int.reduceGE]))
  refine X_of (run_build_115d [97, 98, 99] _) ?_
  refine X_buildSliceK Try.underlying100 el_115 (by decide) (by decide) (Pc.len _) ?_
  have hx4 := newB_ext w3 (Pc.cs ⟨⟨nilKy, [97, 98, 99]⟩, .slice a3 3 cp3⟩).toArray 115
  have hg4 := newB_get w3 (Pc.cs ⟨⟨nilKy, [97, 98, 99]⟩, .slice a3 3 cp3⟩).toArray 115
  have hb4 := hb3.ext hx4
  show CALL _ _ _ (newB w3 (Pc.cs ⟨⟨nilKy, [97, 98, 99]⟩, .slice a3 3 cp3⟩).toArray 115) _
  generalize newB w3 (Pc.cs ⟨⟨nilKy, [97, 98, 99]⟩, .slice a3 3 cp3⟩).toArray 115 = w4 at hx4 hg4 hb4 ⊢
  have hrow : RowK 34 Pc.cs w4 (.slice (some ⟨w3.heap.size, 0, none⟩) 1 1) [⟨⟨nilKy, [97, 98, 99]⟩, .slice a3 3 cp3⟩] := by
    refine RowK.ofK (T := 115) (fr := (0, 0)) (by decide) Pc.len ?_ rfl (by decide)
    rw [hg4]
    unfold cellsK
    simp
  refine Size_pieces hrow (fun c hc => by rw [List.mem_singleton.1 hc]; exact hb4) (by show 41 ≤ _; decide) ?_
  intro w5 hx5
  have e51 : decide (((sizeP (pl [(⟨⟨nilKy, [97, 98, 99]⟩, .slice a3 3 cp3⟩ : Pc)]) : Nat) : Int) = 51) = true := rfl
  (repeat (simp only [XP_extract0, XP_extract1, XP_extract2, XP_extract3, X_extract0, X_extract1, X_extract2, X_extract3, X_nilS, X_eql_nil_74, X_neq_nil_74, X_eql_nil_124, X_neq_nil_124, X_eql, X_neq, X_lss, X_leq, X_gtr, X_geq, X_not, X_min, X_max, X_len_27, X_len_9, X_len_79, XP_nilS, XP_eql, XP_neq, XP_lss, XP_leq, XP_gtr, XP_geq, XP_not, XP_min, XP_max, XP_len_27, XP_len_9, XP_eql_nil_74, X_str_eql, X_str_neq, XP_str_eql, XP_str_neq, GS, gs_u, decide_true, decide_false, Option.isNone_some, Option.isSome_some, Option.isNone_none, Option.isSome_none, eq_self, Bool.not_true, Bool.not_false, Int.reduceEq, Int.reduceNe, Int.reduceLT, Int.reduceLE, Int.reduceGT, Int.reduceGE, e51]))
  exact hK w5 ((((hx1.trans hx2).trans hx3).trans hx4).trans hx5)
end Go.Proofs.Ytggggfcgnkllgaa
end
section
/- Three facts of the whole program that the kernel cannot reckon head-on: what the first words of the order say. -/
set_option linter.constructorNameAsVariable false
namespace Go.Proofs.Ytggggfcgnkllgaa
open Go Go.Sh Go.RowKit

theorem words_cons (c : Char) (hc : c ≠ Char.ofNat 32) (r : List Char) : wordsSigns (c :: r) = match wordsSigns r with | w :: ws => (c :: w) :: ws | [] => [[c]] := by
  rw [wordsSigns.eq_def]
  split
  · rename_i h; cases h
  · rename_i h; injection h with h1 h2; exact absurd h1 hc
  · rename_i c' r' _ h
    injection h with h1 h2
    subst h1; subst h2
    rfl
theorem words_append : ∀ (u r : List Char), (∀ c ∈ u, c ≠ Char.ofNat 32) → wordsSigns (u ++ Char.ofNat 32 :: r) = u :: wordsSigns r
  | [], r, _ => by rw [List.nil_append, wordsSigns.eq_def]; rfl
  | c :: u, r, h => by
    rw [List.cons_append, words_cons c (h c (by simp)), words_append u r (fun x hx => h x (by simp [hx]))]

theorem words_are : ∃ ws, wordsSigns Try.prog.initOrder.toList = "harness".toList :: "62f34890e3c06fe2011e3a1f7b1d35cb61325f7f5314e4ae60b96fccc44d6865".toList :: "cut".toList :: ws := by
  have h : Try.prog.initOrder = "harness" ++ " " ++ "62f34890e3c06fe2011e3a1f7b1d35cb61325f7f5314e4ae60b96fccc44d6865" ++ " " ++ "cut" ++ " " ++ "at cellarage/cellaragelaw10.SlotLays cellarage/cellaragelaw10.SlotTakes cellarage/cellaragelaw10.SlotBack cellarage/cellaragelaw10.SlotTorn cellarage/cellaragelaw01.CodecOrder cellarage/cellaragelaw10.SlotNewer cellarage/cellaragelaw10.SlotCommits cellarage/cellaragelaw02.CrcSums cellarage/cellaragelaw02.CrcSeals cellarage/cellaragelaw02.CrcGoes cellarage/cellaragelaw02.CrcTells cellarage/cellaragelaw02.CrcBack cellarage/cellaragelaw02.CrcLinear cellarage/cellaragelaw01.CodecTakes cellarage/cellaragelaw01.CodecBack cellarage/cellaragelaw01.CodecShort cellarage/cellaragelaw01.CodecNil cellarage/cellaragelaw08.DiskTorn cellarage/cellaragelaw08.DiskSafe cellarage/cellaragelaw08.DiskFlush cellarage/cellaragelaw08.DiskCuts cellarage/cellaragelaw08.DiskPlays cellarage/cellaragelaw08.DiskNil cellarage/cellaragelaw11.ContLays cellarage/cellaragelaw11.ContBack cellarage/cellaragelaw11.ContOnce cellarage/cellaragelaw11.ContTurned cellarage/cellaragelaw11.ContOwn cellarage/cellaragelaw11.ContTakes cellarage/cellaragelaw12.VaultBack cellarage/cellaragelaw12.VaultShelves cellarage/cellaragelaw12.VaultNil cellarage/cellaragelaw12.VaultPlays cellarage/cellaragelaw20.HomeNil cellarage/cellaragelaw20.HomeBack cellarage/cellaragelaw20.HomeOps cellarage/cellaragelaw20.HomeCrashes cellarage/cellaragelaw20.HomePlays" := by kernel_rfl
  rw [h]
  simp only [String.toList_append, List.append_assoc]
  refine ⟨wordsSigns ("at cellarage/cellaragelaw10.SlotLays cellarage/cellaragelaw10.SlotTakes cellarage/cellaragelaw10.SlotBack cellarage/cellaragelaw10.SlotTorn cellarage/cellaragelaw01.CodecOrder cellarage/cellaragelaw10.SlotNewer cellarage/cellaragelaw10.SlotCommits cellarage/cellaragelaw02.CrcSums cellarage/cellaragelaw02.CrcSeals cellarage/cellaragelaw02.CrcGoes cellarage/cellaragelaw02.CrcTells cellarage/cellaragelaw02.CrcBack cellarage/cellaragelaw02.CrcLinear cellarage/cellaragelaw01.CodecTakes cellarage/cellaragelaw01.CodecBack cellarage/cellaragelaw01.CodecShort cellarage/cellaragelaw01.CodecNil cellarage/cellaragelaw08.DiskTorn cellarage/cellaragelaw08.DiskSafe cellarage/cellaragelaw08.DiskFlush cellarage/cellaragelaw08.DiskCuts cellarage/cellaragelaw08.DiskPlays cellarage/cellaragelaw08.DiskNil cellarage/cellaragelaw11.ContLays cellarage/cellaragelaw11.ContBack cellarage/cellaragelaw11.ContOnce cellarage/cellaragelaw11.ContTurned cellarage/cellaragelaw11.ContOwn cellarage/cellaragelaw11.ContTakes cellarage/cellaragelaw12.VaultBack cellarage/cellaragelaw12.VaultShelves cellarage/cellaragelaw12.VaultNil cellarage/cellaragelaw12.VaultPlays cellarage/cellaragelaw20.HomeNil cellarage/cellaragelaw20.HomeBack cellarage/cellaragelaw20.HomeOps cellarage/cellaragelaw20.HomeCrashes cellarage/cellaragelaw20.HomePlays".toList), ?_⟩
  have e : " ".toList = [Char.ofNat 32] := by kernel_rfl
  rw [e]
  simp only [List.singleton_append]
  rw [words_append _ _ (by decide), words_append _ _ (by decide), words_append _ _ (by decide)]


theorem head_is : ∃ ws, behindMainWord (wordsSigns Try.prog.initOrder.toList) = "cut".toList :: ws := by
  obtain ⟨ws, h⟩ := words_are
  rw [h]
  exact ⟨ws, by kernel_rfl⟩
theorem laysLater_is : Try.prog.laysLater = false := by kernel_rfl
theorem bearsReflect_is : Try.prog.bearsReflect = false := by kernel_rfl
theorem doorRows_is : Try.prog.doorRows = [] := by kernel_rfl
section
variable {P : Program} {ws : List (List Char)}
theorem make_of (h : behindMainWord (wordsSigns P.initOrder.toList) = "cut".toList :: ws) : P.make = some .cut := by
  unfold Program.make
  rw [h]
  kernel_rfl
theorem headLifts_of (h : behindMainWord (wordsSigns P.initOrder.toList) = "cut".toList :: ws) : P.headLifts = [] := by
  unfold Program.headLifts
  rw [h]
  kernel_rfl
theorem liftsFinal_of (h : behindMainWord (wordsSigns P.initOrder.toList) = "cut".toList :: ws) : P.liftsFinal = false := by
  unfold Program.liftsFinal
  rw [headLifts_of h, h]
  kernel_rfl
theorem mayEnter_of (h : behindMainWord (wordsSigns P.initOrder.toList) = "cut".toList :: ws) (h1 : P.laysLater = false) (h2 : P.bearsReflect = false) (h3 : P.doorRows = []) : P.mayEnter = true := by
  unfold Program.mayEnter Program.doorFits
  rw [h, h1, h2, h3]
  kernel_rfl
end
theorem mayEnter_is : Try.prog.mayEnter = true := by
  obtain ⟨ws, h⟩ := head_is
  exact mayEnter_of h laysLater_is bearsReflect_is doorRows_is
theorem liftsFinal_is : Try.prog.liftsFinal = false := by
  obtain ⟨ws, h⟩ := head_is
  exact liftsFinal_of h
theorem make_is : Try.prog.make = some .cut := by
  obtain ⟨ws, h⟩ := head_is
  exact make_of h
end Go.Proofs.Ytggggfcgnkllgaa
end
