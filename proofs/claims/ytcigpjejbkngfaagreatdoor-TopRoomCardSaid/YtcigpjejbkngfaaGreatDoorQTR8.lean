/- Part 8 of what the law is proved with. -/
import Derived.Lib.SliceRun
import Derived.Test.YtcigpjejbkngfaaGreatDoorQTR7
set_option linter.unusedVariables false
set_option linter.unusedSimpArgs false
section
set_option maxRecDepth 8000
namespace Go.Sh
open Go Go.Proofs.YtcigpjejbkngfaaGreatDoor
theorem setAt_id {w : World} {b : Nat} {cs : Array Value} {T : TypeId} {fr : Nat × Nat} (hb : w.heap[b]? = some (.cells cs T fr)) : setAt w b cs T fr = w := by
  unfold setAt
  have : w.heap.setIfInBounds b (.cells cs T fr) = w.heap := by
    apply Array.ext_getElem?
    intro i
    by_cases hi : i = b
    · subst hi
      rw [hb, Array.getElem?_setIfInBounds_self_of_lt (lt_of_blk hb)]
    · rw [Array.getElem?_setIfInBounds_ne (Ne.symm hi)]
  rw [this]
theorem setAt_setAt {w : World} {b : Nat} {c1 c2 : Array Value} {T : TypeId} {fr : Nat × Nat} : setAt (setAt w b c1 T fr) b c2 T fr = setAt w b c2 T fr := by
  unfold setAt
  simp
theorem setCells_eq : ∀ (l : List Value) {w : World} {b o : Nat} {cs : Array Value} {T : TypeId} {fr : Nat × Nat}, w.heap[b]? = some (.cells cs T fr) → o + l.length ≤ cs.size → w.setCells b o l = setAt w b (cs.toList.take o ++ l ++ cs.toList.drop (o + l.length)).toArray T fr
  | [], w, b, o, cs, T, fr, hb, h => by
    have e : (cs.toList.take o ++ [] ++ cs.toList.drop (o + ([] : List Value).length)).toArray = cs := by simp
    rw [e, setAt_id hb]
    rfl
  | v :: l, w, b, o, cs, T, fr, hb, h => by
    show (w.setCell ⟨b, o, none⟩ v).setCells b (o + 1) l = _
    rw [setCell_setAt hb]
    have hb2 : (setAt w b (cs.setIfInBounds o v) T fr).heap[b]? = some (.cells (cs.setIfInBounds o v) T fr) := setAt_same (lt_of_blk hb)
    simp only [List.length_cons] at h
    rw [setCells_eq l hb2 (by simp; omega), setAt_setAt]
    congr 2
    have ho : o < cs.toList.length := by simp; omega
    rw [Array.toList_setIfInBounds]
    have e1 : (cs.toList.set o v).take (o + 1) = cs.toList.take o ++ [v] := by
      rw [List.take_succ_eq_append_getElem (by simpa using ho), List.getElem_set_self, List.take_set_of_le (Nat.le_refl _)]
    have e2 : (cs.toList.set o v).drop (o + 1 + l.length) = cs.toList.drop (o + (v :: l).length) := by
      rw [List.drop_set_of_lt (by omega)]
      congr 1
      simp
      omega
    rw [e1, e2]
    simp
def heldN (n : Nat) : Nat := if n = 0 then 0 else (n - 1) % 64 + 1
theorem heldN_le (n : Nat) : heldN n ≤ 64 := by unfold heldN; split <;> omega
def ready (d : Dg) : Dg := if heldN d.n = 64 then d.press false else d
def place (d : Dg) : Nat := if heldN d.n = 64 then 0 else heldN d.n
theorem place_lt (d : Dg) : place d < 64 := by unfold place; have := heldN_le d.n; split <;> omega
def putL (r : List UInt8) (k : Nat) (b : List UInt8) : List UInt8 := r.take k ++ b ++ r.drop (k + b.length)
theorem putL_len {r b : List UInt8} {k : Nat} (h : k + b.length ≤ r.length) : (putL r k b).length = r.length := by unfold putL; simp; omega
def takeN (d : Dg) (b : List UInt8) : Nat := min b.length (64 - place d)
def stepD (d : Dg) (b : List UInt8) : Dg := ⟨(ready d).ws, putL (ready d).rest (place d) (b.take (64 - place d)), ((ready d).n + takeN d b) % 18446744073709551616, (ready d).hw, by
  rw [putL_len]; exact (ready d).hr
  rw [(ready d).hr, List.length_take]
  have := place_lt d
  omega, Nat.mod_lt _ (by decide)⟩
def wrF : Nat → Dg → List UInt8 → Dg
  | 0, d, _ => d
  | f + 1, d, b => if b = [] then d else wrF f (stepD d b) (b.drop (takeN d b))
theorem wrF_nil (f : Nat) (d : Dg) : wrF f d [] = d := by cases f <;> simp [wrF]
def newD : Dg := ⟨setX firstW 0 0x01010020#32, List.replicate 64 0, 0, by rw [setX_len]; rfl, by simp, by decide⟩
def clearD (d : Dg) : Dg := ⟨d.ws, putL d.rest (heldN d.n) (List.replicate (64 - heldN d.n) 0), d.n, d.hw, by
  rw [putL_len]; exact d.hr
  rw [d.hr, List.length_replicate]
  have := heldN_le d.n
  omega, d.hn⟩
def outB (ws : List W32) (i : Nat) : UInt8 := UInt8.ofNat (ws.getD (i / 4) 0 >>> (8 * (i % 4))).toNat
def sumD (d : Dg) : List UInt8 := (List.range 32).map (outB (pressW (clearD d) true))
theorem sumD_len (d : Dg) : (sumD d).length = 32 := by simp [sumD]
def digL (b : List UInt8) : List UInt8 := sumD (wrF b.length newD b)
theorem digL_len (b : List UInt8) : (digL b).length = 32 := sumD_len _
end Go.Sh
namespace Go.Proofs.YtcigpjejbkngfaaGreatDoor
open Go Go.Sh Go.RowKit
attribute [local irreducible] X XU XP XR CALL loopS resC closS quart st1 st2 itF rndW rndsW mUpto mStep finU setX pressW nextW startX firstW UL
theorem run_new (w : World) : (Instr.build 139 #[(0, .agg (UL firstW).toArray)]).run Tryz.prog w = .ok (.agg (UL firstW ++ B8 (List.replicate 64 0) ++ [Value.int .u64 0]).toArray) w := by kernel_rfl
section
variable {w : World} {K : Value → World → Prop}
theorem DNew_spec (hK : ∀ b w1, Ext w w1 → w.heap.size ≤ b → StAt w1 b newD → K (ptr b) w1) : CALL Tryz.prog 37 #[] w K := by
  apply call_digest_New
  unfold B_digest_New
  refine first_spec ?_
  intro w1 hx1
  refine X_of (run_new _) ?_
  refine X_box ?_
  let d0 : Dg := ⟨firstW, List.replicate 64 0, 0, by unfold firstW; rfl, by simp, by decide⟩
  have hx2 := newB_ext w1 d0.cs.toArray 139
  have hg2 : StAt (newB w1 d0.cs.toArray 139) w1.heap.size d0 := newB_get _ _ _
  show ∃ R, Frame? R ∧ _
  have e : (Value.agg (UL firstW ++ B8 (List.replicate 64 0) ++ [Value.int .u64 0]).toArray).cells = d0.cs.toArray := rfl
  rw [e]
  have hb0 := hx1.size
  generalize w1.heap.size = b at hg2 hb0 ⊢
  generalize newB w1 d0.cs.toArray 139 = w2 at hx2 hg2 ⊢
  have hx02 := (hx1.trans hx2).trans (Keep.drew (fun _ => False) w2)
  have hgd : StAt (drewW w2) b d0 := hg2
  refine ⟨Ext, Ext.frame, ?_⟩
  generalize drewW w2 = wd at hx02 hgd ⊢
  (repeat (simp only [SLB, Int.reduceEq, Int.reduceNe, Int.reduceLT, Int.reduceLE, Int.reduceGT, Int.reduceGE, XP_field_139_0]))
  refine XP_of (fun w' => ix135 b 0 0 .i64 (by decide) w') ?_
  refine XR_ok Ext.frame (fun w' kk => run_loadAt (v := U32 (firstW.getD 0 0)) agg_31 ((cell_blk (Ext.get kk hgd)).trans (by have := Dg.wsAt d0 (i := 0) (by decide); rw [← List.getElem?_toArray] at this; exact this))) ?_
  refine XP_of (fun w' => u32_xor 31 _ (0x01010020#32) w') ?_
  (repeat (simp only [SLB, Int.reduceEq, Int.reduceNe, Int.reduceLT, Int.reduceLE, Int.reduceGT, Int.reduceGE, XP_field_139_0]))
  refine XP_of (fun w' => ix135 b 0 0 .i64 (by decide) w') ?_
  refine XU_store info_31 sz_31 rfl hgd (by simp [Dg.cs_len]) (by show ¬ (0 ≤ _ ∧ _ < 0); omega) ?_
  have hset := Dg.cs_set d0 (i := 0) (by decide) (firstW.getD 0 0 ^^^ 0x01010020#32) newD.hw (by show setX firstW 0 _ = _; rw [← setX_eq])
  rw [hset]
  refine hK _ _ (Ext.seq hx02 (setAt_keep _ _ _ _ _) (fun g hg => by omega)) hb0 ?_
  exact setAt_same (lt_of_blk hgd)
def lenV (v : Value) : Nat := match v with | .slice _ n _ => n | _ => 0
theorem StAt.keep {D : Nat → Prop} {w w1 : World} {b : Nat} {d : Dg} (h : StAt w b d) (k : Keep D w w1) (hd : ¬ D b) : StAt w1 b d := k.get hd h
theorem rest_put (d : Dg) {k : Nat} {l : List UInt8} (h : k + l.length ≤ 64) (hl : (putL d.rest k l).length = 64) : d.cs.take (8 + k) ++ B8 l ++ d.cs.drop (8 + k + l.length) = (⟨d.ws, putL d.rest k l, d.n, d.hw, hl, d.hn⟩ : Dg).cs := by
  unfold Dg.cs putL
  have e1 : (UL d.ws).length = 8 := by rw [UL_len, d.hw]
  have e2 : (B8 d.rest).length = 64 := by simp [d.hr]
  rw [List.append_assoc (UL d.ws), List.take_append, List.drop_append, e1, List.take_of_length_le (by omega), List.drop_eq_nil_of_le (by omega), List.nil_append]
  have a1 : 8 + k - 8 = k := by omega
  have a2 : 8 + k + l.length - 8 = k + l.length := by omega
  rw [a1, a2, List.take_append_of_le_length (by omega), List.drop_append_of_le_length (by omega)]
  unfold B8
  simp [List.map_take, List.map_drop]
theorem wr_len {d : Dg} {b : List UInt8} (h : b ≠ []) : 1 ≤ takeN d b := by
  have := place_lt d
  have : 0 < b.length := List.length_pos_iff.2 h
  unfold takeN
  omega
theorem n_set (d : Dg) {n : Nat} (hn : n < 18446744073709551616) : d.cs.toArray.setIfInBounds 72 (.int .u64 (n : Int)) = (⟨d.ws, d.rest, n, d.hw, d.hr, hn⟩ : Dg).cs.toArray := by
  have e : d.cs.set 72 (.int .u64 (n : Int)) = (⟨d.ws, d.rest, n, d.hw, d.hr, hn⟩ : Dg).cs := by
    unfold Dg.cs
    rw [List.set_append_right _ _ (by simp [UL_len, d.hw, d.hr])]
    simp [UL_len, d.hw, d.hr]
  rw [← e]
  simp
set_option maxHeartbeats 1000000 in
theorem DWrite_spec {b : Nat} {d : Dg} {v : Value} {bs : List UInt8} (h : StAt w b d) (hb : Bts w v bs) (hnb : 0 < bs.length → ∀ k, v.ownBlock = some k → k ≠ b)
    (hK : ∀ w1, StAt w1 b (wrF bs.length d bs) → Keep (· = b) w w1 → K (.tuple #[]) w1) : CALL Tryz.prog 38 #[ptr b, v] w K := by
  apply call_digest_State_Write
  unfold B_digest_State_Write
  (repeat (simp only [SLB, Int.reduceEq, Int.reduceNe, Int.reduceLT, Int.reduceLE, Int.reduceGT, Int.reduceGE]))
  refine loopG 0 (fun ρ wr => ∃ (f : Nat) (d' : Dg) (bs' : List UInt8) (v' : Value), bs'.length ≤ f ∧ wrF f d' bs' = wrF bs.length d bs ∧ Keep (· = b) w wr ∧ StAt wr b d' ∧ Bts w v' bs' ∧ (0 < bs'.length → ∀ k, v'.ownBlock = some k → k ≠ b) ∧ ρ 0 = ptr b ∧ ρ 1 = v')
    (fun ρ wr => lenV (ρ 1))
    (fun ρ wr => Keep (· = b) w wr ∧ StAt wr b (wrF bs.length d bs)) ?_ ?_ ?_
  · exact ⟨bs.length, d, bs, v, Nat.le_refl _, rfl, Keep.refl _ _, h, hb, hnb, rfl, rfl⟩
  · rintro J hJ ρ wr ⟨f, d', bs', v', hf, hwr, hk, hst, hb', hnb', r0, r1⟩
    rw [r0, r1]
    obtain ⟨av, cv, ev⟩ := Bts.slice hb'
    have hlen : bs'.length ≤ 9223372036854775807 := by
      obtain ⟨_, c, _, g1, g2, _⟩ := hb'
      omega
    rw [ev, X_len_28, X_gtr, condS_bool, ← ev]
    by_cases hnil : bs' = []
    · subst hnil
      rw [if_neg (by simp)]
      rw [wrF_nil] at hwr
      rw [hwr] at hst
      exact hJ _ _ ⟨hk, hst⟩
    have hpos : 0 < bs'.length := List.length_pos_iff.2 hnil
    rw [if_pos (by simp; omega)]
    have hk64 := place_lt d'
    have htk : takeN d' bs' = min bs'.length (64 - place d') := rfl
    have hnext : wrF (f - 1) (stepD d' bs') (bs'.drop (takeN d' bs')) = wrF bs.length d bs := by
      obtain ⟨f', rfl⟩ : ∃ f', f = f' + 1 := ⟨f - 1, by omega⟩
      rw [wrF, if_neg hnil] at hwr
      exact hwr
    have h1n := wr_len (d := d') hnil
    refine held_spec hst ?_
    show joinS _ _
    refine joinS_of (fun ρ2 w2 => ρ2 4 = .int .i64 ((place d' : Nat) : Int) ∧ ρ2 0 = ptr b ∧ ρ2 1 = v' ∧ StAt w2 b (ready d') ∧ Keep (· = b) w w2) ?_ ?_
    · rintro ρ2 w2 ⟨q4, q0, q1, hst2, hk2⟩
      rw [q0, q4, q1]
      have hb2 : Bts w2 v' bs' := hb'.keep' hk2 (fun h0 k hk he => hnb' h0 k hk he)
      (repeat (simp only [SLB, Int.reduceEq, Int.reduceNe, Int.reduceLT, Int.reduceLE, Int.reduceGT, Int.reduceGE, X_field_139_1]))
      refine X_of (run_slice_arr_lo Tryz.underlying137 info_5 _ .i64 (place d') (by omega) _) ?_
      rw [if_neg (by omega), sz_5, Nat.mul_one, add_plain, Nat.zero_add]
      refine X_copy_bts Tryz.underlying28 szm_5 hst2 hb2 (by simp [Dg.cs_len]; omega) ?_
      intro w3 hg3 hs3 hk3
      have hl2 : (bs'.take (64 - place d')).length = min bs'.length (64 - place d') := by rw [List.length_take, Nat.min_comm]
      have hpl : (putL (ready d').rest (place d') (bs'.take (64 - place d'))).length = 64 := by
        rw [putL_len]
        · exact (ready d').hr
        · rw [(ready d').hr, hl2]; omega
      have e3 := rest_put (ready d') (k := place d') (l := bs'.take (64 - place d')) (by rw [hl2]; omega) hpl
      rw [hl2] at e3
      have e3' : ((ready d').cs.toArray.toList.take (8 + place d') ++ B8 (bs'.take (64 - place d')) ++ (ready d').cs.toArray.toList.drop (8 + place d' + min bs'.length (64 - place d'))).toArray = (⟨(ready d').ws, putL (ready d').rest (place d') (bs'.take (64 - place d')), (ready d').n, (ready d').hw, hpl, (ready d').hn⟩ : Dg).cs.toArray := by
        rw [← e3]
      rw [e3'] at hg3
      have hnr := (ready d').hn
      (repeat (simp only [SLB, Int.reduceEq, Int.reduceNe, Int.reduceLT, Int.reduceLE, Int.reduceGT, Int.reduceGE, X_field_139_2]))
      refine X_of (run_loadAt (v := .int .u64 ((ready d').n : Int)) agg_37 ((cell_blk hg3).trans (by have := Dg.nAt ⟨(ready d').ws, putL (ready d').rest (place d') (bs'.take (64 - place d')), (ready d').n, (ready d').hw, hpl, (ready d').hn⟩; rw [← List.getElem?_toArray] at this; exact this))) ?_
      rw [X_conv_3_37, wrap_u64, Int.emod_eq_of_lt (by omega) (by omega)]
      have ea : (binOp .add 37 (.int .u64 ((ready d').n : Int)) (.int .u64 ((min bs'.length (64 - place d') : Nat) : Int))).run Tryz.prog w3 = .ok (.int .u64 ((((ready d').n + takeN d' bs') % 18446744073709551616 : Nat) : Int)) w3 := by
        rw [run_add, wrap_u64, htk]
        congr 2
      refine X_of ea ?_
      (repeat (simp only [SLB, Int.reduceEq, Int.reduceNe, Int.reduceLT, Int.reduceLE, Int.reduceGT, Int.reduceGE, X_field_139_2]))
      refine XU_store info_37 sz_37 rfl hg3 (by simp [Dg.cs_len]) (by show ¬ (0 ≤ _ ∧ _ < 0); omega) ?_
      rw [Nat.zero_add, n_set _ (Nat.mod_lt _ (by decide))]
      have hk4 := setAt_keep w3 b (stepD d' bs').cs.toArray 139 (0, 0)
      have hg4 : StAt (setAt w3 b (stepD d' bs').cs.toArray 139 (0, 0)) b (stepD d' bs') := setAt_same (lt_of_blk hg3)
      show X _ _ (setAt w3 b (stepD d' bs').cs.toArray 139 (0, 0)) _
      generalize setAt w3 b (stepD d' bs').cs.toArray 139 (0, 0) = w4 at hk4 hg4 ⊢
      obtain ⟨u, hu, hbu, hub⟩ := cut_lo Tryz.underlying28 info_5 sz_5 hb' (kl := .i64) (li := ((min bs'.length (64 - place d') : Nat) : Int)) (min bs'.length (64 - place d')) rfl (by omega)
      refine X_of (hu _) ?_
      obtain ⟨au, cu, eu⟩ := Bts.slice hbu
      show _ ∧ _
      refine ⟨⟨f - 1, stepD d' bs', bs'.drop (takeN d' bs'), u, by rw [List.length_drop]; omega, hnext, (hk2.trans hk3).trans hk4, hg4, by rw [htk]; exact hbu, fun h0 k hk => hnb' hpos k (by rw [← hub]; exact hk), q0, rfl⟩, ?_⟩
      show lenV u < lenV v'
      rw [eu, ev]
      show (bs'.drop _).length < bs'.length
      rw [List.length_drop]
      omega
    · intro J2 hJ2
      by_cases h64 : heldN d'.n = 64
      · have c : decide (((heldN d'.n : Nat) : Int) = 64) = true := decide_eq_true (by omega)
        have er : ready d' = d'.press false := if_pos h64
        have ep : place d' = 0 := if_pos h64
        show X _ (binOpG .eql 3 _ _ (.int .i64 ((heldN d'.n : Nat) : Int)) (.int .i64 64)) _ _
        (repeat (simp only [SLB, Int.reduceEq, Int.reduceNe, Int.reduceLT, Int.reduceLE, Int.reduceGT, Int.reduceGE, c]))
        refine press_spec hst ?_
        intro w2 hst2 hk2
        refine hJ2 _ _ ⟨by rw [ep]; rfl, r0, ?_, by rw [er]; exact hst2, hk.trans hk2⟩
        exact r1.trans rfl
      · have c : decide (((heldN d'.n : Nat) : Int) = 64) = false := decide_eq_false (by omega)
        have er : ready d' = d' := if_neg h64
        have ep : place d' = heldN d'.n := if_neg h64
        show X _ (binOpG .eql 3 _ _ (.int .i64 ((heldN d'.n : Nat) : Int)) (.int .i64 64)) _ _
        (repeat (simp only [SLB, Int.reduceEq, Int.reduceNe, Int.reduceLT, Int.reduceLE, Int.reduceGT, Int.reduceGE, c]))
        refine hJ2 _ _ ⟨by rw [ep]; rfl, r0, r1, by rw [er]; exact hst, hk⟩
  · rintro ρ wr ⟨hk, hst⟩
    exact hK wr hst hk
end
end Go.Proofs.YtcigpjejbkngfaaGreatDoor
end
section
set_option maxRecDepth 8000
namespace Go.Proofs.YtcigpjejbkngfaaGreatDoor
open Go Go.Sh Go.RowKit
attribute [local irreducible] X XU XP XR CALL loopS resC closS quart st1 st2 itF rndW rndsW mUpto mStep finU setX pressW nextW startX firstW UL wrF stepD
theorem clear_none (t e : TypeId) (ty : TypeId) (ht : Tryz.prog.underlying t = some (.slice e)) (hi : infoB Tryz.prog e = true) {z : Value} (hz : zeroT Tryz.prog e = some z) (a : Addr) (c : Nat) (w : World) : (Builtin.clear_ #[t] ty #[.slice (some a) 0 c]).run Tryz.prog w = .ok (.tuple #[]) w := by
  simp [Builtin.clear_, run_underlying ht, zeroValue_run hz, Builtin.zeroCells, storeCells]
section
variable {w : World} {K : Value → World → Prop}
theorem rest_clear (d : Dg) : d.cs.take (8 + heldN d.n) ++ B8 (List.replicate (64 - heldN d.n) 0) ++ d.cs.drop (8 + heldN d.n + (64 - heldN d.n)) = (clearD d).cs := by
  have hle := heldN_le d.n
  have := rest_put d (k := heldN d.n) (l := List.replicate (64 - heldN d.n) 0) (by rw [List.length_replicate]; omega) (clearD d).hr
  rw [List.length_replicate] at this
  exact this
set_option maxHeartbeats 1000000 in
theorem DSum_spec {b : Nat} {d : Dg} (h : StAt w b d) (hK : ∀ w1, Ext w w1 → K (.agg (B8 (sumD d)).toArray) w1) : CALL Tryz.prog 39 #[ptr b] w K := by
  apply call_digest_State_Sum
  unfold B_digest_State_Sum
  refine X_alloc zero_30 ?_
  have hx1 := newB_ext w (Value.agg (List.replicate 32 (Value.int .u8 0)).toArray).cells 30
  have hg1 : (newB w (Value.agg (List.replicate 32 (Value.int .u8 0)).toArray).cells 30).heap[w.heap.size]? = some (.cells (List.replicate 32 (Value.int .u8 0)).toArray 30 (0, 0)) := newB_get _ _ _
  generalize hw1 : newB w (Value.agg (List.replicate 32 (Value.int .u8 0)).toArray).cells 30 = w1 at hx1 hg1 ⊢
  have hs1 : w1.heap.size = w.heap.size + 1 := by rw [← hw1]; exact newB_size _ _ _
  have h1 : StAt w1 b d := Ext.get hx1 h
  have hbl := lt_of_blk h
  (repeat (simp only [SLB, Int.reduceEq, Int.reduceNe, Int.reduceLT, Int.reduceLE, Int.reduceGT, Int.reduceGE]))
  refine X_of (load_cells Tryz.underlying139 agg_139 info_139 (l := d.cs) (by rw [sz_139, Dg.cs_len]) (fun j u hj => by
    rw [add_plain, Nat.zero_add, cell_blk h1]
    rw [← List.getElem?_toArray] at hj
    exact hj)) ?_
  refine X_alloc zero_139 ?_
  have hx2 := newB_ext w1 ([Value.int .u32 0, Value.int .u32 0, Value.int .u32 0, Value.int .u32 0, Value.int .u32 0, Value.int .u32 0, Value.int .u32 0, Value.int .u32 0] ++ List.replicate 64 (Value.int .u8 0) ++ [Value.int .u64 0]).toArray 139
  have hg2 := newB_get w1 ([Value.int .u32 0, Value.int .u32 0, Value.int .u32 0, Value.int .u32 0, Value.int .u32 0, Value.int .u32 0, Value.int .u32 0, Value.int .u32 0] ++ List.replicate 64 (Value.int .u8 0) ++ [Value.int .u64 0]).toArray 139
  show XU _ _ (newB w1 ([Value.int .u32 0, Value.int .u32 0, Value.int .u32 0, Value.int .u32 0, Value.int .u32 0, Value.int .u32 0, Value.int .u32 0, Value.int .u32 0] ++ List.replicate 64 (Value.int .u8 0) ++ [Value.int .u64 0]).toArray 139) _
  generalize hw2 : newB w1 ([Value.int .u32 0, Value.int .u32 0, Value.int .u32 0, Value.int .u32 0, Value.int .u32 0, Value.int .u32 0, Value.int .u32 0, Value.int .u32 0] ++ List.replicate 64 (Value.int .u8 0) ++ [Value.int .u64 0]).toArray 139 = w2 at hx2 hg2 ⊢
  have hs2 : w2.heap.size = w1.heap.size + 1 := by rw [← hw2]; exact newB_size _ _ _
  refine XU_storeAgg (l := d.cs) info_139 hg2 (by rw [sz_139]; simp) (by rw [sz_139, Dg.cs_len]) d.cs_one ?_
  have hk3 := setAt_keep w2 w1.heap.size d.cs.toArray 139 (0, 0)
  have hg3 : StAt (setAt w2 w1.heap.size d.cs.toArray 139 (0, 0)) w1.heap.size d := setAt_same (lt_of_blk hg2)
  generalize hw3 : setAt w2 w1.heap.size d.cs.toArray 139 (0, 0) = w3 at hk3 hg3 ⊢
  have hs3 : w3.heap.size = w2.heap.size := by rw [← hw3]; exact setAt_size
  have hx3 : Ext w w3 := Ext.seq (hx1.trans hx2) hk3 (fun g hg => by omega)
  generalize hb2 : w1.heap.size = b2 at hg3 hs2 hk3 ⊢
  have hb1ne : w.heap.size ≠ b2 := by omega
  have hg13 : w3.heap[w.heap.size]? = some (.cells (List.replicate 32 (Value.int .u8 0)).toArray 30 (0, 0)) := hk3.get hb1ne (Ext.get hx2 hg1)
  generalize hb1 : w.heap.size = b1 at hg13 hb1ne hbl
  (repeat (simp only [SLB, Int.reduceEq, Int.reduceNe, Int.reduceLT, Int.reduceLE, Int.reduceGT, Int.reduceGE, X_field_139_1]))
  refine held_spec hg3 ?_
  have hle := heldN_le d.n
  have hclr : ∀ (K' : Value → World → Prop), (∀ w4, StAt w4 b2 (clearD d) → Keep (· = b2) w3 w4 → K' (.tuple #[]) w4) →
      X Tryz.prog (Builtin.clear_ #[28] 0 #[.slice (some (if 64 = heldN d.n then (⟨b2, 8, none⟩ : Addr) else (⟨b2, 8, none⟩ : Addr).add (heldN d.n * szT Tryz.prog 5))) (64 - heldN d.n) (64 - heldN d.n)]) w3 K' := by
    intro K' hK'
    by_cases h64 : heldN d.n = 64
    · rw [if_pos h64.symm, h64]
      refine X_of (clear_none 28 5 0 Tryz.underlying28 info_5 zero_5 _ _ _) ?_
      refine hK' w3 ?_ (Keep.refl _ _)
      have e : (clearD d).cs = d.cs := by
        have := rest_clear d
        rw [h64] at this
        have e0 : B8 (List.replicate (64 - 64) 0) = [] := rfl
        rw [e0, List.append_nil] at this
        rw [← this]
        exact (List.take_append_drop _ _)
      unfold StAt at hg3 ⊢
      rw [e]
      exact hg3
    · rw [if_neg (fun h => h64 h.symm), sz_5, Nat.mul_one, add_plain]
      refine X_of (Go.Lib.run_clear_slice w3 28 5 0 (.int .u8 0) Tryz.underlying28 (fun w => zeroValue_run zero_5 w) rfl rfl b2 (8 + heldN d.n) (64 - heldN d.n) (64 - heldN d.n) (by omega)
        (fun j hj => by rw [cell_blk hg3, Array.getElem?_eq_getElem (by simp [Dg.cs_len]; omega)]; rfl) (fun j hj => frozen_no hg3)) ?_
      rw [setCells_eq _ hg3 (by simp [Dg.cs_len]; omega)]
      have e := rest_clear d
      have e2 : (List.replicate (64 - heldN d.n) (Value.int .u8 0)) = B8 (List.replicate (64 - heldN d.n) 0) := by unfold B8; rw [List.map_replicate]; rfl
      rw [List.length_replicate, e2]
      show K' _ (setAt w3 b2 (d.cs.take (8 + heldN d.n) ++ B8 (List.replicate (64 - heldN d.n) 0) ++ d.cs.drop (8 + heldN d.n + (64 - heldN d.n))).toArray 139 (0, 0))
      rw [e]
      exact hK' _ (setAt_same (lt_of_blk hg3)) (setAt_keep _ _ _ _ _)
  refine X_of (run_slice_arr_lo Tryz.underlying137 info_5 _ .i64 (heldN d.n) hle _) ?_
  refine hclr _ ?_
  intro w4 hg4 hk4
  refine press_spec hg4 ?_
  intro w5 hg5 hk5
  have hx5 : Ext w w5 := Ext.seq (Ext.seq hx3 hk4 (fun g hg => by omega)) hk5 (fun g hg => by omega)
  have hg15 := hk5.get hb1ne (hk4.get hb1ne hg13)
  refine X_alloc zero_30 ?_
  have hx6 := newB_ext w5 (Value.agg (List.replicate 32 (Value.int .u8 0)).toArray).cells 30
  have hg6 : (newB w5 (Value.agg (List.replicate 32 (Value.int .u8 0)).toArray).cells 30).heap[w5.heap.size]? = some (.cells (List.replicate 32 (Value.int .u8 0)).toArray 30 (0, 0)) := newB_get _ _ _
  generalize newB w5 (Value.agg (List.replicate 32 (Value.int .u8 0)).toArray).cells 30 = w6 at hx6 hg6 ⊢
  have hg56 := Ext.get hx6 hg5
  have hg16 := Ext.get hx6 hg15
  have hlt2 : b2 < w5.heap.size := lt_of_blk hg5
  have hlt1 : b1 < w5.heap.size := lt_of_blk hg15
  have hx06 := hx5.trans hx6
  have hxs := hx5.size
  generalize w5.heap.size = bo at hg6 hlt2 hlt1 hxs ⊢
  have hB0 : (List.replicate 32 (Value.int .u8 0)) = B8 (List.replicate 32 0) := by unfold B8; rw [List.map_replicate]; rfl
  have hl8 : ∀ i, i < 32 → ((List.range 32).map (outB (pressW (clearD d) true)))[i]? = some (outB (pressW (clearD d) true) i) := fun i hi => by rw [List.getElem?_map, List.getElem?_range hi]; rfl
  have hws8 := pressW_len (clearD d) true
  have hsd : sumD d = (List.range 32).map (outB (pressW (clearD d) true)) := by rw [sumD]
  have hg5' : w6.heap[b2]? = some (.cells ((clearD d).press true).cs.toArray 139 (0, 0)) := hg56
  have hat : ∀ {i : Nat}, i < 8 → ((clearD d).press true).cs.toArray[i]? = some (U32 ((pressW (clearD d) true).getD i 0)) := fun {i} hi => by
    have := Dg.wsAt ((clearD d).press true) hi
    rw [← List.getElem?_toArray] at this
    exact this
  generalize ((clearD d).press true).cs.toArray = pcs at hg5' hat
  generalize pressW (clearD d) true = ws at hl8 hws8 hsd hat
  refine loopG 0 (fun ρ wr => ∃ i : Nat, i ≤ 32 ∧ Keep (· = bo) w6 wr ∧ wr.heap[bo]? = some (.cells (B8 (((List.range 32).map (outB ws)).take i ++ List.replicate (32 - i) 0)).toArray 30 (0, 0)) ∧ ρ 17 = .int .i64 (i : Int) ∧ ρ 3 = ptr b2 ∧ ρ 4 = ptr bo ∧ ρ 2 = ptr b1)
    (fun ρ wr => match ρ 17 with | .int _ s => (32 - s).toNat | _ => 0)
    (fun ρ wr => Keep (· = bo) w6 wr ∧ wr.heap[bo]? = some (.cells (B8 (sumD d)).toArray 30 (0, 0)) ∧ ρ 4 = ptr bo ∧ ρ 2 = ptr b1) ?_ ?_ ?_
  · refine ⟨0, by omega, Keep.refl _ _, ?_, rfl, rfl, rfl, rfl⟩
    rw [List.take_zero, List.nil_append, ← hB0]
    exact hg6
  · rintro J hJ ρ wr ⟨i, hi, hk, hg, r17, r3, r4, r2⟩
    rw [r17, r3, r4, X_lss, condS_bool]
    by_cases hie : i = 32
    · subst hie
      rw [if_neg (by simp)]
      refine hJ _ _ ⟨hk, ?_, r4, r2⟩
      rw [hsd]
      rw [List.take_of_length_le (by simp), show List.replicate (32 - 32) (0 : UInt8) = [] from rfl, List.append_nil] at hg
      exact hg
    rw [if_pos (by simp; omega)]
    have hi32 : i < 32 := by omega
    have hi4 : i / 4 < 8 := by omega
    have hbne : b2 ≠ bo := by omega
    refine X_of (shr_2 3 i _) ?_
    (repeat (simp only [SLB, Int.reduceEq, Int.reduceNe, Int.reduceLT, Int.reduceLE, Int.reduceGT, Int.reduceGE, X_field_139_0]))
    refine X_of (ix135 b2 0 (i / 4) .i64 hi4 _) ?_
    refine X_of (run_loadAt (v := U32 (ws.getD (i / 4) 0)) agg_31 (by rw [Nat.zero_add]; exact (cell_blk (hk.get hbne hg5')).trans (hat hi4))) ?_
    refine X_of (and_3 3 i (by omega) _) ?_
    refine X_of (mulN 3 (a := 8) (b := i % 4) (by omega) _) ?_
    refine X_of (u32_shr 31 .i64 _ (8 * (i % 4)) (by omega) _) ?_
    have ec : ∀ c : W32, Value.int .u8 (IntKind.u8.wrap ((c.toNat : Nat) : Int)) = .int .u8 (((UInt8.ofNat c.toNat).toNat : Nat) : Int) := fun c => by
      rw [wrap_u8]
      congr 1
    unfold U32
    rw [X_conv_31_5, ec]
    refine X_of (ix_arr Tryz.underlying30 info_5 (k := .i64) i rfl hi32 _) ?_
    rw [sz_5, Nat.mul_one, add_plain, Nat.zero_add]
    refine XU_store info_5 sz_5 rfl hg (by simp; omega) (by show ¬ (0 ≤ _ ∧ _ < 0); omega) ?_
    have eset : (B8 (((List.range 32).map (outB ws)).take i ++ List.replicate (32 - i) 0)).toArray.setIfInBounds i (.int .u8 (((UInt8.ofNat (ws.getD (i / 4) 0 >>> (8 * (i % 4))).toNat).toNat : Nat) : Int)) = (B8 (((List.range 32).map (outB ws)).take (i + 1) ++ List.replicate (32 - (i + 1)) 0)).toArray := by
      have e1 : ((List.range 32).map (outB ws)).take (i + 1) = ((List.range 32).map (outB ws)).take i ++ [outB ws i] := by
        have h := hl8 i hi32
        have hlt : i < ((List.range 32).map (outB ws)).length := by simp; omega
        rw [List.take_succ_eq_append_getElem hlt]
        rw [List.getElem?_eq_getElem hlt] at h
        rw [Option.some.inj h]
      have e2 : List.replicate (32 - i) (0 : UInt8) = 0 :: List.replicate (32 - (i + 1)) 0 := by
        rw [show 32 - i = (32 - (i + 1)) + 1 by omega, List.replicate_succ]
      have hli : (((List.range 32).map (outB ws)).take i).length = i := by simp; omega
      have e3 : (B8 (((List.range 32).map (outB ws)).take i ++ List.replicate (32 - i) 0)).set i (.int .u8 (((outB ws i).toNat : Nat) : Int)) = B8 (((List.range 32).map (outB ws)).take (i + 1) ++ List.replicate (32 - (i + 1)) 0) := by
        rw [e1, e2]
        unfold B8
        rw [List.map_append, List.set_append_right _ _ (by rw [List.length_map, hli]; exact Nat.le_refl _), List.length_map, hli, Nat.sub_self]
        simp
      rw [← e3]
      simp [outB]
    rw [eset, X_add]
    show _ ∧ _
    refine ⟨⟨i + 1, by omega, hk.trans (setAt_keep _ _ _ _ _), setAt_same (lt_of_blk hg), next64 (n := 1000) (by decide) (by omega), r3, r4, r2⟩, ?_⟩
    show (_ - IntKind.i64.wrap _).toNat < _
    rw [w64 (by omega) (by omega)]
    first | omega | (show _ < (_ : Int).toNat; omega)
  · rintro ρ wr ⟨hk, hg, r4, r2⟩
    simp only [inBlockS_same, thenS_normal]
    rw [r4, r2]
    have hl32 := sumD_len d
    refine X_of (load_cells Tryz.underlying30 agg_30 info_30 (l := B8 (sumD d)) (by rw [sz_30]; simp [hl32]) (fun j u hj => by
      rw [add_plain, Nat.zero_add, cell_blk hg]
      rw [← List.getElem?_toArray] at hj
      exact hj)) ?_
    have hg1r := hk.get (show ¬ b1 = bo by omega) hg16
    refine XU_storeAgg (l := B8 (sumD d)) info_30 hg1r (by rw [sz_30]; simp) (by rw [sz_30]; simp [hl32]) B8_one ?_
    refine resC_agg Tryz.underlying30 agg_30 info_30 (setAt_same (lt_of_blk hg1r)) (by rw [sz_30]; simp [hl32]) ?_
    exact hK _ (Ext.seq (Ext.seq hx06 hk (fun g hg => by omega)) (setAt_keep _ _ _ _ _) (fun g hg => by omega))
theorem Dig_spec {q : Nat} {v : Value} {bs : List UInt8} (hq : w.heap[q]? = some (.cells #[v] 28 (0, 0))) (hb : Bts w v bs) (hK : ∀ w1, Ext w w1 → K (.agg (B8 (digL bs)).toArray) w1) : CALL Tryz.prog 18 #[.slice (some ⟨q, 0, none⟩) 1 1] w K := by
  apply call_digest_Sum
  unfold B_digest_Sum
  refine X_alloc zero_30 ?_
  have hx1 := newB_ext w (Value.agg (List.replicate 32 (Value.int .u8 0)).toArray).cells 30
  have hg1 : (newB w (Value.agg (List.replicate 32 (Value.int .u8 0)).toArray).cells 30).heap[w.heap.size]? = some (.cells (List.replicate 32 (Value.int .u8 0)).toArray 30 (0, 0)) := newB_get _ _ _
  generalize newB w (Value.agg (List.replicate 32 (Value.int .u8 0)).toArray).cells 30 = w1 at hx1 hg1 ⊢
  have hs1 := hx1.size
  refine DNew_spec ?_
  intro b w2 hx2 hb2 hst
  have hx02 := hx1.trans hx2
  have hg12 := Ext.get hx2 hg1
  have hlt1 := lt_of_blk hg1
  generalize hb1 : w.heap.size = b1 at hg12 hlt1
  rw [X_len_22]
  refine loopG 0 (fun ρ wr => ∃ i : Nat, i ≤ 1 ∧ Keep (· = b) w2 wr ∧ (i = 0 → StAt wr b newD) ∧ (i = 1 → StAt wr b (wrF bs.length newD bs)) ∧ ρ 9 = .int .i64 (i : Int) ∧ ρ 8 = .int .i64 1 ∧ ρ 7 = .slice (some ⟨q, 0, none⟩) 1 1 ∧ ρ 3 = ptr b ∧ ρ 2 = ptr b1)
    (fun ρ wr => match ρ 9 with | .int _ s => (1 - s).toNat | _ => 0)
    (fun ρ wr => Keep (· = b) w2 wr ∧ StAt wr b (wrF bs.length newD bs) ∧ ρ 3 = ptr b ∧ ρ 2 = ptr b1) ?_ ?_ ?_
  · exact ⟨0, by omega, Keep.refl _ _, fun _ => hst, fun h => by omega, rfl, rfl, rfl, rfl, rfl⟩
  · rintro J hJ ρ wr ⟨i, hi, hk, h0, h1, r9, r8, r7, r3, r2⟩
    rw [r9, r8, r7, r3, X_lss, condS_bool]
    by_cases hie : i = 1
    · subst hie
      rw [if_neg (by simp)]
      exact hJ _ _ ⟨hk, h1 rfl, r3, r2⟩
    have hi0 : i = 0 := by omega
    subst hi0
    rw [if_pos (by simp)]
    have hblt : q < w.heap.size := lt_of_blk hq
    refine X_of (ix Tryz.underlying22 info_28 0 rfl (by omega) _) ?_
    rw [Nat.zero_mul]
    have hqr : wr.heap[q]? = some (.cells #[v] 28 (0, 0)) := hk.get (by omega) (Ext.get hx02 hq)
    refine X_of (run_loadAt (v := v) agg_28 ((cell_blk hqr).trans rfl)) ?_
    refine DWrite_spec (h0 rfl) ((Bts.ext hb hx02).keep' hk (fun hp k hkb he => ?_)) (fun hp k hkb => ?_) ?_
    · have := Bts.blk_lt hb hp k hkb; omega
    · have := Bts.blk_lt hb hp k hkb; omega
    intro w3 hst3 hk3
    rw [X_add]
    show _ ∧ _
    refine ⟨⟨1, by omega, hk.trans hk3, fun h => by omega, fun _ => hst3, rfl, r8, r7, r3, r2⟩, ?_⟩
    show (_ - IntKind.i64.wrap _).toNat < _
    rw [w64 (by omega) (by omega)]
    first | omega | (show _ < (_ : Int).toNat; omega)
  · rintro ρ wr ⟨hk, hst, r3, r2⟩
    simp only [inBlockS_same, thenS_normal]
    rw [r3, r2]
    refine DSum_spec hst ?_
    intro w3 hx3
    have hl32 := digL_len bs
    have hg1r := Ext.get hx3 (hk.get (show ¬ b1 = b by omega) hg12)
    refine XU_storeAgg (l := B8 (digL bs)) info_30 hg1r (by rw [sz_30]; simp) (by rw [sz_30]; simp [hl32]) B8_one ?_
    refine resC_agg Tryz.underlying30 agg_30 info_30 (setAt_same (lt_of_blk hg1r)) (by rw [sz_30]; simp [hl32]) ?_
    exact hK _ (Ext.seq ((Ext.seq hx02 hk (fun g hg => by omega)).trans hx3) (setAt_keep _ _ _ _ _) (fun g hg => by omega))
end
end Go.Proofs.YtcigpjejbkngfaaGreatDoor
end
section
namespace Go.Proofs.YtcigpjejbkngfaaGreatDoor
open Go Go.Sh
attribute [local irreducible] X XU XP XR CALL loopS resC closS
def B_bloom_New (x0 x1 : Value) (w : World) (K : Value → World → Prop) : Prop :=
  X Tryz.prog (binOp .lss 3 x0 (.int .i64 0)) w fun v1 w1 =>
  gstep v1 false (fun w2 K => K x0 w2) w1 fun v2 w3 =>
  gstep v1 false (fun w4 K => X Tryz.prog (binOp .gtr 3 v2 (.int .i64 1048576)) w4 K) w3 fun v3 w5 =>
  X Tryz.prog (pickS v1 (.bool true) v3) w5 fun v4 w6 =>
  gstep v4 false (fun w7 K => K x1 w7) w6 fun v5 w8 =>
  gstep v4 false (fun w9 K => X Tryz.prog (binOp .lss 3 v5 (.int .i64 0)) w9 K) w8 fun v6 w10 =>
  X Tryz.prog (pickS v4 (.bool true) v6) w10 fun v7 w11 =>
  gstep v7 false (fun w12 K => K x1 w12) w11 fun v8 w13 =>
  gstep v7 false (fun w14 K => X Tryz.prog (binOp .gtr 3 v8 (.int .i64 30)) w14 K) w13 fun v9 w15 =>
  X Tryz.prog (pickS v7 (.bool true) v9) w15 fun v10 w16 =>
  condS v10 (
  K (.tuple #[(.pointer none), (.int .i64 1)]) w16) (
  X Tryz.prog (binOp .add 3 x0 (.int .i64 7)) w16 fun v11 w17 =>
  X Tryz.prog (binOp .shr 3 v11 (.int .u64 3)) w17 fun v12 w18 =>
  X Tryz.prog (Instr.makeSlice 28 v12 v12) w18 fun v13 w19 =>
  X Tryz.prog (Instr.build 172 #[(0, v13), (1, x0), (2, x1)]) w19 fun v14 w20 =>
  X Tryz.prog (Instr.box 172 v14) w20 fun v15 w21 =>
  K (.tuple #[v15, (.int .i64 0)]) w21)
theorem eq_bloom_New (x0 x1 : Value) (w : World) (K : Value → World → Prop) :
    sh Tryz.prog (Tryz.f57.body.getD .skip) (retS Tryz.prog Tryz.f57.results K) (env0 #[x0, x1]) w = B_bloom_New x0 x1 w K := by kernel_rfl
theorem call_bloom_New (x0 x1 : Value) (w : World) (K : Value → World → Prop) (h : B_bloom_New x0 x1 w K) : CALL Tryz.prog 57 #[x0, x1] w K :=
  call_of_eq (c := Tryz.f57.body.getD .skip) mixed Tryz.func57 (by kernel_rfl) (by kernel_rfl) (by kernel_rfl) (Nat.le_of_ble_eq_true (by kernel_rfl)) (eq_bloom_New x0 x1 w K) h
def B_bloom_Vector_May (x0 x1 : Value) (w : World) (K : Value → World → Prop) : Prop :=
  X Tryz.prog (Instr.box 33 x1) w fun v1 w1 =>
  X Tryz.prog (Instr.makeFunc (.func 87) #[x0] #[]) w1 fun v2 w2 =>
  X Tryz.prog (Instr.loadAt 33 v1) w2 fun v3 w3 =>
  CALL Tryz.prog 88 #[x0, v3, v2] w3 fun v4 w4 =>
  K v4 w4
theorem eq_bloom_Vector_May (x0 x1 : Value) (w : World) (K : Value → World → Prop) :
    sh Tryz.prog (Tryz.f63.body.getD .skip) (retS Tryz.prog Tryz.f63.results K) (env0 #[x0, x1]) w = B_bloom_Vector_May x0 x1 w K := by kernel_rfl
theorem call_bloom_Vector_May (x0 x1 : Value) (w : World) (K : Value → World → Prop) (h : B_bloom_Vector_May x0 x1 w K) : CALL Tryz.prog 63 #[x0, x1] w K :=
  call_of_eq (c := Tryz.f63.body.getD .skip) mixed Tryz.func63 (by kernel_rfl) (by kernel_rfl) (by kernel_rfl) (Nat.le_of_ble_eq_true (by kernel_rfl)) (eq_bloom_Vector_May x0 x1 w K) h
def B_bloom_Vector_Add (x0 x1 : Value) (w : World) (K : Value → World → Prop) : Prop :=
  X Tryz.prog (Instr.box 33 x1) w fun v1 w1 =>
  X Tryz.prog (Instr.makeFunc (.func 100) #[x0] #[]) w1 fun v2 w2 =>
  X Tryz.prog (Instr.loadAt 33 v1) w2 fun v3 w3 =>
  CALL Tryz.prog 88 #[x0, v3, v2] w3 fun v4 w4 =>
  K (.tuple #[]) w4
theorem eq_bloom_Vector_Add (x0 x1 : Value) (w : World) (K : Value → World → Prop) :
    sh Tryz.prog (Tryz.f75.body.getD .skip) (retS Tryz.prog Tryz.f75.results K) (env0 #[x0, x1]) w = B_bloom_Vector_Add x0 x1 w K := by kernel_rfl
theorem call_bloom_Vector_Add (x0 x1 : Value) (w : World) (K : Value → World → Prop) (h : B_bloom_Vector_Add x0 x1 w K) : CALL Tryz.prog 75 #[x0, x1] w K :=
  call_of_eq (c := Tryz.f75.body.getD .skip) mixed Tryz.func75 (by kernel_rfl) (by kernel_rfl) (by kernel_rfl) (Nat.le_of_ble_eq_true (by kernel_rfl)) (eq_bloom_Vector_Add x0 x1 w K) h
def B_bloom_Vector_is (x0 x1 : Value) (w : World) (K : Value → World → Prop) : Prop :=
  X Tryz.prog (nilS x0) w fun v1 w1 =>
  X Tryz.prog (Instr.fieldAt 172 v1 0) w1 fun v2 w2 =>
  X Tryz.prog (Instr.loadAt 28 v2) w2 fun v3 w3 =>
  X Tryz.prog (binOp .shr 31 x1 (.int .u64 3)) w3 fun v4 w4 =>
  X Tryz.prog (Instr.indexAt 28 v3 v4) w4 fun v5 w5 =>
  X Tryz.prog (Instr.loadAt 5 v5) w5 fun v6 w6 =>
  X Tryz.prog (binOp .and 31 x1 (.int .u32 7)) w6 fun v7 w7 =>
  X Tryz.prog (binOp .shr 5 v6 v7) w7 fun v8 w8 =>
  X Tryz.prog (binOp .and 5 v8 (.int .u8 1)) w8 fun v9 w9 =>
  X Tryz.prog (binOpG .eql 5 (.tmp 16) (.const (.int .u8 1)) v9 (.int .u8 1)) w9 fun v10 w10 =>
  K v10 w10
theorem eq_bloom_Vector_is (x0 x1 : Value) (w : World) (K : Value → World → Prop) :
    sh Tryz.prog (Tryz.f87.body.getD .skip) (retS Tryz.prog Tryz.f87.results K) (env0 #[x0, x1]) w = B_bloom_Vector_is x0 x1 w K := by kernel_rfl
theorem call_bloom_Vector_is (x0 x1 : Value) (w : World) (K : Value → World → Prop) (h : B_bloom_Vector_is x0 x1 w K) : CALL Tryz.prog 87 #[x0, x1] w K :=
  call_of_eq (c := Tryz.f87.body.getD .skip) mixed Tryz.func87 (by kernel_rfl) (by kernel_rfl) (by kernel_rfl) (Nat.le_of_ble_eq_true (by kernel_rfl)) (eq_bloom_Vector_is x0 x1 w K) h
def B_bloom_Vector_each (x0 x1 x2 : Value) (w : World) (K : Value → World → Prop) : Prop :=
  X Tryz.prog (Instr.box 33 x1) w fun v1 w1 =>
  X Tryz.prog (binOpG .eql 127 (.tmp 9) (.const (.pointer none)) x0 (.pointer none)) w1 fun v2 w2 =>
  gstep v2 false (fun w3 K => K x0 w3) w2 fun v3 w4 =>
  gstep v2 false (fun w5 K => X Tryz.prog (nilS v3) w5 K) w4 fun v4 w6 =>
  gstep v2 false (fun w7 K => X Tryz.prog (Instr.fieldAt 172 v4 1) w7 K) w6 fun v5 w8 =>
  gstep v2 false (fun w9 K => X Tryz.prog (Instr.loadAt 3 v5) w9 K) w8 fun v6 w10 =>
  gstep v2 false (fun w11 K => X Tryz.prog (binOpG .eql 3 (.tmp 15) (.const (.int .i64 0)) v6 (.int .i64 0)) w11 K) w10 fun v7 w12 =>
  X Tryz.prog (pickS v2 (.bool true) v7) w12 fun v8 w13 =>
  condS v8 (
  K (.bool true) w13) (
  ∃ R, Frame? R ∧
  XP Tryz.prog (Instr.fieldAt 33 v1 0) (drewW w13) fun v9 w14 =>
  XP Tryz.prog (Instr.sliceAt 30 v9 none (some (.int .i64 4)) none) w14 fun v10 w15 =>
  XP Tryz.prog (Instr.fieldAt 33 v1 1) w15 fun v11 w16 =>
  XR Tryz.prog R (Instr.loadAt 31 v11) w16 fun v12 w17 =>
  XP Tryz.prog (Instr.fieldAt 33 v1 0) w17 fun v13 w18 =>
  XP Tryz.prog (Instr.sliceAt 30 v13 (some (.int .i64 4)) (some (.int .i64 8)) none) w18 fun v14 w19 =>
  CALL Tryz.prog 109 #[v10] w19 fun v15 w20 =>
  R w19 w20 ∧
  XP Tryz.prog (binOp .add 31 v15 v12) w20 fun v16 w21 =>
  CALL Tryz.prog 109 #[v14] w21 fun v17 w22 =>
  R w21 w22 ∧
  XP Tryz.prog (binOp .or 31 v17 (.int .u32 1)) w22 fun v18 w23 =>
  X Tryz.prog (nilS x0) w23 fun v19 w24 =>
  X Tryz.prog (Instr.fieldAt 172 v19 2) w24 fun v20 w25 =>
  X Tryz.prog (Instr.loadAt 3 v20) w25 fun v21 w26 =>
  loopS (fun Q1 ρ1 w27 =>
  X Tryz.prog (binOp .lss 3 (ρ1 32) (ρ1 31)) w27 fun v22 w28 =>
  condS v22 (
  X Tryz.prog (nilS (ρ1 0)) w28 fun v23 w29 =>
  X Tryz.prog (Instr.fieldAt 172 v23 1) w29 fun v24 w30 =>
  X Tryz.prog (Instr.loadAt 3 v24) w30 fun v25 w31 =>
  X Tryz.prog (convert 3 31 v25) w31 fun v26 w32 =>
  X Tryz.prog (binOp .rem 31 (ρ1 7) v26) w32 fun v27 w33 =>
  closS Tryz.prog (ρ1 2) #[v27] w33 fun v28 w34 =>
  X Tryz.prog (Op.unary .not v28) w34 fun v29 w35 =>
  condS v29 (
  Q1 .ret (upds ρ1 [(6, (.bool false)), (43, v29), (42, v28), (41, v27), (40, v26), (39, v25), (38, v24), (37, v23), (36, (ρ1 0)), (35, (ρ1 7)), (34, (ρ1 2)), (33, v22)]) w35) (
  X Tryz.prog (binOp .add 31 (ρ1 7) (ρ1 8)) w35 fun v30 w36 =>
  X Tryz.prog (binOp .add 3 (ρ1 32) (.int .i64 1)) w36 fun v31 w37 =>
  Q1 .normal (upds ρ1 [(32, v31), (47, v31), (7, v30), (46, v30), (45, (ρ1 8)), (44, (ρ1 7)), (43, v29), (42, v28), (41, v27), (40, v26), (39, v25), (38, v24), (37, v23), (36, (ρ1 0)), (35, (ρ1 7)), (34, (ρ1 2)), (33, v22)]) w37)) (
  Q1 (.exit 0) (upds ρ1 [(33, v22)]) w28)) (inBlockS 0 (thenS (fun ρ2 w38 =>
  K (.bool true) w38) (retS Tryz.prog (Tryz.f88).results K))) (upds (env0 #[x0, x1, x2]) [(32, (.int .i64 0)), (31, v21), (30, v20), (29, v19), (28, x0), (8, v18), (7, v16), (27, v18), (26, v17), (23, v16), (20, v15), (25, v14), (24, v13), (22, v12), (21, v11), (19, v10), (18, v9), (17, v8), (16, v7), (15, v6), (14, v5), (13, v4), (12, v3), (11, v2), (10, v2), (9, x0), (6, (.bool false)), (4, v1)]) w26)
theorem eq_bloom_Vector_each (x0 x1 x2 : Value) (w : World) (K : Value → World → Prop) :
    sh Tryz.prog (Tryz.f88.body.getD .skip) (retS Tryz.prog Tryz.f88.results K) (env0 #[x0, x1, x2]) w = B_bloom_Vector_each x0 x1 x2 w K := by kernel_rfl
theorem call_bloom_Vector_each (x0 x1 x2 : Value) (w : World) (K : Value → World → Prop) (h : B_bloom_Vector_each x0 x1 x2 w K) : CALL Tryz.prog 88 #[x0, x1, x2] w K :=
  call_of_eq (c := Tryz.f88.body.getD .skip) mixed Tryz.func88 (by kernel_rfl) (by kernel_rfl) (by kernel_rfl) (Nat.le_of_ble_eq_true (by kernel_rfl)) (eq_bloom_Vector_each x0 x1 x2 w K) h
def B_bloom_Vector_set (x0 x1 : Value) (w : World) (K : Value → World → Prop) : Prop :=
  X Tryz.prog (nilS x0) w fun v1 w1 =>
  X Tryz.prog (Instr.fieldAt 172 v1 0) w1 fun v2 w2 =>
  X Tryz.prog (Instr.loadAt 28 v2) w2 fun v3 w3 =>
  X Tryz.prog (binOp .shr 31 x1 (.int .u64 3)) w3 fun v4 w4 =>
  X Tryz.prog (Instr.indexAt 28 v3 v4) w4 fun v5 w5 =>
  X Tryz.prog (Instr.loadAt 5 v5) w5 fun v6 w6 =>
  X Tryz.prog (binOp .and 31 x1 (.int .u32 7)) w6 fun v7 w7 =>
  X Tryz.prog (binOp .shl 5 (.int .u8 1) v7) w7 fun v8 w8 =>
  X Tryz.prog (binOp .or 5 v6 v8) w8 fun v9 w9 =>
  X Tryz.prog (Instr.indexAt 28 v3 v4) w9 fun v10 w10 =>
  XU Tryz.prog (Instr.storeAt 5 v10 v9) w10 fun w11 =>
  K (.bool true) w11
theorem eq_bloom_Vector_set (x0 x1 : Value) (w : World) (K : Value → World → Prop) :
    sh Tryz.prog (Tryz.f100.body.getD .skip) (retS Tryz.prog Tryz.f100.results K) (env0 #[x0, x1]) w = B_bloom_Vector_set x0 x1 w K := by kernel_rfl
theorem call_bloom_Vector_set (x0 x1 : Value) (w : World) (K : Value → World → Prop) (h : B_bloom_Vector_set x0 x1 w K) : CALL Tryz.prog 100 #[x0, x1] w K :=
  call_of_eq (c := Tryz.f100.body.getD .skip) mixed Tryz.func100 (by kernel_rfl) (by kernel_rfl) (by kernel_rfl) (Nat.le_of_ble_eq_true (by kernel_rfl)) (eq_bloom_Vector_set x0 x1 w K) h
def B_bloom_word (x0 : Value) (w : World) (K : Value → World → Prop) : Prop :=
  ∃ R, Frame? R ∧
  XP Tryz.prog (Instr.indexAt 28 x0 (.int .i64 0)) (drewW w) fun v1 w1 =>
  XR Tryz.prog R (Instr.loadAt 5 v1) w1 fun v2 w2 =>
  XR Tryz.prog R (convert 5 31 v2) w2 fun v3 w3 =>
  XP Tryz.prog (binOp .shl 31 v3 (.int .u64 24)) w3 fun v4 w4 =>
  XP Tryz.prog (Instr.indexAt 28 x0 (.int .i64 1)) w4 fun v5 w5 =>
  XR Tryz.prog R (Instr.loadAt 5 v5) w5 fun v6 w6 =>
  XR Tryz.prog R (convert 5 31 v6) w6 fun v7 w7 =>
  XP Tryz.prog (binOp .shl 31 v7 (.int .u64 16)) w7 fun v8 w8 =>
  XP Tryz.prog (binOp .or 31 v4 v8) w8 fun v9 w9 =>
  XP Tryz.prog (Instr.indexAt 28 x0 (.int .i64 2)) w9 fun v10 w10 =>
  XR Tryz.prog R (Instr.loadAt 5 v10) w10 fun v11 w11 =>
  XR Tryz.prog R (convert 5 31 v11) w11 fun v12 w12 =>
  XP Tryz.prog (binOp .shl 31 v12 (.int .u64 8)) w12 fun v13 w13 =>
  XP Tryz.prog (binOp .or 31 v9 v13) w13 fun v14 w14 =>
  XP Tryz.prog (Instr.indexAt 28 x0 (.int .i64 3)) w14 fun v15 w15 =>
  XR Tryz.prog R (Instr.loadAt 5 v15) w15 fun v16 w16 =>
  XR Tryz.prog R (convert 5 31 v16) w16 fun v17 w17 =>
  XP Tryz.prog (binOp .or 31 v14 v17) w17 fun v18 w18 =>
  K v18 w18
theorem eq_bloom_word (x0 : Value) (w : World) (K : Value → World → Prop) :
    sh Tryz.prog (Tryz.f109.body.getD .skip) (retS Tryz.prog Tryz.f109.results K) (env0 #[x0]) w = B_bloom_word x0 w K := by kernel_rfl
theorem call_bloom_word (x0 : Value) (w : World) (K : Value → World → Prop) (h : B_bloom_word x0 w K) : CALL Tryz.prog 109 #[x0] w K :=
  call_of_eq (c := Tryz.f109.body.getD .skip) mixed Tryz.func109 (by kernel_rfl) (by kernel_rfl) (by kernel_rfl) (Nat.le_of_ble_eq_true (by kernel_rfl)) (eq_bloom_word x0 w K) h
end Go.Proofs.YtcigpjejbkngfaaGreatDoor
end
