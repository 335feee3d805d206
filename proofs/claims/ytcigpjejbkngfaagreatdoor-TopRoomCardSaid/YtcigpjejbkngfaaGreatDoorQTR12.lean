/- Part 12 of what the law is proved with. -/
import Derived.Test.YtcigpjejbkngfaaGreatDoorQTR11
set_option linter.unusedVariables false
set_option linter.unusedSimpArgs false
section
namespace Go.Proofs.YtcigpjejbkngfaaGreatDoor
open Go Go.Sh Go.RowKit
attribute [local irreducible] X XU XP XR CALL loopS resC closS
theorem cw64 {n : Nat} (h : n < 18446744073709551616) : IntKind.u64.wrap (n : Int) = (n : Int) := by rw [wrap_u64]; omega
theorem X_append_btsW {P : Program} {w : World} {K : Value → World → Prop} {base : Nat} {t U e : TypeId} (ht : P.underlying t = some (.slice e)) (hE : El P e 1 (.int .u8 0) 1) {v : Value} {n : Nat} {xs : List UInt8} (hown : w.ownsRow base e 1 v n (B8 xs))
    {x : Value} {bs : List UInt8} (hx : Bts w x bs) (hb : n + bs.length ≤ 140737488355328) (hbase : base ≤ w.heap.size)
    (h : ∀ v' w1, w1.ownsRow base e 1 v' (n + bs.length) (B8 (xs ++ bs)) → Keep (fun k => some k = v.ownBlock) w w1 → (∀ g, v'.ownBlock = some g → v.ownBlock = some g ∨ w.heap.size ≤ g) → K v' w1) : X P (Builtin.append_ #[t, t] U #[v, x]) w K := by
  obtain ⟨a, c, rfl, h1, h2, h3⟩ := hx
  by_cases h0 : 0 < bs.length
  · obtain ⟨ad, rfl, hc⟩ := h3 h0
    refine X_appendW ht hE (by decide) hown (news := B8 bs) (by simp) ?_ B8_one (by omega) (by decide) hbase (fun v' w1 ho hk hn => h v' w1 (by rw [B8_append]; exact ho) hk hn)
    intro j u hj
    rw [B8_getElem?] at hj
    obtain ⟨y, hy, rfl⟩ := Option.map_eq_some_iff.1 hj
    exact hc j y hy
  · have : bs = [] := List.eq_nil_of_length_eq_zero (by omega)
    subst this
    cases a with
    | none => exact X_append_none ht hE hown (h v w (by simpa using hown) (Keep.refl _ w) (fun g hg => .inl hg))
    | some ad =>
      refine X_appendW ht hE (by decide) hown (news := []) (by simp) (by simp) (by simp) (by simpa using hb) (by decide) hbase (fun v' w1 ho hk hn => h v' w1 (by simpa using ho) hk hn)
structure TwoRows (w : World) (base : Nat) (vb vd : Value) (xs ys : List UInt8) : Prop where
  ob : w.ownsRow base 5 1 vb xs.length (B8 xs)
  od : w.ownsRow base 5 1 vd ys.length (B8 ys)
  ne : ∀ g, vb.ownBlock = some g → vd.ownBlock ≠ some g
section
variable {w w1 : World} {base : Nat} {vb vd : Value} {xs ys : List UInt8} {K : Value → World → Prop}
theorem TwoRows.ext (h : TwoRows w base vb vd xs ys) (k : Ext w w1) : TwoRows w1 base vb vd xs ys := ⟨own_extD h.ob k, own_extD h.od k, h.ne⟩
theorem TwoRows.left {U : TypeId} (h : TwoRows w base vb vd xs ys) {x : Value} {bs : List UInt8} (hx : Bts w x bs) (hb : xs.length + bs.length ≤ 140737488355328) (hbase : base ≤ w.heap.size)
    (hK : ∀ v' w1, TwoRows w1 base v' vd (xs ++ bs) ys → Keep (fun k => some k = vb.ownBlock) w w1 → K v' w1) : X Tryz.prog (Builtin.append_ #[28, 28] U #[vb, x]) w K := by
  refine X_append_btsW Tryz.underlying28 el_5 h.ob hx hb hbase ?_
  intro v' w1 ho hk hn
  refine hK v' w1 ⟨by rw [List.length_append]; exact ho, own_keepD h.od hk (fun g hg hg' => h.ne g hg'.symm hg), fun g hg hg' => ?_⟩ hk
  rcases hn g hg with h1 | h1
  · exact h.ne g h1 hg'
  · have := (h.od.lt g hg').2
    omega
theorem TwoRows.right {U : TypeId} (h : TwoRows w base vb vd xs ys) {x : Value} {bs : List UInt8} (hx : Bts w x bs) (hb : ys.length + bs.length ≤ 140737488355328) (hbase : base ≤ w.heap.size)
    (hK : ∀ v' w1, TwoRows w1 base vb v' xs (ys ++ bs) → Keep (fun k => some k = vd.ownBlock) w w1 → K v' w1) : X Tryz.prog (Builtin.append_ #[28, 28] U #[vd, x]) w K := by
  refine X_append_btsW Tryz.underlying28 el_5 h.od hx hb hbase ?_
  intro v' w1 ho hk hn
  refine hK v' w1 ⟨own_keepD h.ob hk (fun g hg hg' => h.ne g hg hg'.symm), by rw [List.length_append]; exact ho, fun g hg hg' => ?_⟩ hk
  rcases hn g hg' with h1 | h1
  · exact h.ne g hg h1
  · have := (h.ob.lt g hg).2
    omega
end
def rowP (p : Pp) : List UInt8 := p.k.sum ++ be 4 p.k.num ++ be 2 p.bs.length
theorem rowP_len (p : Pp) : (rowP p).length = 38 := by simp [rowP, p.k.len]
def rowsP (l : List Pp) : List UInt8 := (l.map rowP).flatten
def dataP (l : List Pp) : List UInt8 := (l.map Pp.bs).flatten
def bodyP (id : Nat) (l : List Pp) : List UInt8 := be 4 id ++ be 2 l.length ++ rowsP l ++ dataP l
def layP (id : Nat) (l : List Pp) : List UInt8 := sealB (bodyP id l)
theorem rowsP_len (l : List Pp) : (rowsP l).length = 38 * l.length := by
  unfold rowsP
  induction l with
  | nil => rfl
  | cons p l ih => simp only [List.map_cons, List.flatten_cons, List.length_append, rowP_len, ih, List.length_cons]; omega
theorem dataP_len (l : List Pp) : (dataP l).length = totB l := by
  unfold dataP totB
  induction l with
  | nil => rfl
  | cons p l ih => simp only [List.map_cons, List.flatten_cons, List.length_append, ih, List.sum_cons]
theorem rowsP_succ (l : List Pp) (i : Nat) (h : i < l.length) : rowsP (l.take (i + 1)) = rowsP (l.take i) ++ rowP l[i] := by
  unfold rowsP
  rw [List.take_succ_eq_append_getElem h, List.map_append, List.flatten_append]
  simp only [List.map_cons, List.map_nil, List.flatten_cons, List.flatten_nil, List.append_nil]
theorem dataP_succ (l : List Pp) (i : Nat) (h : i < l.length) : dataP (l.take (i + 1)) = dataP (l.take i) ++ l[i].bs := by
  unfold dataP
  rw [List.take_succ_eq_append_getElem h, List.map_append, List.flatten_append]
  simp only [List.map_cons, List.map_nil, List.flatten_cons, List.flatten_nil, List.append_nil]
theorem bodyP_len (id : Nat) (l : List Pp) : (bodyP id l).length = 6 + 38 * l.length + totB l := by
  unfold bodyP
  simp only [List.length_append, be_length, rowsP_len, dataP_len]
theorem layP_len (id : Nat) (l : List Pp) : (layP id l).length = sizeP l := by
  unfold layP sealB sizeP
  rw [List.length_append, be_length, bodyP_len]
  omega
theorem chk_ok {l : List Pp} (h : chk l = 0) : (∀ p ∈ l, p.bs ≠ []) ∧ l.length ≤ 1000 ∧ (∀ p ∈ l, p.bs.length ≤ 4096) ∧ sizeP l ≤ 65536 ∧ (kys l).Nodup := by
  unfold chk at h
  split at h
  · cases h
  · rename_i h1
    split at h
    · cases h
    · rename_i h2
      split at h
      · rename_i h3
        refine ⟨fun p hp he => h1 ⟨p, hp, he⟩, Nat.le_of_not_lt (fun h => h2 (.inl h)), fun p hp => Nat.le_of_not_lt (fun h => h2 (.inr (.inl ⟨p, hp, h⟩))), Nat.le_of_not_lt (fun h => h2 (.inr (.inr h))), h3⟩
      · cases h
theorem putB_2 (n : Nat) : putB n 2 = be 2 n := rfl
theorem sum_bts {w : World} {q : Nat} {c : Pc} {fr : Nat × Nat} (h : w.heap[q]? = some (.cells c.cs.toArray 40 fr)) : Bts w (.slice (some ⟨q, 0, none⟩) 32 32) c.p.k.sum := by
  refine ⟨_, 32, by rw [c.p.k.len], by rw [c.p.k.len]; exact Nat.le_refl _, by decide, fun _ => ⟨_, rfl, fun j u hj => ?_⟩⟩
  rw [add_plain, Nat.zero_add, cell_blk h]
  simpa using c.sumAt hj
section
variable {w : World} {K : Value → World → Prop}
set_option maxHeartbeats 1000000 in
theorem LayC_spec {id : Nat} {v : Value} {l : List Pc} (hid : id < 4294967296) (hl : RowK 34 Pc.cs w v l) (hin : ∀ c ∈ l, c.In w) (hT : 38 * l.length + totB (pl l) ≤ 1000000000000)
    (h0 : chk (pl l) ≠ 0 → ∀ w1, Ext w w1 → K (.tuple #[.slice none 0 0, i64v (chk (pl l))]) w1)
    (h1 : chk (pl l) = 0 → ∀ u w1, Ext w w1 → w1.ownsRow w.heap.size 5 1 u (layP id (pl l)).length (B8 (layP id (pl l))) → K (.tuple #[u, i64v 0]) w1) : CALL Tryz.prog 24 #[.int .u32 (id : Int), v] w K := by
  obtain ⟨a, c, ev⟩ := hl.slice
  have hll : (pl l).length = l.length := by simp
  apply call_cont_Lay
  unfold B_cont_Lay
  refine check_spec hl hin hT ?_
  intro w1 hx1
  (repeat (simp only [SLB, Int.reduceEq, Int.reduceNe, Int.reduceLT, Int.reduceLE, Int.reduceGT, Int.reduceGE]))
  by_cases hc : chk (pl l) = 0
  case neg =>
    have c : decide (chk (pl l) ≠ 0) = true := by simpa using hc
    (repeat (simp only [SLB, Int.reduceEq, Int.reduceNe, Int.reduceLT, Int.reduceLE, Int.reduceGT, Int.reduceGE, c]))
    exact h0 hc _ hx1
  have c : decide (chk (pl l) ≠ 0) = false := by simp [hc]
  (repeat (simp only [SLB, Int.reduceEq, Int.reduceNe, Int.reduceLT, Int.reduceLE, Int.reduceGT, Int.reduceGE, c]))
  obtain ⟨k1, k2, k3, k4, k5⟩ := chk_ok hc
  rw [hll] at k2
  have ktot : totB (pl l) ≤ 65536 := by unfold sizeP at k4; omega
  rw [X_conv_31_37, cw64 (by omega)]
  refine Put_spec (Bts.nil w1) (by simp) (by omega) ?_
  intro v2 w2 hx2 ho2
  rw [List.nil_append, putB_4] at ho2
  rw [ev]
  (repeat (simp only [SLB, Int.reduceEq, Int.reduceNe, Int.reduceLT, Int.reduceLE, Int.reduceGT, Int.reduceGE, X_len_41]))
  rw [X_conv_3_37, cw64 (by omega)]
  refine Put_spec (own_bts ho2).1 (by simp) (by omega) ?_
  intro v3 w3 hx3 ho3
  rw [putB_2] at ho3
  (repeat (simp only [SLB, Int.reduceEq, Int.reduceNe, Int.reduceLT, Int.reduceLE, Int.reduceGT, Int.reduceGE, X_len_41]))
  rw [← ev]
  have hx03 : Ext w w3 := (hx1.trans hx2).trans hx3
  have hs02 : w.heap.size ≤ w2.heap.size := (hx1.trans hx2).size
  refine loopE (fun ρ wr => ∃ (i : Nat) (vb vd : Value), i ≤ l.length ∧ Ext w wr ∧ TwoRows wr w.heap.size vb vd (be 4 id ++ be 2 l.length ++ rowsP ((pl l).take i)) (dataP ((pl l).take i)) ∧ ρ 26 = .int .i64 (i : Int) ∧ ρ 25 = .int .i64 (l.length : Int) ∧ ρ 24 = v ∧ ρ 7 = vb ∧ ρ 8 = vd)
    (fun ρ wr => match ρ 26 with | .int _ s => (l.length - s).toNat | _ => 0)
    (fun ρ wr => ∃ (vb vd : Value), Ext w wr ∧ TwoRows wr w.heap.size vb vd (be 4 id ++ be 2 l.length ++ rowsP (pl l)) (dataP (pl l)) ∧ ρ 7 = vb ∧ ρ 8 = vd) ?_ ?_ ?_
  · refine ⟨0, v3, .slice none 0 0, by omega, hx03, ⟨?_, World.ownsRow_nil _ _ 5 1, fun g _ h => by cases h⟩, rfl, rfl, rfl, rfl, rfl⟩
    have e : be 4 id ++ be 2 l.length ++ rowsP ((pl l).take 0) = be 4 id ++ be 2 l.length := by rw [List.take_zero]; exact List.append_nil _
    rw [e]
    exact own_mono ho3 hs02
  · rintro J hJ ρ wr ⟨i, vb, vd, hi, hx, tr, r26, r25, r24, r7, r8⟩
    rw [r26, r25, r24, X_lss, condS_bool]
    by_cases hie : i = l.length
    · rw [if_neg (by simp; omega)]
      rw [hie, List.take_of_length_le (by simp)] at tr
      exact hJ _ _ ⟨vb, vd, hx, tr, r7, r8⟩
    rw [if_pos (by simp; omega)]
    have hlt : i < l.length := by omega
    have hltp : i < (pl l).length := by rw [hll]; exact hlt
    refine X_takePiece (hl.ext hx) hlt ((hin _ (List.getElem_mem hlt)).ext hx) ?_
    intro u1 u2 q w4 hx4 hq hqb
    have hinW := hin _ (List.getElem_mem hlt)
    have hin4 := (hinW.ext hx).ext hx4
    have hget : (pl l)[i]'hltp = l[i].p := by simp
    have s1 := rowsP_succ (pl l) i hltp
    have s2 := dataP_succ (pl l) i hltp
    have hmem : l[i].p ∈ pl l := List.mem_map.2 ⟨_, List.getElem_mem hlt, rfl⟩
    have hble := k3 _ hmem
    rw [hget] at s1 s2
    generalize l[i] = A at hqb hinW hin4 s1 s2 hble
    obtain ⟨aA, cA, eA⟩ := Bts.slice hin4
    have hnum := A.p.k.lt
    have tr4 := tr.ext hx4
    have hxd := hx4.trans (Keep.drew (fun _ => False) w4)
    have trd := tr4.ext (Keep.drew (fun _ => False) w4)
    have hqd : (drewW w4).heap[q]? = some (.cells A.cs.toArray 40 (0, 0)) := hqb
    have hind : A.In (drewW w4) := hin4.ext (Keep.drew _ _)
    refine ⟨Ext, Ext.frame, ?_⟩
    generalize drewW w4 = wd at hxd trd hqd hind ⊢
    rw [XP_field_40_0, XP_field_33_1]
    refine XR_ok Ext.frame (fun w' k => run_loadAt agg_31 (piece_num (k.get hqd))) ?_
    rw [XR_conv_31_37, cw64 (by omega), XP_field_40_1]
    refine XR_ok Ext.frame (fun w' k => run_loadAt agg_28 (piece_dv (k.get hqd))) ?_
    rw [eA, XP_len_28, XR_conv_3_37, cw64 (by omega)]
    refine Put_spec (Bts.nil wd) (by simp) (by omega) ?_
    intro v5 w5 hx5 ho5
    rw [List.nil_append, putB_4] at ho5
    refine ⟨hx5, ?_⟩
    refine Put_spec (own_bts ho5).1 (by simp) (by omega) ?_
    intro v6 w6 hx6 ho6
    rw [putB_2] at ho6
    refine ⟨hx6, ?_⟩
    have hx56 : Ext wd w6 := hx5.trans hx6
    have tr6 := trd.ext hx56
    have hq6 := hx56.get hqd
    have hin6 := hind.ext hx56
    have hx06 : Ext w w6 := (hx.trans hxd).trans hx56
    rw [X_field_40_0, X_field_33_0]
    refine X_of (run_slice_arr_all Tryz.underlying30 info_5 _ _) ?_
    have hlr : (rowsP ((pl l).take i)).length ≤ 38 * 1000 := by rw [rowsP_len, List.length_take]; omega
    have hld : (dataP ((pl l).take i)).length ≤ 65536 := by rw [dataP_len]; have := totB_take_le (pl l) i; omega
    rw [r7]
    refine TwoRows.left tr6 (sum_bts hq6) (by simp [A.p.k.len]; omega) hx06.size ?_
    intro v7 w7 tr7 hk7
    have hb7 : Bts w7 v6 (be 4 A.p.k.num ++ be 2 A.p.bs.length) := by
      refine ((own_bts ho6).1).keep hk7 (fun k hk hk' => ?_)
      have h1 := (ho6.lt k hk).1
      have h2 := (trd.ob.lt k hk'.symm).2
      have := hx5.size
      omega
    have hx67 : Ext w w7 := Ext.seq hx06 hk7 (fun k hk => (tr6.ob.lt k hk.symm).1)
    refine TwoRows.left tr7 hb7 (by simp [A.p.k.len]; omega) hx67.size ?_
    intro v8 w8 tr8 hk8
    have hx08 : Ext w w8 := Ext.seq hx67 hk8 (fun k hk => (tr7.ob.lt k hk.symm).1)
    have hq8 : w8.heap[q]? = some (.cells A.cs.toArray 40 (0, 0)) := hk8.get (fun h => own_neT tr7.ob (hk7.get (fun h => own_neT tr6.ob hq6 (by decide) h.symm) hq6) (by decide) h.symm) (hk7.get (fun h => own_neT tr6.ob hq6 (by decide) h.symm) hq6)
    rw [X_field_40_1]
    refine X_of (run_loadAt agg_28 (piece_dv hq8)) ?_
    have hin8 : Bts w8 A.dv A.p.bs := hinW.ext hx08
    rw [r8]
    refine TwoRows.right tr8 hin8 (by omega) hx08.size ?_
    intro v9 w9 tr9 hk9
    have hx09 : Ext w w9 := Ext.seq hx08 hk9 (fun k hk => (tr8.od.lt k hk.symm).1)
    rw [X_add]
    show _ ∧ _
    refine ⟨⟨i + 1, v8, v9, by omega, hx09, ?_, next64 (n := 1000) (by decide) (by omega), r25, r24, rfl, rfl⟩, ?_⟩
    · rw [s1, s2]
      have e : be 4 id ++ be 2 l.length ++ rowsP ((pl l).take i) ++ A.p.k.sum ++ (be 4 A.p.k.num ++ be 2 A.p.bs.length) = be 4 id ++ be 2 l.length ++ (rowsP ((pl l).take i) ++ rowP A.p) := by
        unfold rowP
        simp only [List.append_assoc]
      rw [← e]
      exact tr9
    · show (_ - IntKind.i64.wrap _).toNat < _
      rw [w64 (by omega) (by omega)]
      first | omega | (show _ < (_ : Int).toNat; omega)
  · rintro ρ wr ⟨vb, vd, hx, tr, r7, r8⟩
    have hlr : (rowsP (pl l)).length ≤ 38 * 1000 := by rw [rowsP_len, hll]; omega
    have hld : (dataP (pl l)).length ≤ 65536 := by rw [dataP_len]; omega
    rw [r7, r8]
    refine TwoRows.left tr (own_bts tr.od).1 (by simp; omega) hx.size ?_
    intro v7 w7 tr7 hk7
    have hx7 : Ext w w7 := Ext.seq hx hk7 (fun k hk => (tr.ob.lt k hk.symm).1)
    have e : be 4 id ++ be 2 l.length ++ rowsP (pl l) ++ dataP (pl l) = bodyP id (pl l) := by
      unfold bodyP
      rw [hll]
    have hb7 := (own_bts tr7.ob).1
    rw [e] at hb7
    refine Seal_spec hb7 (by rw [bodyP_len, hll]; omega) ?_
    intro v8 w8 hx8 ho8
    exact h1 hc v8 w8 (hx7.trans hx8) (own_mono ho8 hx7.size)
end
end Go.Proofs.YtcigpjejbkngfaaGreatDoor
end
section
namespace Go.Proofs.YtcigpjejbkngfaaGreatDoor
open Go Go.Sh Go.RowKit
attribute [local irreducible] X XU XP XR CALL loopS resC closS
abbrev z115 : List Value := List.replicate 32 (Value.int .u8 0) ++ [Value.int .u32 0] ++ [Value.slice none 0 0]
theorem B8_rep (n : Nat) : B8 (List.replicate n 0) = List.replicate n (Value.int .u8 0) := by
  unfold B8
  rw [List.map_replicate]
  rfl
theorem nilKy_cs : nilKy.cs = List.replicate 32 (Value.int .u8 0) ++ [Value.int .u32 0] := by
  unfold Ky.cs nilKy
  show B8 (List.replicate 32 0) ++ _ = _
  rw [B8_rep]
  rfl
theorem z115_take : z115.take 33 = nilKy.cs := by rw [nilKy_cs]; rfl
theorem run_build_40d {a : Option Addr} {n c : Nat} (bs : List UInt8) (w : World) : (Instr.build 40 #[(1, .slice a n c)]).run Tryz.prog w = .ok (.agg (Pc.cs ⟨⟨nilKy, bs⟩, .slice a n c⟩).toArray) w := by
  refine run_build2 (a := 33) (b := 1) (z := z115) Tryz.underlying40 zero_40 rfl rfl sz_33 sz_28 info_33 info_28 ?_ w
  have := fill_right (a := 33) (b := 1) (v1 := .slice a n c) (z := z115) rfl rfl
  rw [z115_take] at this
  exact this
theorem run_build_40b (k : Ky) {a : Option Addr} {n c : Nat} (bs : List UInt8) (w : World) : (Instr.build 40 #[(0, k.v), (1, .slice a n c)]).run Tryz.prog w = .ok (.agg (Pc.cs ⟨⟨k, bs⟩, .slice a n c⟩).toArray) w := by
  refine run_build2 (a := 33) (b := 1) (z := z115) Tryz.underlying40 zero_40 rfl rfl sz_33 sz_28 info_33 info_28 ?_ w
  exact fill_both (a := 33) (b := 1) (v0 := k.v) (v1 := .slice a n c) (z := z115) (by show k.cs.toArray.size = 33; simp [k.cs_len]) rfl rfl
theorem run_build_33b (k : Ky) (w : World) : (Instr.build 33 #[(0, .agg (B8 k.sum).toArray), (1, .int .u32 (k.num : Int))]).run Tryz.prog w = .ok k.v w := by
  refine run_build2 (a := 32) (b := 1) (z := List.replicate 32 (Value.int .u8 0) ++ [Value.int .u32 0]) Tryz.underlying33 zero_33 rfl rfl sz_30 sz_31 info_30 info_31 ?_ w
  exact fill_both (a := 32) (b := 1) (v0 := .agg (B8 k.sum).toArray) (v1 := .int .u32 (k.num : Int)) (by show (B8 k.sum).toArray.size = 32; simp [k.len]) rfl rfl
theorem run_build_33s {s : List UInt8} (hs : s.length = 32) (w : World) : (Instr.build 33 #[(0, .agg (B8 s).toArray)]).run Tryz.prog w = .ok (Ky.v ⟨s, 0, hs, by decide⟩) w := by
  refine run_build2 (a := 32) (b := 1) (z := List.replicate 32 (Value.int .u8 0) ++ [Value.int .u32 0]) Tryz.underlying33 zero_33 rfl rfl sz_30 sz_31 info_30 info_31 ?_ w
  exact fill_left (a := 32) (b := 1) (v0 := .agg (B8 s).toArray) (by show (B8 s).toArray.size = 32; simp [hs]) rfl
theorem row_nil {α : Type} {k : Nat} {f : α → List Value} (w : World) : RowK k f w (.slice none 0 0) ([] : List α) := ⟨none, 0, rfl, Nat.le_refl _, by omega, fun h => absurd h (by simp)⟩
section
variable {w : World} {K : Value → World → Prop}
end
end Go.Proofs.YtcigpjejbkngfaaGreatDoor
end
section
set_option maxRecDepth 8000
namespace Go.Proofs.YtcigpjejbkngfaaGreatDoor
open Go Go.Sh Go.RowKit
attribute [local irreducible] X XU XP XR CALL loopS resC closS
def twinsOf (R : List Ex) (s : List UInt8) : List Ky := (R.filter fun r => decide (r.k.sum = s)).map Ex.k
theorem nums_twins (R : List Ex) (s : List UInt8) : numsOf R s = (twinsOf R s).map Ky.num := by unfold numsOf twinsOf; rw [List.map_map]; rfl
theorem twins_sum {R : List Ex} {s : List UInt8} {k : Ky} (h : k ∈ twinsOf R s) : k.sum = s := by
  obtain ⟨r, hr, rfl⟩ := List.mem_map.1 h
  simpa using (List.mem_filter.1 hr).2
theorem tw_all {tw : List (List UInt8 × Value)} (h : ∀ t ∈ tw, t.1.length = 32) : ∀ p ∈ tw.map twV, ∃ x, keyOf Tryz.prog 30 p.1 = some x := fun p hp => by
  obtain ⟨t, ht, rfl⟩ := List.mem_map.1 hp
  exact keyOf_sum (h t ht)
theorem sh_all {R : List Ex} {sh : List (Int × Nat)} (h : ∀ a, a ∈ sh.map Prod.fst ↔ ∃ r ∈ R, r.off = a) : ∀ s ∈ sh.map Prod.fst, I64 s := fun s hs => by
  obtain ⟨r, _, rfl⟩ := (h s).1 hs
  exact ⟨r.o1, r.o2⟩
theorem run_tw {w : World} {tb : Nat} {tw : List (List UInt8 × Value)} {R : List Ex} (hm : MapAt w tb (tw.map twV)) (hin : ∀ s, s ∈ tw.map Prod.fst ↔ ∃ r ∈ R, r.k.sum = s) (ho : ∀ t ∈ tw, OwnK 1 31 u32C w 0 t.2 (numsOf R t.1)) {d : List UInt8} (hd : d.length = 32) :
    (d ∉ tw.map Prod.fst ∧ numsOf R d = [] ∧ (Instr.lookup 143 (.map (some tb)) (sumV d) false).run Tryz.prog w = .ok (.slice none 0 0) w) ∨ ∃ t ∈ tw, t.1 = d ∧ (Instr.lookup 143 (.map (some tb)) (sumV d) false).run Tryz.prog w = .ok t.2 w := by
  have h32 : ∀ t ∈ tw, t.1.length = 32 := fun t ht => by
    obtain ⟨r, _, hr⟩ := (hin t.1).1 (List.mem_map.2 ⟨t, ht, rfl⟩)
    rw [← hr]; exact r.k.len
  obtain ⟨kl, hkl⟩ := keyOf_sum hd
  rcases run_lookupM (P := Tryz.prog) keyed30 Tryz.underlying143 zero_141 hm (tw_all h32) hkl false with ⟨hno, hrun⟩ | ⟨p, hp, hpk, hrun⟩
  · have hni : d ∉ tw.map Prod.fst := fun h => by
      obtain ⟨t, ht, rfl⟩ := List.mem_map.1 h
      exact hno (twV t) (List.mem_map.2 ⟨t, ht, rfl⟩) rfl
    refine .inl ⟨hni, ?_, hrun⟩
    unfold numsOf
    have : R.filter (fun r => decide (r.k.sum = d)) = [] := List.filter_eq_nil_iff.2 (fun r hr he => hni ((hin d).2 ⟨r, hr, by simpa using he⟩))
    rw [this]
    rfl
  · obtain ⟨t, ht, rfl⟩ := List.mem_map.1 hp
    exact .inr ⟨t, ht, sumV_inj hpk, hrun⟩
section
variable {w : World} {K : Value → World → Prop}
theorem ITwins_spec {D : Nat → Prop} {xb : Nat} {R : List Ex} {d : List UInt8} (h : IdxAt w D xb R) (hd : d.length = 32) (hR : R.length ≤ 1000000) (hK : ∀ u w1, Ext w w1 → OwnK 33 33 Ky.cs w1 w.heap.size u (twinsOf R d) → K u w1) : CALL Tryz.prog 41 #[ptr xb, sumV d] w K := by
  obtain ⟨⟨pb, tb, sb, tw, sh, h1, h2, ⟨a1, a2, a3, a4, a5⟩, _⟩, hlt, hnd⟩ := h
  apply call_index_Index_Twins
  unfold B_index_Index_Twins
  refine X_box ?_
  have hx1 := newB_ext w (sumV d).cells 30
  have hg1 : (newB w (sumV d).cells 30).heap[w.heap.size]? = some (.cells (B8 d).toArray 30 (0, 0)) := newB_get w (sumV d).cells 30
  have hs1 := hx1.size
  generalize newB w (sumV d).cells 30 = w1 at hx1 hg1 hs1 ⊢
  generalize hbase : w.heap.size = base at hg1 hK hs1 ⊢
  (repeat (simp only [SLB, Int.reduceEq, Int.reduceNe, Int.reduceLT, Int.reduceLE, Int.reduceGT, Int.reduceGE]))
  have kd := Keep.drew (fun _ => False) w1
  have hx0d := hx1.trans kd
  have hg1d := Ext.get kd hg1
  refine ⟨Ext, Ext.frame, ?_⟩
  have sd : (drewW w1).heap.size = w1.heap.size := rfl
  generalize drewW w1 = wd at hx0d hg1d sd ⊢
  (repeat (simp only [SLB, Int.reduceEq, Int.reduceNe, Int.reduceLT, Int.reduceLE, Int.reduceGT, Int.reduceGE, XP_field_146_1]))
  refine XR_ok Ext.frame (fun w' kk => run_loadAt (v := .map (some tb)) agg_143 ((cell_blk (Ext.get (hx0d.trans kk) h1)).trans rfl)) ?_
  refine XR_ok Ext.frame (fun w' kk => sumV_load (Ext.get kk hg1d) hd) ?_
  have main : ∃ v, (∀ w', Ext w w' → (Instr.lookup 143 (.map (some tb)) (sumV d) false).run Tryz.prog w' = .ok v w') ∧ RowK 1 u32C w v (numsOf R d) := by
    rcases run_tw a1 a3 (fun t ht => (a4 t ht).1) hd with ⟨hni, hnil, _⟩ | ⟨t, ht, htd, _⟩
    · refine ⟨.slice none 0 0, fun w' kk => ?_, by rw [hnil]; exact row_nil w⟩
      rcases run_tw (a1.ext kk) a3 (fun t ht => ((a4 t ht).1).ext kk) hd with ⟨_, _, hr⟩ | ⟨t, ht, htd, _⟩
      · exact hr
      · exact absurd (List.mem_map.2 ⟨t, ht, htd⟩) hni
    · refine ⟨t.2, fun w' kk => ?_, by rw [← htd]; exact OwnK.rowK (by decide) u32C_len (a4 t ht).1⟩
      rcases run_tw (a1.ext kk) a3 (fun t ht => ((a4 t ht).1).ext kk) hd with ⟨hni, _, _⟩ | ⟨t', ht', htd', hr⟩
      · exact absurd (List.mem_map.2 ⟨t, ht, htd⟩) hni
      · have : t' = t := fst_inj a2 ht' ht (htd'.trans htd.symm)
        rw [this] at hr
        exact hr
  obtain ⟨v, hlk, hrow⟩ := main
  refine XR_ok Ext.frame (fun w' kk => hlk w' (hx0d.trans kk)) ?_
  obtain ⟨av, cv, ev⟩ := hrow.slice
  have hnl : (numsOf R d).length = (twinsOf R d).length := by rw [nums_twins, List.length_map]
  have htl : (twinsOf R d).length ≤ 1000000 := by
    unfold twinsOf
    rw [List.length_map]
    exact Nat.le_trans (List.length_filter_le _ _) hR
  rw [ev, XP_len_141, ← ev, hnl]
  refine loopG 0 (fun ρ wr => ∃ i : Nat, i ≤ (twinsOf R d).length ∧ Ext wd wr ∧ OwnK 33 33 Ky.cs wr wd.heap.size (ρ 5) ((twinsOf R d).take i) ∧ ρ 17 = .int .i64 (i : Int) ∧ ρ 16 = .int .i64 ((twinsOf R d).length : Int) ∧ ρ 15 = v ∧ ρ 3 = ptr base)
    (fun ρ wr => match ρ 17 with | .int _ s => ((twinsOf R d).length - s).toNat | _ => 0)
    (fun ρ wr => Ext wd wr ∧ OwnK 33 33 Ky.cs wr wd.heap.size (ρ 5) (twinsOf R d)) ?_ ?_ ?_
  · exact ⟨0, by omega, Keep.refl _ _, ownK_nil _ _, rfl, rfl, rfl, rfl⟩
  · rintro J hJ ρ wr ⟨i, hi, hx, ho, r17, r16, r15, r3⟩
    rw [r17, r16, r15, r3, X_lss, condS_bool]
    by_cases hie : i = (twinsOf R d).length
    · rw [if_neg (by simp; omega)]
      rw [List.take_of_length_le (by omega)] at ho
      exact hJ _ _ ⟨hx, ho⟩
    rw [if_pos (by simp; omega)]
    have hlt2 : i < (twinsOf R d).length := by omega
    have hx0r := hx0d.trans hx
    obtain ⟨g, hix, hc⟩ := u32_at (hrow.ext hx0r) (i := i) (by omega)
    have hts := List.take_succ_eq_append_getElem hlt2
    have hnum : (numsOf R d)[i]'(by omega) = ((twinsOf R d)[i]).num := by simp [nums_twins]
    have hsum := twins_sum (List.getElem_mem hlt2)
    rw [hnum] at hc
    generalize (twinsOf R d)[i] = k at hc hts hsum
    refine X_of (hix _) ?_
    refine X_of (run_loadAt agg_31 hc) ?_
    refine X_of (sumV_load (Ext.get hx hg1d) hd) ?_
    have hb := run_build_33b k wr
    rw [hsum] at hb
    refine X_of hb ?_
    refine X_buildSliceK Tryz.underlying67 el_33 (by decide) (by decide) k.cs_len ?_
    have hx4 := newB_ext wr k.cs.toArray 33
    have hg4 := newB_get wr k.cs.toArray 33
    have hrow4 : RowK 33 Ky.cs (newB wr k.cs.toArray 33) (.slice (some ⟨wr.heap.size, 0, none⟩) 1 1) [k] := by
      refine RowK.ofK (T := 33) (fr := (0, 0)) (by decide) Ky.cs_len ?_ rfl (by decide)
      rw [hg4]
      unfold cellsK
      simp
    generalize newB wr k.cs.toArray 33 = w4 at hx4 hrow4 ⊢
    have hx04 := hx.trans hx4
    have hone : ∀ x ∈ [k], ∀ u ∈ x.cs, u.oneCell' = true := by
      intro x hx u hu
      rw [List.mem_singleton.1 hx] at hu
      unfold Ky.cs at hu
      rcases List.mem_append.1 hu with hu | hu
      · exact B8_one u hu
      · rw [List.mem_singleton.1 hu]; rfl
    refine X_appendK Tryz.underlying67 el_33 (by decide) Ky.cs_len hone (ho.ext hx4) hrow4 (by simp; omega) (by decide) hx04.size ?_
    intro v5 w5 ho5 hk5
    rw [← hts] at ho5
    rw [X_add]
    show _ ∧ _
    refine ⟨⟨i + 1, by omega, Ext.seq hx04 hk5 (fun g hg => (ho.lt g hg.symm).1), ho5, next64 (n := 1000000) (by decide) (by omega), r16, r15, r3⟩, ?_⟩
    show (_ - IntKind.i64.wrap _).toNat < _
    rw [w64 (by omega) (by omega)]
    first | omega | (show _ < (_ : Int).toNat; omega)
  · rintro ρ wr ⟨hx, ho⟩
    exact hK _ _ (hx0d.trans hx) (own_mono ho (by omega))
end
end Go.Proofs.YtcigpjejbkngfaaGreatDoor
end
section
set_option maxRecDepth 8000
namespace Go.Proofs.YtcigpjejbkngfaaGreatDoor
open Go Go.Sh Go.RowKit
attribute [local irreducible] X XU XP XR CALL loopS resC closS
theorem left_push (es : Array MapEntry) (seen : Array Nat) (b : Nat) : (leftOf es (seen.push b)).toList = (leftOf es seen).toList.filter fun e => decide (e.born ≠ b) := by
  unfold leftOf
  rw [Array.toList_filter, Array.toList_filter, List.filter_filter]
  congr 1
  funext e
  by_cases h : e.born = b
  · simp [h]
  · simp [h]
theorem perm_pick {L : List MapEntry} (hn : (L.map (·.born)).Nodup) {e : MapEntry} (he : e ∈ L) : L.Perm (e :: L.filter fun x => decide (x.born ≠ e.born)) := by
  induction L with
  | nil => cases he
  | cons a L ih =>
    rw [List.map_cons, List.nodup_cons] at hn
    rcases List.mem_cons.1 he with rfl | he
    · have : L.filter (fun x => decide (x.born ≠ e.born)) = L := List.filter_eq_self.2 (fun x hx => by
        have : x.born ≠ e.born := fun h => hn.1 (List.mem_map.2 ⟨x, hx, h⟩)
        simpa using this)
      rw [List.filter_cons_of_neg (by simp), this]
    · have hne : a.born ≠ e.born := fun h => hn.1 (by rw [h]; exact List.mem_map.2 ⟨e, he, rfl⟩)
      rw [List.filter_cons_of_pos (by simpa using hne)]
      exact ((ih hn.2 he).cons a).trans (List.Perm.swap _ _ _)
theorem perm_of_keys {R l1 l2 : List Ex} (hn : (R.map Ex.k).Nodup) (h1 : ∀ r ∈ l1, r ∈ R) (h2 : ∀ r ∈ l2, r ∈ R) (h : (l1.map fun r => r.k.v).Perm (l2.map fun r => r.k.v)) : l1.Perm l2 := by
  classical
  let g : Value → Option Ex := fun v => R.find? (fun r => decide (r.k.v = v))
  have hg : ∀ r ∈ R, g r.k.v = some r := by
    intro r hr
    obtain ⟨i, hi, rfl⟩ := List.mem_iff_getElem.1 hr
    show R.find? _ = _
    rw [List.find?_eq_some_iff_getElem]
    refine ⟨by simp, i, hi, rfl, fun j hj => ?_⟩
    have : R[j].k ≠ R[i].k := fun h => by
      have e1 : (R.map Ex.k)[j]'(by rw [List.length_map]; omega) = (R.map Ex.k)[i]'(by rw [List.length_map]; exact hi) := by simpa using h
      have := (List.getElem_inj hn).1 e1
      omega
    have h3 : R[j].k.v ≠ R[i].k.v := fun h => this (Ky.v_inj h)
    simpa using h3
  have e : ∀ l : List Ex, (∀ r ∈ l, r ∈ R) → (l.map fun r => r.k.v).map g = l.map some := by
    intro l hl
    rw [List.map_map]
    exact List.map_congr_left (fun r hr => hg r (hl r hr))
  have h3 := h.map g
  rw [e l1 h1, e l2 h2] at h3
  have h4 := h3.filterMap id
  simpa using h4
theorem run_build_184 (k : Ky) (a b : Int) (w : World) : (Instr.build 184 #[(0, k.v), (1, .agg #[.int .i64 a, .int .i64 b])]).run Tryz.prog w = .ok (.agg (k.cs ++ [Value.int .i64 a, Value.int .i64 b]).toArray) w := by
  refine run_build2 (a := 33) (b := 2) (z := List.replicate 32 (Value.int .u8 0) ++ [Value.int .u32 0] ++ [Value.int .i64 0, Value.int .i64 0]) Tryz.underlying184 zero_184 rfl rfl sz_33 sz_104 info_33 info_104 ?_ w
  exact fill_both (a := 33) (b := 2) (v0 := k.v) (v1 := .agg #[.int .i64 a, .int .i64 b]) (by show k.cs.toArray.size = 33; simp [k.cs_len]) rfl (by simp)
def newIt (w : World) (m c : Nat) : World := { w with heap := w.heap.push (.mapIter (some m) c #[] c) }
theorem newIt_ext (w : World) (m c : Nat) : Ext w (newIt w m c) :=
  ⟨rfl, rfl, rfl, by show _ ≤ (w.heap.push _).size; rw [Array.size_push]; omega, fun i hi _ => by
    show (w.heap.push _)[i]? = _
    exact Array.getElem?_push_lt hi |>.trans (Array.getElem?_eq_getElem hi).symm⟩
theorem run_range {w : World} {m c : Nat} {es : Array MapEntry} (hm : w.heap[m]? = some (.map es c)) : (Instr.range 157 (.map (some m))).run Tryz.prog w = .ok (ptr w.heap.size) (newIt w m c) := by
  simp [Instr.range, run_underlying Tryz.underlying157, MapKept.run_getObj_map hm, Result.andThen, run_newObj]
  rfl
theorem run_shelf {w : World} {sb : Nat} {sh : List (Int × Nat)} (hm : MapAt w sb (sh.map tbV)) (hn : (sh.map Prod.fst).Nodup) (hi : ∀ s ∈ sh.map Prod.fst, I64 s) {p : Int × Nat} (hp : p ∈ sh) :
    (Instr.lookup 144 (.map (some sb)) (.int .i64 p.1) false).run Tryz.prog w = .ok (.map (some p.2)) w := by
  have hs := hi p.1 (List.mem_map.2 ⟨p, hp, rfl⟩)
  rcases run_lookupM (P := Tryz.prog) keyed3 Tryz.underlying144 zero_157 hm (tb_keys sh hi) (keyOf_i64 hs) false with ⟨hno, hrun⟩ | ⟨q, hq, hqk, hrun⟩
  · exact absurd rfl (hno (tbV p) (List.mem_map.2 ⟨p, hp, rfl⟩))
  · obtain ⟨x, hx, rfl⟩ := List.mem_map.1 hq
    have hxs : x.1 = p.1 := by injection hqk
    have : x = p := fst_inj hn hx hp hxs
    rw [hrun, this]
    rfl
def leftN (w : World) (b r : Nat) : Nat :=
  match w.heap[b]?, w.heap[r]? with
  | some (.map es _), some (.mapIter _ _ seen _) => (leftOf es seen).size
  | _, _ => 0
theorem leftN_eq {w : World} {b r m s c clk : Nat} {es : Array MapEntry} {seen : Array Nat} (hb : w.heap[b]? = some (.map es clk)) (hr : w.heap[r]? = some (.mapIter (some m) s seen c)) : leftN w b r = (leftOf es seen).size := by
  unfold leftN
  rw [hb, hr]
theorem setBlock_keep {D : Nat → Prop} {w w1 : World} (r : Nat) (o : Obj) (h : w1 = w ∨ w1 = w.drew) (hD : D r) : Keep D w (ChangeMaps.setBlock w1 r o) := by
  have hh : w1.heap = w.heap := by rcases h with rfl | rfl <;> rfl
  refine ⟨by rcases h with rfl | rfl <;> rfl, by rcases h with rfl | rfl <;> rfl, by rcases h with rfl | rfl <;> rfl, ?_, fun i hi hd => ?_⟩
  · show _ ≤ (w1.heap.setIfInBounds r o).size
    rw [hh]
    simp
  · show (w1.heap.setIfInBounds r o)[i]? = _
    rw [Array.getElem?_setIfInBounds_ne (fun h => hd (by rw [← h]; exact hD)), hh]
theorem setBlock_same {w w1 : World} {r : Nat} {o o' : Obj} (h : w1 = w ∨ w1 = w.drew) (hr : w.heap[r]? = some o') : (ChangeMaps.setBlock w1 r o).heap[r]? = some o := by
  have hh : w1.heap = w.heap := by rcases h with rfl | rfl <;> rfl
  show (w1.heap.setIfInBounds r o)[r]? = _
  rw [hh]
  have := lt_of_blk hr
  simp [this]
section
variable {w : World} {K : Value → World → Prop}
set_option maxHeartbeats 1000000 in
theorem IShelf_spec {D : Nat → Prop} {xb : Nat} {R : List Ex} {a : Int} (h : IdxAt w D xb R) (ha : ∃ r ∈ R, r.off = a) (hlen : (onShelf R a).length ≤ 12)
    (hK : ∀ u rows w1, Ext w w1 → rows.Perm (onShelf R a) → RowK 35 Ex.cs w1 u rows → (∀ g, u.ownBlock = some g → w.heap.size ≤ g) → K u w1) : CALL Tryz.prog 90 #[ptr xb, .int .i64 a] w K := by
  have hI := h
  obtain ⟨⟨pb, tb, sb, tw, sh, h1, h2, _, ⟨b1, b2, b3, b4, b5⟩, c1, c2, c3, c4, c5⟩, hlt, hnd⟩ := h
  obtain ⟨p, hp, rfl⟩ := List.mem_map.1 ((b3 a).2 ha)
  obtain ⟨hmS, hDp, _⟩ := b4 p hp
  obtain ⟨es, clk, hes, hrows, hborn, hbnd⟩ := hmS
  apply call_index_Index_Shelf
  unfold B_index_Index_Shelf
  (repeat (simp only [SLB, Int.reduceEq, Int.reduceNe, Int.reduceLT, Int.reduceLE, Int.reduceGT, Int.reduceGE, X_field_146_2]))
  refine X_of (run_loadAt (v := .map (some sb)) agg_144 ((cell_blk h1).trans rfl)) ?_
  refine X_of (run_shelf b1 b2 (sh_all b3) hp) ?_
  refine X_of (run_range hes) ?_
  have hx1 := newIt_ext w p.2 clk
  have hg1 : (newIt w p.2 clk).heap[w.heap.size]? = some (.mapIter (some p.2) clk #[] clk) := by show (w.heap.push _)[w.heap.size]? = _; exact Array.getElem?_push_size
  have hs1 : (newIt w p.2 clk).heap.size = w.heap.size + 1 := by show (w.heap.push _).size = _; rw [Array.size_push]
  generalize newIt w p.2 clk = w1 at hx1 hg1 hs1 ⊢
  have hpl := lt_of_blk hes
  generalize hrb : w.heap.size = r at hg1 hs1 hpl
  refine loopG 0 (fun ρ wr => ∃ (seen : Array Nat) (cc : Nat) (done : List Ex), clk ≤ cc ∧ Ext w wr ∧ wr.heap[r]? = some (.mapIter (some p.2) clk seen cc) ∧ (∀ x ∈ done, x ∈ onShelf R p.1) ∧ ((done.map fun x => x.k.v) ++ (leftOf es seen).toList.map (·.key)).Perm (es.toList.map (·.key)) ∧ OwnK 35 184 Ex.cs wr w1.heap.size (ρ 5) done ∧ ρ 15 = ptr r ∧ ρ 0 = ptr xb)
    (fun ρ wr => leftN wr p.2 r)
    (fun ρ wr => ∃ done : List Ex, Ext w wr ∧ done.Perm (onShelf R p.1) ∧ OwnK 35 184 Ex.cs wr w1.heap.size (ρ 5) done) ?_ ?_ ?_
  · refine ⟨#[], clk, [], Nat.le_refl _, hx1, hg1, by simp, ?_, ownK_nil _ _, ?_, rfl⟩
    · have : leftOf es #[] = es := by unfold leftOf; simp
      rw [this]
      exact List.Perm.refl _
    · first | rfl | (show Value.pointer _ = _; rw [hrb])
  · rintro J hJ ρ wr ⟨seen, cc, done, hcc, hx, hr, hdone, hperm, ho, r15, r0⟩
    rw [r15, r0]
    have hesr := Ext.get hx hes
    rcases run_next_at (P := Tryz.prog) wr 0 r p.2 clk cc seen es clk hr hesr hborn hcc with ⟨h0, hrun⟩ | ⟨e, he, w2, hw2, hrun⟩
    · refine X_of hrun ?_
      (repeat (simp only [SLB, Int.reduceEq, Int.reduceNe, Int.reduceLT, Int.reduceLE, Int.reduceGT, Int.reduceGE]))
      refine hJ _ _ ⟨done, hx, ?_, ho⟩
      have hl0 : (leftOf es seen).toList = [] := List.eq_nil_of_length_eq_zero (by simpa using h0)
      rw [hl0, List.map_nil, List.append_nil] at hperm
      have ek : es.toList.map (·.key) = (onShelf R p.1).map (fun x => x.k.v) := by
        have := congrArg (List.map Prod.fst) hrows
        rw [List.map_map, List.map_map] at this
        exact this
      rw [ek] at hperm
      exact perm_of_keys hnd (fun x hx => (List.mem_filter.1 (hdone x hx)).1) (fun x hx => (List.mem_filter.1 hx).1) hperm
    · refine X_of hrun ?_
      have hele : e ∈ es.toList := by
        unfold leftOf at he
        rw [Array.toList_filter] at he
        exact (List.mem_filter.1 he).1
      have hk2 : Keep (· = r) wr (ChangeMaps.setBlock w2 r (.mapIter (some p.2) clk (seen.push e.born) clk)) := setBlock_keep r _ hw2 rfl
      have hr2 : (ChangeMaps.setBlock w2 r (.mapIter (some p.2) clk (seen.push e.born) clk)).heap[r]? = some (.mapIter (some p.2) clk (seen.push e.born) clk) := setBlock_same hw2 hr
      generalize ChangeMaps.setBlock w2 r (.mapIter (some p.2) clk (seen.push e.born) clk) = w3 at hk2 hr2 ⊢
      have hx3 : Ext w w3 := Ext.seq hx hk2 (fun g hg => by omega)
      have hes3 := Ext.get hx3 hes
      have hrne : ∀ g, (ρ 5).ownBlock = some g → g ≠ r := fun g hg => by have := (ho.lt g hg).1; omega
      have ho3 := ho.keep hk2 hrne
      (repeat (simp only [SLB, Int.reduceEq, Int.reduceNe, Int.reduceLT, Int.reduceLE, Int.reduceGT, Int.reduceGE]))
      refine X_of (run_entry_at (P := Tryz.prog) w3 r p.2 clk seen es clk e hr2 hes3 hele hbnd) ?_
      -- the entry's row
      obtain ⟨x, hxs, hxk⟩ : ∃ x ∈ onShelf R p.1, x.k.v = e.key := by
        have : (e.key, e.val) ∈ (onShelf R p.1).map kB := by rw [← hrows]; exact List.mem_map.2 ⟨e, hele, rfl⟩
        obtain ⟨x, hx, hxe⟩ := List.mem_map.1 this
        exact ⟨x, hx, by injection hxe⟩
      have hxR : x ∈ R := (List.mem_filter.1 hxs).1
      have hfx := findR_mem hnd hxR
      rw [← hxk]
      (repeat (simp only [SLB, Int.reduceEq, Int.reduceNe, Int.reduceLT, Int.reduceLE, Int.reduceGT, Int.reduceGE]))
      refine X_alloc zero_33 ?_
      have hx4 := newB_ext w3 (Value.agg (List.replicate 32 (Value.int .u8 0) ++ [Value.int .u32 0]).toArray).cells 33
      have hg4 : (newB w3 (Value.agg (List.replicate 32 (Value.int .u8 0) ++ [Value.int .u32 0]).toArray).cells 33).heap[w3.heap.size]? = some (.cells (List.replicate 32 (Value.int .u8 0) ++ [Value.int .u32 0]).toArray 33 (0, 0)) := newB_get _ _ _
      generalize newB w3 (Value.agg (List.replicate 32 (Value.int .u8 0) ++ [Value.int .u32 0]).toArray).cells 33 = w4 at hx4 hg4 ⊢
      refine XU_storeAgg (l := x.k.cs) info_33 hg4 (by rw [sz_33]; simp) (by rw [sz_33, Ky.cs_len]) (Ky.one x.k) ?_
      have hk5 := setAt_keep w4 w3.heap.size x.k.cs.toArray 33 (0, 0)
      have hg5 : (setAt w4 w3.heap.size x.k.cs.toArray 33 (0, 0)).heap[w3.heap.size]? = some (.cells x.k.cs.toArray 33 (0, 0)) := setAt_same (lt_of_blk hg4)
      generalize setAt w4 w3.heap.size x.k.cs.toArray 33 (0, 0) = w5 at hk5 hg5 ⊢
      have hx35 : Ext w3 w5 := Ext.seq hx4 hk5 (fun g hg => by omega)
      have hx35d := hx35.trans (Keep.drew (fun _ => False) w5)
      have hg5d : (drewW w5).heap[w3.heap.size]? = some (.cells x.k.cs.toArray 33 (0, 0)) := hg5
      have hqlt : w3.heap.size < (drewW w5).heap.size := lt_of_blk hg5d
      generalize w3.heap.size = q at hg5d hqlt ⊢
      have hod := ho3.ext hx35d
      have hqne : (ρ 5).ownBlock ≠ some q := own_neT hod hg5d (by decide)
      have hxd := hx3.trans hx35d
      have hrd := Ext.get hx35d hr2
      have hwsz := hxd.size
      refine ⟨Keep (fun g => some g = (ρ 5).ownBlock ∨ (drewW w5).heap.size ≤ g), Keep.frame _, ?_⟩
      generalize drewW w5 = wd at hx35d hg5d hqlt hod hxd hrd hwsz ⊢
      have hRq : ¬ (some q = (ρ 5).ownBlock ∨ wd.heap.size ≤ q) := by
        rintro (h | h)
        · exact hqne h.symm
        · omega
      have hRw : ∀ g, g < w.heap.size → ¬ (some g = (ρ 5).ownBlock ∨ wd.heap.size ≤ g) := fun g hg h => by
        rcases h with h | h
        · have := (hod.lt g h.symm).1; omega
        · omega
      have hxb : xb < w.heap.size := hlt _ c1
      have hpb : pb < w.heap.size := hlt _ c2
      refine XR_ok (Keep.frame _) (fun w' kk => key_load (kk.get hRq hg5d)) ?_
      (repeat (simp only [SLB, Int.reduceEq, Int.reduceNe, Int.reduceLT, Int.reduceLE, Int.reduceGT, Int.reduceGE, XP_field_146_0]))
      refine XR_ok (Keep.frame _) (fun w' kk => run_loadAt (v := .map (some pb)) agg_142 ((cell_blk (kk.get (hRw _ hxb) (Ext.get hxd h1))).trans rfl)) ?_
      refine XR_ok (Keep.frame _) (fun w' kk => key_load (kk.get hRq hg5d)) ?_
      refine XR_ok (Keep.frame _) (fun w' kk => run_places ((h2.ext hxd).keep kk (hRw _ hpb)) hnd x.k false) ?_
      rw [hfx, if_neg (by decide)]
      refine XP_of (run_build_184 x.k x.off x.len) ?_
      show X _ (Instr.buildSlice 150 1 #[(0, .agg x.cs.toArray)]) wd _
      refine X_buildSliceK Tryz.underlying150 el_184 (by decide) (by decide) x.cs_len ?_
      have hx6 := newB_ext wd x.cs.toArray 184
      have hg6 := newB_get wd x.cs.toArray 184
      have hrow6 : RowK 35 Ex.cs (newB wd x.cs.toArray 184) (.slice (some ⟨wd.heap.size, 0, none⟩) 1 1) [x] := by
        refine RowK.ofK (T := 184) (fr := (0, 0)) (by decide) Ex.cs_len ?_ rfl (by decide)
        rw [hg6]
        unfold cellsK
        simp
      generalize newB wd x.cs.toArray 184 = w6 at hx6 hrow6 ⊢
      refine ⟨Keep.ext hx6, ?_⟩
      have hdl : done.length ≤ 1000000 := by
        have := hperm.length_eq
        rw [List.length_append, List.length_map, List.length_map, List.length_map] at this
        have h2 := congrArg List.length hrows
        rw [List.length_map, List.length_map] at h2
        omega
      have hxw1 : w1.heap.size ≤ w6.heap.size := by have := hx6.size; have := lt_of_blk hrd; omega
      refine X_appendK Tryz.underlying150 el_184 (by decide) Ex.cs_len (fun y hy => Ex.one y) (hod.ext hx6) hrow6 (by simp; omega) (by decide) hxw1 ?_
      intro v7 w7 ho7 hk7
      refine ⟨hk7.mono (fun g _ hg => .inl hg), ?_⟩
      have hx7 : Ext w w7 := Ext.seq (hxd.trans hx6) hk7 (fun g hg => by have := (hod.lt g hg.symm).1; omega)
      have hr7 := hk7.get (fun hg => hrne r hg.symm rfl) (Ext.get hx6 hrd)
      have hnd2 : ((leftOf es seen).toList.map (·.born)).Nodup := by
        unfold leftOf
        rw [Array.toList_filter]
        exact (List.filter_sublist.map _).nodup hbnd
      have hpk := perm_pick hnd2 he
      show _ ∧ _
      refine ⟨⟨seen.push e.born, clk, done ++ [x], Nat.le_refl _, hx7, hr7, ?_, ?_, ho7, r15, r0⟩, ?_⟩
      · intro y hy
        rcases List.mem_append.1 hy with hy | hy
        · exact hdone y hy
        · rw [List.mem_singleton.1 hy]; exact hxs
      · rw [left_push, List.map_append, List.append_assoc]
        refine List.Perm.trans ?_ hperm
        refine List.Perm.append_left _ ?_
        have := (hpk.map (·.key)).symm
        rw [List.map_cons] at this
        rw [List.map_singleton, hxk]
        exact this
      · show leftN w7 p.2 r < leftN wr p.2 r
        rw [leftN_eq (Ext.get hx7 hes) hr7, leftN_eq hesr hr]
        have h1 := congrArg List.length (left_push es seen e.born)
        have h2 := hpk.length_eq
        rw [List.length_cons] at h2
        rw [Array.length_toList] at h1 h2
        omega
  · rintro ρ wr ⟨done, hx, hpm, ho⟩
    simp only [inBlockS_same, thenS_normal]
    have hl : done.length ≤ 12 := by rw [hpm.length_eq]; exact hlen
    refine Sort_spec (own_mono ho (Nat.zero_le _)) hl ?_
    intro l' w2 hp2 ho2 hk2
    have hnb : ∀ g, (ρ 5).ownBlock = some g → w1.heap.size ≤ g := fun g hg => (ho.lt g hg).1
    exact hK _ l' w2 (Ext.seq hx hk2 (fun g hg => by have := hnb g hg; omega)) (hp2.trans hpm) (OwnK.rowK (by decide) Ex.cs_len ho2) (fun g hg => by have := hnb g hg; omega)
end
end Go.Proofs.YtcigpjejbkngfaaGreatDoor
end
section
set_option maxRecDepth 8000
namespace Go.Sh
open Go Go.RowKit
section
variable {P : Program} {t k e : TypeId} {w : World} {mb : Nat} {l : List (Value × Value)}
theorem XU_updateAny (K : Maps.Keyed P k) (ht : P.underlying t = some (.map k e)) (hm : MapAt w mb l) (hl : ∀ p ∈ l, ∃ x, keyOf P k p.1 = some x) {key v : Value} {kl : Lit} (hkey : keyOf P k key = some kl) {Q : World → Prop}
    (h : ∀ w1 l', MapAt w1 mb l' → (((∀ p ∈ l, p.1 ≠ key) ∧ l' = l ++ [(key, v)]) ∨ ∃ j p, l[j]? = some p ∧ p.1 = key ∧ l' = l.set j (key, v)) → Keep (· = mb) w w1 → Q w1) : XU P (Instr.mapUpdate t (.map (some mb)) key v) w Q := by
  obtain ⟨es, clock, hb, rfl⟩ := hm
  have hes : ∀ x ∈ es.toList, ∃ y, keyOf P k x.key = some y := fun x hx => hl (x.key, x.val) (List.mem_map.2 ⟨x, hx, rfl⟩)
  have hlt := lt_of_blk hb
  rcases K.find w hkey es.toList hes with ⟨h1, h2⟩ | ⟨j, e0, h1, h2, h3⟩
  · exact XU_updateNew K ht ⟨es, clock, hb, rfl⟩ hl hkey (fun p hp => by obtain ⟨x, hx, rfl⟩ := List.mem_map.1 hp; exact h2 x hx) (fun w1 hm1 hk1 => h w1 _ hm1 (.inl ⟨fun p hp => by obtain ⟨x, hx, rfl⟩ := List.mem_map.1 hp; exact h2 x hx, rfl⟩) hk1)
  · have hj : es[j]? = some e0 := by rw [← Array.getElem?_toList]; exact h2
    have hst : (Instr.keyThatStays (((es[j]?).map (·.key)).getD key) key).run P w = .ok key w := by
      rw [hj]
      show (Instr.keyThatStays e0.key key).run P w = _
      rw [h3]
      exact K.stays w hkey
    have hr : (Instr.mapUpdate t (.map (some mb)) key v).run P w = .ok () { w with heap := w.heap.setIfInBounds mb (.map (es.modify j fun e => { e with key := key, val := v }) clock) } := by
      simp [Instr.mapUpdate, run_underlying ht, MapKept.run_getObj_map hb, K.check w _ hkey, h1, hst, Result.andThen, MapKept.run_setObj_map _ hb]
    unfold XU
    rw [hr]
    refine h _ ((es.modify j fun e => { e with key := key, val := v }).toList.map fun e => (e.key, e.val)) ⟨_, clock, by show (w.heap.setIfInBounds mb _)[mb]? = _; simp [hlt], rfl⟩ (.inr ⟨j, (e0.key, e0.val), by rw [List.getElem?_map, h2]; rfl, h3, ?_⟩) ⟨rfl, rfl, rfl, by show _ ≤ (w.heap.setIfInBounds mb _).size; simp, fun i _ hi => by show (w.heap.setIfInBounds mb _)[i]? = _; rw [Array.getElem?_setIfInBounds_ne (Ne.symm hi)]⟩
    apply List.ext_getElem?
    intro i
    rw [List.getElem?_map, Array.getElem?_toList, Array.getElem?_modify, List.getElem?_set, List.getElem?_map, Array.getElem?_toList]
    by_cases hji : j = i
    · subst hji
      have hlen : j < es.size := (Array.getElem?_eq_some_iff.1 hj).1
      simp [hj, hlen]
    · simp [hji]
end
end Go.Sh
namespace Go.Proofs.YtcigpjejbkngfaaGreatDoor
open Go Go.Sh Go.RowKit
attribute [local irreducible] X XU XP XR CALL loopS resC closS
theorem XU_tw {w : World} {mb : Nat} {L : List (List UInt8 × Value)} (hm : MapAt w mb (L.map twV)) (hn : (L.map Prod.fst).Nodup) (h32 : ∀ t ∈ L, t.1.length = 32) {s : List UInt8} (hs : s.length = 32) {v : Value} {Q : World → Prop}
    (h : ∀ (w1 : World) (L' : List (List UInt8 × Value)), MapAt w1 mb (L'.map twV) → (L'.map Prod.fst).Nodup → (∀ t, t ∈ L' ↔ t = (s, v) ∨ (t ∈ L ∧ t.1 ≠ s)) → Keep (· = mb) w w1 → Q w1) : XU Tryz.prog (Instr.mapUpdate 143 (.map (some mb)) (sumV s) v) w Q := by
  obtain ⟨kl, hkl⟩ := keyOf_sum hs
  refine XU_updateAny keyed30 Tryz.underlying143 hm (tw_all h32) hkl ?_
  rintro w1 l' hm1 (⟨hno, rfl⟩ | ⟨j, p, hj, hpk, rfl⟩) hk1
  · have e : L.map twV ++ [(sumV s, v)] = (L ++ [(s, v)]).map twV := by simp
    rw [e] at hm1
    have hns : ∀ t ∈ L, t.1 ≠ s := fun t ht he => hno (twV t) (List.mem_map.2 ⟨t, ht, rfl⟩) (by show sumV t.1 = _; rw [he])
    refine h w1 _ hm1 ?_ ?_ hk1
    · rw [List.map_append, List.nodup_append]
      refine ⟨hn, by simp, fun x hx y hy => ?_⟩
      rw [List.map_singleton, List.mem_singleton] at hy
      rw [hy]
      obtain ⟨t, ht, rfl⟩ := List.mem_map.1 hx
      exact hns t ht
    · intro t
      rw [List.mem_append, List.mem_singleton]
      constructor
      · rintro (h | h)
        · exact .inr ⟨h, hns t h⟩
        · exact .inl h
      · rintro (h | h)
        · exact .inr h
        · exact .inl h.1
  · obtain ⟨q, hq, rfl⟩ : ∃ q, L[j]? = some q ∧ twV q = p := by
      rw [List.getElem?_map] at hj
      obtain ⟨q, hq, e⟩ := Option.map_eq_some_iff.1 hj
      exact ⟨q, hq, e⟩
    have hqs : q.1 = s := sumV_inj hpk
    have hjl : j < L.length := (List.getElem?_eq_some_iff.1 hq).1
    have hqj : L[j] = q := (List.getElem?_eq_some_iff.1 hq).2
    have e : (L.map twV).set j (sumV s, v) = (L.set j (s, v)).map twV := by rw [List.map_set]
    rw [e] at hm1
    have ek : (L.set j (s, v)).map Prod.fst = L.map Prod.fst := by
      rw [List.map_set]
      apply List.ext_getElem?
      intro i
      rw [List.getElem?_set]
      split
      · rename_i hji
        subst hji
        rw [List.length_map, if_pos hjl, List.getElem?_map, hq]
        show some s = some q.1
        rw [hqs]
      · rfl
    refine h w1 _ hm1 (by rw [ek]; exact hn) (fun t => ?_) hk1
    constructor
    · intro ht
      obtain ⟨i, hi, hti⟩ := List.mem_iff_getElem.1 ht
      rw [List.length_set] at hi
      by_cases hij : j = i
      · subst hij
        rw [List.getElem_set_self] at hti
        exact .inl hti.symm
      · rw [List.getElem_set_ne hij] at hti
        refine .inr ⟨List.mem_iff_getElem.2 ⟨i, hi, hti⟩, fun he => hij ?_⟩
        have e1 : (L.map Prod.fst)[j]'(by rw [List.length_map]; exact hjl) = (L.map Prod.fst)[i]'(by rw [List.length_map]; exact hi) := by
          rw [List.getElem_map, List.getElem_map, hqj, hti, he]
          exact hqs
        exact (List.getElem_inj hn).1 e1
    · rintro (rfl | ⟨ht, hne⟩)
      · exact List.mem_iff_getElem.2 ⟨j, by rw [List.length_set]; exact hjl, by rw [List.getElem_set_self]⟩
      · obtain ⟨i, hi, hti⟩ := List.mem_iff_getElem.1 ht
        refine List.mem_iff_getElem.2 ⟨i, by rw [List.length_set]; exact hi, ?_⟩
        rw [List.getElem_set_ne (fun hji => hne ?_), hti]
        subst hji
        rw [← hti, hqj]
        exact hqs
theorem nums_put (R : List Ex) (e : Ex) (s : List UInt8) : numsOf (R ++ [e]) s = if e.k.sum = s then numsOf R s ++ [e.k.num] else numsOf R s := by
  unfold numsOf
  rw [List.filter_append, List.map_append]
  split
  · rename_i h
    rw [List.filter_cons_of_pos (by simpa using h)]
    rfl
  · rename_i h
    rw [List.filter_cons_of_neg (by simpa using h)]
    simp
theorem shelf_put (R : List Ex) (e : Ex) (a : Int) : onShelf (R ++ [e]) a = if e.off = a then onShelf R a ++ [e] else onShelf R a := by
  unfold onShelf
  rw [List.filter_append]
  split
  · rename_i h
    rw [List.filter_cons_of_pos (by simpa using h)]
    rfl
  · rename_i h
    rw [List.filter_cons_of_neg (by simpa using h)]
    simp
theorem run_eq_map (o1 o2 : Operand) (v : Option Nat) (w : World) : (binOpG .eql 157 o1 o2 (.map v) (.map none)).run Tryz.prog w = .ok (.bool v.isNone) w := by
  cases v <;> kernel_rfl
section
variable {w : World} {K : Value → World → Prop}
set_option maxHeartbeats 4000000 in
theorem IPut_spec {D : Nat → Prop} {xb : Nat} {R : List Ex} {e : Ex} (h : IdxAt w D xb R) (hR : R.length ≤ 1000000) (hk : e.k ∉ R.map Ex.k) (hnum : ∀ x ∈ numsOf R e.k.sum, x < e.k.num)
    (hK : ∀ w1, Keep D w w1 → IdxAt w1 (fun g => D g ∨ (w.heap.size ≤ g ∧ g < w1.heap.size)) xb (R ++ [e]) → K (.bool false) w1) : CALL Tryz.prog 76 #[ptr xb, e.k.v, plV (e.off, e.len)] w K := by
  have hI := h
  obtain ⟨⟨pb, tb, sb, tw, sh, h1, h2, ⟨a1, a2, a3, a4, a5⟩, ⟨b1, b2, b3, b4, b5⟩, c1, c2, c3, c4, c5, c6, c7⟩, hlt, hnd⟩ := h
  have h32 : ∀ t ∈ tw, t.1.length = 32 := fun t ht => by
    obtain ⟨r, _, hr⟩ := (a3 t.1).1 (List.mem_map.2 ⟨t, ht, rfl⟩)
    rw [← hr]; exact r.k.len
  have lxb := hlt _ c1
  have lpb := hlt _ c2
  have ltb := hlt _ c3
  have lsb := hlt _ c4
  apply call_index_Index_Put
  unfold B_index_Index_Put
  refine X_box ?_
  have hx1 := newB_ext w e.k.v.cells 33
  have hg1 : (newB w e.k.v.cells 33).heap[w.heap.size]? = some (.cells e.k.cs.toArray 33 (0, 0)) := newB_get w e.k.v.cells 33
  have hs1 : (newB w e.k.v.cells 33).heap.size = w.heap.size + 1 := newB_size _ _ _
  generalize newB w e.k.v.cells 33 = w1 at hx1 hg1 hs1 ⊢
  generalize hkb : w.heap.size = kb at hg1 hs1 lxb lpb ltb lsb hK ⊢
  refine X_box ?_
  have hx2 := newB_ext w1 (plV (e.off, e.len)).cells 104
  have hg2 : (newB w1 (plV (e.off, e.len)).cells 104).heap[w1.heap.size]? = some (.cells #[.int .i64 e.off, .int .i64 e.len] 104 (0, 0)) := newB_get _ _ _
  have hs2 : (newB w1 (plV (e.off, e.len)).cells 104).heap.size = w1.heap.size + 1 := newB_size _ _ _
  generalize newB w1 (plV (e.off, e.len)).cells 104 = w2 at hx2 hg2 hs2 ⊢
  generalize hqb : w1.heap.size = qb at hg2 hs1 hs2 ⊢
  (repeat (simp only [SLB, Int.reduceEq, Int.reduceNe, Int.reduceLT, Int.reduceLE, Int.reduceGT, Int.reduceGE]))
  refine X_of (key_load (Ext.get hx2 hg1)) ?_
  refine IDrop_none (hI.ext (hx1.trans hx2)) hk ?_
  intro w3 hx3
  have hx03 := (hx1.trans hx2).trans hx3
  have hg13 := Ext.get hx3 (Ext.get hx2 hg1)
  have hg23 := Ext.get hx3 hg2
  have hs3 := hx3.size
  -- the place
  have kd3 := Keep.drew (fun _ => False) w3
  have hx0d := hx03.trans kd3
  have hg1d := Ext.get kd3 hg13
  have hg2d := Ext.get kd3 hg23
  have sd3 : (drewW w3).heap.size = w3.heap.size := rfl
  refine ⟨Ext, Ext.frame, ?_⟩
  generalize drewW w3 = wd at hx0d hg1d hg2d sd3 ⊢
  (repeat (simp only [SLB, Int.reduceEq, Int.reduceNe, Int.reduceLT, Int.reduceLE, Int.reduceGT, Int.reduceGE, XP_field_146_0]))
  refine XR_ok Ext.frame (fun w' kk => run_loadAt (v := .map (some pb)) agg_142 ((cell_blk (Ext.get (hx0d.trans kk) h1)).trans rfl)) ?_
  refine XR_ok Ext.frame (fun w' kk => key_load (Ext.get kk hg1d)) ?_
  refine XR_ok Ext.frame (fun w' kk => load_cells Tryz.underlying104 agg_104 info_104 (l := [.int .i64 e.off, .int .i64 e.len]) (by rw [sz_104]; rfl) (fun j u hj => by rw [add_plain, Nat.zero_add, cell_blk (Ext.get kk hg2d)]; rw [← List.getElem?_toArray] at hj; exact hj)) ?_
  obtain ⟨kl, hkl⟩ := keyOf_ky e.k
  refine XU_updateNew keyed33 Tryz.underlying142 (h2.ext hx0d) (keys_all R) hkl (fun p hp he => by
    obtain ⟨r, hr, rfl⟩ := List.mem_map.1 hp
    exact hk (List.mem_map.2 ⟨r, hr, Ky.v_inj he⟩)) ?_
  intro w4 hm4 hk4
  have hm4' : MapAt w4 pb ((R ++ [e]).map plE) := by rw [List.map_append]; exact hm4
  have k04 : Keep (· = pb) w w4 := (Keep.ext hx0d).trans hk4
  have hg14 := hk4.get (show ¬ kb = pb by omega) hg1d
  have hg24 := hk4.get (show ¬ qb = pb by omega) hg2d
  have hs4 := hk4.size
  have h14 : w4.heap[xb]? = some (.cells #[.map (some pb), .map (some tb), .map (some sb)] 146 (0, 0)) := k04.get (fun he => by
    obtain ⟨es, cl, hmm, _⟩ := h2
    rw [he, hmm] at h1
    cases h1) h1
  have htw4 : MapAt w4 tb (tw.map twV) := (a1.ext hx0d).keep hk4 (fun he => c5 he.symm)
  have how4 : ∀ t ∈ tw, OwnK 1 31 u32C w4 0 t.2 (numsOf R t.1) := fun t ht => ((a4 t ht).1.ext hx0d).keep hk4 (fun g hg he => own_neM' ((a4 t ht).1.ext hx0d) (h2.ext hx0d) (by rw [hg, he]))
  have hsum : (Instr.loadAt 30 (ptr kb)).run Tryz.prog w4 = .ok (sumV e.k.sum) w4 ∧ ∀ w', Ext w4 w' → (Instr.loadAt 30 (ptr kb)).run Tryz.prog w' = .ok (sumV e.k.sum) w' := by
    have key : ∀ w', Ext w4 w' → (Instr.loadAt 30 (ptr kb)).run Tryz.prog w' = .ok (sumV e.k.sum) w' := fun w' kk =>
      load_cells Tryz.underlying30 agg_30 info_30 (l := B8 e.k.sum) (by rw [sz_30]; simp [e.k.len]) (fun j u hj => by
        rw [add_plain, Nat.zero_add, cell_blk (Ext.get kk hg14), List.getElem?_toArray]
        unfold Ky.cs
        rw [List.getElem?_append_left ((List.getElem?_eq_some_iff.1 hj).1)]
        exact hj)
    exact ⟨key _ (Keep.refl _ _), key⟩
  have hnumC : e.k.cs.toArray[32]? = some (.int .u32 (e.k.num : Int)) := by
    rw [List.getElem?_toArray]
    unfold Ky.cs
    rw [List.getElem?_append_right (by simp [e.k.len])]
    simp [e.k.len]
  -- what has this fingerprint
  have main : ∃ v, (∀ w', Ext w4 w' → (Instr.lookup 143 (.map (some tb)) (sumV e.k.sum) false).run Tryz.prog w' = .ok v w') ∧ OwnK 1 31 u32C w4 0 v (numsOf R e.k.sum) ∧ ((e.k.sum ∉ tw.map Prod.fst ∧ v = .slice none 0 0) ∨ ∃ t ∈ tw, t.1 = e.k.sum ∧ t.2 = v) := by
    rcases run_tw htw4 a3 how4 e.k.len with ⟨hni, hnil, _⟩ | ⟨t, ht, htd, _⟩
    · refine ⟨.slice none 0 0, fun w' kk => ?_, by rw [hnil]; exact ownK_nil _ _, .inl ⟨hni, rfl⟩⟩
      rcases run_tw (htw4.ext kk) a3 (fun t ht => (how4 t ht).ext kk) e.k.len with ⟨_, _, hr⟩ | ⟨t, ht, htd, _⟩
      · exact hr
      · exact absurd (List.mem_map.2 ⟨t, ht, htd⟩) hni
    · refine ⟨t.2, fun w' kk => ?_, by rw [← htd]; exact how4 t ht, .inr ⟨t, ht, htd, rfl⟩⟩
      rcases run_tw (htw4.ext kk) a3 (fun t ht => (how4 t ht).ext kk) e.k.len with ⟨hni, _, _⟩ | ⟨t', ht', htd', hr⟩
      · exact absurd (List.mem_map.2 ⟨t, ht, htd⟩) hni
      · have : t' = t := fst_inj a2 ht' ht (htd'.trans htd.symm)
        rw [this] at hr
        exact hr
  obtain ⟨v, hlk, hov, hwho⟩ := main
  have hvD : ∀ g, v.ownBlock = some g → D g := fun g hg => by
    rcases hwho with ⟨_, rfl⟩ | ⟨t, ht, _, rfl⟩
    · cases hg
    · exact (a4 t ht).2 g hg
  have hnl : (numsOf R e.k.sum).length ≤ 1000000 := by
    unfold numsOf
    rw [List.length_map]
    exact Nat.le_trans (List.length_filter_le _ _) hR
  have kd4 := Keep.drew (fun _ => False) w4
  refine ⟨Ext, Ext.frame, ?_⟩
  have sd4 : (drewW w4).heap.size = w4.heap.size := rfl
  generalize drewW w4 = we at kd4 sd4 ⊢
  (repeat (simp only [SLB, Int.reduceEq, Int.reduceNe, Int.reduceLT, Int.reduceLE, Int.reduceGT, Int.reduceGE, XP_field_146_1]))
  refine XR_ok Ext.frame (fun w' kk => run_loadAt (v := .map (some tb)) agg_143 ((cell_blk (Ext.get (kd4.trans kk) h14)).trans rfl)) ?_
  rw [XP_field_33_0]
  refine XR_ok Ext.frame (fun w' kk => hsum.2 w' (kd4.trans kk)) ?_
  refine XR_ok Ext.frame (fun w' kk => hlk w' (kd4.trans kk)) ?_
  rw [X_field_33_1]
  refine X_of (run_loadAt (v := .int .u32 (e.k.num : Int)) agg_31 ((cell_blk (Ext.get kd4 hg14)).trans hnumC)) ?_
  refine Bin_spec (OwnK.rowK (by decide) u32C_len (hov.ext kd4)) hnl hnum ?_
  (repeat (simp only [SLB, Int.reduceEq, Int.reduceNe, Int.reduceLT, Int.reduceLE, Int.reduceGT, Int.reduceGE]))
  have kd5 := kd4.trans (Keep.drew (fun _ => False) we)
  have sd5 : (drewW we).heap.size = we.heap.size := rfl
  refine ⟨Keep (fun g => some g = v.ownBlock ∨ (drewW we).heap.size ≤ g), Keep.frame _, ?_⟩
  generalize drewW we = wf at kd5 sd5 ⊢
  have hRk : ¬ (some kb = v.ownBlock ∨ wf.heap.size ≤ kb) := by
    rintro (h | h)
    · exact own_neT hov hg14 (by decide) h.symm
    · have := lt_of_blk hg14; omega
  have hRx : ¬ (some xb = v.ownBlock ∨ wf.heap.size ≤ xb) := by
    rintro (h | h)
    · exact own_neT hov h14 (by decide) h.symm
    · omega
  (repeat (simp only [SLB, Int.reduceEq, Int.reduceNe, Int.reduceLT, Int.reduceLE, Int.reduceGT, Int.reduceGE, XP_field_146_1]))
  refine XR_ok (Keep.frame _) (fun w' kk => run_loadAt (v := .map (some tb)) agg_143 ((cell_blk (kk.get hRx (Ext.get kd5 h14))).trans rfl)) ?_
  rw [XP_field_33_0]
  have hg1f := Ext.get kd5 hg14
  refine XR_ok (Keep.frame _) (fun w' kk => load_cells Tryz.underlying30 agg_30 info_30 (l := B8 e.k.sum) (by rw [sz_30]; simp [e.k.len]) (fun j u hj => by
        rw [add_plain, Nat.zero_add, cell_blk (kk.get hRk hg1f), List.getElem?_toArray]
        unfold Ky.cs
        rw [List.getElem?_append_left ((List.getElem?_eq_some_iff.1 hj).1)]
        exact hj)) ?_
  rw [XP_field_33_1]
  refine XR_ok (Keep.frame _) (fun w' kk => run_loadAt (v := .int .u32 (e.k.num : Int)) agg_31 ((cell_blk (kk.get hRk hg1f)).trans hnumC)) ?_
  refine X_buildSlice1 Tryz.underlying141 el_31 rfl ?_
  have hx6 := newB_ext wf #[Value.int .u32 (e.k.num : Int)] 31
  have hg6 := newB_get wf #[Value.int .u32 (e.k.num : Int)] 31
  have hs6 : (newB wf #[Value.int .u32 (e.k.num : Int)] 31).heap.size = wf.heap.size + 1 := newB_size _ _ _
  generalize newB wf #[Value.int .u32 (e.k.num : Int)] 31 = w6 at hx6 hg6 hs6 ⊢
  refine ⟨Keep.ext hx6, ?_⟩
  have hx46 := kd5.trans hx6
  refine Insert_spec (base := 0) (hov.ext hx46) hnl (Nat.zero_le _) hg6 ?_
  intro v' w7 ho7 hk7 hnb7
  refine ⟨hk7.mono (fun g _ hg => .inl hg), ?_⟩
  have hs7 := hk7.size
  have hneq : ∀ t ∈ tw, t.1 ≠ e.k.sum → ∀ g, t.2.ownBlock = some g → ¬ some g = v.ownBlock := fun t ht hne g hg he => by
    rcases hwho with ⟨_, rfl⟩ | ⟨t', ht', ht1, rfl⟩
    · cases he
    · exact hne ((a5 t ht t' ht' g hg he.symm).trans ht1)
  have htb7 : MapAt w7 tb (tw.map twV) := (htw4.ext hx46).keep hk7 (fun he => own_neM' (hov.ext hx46) (htw4.ext hx46) he.symm)
  have how7 : ∀ t ∈ tw, t.1 ≠ e.k.sum → OwnK 1 31 u32C w7 0 t.2 (numsOf R t.1) := fun t ht hne => ((how4 t ht).ext hx46).keep hk7 (hneq t ht hne)
  refine XU_tw htb7 a2 h32 e.k.len ?_
  intro w8 tw' hm8 hn8 hin8 hk8
  have hs8 := hk8.size
  have k48 : Keep (fun g => some g = v.ownBlock ∨ g = tb) w4 w8 := ((Keep.ext hx46).trans (hk7.mono (fun _ _ h => .inl h))).trans (hk8.mono (fun _ _ h => .inr h))
  have hvtb : v.ownBlock ≠ some tb := own_neM' hov htw4
  have hvpb : v.ownBlock ≠ some pb := own_neM' hov hm4
  have hm8p : MapAt w8 pb ((R ++ [e]).map plE) := hm4'.keep k48 (by rintro (h | h); exact hvpb h.symm; exact c5 h)
  have h18 : w8.heap[xb]? = some (.cells #[.map (some pb), .map (some tb), .map (some sb)] 146 (0, 0)) := k48.get (by
    rintro (h | h)
    · exact own_neT hov h14 (by decide) h.symm
    · obtain ⟨es, cl, hmm, _⟩ := htw4
      rw [h, hmm] at h14
      cases h14) h14
  have hg18 : w8.heap[kb]? = some (.cells e.k.cs.toArray 33 (0, 0)) := k48.get (by
    rintro (h | h)
    · exact own_neT hov hg14 (by decide) h.symm
    · omega) hg14
  have hg28 : w8.heap[qb]? = some (.cells #[.int .i64 e.off, .int .i64 e.len] 104 (0, 0)) := k48.get (by
    rintro (h | h)
    · exact own_neT hov hg24 (by decide) h.symm
    · omega) hg24
  have hv'7 : v'.ownBlock ≠ some tb := own_neM' ho7 htb7
  have hnp : numsOf (R ++ [e]) e.k.sum = numsOf R e.k.sum ++ [e.k.num] := by rw [nums_put, if_pos rfl]
  have hno : ∀ s, s ≠ e.k.sum → numsOf (R ++ [e]) s = numsOf R s := fun s hs => by rw [nums_put, if_neg (fun h => hs h.symm)]
  have hszw8 : w4.heap.size ≤ w8.heap.size := k48.size
  -- the twins of R ++ [e]
  have twOk : MapAt w8 tb (tw'.map twV) ∧ (tw'.map Prod.fst).Nodup ∧ (∀ s, s ∈ tw'.map Prod.fst ↔ ∃ r ∈ R ++ [e], r.k.sum = s) ∧
      (∀ t ∈ tw', OwnK 1 31 u32C w8 0 t.2 (numsOf (R ++ [e]) t.1) ∧ ∀ g, t.2.ownBlock = some g → D g ∨ (kb ≤ g ∧ g < w8.heap.size)) ∧
      ∀ t ∈ tw', ∀ t' ∈ tw', ∀ g, t.2.ownBlock = some g → t'.2.ownBlock = some g → t.1 = t'.1 := by
    refine ⟨hm8, hn8, fun s => ?_, fun t ht => ?_, fun t ht t' ht' g hg hg' => ?_⟩
    · constructor
      · intro hs
        obtain ⟨t, ht, rfl⟩ := List.mem_map.1 hs
        rcases (hin8 t).1 ht with rfl | ⟨ht, _⟩
        · exact ⟨e, by simp, rfl⟩
        · obtain ⟨r, hr, hrs⟩ := (a3 t.1).1 (List.mem_map.2 ⟨t, ht, rfl⟩)
          exact ⟨r, List.mem_append.2 (.inl hr), hrs⟩
      · rintro ⟨r, hr, rfl⟩
        by_cases hrs : r.k.sum = e.k.sum
        · exact List.mem_map.2 ⟨(e.k.sum, v'), (hin8 _).2 (.inl rfl), hrs.symm⟩
        · rcases List.mem_append.1 hr with hr | hr
          · obtain ⟨t, ht, hts⟩ := List.mem_map.1 ((a3 r.k.sum).2 ⟨r, hr, rfl⟩)
            exact List.mem_map.2 ⟨t, (hin8 _).2 (.inr ⟨ht, by rw [hts]; exact hrs⟩), hts⟩
          · rw [List.mem_singleton.1 hr] at hrs
            exact absurd rfl hrs
    · rcases (hin8 t).1 ht with rfl | ⟨ht, hne⟩
      · refine ⟨?_, fun g hg => ?_⟩
        · show OwnK 1 31 u32C w8 0 v' (numsOf (R ++ [e]) e.k.sum)
          rw [hnp]
          exact ho7.keep hk8 (fun g hg he => hv'7 (by rw [hg, he]))
        · have hlt7 := (ho7.lt g hg).2
          rcases hnb7 g hg with h | h
          · exact .inl (hvD g h)
          · exact .inr ⟨by omega, by omega⟩
      · refine ⟨?_, fun g hg => .inl ((a4 t ht).2 g hg)⟩
        rw [hno _ hne]
        exact (how7 t ht hne).keep hk8 (fun g hg he => own_neM' (how7 t ht hne) htb7 (by rw [hg, he]))
    · have key : ∀ t ∈ tw, t.1 ≠ e.k.sum → ∀ g, t.2.ownBlock = some g → v'.ownBlock = some g → False := fun t ht hne g hg hg' => by
        rcases hnb7 g hg' with h | h
        · exact hneq t ht hne g hg h.symm
        · have := hlt _ ((a4 t ht).2 g hg); omega
      rcases (hin8 t).1 ht with rfl | ⟨ht, hne⟩ <;> rcases (hin8 t').1 ht' with rfl | ⟨ht', hne'⟩
      · rfl
      · exact (key t' ht' hne' g hg' hg).elim
      · exact (key t ht hne g hg hg').elim
      · exact a5 t ht t' ht' g hg hg'
  -- the shelves as they were
  have k08 : Keep (fun g => g = pb ∨ some g = v.ownBlock ∨ g = tb) w w8 := (k04.mono (fun _ _ h => .inl h)).trans (k48.mono (fun _ _ h => .inr h))
  have hsb8 : MapAt w8 sb (sh.map tbV) := b1.keep k08 (by
    rintro (h | h | h)
    · exact c6 h.symm
    · exact own_neM' hov ((b1.keep k04 (fun h => c6 h.symm))) h.symm
    · exact c7 h.symm)
  have hshm : ∀ p ∈ sh, MapS w8 p.2 ((onShelf R p.1).map kB) := fun p hp => (b4 p hp).1.keep k08 (by
    obtain ⟨hpm, _, e1, e2, e3⟩ := b4 p hp
    rintro (h | h | h)
    · exact e1 h
    · exact own_neM' hov ((hpm.at.keep k04 (fun h => e1 h))) h.symm
    · exact e2 h)
  have kD8 : Keep D w w8 := k08.mono (fun g _ h => by
    rcases h with h | h | h
    · rw [h]; exact c2
    · exact hvD g h.symm
    · rw [h]; exact c3)
  have hoi : I64 e.off := ⟨e.o1, e.o2⟩
  have hshi := sh_all b3
  refine joinS_of (fun ρ w9 => ∃ (sh' : List (Int × Nat)) (b : Nat), ρ 0 = ptr xb ∧ ρ 4 = ptr kb ∧ ρ 5 = ptr qb ∧ ρ 7 = .bool false ∧ Keep (fun g => g = sb) w8 w9 ∧ MapAt w9 sb (sh'.map tbV) ∧ (sh'.map Prod.fst).Nodup ∧ (∀ s ∈ sh'.map Prod.fst, I64 s) ∧
      MapS w9 b ((onShelf R e.off).map kB) ∧ (∀ p, p ∈ sh' ↔ p = (e.off, b) ∨ (p ∈ sh ∧ p.1 ≠ e.off)) ∧ (D b ∨ (w8.heap.size ≤ b ∧ b < w9.heap.size)) ∧ b ≠ pb ∧ b ≠ tb ∧ b ≠ sb ∧ ∀ p ∈ sh, p.1 ≠ e.off → p.2 ≠ b) ?_ ?_
  · rintro ρ w9 ⟨sh', b, r0, r4, r5, r7, hk9, hm9, hn9, hi9, hb9, hin9, hDb, nb1, nb2, nb3, hdis⟩
    rw [r0, r4, r5, r7]
    have hxs : xb ≠ sb := fun he => by
      obtain ⟨es, cl, hmm, _⟩ := hsb8
      rw [← he, h18] at hmm
      cases hmm
    have h19 := hk9.get hxs h18
    have hg19 := hk9.get (show ¬ kb = sb by omega) hg18
    have hg29 := hk9.get (show ¬ qb = sb by omega) hg28
    have kd9 := Keep.drew (fun _ => False) w9
    refine ⟨Ext, Ext.frame, ?_⟩
    have sd9 : (drewW w9).heap.size = w9.heap.size := rfl
    generalize drewW w9 = wg at kd9 sd9 ⊢
    (repeat (simp only [SLB, Int.reduceEq, Int.reduceNe, Int.reduceLT, Int.reduceLE, Int.reduceGT, Int.reduceGE, XP_field_146_2]))
    refine XR_ok Ext.frame (fun w' kk => run_loadAt (v := .map (some sb)) agg_144 ((cell_blk (Ext.get (kd9.trans kk) h19)).trans rfl)) ?_
    rw [XP_field_104_0]
    refine XR_ok Ext.frame (fun w' kk => run_loadAt (v := .int .i64 e.off) agg_3 ((cell_blk (Ext.get (kd9.trans kk) hg29)).trans rfl)) ?_
    have hpm : (e.off, b) ∈ sh' := (hin9 _).2 (.inl rfl)
    refine XR_ok Ext.frame (fun w' kk => run_shelf (hm9.ext (kd9.trans kk)) hn9 hi9 hpm) ?_
    refine XR_ok Ext.frame (fun w' kk => key_load (Ext.get (kd9.trans kk) hg19)) ?_
    have hknew : ∀ p ∈ (onShelf R e.off).map kB, p.1 ≠ e.k.v := fun p hp he => by
      obtain ⟨r, hr, rfl⟩ := List.mem_map.1 hp
      exact hk (List.mem_map.2 ⟨r, (List.mem_filter.1 hr).1, Ky.v_inj he⟩)
    refine XU_updateNewS keyed33 Tryz.underlying157 (hb9.ext kd9) (keysB_all _) hkl hknew ?_
    intro w10 hm10 hk10
    have hs9 := hk9.size
    have hs10 := hk10.size
    have k810 : Keep (fun g => g = sb ∨ g = b) w8 w10 := ((hk9.mono (fun _ _ h => .inl h)).trans (Keep.ext kd9)).trans (hk10.mono (fun _ _ h => .inr h))
    have hpbtb : ¬ (pb = sb ∨ pb = b) := by rintro (h | h); exact c6 h; exact nb1 h.symm
    have htbsb : ¬ (tb = sb ∨ tb = b) := by rintro (h | h); exact c7 h; exact nb2 h.symm
    have hxbn : ¬ (xb = sb ∨ xb = b) := by
      rintro (h | h)
      · exact hxs h
      · obtain ⟨es, cl, hmm, _⟩ := hb9
        rw [← h, h19] at hmm
        cases hmm
    have hsh10 : MapAt w10 sb (sh'.map tbV) := (hm9.ext kd9).keep hk10 (fun h => nb3 h.symm)
    refine hK w10 ?_ ⟨⟨pb, tb, sb, tw', sh', k810.get hxbn h18, hm8p.keep k810 hpbtb, ⟨twOk.1.keep k810 htbsb, twOk.2.1, twOk.2.2.1, fun t ht => ⟨(twOk.2.2.2.1 t ht).1.keep k810 (fun g hg he => ?_), fun g hg => ?_⟩, twOk.2.2.2.2⟩, ⟨hsh10, hn9, fun a => ?_, fun p hp => ?_, fun p hp p' hp' he => ?_⟩, .inl c1, .inl c2, .inl c3, .inl c4, c5, c6, c7⟩, ?_, ?_⟩
    · refine kD8.seq (k810.mono (D' := fun g => D g ∨ w8.heap.size ≤ g) (fun g hg h => ?_)) (fun g hg h => ?_)
      · rcases h with h | h
        · rw [h]; exact .inl c4
        · rw [h]
          rcases hDb with h2 | h2
          · exact .inl h2
          · exact .inr h2.1
      · rcases h with h | h
        · exact h
        · have := kD8.size; omega
    · rcases he with he | he
      · exact own_neM' (twOk.2.2.2.1 t ht).1 hsb8 (by rw [hg, he])
      · rcases hDb with h2 | h2
        · -- an old map
          have hbw9 := hb9.at
          have ho9 := (twOk.2.2.2.1 t ht).1.keep hk9 (fun g hg he => own_neM' (twOk.2.2.2.1 t ht).1 hsb8 (by rw [hg, he]))
          exact own_neM' ho9 hbw9 (by rw [hg, he])
        · have := ((twOk.2.2.2.1 t ht).1.lt g hg).2; omega
    · rcases (twOk.2.2.2.1 t ht).2 g hg with h | h
      · exact .inl h
      · exact .inr ⟨h.1, by omega⟩
    · constructor
      · intro ha
        obtain ⟨p, hp, rfl⟩ := List.mem_map.1 ha
        rcases (hin9 p).1 hp with rfl | ⟨hp, _⟩
        · exact ⟨e, by simp, rfl⟩
        · obtain ⟨r, hr, hra⟩ := (b3 p.1).1 (List.mem_map.2 ⟨p, hp, rfl⟩)
          exact ⟨r, List.mem_append.2 (.inl hr), hra⟩
      · rintro ⟨r, hr, rfl⟩
        by_cases hre : r.off = e.off
        · exact List.mem_map.2 ⟨(e.off, b), hpm, hre.symm⟩
        · rcases List.mem_append.1 hr with hr | hr
          · obtain ⟨p, hp, hpa⟩ := List.mem_map.1 ((b3 r.off).2 ⟨r, hr, rfl⟩)
            exact List.mem_map.2 ⟨p, (hin9 p).2 (.inr ⟨hp, by rw [hpa]; exact hre⟩), hpa⟩
          · rw [List.mem_singleton.1 hr] at hre
            exact absurd rfl hre
    · rcases (hin9 p).1 hp with rfl | ⟨hp, hne⟩
      · refine ⟨?_, ?_, nb1, nb2, nb3⟩
        · show MapS w10 b ((onShelf (R ++ [e]) e.off).map kB)
          rw [shelf_put, if_pos rfl, List.map_append]
          exact hm10
        · rcases hDb with h2 | h2
          · exact .inl h2
          · exact .inr ⟨by omega, by omega⟩
      · obtain ⟨_, e0, e1, e2, e3⟩ := b4 p hp
        refine ⟨?_, .inl e0, e1, e2, e3⟩
        rw [shelf_put, if_neg (fun h => hne h.symm)]
        exact (hshm p hp).keep k810 (by
          rintro (h | h)
          · exact e3 h
          · exact hdis p hp hne h)
    · rcases (hin9 p).1 hp with rfl | ⟨hp, hne⟩ <;> rcases (hin9 p').1 hp' with rfl | ⟨hp', hne'⟩
      · rfl
      · exact absurd he.symm (hdis p' hp' hne')
      · exact absurd he (hdis p hp hne)
      · exact b5 p hp p' hp' he
    · rintro g (hg | hg)
      · have := hlt g hg; omega
      · exact hg.2
    · rw [List.map_append, List.nodup_append]
      refine ⟨hnd, by simp, fun x hx y hy => ?_⟩
      rw [List.map_singleton, List.mem_singleton] at hy
      rw [hy]
      exact fun he => hk (he ▸ hx)
  · intro J1 hJ1
    have kd8 := Keep.drew (fun _ => False) w8
    refine ⟨Ext, Ext.frame, ?_⟩
    have sd8 : (drewW w8).heap.size = w8.heap.size := rfl
    generalize drewW w8 = wg at kd8 sd8 ⊢
    (repeat (simp only [SLB, Int.reduceEq, Int.reduceNe, Int.reduceLT, Int.reduceLE, Int.reduceGT, Int.reduceGE, XP_field_146_2]))
    refine XR_ok Ext.frame (fun w' kk => run_loadAt (v := .map (some sb)) agg_144 ((cell_blk (Ext.get (kd8.trans kk) h18)).trans rfl)) ?_
    rw [XP_field_104_0]
    refine XR_ok Ext.frame (fun w' kk => run_loadAt (v := .int .i64 e.off) agg_3 ((cell_blk (Ext.get (kd8.trans kk) hg28)).trans rfl)) ?_
    by_cases hoff : e.off ∈ sh.map Prod.fst
    · obtain ⟨p, hp, hpo⟩ := List.mem_map.1 hoff
      have hl : ∀ w', Ext w8 w' → (Instr.lookup 144 (.map (some sb)) (.int .i64 e.off) false).run Tryz.prog w' = .ok (.map (some p.2)) w' := fun w' kk => by
        rw [← hpo]
        exact run_shelf (hsb8.ext kk) b2 hshi hp
      refine XR_ok Ext.frame (fun w' kk => hl w' (kd8.trans kk)) ?_
      refine XP_of (fun w' => run_eq_map _ _ _ w') ?_
      (repeat (simp only [SLB, Int.reduceEq, Int.reduceNe, Int.reduceLT, Int.reduceLE, Int.reduceGT, Int.reduceGE]))
      obtain ⟨_, e0, e1, e2, e3⟩ := b4 p hp
      refine hJ1 _ _ ⟨sh, p.2, rfl, rfl, rfl, rfl, Keep.ext kd8, hsb8.ext kd8, b2, hshi, ?_, fun q => ?_, .inl e0, e1, e2, e3, fun q hq hne he => ?_⟩
      · rw [← hpo]; exact (hshm p hp).ext kd8
      · constructor
        · intro hq
          by_cases hqo : q.1 = e.off
          · left
            have : q = p := fst_inj b2 hq hp (hqo.trans hpo.symm)
            rw [this, ← hpo]
          · exact .inr ⟨hq, hqo⟩
        · rintro (rfl | ⟨hq, _⟩)
          · rw [← hpo]; exact hp
          · exact hq
      · exact hne ((b5 q hq p hp he).trans hpo)
    · have hl : ∀ w', Ext w8 w' → (Instr.lookup 144 (.map (some sb)) (.int .i64 e.off) false).run Tryz.prog w' = .ok (.map none) w' := fun w' kk => by
        rcases run_lookupM (P := Tryz.prog) keyed3 Tryz.underlying144 zero_157 (hsb8.ext kk) (tb_keys sh hshi) (keyOf_i64 hoi) false with ⟨hno, hrun⟩ | ⟨q, hq, hqk, hrun⟩
        · exact hrun
        · obtain ⟨x, hx, rfl⟩ := List.mem_map.1 hq
          have hxs : x.1 = e.off := by injection hqk
          exact absurd (List.mem_map.2 ⟨x, hx, hxs⟩) hoff
      refine XR_ok Ext.frame (fun w' kk => hl w' (kd8.trans kk)) ?_
      refine XP_of (fun w' => run_eq_map _ _ _ w') ?_
      (repeat (simp only [SLB, Int.reduceEq, Int.reduceNe, Int.reduceLT, Int.reduceLE, Int.reduceGT, Int.reduceGE]))
      have kdg := kd8.trans (Keep.drew (fun _ => False) wg)
      refine ⟨Ext, Ext.frame, ?_⟩
      have sdg : (drewW wg).heap.size = wg.heap.size := rfl
      generalize drewW wg = wh at kdg sdg ⊢
      (repeat (simp only [SLB, Int.reduceEq, Int.reduceNe, Int.reduceLT, Int.reduceLE, Int.reduceGT, Int.reduceGE, XP_field_146_2]))
      refine XR_ok Ext.frame (fun w' kk => run_loadAt (v := .map (some sb)) agg_144 ((cell_blk (Ext.get (kdg.trans kk) h18)).trans rfl)) ?_
      rw [XP_field_104_0]
      refine XR_ok Ext.frame (fun w' kk => run_loadAt (v := .int .i64 e.off) agg_3 ((cell_blk (Ext.get (kdg.trans kk) hg28)).trans rfl)) ?_
      refine X_makeMap0 ?_
      have hxm := newM_ext wh
      have hmS := newM_S wh
      have hsm : (newM wh).heap.size = wh.heap.size + 1 := by show (wh.heap.push _).size = _; rw [Array.size_push]
      generalize newM wh = wi at hxm hmS hsm ⊢
      refine ⟨hxm, ?_⟩
      have hxi := kdg.trans hxm
      refine XU_updateNew keyed3 Tryz.underlying144 (hsb8.ext hxi) (tb_keys sh hshi) (keyOf_i64 hoi) (fun p hp he => ?_) ?_
      · obtain ⟨x, hx, rfl⟩ := List.mem_map.1 hp
        have hxs : x.1 = e.off := by injection he
        exact hoff (List.mem_map.2 ⟨x, hx, hxs⟩)
      intro wj hmj hkj
      have hsj := hkj.size
      have hnil : onShelf R e.off = [] := by
        unfold onShelf
        exact List.filter_eq_nil_iff.2 (fun r hr he => hoff ((b3 e.off).2 ⟨r, hr, by simpa using he⟩))
      have eapp : (sh ++ [(e.off, wh.heap.size)]).map tbV = sh.map tbV ++ [(Value.int .i64 e.off, Value.map (some wh.heap.size))] := by simp
      have hltb : ∀ g, D g → g ≠ wh.heap.size := fun g hg => by have := hlt g hg; omega
      refine hJ1 _ _ ⟨sh ++ [(e.off, wh.heap.size)], wh.heap.size, rfl, rfl, rfl, rfl, (Keep.ext hxi).trans hkj, by rw [eapp]; exact hmj, ?_, ?_, ?_, fun q => ?_, .inr ⟨by omega, by omega⟩, (hltb _ c2).symm, (hltb _ c3).symm, (hltb _ c4).symm, fun q hq _ he => hltb _ (b4 q hq).2.1 he⟩
      · rw [List.map_append, List.nodup_append]
        refine ⟨b2, by simp, fun x hx y hy => ?_⟩
        rw [List.map_singleton, List.mem_singleton] at hy
        rw [hy]
        exact fun he => hoff (by have he' : x = e.off := he; rw [← he']; exact hx)
      · intro s hs
        rw [List.map_append] at hs
        rcases List.mem_append.1 hs with hs | hs
        · exact hshi s hs
        · rw [List.map_singleton, List.mem_singleton] at hs
          rw [hs]; exact hoi
      · rw [hnil]
        exact hmS.keep hkj (fun h => hltb _ c4 h.symm)
      · rw [List.mem_append, List.mem_singleton]
        constructor
        · rintro (h | h)
          · exact .inr ⟨h, fun he => hoff (List.mem_map.2 ⟨q, h, he⟩)⟩
          · exact .inl h
        · rintro (h | h)
          · exact .inr h
          · exact .inl h.1
end
end Go.Proofs.YtcigpjejbkngfaaGreatDoor
end
section
namespace Go.Proofs.YtcigpjejbkngfaaGreatDoor
open Go Go.Sh
attribute [local irreducible] X XU XP XR CALL loopS resC closS
def B_find_New (x0 x1 x2 : Value) (w : World) (K : Value → World → Prop) : Prop :=
  CALL Tryz.prog 57 #[x0, x1] w fun v1 w1 =>
  X Tryz.prog (Instr.extract v1 0) w1 fun v2 w2 =>
  X Tryz.prog (Instr.extract v1 1) w2 fun v3 w3 =>
  X Tryz.prog (binOpG .neq 34 (.tmp 17) (.const (.int .i64 0)) v3 (.int .i64 0)) w3 fun v4 w4 =>
  condS v4 (
  K (.tuple #[(.pointer none), v3]) w4) (
  CALL Tryz.prog 58 #[x2] w4 fun v5 w5 =>
  X Tryz.prog (Instr.extract v5 0) w5 fun v6 w6 =>
  X Tryz.prog (Instr.extract v5 1) w6 fun v7 w7 =>
  X Tryz.prog (binOpG .neq 34 (.tmp 25) (.const (.int .i64 0)) v7 (.int .i64 0)) w7 fun v8 w8 =>
  condS v8 (
  K (.tuple #[(.pointer none), v7]) w8) (
  CALL Tryz.prog 59 #[] w8 fun v9 w9 =>
  X Tryz.prog (Instr.build 134 #[(0, v9), (1, v2), (2, v6)]) w9 fun v10 w10 =>
  X Tryz.prog (Instr.box 134 v10) w10 fun v11 w11 =>
  K (.tuple #[v11, (.int .i64 0)]) w11))
theorem eq_find_New (x0 x1 x2 : Value) (w : World) (K : Value → World → Prop) :
    sh Tryz.prog (Tryz.f33.body.getD .skip) (retS Tryz.prog Tryz.f33.results K) (env0 #[x0, x1, x2]) w = B_find_New x0 x1 x2 w K := by kernel_rfl
theorem call_find_New (x0 x1 x2 : Value) (w : World) (K : Value → World → Prop) (h : B_find_New x0 x1 x2 w K) : CALL Tryz.prog 33 #[x0, x1, x2] w K :=
  call_of_eq (c := Tryz.f33.body.getD .skip) mixed Tryz.func33 (by kernel_rfl) (by kernel_rfl) (by kernel_rfl) (Nat.le_of_ble_eq_true (by kernel_rfl)) (eq_find_New x0 x1 x2 w K) h
def B_find_Finder_rows (x0 : Value) (w : World) (K : Value → World → Prop) : Prop :=
  X Tryz.prog (binOpG .eql 68 (.tmp 3) (.const (.pointer none)) x0 (.pointer none)) w fun v1 w1 =>
  condS v1 (
  K (.pointer none) w1) (
  X Tryz.prog (nilS x0) w1 fun v2 w2 =>
  X Tryz.prog (Instr.fieldAt 134 v2 0) w2 fun v3 w3 =>
  X Tryz.prog (Instr.loadAt 101 v3) w3 fun v4 w4 =>
  K v4 w4)
theorem eq_find_Finder_rows (x0 : Value) (w : World) (K : Value → World → Prop) :
    sh Tryz.prog (Tryz.f40.body.getD .skip) (retS Tryz.prog Tryz.f40.results K) (env0 #[x0]) w = B_find_Finder_rows x0 w K := by kernel_rfl
theorem call_find_Finder_rows (x0 : Value) (w : World) (K : Value → World → Prop) (h : B_find_Finder_rows x0 w K) : CALL Tryz.prog 40 #[x0] w K :=
  call_of_eq (c := Tryz.f40.body.getD .skip) mixed Tryz.func40 (by kernel_rfl) (by kernel_rfl) (by kernel_rfl) (Nat.le_of_ble_eq_true (by kernel_rfl)) (eq_find_Finder_rows x0 w K) h
def B_find_Finder_Twins (x0 x1 : Value) (w : World) (K : Value → World → Prop) : Prop :=
  X Tryz.prog (Instr.box 30 x1) w fun v1 w1 =>
  ∃ R, Frame? R ∧
  XR Tryz.prog R (Instr.loadAt 30 v1) (drewW w1) fun v2 w2 =>
  CALL Tryz.prog 40 #[x0] w2 fun v3 w3 =>
  R w2 w3 ∧
  CALL Tryz.prog 41 #[v3, v2] w3 fun v4 w4 =>
  K v4 w4
theorem eq_find_Finder_Twins (x0 x1 : Value) (w : World) (K : Value → World → Prop) :
    sh Tryz.prog (Tryz.f19.body.getD .skip) (retS Tryz.prog Tryz.f19.results K) (env0 #[x0, x1]) w = B_find_Finder_Twins x0 x1 w K := by kernel_rfl
theorem call_find_Finder_Twins (x0 x1 : Value) (w : World) (K : Value → World → Prop) (h : B_find_Finder_Twins x0 x1 w K) : CALL Tryz.prog 19 #[x0, x1] w K :=
  call_of_eq (c := Tryz.f19.body.getD .skip) mixed Tryz.func19 (by kernel_rfl) (by kernel_rfl) (by kernel_rfl) (Nat.le_of_ble_eq_true (by kernel_rfl)) (eq_find_Finder_Twins x0 x1 w K) h
def B_find_Finder_forget (x0 x1 : Value) (w : World) (K : Value → World → Prop) : Prop :=
  X Tryz.prog (Instr.box 33 x1) w fun v1 w1 =>
  joinS (fun ρ1 w2 =>
  condS (ρ1 5) (
  ∃ R, Frame? R ∧
  XP Tryz.prog (nilS (ρ1 0)) (drewW w2) fun v2 w3 =>
  XP Tryz.prog (Instr.fieldAt 134 v2 2) w3 fun v3 w4 =>
  XR Tryz.prog R (Instr.loadAt 130 v3) w4 fun v4 w5 =>
  XP Tryz.prog (Instr.fieldAt 104 (ρ1 4) 0) w5 fun v5 w6 =>
  XR Tryz.prog R (Instr.loadAt 3 v5) w6 fun v6 w7 =>
  CALL Tryz.prog 74 #[v4, v6] w7 fun v7 w8 =>
  K (.tuple #[]) w8) (
  K (.tuple #[]) w2)) fun J1 =>
  ∃ R, Frame? R ∧
  XP Tryz.prog (nilS x0) (drewW w1) fun v8 w9 =>
  XP Tryz.prog (Instr.fieldAt 134 v8 0) w9 fun v9 w10 =>
  XR Tryz.prog R (Instr.loadAt 101 v9) w10 fun v10 w11 =>
  XR Tryz.prog R (Instr.loadAt 33 v1) w11 fun v11 w12 =>
  (CALL Tryz.prog 65 #[v10, v11] w12 fun v12 w13 =>
  XP Tryz.prog (Instr.extract v12 0) w13 fun v13 w14 =>
  XP Tryz.prog (Instr.extract v12 1) w14 fun v14 w15 =>
  X Tryz.prog (Instr.alloc 104 true (.tuple #[])) w15 fun v15 w16 =>
  R w15 w16 ∧
  XU Tryz.prog (Instr.storeAt 104 v15 v13) w16 fun w17 =>
  J1 (upds (env0 #[x0, x1]) [(5, v14), (4, v15), (14, v14), (13, v13), (6, v12), (12, v12), (11, v11), (10, v10), (9, v9), (8, v8), (7, x0), (3, v1)]) w17) ∧
  (X Tryz.prog (Instr.alloc 104 true (.tuple #[])) w12 fun v16 w18 =>
  R w12 w18 ∧
  CALL Tryz.prog 65 #[v10, v11] w18 fun v17 w19 =>
  XP Tryz.prog (Instr.extract v17 0) w19 fun v18 w20 =>
  XP Tryz.prog (Instr.extract v17 1) w20 fun v19 w21 =>
  XU Tryz.prog (Instr.storeAt 104 v16 v18) w21 fun w22 =>
  J1 (upds (env0 #[x0, x1]) [(5, v19), (14, v19), (13, v18), (6, v17), (12, v17), (4, v16), (11, v11), (10, v10), (9, v9), (8, v8), (7, x0), (3, v1)]) w22)
theorem eq_find_Finder_forget (x0 x1 : Value) (w : World) (K : Value → World → Prop) :
    sh Tryz.prog (Tryz.f73.body.getD .skip) (retS Tryz.prog Tryz.f73.results K) (env0 #[x0, x1]) w = B_find_Finder_forget x0 x1 w K := by kernel_rfl
theorem call_find_Finder_forget (x0 x1 : Value) (w : World) (K : Value → World → Prop) (h : B_find_Finder_forget x0 x1 w K) : CALL Tryz.prog 73 #[x0, x1] w K :=
  call_of_eq (c := Tryz.f73.body.getD .skip) mixed Tryz.func73 (by kernel_rfl) (by kernel_rfl) (by kernel_rfl) (Nat.le_of_ble_eq_true (by kernel_rfl)) (eq_find_Finder_forget x0 x1 w K) h
def B_find_Finder_Put (x0 x1 x2 : Value) (w : World) (K : Value → World → Prop) : Prop :=
  X Tryz.prog (Instr.box 33 x1) w fun v1 w1 =>
  X Tryz.prog (Instr.box 104 x2) w1 fun v2 w2 =>
  X Tryz.prog (binOpG .eql 68 (.tmp 6) (.const (.pointer none)) x0 (.pointer none)) w2 fun v3 w3 =>
  condS v3 (
  K (.tuple #[]) w3) (
  X Tryz.prog (Instr.loadAt 33 v1) w3 fun v4 w4 =>
  CALL Tryz.prog 73 #[x0, v4] w4 fun v5 w5 =>
  ∃ R, Frame? R ∧
  XP Tryz.prog (nilS x0) (drewW w5) fun v6 w6 =>
  XP Tryz.prog (Instr.fieldAt 134 v6 2) w6 fun v7 w7 =>
  XR Tryz.prog R (Instr.loadAt 130 v7) w7 fun v8 w8 =>
  XP Tryz.prog (Instr.fieldAt 104 v2 0) w8 fun v9 w9 =>
  XR Tryz.prog R (Instr.loadAt 3 v9) w9 fun v10 w10 =>
  CALL Tryz.prog 74 #[v8, v10] w10 fun v11 w11 =>
  ∃ R, Frame? R ∧
  XP Tryz.prog (nilS x0) (drewW w11) fun v12 w12 =>
  XP Tryz.prog (Instr.fieldAt 134 v12 1) w12 fun v13 w13 =>
  XR Tryz.prog R (Instr.loadAt 127 v13) w13 fun v14 w14 =>
  XR Tryz.prog R (Instr.loadAt 33 v1) w14 fun v15 w15 =>
  CALL Tryz.prog 75 #[v14, v15] w15 fun v16 w16 =>
  ∃ R, Frame? R ∧
  XP Tryz.prog (nilS x0) (drewW w16) fun v17 w17 =>
  XP Tryz.prog (Instr.fieldAt 134 v17 0) w17 fun v18 w18 =>
  XR Tryz.prog R (Instr.loadAt 101 v18) w18 fun v19 w19 =>
  XR Tryz.prog R (Instr.loadAt 33 v1) w19 fun v20 w20 =>
  XR Tryz.prog R (Instr.loadAt 104 v2) w20 fun v21 w21 =>
  CALL Tryz.prog 76 #[v19, v20, v21] w21 fun v22 w22 =>
  K (.tuple #[]) w22)
theorem eq_find_Finder_Put (x0 x1 x2 : Value) (w : World) (K : Value → World → Prop) :
    sh Tryz.prog (Tryz.f45.body.getD .skip) (retS Tryz.prog Tryz.f45.results K) (env0 #[x0, x1, x2]) w = B_find_Finder_Put x0 x1 x2 w K := by kernel_rfl
theorem call_find_Finder_Put (x0 x1 x2 : Value) (w : World) (K : Value → World → Prop) (h : B_find_Finder_Put x0 x1 x2 w K) : CALL Tryz.prog 45 #[x0, x1, x2] w K :=
  call_of_eq (c := Tryz.f45.body.getD .skip) mixed Tryz.func45 (by kernel_rfl) (by kernel_rfl) (by kernel_rfl) (Nat.le_of_ble_eq_true (by kernel_rfl)) (eq_find_Finder_Put x0 x1 x2 w K) h
def B_find_Finder_Find (x0 x1 x2 : Value) (w : World) (K : Value → World → Prop) : Prop :=
  X Tryz.prog (Instr.box 33 x1) w fun v1 w1 =>
  X Tryz.prog (Instr.alloc 104 true (.tuple #[])) w1 fun v2 w2 =>
  ∃ R, Frame? R ∧
  XP Tryz.prog (binOpG .eql 68 (.tmp 12) (.const (.pointer none)) x0 (.pointer none)) (drewW w2) fun v3 w3 =>
  gstep v3 false (fun w4 K => K x0 w4) w3 fun v4 w5 =>
  gstep v3 false (fun w6 K => XP Tryz.prog (nilS v4) w6 K) w5 fun v5 w7 =>
  gstep v3 false (fun w8 K => XP Tryz.prog (Instr.fieldAt 134 v5 1) w8 K) w7 fun v6 w9 =>
  gstep v3 false (fun w10 K => XR Tryz.prog R (Instr.loadAt 127 v6) w10 K) w9 fun v7 w11 =>
  gstep v3 false (fun w12 K => XR Tryz.prog R (Instr.loadAt 33 v1) w12 K) w11 fun v8 w13 =>
  gstep v3 false (fun w14 K => CALL Tryz.prog 63 #[v7, v8] w14 K) w13 fun v9 w15 =>
  gstep v3 false (fun w16 K => XP Tryz.prog (Op.unary .not v9) w16 K) w15 fun v10 w17 =>
  XP Tryz.prog (pickS v3 (.bool true) v10) w17 fun v11 w18 =>
  condS v11 (
  X Tryz.prog (Instr.build 104 #[]) w18 fun v12 w19 =>
  XU Tryz.prog (Instr.storeAt 104 v2 v12) w19 fun w20 =>
  resC Tryz.prog 104 v2 w20 fun r0 =>
  K (.tuple #[r0, (.bool false)]) w20) (
  joinS (fun ρ1 w21 =>
  condS (ρ1 9) (
  X Tryz.prog (Instr.loadAt 104 (ρ1 8)) w21 fun v13 w22 =>
  XU Tryz.prog (Instr.storeAt 104 (ρ1 6) v13) w22 fun w23 =>
  resC Tryz.prog 104 (ρ1 6) w23 fun r0 =>
  K (.tuple #[r0, (.bool true)]) w23) (
  X Tryz.prog (nilS (ρ1 0)) w21 fun v14 w24 =>
  X Tryz.prog (Instr.fieldAt 134 v14 3) w24 fun v15 w25 =>
  X Tryz.prog (Instr.loadAt 3 v15) w25 fun v16 w26 =>
  X Tryz.prog (binOp .add 3 v16 (.int .i64 1)) w26 fun v17 w27 =>
  X Tryz.prog (nilS (ρ1 0)) w27 fun v18 w28 =>
  X Tryz.prog (Instr.fieldAt 134 v18 3) w28 fun v19 w29 =>
  XU Tryz.prog (Instr.storeAt 3 v19 v17) w29 fun w30 =>
  joinS (fun ρ2 w31 =>
  joinS (fun ρ3 w32 =>
  X Tryz.prog (Instr.loadAt 104 (ρ3 10)) w32 fun v20 w33 =>
  XU Tryz.prog (Instr.storeAt 104 (ρ3 6) v20) w33 fun w34 =>
  resC Tryz.prog 104 (ρ3 6) w34 fun r0 =>
  K (.tuple #[r0, (ρ3 11)]) w34) fun J3 =>
  condS (ρ2 11) (
  X Tryz.prog (nilS (ρ2 0)) w31 fun v21 w35 =>
  X Tryz.prog (Instr.fieldAt 134 v21 4) w35 fun v22 w36 =>
  X Tryz.prog (Instr.loadAt 3 v22) w36 fun v23 w37 =>
  X Tryz.prog (binOp .add 3 v23 (.int .i64 1)) w37 fun v24 w38 =>
  X Tryz.prog (nilS (ρ2 0)) w38 fun v25 w39 =>
  X Tryz.prog (Instr.fieldAt 134 v25 4) w39 fun v26 w40 =>
  XU Tryz.prog (Instr.storeAt 3 v26 v24) w40 fun w41 =>
  ∃ R, Frame? R ∧
  XP Tryz.prog (nilS (ρ2 0)) (drewW w41) fun v27 w42 =>
  XP Tryz.prog (Instr.fieldAt 134 v27 2) w42 fun v28 w43 =>
  XR Tryz.prog R (Instr.loadAt 130 v28) w43 fun v29 w44 =>
  XP Tryz.prog (Instr.fieldAt 104 (ρ2 10) 0) w44 fun v30 w45 =>
  XR Tryz.prog R (Instr.loadAt 3 v30) w45 fun v31 w46 =>
  XP Tryz.prog (Instr.fieldAt 104 (ρ2 10) 0) w46 fun v32 w47 =>
  XR Tryz.prog R (Instr.loadAt 3 v32) w47 fun v33 w48 =>
  CALL Tryz.prog 67 #[(ρ2 0), v33] w48 fun v34 w49 =>
  R w48 w49 ∧
  CALL Tryz.prog 66 #[v29, v31, v34, (ρ2 2)] w49 fun v35 w50 =>
  R w49 w50 ∧
  J3 (upds ρ2 [(70, v35), (68, v34), (69, (ρ2 2)), (67, v33), (66, v32), (65, (ρ2 0)), (64, v31), (63, v30), (62, v29), (61, v28), (60, v27), (59, (ρ2 0)), (58, v26), (57, v25), (56, v24), (55, v23), (54, v22), (53, v21), (52, (ρ2 0)), (51, (ρ2 11))]) w50) (
  J3 (upds ρ2 [(51, (ρ2 11))]) w31)) fun J2 =>
  ∃ R, Frame? R ∧
  XP Tryz.prog (nilS (ρ1 0)) (drewW w30) fun v36 w51 =>
  XP Tryz.prog (Instr.fieldAt 134 v36 0) w51 fun v37 w52 =>
  XR Tryz.prog R (Instr.loadAt 101 v37) w52 fun v38 w53 =>
  XR Tryz.prog R (Instr.loadAt 33 (ρ1 4)) w53 fun v39 w54 =>
  (CALL Tryz.prog 65 #[v38, v39] w54 fun v40 w55 =>
  XP Tryz.prog (Instr.extract v40 0) w55 fun v41 w56 =>
  XP Tryz.prog (Instr.extract v40 1) w56 fun v42 w57 =>
  X Tryz.prog (Instr.alloc 104 true (.tuple #[])) w57 fun v43 w58 =>
  R w57 w58 ∧
  XU Tryz.prog (Instr.storeAt 104 v43 v41) w58 fun w59 =>
  J2 (upds ρ1 [(11, v42), (10, v43), (50, v42), (49, v41), (42, v40), (48, v40), (47, v39), (46, v38), (45, v37), (44, v36), (43, (ρ1 0)), (41, v19), (40, v18), (39, v17), (38, v16), (37, v15), (36, v14), (35, (ρ1 0)), (33, (ρ1 9))]) w59) ∧
  (X Tryz.prog (Instr.alloc 104 true (.tuple #[])) w54 fun v44 w60 =>
  R w54 w60 ∧
  CALL Tryz.prog 65 #[v38, v39] w60 fun v45 w61 =>
  XP Tryz.prog (Instr.extract v45 0) w61 fun v46 w62 =>
  XP Tryz.prog (Instr.extract v45 1) w62 fun v47 w63 =>
  XU Tryz.prog (Instr.storeAt 104 v44 v46) w63 fun w64 =>
  J2 (upds ρ1 [(11, v47), (50, v47), (49, v46), (42, v45), (48, v45), (10, v44), (47, v39), (46, v38), (45, v37), (44, v36), (43, (ρ1 0)), (41, v19), (40, v18), (39, v17), (38, v16), (37, v15), (36, v14), (35, (ρ1 0)), (33, (ρ1 9))]) w64))) fun J1 =>
  ∃ R, Frame? R ∧
  XP Tryz.prog (nilS x0) (drewW w18) fun v48 w65 =>
  XP Tryz.prog (Instr.fieldAt 134 v48 2) w65 fun v49 w66 =>
  XR Tryz.prog R (Instr.loadAt 130 v49) w66 fun v50 w67 =>
  XR Tryz.prog R (Instr.loadAt 33 v1) w67 fun v51 w68 =>
  (CALL Tryz.prog 64 #[v50, v51] w68 fun v52 w69 =>
  XP Tryz.prog (Instr.extract v52 0) w69 fun v53 w70 =>
  XP Tryz.prog (Instr.extract v52 1) w70 fun v54 w71 =>
  X Tryz.prog (Instr.alloc 104 true (.tuple #[])) w71 fun v55 w72 =>
  R w71 w72 ∧
  XU Tryz.prog (Instr.storeAt 104 v55 v53) w72 fun w73 =>
  J1 (upds (env0 #[x0, x1, x2]) [(9, v54), (8, v55), (32, v54), (31, v53), (24, v52), (30, v52), (29, v51), (28, v50), (27, v49), (26, v48), (25, x0), (22, v11), (21, v10), (20, v9), (19, v8), (18, v7), (17, v6), (16, v5), (15, v4), (14, v3), (13, v3), (12, x0), (7, (.bool false)), (6, v2), (4, v1)]) w73) ∧
  (X Tryz.prog (Instr.alloc 104 true (.tuple #[])) w68 fun v56 w74 =>
  R w68 w74 ∧
  CALL Tryz.prog 64 #[v50, v51] w74 fun v57 w75 =>
  XP Tryz.prog (Instr.extract v57 0) w75 fun v58 w76 =>
  XP Tryz.prog (Instr.extract v57 1) w76 fun v59 w77 =>
  XU Tryz.prog (Instr.storeAt 104 v56 v58) w77 fun w78 =>
  J1 (upds (env0 #[x0, x1, x2]) [(9, v59), (32, v59), (31, v58), (24, v57), (30, v57), (8, v56), (29, v51), (28, v50), (27, v49), (26, v48), (25, x0), (22, v11), (21, v10), (20, v9), (19, v8), (18, v7), (17, v6), (16, v5), (15, v4), (14, v3), (13, v3), (12, x0), (7, (.bool false)), (6, v2), (4, v1)]) w78))
theorem eq_find_Finder_Find (x0 x1 x2 : Value) (w : World) (K : Value → World → Prop) :
    sh Tryz.prog (Tryz.f42.body.getD .skip) (retS Tryz.prog Tryz.f42.results K) (env0 #[x0, x1, x2]) w = B_find_Finder_Find x0 x1 x2 w K := by kernel_rfl
theorem call_find_Finder_Find (x0 x1 x2 : Value) (w : World) (K : Value → World → Prop) (h : B_find_Finder_Find x0 x1 x2 w K) : CALL Tryz.prog 42 #[x0, x1, x2] w K :=
  call_of_eq (c := Tryz.f42.body.getD .skip) mixed Tryz.func42 (by kernel_rfl) (by kernel_rfl) (by kernel_rfl) (Nat.le_of_ble_eq_true (by kernel_rfl)) (eq_find_Finder_Find x0 x1 x2 w K) h
def B_find_Finder_Shelf (x0 x1 : Value) (w : World) (K : Value → World → Prop) : Prop :=
  CALL Tryz.prog 40 #[x0] w fun v1 w1 =>
  CALL Tryz.prog 90 #[v1, x1] w1 fun v2 w2 =>
  K v2 w2
theorem eq_find_Finder_Shelf (x0 x1 : Value) (w : World) (K : Value → World → Prop) :
    sh Tryz.prog (Tryz.f67.body.getD .skip) (retS Tryz.prog Tryz.f67.results K) (env0 #[x0, x1]) w = B_find_Finder_Shelf x0 x1 w K := by kernel_rfl
theorem call_find_Finder_Shelf (x0 x1 : Value) (w : World) (K : Value → World → Prop) (h : B_find_Finder_Shelf x0 x1 w K) : CALL Tryz.prog 67 #[x0, x1] w K :=
  call_of_eq (c := Tryz.f67.body.getD .skip) mixed Tryz.func67 (by kernel_rfl) (by kernel_rfl) (by kernel_rfl) (Nat.le_of_ble_eq_true (by kernel_rfl)) (eq_find_Finder_Shelf x0 x1 w K) h
end Go.Proofs.YtcigpjejbkngfaaGreatDoor
end
section
set_option maxRecDepth 8000
namespace Go.Proofs.YtcigpjejbkngfaaGreatDoor
open Go Go.Sh Go.RowKit
attribute [local irreducible] X XU XP XR CALL loopS resC closS
structure FindAt (w : World) (D : Nat → Prop) (fb : Nat) (R : List Ex) : Prop where
  ex : ∃ (xb vb cb bits probes room : Nat) (n1 n2 : Int) (T : Tbl) (ks : List Ky) (DI DV DC : Nat → Prop), w.heap[fb]? = some (.cells #[ptr xb, ptr vb, ptr cb, .int .i64 n1, .int .i64 n2] 134 (0, 0)) ∧
    IdxAt w DI xb R ∧ VecAt w DV vb bits probes ks ∧ CacheAt w DC cb room T ∧ (∀ r ∈ R, r.k ∈ ks) ∧ (∀ p ∈ T, p.2.Perm (onShelf R p.1)) ∧
    (∀ g, DI g → D g) ∧ (∀ g, DV g → D g) ∧ (∀ g, DC g → D g) ∧ (∀ g, DI g → ¬ DV g) ∧ (∀ g, DI g → ¬ DC g) ∧ (∀ g, DV g → ¬ DC g) ∧ ¬ DI fb ∧ ¬ DV fb ∧ ¬ DC fb
  fb : D fb
  lt : ∀ g, D g → g < w.heap.size
theorem FindAt.keep {w w1 : World} {D E : Nat → Prop} {fb : Nat} {R : List Ex} (h : FindAt w D fb R) (k : Keep E w w1) (hd : ∀ g, D g → ¬ E g) : FindAt w1 D fb R := by
  obtain ⟨⟨xb, vb, cb, bits, probes, room, n1, n2, T, ks, DI, DV, DC, h1, h2, h3, h4, h5, h6, d1, d2, d3, e⟩, hf, hlt⟩ := h
  exact ⟨⟨xb, vb, cb, bits, probes, room, n1, n2, T, ks, DI, DV, DC, k.get (hd _ hf) h1, h2.keep k (fun g hg => hd _ (d1 g hg)), h3.keep k (fun g hg => hd _ (d2 g hg)), h4.keep k (fun g hg => hd _ (d3 g hg)), h5, h6, d1, d2, d3, e⟩, hf, fun g hg => by have := hlt g hg; have := k.size; omega⟩
theorem FindAt.ext {w w1 : World} {D : Nat → Prop} {fb : Nat} {R : List Ex} (h : FindAt w D fb R) (k : Ext w w1) : FindAt w1 D fb R := h.keep k (fun _ _ h => h)
theorem run_build_134 (a b c : Nat) (w : World) : (Instr.build 134 #[(0, ptr a), (1, ptr b), (2, ptr c)]).run Tryz.prog w = .ok (.agg #[ptr a, ptr b, ptr c, .int .i64 0, .int .i64 0]) w := by kernel_rfl
theorem findT_R {R : List Ex} {T : Tbl} (hn : (R.map Ex.k).Nodup) (hT : ∀ p ∈ T, p.2.Perm (onShelf R p.1)) {k : Ky} {p : Pl} (h : findT T k = some p) : findR R k = some p := by
  unfold findT at h
  obtain ⟨q, hq, hp⟩ := List.exists_of_findSome?_eq_some h
  unfold findR at hp
  obtain ⟨r, hr, rfl⟩ := Option.map_eq_some_iff.1 hp
  have hm := List.mem_of_find?_eq_some hr
  have hk : r.k = k := by simpa using List.find?_some hr
  have hR : r ∈ R := (List.mem_filter.1 ((hT q hq).mem_iff.1 hm)).1
  have := findR_mem hn hR
  rw [hk] at this
  exact this
section
variable {w : World} {K : Value → World → Prop}
theorem FRows_spec {D : Nat → Prop} {fb xb : Nat} {v1 v2 v3 v4 : Value} (hg : w.heap[fb]? = some (.cells #[ptr xb, v1, v2, v3, v4] 134 (0, 0))) (hK : K (ptr xb) w) : CALL Tryz.prog 40 #[ptr fb] w K := by
  apply call_find_Finder_rows
  unfold B_find_Finder_rows
  (repeat (simp only [SLB, Int.reduceEq, Int.reduceNe, Int.reduceLT, Int.reduceLE, Int.reduceGT, Int.reduceGE, X_field_134_0]))
  refine X_of (run_loadAt (v := ptr xb) agg_101 ((cell_blk hg).trans rfl)) ?_
  exact hK
theorem FNew_spec {bits probes room : Nat} (hb : bits ≤ 1048576) (hp : probes ≤ 30) (hr : room ≤ 4096) (hK : ∀ fb w1, Ext w w1 → FindAt w1 (fun g => w.heap.size ≤ g ∧ g < w1.heap.size) fb [] → K (.tuple #[ptr fb, .int .i64 0]) w1) :
    CALL Tryz.prog 33 #[.int .i64 (bits : Int), .int .i64 (probes : Int), .int .i64 (room : Int)] w K := by
  apply call_find_New
  unfold B_find_New
  refine BNew_spec hb hp ?_
  intro vb w1 hx1 hv1
  have e0 : decide ((0 : Int) ≠ 0) = false := rfl
  (repeat (simp only [SLB, Int.reduceEq, Int.reduceNe, Int.reduceLT, Int.reduceLE, Int.reduceGT, Int.reduceGE, e0]))
  refine New_ok hr ?_
  intro cb w2 hx2 hc2
  (repeat (simp only [SLB, Int.reduceEq, Int.reduceNe, Int.reduceLT, Int.reduceLE, Int.reduceGT, Int.reduceGE, e0]))
  refine INew_spec ?_
  intro xb w3 hx3 hi3
  refine X_of (run_build_134 _ _ _ _) ?_
  refine X_box ?_
  have hx4 := newB_ext w3 (Value.agg #[ptr xb, ptr vb, ptr cb, .int .i64 0, .int .i64 0]).cells 134
  have hg4 : (newB w3 (Value.agg #[ptr xb, ptr vb, ptr cb, .int .i64 0, .int .i64 0]).cells 134).heap[w3.heap.size]? = some (.cells #[ptr xb, ptr vb, ptr cb, .int .i64 0, .int .i64 0] 134 (0, 0)) := newB_get _ _ _
  have hs4 : (newB w3 (Value.agg #[ptr xb, ptr vb, ptr cb, .int .i64 0, .int .i64 0]).cells 134).heap.size = w3.heap.size + 1 := newB_size _ _ _
  generalize newB w3 (Value.agg #[ptr xb, ptr vb, ptr cb, .int .i64 0, .int .i64 0]).cells 134 = w4 at hx4 hg4 hs4 ⊢
  have s1 := hx1.size
  have s2 := hx2.size
  have s3 := hx3.size
  refine hK _ w4 (((hx1.trans hx2).trans hx3).trans hx4) ⟨⟨xb, vb, cb, bits, probes, room, 0, 0, [], [], _, _, _, hg4, hi3.ext hx4, ((hv1.ext hx2).ext hx3).ext hx4, (hc2.ext hx3).ext hx4, by simp, by simp, fun g hg => ?_, fun g hg => ?_, fun g hg => ?_, fun g hg hg' => ?_, fun g hg hg' => ?_, fun g hg hg' => ?_, fun hg => ?_, fun hg => ?_, fun hg => ?_⟩, ⟨by omega, by omega⟩, fun g hg => hg.2⟩
  · have := hg.1; have := hg.2; exact ⟨by omega, by omega⟩
  · have := hg.1; have := hg.2; exact ⟨by omega, by omega⟩
  · have := hg.1; have := hg.2; exact ⟨by omega, by omega⟩
  · have := hg.1; have := hg'.2; omega
  · have := hg.1; have := hg'.2; omega
  · have := hg.2; have := hg'.1; omega
  · have := hg.2; omega
  · have := hg.2; omega
  · have := hg.2; omega
theorem FTwins_spec {D : Nat → Prop} {fb : Nat} {R : List Ex} {d : List UInt8} (h : FindAt w D fb R) (hd : d.length = 32) (hR : R.length ≤ 1000000) (hK : ∀ u w1, Ext w w1 → OwnK 33 33 Ky.cs w1 w.heap.size u (twinsOf R d) → K u w1) : CALL Tryz.prog 19 #[ptr fb, sumV d] w K := by
  obtain ⟨⟨xb, vb, cb, bits, probes, room, n1, n2, T, ks, DI, DV, DC, h1, h2, _⟩, hf, hlt⟩ := h
  apply call_find_Finder_Twins
  unfold B_find_Finder_Twins
  refine X_box ?_
  have hx1 := newB_ext w (sumV d).cells 30
  have hg1 : (newB w (sumV d).cells 30).heap[w.heap.size]? = some (.cells (B8 d).toArray 30 (0, 0)) := newB_get w (sumV d).cells 30
  have hs1 := hx1.size
  generalize newB w (sumV d).cells 30 = w1 at hx1 hg1 hs1 ⊢
  have kd := Keep.drew (fun _ => False) w1
  have hx0d := hx1.trans kd
  have hg1d := Ext.get kd hg1
  have sd : (drewW w1).heap.size = w1.heap.size := rfl
  refine ⟨Ext, Ext.frame, ?_⟩
  generalize drewW w1 = wd at kd hx0d hg1d sd ⊢
  refine XR_ok Ext.frame (fun w' kk => sumV_load (Ext.get kk hg1d) hd) ?_
  refine FRows_spec (D := D) (Ext.get hx0d h1) ?_
  refine ⟨Keep.refl _ _, ?_⟩
  refine ITwins_spec (h2.ext hx0d) hd hR ?_
  intro u w2 hx2 ho2
  exact hK u w2 (hx0d.trans hx2) (own_mono ho2 (by omega))
theorem FShelf_spec {D : Nat → Prop} {fb : Nat} {R : List Ex} {a : Int} (h : FindAt w D fb R) (ha : ∃ r ∈ R, r.off = a) (hlen : (onShelf R a).length ≤ 12)
    (hK : ∀ u rows w1, Ext w w1 → rows.Perm (onShelf R a) → RowK 35 Ex.cs w1 u rows → (∀ g, u.ownBlock = some g → w.heap.size ≤ g) → K u w1) : CALL Tryz.prog 67 #[ptr fb, .int .i64 a] w K := by
  obtain ⟨⟨xb, vb, cb, bits, probes, room, n1, n2, T, ks, DI, DV, DC, h1, h2, _⟩, hf, hlt⟩ := h
  apply call_find_Finder_Shelf
  unfold B_find_Finder_Shelf
  refine FRows_spec (D := D) h1 ?_
  exact IShelf_spec h2 ha hlen hK
theorem two_get {D : Nat → Prop} {xb : Nat} {R : List Ex} {k : Ky} {R0 : World → World → Prop} (h : IdxAt w D xb R) (hR0 : ∀ a b, Ext a b → R0 a b) {K1 : Value → Value → Value → Value → World → Prop} {K2 : Value → Value → Value → Value → World → Prop}
    (hK1 : ∀ t q w1, Ext w w1 → w.heap.size ≤ q → w1.heap[q]? = some (.cells #[.int .i64 ((findR R k).getD (0, 0)).1, .int .i64 ((findR R k).getD (0, 0)).2] 104 (0, 0)) → K1 t (plV ((findR R k).getD (0, 0))) (.bool (findR R k).isSome) (ptr q) w1)
    (hK2 : ∀ t q w1, Ext w w1 → w.heap.size ≤ q → w1.heap[q]? = some (.cells #[.int .i64 ((findR R k).getD (0, 0)).1, .int .i64 ((findR R k).getD (0, 0)).2] 104 (0, 0)) → K2 (ptr q) t (plV ((findR R k).getD (0, 0))) (.bool (findR R k).isSome) w1) :
    (CALL Tryz.prog 65 #[ptr xb, k.v] w fun t w13 => XP Tryz.prog (Instr.extract t 0) w13 fun a w14 => XP Tryz.prog (Instr.extract t 1) w14 fun b w15 => X Tryz.prog (Instr.alloc 104 true (.tuple #[])) w15 fun q w16 => R0 w15 w16 ∧ XU Tryz.prog (Instr.storeAt 104 q a) w16 fun w17 => K1 t a b q w17) ∧
    (X Tryz.prog (Instr.alloc 104 true (.tuple #[])) w fun q w18 => R0 w w18 ∧ CALL Tryz.prog 65 #[ptr xb, k.v] w18 fun t w19 => XP Tryz.prog (Instr.extract t 0) w19 fun a w20 => XP Tryz.prog (Instr.extract t 1) w20 fun b w21 => XU Tryz.prog (Instr.storeAt 104 q a) w21 fun w22 => K2 q t a b w22) := by
  have hone : ∀ p : Pl, ∀ u ∈ [Value.int .i64 p.1, Value.int .i64 p.2], u.oneCell' = true := by intro p u hu; simp only [List.mem_cons, List.not_mem_nil, or_false] at hu; rcases hu with rfl | rfl <;> rfl
  constructor
  · refine IGet_spec h ?_
    intro w1 hx1
    generalize (findR R k).getD (0, 0) = p at hK1 ⊢
    generalize (findR R k).isSome = b at hK1 ⊢
    (repeat (simp only [SLB, Int.reduceEq, Int.reduceNe, Int.reduceLT, Int.reduceLE, Int.reduceGT, Int.reduceGE]))
    refine X_alloc zero_104 ?_
    have hx2 := newB_ext w1 (Value.agg #[(.int .i64 0), (.int .i64 0)]).cells 104
    have hg2 : (newB w1 (Value.agg #[(.int .i64 0), (.int .i64 0)]).cells 104).heap[w1.heap.size]? = some (.cells [Value.int .i64 0, Value.int .i64 0].toArray 104 (0, 0)) := newB_get _ _ _
    generalize newB w1 (Value.agg #[(.int .i64 0), (.int .i64 0)]).cells 104 = w2 at hx2 hg2 ⊢
    refine ⟨hR0 _ _ hx2, ?_⟩
    refine XU_storeAgg (l := [.int .i64 p.1, .int .i64 p.2]) info_104 hg2 (by rw [sz_104]; rfl) (by rw [sz_104]; rfl) (hone p) ?_
    have h12 := hx1.size
    exact hK1 _ _ _ (Ext.seq (hx1.trans hx2) (setAt_keep _ _ _ _ _) (fun g hg => by omega)) h12 (setAt_same (lt_of_blk hg2))
  · refine X_alloc zero_104 ?_
    have hx2 := newB_ext w (Value.agg #[(.int .i64 0), (.int .i64 0)]).cells 104
    have hg2 : (newB w (Value.agg #[(.int .i64 0), (.int .i64 0)]).cells 104).heap[w.heap.size]? = some (.cells [Value.int .i64 0, Value.int .i64 0].toArray 104 (0, 0)) := newB_get _ _ _
    generalize newB w (Value.agg #[(.int .i64 0), (.int .i64 0)]).cells 104 = w2 at hx2 hg2 ⊢
    refine ⟨hR0 _ _ hx2, ?_⟩
    refine IGet_spec (h.ext hx2) ?_
    intro w1 hx1
    generalize (findR R k).getD (0, 0) = p at hK2 ⊢
    generalize (findR R k).isSome = b at hK2 ⊢
    (repeat (simp only [SLB, Int.reduceEq, Int.reduceNe, Int.reduceLT, Int.reduceLE, Int.reduceGT, Int.reduceGE]))
    have hg3 := Ext.get hx1 hg2
    refine XU_storeAgg (l := [.int .i64 p.1, .int .i64 p.2]) info_104 hg3 (by rw [sz_104]; rfl) (by rw [sz_104]; rfl) (hone p) ?_
    exact hK2 _ _ _ (Ext.seq (hx2.trans hx1) (setAt_keep _ _ _ _ _) (fun g hg => by omega)) (Nat.le_refl _) (setAt_same (lt_of_blk hg3))
theorem Forget_none {D : Nat → Prop} {fb : Nat} {R : List Ex} {k : Ky} (h : FindAt w D fb R) (hk : k ∉ R.map Ex.k) (hK : ∀ w1, Ext w w1 → K (.tuple #[]) w1) : CALL Tryz.prog 73 #[ptr fb, k.v] w K := by
  obtain ⟨⟨xb, vb, cb, bits, probes, room, n1, n2, T, ks, DI, DV, DC, h1, h2, _⟩, hf, hlt⟩ := h
  apply call_find_Finder_forget
  unfold B_find_Finder_forget
  refine X_box ?_
  have hx1 := newB_ext w k.v.cells 33
  have hg1 : (newB w k.v.cells 33).heap[w.heap.size]? = some (.cells k.cs.toArray 33 (0, 0)) := newB_get w k.v.cells 33
  generalize newB w k.v.cells 33 = w1 at hx1 hg1 ⊢
  refine joinS_of (fun ρ w2 => Ext w w2 ∧ ρ 5 = .bool false) ?_ ?_
  · rintro ρ w2 ⟨hx2, r5⟩
    rw [r5, condS_bool, if_neg (by decide)]
    exact hK w2 hx2
  · intro J1 hJ1
    have kd := Keep.drew (fun _ => False) w1
    have hx0d := hx1.trans kd
    have hg1d := Ext.get kd hg1
    refine ⟨Ext, Ext.frame, ?_⟩
    generalize drewW w1 = wd at hx0d hg1d ⊢
    (repeat (simp only [SLB, Int.reduceEq, Int.reduceNe, Int.reduceLT, Int.reduceLE, Int.reduceGT, Int.reduceGE, XP_field_134_0]))
    refine XR_ok Ext.frame (fun w' kk => run_loadAt (v := ptr xb) agg_101 ((cell_blk (Ext.get (hx0d.trans kk) h1)).trans rfl)) ?_
    refine XR_ok Ext.frame (fun w' kk => key_load (Ext.get kk hg1d)) ?_
    have hnone := findR_not hk
    refine two_get (h2.ext hx0d) (fun _ _ h => h) ?_ ?_
    · intro t q w3 hx3 _ _
      rw [hnone]
      exact hJ1 _ _ ⟨hx0d.trans hx3, rfl⟩
    · intro t q w3 hx3 _ _
      rw [hnone]
      exact hJ1 _ _ ⟨hx0d.trans hx3, rfl⟩
end
end Go.Proofs.YtcigpjejbkngfaaGreatDoor
end
section
set_option maxRecDepth 8000
namespace Go.Proofs.YtcigpjejbkngfaaGreatDoor
open Go Go.Sh Go.RowKit
attribute [local irreducible] X XU XP XR CALL loopS resC closS
abbrev Grown (w w1 : World) (D : Nat → Prop) : Nat → Prop := fun g => D g ∨ (w.heap.size ≤ g ∧ g < w1.heap.size)
theorem FindAt.grow {w : World} {D E : Nat → Prop} {fb : Nat} {R : List Ex} (h : FindAt w D fb R) (hd : ∀ g, D g → E g) (hl : ∀ g, E g → g < w.heap.size) : FindAt w E fb R := by
  obtain ⟨⟨xb, vb, cb, bits, probes, room, n1, n2, T, ks, DI, DV, DC, h1, h2, h3, h4, h5, h6, d1, d2, d3, e⟩, hf, hlt⟩ := h
  exact ⟨⟨xb, vb, cb, bits, probes, room, n1, n2, T, ks, DI, DV, DC, h1, h2, h3, h4, h5, h6, fun g hg => hd _ (d1 g hg), fun g hg => hd _ (d2 g hg), fun g hg => hd _ (d3 g hg), e⟩, hd _ hf, hl⟩
theorem FindAt.nodup {w : World} {D : Nat → Prop} {fb : Nat} {R : List Ex} (h : FindAt w D fb R) : (R.map Ex.k).Nodup := by
  obtain ⟨⟨xb, vb, cb, bits, probes, room, n1, n2, T, ks, DI, DV, DC, h1, h2, _⟩, hf, hlt⟩ := h
  exact h2.nodup
section
variable {w : World} {K : Value → World → Prop}
theorem FPut_spec {D : Nat → Prop} {fb : Nat} {R : List Ex} {e : Ex} (h : FindAt w D fb R) (hR : R.length ≤ 1000000) (hoff : I64 e.off) (hk : e.k ∉ R.map Ex.k) (hnum : ∀ x ∈ numsOf R e.k.sum, x < e.k.num)
    (hK : ∀ w1, Keep D w w1 → FindAt w1 (Grown w w1 D) fb (R ++ [e]) → K (.tuple #[]) w1) : CALL Tryz.prog 45 #[ptr fb, e.k.v, plV (e.off, e.len)] w K := by
  have hF := h
  obtain ⟨⟨xb, vb, cb, bits, probes, room, n1, n2, T, ks, DI, DV, DC, h1, h2, h3, h4, h5, h6, d1, d2, d3, a1, a2, a3, a4, a5, a6⟩, hf, hlt⟩ := h
  have lfb := hlt _ hf
  apply call_find_Finder_Put
  unfold B_find_Finder_Put
  refine X_box ?_
  have hx1 := newB_ext w e.k.v.cells 33
  have hg1 : (newB w e.k.v.cells 33).heap[w.heap.size]? = some (.cells e.k.cs.toArray 33 (0, 0)) := newB_get w e.k.v.cells 33
  have hs1 : (newB w e.k.v.cells 33).heap.size = w.heap.size + 1 := newB_size _ _ _
  generalize newB w e.k.v.cells 33 = w1 at hx1 hg1 hs1 ⊢
  generalize hkb : w.heap.size = kb at hg1 hs1 lfb ⊢
  refine X_box ?_
  have hx2 := newB_ext w1 (plV (e.off, e.len)).cells 104
  have hg2 : (newB w1 (plV (e.off, e.len)).cells 104).heap[w1.heap.size]? = some (.cells #[.int .i64 e.off, .int .i64 e.len] 104 (0, 0)) := newB_get _ _ _
  have hs2 : (newB w1 (plV (e.off, e.len)).cells 104).heap.size = w1.heap.size + 1 := newB_size _ _ _
  generalize newB w1 (plV (e.off, e.len)).cells 104 = w2 at hx2 hg2 hs2 ⊢
  generalize hqb : w1.heap.size = qb at hg2 hs1 hs2 ⊢
  (repeat (simp only [SLB, Int.reduceEq, Int.reduceNe, Int.reduceLT, Int.reduceLE, Int.reduceGT, Int.reduceGE]))
  refine X_of (key_load (Ext.get hx2 hg1)) ?_
  refine Forget_none (hF.ext (hx1.trans hx2)) hk ?_
  intro w3 hx3
  have hx03 := (hx1.trans hx2).trans hx3
  have hg13 := Ext.get hx3 (Ext.get hx2 hg1)
  have hg23 := Ext.get hx3 hg2
  have hs3 := hx3.size
  have kd3 := Keep.drew (fun _ => False) w3
  have hx0d := hx03.trans kd3
  have hg1d := Ext.get kd3 hg13
  have hg2d := Ext.get kd3 hg23
  have sd3 : (drewW w3).heap.size = w3.heap.size := rfl
  refine ⟨Ext, Ext.frame, ?_⟩
  generalize drewW w3 = wd at hx0d hg1d hg2d sd3 ⊢
  (repeat (simp only [SLB, Int.reduceEq, Int.reduceNe, Int.reduceLT, Int.reduceLE, Int.reduceGT, Int.reduceGE, XP_field_134_2]))
  refine XR_ok Ext.frame (fun w' kk => run_loadAt (v := ptr cb) agg_130 ((cell_blk (Ext.get (hx0d.trans kk) h1)).trans rfl)) ?_
  (repeat (simp only [SLB, Int.reduceEq, Int.reduceNe, Int.reduceLT, Int.reduceLE, Int.reduceGT, Int.reduceGE, XP_field_104_0]))
  refine XR_ok Ext.frame (fun w' kk => run_loadAt (v := .int .i64 e.off) agg_3 ((cell_blk (Ext.get kk hg2d)).trans rfl)) ?_
  refine Drop_spec (h4.ext hx0d) hoff ?_
  intro w4 k4 hc4
  have hkbC : ∀ g, DC g → g < kb := fun g hg => by have := hlt _ (d3 _ hg); omega
  have hkbV : ∀ g, DV g → g < kb := fun g hg => by have := hlt _ (d2 _ hg); omega
  have hkbI : ∀ g, DI g → g < kb := fun g hg => by have := hlt _ (d1 _ hg); omega
  have k04 : Keep DC w w4 := (Keep.ext hx0d).trans k4
  have hg14 := k4.get (fun hh => by have := hkbC _ hh; omega) hg1d
  have hg24 := k4.get (fun hh => by have := hkbC _ hh; omega) hg2d
  have h14 := k04.get a6 h1
  have h24 := h2.keep k04 a2
  have h34 := h3.keep k04 a3
  have hs4 := k4.size
  have kd4 := Keep.drew (fun _ => False) w4
  have sd4 : (drewW w4).heap.size = w4.heap.size := rfl
  refine ⟨Ext, Ext.frame, ?_⟩
  have k04d := k04.trans (Keep.ext kd4)
  have hg14d := Ext.get kd4 hg14
  have hg24d := Ext.get kd4 hg24
  have h14d := Ext.get kd4 h14
  have h24d := h24.ext kd4
  have h34d := h34.ext kd4
  have hc4d := hc4.ext kd4
  clear h14 h24 h34 hc4 hg14 hg24 kd4
  generalize drewW w4 = w5 at k04d hg14d hg24d h14d h24d h34d hc4d sd4 ⊢
  (repeat (simp only [SLB, Int.reduceEq, Int.reduceNe, Int.reduceLT, Int.reduceLE, Int.reduceGT, Int.reduceGE, XP_field_134_1]))
  refine XR_ok Ext.frame (fun w' kk => run_loadAt (v := ptr vb) agg_127 ((cell_blk (Ext.get kk h14d)).trans rfl)) ?_
  refine XR_ok Ext.frame (fun w' kk => key_load (Ext.get kk hg14d)) ?_
  refine Add_spec h34d ?_
  intro w6 k6 hv6
  have hs6 := k6.size
  have hg16 := k6.get (fun hh => by have := hkbV _ hh; omega) hg14d
  have hg26 := k6.get (fun hh => by have := hkbV _ hh; omega) hg24d
  have h16 := k6.get a5 h14d
  have h26 := h24d.keep k6 a1
  have h46 := hc4d.keep k6 (fun g hg hg' => a3 g hg' hg)
  have kd6 := Keep.drew (fun _ => False) w6
  have sd6 : (drewW w6).heap.size = w6.heap.size := rfl
  have k06 : Keep D w w6 := (k04d.mono (fun g _ hg => d3 g hg)).trans (k6.mono (fun g _ hg => d2 g hg))
  have k06d := k06.trans (Keep.ext kd6)
  have hg16d := Ext.get kd6 hg16
  have hg26d := Ext.get kd6 hg26
  have h16d := Ext.get kd6 h16
  have h26d := h26.ext kd6
  have h46d := h46.ext kd6
  have hv6d := hv6.ext kd6
  clear h16 h26 h46 hv6 hg16 hg26 kd6
  refine ⟨Ext, Ext.frame, ?_⟩
  generalize drewW w6 = w7 at k06d hg16d hg26d h16d h26d h46d hv6d sd6 ⊢
  (repeat (simp only [SLB, Int.reduceEq, Int.reduceNe, Int.reduceLT, Int.reduceLE, Int.reduceGT, Int.reduceGE, XP_field_134_0]))
  refine XR_ok Ext.frame (fun w' kk => run_loadAt (v := ptr xb) agg_101 ((cell_blk (Ext.get kk h16d)).trans rfl)) ?_
  refine XR_ok Ext.frame (fun w' kk => key_load (Ext.get kk hg16d)) ?_
  refine XR_ok Ext.frame (fun w' kk => load_cells Tryz.underlying104 agg_104 info_104 (l := [.int .i64 e.off, .int .i64 e.len]) (by rw [sz_104]; rfl) (fun j u hj => by rw [add_plain, Nat.zero_add, cell_blk (Ext.get kk hg26d)]; rw [← List.getElem?_toArray] at hj; exact hj)) ?_
  refine IPut_spec h26d hR hk hnum ?_
  intro w8 k8 hi8
  have hs8 := k8.size
  have hs7 : kb ≤ w7.heap.size := by omega
  refine hK w8 (k06d.trans (k8.mono (fun g _ hg => d1 g hg))) ⟨⟨xb, vb, cb, bits, probes, room, n1, n2, dropT T e.off, ks ++ [e.k], _, DV, DC, k8.get a4 h16d, hi8, hv6d.keep k8 (fun g hg hg' => a1 g hg' hg), h46d.keep k8 (fun g hg hg' => a2 g hg' hg), ?_, ?_, ?_, fun g hg => .inl (d2 g hg), fun g hg => .inl (d3 g hg), ?_, ?_, a3, ?_, a5, a6⟩, .inl hf, ?_⟩
  · intro r hr
    rw [List.mem_append, List.mem_singleton] at hr
    rw [List.mem_append, List.mem_singleton]
    rcases hr with hr | rfl
    · exact .inl (h5 r hr)
    · exact .inr rfl
  · intro p hp
    have hm : p ∈ T ∧ p.1 ≠ e.off := by unfold dropT at hp; rw [List.mem_filter] at hp; simpa using hp
    rw [shelf_put, if_neg (fun h => hm.2 h.symm)]
    exact h6 p hm.1
  · intro g hg
    rcases hg with hg | ⟨hg, hg'⟩
    · exact .inl (d1 g hg)
    · exact .inr ⟨by omega, hg'⟩
  · intro g hg hg'
    rcases hg with hg | ⟨hg, _⟩
    · exact a1 g hg hg'
    · have := hkbV _ hg'; omega
  · intro g hg hg'
    rcases hg with hg | ⟨hg, _⟩
    · exact a2 g hg hg'
    · have := hkbC _ hg'; omega
  · intro hg
    rcases hg with hg | ⟨hg, _⟩
    · exact a4 hg
    · omega
  · intro g hg
    rcases hg with hg | ⟨_, hg⟩
    · have := hlt g hg; omega
    · exact hg
end
end Go.Proofs.YtcigpjejbkngfaaGreatDoor
end
