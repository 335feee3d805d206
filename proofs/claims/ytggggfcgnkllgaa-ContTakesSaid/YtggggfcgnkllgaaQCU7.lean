/- Part 7 of what the law is proved with: Cont4 Build1 T17 Cont5 T18 Cont6 Cont7 VaultNum. -/
import Derived.Great.FillDense
import Derived.Test.YtggggfcgnkllgaaQCU6
section
/- A container's bytes: Lay. -/
set_option linter.unusedVariables false
set_option linter.unusedSimpArgs false
namespace Go.Proofs.Ytggggfcgnkllgaa
open Go Go.Sh Go.RowKit
attribute [local irreducible] X XU XP XR CALL loopS resC closS
theorem cw64 {n : Nat} (h : n < 18446744073709551616) : IntKind.u64.wrap (n : Int) = (n : Int) := by rw [wrap_u64]; omega
/-- append of bytes to bytes of the call's own, and whose the new row is. -/
theorem X_append_btsW {P : Program} {w : World} {K : Value → World → Prop} {base : Nat} {t U e : TypeId} (ht : P.underlying t = some (.slice e)) (hE : El P e 1 (.int .u8 0) 1) {v : Value} {n : Nat} {xs : List UInt8} (hown : w.ownsRow base e 1 v n (B8 xs))
    {x : Value} {bs : List UInt8} (hx : Bts w x bs) (hb : n + bs.length ≤ 140737488355328) (hbase : base ≤ w.heap.size)
    (h : ∀ v' w1, w1.ownsRow base e 1 v' (n + bs.length) (B8 (xs ++ bs)) → Keep (fun k => some k = v.ownBlock) w w1 → (∀ g, v'.ownBlock = some g → v.ownBlock = some g ∨ w.heap.size ≤ g) → K v' w1) : X P (Builtin.append_ #[t, t] U #[v, x]) w K := by
  obtain ⟨a, c, rfl, h1, h2, h3⟩ := hx
  by_cases h0 : 0 < bs.length
  · obtain ⟨ad, rfl, hc⟩ := h3 h0
    refine X_appendW ht hE (by decide) hown (news := B8 bs) (by simp) ?_ B8_one (by omega) (by decide) hbase (fun v' w1 ho hk hn => h v' w1 (by rw [B8_append]; exact ho) hk hn)
    intro j u hj
    rw [B8_getElem?] at hj
    obtain ⟨y, hy, rfl⟩ := Option.map_eq_some_iff.1 hj
    exact hc j y hy
  · have : bs = [] := List.eq_nil_of_length_eq_zero (by omega)
    subst this
    cases a with
    | none => exact X_append_none ht hE hown (h v w (by simpa using hown) (Keep.refl _ w) (fun g hg => .inl hg))
    | some ad =>
      refine X_appendW ht hE (by decide) hown (news := []) (by simp) (by simp) (by simp) (by simpa using hb) (by decide) hbase (fun v' w1 ho hk hn => h v' w1 (by simpa using ho) hk hn)
/-- Two rows of bytes of the call's own, apart. -/
structure TwoRows (w : World) (base : Nat) (vb vd : Value) (xs ys : List UInt8) : Prop where
  ob : w.ownsRow base 5 1 vb xs.length (B8 xs)
  od : w.ownsRow base 5 1 vd ys.length (B8 ys)
  ne : ∀ g, vb.ownBlock = some g → vd.ownBlock ≠ some g
section
variable {w w1 : World} {base : Nat} {vb vd : Value} {xs ys : List UInt8} {K : Value → World → Prop}
theorem TwoRows.ext (h : TwoRows w base vb vd xs ys) (k : Ext w w1) : TwoRows w1 base vb vd xs ys := ⟨own_extD h.ob k, own_extD h.od k, h.ne⟩
theorem TwoRows.left {U : TypeId} (h : TwoRows w base vb vd xs ys) {x : Value} {bs : List UInt8} (hx : Bts w x bs) (hb : xs.length + bs.length ≤ 140737488355328) (hbase : base ≤ w.heap.size)
    (hK : ∀ v' w1, TwoRows w1 base v' vd (xs ++ bs) ys → Keep (fun k => some k = vb.ownBlock) w w1 → K v' w1) : X Try.prog (Builtin.append_ #[27, 27] U #[vb, x]) w K := by
  refine X_append_btsW Try.underlying27 el_5 h.ob hx hb hbase ?_
  intro v' w1 ho hk hn
  refine hK v' w1 ⟨by rw [List.length_append]; exact ho, own_keepD h.od hk (fun g hg hg' => h.ne g hg'.symm hg), fun g hg hg' => ?_⟩ hk
  rcases hn g hg with h1 | h1
  · exact h.ne g h1 hg'
  · have := (h.od.lt g hg').2
    omega
theorem TwoRows.right {U : TypeId} (h : TwoRows w base vb vd xs ys) {x : Value} {bs : List UInt8} (hx : Bts w x bs) (hb : ys.length + bs.length ≤ 140737488355328) (hbase : base ≤ w.heap.size)
    (hK : ∀ v' w1, TwoRows w1 base vb v' xs (ys ++ bs) → Keep (fun k => some k = vd.ownBlock) w w1 → K v' w1) : X Try.prog (Builtin.append_ #[27, 27] U #[vd, x]) w K := by
  refine X_append_btsW Try.underlying27 el_5 h.od hx hb hbase ?_
  intro v' w1 ho hk hn
  refine hK v' w1 ⟨own_keepD h.ob hk (fun g hg hg' => h.ne g hg hg'.symm), by rw [List.length_append]; exact ho, fun g hg hg' => ?_⟩ hk
  rcases hn g hg' with h1 | h1
  · exact h.ne g hg h1
  · have := (h.ob.lt g hg).2
    omega
end
def rowP (p : Pp) : List UInt8 := p.k.sum ++ be 4 p.k.num ++ be 2 p.bs.length
theorem rowP_len (p : Pp) : (rowP p).length = 38 := by simp [rowP, p.k.len]
def rowsP (l : List Pp) : List UInt8 := (l.map rowP).flatten
def dataP (l : List Pp) : List UInt8 := (l.map Pp.bs).flatten
def bodyP (id : Nat) (l : List Pp) : List UInt8 := be 4 id ++ be 2 l.length ++ rowsP l ++ dataP l
def layP (id : Nat) (l : List Pp) : List UInt8 := sealB (bodyP id l)
theorem rowsP_len (l : List Pp) : (rowsP l).length = 38 * l.length := by
  unfold rowsP
  induction l with
  | nil => rfl
  | cons p l ih => simp only [List.map_cons, List.flatten_cons, List.length_append, rowP_len, ih, List.length_cons]; omega
theorem dataP_len (l : List Pp) : (dataP l).length = totB l := by
  unfold dataP totB
  induction l with
  | nil => rfl
  | cons p l ih => simp only [List.map_cons, List.flatten_cons, List.length_append, ih, List.sum_cons]
theorem rowsP_succ (l : List Pp) (i : Nat) (h : i < l.length) : rowsP (l.take (i + 1)) = rowsP (l.take i) ++ rowP l[i] := by
  unfold rowsP
  rw [List.take_succ_eq_append_getElem h, List.map_append, List.flatten_append]
  simp only [List.map_cons, List.map_nil, List.flatten_cons, List.flatten_nil, List.append_nil]
theorem dataP_succ (l : List Pp) (i : Nat) (h : i < l.length) : dataP (l.take (i + 1)) = dataP (l.take i) ++ l[i].bs := by
  unfold dataP
  rw [List.take_succ_eq_append_getElem h, List.map_append, List.flatten_append]
  simp only [List.map_cons, List.map_nil, List.flatten_cons, List.flatten_nil, List.append_nil]
theorem bodyP_len (id : Nat) (l : List Pp) : (bodyP id l).length = 6 + 38 * l.length + totB l := by
  unfold bodyP
  simp only [List.length_append, be_length, rowsP_len, dataP_len]
theorem layP_len (id : Nat) (l : List Pp) : (layP id l).length = sizeP l := by
  unfold layP sealB sizeP
  rw [List.length_append, be_length, bodyP_len]
  omega
theorem chk_ok {l : List Pp} (h : chk l = 0) : (∀ p ∈ l, p.bs ≠ []) ∧ l.length ≤ 1000 ∧ (∀ p ∈ l, p.bs.length ≤ 4096) ∧ sizeP l ≤ 65536 ∧ (kys l).Nodup := by
  unfold chk at h
  split at h
  · cases h
  · rename_i h1
    split at h
    · cases h
    · rename_i h2
      split at h
      · rename_i h3
        refine ⟨fun p hp he => h1 ⟨p, hp, he⟩, Nat.le_of_not_lt (fun h => h2 (.inl h)), fun p hp => Nat.le_of_not_lt (fun h => h2 (.inr (.inl ⟨p, hp, h⟩))), Nat.le_of_not_lt (fun h => h2 (.inr (.inr h))), h3⟩
      · cases h
theorem putB_2 (n : Nat) : putB n 2 = be 2 n := rfl
theorem sum_bts {w : World} {q : Nat} {c : Pc} {fr : Nat × Nat} (h : w.heap[q]? = some (.cells c.cs.toArray 115 fr)) : Bts w (.slice (some ⟨q, 0, none⟩) 32 32) c.p.k.sum := by
  refine ⟨_, 32, by rw [c.p.k.len], by rw [c.p.k.len]; exact Nat.le_refl _, by decide, fun _ => ⟨_, rfl, fun j u hj => ?_⟩⟩
  rw [add_plain, Nat.zero_add, cell_blk h]
  simpa using c.sumAt hj
section
variable {w : World} {K : Value → World → Prop}
set_option maxHeartbeats 1000000 in
theorem LayC_spec {id : Nat} {v : Value} {l : List Pc} (hid : id < 4294967296) (hl : RowK 34 Pc.cs w v l) (hin : ∀ c ∈ l, c.In w) (hT : 38 * l.length + totB (pl l) ≤ 1000000000000)
    (h0 : chk (pl l) ≠ 0 → ∀ w1, Ext w w1 → K (.tuple #[.slice none 0 0, i64v (chk (pl l))]) w1)
    (h1 : chk (pl l) = 0 → ∀ u w1, Ext w w1 → w1.ownsRow w.heap.size 5 1 u (layP id (pl l)).length (B8 (layP id (pl l))) → K (.tuple #[u, i64v 0]) w1) : CALL Try.prog 87 #[.int .u32 (id : Int), v] w K := by
  obtain ⟨a, c, ev⟩ := hl.slice
  have hll : (pl l).length = l.length := by simp
  apply call_cont_Lay
  unfold B_cont_Lay
  refine check_spec hl hin hT ?_
  intro w1 hx1
  (repeat (simp only [XP_extract0, XP_extract1, XP_extract2, XP_extract3, X_extract0, X_extract1, X_extract2, X_extract3, X_nilS, X_eql_nil_74, X_neq_nil_74, X_eql_nil_124, X_neq_nil_124, X_eql, X_neq, X_lss, X_leq, X_gtr, X_geq, X_not, X_min, X_max, X_len_27, X_len_9, X_len_79, XP_nilS, XP_eql, XP_neq, XP_lss, XP_leq, XP_gtr, XP_geq, XP_not, XP_min, XP_max, XP_len_27, XP_len_9, XP_eql_nil_74, X_str_eql, X_str_neq, XP_str_eql, XP_str_neq, GS, gs_u, decide_true, decide_false, Option.isNone_some, Option.isSome_some, Option.isNone_none, Option.isSome_none, eq_self, Bool.not_true, Bool.not_false, Int.reduceEq, Int.reduceNe, Int.reduceLT, Int.reduceLE, Int.reduceGT, Int.reduceGE]))
  by_cases hc : chk (pl l) = 0
  case neg =>
    have c : decide (chk (pl l) ≠ 0) = true := by simpa using hc
    (repeat (simp only [XP_extract0, XP_extract1, XP_extract2, XP_extract3, X_extract0, X_extract1, X_extract2, X_extract3, X_nilS, X_eql_nil_74, X_neq_nil_74, X_eql_nil_124, X_neq_nil_124, X_eql, X_neq, X_lss, X_leq, X_gtr, X_geq, X_not, X_min, X_max, X_len_27, X_len_9, X_len_79, XP_nilS, XP_eql, XP_neq, XP_lss, XP_leq, XP_gtr, XP_geq, XP_not, XP_min, XP_max, XP_len_27, XP_len_9, XP_eql_nil_74, X_str_eql, X_str_neq, XP_str_eql, XP_str_neq, GS, gs_u, decide_true, decide_false, Option.isNone_some, Option.isSome_some, Option.isNone_none, Option.isSome_none, eq_self, Bool.not_true, Bool.not_false, Int.reduceEq, Int.reduceNe, Int.reduceLT, Int.reduceLE, Int.reduceGT, Int.reduceGE, c]))
    exact h0 hc _ hx1
  have c : decide (chk (pl l) ≠ 0) = false := by simp [hc]
  (repeat (simp only [XP_extract0, XP_extract1, XP_extract2, XP_extract3, X_extract0, X_extract1, X_extract2, X_extract3, X_nilS, X_eql_nil_74, X_neq_nil_74, X_eql_nil_124, X_neq_nil_124, X_eql, X_neq, X_lss, X_leq, X_gtr, X_geq, X_not, X_min, X_max, X_len_27, X_len_9, X_len_79, XP_nilS, XP_eql, XP_neq, XP_lss, XP_leq, XP_gtr, XP_geq, XP_not, XP_min, XP_max, XP_len_27, XP_len_9, XP_eql_nil_74, X_str_eql, X_str_neq, XP_str_eql, XP_str_neq, GS, gs_u, decide_true, decide_false, Option.isNone_some, Option.isSome_some, Option.isNone_none, Option.isSome_none, eq_self, Bool.not_true, Bool.not_false, Int.reduceEq, Int.reduceNe, Int.reduceLT, Int.reduceLE, Int.reduceGT, Int.reduceGE, c]))
  obtain ⟨k1, k2, k3, k4, k5⟩ := chk_ok hc
  rw [hll] at k2
  have ktot : totB (pl l) ≤ 65536 := by unfold sizeP at k4; omega
  rw [X_conv_23_22, cw64 (by omega)]
  refine Put_spec (Bts.nil w1) (by simp) (by omega) ?_
  intro v2 w2 hx2 ho2
  rw [List.nil_append, putB_4] at ho2
  rw [ev]
  (repeat (simp only [XP_extract0, XP_extract1, XP_extract2, XP_extract3, X_extract0, X_extract1, X_extract2, X_extract3, X_nilS, X_eql_nil_74, X_neq_nil_74, X_eql_nil_124, X_neq_nil_124, X_eql, X_neq, X_lss, X_leq, X_gtr, X_geq, X_not, X_min, X_max, X_len_27, X_len_9, X_len_79, XP_nilS, XP_eql, XP_neq, XP_lss, XP_leq, XP_gtr, XP_geq, XP_not, XP_min, XP_max, XP_len_27, XP_len_9, XP_eql_nil_74, X_str_eql, X_str_neq, XP_str_eql, XP_str_neq, GS, gs_u, decide_true, decide_false, Option.isNone_some, Option.isSome_some, Option.isNone_none, Option.isSome_none, eq_self, Bool.not_true, Bool.not_false, Int.reduceEq, Int.reduceNe, Int.reduceLT, Int.reduceLE, Int.reduceGT, Int.reduceGE, X_len_100]))
  rw [X_conv_3_22, cw64 (by omega)]
  refine Put_spec (own_bts ho2).1 (by simp) (by omega) ?_
  intro v3 w3 hx3 ho3
  rw [putB_2] at ho3
  (repeat (simp only [XP_extract0, XP_extract1, XP_extract2, XP_extract3, X_extract0, X_extract1, X_extract2, X_extract3, X_nilS, X_eql_nil_74, X_neq_nil_74, X_eql_nil_124, X_neq_nil_124, X_eql, X_neq, X_lss, X_leq, X_gtr, X_geq, X_not, X_min, X_max, X_len_27, X_len_9, X_len_79, XP_nilS, XP_eql, XP_neq, XP_lss, XP_leq, XP_gtr, XP_geq, XP_not, XP_min, XP_max, XP_len_27, XP_len_9, XP_eql_nil_74, X_str_eql, X_str_neq, XP_str_eql, XP_str_neq, GS, gs_u, decide_true, decide_false, Option.isNone_some, Option.isSome_some, Option.isNone_none, Option.isSome_none, eq_self, Bool.not_true, Bool.not_false, Int.reduceEq, Int.reduceNe, Int.reduceLT, Int.reduceLE, Int.reduceGT, Int.reduceGE, X_len_100]))
  rw [← ev]
  have hx03 : Ext w w3 := (hx1.trans hx2).trans hx3
  have hs02 : w.heap.size ≤ w2.heap.size := (hx1.trans hx2).size
  refine loopE (fun ρ wr => ∃ (i : Nat) (vb vd : Value), i ≤ l.length ∧ Ext w wr ∧ TwoRows wr w.heap.size vb vd (be 4 id ++ be 2 l.length ++ rowsP ((pl l).take i)) (dataP ((pl l).take i)) ∧ ρ 26 = .int .i64 (i : Int) ∧ ρ 25 = .int .i64 (l.length : Int) ∧ ρ 24 = v ∧ ρ 7 = vb ∧ ρ 8 = vd)
    (fun ρ wr => match ρ 26 with | .int _ s => (l.length - s).toNat | _ => 0)
    (fun ρ wr => ∃ (vb vd : Value), Ext w wr ∧ TwoRows wr w.heap.size vb vd (be 4 id ++ be 2 l.length ++ rowsP (pl l)) (dataP (pl l)) ∧ ρ 7 = vb ∧ ρ 8 = vd) ?_ ?_ ?_
  · refine ⟨0, v3, .slice none 0 0, by omega, hx03, ⟨?_, World.ownsRow_nil _ _ 5 1, fun g _ h => by cases h⟩, rfl, rfl, rfl, rfl, rfl⟩
    have e : be 4 id ++ be 2 l.length ++ rowsP ((pl l).take 0) = be 4 id ++ be 2 l.length := by rw [List.take_zero]; exact List.append_nil _
    rw [e]
    exact own_mono ho3 hs02
  · rintro J hJ ρ wr ⟨i, vb, vd, hi, hx, tr, r26, r25, r24, r7, r8⟩
    rw [r26, r25, r24, X_lss, condS_bool]
    by_cases hie : i = l.length
    · rw [if_neg (by simp; omega)]
      rw [hie, List.take_of_length_le (by simp)] at tr
      exact hJ _ _ ⟨vb, vd, hx, tr, r7, r8⟩
    rw [if_pos (by simp; omega)]
    have hlt : i < l.length := by omega
    have hltp : i < (pl l).length := by rw [hll]; exact hlt
    refine X_takePiece (hl.ext hx) hlt ((hin _ (List.getElem_mem hlt)).ext hx) ?_
    intro u1 u2 q w4 hx4 hq hqb
    have hinW := hin _ (List.getElem_mem hlt)
    have hin4 := (hinW.ext hx).ext hx4
    have hget : (pl l)[i]'hltp = l[i].p := by simp
    have s1 := rowsP_succ (pl l) i hltp
    have s2 := dataP_succ (pl l) i hltp
    have hmem : l[i].p ∈ pl l := List.mem_map.2 ⟨_, List.getElem_mem hlt, rfl⟩
    have hble := k3 _ hmem
    rw [hget] at s1 s2
    generalize l[i] = A at hqb hinW hin4 s1 s2 hble
    obtain ⟨aA, cA, eA⟩ := Bts.slice hin4
    have hnum := A.p.k.lt
    have tr4 := tr.ext hx4
    have hxd := hx4.trans (Keep.drew (fun _ => False) w4)
    have trd := tr4.ext (Keep.drew (fun _ => False) w4)
    have hqd : (drewW w4).heap[q]? = some (.cells A.cs.toArray 115 (0, 0)) := hqb
    have hind : A.In (drewW w4) := hin4.ext (Keep.drew _ _)
    refine ⟨Ext, Ext.frame, ?_⟩
    generalize drewW w4 = wd at hxd trd hqd hind ⊢
    rw [XP_field_115_0, XP_field_113_1]
    refine XR_ok Ext.frame (fun w' k => run_loadAt agg_23 (piece_num (k.get hqd))) ?_
    rw [XR_conv_23_22, cw64 (by omega), XP_field_115_1]
    refine XR_ok Ext.frame (fun w' k => run_loadAt agg_27 (piece_dv (k.get hqd))) ?_
    rw [eA, XP_len_27, XR_conv_3_22, cw64 (by omega)]
    refine Put_spec (Bts.nil wd) (by simp) (by omega) ?_
    intro v5 w5 hx5 ho5
    rw [List.nil_append, putB_4] at ho5
    refine ⟨hx5, ?_⟩
    refine Put_spec (own_bts ho5).1 (by simp) (by omega) ?_
    intro v6 w6 hx6 ho6
    rw [putB_2] at ho6
    refine ⟨hx6, ?_⟩
    have hx56 : Ext wd w6 := hx5.trans hx6
    have tr6 := trd.ext hx56
    have hq6 := hx56.get hqd
    have hin6 := hind.ext hx56
    have hx06 : Ext w w6 := (hx.trans hxd).trans hx56
    rw [X_field_115_0, X_field_113_0]
    refine X_of (run_slice_arr_all Try.underlying111 info_5 _ _) ?_
    have hlr : (rowsP ((pl l).take i)).length ≤ 38 * 1000 := by rw [rowsP_len, List.length_take]; omega
    have hld : (dataP ((pl l).take i)).length ≤ 65536 := by rw [dataP_len]; have := totB_take_le (pl l) i; omega
    rw [r7]
    refine TwoRows.left tr6 (sum_bts hq6) (by simp [A.p.k.len]; omega) hx06.size ?_
    intro v7 w7 tr7 hk7
    have hb7 : Bts w7 v6 (be 4 A.p.k.num ++ be 2 A.p.bs.length) := by
      refine ((own_bts ho6).1).keep hk7 (fun k hk hk' => ?_)
      have h1 := (ho6.lt k hk).1
      have h2 := (trd.ob.lt k hk'.symm).2
      have := hx5.size
      omega
    have hx67 : Ext w w7 := Ext.seq hx06 hk7 (fun k hk => (tr6.ob.lt k hk.symm).1)
    refine TwoRows.left tr7 hb7 (by simp [A.p.k.len]; omega) hx67.size ?_
    intro v8 w8 tr8 hk8
    have hx08 : Ext w w8 := Ext.seq hx67 hk8 (fun k hk => (tr7.ob.lt k hk.symm).1)
    have hq8 : w8.heap[q]? = some (.cells A.cs.toArray 115 (0, 0)) := hk8.get (fun h => own_neT tr7.ob (hk7.get (fun h => own_neT tr6.ob hq6 (by decide) h.symm) hq6) (by decide) h.symm) (hk7.get (fun h => own_neT tr6.ob hq6 (by decide) h.symm) hq6)
    rw [X_field_115_1]
    refine X_of (run_loadAt agg_27 (piece_dv hq8)) ?_
    have hin8 : Bts w8 A.dv A.p.bs := hinW.ext hx08
    rw [r8]
    refine TwoRows.right tr8 hin8 (by omega) hx08.size ?_
    intro v9 w9 tr9 hk9
    have hx09 : Ext w w9 := Ext.seq hx08 hk9 (fun k hk => (tr8.od.lt k hk.symm).1)
    rw [X_add]
    show _ ∧ _
    refine ⟨⟨i + 1, v8, v9, by omega, hx09, ?_, next64 (n := 1000) (by decide) (by omega), r25, r24, rfl, rfl⟩, ?_⟩
    · rw [s1, s2]
      have e : be 4 id ++ be 2 l.length ++ rowsP ((pl l).take i) ++ A.p.k.sum ++ (be 4 A.p.k.num ++ be 2 A.p.bs.length) = be 4 id ++ be 2 l.length ++ (rowsP ((pl l).take i) ++ rowP A.p) := by
        unfold rowP
        simp only [List.append_assoc]
      rw [← e]
      exact tr9
    · show (_ - IntKind.i64.wrap _).toNat < _
      rw [w64 (by omega) (by omega)]
      first | omega | (show _ < (_ : Int).toNat; omega)
  · rintro ρ wr ⟨vb, vd, hx, tr, r7, r8⟩
    have hlr : (rowsP (pl l)).length ≤ 38 * 1000 := by rw [rowsP_len, hll]; omega
    have hld : (dataP (pl l)).length ≤ 65536 := by rw [dataP_len]; omega
    rw [r7, r8]
    refine TwoRows.left tr (own_bts tr.od).1 (by simp; omega) hx.size ?_
    intro v7 w7 tr7 hk7
    have hx7 : Ext w w7 := Ext.seq hx hk7 (fun k hk => (tr.ob.lt k hk.symm).1)
    have e : be 4 id ++ be 2 l.length ++ rowsP (pl l) ++ dataP (pl l) = bodyP id (pl l) := by
      unfold bodyP
      rw [hll]
    have hb7 := (own_bts tr7.ob).1
    rw [e] at hb7
    refine Seal_spec hb7 (by rw [bodyP_len, hll]; omega) ?_
    intro v8 w8 hx8 ho8
    exact h1 hc v8 w8 (hx7.trans hx8) (own_mono ho8 hx7.size)
end
end Go.Proofs.Ytggggfcgnkllgaa
end
section
/- A literal of one struct; a struct of two parts. -/
set_option linter.unusedVariables false
set_option linter.unusedSimpArgs false
namespace Go.Sh
open Go Go.RowKit
/-- A loop that is left by one exit, or by a return. -/
theorem loopGR {B : (Exit → Env → World → Prop) → Env → World → Prop} {Q : Exit → Env → World → Prop} {ρ : Env} {w : World} (id : Nat) (I : Env → World → Prop) (μ : Env → World → Nat) (E R : Env → World → Prop) (h0 : I ρ w)
    (h : ∀ J : Exit → Env → World → Prop, (∀ ρ w, E ρ w → J (.exit id) ρ w) → (∀ ρ w, R ρ w → J .ret ρ w) → ∀ ρ w, I ρ w → B (thenS (fun ρ' w' => I ρ' w' ∧ μ ρ' w' < μ ρ w) J) ρ w) (hE : ∀ ρ w, E ρ w → Q (.exit id) ρ w) (hR : ∀ ρ w, R ρ w → Q .ret ρ w) : loopS B Q ρ w :=
  ⟨I, μ, h0, h Q hE hR⟩
theorem closS_of {P : Program} {f : FuncId} {first captured args : Array Value} {w : World} {K : Value → World → Prop} (h : CALL P f (first ++ args ++ captured) w K) : closS P (.func (.func f) first captured) args w K := h
theorem X_buildSliceK {P : Program} {w : World} {K : Value → World → Prop} {T e k bytes : Nat} {z : Value} (hT : P.underlying T = some (.slice e)) (hE : El P e k z bytes) (hk : 0 < k) (hk2 : k ≤ 16777216) {cs : List Value} (hc : cs.length = k)
    (h : K (.slice (some ⟨w.heap.size, 0, none⟩) 1 1) (newB w cs.toArray e)) : X P (Instr.buildSlice T 1 #[(0, .agg cs.toArray)]) w K := by
  obtain ⟨⟨i, hi, hs, hz, _⟩, hzc⟩ := hE
  refine X_of (v := .slice (some ⟨w.heap.size, 0, none⟩) 1 1) (w1 := newB w cs.toArray e) ?_ h
  have h1 : ¬ (1 * k > 2 ^ 24) := by omega
  have h2 : ¬ (1 * k = 0) := by omega
  have hf : ∀ cells : Array Value, cells.size = k → Instr.fill (fun i => some (i * k, k)) cells [(0, .agg cs.toArray)] = some cs.toArray := by
    intro cells hcs
    have := Great.fill_whole hk [Value.agg cs.toArray] cells (by intro v hv; rw [List.mem_singleton.1 hv]; simpa [Value.cells] using hc) (by rw [List.length_singleton, Nat.one_mul, hcs])
    simpa [Value.cells] using this
  have hf' := hf ((Array.range (1 * k)).map fun x => (z.cells)[x % z.cells.size]!) (by simp)
  have q1 : infoB P e = true := by unfold infoB; rw [hi]; rfl
  have q2 : szT P e = k := by unfold szT; rw [hi]; exact hs
  have q3 : zeroT P e = some z := by unfold zeroT; rw [hi]; exact hz
  simp only [Instr.buildSlice, Sem.run_bind, run_underlying hT, Result.andThen_ok, sizeOf_run q1, q2, if_neg h1, if_neg h2, zeroValue_run q3, Sem.run_pure, hf', newRow, run_newObj]
  rfl
theorem fill_app {place : Nat → Option (Nat × Nat)} {i off a : Nat} (hp : place i = some (off, a)) {v : Value} (hv : v.cells.size = a) {cells : Array Value} (hle : off + a ≤ cells.size) (rest : List (Nat × Value)) :
    Instr.fill place cells ((i, v) :: rest) = Instr.fill place (cells.toList.take off ++ v.cells.toList ++ cells.toList.drop (off + a)).toArray rest := by
  rw [Instr.fill, hp]
  simp only [hv]
  rw [if_neg (by simp; omega)]
  congr 1
  apply Array.ext_getElem?
  intro k
  obtain ⟨g1, g2⟩ := Great.foldl_set off v.cells.toList 0 cells
  have e : (v.cells.zipIdx.foldl (fun cs (x : Value × Nat) => cs.setIfInBounds (off + x.2) x.1) cells) = ((v.cells.toList.zipIdx 0).foldl (fun cs (x : Value × Nat) => cs.setIfInBounds (off + x.2) x.1) cells) := by
    rw [← Array.foldl_toList]
    simp
  have g := g2 k
  rw [← e] at g
  refine Eq.trans g ?_
  have hvl : v.cells.toList.length = a := by simpa using hv
  refine Eq.trans ?_ (List.getElem?_toArray).symm
  rw [List.append_assoc]
  have htl : (cells.toList.take off).length = off := by rw [List.length_take]; simp; omega
  by_cases h1 : k < off
  · rw [if_neg (by omega), List.getElem?_append_left (by omega), List.getElem?_take, if_pos h1]
    simp
  · by_cases h2 : k < off + a
    · rw [if_pos (by rw [hvl]; omega), List.getElem?_append_right (by omega), htl, List.getElem?_append_left (by omega), Nat.add_zero]
    · rw [if_neg (by rw [hvl]; omega), List.getElem?_append_right (by omega), htl, List.getElem?_append_right (by omega), hvl, List.getElem?_drop]
      rw [show off + a + (k - off - a) = k by omega]
      simp
theorem run_build2 {P : Program} {t : TypeId} {f0 f1 : Field} {a b : Nat} {z : List Value} (ht : P.underlying t = some (.struct #[f0, f1])) (hz : zeroT P t = some (.agg z.toArray)) (o0 : f0.offset = 0) (o1 : f1.offset = a) (s0 : szT P f0.type = a) (s1 : szT P f1.type = b) (i0 : infoB P f0.type = true) (i1 : infoB P f1.type = true)
    {parts : Array (Nat × Value)} {cells : Array Value} (hf : Instr.fill (fun i => (#[(0, a), (a, b)] : Array (Nat × Nat))[i]?) z.toArray parts.toList = some cells) (w : World) : (Instr.build t parts).run P w = .ok (.agg cells) w := by
  have hm : ((#[f0, f1] : Array Field).mapM fun f => do pure (f.offset, ← sizeOf f.type) : Sem (Array (Nat × Nat))).run P w = .ok #[(0, a), (a, b)] w := by
    rw [Array.mapM_eq_mapM_toList]
    simp [sizeOf_run i0, sizeOf_run i1, s0, s1, o0, o1, List.mapM_cons, List.mapM_nil]
  simp only [Instr.build, Sem.run_bind, zeroValue_run hz, Result.andThen_ok, run_underlying ht, hm]
  have hc : (Value.agg z.toArray).cells = z.toArray := rfl
  rw [hc, hf]
  rfl
theorem fill_both {a b : Nat} {v0 v1 : Value} (h0 : v0.cells.size = a) (h1 : v1.cells.size = b) {z : List Value} (hz : z.length = a + b) :
    Instr.fill (fun i => (#[(0, a), (a, b)] : Array (Nat × Nat))[i]?) z.toArray [(0, v0), (1, v1)] = some (v0.cells.toList ++ v1.cells.toList).toArray := by
  have l0 : v0.cells.toList.length = a := by simpa using h0
  rw [fill_app (a := a) (off := 0) rfl h0 (by simp; omega), fill_app (a := b) (off := a) rfl h1 (by simp; omega)]
  unfold Instr.fill
  congr 2
  simp only [List.take_zero, List.nil_append, Nat.zero_add]
  rw [List.take_append_of_le_length (by simp; omega), List.take_of_length_le (by simp; omega), List.drop_eq_nil_of_le (by simp; omega), List.append_nil]
theorem fill_left {a b : Nat} {v0 : Value} (h0 : v0.cells.size = a) {z : List Value} (hz : z.length = a + b) :
    Instr.fill (fun i => (#[(0, a), (a, b)] : Array (Nat × Nat))[i]?) z.toArray [(0, v0)] = some (v0.cells.toList ++ z.drop a).toArray := by
  rw [fill_app (a := a) (off := 0) rfl h0 (by simp; omega)]
  unfold Instr.fill
  congr 2
  simp
theorem fill_right {a b : Nat} {v1 : Value} (h1 : v1.cells.size = b) {z : List Value} (hz : z.length = a + b) :
    Instr.fill (fun i => (#[(0, a), (a, b)] : Array (Nat × Nat))[i]?) z.toArray [(1, v1)] = some (z.take a ++ v1.cells.toList).toArray := by
  rw [fill_app (a := b) (off := a) rfl h1 (by simp; omega)]
  unfold Instr.fill
  congr 2
  simp only [List.toList_toArray]
  rw [List.drop_eq_nil_of_le (by omega), List.append_nil]
end Go.Sh
end
section
set_option linter.unusedVariables false
namespace Go.Proofs.Ytggggfcgnkllgaa
open Go Go.Sh
attribute [local irreducible] X XU XP XR CALL loopS resC closS
/-- cellarage/cellarageref11.Lay -/
def B_ref11_Lay (x0 x1 : Value) (w : World) (K : Value → World → Prop) : Prop :=
  CALL Try.prog 137 #[x1] w fun v1_11 w1 =>
  X Try.prog (binOpG .neq 30 (.tmp 12) (.const (.int .i64 0)) v1_11 (.int .i64 0)) w1 fun v2_13 w2 =>
  condS v2_13 (
  K (.tuple #[(.slice none 0 0), v1_11]) w2) (
  X Try.prog (convert 23 22 x0) w2 fun v3_16 w3 =>
  CALL Try.prog 125 #[v3_16, (.int .i64 4)] w3 fun v4_17 w4 =>
  X Try.prog (Builtin.len_ #[100] 3 #[x1]) w4 fun v5_20 w5 =>
  X Try.prog (convert 3 22 v5_20) w5 fun v6_21 w6 =>
  CALL Try.prog 125 #[v6_21, (.int .i64 2)] w6 fun v7_22 w7 =>
  X Try.prog (Builtin.append_ #[27, 27] 27 #[v4_17, v7_22]) w7 fun v8_23 w8 =>
  loopS (fun Q1 ρ1 w9 =>
  X Try.prog (Builtin.len_ #[100] 3 #[(ρ1 1)]) w9 fun v9_26 w10 =>
  X Try.prog (binOp .lss 3 (ρ1 8) v9_26) w10 fun v10_27 w11 =>
  condS v10_27 (
  X Try.prog (Instr.indexAt 100 (ρ1 1) (ρ1 8)) w11 fun v11_33 w12 =>
  X Try.prog (Instr.fieldAt 115 v11_33 0) w12 fun v12_34 w13 =>
  X Try.prog (Instr.fieldAt 113 v12_34 0) w13 fun v13_35 w14 =>
  X Try.prog (Instr.sliceAt 111 v13_35 none none none) w14 fun v14_36 w15 =>
  X Try.prog (Builtin.append_ #[27, 27] 27 #[(ρ1 7), v14_36]) w15 fun v15_37 w16 =>
  X Try.prog (Instr.indexAt 100 (ρ1 1) (ρ1 8)) w16 fun v16_41 w17 =>
  X Try.prog (Instr.fieldAt 115 v16_41 0) w17 fun v17_42 w18 =>
  X Try.prog (Instr.fieldAt 113 v17_42 1) w18 fun v18_43 w19 =>
  X Try.prog (Instr.loadAt 23 v18_43) w19 fun v19_44 w20 =>
  X Try.prog (convert 23 22 v19_44) w20 fun v20_45 w21 =>
  CALL Try.prog 125 #[v20_45, (.int .i64 4)] w21 fun v21_46 w22 =>
  X Try.prog (Builtin.append_ #[27, 27] 27 #[v15_37, v21_46]) w22 fun v22_47 w23 =>
  X Try.prog (Instr.indexAt 100 (ρ1 1) (ρ1 8)) w23 fun v23_51 w24 =>
  X Try.prog (Instr.fieldAt 115 v23_51 1) w24 fun v24_52 w25 =>
  X Try.prog (Instr.loadAt 27 v24_52) w25 fun v25_53 w26 =>
  X Try.prog (Builtin.len_ #[27] 3 #[v25_53]) w26 fun v26_54 w27 =>
  X Try.prog (convert 3 22 v26_54) w27 fun v27_55 w28 =>
  CALL Try.prog 125 #[v27_55, (.int .i64 2)] w28 fun v28_56 w29 =>
  X Try.prog (Builtin.append_ #[27, 27] 27 #[v22_47, v28_56]) w29 fun v29_57 w30 =>
  X Try.prog (binOp .add 3 (ρ1 8) (.int .i64 1)) w30 fun v30_29 w31 =>
  Q1 .normal (upds ρ1 [(8, v30_29), (29, v30_29), (28, (ρ1 8)), (7, v29_57), (57, v29_57), (56, v28_56), (55, v27_55), (54, v26_54), (53, v25_53), (52, v24_52), (51, v23_51), (50, (ρ1 8)), (49, (ρ1 1)), (48, v22_47), (7, v22_47), (47, v22_47), (46, v21_46), (45, v20_45), (44, v19_44), (43, v18_43), (42, v17_42), (41, v16_41), (40, (ρ1 8)), (39, (ρ1 1)), (38, v15_37), (7, v15_37), (37, v15_37), (36, v14_36), (35, v13_35), (34, v12_34), (33, v11_33), (32, (ρ1 8)), (31, (ρ1 1)), (30, (ρ1 7)), (27, v10_27), (26, v9_26), (25, (ρ1 1)), (24, (ρ1 8))]) w31) (
  Q1 (.exit 0) (upds ρ1 [(27, v10_27), (26, v9_26), (25, (ρ1 1)), (24, (ρ1 8))]) w11)) (inBlockS 0 (thenS (fun ρ2 w32 =>
  loopS (fun Q3 ρ3 w33 =>
  X Try.prog (Builtin.len_ #[100] 3 #[(ρ3 1)]) w33 fun v31_60 w34 =>
  X Try.prog (binOp .lss 3 (ρ3 9) v31_60) w34 fun v32_61 w35 =>
  condS v32_61 (
  X Try.prog (Instr.indexAt 100 (ρ3 1) (ρ3 9)) w35 fun v33_67 w36 =>
  X Try.prog (Instr.fieldAt 115 v33_67 1) w36 fun v34_68 w37 =>
  X Try.prog (Instr.loadAt 27 v34_68) w37 fun v35_69 w38 =>
  X Try.prog (Builtin.append_ #[27, 27] 27 #[(ρ3 7), v35_69]) w38 fun v36_70 w39 =>
  X Try.prog (binOp .add 3 (ρ3 9) (.int .i64 1)) w39 fun v37_63 w40 =>
  Q3 .normal (upds ρ3 [(9, v37_63), (63, v37_63), (62, (ρ3 9)), (7, v36_70), (70, v36_70), (69, v35_69), (68, v34_68), (67, v33_67), (66, (ρ3 9)), (65, (ρ3 1)), (64, (ρ3 7)), (61, v32_61), (60, v31_60), (59, (ρ3 1)), (58, (ρ3 9))]) w40) (
  Q3 (.exit 2) (upds ρ3 [(61, v32_61), (60, v31_60), (59, (ρ3 1)), (58, (ρ3 9))]) w35)) (inBlockS 2 (thenS (fun ρ4 w41 =>
  CALL Try.prog 57 #[(ρ4 7)] w41 fun v38_72 w42 =>
  K (.tuple #[v38_72, (.int .i64 0)]) w42) (retS Try.prog (Try.f88).results K))) (upds ρ2 [(9, (.int .i64 0))]) w32) (retS Try.prog (Try.f88).results K))) (upds (env0 #[x0, x1]) [(8, (.int .i64 0)), (7, v8_23), (23, v8_23), (22, v7_22), (21, v6_21), (20, v5_20), (19, x1), (18, v4_17), (7, v4_17), (17, v4_17), (16, v3_16), (15, x0), (13, v2_13), (12, v1_11), (6, v1_11), (11, v1_11), (10, x1), (5, (.int .i64 0)), (4, (.slice none 0 0))]) w8)

theorem eq_ref11_Lay (x0 x1 : Value) (w : World) (K : Value → World → Prop) :
    sh Try.prog (Try.f88.body.getD .skip) (retS Try.prog Try.f88.results K) (env0 #[x0, x1]) w = B_ref11_Lay x0 x1 w K := by kernel_rfl

theorem call_ref11_Lay (x0 x1 : Value) (w : World) (K : Value → World → Prop) (h : B_ref11_Lay x0 x1 w K) : CALL Try.prog 88 #[x0, x1] w K :=
  call_of_eq (c := Try.f88.body.getD .skip) mixed Try.func88 (by kernel_rfl) (by kernel_rfl) (by kernel_rfl) (Nat.le_of_ble_eq_true (by kernel_rfl)) (eq_ref11_Lay x0 x1 w K) h

/-- cellarage/cellarageref11.Size -/
def B_ref11_Size (x0 : Value) (w : World) (K : Value → World → Prop) : Prop :=
  loopS (fun Q1 ρ1 w1 =>
  X Try.prog (Builtin.len_ #[100] 3 #[(ρ1 0)]) w1 fun v1_7 w2 =>
  X Try.prog (binOp .lss 3 (ρ1 4) v1_7) w2 fun v2_8 w3 =>
  condS v2_8 (
  X Try.prog (binOp .add 3 (ρ1 3) (.int .i64 38)) w3 fun v3_12 w4 =>
  X Try.prog (Instr.indexAt 100 (ρ1 0) (ρ1 4)) w4 fun v4_15 w5 =>
  X Try.prog (Instr.fieldAt 115 v4_15 1) w5 fun v5_16 w6 =>
  X Try.prog (Instr.loadAt 27 v5_16) w6 fun v6_17 w7 =>
  X Try.prog (Builtin.len_ #[27] 3 #[v6_17]) w7 fun v7_18 w8 =>
  X Try.prog (binOp .add 3 v3_12 v7_18) w8 fun v8_19 w9 =>
  X Try.prog (binOp .add 3 (ρ1 4) (.int .i64 1)) w9 fun v9_10 w10 =>
  Q1 .normal (upds ρ1 [(4, v9_10), (10, v9_10), (9, (ρ1 4)), (3, v8_19), (19, v8_19), (18, v7_18), (17, v6_17), (16, v5_16), (15, v4_15), (14, (ρ1 4)), (13, (ρ1 0)), (12, v3_12), (11, (ρ1 3)), (8, v2_8), (7, v1_7), (6, (ρ1 0)), (5, (ρ1 4))]) w10) (
  Q1 (.exit 0) (upds ρ1 [(8, v2_8), (7, v1_7), (6, (ρ1 0)), (5, (ρ1 4))]) w3)) (inBlockS 0 (thenS (fun ρ2 w11 =>
  K (ρ2 3) w11) (retS Try.prog (Try.f90).results K))) (upds (env0 #[x0]) [(4, (.int .i64 0)), (3, (.int .i64 10)), (2, (.int .i64 0))]) w

theorem eq_ref11_Size (x0 : Value) (w : World) (K : Value → World → Prop) :
    sh Try.prog (Try.f90.body.getD .skip) (retS Try.prog Try.f90.results K) (env0 #[x0]) w = B_ref11_Size x0 w K := by kernel_rfl

theorem call_ref11_Size (x0 : Value) (w : World) (K : Value → World → Prop) (h : B_ref11_Size x0 w K) : CALL Try.prog 90 #[x0] w K :=
  call_of_eq (c := Try.f90.body.getD .skip) mixed Try.func90 (by kernel_rfl) (by kernel_rfl) (by kernel_rfl) (Nat.le_of_ble_eq_true (by kernel_rfl)) (eq_ref11_Size x0 w K) h

/-- cellarage/cellarageref11.Same -/
def B_ref11_Same (x0 x1 : Value) (w : World) (K : Value → World → Prop) : Prop :=
  X Try.prog (Builtin.len_ #[100] 3 #[x0]) w fun v1_7 w1 =>
  X Try.prog (Builtin.len_ #[100] 3 #[x1]) w1 fun v2_9 w2 =>
  X Try.prog (binOpG .neq 3 (.tmp 7) (.tmp 9) v1_7 v2_9) w2 fun v3_10 w3 =>
  condS v3_10 (
  K (.bool false) w3) (
  loopS (fun Q1 ρ1 w4 =>
  X Try.prog (Builtin.len_ #[100] 3 #[(ρ1 0)]) w4 fun v4_13 w5 =>
  X Try.prog (binOp .lss 3 (ρ1 5) v4_13) w5 fun v5_14 w6 =>
  condS v5_14 (
  ∃ R, Frame? R ∧
  XP Try.prog (Instr.indexAt 100 (ρ1 0) (ρ1 5)) (drewW w6) fun v6_19 w7 =>
  XP Try.prog (Instr.fieldAt 115 v6_19 0) w7 fun v7_20 w8 =>
  XR Try.prog R (Instr.loadAt 113 v7_20) w8 fun v8_21 w9 =>
  XP Try.prog (Instr.indexAt 100 (ρ1 1) (ρ1 5)) w9 fun v9_24 w10 =>
  XP Try.prog (Instr.fieldAt 115 v9_24 0) w10 fun v10_25 w11 =>
  XR Try.prog R (Instr.loadAt 113 v10_25) w11 fun v11_26 w12 =>
  XP Try.prog (binOpG .neq 113 (.tmp 21) (.tmp 26) v8_21 v11_26) w12 fun v12_27 w13 =>
  gstep v12_27 false (fun w14 K => K (ρ1 0) w14) w13 fun v13_29 w15 =>
  gstep v12_27 false (fun w16 K => K (ρ1 5) w16) w15 fun v14_30 w17 =>
  gstep v12_27 false (fun w18 K => XP Try.prog (Instr.indexAt 100 v13_29 v14_30) w18 K) w17 fun v15_31 w19 =>
  gstep v12_27 false (fun w20 K => XP Try.prog (Instr.fieldAt 115 v15_31 1) w20 K) w19 fun v16_32 w21 =>
  gstep v12_27 false (fun w22 K => XR Try.prog R (Instr.loadAt 27 v16_32) w22 K) w21 fun v17_33 w23 =>
  gstep v12_27 false (fun w24 K => XR Try.prog R (convert 27 9 v17_33) w24 K) w23 fun v18_34 w25 =>
  gstep v12_27 false (fun w26 K => K (ρ1 1) w26) w25 fun v19_35 w27 =>
  gstep v12_27 false (fun w28 K => K (ρ1 5) w28) w27 fun v20_36 w29 =>
  gstep v12_27 false (fun w30 K => XP Try.prog (Instr.indexAt 100 v19_35 v20_36) w30 K) w29 fun v21_37 w31 =>
  gstep v12_27 false (fun w32 K => XP Try.prog (Instr.fieldAt 115 v21_37 1) w32 K) w31 fun v22_38 w33 =>
  gstep v12_27 false (fun w34 K => XR Try.prog R (Instr.loadAt 27 v22_38) w34 K) w33 fun v23_39 w35 =>
  gstep v12_27 false (fun w36 K => XR Try.prog R (convert 27 9 v23_39) w36 K) w35 fun v24_40 w37 =>
  gstep v12_27 false (fun w38 K => XP Try.prog (binOpG .neq 9 (.tmp 34) (.tmp 40) v18_34 v24_40) w38 K) w37 fun v25_41 w39 =>
  XP Try.prog (pickS v12_27 (.bool true) v25_41) w39 fun v26_42 w40 =>
  condS v26_42 (
  Q1 .ret (upds ρ1 [(4, (.bool false)), (42, v26_42), (41, v25_41), (40, v24_40), (39, v23_39), (38, v22_38), (37, v21_37), (36, v20_36), (35, v19_35), (34, v18_34), (33, v17_33), (32, v16_32), (31, v15_31), (30, v14_30), (29, v13_29), (28, v12_27), (27, v12_27), (26, v11_26), (25, v10_25), (24, v9_24), (23, (ρ1 5)), (22, (ρ1 1)), (21, v8_21), (20, v7_20), (19, v6_19), (18, (ρ1 5)), (17, (ρ1 0)), (14, v5_14), (13, v4_13), (12, (ρ1 0)), (11, (ρ1 5))]) w40) (
  X Try.prog (binOp .add 3 (ρ1 5) (.int .i64 1)) w40 fun v27_16 w41 =>
  Q1 .normal (upds ρ1 [(5, v27_16), (16, v27_16), (15, (ρ1 5)), (42, v26_42), (41, v25_41), (40, v24_40), (39, v23_39), (38, v22_38), (37, v21_37), (36, v20_36), (35, v19_35), (34, v18_34), (33, v17_33), (32, v16_32), (31, v15_31), (30, v14_30), (29, v13_29), (28, v12_27), (27, v12_27), (26, v11_26), (25, v10_25), (24, v9_24), (23, (ρ1 5)), (22, (ρ1 1)), (21, v8_21), (20, v7_20), (19, v6_19), (18, (ρ1 5)), (17, (ρ1 0)), (14, v5_14), (13, v4_13), (12, (ρ1 0)), (11, (ρ1 5))]) w41)) (
  Q1 (.exit 0) (upds ρ1 [(14, v5_14), (13, v4_13), (12, (ρ1 0)), (11, (ρ1 5))]) w6)) (inBlockS 0 (thenS (fun ρ2 w42 =>
  K (.bool true) w42) (retS Try.prog (Try.f92).results K))) (upds (env0 #[x0, x1]) [(5, (.int .i64 0)), (10, v3_10), (9, v2_9), (8, x1), (7, v1_7), (6, x0), (4, (.bool false))]) w3)

theorem eq_ref11_Same (x0 x1 : Value) (w : World) (K : Value → World → Prop) :
    sh Try.prog (Try.f92.body.getD .skip) (retS Try.prog Try.f92.results K) (env0 #[x0, x1]) w = B_ref11_Same x0 x1 w K := by kernel_rfl

theorem call_ref11_Same (x0 x1 : Value) (w : World) (K : Value → World → Prop) (h : B_ref11_Same x0 x1 w K) : CALL Try.prog 92 #[x0, x1] w K :=
  call_of_eq (c := Try.f92.body.getD .skip) mixed Try.func92 (by kernel_rfl) (by kernel_rfl) (by kernel_rfl) (Nat.le_of_ble_eq_true (by kernel_rfl)) (eq_ref11_Same x0 x1 w K) h

/-- cellarage/cellarageref11.Take -/
def B_ref11_Take (x0 : Value) (w : World) (K : Value → World → Prop) : Prop :=
  CALL Try.prog 55 #[x0] w fun v1_19 w1 =>
  X Try.prog (Instr.extract v1_19 0) w1 fun v2_20 w2 =>
  X Try.prog (Instr.extract v1_19 1) w2 fun v3_21 w3 =>
  X Try.prog (Op.unary .not v3_21) w3 fun v4_23 w4 =>
  condS v4_23 (
  K (.tuple #[(.int .u32 0), (.slice none 0 0), (.int .i64 110)]) w4) (
  X Try.prog (Instr.build 57 #[(0, v2_20)]) w4 fun v5_25 w5 =>
  X Try.prog (Instr.box 57 v5_25) w5 fun v6_26 w6 =>
  CALL Try.prog 62 #[v6_26, (.int .i64 4)] w6 fun v7_28 w7 =>
  X Try.prog (convert 22 23 v7_28) w7 fun v8_29 w8 =>
  CALL Try.prog 62 #[v6_26, (.int .i64 2)] w8 fun v9_31 w9 =>
  X Try.prog (convert 22 3 v9_31) w9 fun v10_32 w10 =>
  loopS (fun Q1 ρ1 w11 =>
  X Try.prog (binOp .lss 3 (ρ1 12) (ρ1 9)) w11 fun v11_35 w12 =>
  gstep v11_35 true (fun w13 K => K (ρ1 7) w13) w12 fun v12_37 w14 =>
  gstep v11_35 true (fun w15 K => X Try.prog (nilS v12_37) w15 K) w14 fun v13_38 w16 =>
  gstep v11_35 true (fun w17 K => X Try.prog (Instr.fieldAt 57 v13_38 2) w17 K) w16 fun v14_39 w18 =>
  gstep v11_35 true (fun w19 K => X Try.prog (Instr.loadAt 30 v14_39) w19 K) w18 fun v15_40 w20 =>
  gstep v11_35 true (fun w21 K => X Try.prog (binOpG .eql 30 (.tmp 40) (.const (.int .i64 0)) v15_40 (.int .i64 0)) w21 K) w20 fun v16_41 w22 =>
  X Try.prog (pickS v11_35 v16_41 (.bool false)) w22 fun v17_42 w23 =>
  condS v17_42 (
  CALL Try.prog 140 #[(ρ1 7)] w23 fun v18_46 w24 =>
  X Try.prog (Instr.build 113 #[(0, v18_46)]) w24 fun v19_47 w25 =>
  X Try.prog (Instr.build 115 #[(0, v19_47)]) w25 fun v20_48 w26 =>
  X Try.prog (Instr.alloc 115 true (.tuple #[])) w26 fun v21_13 w27 =>
  XU Try.prog (Instr.storeAt 115 v21_13 v20_48) w27 fun w28 =>
  CALL Try.prog 62 #[(ρ1 7), (.int .i64 4)] w28 fun v22_50 w29 =>
  X Try.prog (convert 22 23 v22_50) w29 fun v23_51 w30 =>
  X Try.prog (Instr.fieldAt 115 v21_13 0) w30 fun v24_52 w31 =>
  X Try.prog (Instr.fieldAt 113 v24_52 1) w31 fun v25_53 w32 =>
  XU Try.prog (Instr.storeAt 23 v25_53 v23_51) w32 fun w33 =>
  CALL Try.prog 62 #[(ρ1 7), (.int .i64 2)] w33 fun v26_56 w34 =>
  X Try.prog (convert 22 3 v26_56) w34 fun v27_57 w35 =>
  X Try.prog (Instr.buildSlice 79 1 #[(0, v27_57)]) w35 fun v28_58 w36 =>
  X Try.prog (Builtin.append_ #[79, 79] 79 #[(ρ1 11), v28_58]) w36 fun v29_59 w37 =>
  X Try.prog (Instr.loadAt 115 v21_13) w37 fun v30_61 w38 =>
  X Try.prog (Instr.buildSlice 100 1 #[(0, v30_61)]) w38 fun v31_62 w39 =>
  X Try.prog (Builtin.append_ #[100, 100] 100 #[(ρ1 10), v31_62]) w39 fun v32_63 w40 =>
  X Try.prog (binOp .add 3 (ρ1 12) (.int .i64 1)) w40 fun v33_44 w41 =>
  Q1 .normal (upds ρ1 [(12, v33_44), (44, v33_44), (43, (ρ1 12)), (10, v32_63), (63, v32_63), (62, v31_62), (61, v30_61), (60, (ρ1 10)), (11, v29_59), (59, v29_59), (58, v28_58), (57, v27_57), (56, v26_56), (55, (ρ1 7)), (54, (ρ1 11)), (53, v25_53), (52, v24_52), (51, v23_51), (50, v22_50), (49, (ρ1 7)), (13, v21_13), (48, v20_48), (47, v19_47), (46, v18_46), (45, (ρ1 7)), (42, v17_42), (41, v16_41), (40, v15_40), (39, v14_39), (38, v13_38), (37, v12_37), (36, v11_35), (35, v11_35), (34, (ρ1 9)), (33, (ρ1 12))]) w41) (
  Q1 (.exit 0) (upds ρ1 [(42, v17_42), (41, v16_41), (40, v15_40), (39, v14_39), (38, v13_38), (37, v12_37), (36, v11_35), (35, v11_35), (34, (ρ1 9)), (33, (ρ1 12))]) w23)) (inBlockS 0 (thenS (fun ρ2 w42 =>
  loopS (fun Q3 ρ3 w43 =>
  X Try.prog (Builtin.len_ #[100] 3 #[(ρ3 10)]) w43 fun v34_66 w44 =>
  X Try.prog (binOp .lss 3 (ρ3 14) v34_66) w44 fun v35_67 w45 =>
  gstep v35_67 true (fun w46 K => K (ρ3 7) w46) w45 fun v36_69 w47 =>
  gstep v35_67 true (fun w48 K => X Try.prog (nilS v36_69) w48 K) w47 fun v37_70 w49 =>
  gstep v35_67 true (fun w50 K => X Try.prog (Instr.fieldAt 57 v37_70 2) w50 K) w49 fun v38_71 w51 =>
  gstep v35_67 true (fun w52 K => X Try.prog (Instr.loadAt 30 v38_71) w52 K) w51 fun v39_72 w53 =>
  gstep v35_67 true (fun w54 K => X Try.prog (binOpG .eql 30 (.tmp 72) (.const (.int .i64 0)) v39_72 (.int .i64 0)) w54 K) w53 fun v40_73 w55 =>
  X Try.prog (pickS v35_67 v40_73 (.bool false)) w55 fun v41_74 w56 =>
  condS v41_74 (
  ∃ R, Frame? R ∧
  XP Try.prog (Instr.indexAt 79 (ρ3 11) (ρ3 14)) (drewW w56) fun v42_79 w57 =>
  XR Try.prog R (Instr.loadAt 3 v42_79) w57 fun v43_80 w58 =>
  XP Try.prog (nilS (ρ3 7)) w58 fun v44_82 w59 =>
  XP Try.prog (Instr.fieldAt 57 v44_82 0) w59 fun v45_83 w60 =>
  XR Try.prog R (Instr.loadAt 27 v45_83) w60 fun v46_84 w61 =>
  XP Try.prog (Builtin.len_ #[27] 3 #[v46_84]) w61 fun v47_85 w62 =>
  XP Try.prog (nilS (ρ3 7)) w62 fun v48_87 w63 =>
  XP Try.prog (Instr.fieldAt 57 v48_87 1) w63 fun v49_88 w64 =>
  XR Try.prog R (Instr.loadAt 3 v49_88) w64 fun v50_89 w65 =>
  XP Try.prog (binOp .sub 3 v47_85 v50_89) w65 fun v51_90 w66 =>
  XP Try.prog (binOp .gtr 3 v43_80 v51_90) w66 fun v52_91 w67 =>
  condS v52_91 (
  Q3 .ret (upds ρ3 [(4, (.int .i64 110)), (3, (.slice none 0 0)), (2, (.int .u32 0)), (91, v52_91), (90, v51_90), (89, v50_89), (88, v49_88), (87, v48_87), (86, (ρ3 7)), (85, v47_85), (84, v46_84), (83, v45_83), (82, v44_82), (81, (ρ3 7)), (80, v43_80), (79, v42_79), (78, (ρ3 14)), (77, (ρ3 11)), (74, v41_74), (73, v40_73), (72, v39_72), (71, v38_71), (70, v37_70), (69, v36_69), (68, v35_67), (67, v35_67), (66, v34_66), (65, (ρ3 10)), (64, (ρ3 14))]) w67) (
  ∃ R, Frame? R ∧
  XP Try.prog (nilS (ρ3 7)) (drewW w67) fun v53_95 w68 =>
  XP Try.prog (Instr.fieldAt 57 v53_95 0) w68 fun v54_96 w69 =>
  XR Try.prog R (Instr.loadAt 27 v54_96) w69 fun v55_97 w70 =>
  XP Try.prog (nilS (ρ3 7)) w70 fun v56_99 w71 =>
  XP Try.prog (Instr.fieldAt 57 v56_99 1) w71 fun v57_100 w72 =>
  XR Try.prog R (Instr.loadAt 3 v57_100) w72 fun v58_101 w73 =>
  XP Try.prog (nilS (ρ3 7)) w73 fun v59_103 w74 =>
  XP Try.prog (Instr.fieldAt 57 v59_103 1) w74 fun v60_104 w75 =>
  XR Try.prog R (Instr.loadAt 3 v60_104) w75 fun v61_105 w76 =>
  XP Try.prog (Instr.indexAt 79 (ρ3 11) (ρ3 14)) w76 fun v62_108 w77 =>
  XR Try.prog R (Instr.loadAt 3 v62_108) w77 fun v63_109 w78 =>
  XP Try.prog (binOp .add 3 v61_105 v63_109) w78 fun v64_110 w79 =>
  XP Try.prog (Instr.sliceAt 27 v55_97 (some v58_101) (some v64_110) none) w79 fun v65_111 w80 =>
  XP Try.prog (Instr.indexAt 100 (ρ3 10) (ρ3 14)) w80 fun v66_112 w81 =>
  XP Try.prog (Instr.fieldAt 115 v66_112 1) w81 fun v67_113 w82 =>
  XU Try.prog (Instr.storeAt 27 v67_113 v65_111) w82 fun w83 =>
  ∃ R, Frame? R ∧
  XP Try.prog (nilS (ρ3 7)) (drewW w83) fun v68_116 w84 =>
  XP Try.prog (Instr.fieldAt 57 v68_116 1) w84 fun v69_117 w85 =>
  XR Try.prog R (Instr.loadAt 3 v69_117) w85 fun v70_118 w86 =>
  XP Try.prog (Instr.indexAt 79 (ρ3 11) (ρ3 14)) w86 fun v71_121 w87 =>
  XR Try.prog R (Instr.loadAt 3 v71_121) w87 fun v72_122 w88 =>
  XP Try.prog (binOp .add 3 v70_118 v72_122) w88 fun v73_123 w89 =>
  XP Try.prog (nilS (ρ3 7)) w89 fun v74_124 w90 =>
  XP Try.prog (Instr.fieldAt 57 v74_124 1) w90 fun v75_125 w91 =>
  XU Try.prog (Instr.storeAt 3 v75_125 v73_123) w91 fun w92 =>
  X Try.prog (binOp .add 3 (ρ3 14) (.int .i64 1)) w92 fun v76_76 w93 =>
  Q3 .normal (upds ρ3 [(14, v76_76), (76, v76_76), (75, (ρ3 14)), (125, v75_125), (124, v74_124), (123, v73_123), (122, v72_122), (121, v71_121), (120, (ρ3 14)), (119, (ρ3 11)), (118, v70_118), (117, v69_117), (116, v68_116), (115, (ρ3 7)), (114, (ρ3 7)), (113, v67_113), (112, v66_112), (111, v65_111), (110, v64_110), (109, v63_109), (108, v62_108), (107, (ρ3 14)), (106, (ρ3 11)), (105, v61_105), (104, v60_104), (103, v59_103), (102, (ρ3 7)), (101, v58_101), (100, v57_100), (99, v56_99), (98, (ρ3 7)), (97, v55_97), (96, v54_96), (95, v53_95), (94, (ρ3 7)), (93, (ρ3 14)), (92, (ρ3 10)), (91, v52_91), (90, v51_90), (89, v50_89), (88, v49_88), (87, v48_87), (86, (ρ3 7)), (85, v47_85), (84, v46_84), (83, v45_83), (82, v44_82), (81, (ρ3 7)), (80, v43_80), (79, v42_79), (78, (ρ3 14)), (77, (ρ3 11)), (74, v41_74), (73, v40_73), (72, v39_72), (71, v38_71), (70, v37_70), (69, v36_69), (68, v35_67), (67, v35_67), (66, v34_66), (65, (ρ3 10)), (64, (ρ3 14))]) w93)) (
  Q3 (.exit 2) (upds ρ3 [(74, v41_74), (73, v40_73), (72, v39_72), (71, v38_71), (70, v37_70), (69, v36_69), (68, v35_67), (67, v35_67), (66, v34_66), (65, (ρ3 10)), (64, (ρ3 14))]) w56)) (inBlockS 2 (thenS (fun ρ4 w94 =>
  CALL Try.prog 88 #[(ρ4 8), (ρ4 10)] w94 fun v77_129 w95 =>
  X Try.prog (Instr.extract v77_129 0) w95 fun v78_130 w96 =>
  X Try.prog (Instr.extract v77_129 1) w96 fun v79_131 w97 =>
  CALL Try.prog 66 #[(ρ4 7)] w97 fun v80_133 w98 =>
  X Try.prog (binOpG .neq 30 (.tmp 133) (.const (.int .i64 0)) v80_133 (.int .i64 0)) w98 fun v81_134 w99 =>
  gstep v81_134 false (fun w100 K => K v79_131 w100) w99 fun v82_136 w101 =>
  gstep v81_134 false (fun w102 K => X Try.prog (binOpG .neq 30 (.tmp 136) (.const (.int .i64 0)) v82_136 (.int .i64 0)) w102 K) w101 fun v83_137 w103 =>
  X Try.prog (pickS v81_134 (.bool true) v83_137) w103 fun v84_138 w104 =>
  gstep v84_138 false (fun w105 K => K v78_130 w105) w104 fun v85_140 w106 =>
  gstep v84_138 false (fun w107 K => X Try.prog (convert 27 9 v85_140) w107 K) w106 fun v86_141 w108 =>
  gstep v84_138 false (fun w109 K => K (ρ4 0) w109) w108 fun v87_142 w110 =>
  gstep v84_138 false (fun w111 K => X Try.prog (convert 27 9 v87_142) w111 K) w110 fun v88_143 w112 =>
  gstep v84_138 false (fun w113 K => X Try.prog (binOpG .neq 9 (.tmp 141) (.tmp 143) v86_141 v88_143) w113 K) w112 fun v89_144 w114 =>
  X Try.prog (pickS v84_138 (.bool true) v89_144) w114 fun v90_145 w115 =>
  condS v90_145 (
  K (.tuple #[(.int .u32 0), (.slice none 0 0), (.int .i64 110)]) w115) (
  K (.tuple #[(ρ4 8), (ρ4 10), (.int .i64 0)]) w115)) (retS Try.prog (Try.f93).results K))) (upds ρ2 [(14, (.int .i64 0))]) w42) (retS Try.prog (Try.f93).results K))) (upds (env0 #[x0]) [(12, (.int .i64 0)), (11, (.slice none 0 0)), (10, (.slice none 0 0)), (9, v10_32), (32, v10_32), (31, v9_31), (30, v6_26), (8, v8_29), (29, v8_29), (28, v7_28), (27, v6_26), (7, v6_26), (26, v6_26), (25, v5_25), (24, v2_20), (23, v4_23), (22, v3_21), (6, v3_21), (5, v2_20), (21, v3_21), (20, v2_20), (17, v1_19), (19, v1_19), (18, x0), (4, (.int .i64 0)), (3, (.slice none 0 0)), (2, (.int .u32 0))]) w10)

theorem eq_ref11_Take (x0 : Value) (w : World) (K : Value → World → Prop) :
    sh Try.prog (Try.f93.body.getD .skip) (retS Try.prog Try.f93.results K) (env0 #[x0]) w = B_ref11_Take x0 w K := by kernel_rfl

theorem call_ref11_Take (x0 : Value) (w : World) (K : Value → World → Prop) (h : B_ref11_Take x0 w K) : CALL Try.prog 93 #[x0] w K :=
  call_of_eq (c := Try.f93.body.getD .skip) mixed Try.func93 (by kernel_rfl) (by kernel_rfl) (by kernel_rfl) (Nat.le_of_ble_eq_true (by kernel_rfl)) (eq_ref11_Take x0 w K) h

/-- cellarage/cellarageref11.SameKeys -/
def B_ref11_SameKeys (x0 x1 : Value) (w : World) (K : Value → World → Prop) : Prop :=
  X Try.prog (Builtin.len_ #[116] 3 #[x0]) w fun v1_7 w1 =>
  X Try.prog (Builtin.len_ #[116] 3 #[x1]) w1 fun v2_9 w2 =>
  X Try.prog (binOpG .neq 3 (.tmp 7) (.tmp 9) v1_7 v2_9) w2 fun v3_10 w3 =>
  condS v3_10 (
  K (.bool false) w3) (
  loopS (fun Q1 ρ1 w4 =>
  X Try.prog (Builtin.len_ #[116] 3 #[(ρ1 0)]) w4 fun v4_13 w5 =>
  X Try.prog (binOp .lss 3 (ρ1 5) v4_13) w5 fun v5_14 w6 =>
  condS v5_14 (
  ∃ R, Frame? R ∧
  XP Try.prog (Instr.indexAt 116 (ρ1 0) (ρ1 5)) (drewW w6) fun v6_19 w7 =>
  XR Try.prog R (Instr.loadAt 113 v6_19) w7 fun v7_20 w8 =>
  XP Try.prog (Instr.indexAt 116 (ρ1 1) (ρ1 5)) w8 fun v8_23 w9 =>
  XR Try.prog R (Instr.loadAt 113 v8_23) w9 fun v9_24 w10 =>
  XP Try.prog (binOpG .neq 113 (.tmp 20) (.tmp 24) v7_20 v9_24) w10 fun v10_25 w11 =>
  condS v10_25 (
  Q1 .ret (upds ρ1 [(4, (.bool false)), (25, v10_25), (24, v9_24), (23, v8_23), (22, (ρ1 5)), (21, (ρ1 1)), (20, v7_20), (19, v6_19), (18, (ρ1 5)), (17, (ρ1 0)), (14, v5_14), (13, v4_13), (12, (ρ1 0)), (11, (ρ1 5))]) w11) (
  X Try.prog (binOp .add 3 (ρ1 5) (.int .i64 1)) w11 fun v11_16 w12 =>
  Q1 .normal (upds ρ1 [(5, v11_16), (16, v11_16), (15, (ρ1 5)), (25, v10_25), (24, v9_24), (23, v8_23), (22, (ρ1 5)), (21, (ρ1 1)), (20, v7_20), (19, v6_19), (18, (ρ1 5)), (17, (ρ1 0)), (14, v5_14), (13, v4_13), (12, (ρ1 0)), (11, (ρ1 5))]) w12)) (
  Q1 (.exit 0) (upds ρ1 [(14, v5_14), (13, v4_13), (12, (ρ1 0)), (11, (ρ1 5))]) w6)) (inBlockS 0 (thenS (fun ρ2 w13 =>
  K (.bool true) w13) (retS Try.prog (Try.f96).results K))) (upds (env0 #[x0, x1]) [(5, (.int .i64 0)), (10, v3_10), (9, v2_9), (8, x1), (7, v1_7), (6, x0), (4, (.bool false))]) w3)

theorem eq_ref11_SameKeys (x0 x1 : Value) (w : World) (K : Value → World → Prop) :
    sh Try.prog (Try.f96.body.getD .skip) (retS Try.prog Try.f96.results K) (env0 #[x0, x1]) w = B_ref11_SameKeys x0 x1 w K := by kernel_rfl

theorem call_ref11_SameKeys (x0 x1 : Value) (w : World) (K : Value → World → Prop) (h : B_ref11_SameKeys x0 x1 w K) : CALL Try.prog 96 #[x0, x1] w K :=
  call_of_eq (c := Try.f96.body.getD .skip) mixed Try.func96 (by kernel_rfl) (by kernel_rfl) (by kernel_rfl) (Nat.le_of_ble_eq_true (by kernel_rfl)) (eq_ref11_SameKeys x0 x1 w K) h

/-- cellarage/cellarageref11.Keys -/
def B_ref11_Keys (x0 : Value) (w : World) (K : Value → World → Prop) : Prop :=
  loopS (fun Q1 ρ1 w1 =>
  X Try.prog (Builtin.len_ #[100] 3 #[(ρ1 0)]) w1 fun v1_7 w2 =>
  X Try.prog (binOp .lss 3 (ρ1 4) v1_7) w2 fun v2_8 w3 =>
  condS v2_8 (
  X Try.prog (Instr.indexAt 100 (ρ1 0) (ρ1 4)) w3 fun v3_14 w4 =>
  X Try.prog (Instr.fieldAt 115 v3_14 0) w4 fun v4_15 w5 =>
  X Try.prog (Instr.loadAt 113 v4_15) w5 fun v5_16 w6 =>
  X Try.prog (Instr.buildSlice 116 1 #[(0, v5_16)]) w6 fun v6_17 w7 =>
  X Try.prog (Builtin.append_ #[116, 116] 116 #[(ρ1 3), v6_17]) w7 fun v7_18 w8 =>
  X Try.prog (binOp .add 3 (ρ1 4) (.int .i64 1)) w8 fun v8_10 w9 =>
  Q1 .normal (upds ρ1 [(4, v8_10), (10, v8_10), (9, (ρ1 4)), (3, v7_18), (18, v7_18), (17, v6_17), (16, v5_16), (15, v4_15), (14, v3_14), (13, (ρ1 4)), (12, (ρ1 0)), (11, (ρ1 3)), (8, v2_8), (7, v1_7), (6, (ρ1 0)), (5, (ρ1 4))]) w9) (
  Q1 (.exit 0) (upds ρ1 [(8, v2_8), (7, v1_7), (6, (ρ1 0)), (5, (ρ1 4))]) w3)) (inBlockS 0 (thenS (fun ρ2 w10 =>
  K (ρ2 3) w10) (retS Try.prog (Try.f97).results K))) (upds (env0 #[x0]) [(4, (.int .i64 0)), (3, (.slice none 0 0)), (2, (.slice none 0 0))]) w

theorem eq_ref11_Keys (x0 : Value) (w : World) (K : Value → World → Prop) :
    sh Try.prog (Try.f97.body.getD .skip) (retS Try.prog Try.f97.results K) (env0 #[x0]) w = B_ref11_Keys x0 w K := by kernel_rfl

theorem call_ref11_Keys (x0 : Value) (w : World) (K : Value → World → Prop) (h : B_ref11_Keys x0 w K) : CALL Try.prog 97 #[x0] w K :=
  call_of_eq (c := Try.f97.body.getD .skip) mixed Try.func97 (by kernel_rfl) (by kernel_rfl) (by kernel_rfl) (Nat.le_of_ble_eq_true (by kernel_rfl)) (eq_ref11_Keys x0 w K) h

/-- cellarage/cellarageref11.refused -/
def B_ref11_refused (x0 : Value) (w : World) (K : Value → World → Prop) : Prop :=
  loopS (fun Q1 ρ1 w1 =>
  X Try.prog (Builtin.len_ #[100] 3 #[(ρ1 0)]) w1 fun v1_7 w2 =>
  X Try.prog (binOp .lss 3 (ρ1 3) v1_7) w2 fun v2_8 w3 =>
  condS v2_8 (
  X Try.prog (Instr.indexAt 100 (ρ1 0) (ρ1 3)) w3 fun v3_13 w4 =>
  X Try.prog (Instr.fieldAt 115 v3_13 1) w4 fun v4_14 w5 =>
  X Try.prog (Instr.loadAt 27 v4_14) w5 fun v5_15 w6 =>
  X Try.prog (Builtin.len_ #[27] 3 #[v5_15]) w6 fun v6_16 w7 =>
  X Try.prog (binOpG .eql 3 (.tmp 16) (.const (.int .i64 0)) v6_16 (.int .i64 0)) w7 fun v7_17 w8 =>
  condS v7_17 (
  Q1 .ret (upds ρ1 [(2, (.int .i64 1)), (17, v7_17), (16, v6_16), (15, v5_15), (14, v4_14), (13, v3_13), (12, (ρ1 3)), (11, (ρ1 0)), (8, v2_8), (7, v1_7), (6, (ρ1 0)), (5, (ρ1 3))]) w8) (
  X Try.prog (binOp .add 3 (ρ1 3) (.int .i64 1)) w8 fun v8_10 w9 =>
  Q1 .normal (upds ρ1 [(3, v8_10), (10, v8_10), (9, (ρ1 3)), (17, v7_17), (16, v6_16), (15, v5_15), (14, v4_14), (13, v3_13), (12, (ρ1 3)), (11, (ρ1 0)), (8, v2_8), (7, v1_7), (6, (ρ1 0)), (5, (ρ1 3))]) w9)) (
  Q1 (.exit 0) (upds ρ1 [(8, v2_8), (7, v1_7), (6, (ρ1 0)), (5, (ρ1 3))]) w3)) (inBlockS 0 (thenS (fun ρ2 w10 =>
  loopS (fun Q3 ρ3 w11 =>
  X Try.prog (Builtin.len_ #[100] 3 #[(ρ3 0)]) w11 fun v9_20 w12 =>
  X Try.prog (binOp .lss 3 (ρ3 4) v9_20) w12 fun v10_21 w13 =>
  condS v10_21 (
  X Try.prog (Instr.indexAt 100 (ρ3 0) (ρ3 4)) w13 fun v11_26 w14 =>
  X Try.prog (Instr.fieldAt 115 v11_26 1) w14 fun v12_27 w15 =>
  X Try.prog (Instr.loadAt 27 v12_27) w15 fun v13_28 w16 =>
  X Try.prog (Builtin.len_ #[27] 3 #[v13_28]) w16 fun v14_29 w17 =>
  X Try.prog (binOp .gtr 3 v14_29 (.int .i64 4096)) w17 fun v15_30 w18 =>
  condS v15_30 (
  Q3 .ret (upds ρ3 [(2, (.int .i64 4)), (30, v15_30), (29, v14_29), (28, v13_28), (27, v12_27), (26, v11_26), (25, (ρ3 4)), (24, (ρ3 0)), (21, v10_21), (20, v9_20), (19, (ρ3 0)), (18, (ρ3 4))]) w18) (
  X Try.prog (binOp .add 3 (ρ3 4) (.int .i64 1)) w18 fun v16_23 w19 =>
  Q3 .normal (upds ρ3 [(4, v16_23), (23, v16_23), (22, (ρ3 4)), (30, v15_30), (29, v14_29), (28, v13_28), (27, v12_27), (26, v11_26), (25, (ρ3 4)), (24, (ρ3 0)), (21, v10_21), (20, v9_20), (19, (ρ3 0)), (18, (ρ3 4))]) w19)) (
  Q3 (.exit 2) (upds ρ3 [(21, v10_21), (20, v9_20), (19, (ρ3 0)), (18, (ρ3 4))]) w13)) (inBlockS 2 (thenS (fun ρ4 w20 =>
  X Try.prog (Builtin.len_ #[100] 3 #[(ρ4 0)]) w20 fun v17_32 w21 =>
  X Try.prog (binOp .gtr 3 v17_32 (.int .i64 1000)) w21 fun v18_33 w22 =>
  gstep v18_33 false (fun w23 K => K (ρ4 0) w23) w22 fun v19_35 w24 =>
  gstep v18_33 false (fun w25 K => CALL Try.prog 90 #[v19_35] w25 K) w24 fun v20_36 w26 =>
  gstep v18_33 false (fun w27 K => X Try.prog (binOp .gtr 3 v20_36 (.int .i64 65536)) w27 K) w26 fun v21_37 w28 =>
  X Try.prog (pickS v18_33 (.bool true) v21_37) w28 fun v22_38 w29 =>
  condS v22_38 (
  K (.int .i64 4) w29) (
  CALL Try.prog 150 #[(ρ4 0)] w29 fun v23_40 w30 =>
  condS v23_40 (
  K (.int .i64 3) w30) (
  K (.int .i64 0) w30))) (retS Try.prog (Try.f137).results K))) (upds ρ2 [(4, (.int .i64 0))]) w10) (retS Try.prog (Try.f137).results K))) (upds (env0 #[x0]) [(3, (.int .i64 0)), (2, (.int .i64 0))]) w

theorem eq_ref11_refused (x0 : Value) (w : World) (K : Value → World → Prop) :
    sh Try.prog (Try.f137.body.getD .skip) (retS Try.prog Try.f137.results K) (env0 #[x0]) w = B_ref11_refused x0 w K := by kernel_rfl

theorem call_ref11_refused (x0 : Value) (w : World) (K : Value → World → Prop) (h : B_ref11_refused x0 w K) : CALL Try.prog 137 #[x0] w K :=
  call_of_eq (c := Try.f137.body.getD .skip) mixed Try.func137 (by kernel_rfl) (by kernel_rfl) (by kernel_rfl) (Nat.le_of_ble_eq_true (by kernel_rfl)) (eq_ref11_refused x0 w K) h

/-- cellarage/cellarageref11.sum -/
def B_ref11_sum (x0 : Value) (w : World) (K : Value → World → Prop) : Prop :=
  X Try.prog (Instr.alloc 111 true (.tuple #[])) w fun v1_2 w1 =>
  X Try.prog (Instr.alloc 111 true (.tuple #[])) w1 fun v2_3 w2 =>
  loopS (fun Q1 ρ1 w3 =>
  X Try.prog (binOp .lss 3 (ρ1 4) (.int .i64 32)) w3 fun v3_6 w4 =>
  condS v3_6 (
  CALL Try.prog 62 #[(ρ1 0), (.int .i64 1)] w4 fun v4_11 w5 =>
  X Try.prog (convert 22 5 v4_11) w5 fun v5_12 w6 =>
  X Try.prog (Instr.indexAt 111 (ρ1 3) (ρ1 4)) w6 fun v6_13 w7 =>
  XU Try.prog (Instr.storeAt 5 v6_13 v5_12) w7 fun w8 =>
  X Try.prog (binOp .add 3 (ρ1 4) (.int .i64 1)) w8 fun v7_8 w9 =>
  Q1 .normal (upds ρ1 [(4, v7_8), (8, v7_8), (7, (ρ1 4)), (13, v6_13), (12, v5_12), (11, v4_11), (10, (ρ1 0)), (9, (ρ1 4)), (6, v3_6), (5, (ρ1 4))]) w9) (
  Q1 (.exit 0) (upds ρ1 [(6, v3_6), (5, (ρ1 4))]) w4)) (inBlockS 0 (thenS (fun ρ2 w10 =>
  X Try.prog (Instr.loadAt 111 (ρ2 3)) w10 fun v8_14 w11 =>
  XU Try.prog (Instr.storeAt 111 (ρ2 2) v8_14) w11 fun w12 =>
  resC Try.prog 111 (ρ2 2) w12 fun r0 =>
  K r0 w12) (retS Try.prog (Try.f140).results K))) (upds (env0 #[x0]) [(4, (.int .i64 0)), (3, v2_3), (2, v1_2)]) w2

theorem eq_ref11_sum (x0 : Value) (w : World) (K : Value → World → Prop) :
    sh Try.prog (Try.f140.body.getD .skip) (retS Try.prog Try.f140.results K) (env0 #[x0]) w = B_ref11_sum x0 w K := by kernel_rfl

theorem call_ref11_sum (x0 : Value) (w : World) (K : Value → World → Prop) (h : B_ref11_sum x0 w K) : CALL Try.prog 140 #[x0] w K :=
  call_of_eq (c := Try.f140.body.getD .skip) mixed Try.func140 (by kernel_rfl) (by kernel_rfl) (by kernel_rfl) (Nat.le_of_ble_eq_true (by kernel_rfl)) (eq_ref11_sum x0 w K) h

/-- cellarage/cellarageref11.twice -/
def B_ref11_twice (x0 : Value) (w : World) (K : Value → World → Prop) : Prop :=
  loopS (fun Q1 ρ1 w1 =>
  X Try.prog (Builtin.len_ #[100] 3 #[(ρ1 0)]) w1 fun v1_7 w2 =>
  X Try.prog (binOp .lss 3 (ρ1 3) v1_7) w2 fun v2_8 w3 =>
  condS v2_8 (
  loopS (fun Q2 ρ2 w4 =>
  X Try.prog (binOp .lss 3 (ρ2 4) (ρ2 3)) w4 fun v3_13 w5 =>
  condS v3_13 (
  ∃ R, Frame? R ∧
  XP Try.prog (Instr.indexAt 100 (ρ2 0) (ρ2 3)) (drewW w5) fun v4_18 w6 =>
  XP Try.prog (Instr.fieldAt 115 v4_18 0) w6 fun v5_19 w7 =>
  XR Try.prog R (Instr.loadAt 113 v5_19) w7 fun v6_20 w8 =>
  XP Try.prog (Instr.indexAt 100 (ρ2 0) (ρ2 4)) w8 fun v7_23 w9 =>
  XP Try.prog (Instr.fieldAt 115 v7_23 0) w9 fun v8_24 w10 =>
  XR Try.prog R (Instr.loadAt 113 v8_24) w10 fun v9_25 w11 =>
  XP Try.prog (binOpG .eql 113 (.tmp 20) (.tmp 25) v6_20 v9_25) w11 fun v10_26 w12 =>
  condS v10_26 (
  Q2 .ret (upds ρ2 [(2, (.bool true)), (26, v10_26), (25, v9_25), (24, v8_24), (23, v7_23), (22, (ρ2 4)), (21, (ρ2 0)), (20, v6_20), (19, v5_19), (18, v4_18), (17, (ρ2 3)), (16, (ρ2 0)), (13, v3_13), (12, (ρ2 3)), (11, (ρ2 4))]) w12) (
  X Try.prog (binOp .add 3 (ρ2 4) (.int .i64 1)) w12 fun v11_15 w13 =>
  Q2 .normal (upds ρ2 [(4, v11_15), (15, v11_15), (14, (ρ2 4)), (26, v10_26), (25, v9_25), (24, v8_24), (23, v7_23), (22, (ρ2 4)), (21, (ρ2 0)), (20, v6_20), (19, v5_19), (18, v4_18), (17, (ρ2 3)), (16, (ρ2 0)), (13, v3_13), (12, (ρ2 3)), (11, (ρ2 4))]) w13)) (
  Q2 (.exit 2) (upds ρ2 [(13, v3_13), (12, (ρ2 3)), (11, (ρ2 4))]) w5)) (inBlockS 2 (inBlockS 1 (thenS (fun ρ3 w14 =>
  X Try.prog (binOp .add 3 (ρ3 3) (.int .i64 1)) w14 fun v12_10 w15 =>
  Q1 .normal (upds ρ3 [(3, v12_10), (10, v12_10), (9, (ρ3 3))]) w15) Q1))) (upds ρ1 [(4, (.int .i64 0)), (8, v2_8), (7, v1_7), (6, (ρ1 0)), (5, (ρ1 3))]) w3) (
  Q1 (.exit 0) (upds ρ1 [(8, v2_8), (7, v1_7), (6, (ρ1 0)), (5, (ρ1 3))]) w3)) (inBlockS 0 (thenS (fun ρ4 w16 =>
  K (.bool false) w16) (retS Try.prog (Try.f150).results K))) (upds (env0 #[x0]) [(3, (.int .i64 0)), (2, (.bool false))]) w

theorem eq_ref11_twice (x0 : Value) (w : World) (K : Value → World → Prop) :
    sh Try.prog (Try.f150.body.getD .skip) (retS Try.prog Try.f150.results K) (env0 #[x0]) w = B_ref11_twice x0 w K := by kernel_rfl

theorem call_ref11_twice (x0 : Value) (w : World) (K : Value → World → Prop) (h : B_ref11_twice x0 w K) : CALL Try.prog 150 #[x0] w K :=
  call_of_eq (c := Try.f150.body.getD .skip) mixed Try.func150 (by kernel_rfl) (by kernel_rfl) (by kernel_rfl) (Nat.le_of_ble_eq_true (by kernel_rfl)) (eq_ref11_twice x0 w K) h

/-- cellarage/cellaragelaw11.light -/
def B_law11_light (x0 : Value) (w : World) (K : Value → World → Prop) : Prop :=
  X Try.prog (Builtin.len_ #[100] 3 #[x0]) w fun v1_6 w1 =>
  loopS (fun Q1 ρ1 w2 =>
  X Try.prog (binOp .lss 3 (ρ1 7) (ρ1 6)) w2 fun v2_8 w3 =>
  condS v2_8 (
  X Try.prog (binOp .geq 3 (ρ1 7) (.int .i64 1100)) w3 fun v3_11 w4 =>
  gstep v3_11 false (fun w5 K => K (ρ1 0) w5) w4 fun v4_13 w6 =>
  gstep v3_11 false (fun w7 K => K (ρ1 7) w7) w6 fun v5_14 w8 =>
  gstep v3_11 false (fun w9 K => X Try.prog (Instr.indexAt 100 v4_13 v5_14) w9 K) w8 fun v6_15 w10 =>
  gstep v3_11 false (fun w11 K => X Try.prog (Instr.fieldAt 115 v6_15 1) w11 K) w10 fun v7_16 w12 =>
  gstep v3_11 false (fun w13 K => X Try.prog (Instr.loadAt 27 v7_16) w13 K) w12 fun v8_17 w14 =>
  gstep v3_11 false (fun w15 K => X Try.prog (Builtin.len_ #[27] 3 #[v8_17]) w15 K) w14 fun v9_18 w16 =>
  gstep v3_11 false (fun w17 K => K (ρ1 3) w17) w16 fun v10_19 w18 =>
  gstep v3_11 false (fun w19 K => X Try.prog (binOp .gtr 3 v9_18 v10_19) w19 K) w18 fun v11_20 w20 =>
  X Try.prog (pickS v3_11 (.bool true) v11_20) w20 fun v12_21 w21 =>
  condS v12_21 (
  Q1 .ret (upds ρ1 [(2, (.bool false)), (21, v12_21), (20, v11_20), (19, v10_19), (18, v9_18), (17, v8_17), (16, v7_16), (15, v6_15), (14, v5_14), (13, v4_13), (12, v3_11), (11, v3_11), (10, (ρ1 7)), (4, (ρ1 7)), (9, (ρ1 7)), (8, v2_8)]) w21) (
  X Try.prog (Instr.indexAt 100 (ρ1 0) (ρ1 7)) w21 fun v13_25 w22 =>
  X Try.prog (Instr.fieldAt 115 v13_25 1) w22 fun v14_26 w23 =>
  X Try.prog (Instr.loadAt 27 v14_26) w23 fun v15_27 w24 =>
  X Try.prog (Builtin.len_ #[27] 3 #[v15_27]) w24 fun v16_28 w25 =>
  X Try.prog (binOp .sub 3 (ρ1 3) v16_28) w25 fun v17_29 w26 =>
  X Try.prog (binOp .add 3 (ρ1 7) (.int .i64 1)) w26 fun v18_30 w27 =>
  Q1 .normal (upds ρ1 [(7, v18_30), (30, v18_30), (3, v17_29), (29, v17_29), (28, v16_28), (27, v15_27), (26, v14_26), (25, v13_25), (24, (ρ1 7)), (23, (ρ1 0)), (22, (ρ1 3)), (21, v12_21), (20, v11_20), (19, v10_19), (18, v9_18), (17, v8_17), (16, v7_16), (15, v6_15), (14, v5_14), (13, v4_13), (12, v3_11), (11, v3_11), (10, (ρ1 7)), (4, (ρ1 7)), (9, (ρ1 7)), (8, v2_8)]) w27)) (
  Q1 (.exit 0) (upds ρ1 [(8, v2_8)]) w3)) (inBlockS 0 (thenS (fun ρ2 w28 =>
  K (.bool true) w28) (retS Try.prog (Try.f86).results K))) (upds (env0 #[x0]) [(7, (.int .i64 0)), (6, v1_6), (5, x0), (3, (.int .i64 100000)), (2, (.bool false))]) w1

theorem eq_law11_light (x0 : Value) (w : World) (K : Value → World → Prop) :
    sh Try.prog (Try.f86.body.getD .skip) (retS Try.prog Try.f86.results K) (env0 #[x0]) w = B_law11_light x0 w K := by kernel_rfl

theorem call_law11_light (x0 : Value) (w : World) (K : Value → World → Prop) (h : B_law11_light x0 w K) : CALL Try.prog 86 #[x0] w K :=
  call_of_eq (c := Try.f86.body.getD .skip) mixed Try.func86 (by kernel_rfl) (by kernel_rfl) (by kernel_rfl) (Nat.le_of_ble_eq_true (by kernel_rfl)) (eq_law11_light x0 w K) h

end Go.Proofs.Ytggggfcgnkllgaa
end
section
/- The reference of containers: how long, what is refused, what is laid. -/
set_option linter.unusedVariables false
set_option linter.unusedSimpArgs false
namespace Go.Proofs.Ytggggfcgnkllgaa
open Go Go.Sh Go.RowKit
attribute [local irreducible] X XU XP XR CALL loopS resC closS
theorem piece_at {w : World} {v : Value} {l : List Pc} {i : Nat} (hl : RowK 34 Pc.cs w v l) (hi : i < l.length) :
    ∃ g o, (∀ w', (Instr.indexAt 100 v (.int .i64 (i : Int))).run Try.prog w' = .ok (.pointer (some ⟨g, o, none⟩)) w') ∧ (∀ j u, l[i].cs[j]? = some u → w.cell? ⟨g, o + j, none⟩ = some u) := by
  obtain ⟨ad, hix, hcs⟩ := hl.at Try.underlying100 info_115 sz_115 (kd := .i64) (ii := (i : Int)) i rfl hi
  obtain ⟨g, o, sp⟩ := ad
  have h0 := hcs 0 _ (List.getElem?_eq_getElem (by rw [Pc.len]; omega))
  have : sp = none := by simpa [Addr.add] using World.cell?_spot h0
  subst this
  exact ⟨g, o, hix, fun j u hu => by have := hcs j u hu; rw [add_plain] at this; exact this⟩
/-- The bytes of a row's piece, by their place. -/
theorem X_dataAt {w : World} {v : Value} {l : List Pc} {i : Nat} {K : Value → Value → Value → World → Prop} (hl : RowK 34 Pc.cs w v l) (hi : i < l.length)
    (hK : ∀ v1 v2, K v1 v2 l[i].dv w) : X Try.prog (Instr.indexAt 100 v (.int .i64 (i : Int))) w fun v1 w1 => X Try.prog (Instr.fieldAt 115 v1 1) w1 fun v2 w2 => X Try.prog (Instr.loadAt 27 v2) w2 fun v3 w3 => K v1 v2 v3 w3 := by
  obtain ⟨g, o, hix, hc⟩ := piece_at hl hi
  refine X_of (hix _) ?_
  rw [X_field_115_1]
  exact X_of (run_loadAt agg_27 (hc 33 _ l[i].dvAt)) (hK _ _)
theorem X_numAt {w : World} {v : Value} {l : List Pc} {i : Nat} {K : Value → Value → Value → Value → World → Prop} (hl : RowK 34 Pc.cs w v l) (hi : i < l.length)
    (hK : ∀ v1 v2 v3, K v1 v2 v3 (.int .u32 (l[i].p.k.num : Int)) w) : X Try.prog (Instr.indexAt 100 v (.int .i64 (i : Int))) w fun v1 w1 => X Try.prog (Instr.fieldAt 115 v1 0) w1 fun v2 w2 => X Try.prog (Instr.fieldAt 113 v2 1) w2 fun v3 w3 => X Try.prog (Instr.loadAt 23 v3) w3 fun v4 w4 => K v1 v2 v3 v4 w4 := by
  obtain ⟨g, o, hix, hc⟩ := piece_at hl hi
  refine X_of (hix _) ?_
  rw [X_field_115_0, X_field_113_1]
  exact X_of (run_loadAt agg_23 (hc 32 _ l[i].numAt)) (hK _ _ _)
theorem X_sumAt {w : World} {v : Value} {l : List Pc} {i : Nat} {K : Value → Value → Value → Value → World → Prop} (hl : RowK 34 Pc.cs w v l) (hi : i < l.length)
    (hK : ∀ v1 v2 v3 v4, Bts w v4 l[i].p.k.sum → K v1 v2 v3 v4 w) : X Try.prog (Instr.indexAt 100 v (.int .i64 (i : Int))) w fun v1 w1 => X Try.prog (Instr.fieldAt 115 v1 0) w1 fun v2 w2 => X Try.prog (Instr.fieldAt 113 v2 0) w2 fun v3 w3 => X Try.prog (Instr.sliceAt 111 v3 none none none) w3 fun v4 w4 => K v1 v2 v3 v4 w4 := by
  obtain ⟨g, o, hix, hc⟩ := piece_at hl hi
  refine X_of (hix _) ?_
  rw [X_field_115_0, X_field_113_0]
  refine X_of (run_slice_arr_all Try.underlying111 info_5 _ _) (hK _ _ _ _ ?_)
  refine ⟨_, 32, by rw [l[i].p.k.len], by rw [l[i].p.k.len]; exact Nat.le_refl _, by decide, fun _ => ⟨_, rfl, fun j u hj => ?_⟩⟩
  rw [add_plain]
  exact hc j _ (l[i].sumAt hj)
section
variable {w : World} {K : Value → World → Prop}
theorem RSize_spec {v : Value} {l : List Pc} (hl : RowK 34 Pc.cs w v l) (hin : ∀ c ∈ l, c.In w) (hT : 38 * l.length + totB (pl l) ≤ 1000000000000) (hK : K (i64v ((sizeP (pl l) : Nat) : Int)) w) : CALL Try.prog 90 #[v] w K := by
  obtain ⟨a, c, ev⟩ := hl.slice
  have hll : (pl l).length = l.length := by simp
  apply call_ref11_Size
  unfold B_ref11_Size
  refine loopE (fun ρ wr => ∃ i : Nat, i ≤ l.length ∧ wr = w ∧ ρ 4 = .int .i64 (i : Int) ∧ ρ 0 = v ∧ ρ 3 = .int .i64 ((10 + 38 * i + totB ((pl l).take i) : Nat) : Int))
    (fun ρ wr => match ρ 4 with | .int _ s => (l.length - s).toNat | _ => 0)
    (fun ρ wr => wr = w ∧ ρ 3 = .int .i64 ((sizeP (pl l) : Nat) : Int)) ?_ ?_ ?_
  · exact ⟨0, by omega, rfl, rfl, rfl, rfl⟩
  · rintro J hJ ρ wr ⟨i, hi, rfl, r4, r0, r3⟩
    rw [r0, r4, ev, X_len_100, X_lss, condS_bool, ← ev]
    by_cases hie : i = l.length
    · rw [if_neg (by simp; omega)]
      refine hJ _ _ ⟨rfl, ?_⟩
      show ρ 3 = _
      rw [r3, hie, List.take_of_length_le (by rw [hll]; exact Nat.le_refl _)]
      unfold sizeP
      rw [hll]
    rw [if_pos (by simp; omega)]
    have hlt : i < l.length := by omega
    have hts := totB_take_succ (pl l) i (by simpa using hlt)
    have hle := totB_take_le (pl l) (i + 1)
    have hget : (pl l)[i]'(by simpa using hlt) = l[i].p := by simp
    rw [hget] at hts
    rw [r3, X_add, w64 (by omega) (by omega)]
    refine X_dataAt hl hlt ?_
    intro u1 u2
    have hA := hin _ (List.getElem_mem hlt)
    generalize l[i] = A at hts hA
    obtain ⟨aA, cA, eA⟩ := Bts.slice hA
    rw [eA, X_len_27, X_add, w64 (by omega) (by omega), X_add]
    show _ ∧ _
    refine ⟨⟨i + 1, by omega, rfl, next64 (n := 1000000000000) (by decide) (by omega), r0, ?_⟩, ?_⟩
    · show Value.int .i64 _ = _
      congr 1
      rw [hts]
      omega
    · show (_ - IntKind.i64.wrap _).toNat < _
      rw [w64 (by omega) (by omega)]
      first | omega | (show _ < (_ : Int).toNat; omega)
  · rintro ρ wr ⟨rfl, r3⟩
    rw [r3]
    exact hK
theorem run_keyAt {v : Value} {l : List Pc} {i : Nat} {g o : Nat} {w0 : World} {A : Pc} (hc : ∀ j u, A.cs[j]? = some u → w0.cell? ⟨g, o + j, none⟩ = some u) : (Instr.loadAt 113 (.pointer (some ⟨g, o, none⟩))).run Try.prog w0 = .ok A.p.k.v w0 := by
  refine load_cells Try.underlying113 agg_113 info_113 (l := A.p.k.cs) (by rw [sz_113, Ky.cs_len]) (fun j u hj => ?_)
  rw [add_plain]
  exact hc j u (A.keyAt hj)
theorem Twice_spec {v : Value} {l : List Pc} (hl : RowK 34 Pc.cs w v l) (hT : l.length ≤ 1000000000000) (hK : ∀ w1, Ext w w1 → K (.bool (decide (¬ (kys (pl l)).Nodup))) w1) : CALL Try.prog 150 #[v] w K := by
  obtain ⟨a, c, ev⟩ := hl.slice
  have hkl : (kys (pl l)).length = l.length := by simp
  apply call_ref11_twice
  unfold B_ref11_twice
  refine loopE (fun ρ wr => ∃ i : Nat, i ≤ l.length ∧ Ext w wr ∧ ((kys (pl l)).take i).Nodup ∧ ρ 3 = .int .i64 (i : Int) ∧ ρ 0 = v)
    (fun ρ wr => match ρ 3 with | .int _ s => (l.length - s).toNat | _ => 0)
    (fun ρ wr => Ext w wr ∧ (kys (pl l)).Nodup) ?_ ?_ ?_
  · exact ⟨0, by omega, Keep.refl _ _, by simp, rfl, rfl⟩
  · rintro J hJ ρ wr ⟨i, hi, hx, hnd, r3, r0⟩
    rw [r0, r3, ev, X_len_100, X_lss, condS_bool, ← ev]
    by_cases hie : i = l.length
    · rw [if_neg (by simp; omega)]
      rw [hie, List.take_of_length_le (by rw [hkl]; exact Nat.le_refl _)] at hnd
      exact hJ _ _ ⟨hx, hnd⟩
    rw [if_pos (by simp; omega)]
    have hlt : i < l.length := by omega
    have hltk : i < (kys (pl l)).length := by rw [hkl]; exact hlt
    have hgi : (kys (pl l))[i]'hltk = l[i].p.k := by simp
    have hns := nodup_succ hltk
    rw [hgi] at hns
    refine loopGR 2 (fun ρ2 w2 => ∃ k : Nat, k ≤ i ∧ Ext w w2 ∧ l[i].p.k ∉ (kys (pl l)).take k ∧ ρ2 4 = .int .i64 (k : Int) ∧ ρ2 3 = .int .i64 (i : Int) ∧ ρ2 0 = v)
      (fun ρ2 w2 => match ρ2 4 with | .int _ s => (i - s).toNat | _ => 0)
      (fun ρ2 w2 => Ext w w2 ∧ l[i].p.k ∉ (kys (pl l)).take i ∧ ρ2 3 = .int .i64 (i : Int) ∧ ρ2 0 = v)
      (fun ρ2 w2 => Ext w w2 ∧ ¬ (kys (pl l)).Nodup ∧ ρ2 2 = .bool true) ?_ ?_ ?_ ?_
    · exact ⟨0, by omega, hx, by simp, rfl, r3, r0⟩
    · rintro J2 hJ2 hJR ρ2 w2 ⟨k, hk, hx2, hnk, q4, q3, q0⟩
      rw [q4, q3, q0, X_lss, condS_bool]
      by_cases hke : k = i
      · rw [if_neg (by simp; omega)]
        rw [hke] at hnk
        exact hJ2 _ _ ⟨hx2, hnk, q3, q0⟩
      rw [if_pos (by simp; omega)]
      have hk2 : k < l.length := by omega
      have hltk2 : k < (kys (pl l)).length := by rw [hkl]; exact hk2
      have hgk : (kys (pl l))[k]'hltk2 = l[k].p.k := by simp
      have hxd := hx2.trans (Keep.drew (fun _ => False) w2)
      have hld := hl.ext hxd
      refine ⟨Ext, Ext.frame, ?_⟩
      obtain ⟨g, o, hix, hc⟩ := piece_at hld hlt
      obtain ⟨g2, o2, hix2, hc2⟩ := piece_at hld hk2
      generalize drewW w2 = wd at hxd hc hc2 ⊢
      refine XP_of hix ?_
      rw [XP_field_115_0]
      refine XR_ok Ext.frame (fun w' kk => run_keyAt (v := v) (l := l) (i := i) (fun j u hu => kk.cell (fun h => h) (hc j u hu))) ?_
      refine XP_of hix2 ?_
      rw [XP_field_115_0]
      refine XR_ok Ext.frame (fun w' kk => run_keyAt (v := v) (l := l) (i := i) (fun j u hu => kk.cell (fun h => h) (hc2 j u hu))) ?_
      refine XP_of (fun w' => run_key_eql _ _ _ _ w') ?_
      rw [condS_bool]
      by_cases heq : l[i].p.k = l[k].p.k
      · rw [if_pos (by simpa using heq)]
        refine hJR _ _ ⟨hxd, fun hnd' => ?_, rfl⟩
        have hnd2 : ((kys (pl l)).take (i + 1)).Nodup := hnd'.sublist (List.take_sublist _ _)
        have h2 := (hns.1 hnd2).2
        rw [heq, ← hgk] at h2
        refine h2 ?_
        rw [List.mem_take_iff_getElem]
        exact ⟨k, by rw [hkl]; omega, rfl⟩
      · rw [if_neg (by simpa using heq), X_add]
        show _ ∧ _
        refine ⟨⟨k + 1, by omega, hxd, ?_, next64 (n := 1000000000000) (by decide) (by omega), q3, q0⟩, ?_⟩
        · rw [List.take_succ_eq_append_getElem hltk2, hgk]
          intro hm
          rcases List.mem_append.1 hm with hm | hm
          · exact hnk hm
          · exact heq (List.mem_singleton.1 hm)
        · show (_ - IntKind.i64.wrap _).toNat < _
          rw [w64 (by omega) (by omega)]
          first | omega | (show _ < (_ : Int).toNat; omega)
    · rintro ρ2 w2 ⟨hx2, hni, q3, q0⟩
      show X _ _ _ _
      rw [q3, X_add]
      show _ ∧ _
      refine ⟨⟨i + 1, by omega, hx2, hns.2 ⟨hnd, hni⟩, next64 (n := 1000000000000) (by decide) (by omega), q0⟩, ?_⟩
      show (_ - IntKind.i64.wrap _).toNat < _
      rw [w64 (by omega) (by omega)]
      first | omega | (show _ < (_ : Int).toNat; omega)
    · rintro ρ2 w2 ⟨hx2, hnd2, q2⟩
      show K (ρ2 2) w2
      rw [q2]
      have := hK w2 hx2
      rw [decide_eq_true hnd2] at this
      exact this
  · rintro ρ wr ⟨hx, hnd⟩
    have := hK wr hx
    have en : decide (¬ (kys (pl l)).Nodup) = false := by simpa using hnd
    rw [en] at this
    exact this
set_option maxHeartbeats 1000000 in
theorem Refused_spec {v : Value} {l : List Pc} (hl : RowK 34 Pc.cs w v l) (hin : ∀ c ∈ l, c.In w) (hT : 38 * l.length + totB (pl l) ≤ 1000000000000) (hK : ∀ w1, Ext w w1 → K (i64v (chk (pl l))) w1) : CALL Try.prog 137 #[v] w K := by
  obtain ⟨a, c, ev⟩ := hl.slice
  have hll : (pl l).length = l.length := by simp
  apply call_ref11_refused
  unfold B_ref11_refused
  refine loopE (fun ρ wr => ∃ i : Nat, i ≤ l.length ∧ wr = w ∧ (¬ ∃ p ∈ (pl l).take i, p.bs = []) ∧ ρ 3 = .int .i64 (i : Int) ∧ ρ 0 = v)
    (fun ρ wr => match ρ 3 with | .int _ s => (l.length - s).toNat | _ => 0)
    (fun ρ wr => wr = w ∧ (¬ ∃ p ∈ pl l, p.bs = []) ∧ ρ 0 = v) ?_ ?_ ?_
  · exact ⟨0, by omega, rfl, by simp, rfl, rfl⟩
  · rintro J hJ ρ wr ⟨i, hi, rfl, hne, r3, r0⟩
    rw [r0, r3, ev, X_len_100, X_lss, condS_bool, ← ev]
    by_cases hie : i = l.length
    · rw [if_neg (by simp; omega)]
      rw [hie, List.take_of_length_le (by rw [hll]; exact Nat.le_refl _)] at hne
      exact hJ _ _ ⟨rfl, hne, r0⟩
    rw [if_pos (by simp; omega)]
    have hlt : i < l.length := by omega
    have hltp : i < (pl l).length := by rw [hll]; exact hlt
    have s1 := any_succ (P := fun p => p.bs = []) hltp
    have hget : (pl l)[i]'hltp = l[i].p := by simp
    have hmem : l[i].p ∈ pl l := List.mem_map.2 ⟨_, List.getElem_mem hlt, rfl⟩
    rw [hget] at s1
    refine X_dataAt hl hlt ?_
    intro u1 u2
    have hA := hin _ (List.getElem_mem hlt)
    generalize l[i] = A at s1 hA hmem
    obtain ⟨aA, cA, eA⟩ := Bts.slice hA
    rw [eA, X_len_27]
    (repeat (simp only [XP_extract0, XP_extract1, XP_extract2, XP_extract3, X_extract0, X_extract1, X_extract2, X_extract3, X_nilS, X_eql_nil_74, X_neq_nil_74, X_eql_nil_124, X_neq_nil_124, X_eql, X_neq, X_lss, X_leq, X_gtr, X_geq, X_not, X_min, X_max, X_len_27, X_len_9, X_len_79, XP_nilS, XP_eql, XP_neq, XP_lss, XP_leq, XP_gtr, XP_geq, XP_not, XP_min, XP_max, XP_len_27, XP_len_9, XP_eql_nil_74, X_str_eql, X_str_neq, XP_str_eql, XP_str_neq, GS, gs_u, decide_true, decide_false, Option.isNone_some, Option.isSome_some, Option.isNone_none, Option.isSome_none, eq_self, Bool.not_true, Bool.not_false, Int.reduceEq, Int.reduceNe, Int.reduceLT, Int.reduceLE, Int.reduceGT, Int.reduceGE]))
    by_cases h0 : A.p.bs = []
    · have c : decide ((A.p.bs.length : Int) = 0) = true := by rw [h0]; decide
      (repeat (simp only [XP_extract0, XP_extract1, XP_extract2, XP_extract3, X_extract0, X_extract1, X_extract2, X_extract3, X_nilS, X_eql_nil_74, X_neq_nil_74, X_eql_nil_124, X_neq_nil_124, X_eql, X_neq, X_lss, X_leq, X_gtr, X_geq, X_not, X_min, X_max, X_len_27, X_len_9, X_len_79, XP_nilS, XP_eql, XP_neq, XP_lss, XP_leq, XP_gtr, XP_geq, XP_not, XP_min, XP_max, XP_len_27, XP_len_9, XP_eql_nil_74, X_str_eql, X_str_neq, XP_str_eql, XP_str_neq, GS, gs_u, decide_true, decide_false, Option.isNone_some, Option.isSome_some, Option.isNone_none, Option.isSome_none, eq_self, Bool.not_true, Bool.not_false, Int.reduceEq, Int.reduceNe, Int.reduceLT, Int.reduceLE, Int.reduceGT, Int.reduceGE, c]))
      show K (i64v 1) wr
      have := hK wr (Keep.refl _ _)
      have ec : chk (pl l) = 1 := by
        unfold chk
        rw [if_pos ⟨_, hmem, h0⟩]
      rw [ec] at this
      exact this
    have hpos : 0 < A.p.bs.length := List.length_pos_iff.2 h0
    have c : decide ((A.p.bs.length : Int) = 0) = false := by simp; omega
    (repeat (simp only [XP_extract0, XP_extract1, XP_extract2, XP_extract3, X_extract0, X_extract1, X_extract2, X_extract3, X_nilS, X_eql_nil_74, X_neq_nil_74, X_eql_nil_124, X_neq_nil_124, X_eql, X_neq, X_lss, X_leq, X_gtr, X_geq, X_not, X_min, X_max, X_len_27, X_len_9, X_len_79, XP_nilS, XP_eql, XP_neq, XP_lss, XP_leq, XP_gtr, XP_geq, XP_not, XP_min, XP_max, XP_len_27, XP_len_9, XP_eql_nil_74, X_str_eql, X_str_neq, XP_str_eql, XP_str_neq, GS, gs_u, decide_true, decide_false, Option.isNone_some, Option.isSome_some, Option.isNone_none, Option.isSome_none, eq_self, Bool.not_true, Bool.not_false, Int.reduceEq, Int.reduceNe, Int.reduceLT, Int.reduceLE, Int.reduceGT, Int.reduceGE, c]))
    rw [X_add]
    show _ ∧ _
    refine ⟨⟨i + 1, by omega, rfl, ?_, next64 (n := 1000000000000) (by decide) (by omega), r0⟩, ?_⟩
    · rw [s1]; rintro (h | h)
      · exact hne h
      · exact h0 h
    · show (_ - IntKind.i64.wrap _).toNat < _
      rw [w64 (by omega) (by omega)]
      first | omega | (show _ < (_ : Int).toNat; omega)
  · rintro ρ wr ⟨rfl, hne, r0⟩
    have four : (1000 < (pl l).length ∨ (∃ p ∈ pl l, 4096 < p.bs.length) ∨ 65536 < sizeP (pl l)) → ∀ w', Ext wr w' → K (.int .i64 4) w' := by
      intro h w' hx'
      have := hK w' hx'
      have ec : chk (pl l) = 4 := by
        unfold chk
        rw [if_neg hne, if_pos h]
      rw [ec] at this
      exact this
    refine loopE (fun ρ w1 => ∃ i : Nat, i ≤ l.length ∧ w1 = wr ∧ (¬ ∃ p ∈ (pl l).take i, 4096 < p.bs.length) ∧ ρ 4 = .int .i64 (i : Int) ∧ ρ 0 = v)
      (fun ρ w1 => match ρ 4 with | .int _ s => (l.length - s).toNat | _ => 0)
      (fun ρ w1 => w1 = wr ∧ (¬ ∃ p ∈ pl l, 4096 < p.bs.length) ∧ ρ 0 = v) ?_ ?_ ?_
    · exact ⟨0, by omega, rfl, by simp, rfl, r0⟩
    · rintro J hJ ρ w1 ⟨i, hi, rfl, hne2, r4, r0⟩
      rw [r0, r4, ev, X_len_100, X_lss, condS_bool, ← ev]
      by_cases hie : i = l.length
      · rw [if_neg (by simp; omega)]
        rw [hie, List.take_of_length_le (by rw [hll]; exact Nat.le_refl _)] at hne2
        exact hJ _ _ ⟨rfl, hne2, r0⟩
      rw [if_pos (by simp; omega)]
      have hlt : i < l.length := by omega
      have hltp : i < (pl l).length := by rw [hll]; exact hlt
      have s1 := any_succ (P := fun p => 4096 < p.bs.length) hltp
      have hget : (pl l)[i]'hltp = l[i].p := by simp
      have hmem : l[i].p ∈ pl l := List.mem_map.2 ⟨_, List.getElem_mem hlt, rfl⟩
      rw [hget] at s1
      refine X_dataAt hl hlt ?_
      intro u1 u2
      have hA := hin _ (List.getElem_mem hlt)
      generalize l[i] = A at s1 hA hmem
      obtain ⟨aA, cA, eA⟩ := Bts.slice hA
      rw [eA, X_len_27, X_gtr, condS_bool]
      by_cases h0 : 4096 < A.p.bs.length
      · rw [if_pos (by simp; omega)]
        exact four (.inr (.inl ⟨_, hmem, h0⟩)) _ (Keep.refl _ _)
      rw [if_neg (by simp; omega), X_add]
      show _ ∧ _
      refine ⟨⟨i + 1, by omega, rfl, ?_, next64 (n := 1000000000000) (by decide) (by omega), r0⟩, ?_⟩
      · rw [s1]; rintro (h | h)
        · exact hne2 h
        · exact h0 h
      · show (_ - IntKind.i64.wrap _).toNat < _
        rw [w64 (by omega) (by omega)]
        first | omega | (show _ < (_ : Int).toNat; omega)
    · rintro ρ w1 ⟨rfl, hne2, r0⟩
      rw [r0, ev, X_len_100, X_gtr, ← ev]
      by_cases h1000 : 1000 < l.length
      · have c : decide ((l.length : Int) > 1000) = true := by simp; omega
        (repeat (simp only [XP_extract0, XP_extract1, XP_extract2, XP_extract3, X_extract0, X_extract1, X_extract2, X_extract3, X_nilS, X_eql_nil_74, X_neq_nil_74, X_eql_nil_124, X_neq_nil_124, X_eql, X_neq, X_lss, X_leq, X_gtr, X_geq, X_not, X_min, X_max, X_len_27, X_len_9, X_len_79, XP_nilS, XP_eql, XP_neq, XP_lss, XP_leq, XP_gtr, XP_geq, XP_not, XP_min, XP_max, XP_len_27, XP_len_9, XP_eql_nil_74, X_str_eql, X_str_neq, XP_str_eql, XP_str_neq, GS, gs_u, decide_true, decide_false, Option.isNone_some, Option.isSome_some, Option.isNone_none, Option.isSome_none, eq_self, Bool.not_true, Bool.not_false, Int.reduceEq, Int.reduceNe, Int.reduceLT, Int.reduceLE, Int.reduceGT, Int.reduceGE, c]))
        exact four (.inl (by rw [hll]; exact h1000)) _ (Keep.refl _ _)
      have c : decide ((l.length : Int) > 1000) = false := by simp; omega
      (repeat (simp only [XP_extract0, XP_extract1, XP_extract2, XP_extract3, X_extract0, X_extract1, X_extract2, X_extract3, X_nilS, X_eql_nil_74, X_neq_nil_74, X_eql_nil_124, X_neq_nil_124, X_eql, X_neq, X_lss, X_leq, X_gtr, X_geq, X_not, X_min, X_max, X_len_27, X_len_9, X_len_79, XP_nilS, XP_eql, XP_neq, XP_lss, XP_leq, XP_gtr, XP_geq, XP_not, XP_min, XP_max, XP_len_27, XP_len_9, XP_eql_nil_74, X_str_eql, X_str_neq, XP_str_eql, XP_str_neq, GS, gs_u, decide_true, decide_false, Option.isNone_some, Option.isSome_some, Option.isNone_none, Option.isSome_none, eq_self, Bool.not_true, Bool.not_false, Int.reduceEq, Int.reduceNe, Int.reduceLT, Int.reduceLE, Int.reduceGT, Int.reduceGE, c]))
      refine RSize_spec hl hin hT ?_
      have htot : sizeP (pl l) ≤ 1000000000010 := by unfold sizeP; rw [hll]; omega
      (repeat (simp only [XP_extract0, XP_extract1, XP_extract2, XP_extract3, X_extract0, X_extract1, X_extract2, X_extract3, X_nilS, X_eql_nil_74, X_neq_nil_74, X_eql_nil_124, X_neq_nil_124, X_eql, X_neq, X_lss, X_leq, X_gtr, X_geq, X_not, X_min, X_max, X_len_27, X_len_9, X_len_79, XP_nilS, XP_eql, XP_neq, XP_lss, XP_leq, XP_gtr, XP_geq, XP_not, XP_min, XP_max, XP_len_27, XP_len_9, XP_eql_nil_74, X_str_eql, X_str_neq, XP_str_eql, XP_str_neq, GS, gs_u, decide_true, decide_false, Option.isNone_some, Option.isSome_some, Option.isNone_none, Option.isSome_none, eq_self, Bool.not_true, Bool.not_false, Int.reduceEq, Int.reduceNe, Int.reduceLT, Int.reduceLE, Int.reduceGT, Int.reduceGE]))
      by_cases hsz : 65536 < sizeP (pl l)
      · have c : decide (((sizeP (pl l) : Nat) : Int) > 65536) = true := by simp; omega
        (repeat (simp only [XP_extract0, XP_extract1, XP_extract2, XP_extract3, X_extract0, X_extract1, X_extract2, X_extract3, X_nilS, X_eql_nil_74, X_neq_nil_74, X_eql_nil_124, X_neq_nil_124, X_eql, X_neq, X_lss, X_leq, X_gtr, X_geq, X_not, X_min, X_max, X_len_27, X_len_9, X_len_79, XP_nilS, XP_eql, XP_neq, XP_lss, XP_leq, XP_gtr, XP_geq, XP_not, XP_min, XP_max, XP_len_27, XP_len_9, XP_eql_nil_74, X_str_eql, X_str_neq, XP_str_eql, XP_str_neq, GS, gs_u, decide_true, decide_false, Option.isNone_some, Option.isSome_some, Option.isNone_none, Option.isSome_none, eq_self, Bool.not_true, Bool.not_false, Int.reduceEq, Int.reduceNe, Int.reduceLT, Int.reduceLE, Int.reduceGT, Int.reduceGE, c]))
        exact four (.inr (.inr hsz)) _ (Keep.refl _ _)
      have c : decide (((sizeP (pl l) : Nat) : Int) > 65536) = false := by simp; omega
      (repeat (simp only [XP_extract0, XP_extract1, XP_extract2, XP_extract3, X_extract0, X_extract1, X_extract2, X_extract3, X_nilS, X_eql_nil_74, X_neq_nil_74, X_eql_nil_124, X_neq_nil_124, X_eql, X_neq, X_lss, X_leq, X_gtr, X_geq, X_not, X_min, X_max, X_len_27, X_len_9, X_len_79, XP_nilS, XP_eql, XP_neq, XP_lss, XP_leq, XP_gtr, XP_geq, XP_not, XP_min, XP_max, XP_len_27, XP_len_9, XP_eql_nil_74, X_str_eql, X_str_neq, XP_str_eql, XP_str_neq, GS, gs_u, decide_true, decide_false, Option.isNone_some, Option.isSome_some, Option.isNone_none, Option.isSome_none, eq_self, Bool.not_true, Bool.not_false, Int.reduceEq, Int.reduceNe, Int.reduceLT, Int.reduceLE, Int.reduceGT, Int.reduceGE, c]))
      have n4 : ¬ (1000 < (pl l).length ∨ (∃ p ∈ pl l, 4096 < p.bs.length) ∨ 65536 < sizeP (pl l)) := by
        rw [hll]
        rintro (h | h | h)
        · exact h1000 h
        · exact hne2 h
        · exact hsz h
      refine Twice_spec hl (by omega) ?_
      intro w2 hx2
      have := hK w2 hx2
      rw [condS_bool]
      by_cases hnd : (kys (pl l)).Nodup
      · rw [if_neg (by simpa using hnd)]
        have ec : chk (pl l) = 0 := by
          unfold chk
          rw [if_neg hne, if_neg n4, if_pos hnd]
        rw [ec] at this
        exact this
      · rw [if_pos (by simpa using hnd)]
        have ec : chk (pl l) = 3 := by
          unfold chk
          rw [if_neg hne, if_neg n4, if_neg hnd]
        rw [ec] at this
        exact this
end
end Go.Proofs.Ytggggfcgnkllgaa
end
section
set_option linter.unusedVariables false
namespace Go.Proofs.Ytggggfcgnkllgaa
open Go Go.Sh
attribute [local irreducible] X XU XP XR CALL loopS resC closS
def B_law08_DiskNil_c1 (v30_43 : Value) (K : Value → World → Prop) (w42 : World) : Prop :=
  gstep v30_43 true (fun w43 K => K (.pointer none) w43) w42 fun v31_45 w44 =>
  gstep v30_43 true (fun w45 K => CALL Try.prog 77 #[v31_45] w45 K) w44 fun v32_46 w46 =>
  gstep v30_43 true (fun w47 K => X Try.prog (binOpG .eql 3 (.tmp 46) (.const (.int .i64 0)) v32_46 (.int .i64 0)) w47 K) w46 fun v33_47 w48 =>
  X Try.prog (pickS v30_43 v33_47 (.bool false)) w48 fun v34_48 w49 =>
  gstep v34_48 true (fun w50 K => K (.pointer none) w50) w49 fun v35_50 w51 =>
  gstep v34_48 true (fun w52 K => CALL Try.prog 76 #[v35_50] w52 K) w51 fun v36_51 w53 =>
  gstep v34_48 true (fun w54 K => X Try.prog (Op.unary .not v36_51) w54 K) w53 fun v37_52 w55 =>
  X Try.prog (pickS v34_48 v37_52 (.bool false)) w55 fun v38_53 w56 =>
  gstep v38_53 true (fun w57 K => K (.pointer none) w57) w56 fun v39_55 w58 =>
  gstep v38_53 true (fun w59 K => CALL Try.prog 79 #[v39_55] w59 K) w58 fun v40_56 w60 =>
  gstep v38_53 true (fun w61 K => X Try.prog (binOpG .eql 3 (.tmp 56) (.const (.int .i64 0)) v40_56 (.int .i64 0)) w61 K) w60 fun v41_57 w62 =>
  X Try.prog (pickS v38_53 v41_57 (.bool false)) w62 fun v42_58 w63 =>
  gstep v42_58 true (fun w64 K => K (.pointer none) w64) w63 fun v43_60 w65 =>
  gstep v42_58 true (fun w66 K => CALL Try.prog 81 #[v43_60] w66 K) w65 fun v44_61 w67 =>
  gstep v42_58 true (fun w68 K => X Try.prog (binOpG .eql 74 (.tmp 61) (.const (.pointer none)) v44_61 (.pointer none)) w68 K) w67 fun v45_62 w69 =>
  X Try.prog (pickS v42_58 v45_62 (.bool false)) w69 fun v46_63 w70 =>
  K v46_63 w70

def B_law08_DiskNil_c2 (w14 : World) (K : Value → World → Prop) (v3_9 : Value) (v1_1 : Value) (v8_16 : Value) : Prop :=
  CALL Try.prog 68 #[] w14 fun v15_25 w15 =>
  gstep v15_25 true (fun w16 K => K v3_9 w16) w15 fun v16_27 w17 =>
  gstep v15_25 true (fun w18 K => X Try.prog (binOpG .eql 30 (.tmp 27) (.const (.int .i64 2)) v16_27 (.int .i64 2)) w18 K) w17 fun v17_28 w19 =>
  gstep v15_25 true (fun w20 K => X Try.prog (Instr.fieldAt 86 v1_1 0) w20 K) w19 fun v18_29 w21 =>
  gstep v15_25 true (fun w22 K => X Try.prog (Instr.loadAt 5 v18_29) w22 K) w21 fun v19_30 w23 =>
  gstep v15_25 true (fun w24 K => X Try.prog (binOp .rem 5 v19_30 (.int .u8 5)) w24 K) w23 fun v20_31 w25 =>
  gstep v15_25 true (fun w26 K => X Try.prog (binOp .lss 5 v20_31 (.int .u8 2)) w26 K) w25 fun v21_32 w27 =>
  gstep v15_25 true (fun w28 K => X Try.prog (binOpG .eql 4 (.tmp 28) (.tmp 32) v17_28 v21_32) w28 K) w27 fun v22_33 w29 =>
  X Try.prog (pickS v15_25 v22_33 (.bool false)) w29 fun v23_34 w30 =>
  gstep v23_34 true (fun w31 K => K v8_16 w31) w30 fun v24_36 w32 =>
  gstep v23_34 true (fun w33 K => X Try.prog (binOpG .eql 30 (.tmp 36) (.const (.int .i64 2)) v24_36 (.int .i64 2)) w33 K) w32 fun v25_37 w34 =>
  X Try.prog (pickS v23_34 v25_37 (.bool false)) w34 fun v26_38 w35 =>
  gstep v26_38 true (fun w36 K => K (.pointer none) w36) w35 fun v27_40 w37 =>
  gstep v26_38 true (fun w38 K => CALL Try.prog 84 #[v27_40] w38 K) w37 fun v28_41 w39 =>
  gstep v26_38 true (fun w40 K => X Try.prog (binOpG .eql 3 (.tmp 41) (.const (.int .i64 0)) v28_41 (.int .i64 0)) w40 K) w39 fun v29_42 w41 =>
  X Try.prog (pickS v26_38 v29_42 (.bool false)) w41 fun v30_43 w42 =>
  B_law08_DiskNil_c1 v30_43 K w42

/-- cellarage/cellaragelaw08.DiskNil -/
def B_law08_DiskNil (x0 : Value) (w : World) (K : Value → World → Prop) : Prop :=
  X Try.prog (Instr.box 86 x0) w fun v1_1 w1 =>
  X Try.prog (Instr.loadAt 86 v1_1) w1 fun v2_8 w2 =>
  CALL Try.prog 75 #[(.pointer none), v2_8] w2 fun v3_9 w3 =>
  X Try.prog (Instr.fieldAt 86 v1_1 1) w3 fun v4_12 w4 =>
  X Try.prog (Instr.loadAt 3 v4_12) w4 fun v5_13 w5 =>
  CALL Try.prog 73 #[(.pointer none), v5_13] w5 fun v6_14 w6 =>
  X Try.prog (Instr.extract v6_14 0) w6 fun v7_15 w7 =>
  X Try.prog (Instr.extract v6_14 1) w7 fun v8_16 w8 =>
  X Try.prog (Instr.fieldAt 86 v1_1 2) w8 fun v9_18 w9 =>
  X Try.prog (Instr.loadAt 3 v9_18) w9 fun v10_19 w10 =>
  CALL Try.prog 78 #[(.pointer none), v10_19] w10 fun v11_20 w11 =>
  X Try.prog (Instr.fieldAt 86 v1_1 4) w11 fun v12_22 w12 =>
  X Try.prog (Instr.loadAt 79 v12_22) w12 fun v13_23 w13 =>
  CALL Try.prog 72 #[(.pointer none), v13_23] w13 fun v14_24 w14 =>
  B_law08_DiskNil_c2 w14 K v3_9 v1_1 v8_16

theorem eq_law08_DiskNil (x0 : Value) (w : World) (K : Value → World → Prop) :
    sh Try.prog (Try.f25.body.getD .skip) (retS Try.prog Try.f25.results K) (env0 #[x0]) w = B_law08_DiskNil x0 w K := by kernel_rfl

theorem call_law08_DiskNil (x0 : Value) (w : World) (K : Value → World → Prop) (h : B_law08_DiskNil x0 w K) : CALL Try.prog 25 #[x0] w K :=
  call_of_eq (c := Try.f25.body.getD .skip) mixed Try.func25 (by kernel_rfl) (by kernel_rfl) (by kernel_rfl) (Nat.le_of_ble_eq_true (by kernel_rfl)) (eq_law08_DiskNil x0 w K) h

def B_law11_ContLays_c1 (v1_10 : Value) (K : Value → World → Prop) (v5_19 : Value) (w9 : World) (v8_25 : Value) (v6_20 : Value) (v9_26 : Value) (x1 : Value) : Prop :=
  gstep v1_10 true (fun w10 K => K v5_19 w10) w9 fun v10_29 w11 =>
  gstep v1_10 true (fun w12 K => X Try.prog (convert 27 9 v10_29) w12 K) w11 fun v11_30 w13 =>
  gstep v1_10 true (fun w14 K => K v8_25 w14) w13 fun v12_31 w15 =>
  gstep v1_10 true (fun w16 K => X Try.prog (convert 27 9 v12_31) w16 K) w15 fun v13_32 w17 =>
  gstep v1_10 true (fun w18 K => X Try.prog (binOpG .eql 9 (.tmp 30) (.tmp 32) v11_30 v13_32) w18 K) w17 fun v14_33 w19 =>
  X Try.prog (pickS v1_10 v14_33 (.bool false)) w19 fun v15_34 w20 =>
  gstep v15_34 true (fun w21 K => K v6_20 w21) w20 fun v16_36 w22 =>
  gstep v15_34 true (fun w23 K => K v9_26 w23) w22 fun v17_37 w24 =>
  gstep v15_34 true (fun w25 K => X Try.prog (binOpG .eql 30 (.tmp 36) (.tmp 37) v16_36 v17_37) w25 K) w24 fun v18_38 w26 =>
  X Try.prog (pickS v15_34 v18_38 (.bool false)) w26 fun v19_39 w27 =>
  gstep v19_39 true (fun w28 K => K x1 w28) w27 fun v20_41 w29 =>
  gstep v19_39 true (fun w30 K => CALL Try.prog 89 #[v20_41] w30 K) w29 fun v21_42 w31 =>
  gstep v19_39 true (fun w32 K => K x1 w32) w31 fun v22_43 w33 =>
  gstep v19_39 true (fun w34 K => CALL Try.prog 90 #[v22_43] w34 K) w33 fun v23_44 w35 =>
  gstep v19_39 true (fun w36 K => X Try.prog (binOpG .eql 3 (.tmp 42) (.tmp 44) v21_42 v23_44) w36 K) w35 fun v24_45 w37 =>
  X Try.prog (pickS v19_39 v24_45 (.bool false)) w37 fun v25_46 w38 =>
  K v25_46 w38

/-- cellarage/cellaragelaw11.ContLays -/
def B_law11_ContLays (x0 x1 : Value) (w : World) (K : Value → World → Prop) : Prop :=
  CALL Try.prog 85 #[] w fun v1_10 w1 =>
  CALL Try.prog 86 #[x1] w1 fun v2_12 w2 =>
  X Try.prog (Op.unary .not v2_12) w2 fun v3_13 w3 =>
  condS v3_13 (
  K v1_10 w3) (
  CALL Try.prog 87 #[x0, x1] w3 fun v4_18 w4 =>
  X Try.prog (Instr.extract v4_18 0) w4 fun v5_19 w5 =>
  X Try.prog (Instr.extract v4_18 1) w5 fun v6_20 w6 =>
  CALL Try.prog 88 #[x0, x1] w6 fun v7_24 w7 =>
  X Try.prog (Instr.extract v7_24 0) w7 fun v8_25 w8 =>
  X Try.prog (Instr.extract v7_24 1) w8 fun v9_26 w9 =>
  B_law11_ContLays_c1 v1_10 K v5_19 w9 v8_25 v6_20 v9_26 x1)

theorem eq_law11_ContLays (x0 x1 : Value) (w : World) (K : Value → World → Prop) :
    sh Try.prog (Try.f26.body.getD .skip) (retS Try.prog Try.f26.results K) (env0 #[x0, x1]) w = B_law11_ContLays x0 x1 w K := by kernel_rfl

theorem call_law11_ContLays (x0 x1 : Value) (w : World) (K : Value → World → Prop) (h : B_law11_ContLays x0 x1 w K) : CALL Try.prog 26 #[x0, x1] w K :=
  call_of_eq (c := Try.f26.body.getD .skip) mixed Try.func26 (by kernel_rfl) (by kernel_rfl) (by kernel_rfl) (Nat.le_of_ble_eq_true (by kernel_rfl)) (eq_law11_ContLays x0 x1 w K) h

def B_law11_ContBack_c1 (v1_11 : Value) (K : Value → World → Prop) (v16_38 : Value) (w20 : World) (v13_33 : Value) (x0 : Value) (x1 : Value) (v14_34 : Value) (v5_20 : Value) : Prop :=
  gstep v1_11 true (fun w21 K => X Try.prog (binOpG .eql 30 (.tmp 38) (.const (.int .i64 0)) v16_38 (.int .i64 0)) w21 K) w20 fun v17_39 w22 =>
  X Try.prog (pickS v1_11 v17_39 (.bool false)) w22 fun v18_40 w23 =>
  gstep v18_40 true (fun w24 K => K v13_33 w24) w23 fun v19_42 w25 =>
  gstep v18_40 true (fun w26 K => K x0 w26) w25 fun v20_43 w27 =>
  gstep v18_40 true (fun w28 K => X Try.prog (binOpG .eql 23 (.tmp 42) (.tmp 43) v19_42 v20_43) w28 K) w27 fun v21_44 w29 =>
  X Try.prog (pickS v18_40 v21_44 (.bool false)) w29 fun v22_45 w30 =>
  gstep v22_45 true (fun w31 K => K x1 w31) w30 fun v23_47 w32 =>
  gstep v22_45 true (fun w33 K => K v14_34 w33) w32 fun v24_48 w34 =>
  gstep v22_45 true (fun w35 K => CALL Try.prog 92 #[v23_47, v24_48] w35 K) w34 fun v25_49 w36 =>
  X Try.prog (pickS v22_45 v25_49 (.bool false)) w36 fun v26_50 w37 =>
  gstep v26_50 true (fun w38 K => K v5_20 w38) w37 fun v27_52 w39 =>
  gstep v26_50 true (fun w40 K => X Try.prog (Builtin.len_ #[27] 3 #[v27_52]) w40 K) w39 fun v28_53 w41 =>
  gstep v26_50 true (fun w42 K => K x1 w42) w41 fun v29_54 w43 =>
  gstep v26_50 true (fun w44 K => CALL Try.prog 89 #[v29_54] w44 K) w43 fun v30_55 w45 =>
  gstep v26_50 true (fun w46 K => X Try.prog (binOpG .eql 3 (.tmp 53) (.tmp 55) v28_53 v30_55) w46 K) w45 fun v31_56 w47 =>
  X Try.prog (pickS v26_50 v31_56 (.bool false)) w47 fun v32_57 w48 =>
  K v32_57 w48

def B_law11_ContBack_c2 (v2_13 : Value) (w2 : World) (K : Value → World → Prop) (v1_11 : Value) (x0 : Value) (x1 : Value) : Prop :=
  X Try.prog (Op.unary .not v2_13) w2 fun v3_14 w3 =>
  condS v3_14 (
  K v1_11 w3) (
  CALL Try.prog 87 #[x0, x1] w3 fun v4_19 w4 =>
  X Try.prog (Instr.extract v4_19 0) w4 fun v5_20 w5 =>
  X Try.prog (Instr.extract v4_19 1) w5 fun v6_21 w6 =>
  X Try.prog (binOpG .neq 30 (.tmp 22) (.const (.int .i64 0)) v6_21 (.int .i64 0)) w6 fun v7_23 w7 =>
  condS v7_23 (
  gstep v1_11 true (fun w8 K => K v5_20 w8) w7 fun v8_26 w9 =>
  gstep v1_11 true (fun w10 K => X Try.prog (Builtin.len_ #[27] 3 #[v8_26]) w10 K) w9 fun v9_27 w11 =>
  gstep v1_11 true (fun w12 K => X Try.prog (binOpG .eql 3 (.tmp 27) (.const (.int .i64 0)) v9_27 (.int .i64 0)) w12 K) w11 fun v10_28 w13 =>
  X Try.prog (pickS v1_11 v10_28 (.bool false)) w13 fun v11_29 w14 =>
  K v11_29 w14) (
  CALL Try.prog 91 #[v5_20] w7 fun v12_32 w15 =>
  X Try.prog (Instr.extract v12_32 0) w15 fun v13_33 w16 =>
  X Try.prog (Instr.extract v12_32 1) w16 fun v14_34 w17 =>
  X Try.prog (Instr.extract v12_32 2) w17 fun v15_35 w18 =>
  gstep v1_11 true (fun w19 K => K v15_35 w19) w18 fun v16_38 w20 =>
  B_law11_ContBack_c1 v1_11 K v16_38 w20 v13_33 x0 x1 v14_34 v5_20))

/-- cellarage/cellaragelaw11.ContBack -/
def B_law11_ContBack (x0 x1 : Value) (w : World) (K : Value → World → Prop) : Prop :=
  CALL Try.prog 85 #[] w fun v1_11 w1 =>
  CALL Try.prog 86 #[x1] w1 fun v2_13 w2 =>
  B_law11_ContBack_c2 v2_13 w2 K v1_11 x0 x1

theorem eq_law11_ContBack (x0 x1 : Value) (w : World) (K : Value → World → Prop) :
    sh Try.prog (Try.f27.body.getD .skip) (retS Try.prog Try.f27.results K) (env0 #[x0, x1]) w = B_law11_ContBack x0 x1 w K := by kernel_rfl

theorem call_law11_ContBack (x0 x1 : Value) (w : World) (K : Value → World → Prop) (h : B_law11_ContBack x0 x1 w K) : CALL Try.prog 27 #[x0, x1] w K :=
  call_of_eq (c := Try.f27.body.getD .skip) mixed Try.func27 (by kernel_rfl) (by kernel_rfl) (by kernel_rfl) (Nat.le_of_ble_eq_true (by kernel_rfl)) (eq_law11_ContBack x0 x1 w K) h

def B_law11_ContOnce_c1 (v7_19 : Value) (w7 : World) (v1_9 : Value) (K : Value → World → Prop) (v5_17 : Value) (v6_18 : Value) (x0 : Value) : Prop :=
  X Try.prog (binOpG .neq 30 (.tmp 20) (.const (.int .i64 0)) v7_19 (.int .i64 0)) w7 fun v8_21 w8 =>
  condS v8_21 (
  gstep v1_9 true (fun w9 K => K v5_17 w9) w8 fun v9_24 w10 =>
  gstep v1_9 true (fun w11 K => X Try.prog (binOpG .eql 23 (.tmp 24) (.const (.int .u32 0)) v9_24 (.int .u32 0)) w11 K) w10 fun v10_25 w12 =>
  X Try.prog (pickS v1_9 v10_25 (.bool false)) w12 fun v11_26 w13 =>
  gstep v11_26 true (fun w14 K => K v6_18 w14) w13 fun v12_28 w15 =>
  gstep v11_26 true (fun w16 K => X Try.prog (Builtin.len_ #[100] 3 #[v12_28]) w16 K) w15 fun v13_29 w17 =>
  gstep v11_26 true (fun w18 K => X Try.prog (binOpG .eql 3 (.tmp 29) (.const (.int .i64 0)) v13_29 (.int .i64 0)) w18 K) w17 fun v14_30 w19 =>
  X Try.prog (pickS v11_26 v14_30 (.bool false)) w19 fun v15_31 w20 =>
  K v15_31 w20) (
  CALL Try.prog 87 #[v5_17, v6_18] w8 fun v16_35 w21 =>
  X Try.prog (Instr.extract v16_35 0) w21 fun v17_36 w22 =>
  X Try.prog (Instr.extract v16_35 1) w22 fun v18_37 w23 =>
  gstep v1_9 true (fun w24 K => K v18_37 w24) w23 fun v19_40 w25 =>
  gstep v1_9 true (fun w26 K => X Try.prog (binOpG .eql 30 (.tmp 40) (.const (.int .i64 0)) v19_40 (.int .i64 0)) w26 K) w25 fun v20_41 w27 =>
  X Try.prog (pickS v1_9 v20_41 (.bool false)) w27 fun v21_42 w28 =>
  gstep v21_42 true (fun w29 K => K v17_36 w29) w28 fun v22_44 w30 =>
  gstep v21_42 true (fun w31 K => X Try.prog (convert 27 9 v22_44) w31 K) w30 fun v23_45 w32 =>
  gstep v21_42 true (fun w33 K => K x0 w33) w32 fun v24_46 w34 =>
  gstep v21_42 true (fun w35 K => X Try.prog (convert 27 9 v24_46) w35 K) w34 fun v25_47 w36 =>
  gstep v21_42 true (fun w37 K => X Try.prog (binOpG .eql 9 (.tmp 45) (.tmp 47) v23_45 v25_47) w37 K) w36 fun v26_48 w38 =>
  X Try.prog (pickS v21_42 v26_48 (.bool false)) w38 fun v27_49 w39 =>
  K v27_49 w39)

/-- cellarage/cellaragelaw11.ContOnce -/
def B_law11_ContOnce (x0 : Value) (w : World) (K : Value → World → Prop) : Prop :=
  CALL Try.prog 85 #[] w fun v1_9 w1 =>
  X Try.prog (Builtin.len_ #[27] 3 #[x0]) w1 fun v2_11 w2 =>
  X Try.prog (binOp .gtr 3 v2_11 (.int .i64 100000)) w2 fun v3_12 w3 =>
  condS v3_12 (
  K v1_9 w3) (
  CALL Try.prog 91 #[x0] w3 fun v4_16 w4 =>
  X Try.prog (Instr.extract v4_16 0) w4 fun v5_17 w5 =>
  X Try.prog (Instr.extract v4_16 1) w5 fun v6_18 w6 =>
  X Try.prog (Instr.extract v4_16 2) w6 fun v7_19 w7 =>
  B_law11_ContOnce_c1 v7_19 w7 v1_9 K v5_17 v6_18 x0)

theorem eq_law11_ContOnce (x0 : Value) (w : World) (K : Value → World → Prop) :
    sh Try.prog (Try.f28.body.getD .skip) (retS Try.prog Try.f28.results K) (env0 #[x0]) w = B_law11_ContOnce x0 w K := by kernel_rfl

theorem call_law11_ContOnce (x0 : Value) (w : World) (K : Value → World → Prop) (h : B_law11_ContOnce x0 w K) : CALL Try.prog 28 #[x0] w K :=
  call_of_eq (c := Try.f28.body.getD .skip) mixed Try.func28 (by kernel_rfl) (by kernel_rfl) (by kernel_rfl) (Nat.le_of_ble_eq_true (by kernel_rfl)) (eq_law11_ContOnce x0 w K) h

def B_law11_ContTurned_c1 (v28_54 : Value) (ρ1 : Env) (w37 : World) (J2 : Env → World → Prop) (v27_53 : Value) (v25_50 : Value) (v24_49 : Value) (v23_48 : Value) (v22_47 : Value) (v21_46 : Value) (v20_45 : Value) (v19_44 : Value) (v18_43 : Value) (v17_41 : Value) : Prop :=
  X Try.prog (binOp .shr 23 v28_54 (ρ1 12)) w37 fun v29_56 w38 =>
  X Try.prog (binOp .rem 23 v29_56 (.int .u32 2)) w38 fun v30_57 w39 =>
  X Try.prog (binOpG .eql 23 (.tmp 57) (.const (.int .u32 1)) v30_57 (.int .u32 1)) w39 fun v31_58 w40 =>
  condS v31_58 (
  ∃ R, Frame? R ∧
  XP Try.prog (binOp .add 3 (ρ1 10) (ρ1 12)) (drewW w40) fun v32_62 w41 =>
  XP Try.prog (binOp .quo 3 v32_62 (.int .i64 8)) w41 fun v33_63 w42 =>
  XP Try.prog (Instr.indexAt 27 (ρ1 8) v33_63) w42 fun v34_64 w43 =>
  XR Try.prog R (Instr.loadAt 5 v34_64) w43 fun v35_65 w44 =>
  XP Try.prog (binOp .add 3 (ρ1 10) (ρ1 12)) w44 fun v36_68 w45 =>
  XP Try.prog (binOp .rem 3 v36_68 (.int .i64 8)) w45 fun v37_69 w46 =>
  XP Try.prog (binOp .shr 5 (.int .u8 128) v37_69) w46 fun v38_70 w47 =>
  XP Try.prog (binOp .xor 5 v35_65 v38_70) w47 fun v39_71 w48 =>
  XP Try.prog (Instr.indexAt 27 (ρ1 8) v33_63) w48 fun v40_72 w49 =>
  XU Try.prog (Instr.storeAt 5 v40_72 v39_71) w49 fun w50 =>
  J2 (upds ρ1 [(11, (.bool true)), (72, v40_72), (71, v39_71), (70, v38_70), (69, v37_69), (68, v36_68), (67, (ρ1 12)), (66, (ρ1 10)), (65, v35_65), (64, v34_64), (63, v33_63), (62, v32_62), (61, (ρ1 12)), (60, (ρ1 10)), (59, (ρ1 8)), (58, v31_58), (57, v30_57), (56, v29_56), (55, (ρ1 12)), (54, v28_54), (53, v27_53), (50, v25_50), (49, v24_49), (48, v23_48), (47, v22_47), (46, v21_46), (45, v20_45), (44, v19_44), (43, v18_43), (42, v17_41), (41, v17_41), (40, (ρ1 12))]) w50) (
  J2 (upds ρ1 [(58, v31_58), (57, v30_57), (56, v29_56), (55, (ρ1 12)), (54, v28_54), (53, v27_53), (50, v25_50), (49, v24_49), (48, v23_48), (47, v22_47), (46, v21_46), (45, v20_45), (44, v19_44), (43, v18_43), (42, v17_41), (41, v17_41), (40, (ρ1 12))]) w40)

def B_law11_ContTurned_c2 (ρ1 : Env) (w17 : World) (K : Value → World → Prop) (Q1 : Exit → Env → World → Prop) : Prop :=
  X Try.prog (binOp .lss 3 (ρ1 12) (.int .i64 32)) w17 fun v17_41 w18 =>
  gstep v17_41 true (fun w19 K => K (ρ1 10) w19) w18 fun v18_43 w20 =>
  gstep v17_41 true (fun w21 K => K (ρ1 12) w21) w20 fun v19_44 w22 =>
  gstep v17_41 true (fun w23 K => X Try.prog (binOp .add 3 v18_43 v19_44) w23 K) w22 fun v20_45 w24 =>
  gstep v17_41 true (fun w25 K => K (ρ1 8) w25) w24 fun v21_46 w26 =>
  gstep v17_41 true (fun w27 K => X Try.prog (Builtin.len_ #[27] 3 #[v21_46]) w27 K) w26 fun v22_47 w28 =>
  gstep v17_41 true (fun w29 K => X Try.prog (binOp .mul 3 (.int .i64 8) v22_47) w29 K) w28 fun v23_48 w30 =>
  gstep v17_41 true (fun w31 K => X Try.prog (binOp .lss 3 v20_45 v23_48) w31 K) w30 fun v24_49 w32 =>
  X Try.prog (pickS v17_41 v24_49 (.bool false)) w32 fun v25_50 w33 =>
  condS v25_50 (
  joinS (fun ρ2 w34 =>
  X Try.prog (binOp .add 3 (ρ2 12) (.int .i64 1)) w34 fun v26_52 w35 =>
  Q1 .normal (upds ρ2 [(12, v26_52), (52, v26_52), (51, (ρ2 12))]) w35) fun J2 =>
  X Try.prog (Instr.indexAt 108 (ρ1 5) (.int .i64 1)) w33 fun v27_53 w36 =>
  X Try.prog (Instr.loadAt 23 v27_53) w36 fun v28_54 w37 =>
  B_law11_ContTurned_c1 v28_54 ρ1 w37 J2 v27_53 v25_50 v24_49 v23_48 v22_47 v21_46 v20_45 v19_44 v18_43 v17_41) (
  Q1 (.exit 0) (upds ρ1 [(50, v25_50), (49, v24_49), (48, v23_48), (47, v22_47), (46, v21_46), (45, v20_45), (44, v19_44), (43, v18_43), (42, v17_41), (41, v17_41), (40, (ρ1 12))]) w33)

def B_law11_ContTurned_c3 (ρ3 : Env) (w55 : World) (K : Value → World → Prop) (v44_78 : Value) (v43_77 : Value) : Prop :=
  X Try.prog (Op.unary .not (ρ3 11)) w55 fun v45_80 w56 =>
  condS v45_80 (
  gstep (ρ3 7) true (fun w57 K => K v44_78 w57) w56 fun v46_83 w58 =>
  gstep (ρ3 7) true (fun w59 K => X Try.prog (binOpG .eql 30 (.tmp 83) (.const (.int .i64 0)) v46_83 (.int .i64 0)) w59 K) w58 fun v47_84 w60 =>
  X Try.prog (pickS (ρ3 7) v47_84 (.bool false)) w60 fun v48_85 w61 =>
  gstep v48_85 true (fun w62 K => K (ρ3 1) w62) w61 fun v49_87 w63 =>
  gstep v48_85 true (fun w64 K => K v43_77 w64) w63 fun v50_88 w65 =>
  gstep v48_85 true (fun w66 K => CALL Try.prog 92 #[v49_87, v50_88] w66 K) w65 fun v51_89 w67 =>
  X Try.prog (pickS v48_85 v51_89 (.bool false)) w67 fun v52_90 w68 =>
  K v52_90 w68) (
  gstep (ρ3 7) true (fun w69 K => K v44_78 w69) w56 fun v53_93 w70 =>
  gstep (ρ3 7) true (fun w71 K => X Try.prog (binOpG .eql 30 (.tmp 93) (.const (.int .i64 110)) v53_93 (.int .i64 110)) w71 K) w70 fun v54_94 w72 =>
  X Try.prog (pickS (ρ3 7) v54_94 (.bool false)) w72 fun v55_95 w73 =>
  gstep v55_95 true (fun w74 K => K v43_77 w74) w73 fun v56_97 w75 =>
  gstep v55_95 true (fun w76 K => X Try.prog (Builtin.len_ #[100] 3 #[v56_97]) w76 K) w75 fun v57_98 w77 =>
  gstep v55_95 true (fun w78 K => X Try.prog (binOpG .eql 3 (.tmp 98) (.const (.int .i64 0)) v57_98 (.int .i64 0)) w78 K) w77 fun v58_99 w79 =>
  X Try.prog (pickS v55_95 v58_99 (.bool false)) w79 fun v59_100 w80 =>
  K v59_100 w80)

def B_law11_ContTurned_c4 (v6_25 : Value) (w8 : World) (K : Value → World → Prop) (v1_5 : Value) (x0 : Value) (x1 : Value) (x2 : Value) (v8_28 : Value) (v7_26 : Value) (v5_24 : Value) (v4_19 : Value) (v3_18 : Value) (v2_16 : Value) : Prop :=
  X Try.prog (Builtin.len_ #[27] 3 #[v6_25]) w8 fun v9_31 w9 =>
  X Try.prog (binOp .lss 3 v9_31 (.int .i64 10)) w9 fun v10_32 w10 =>
  condS v10_32 (
  K (.bool false) w10) (
  X Try.prog (Instr.indexAt 108 v1_5 (.int .i64 0)) w10 fun v11_33 w11 =>
  X Try.prog (Instr.loadAt 23 v11_33) w11 fun v12_34 w12 =>
  X Try.prog (convert 23 3 v12_34) w12 fun v13_35 w13 =>
  X Try.prog (Builtin.len_ #[27] 3 #[v6_25]) w13 fun v14_37 w14 =>
  X Try.prog (binOp .mul 3 (.int .i64 8) v14_37) w14 fun v15_38 w15 =>
  X Try.prog (binOp .rem 3 v13_35 v15_38) w15 fun v16_39 w16 =>
  loopS (fun Q1 ρ1 w17 =>
  B_law11_ContTurned_c2 ρ1 w17 K Q1) (inBlockS 0 (thenS (fun ρ3 w51 =>
  CALL Try.prog 91 #[(ρ3 8)] w51 fun v41_75 w52 =>
  X Try.prog (Instr.extract v41_75 0) w52 fun v42_76 w53 =>
  X Try.prog (Instr.extract v41_75 1) w53 fun v43_77 w54 =>
  X Try.prog (Instr.extract v41_75 2) w54 fun v44_78 w55 =>
  B_law11_ContTurned_c3 ρ3 w55 K v44_78 v43_77) (retS Try.prog (Try.f29).results K))) (upds (env0 #[x0, x1, x2]) [(12, (.int .i64 0)), (11, (.bool false)), (10, v16_39), (39, v16_39), (38, v15_38), (37, v14_37), (36, v6_25), (35, v13_35), (34, v12_34), (33, v11_33), (32, v10_32), (31, v9_31), (30, v6_25), (28, v8_28), (27, v7_26), (9, v7_26), (8, v6_25), (26, v7_26), (25, v6_25), (21, v5_24), (24, v5_24), (23, x1), (22, x0), (19, v4_19), (18, v3_18), (17, x1), (7, v2_16), (16, v2_16), (6, (.bool false)), (5, v1_5)]) w16)

/-- cellarage/cellaragelaw11.ContTurned -/
def B_law11_ContTurned (x0 x1 x2 : Value) (w : World) (K : Value → World → Prop) : Prop :=
  X Try.prog (Instr.box 108 x2) w fun v1_5 w1 =>
  CALL Try.prog 85 #[] w1 fun v2_16 w2 =>
  CALL Try.prog 86 #[x1] w2 fun v3_18 w3 =>
  X Try.prog (Op.unary .not v3_18) w3 fun v4_19 w4 =>
  condS v4_19 (
  K v2_16 w4) (
  CALL Try.prog 87 #[x0, x1] w4 fun v5_24 w5 =>
  X Try.prog (Instr.extract v5_24 0) w5 fun v6_25 w6 =>
  X Try.prog (Instr.extract v5_24 1) w6 fun v7_26 w7 =>
  X Try.prog (binOpG .neq 30 (.tmp 27) (.const (.int .i64 0)) v7_26 (.int .i64 0)) w7 fun v8_28 w8 =>
  condS v8_28 (
  K v2_16 w8) (
  B_law11_ContTurned_c4 v6_25 w8 K v1_5 x0 x1 x2 v8_28 v7_26 v5_24 v4_19 v3_18 v2_16))

theorem eq_law11_ContTurned (x0 x1 x2 : Value) (w : World) (K : Value → World → Prop) :
    sh Try.prog (Try.f29.body.getD .skip) (retS Try.prog Try.f29.results K) (env0 #[x0, x1, x2]) w = B_law11_ContTurned x0 x1 x2 w K := by kernel_rfl

theorem call_law11_ContTurned (x0 x1 x2 : Value) (w : World) (K : Value → World → Prop) (h : B_law11_ContTurned x0 x1 x2 w K) : CALL Try.prog 29 #[x0, x1, x2] w K :=
  call_of_eq (c := Try.f29.body.getD .skip) mixed Try.func29 (by kernel_rfl) (by kernel_rfl) (by kernel_rfl) (Nat.le_of_ble_eq_true (by kernel_rfl)) (eq_law11_ContTurned x0 x1 x2 w K) h

def B_law11_ContOwn_c1 (Q3 : Exit → Env → World → Prop) (ρ3 : Env) (v24_59 : Value) (v23_58 : Value) (v22_57 : Value) (v21_56 : Value) (v20_52 : Value) (w28 : World) : Prop :=
  loopS (fun Q4 ρ4 w29 =>
  X Try.prog (binOp .lss 3 (ρ4 60) (ρ4 59)) w29 fun v25_61 w30 =>
  condS v25_61 (
  X Try.prog (Instr.indexAt 100 (ρ4 9) (ρ4 12)) w30 fun v26_65 w31 =>
  X Try.prog (Instr.fieldAt 115 v26_65 1) w31 fun v27_66 w32 =>
  X Try.prog (Instr.loadAt 27 v27_66) w32 fun v28_67 w33 =>
  X Try.prog (Instr.indexAt 27 v28_67 (ρ4 60)) w33 fun v29_69 w34 =>
  X Try.prog (Instr.loadAt 5 v29_69) w34 fun v30_70 w35 =>
  X Try.prog (binOp .xor 5 v30_70 (.int .u8 85)) w35 fun v31_71 w36 =>
  X Try.prog (Instr.indexAt 27 v28_67 (ρ4 60)) w36 fun v32_72 w37 =>
  XU Try.prog (Instr.storeAt 5 v32_72 v31_71) w37 fun w38 =>
  X Try.prog (binOp .add 3 (ρ4 60) (.int .i64 1)) w38 fun v33_73 w39 =>
  Q4 .normal (upds ρ4 [(60, v33_73), (73, v33_73), (72, v32_72), (71, v31_71), (70, v30_70), (69, v29_69), (68, (ρ4 60)), (67, v28_67), (66, v27_66), (65, v26_65), (64, (ρ4 12)), (63, (ρ4 9)), (13, (ρ4 60)), (62, (ρ4 60)), (61, v25_61)]) w39) (
  Q4 (.exit 4) (upds ρ4 [(61, v25_61)]) w30)) (inBlockS 4 (thenS (fun ρ5 w40 =>
  X Try.prog (Instr.indexAt 100 (ρ5 9) (ρ5 12)) w40 fun v34_78 w41 =>
  X Try.prog (Instr.fieldAt 115 v34_78 1) w41 fun v35_79 w42 =>
  X Try.prog (Instr.loadAt 27 v35_79) w42 fun v36_80 w43 =>
  X Try.prog (Instr.buildSlice 27 3 #[(0, (.int .u8 1)), (1, (.int .u8 2)), (2, (.int .u8 3))]) w43 fun v37_81 w44 =>
  X Try.prog (Builtin.append_ #[27, 27] 27 #[v36_80, v37_81]) w44 fun v38_82 w45 =>
  X Try.prog (Instr.indexAt 100 (ρ5 9) (ρ5 12)) w45 fun v39_83 w46 =>
  X Try.prog (Instr.fieldAt 115 v39_83 1) w46 fun v40_84 w47 =>
  XU Try.prog (Instr.storeAt 27 v40_84 v38_82) w47 fun w48 =>
  X Try.prog (binOp .add 3 (ρ5 51) (.int .i64 1)) w48 fun v41_85 w49 =>
  Q3 .normal (upds ρ5 [(51, v41_85), (85, v41_85), (84, v40_84), (83, v39_83), (82, v38_82), (81, v37_81), (80, v36_80), (79, v35_79), (78, v34_78), (77, (ρ5 12)), (76, (ρ5 9)), (75, (ρ5 12)), (74, (ρ5 9))]) w49) (inBlockS 3 (thenS (fun ρ6 w50 =>
  X Try.prog (binOp .add 3 (ρ6 51) (.int .i64 1)) w50 fun v42_85 w51 =>
  Q3 .normal (upds ρ6 [(51, v42_85), (85, v42_85)]) w51) Q3)))) (upds ρ3 [(60, (.int .i64 0)), (59, v24_59), (58, v23_58), (57, v22_57), (56, v21_56), (55, (ρ3 51)), (54, (ρ3 9)), (12, (ρ3 51)), (53, (ρ3 51)), (52, v20_52)]) w28

def B_law11_ContOwn_c2 (ρ9 : Env) (w79 : World) (Q9 : Exit → Env → World → Prop) (v62_117 : Value) : Prop :=
  ∃ R, Frame? R ∧
  XP Try.prog (Instr.indexAt 100 (ρ9 9) (ρ9 14)) (drewW w79) fun v63_121 w80 =>
  XP Try.prog (Instr.fieldAt 115 v63_121 1) w80 fun v64_122 w81 =>
  XR Try.prog R (Instr.loadAt 27 v64_122) w81 fun v65_123 w82 =>
  XP Try.prog (Instr.indexAt 27 v65_123 (ρ9 116)) w82 fun v66_125 w83 =>
  XR Try.prog R (Instr.loadAt 5 v66_125) w83 fun v67_126 w84 =>
  XP Try.prog (binOp .xor 5 v67_126 (.int .u8 85)) w84 fun v68_127 w85 =>
  XP Try.prog (Instr.indexAt 100 (ρ9 1) (ρ9 14)) w85 fun v69_130 w86 =>
  XP Try.prog (Instr.fieldAt 115 v69_130 1) w86 fun v70_131 w87 =>
  XR Try.prog R (Instr.loadAt 27 v70_131) w87 fun v71_132 w88 =>
  XP Try.prog (Instr.indexAt 27 v71_132 (ρ9 116)) w88 fun v72_134 w89 =>
  XR Try.prog R (Instr.loadAt 5 v72_134) w89 fun v73_135 w90 =>
  XP Try.prog (binOpG .neq 5 (.tmp 127) (.tmp 135) v68_127 v73_135) w90 fun v74_136 w91 =>
  condS v74_136 (
  Q9 .ret (upds ρ9 [(4, (.bool false)), (136, v74_136), (135, v73_135), (134, v72_134), (133, (ρ9 116)), (132, v71_132), (131, v70_131), (130, v69_130), (129, (ρ9 14)), (128, (ρ9 1)), (127, v68_127), (126, v67_126), (125, v66_125), (124, (ρ9 116)), (123, v65_123), (122, v64_122), (121, v63_121), (120, (ρ9 14)), (119, (ρ9 9)), (16, (ρ9 116)), (118, (ρ9 116)), (117, v62_117)]) w91) (
  X Try.prog (binOp .add 3 (ρ9 116) (.int .i64 1)) w91 fun v75_137 w92 =>
  Q9 .normal (upds ρ9 [(116, v75_137), (137, v75_137), (136, v74_136), (135, v73_135), (134, v72_134), (133, (ρ9 116)), (132, v71_132), (131, v70_131), (130, v69_130), (129, (ρ9 14)), (128, (ρ9 1)), (127, v68_127), (126, v67_126), (125, v66_125), (124, (ρ9 116)), (123, v65_123), (122, v64_122), (121, v63_121), (120, (ρ9 14)), (119, (ρ9 9)), (16, (ρ9 116)), (118, (ρ9 116)), (117, v62_117)]) w92)

def B_law11_ContOwn_c3 (v53_103 : Value) (w69 : World) (ρ8 : Env) (Q8 : Exit → Env → World → Prop) (v52_102 : Value) (v51_98 : Value) : Prop :=
  X Try.prog (Instr.loadAt 27 v53_103) w69 fun v54_104 w70 =>
  X Try.prog (Builtin.len_ #[27] 3 #[v54_104]) w70 fun v55_105 w71 =>
  X Try.prog (Instr.indexAt 100 (ρ8 9) (ρ8 97)) w71 fun v56_108 w72 =>
  X Try.prog (Instr.fieldAt 115 v56_108 1) w72 fun v57_109 w73 =>
  X Try.prog (Instr.loadAt 27 v57_109) w73 fun v58_110 w74 =>
  X Try.prog (Builtin.len_ #[27] 3 #[v58_110]) w74 fun v59_111 w75 =>
  X Try.prog (binOp .add 3 v55_105 (.int .i64 3)) w75 fun v60_113 w76 =>
  X Try.prog (binOpG .neq 3 (.tmp 111) (.tmp 113) v59_111 v60_113) w76 fun v61_114 w77 =>
  condS v61_114 (
  Q8 .ret (upds ρ8 [(4, (.bool false)), (114, v61_114), (113, v60_113), (112, v55_105), (111, v59_111), (110, v58_110), (109, v57_109), (108, v56_108), (107, (ρ8 97)), (106, (ρ8 9)), (15, v55_105), (105, v55_105), (104, v54_104), (103, v53_103), (102, v52_102), (101, (ρ8 97)), (100, (ρ8 1)), (14, (ρ8 97)), (99, (ρ8 97)), (98, v51_98)]) w77) (
  loopS (fun Q9 ρ9 w78 =>
  X Try.prog (binOp .lss 3 (ρ9 116) (ρ9 115)) w78 fun v62_117 w79 =>
  condS v62_117 (
  B_law11_ContOwn_c2 ρ9 w79 Q9 v62_117) (
  Q9 (.exit 8) (upds ρ9 [(117, v62_117)]) w79)) (inBlockS 8 (inBlockS 7 (thenS (fun ρ10 w93 =>
  X Try.prog (binOp .add 3 (ρ10 97) (.int .i64 1)) w93 fun v76_138 w94 =>
  Q8 .normal (upds ρ10 [(97, v76_138), (138, v76_138)]) w94) Q8))) (upds ρ8 [(116, (.int .i64 0)), (115, v55_105), (114, v61_114), (113, v60_113), (112, v55_105), (111, v59_111), (110, v58_110), (109, v57_109), (108, v56_108), (107, (ρ8 97)), (106, (ρ8 9)), (15, v55_105), (105, v55_105), (104, v54_104), (103, v53_103), (102, v52_102), (101, (ρ8 97)), (100, (ρ8 1)), (14, (ρ8 97)), (99, (ρ8 97)), (98, v51_98)]) w77)

def B_law11_ContOwn_c4 (v43_87 : Value) (K : Value → World → Prop) (ρ7 : Env) (w53 : World) : Prop :=
  gstep v43_87 false (fun w54 K => K (ρ7 9) w54) w53 fun v44_89 w55 =>
  gstep v43_87 false (fun w56 K => X Try.prog (Builtin.len_ #[100] 3 #[v44_89]) w56 K) w55 fun v45_90 w57 =>
  gstep v43_87 false (fun w58 K => K (ρ7 1) w58) w57 fun v46_91 w59 =>
  gstep v43_87 false (fun w60 K => X Try.prog (Builtin.len_ #[100] 3 #[v46_91]) w60 K) w59 fun v47_92 w61 =>
  gstep v43_87 false (fun w62 K => X Try.prog (binOpG .neq 3 (.tmp 90) (.tmp 92) v45_90 v47_92) w62 K) w61 fun v48_93 w63 =>
  X Try.prog (pickS v43_87 (.bool true) v48_93) w63 fun v49_94 w64 =>
  condS v49_94 (
  K (.bool false) w64) (
  X Try.prog (Builtin.len_ #[100] 3 #[(ρ7 9)]) w64 fun v50_96 w65 =>
  loopS (fun Q8 ρ8 w66 =>
  X Try.prog (binOp .lss 3 (ρ8 97) (ρ8 96)) w66 fun v51_98 w67 =>
  condS v51_98 (
  X Try.prog (Instr.indexAt 100 (ρ8 1) (ρ8 97)) w67 fun v52_102 w68 =>
  X Try.prog (Instr.fieldAt 115 v52_102 1) w68 fun v53_103 w69 =>
  B_law11_ContOwn_c3 v53_103 w69 ρ8 Q8 v52_102 v51_98) (
  Q8 (.exit 6) (upds ρ8 [(98, v51_98)]) w67)) (inBlockS 6 (thenS (fun ρ11 w95 =>
  K (ρ11 5) w95) (retS Try.prog (Try.f30).results K))) (upds ρ7 [(97, (.int .i64 0)), (96, v50_96), (95, (ρ7 9)), (94, v49_94), (93, v48_93), (92, v47_92), (91, v46_91), (90, v45_90), (89, v44_89), (88, v43_87), (87, v43_87), (86, (ρ7 10))]) w65)

def B_law11_ContOwn_c5 (K : Value → World → Prop) (x0 : Value) (x1 : Value) (v12_38 : Value) (v5_26 : Value) (v11_36 : Value) (v10_35 : Value) (v9_34 : Value) (v8_33 : Value) (v7_29 : Value) (v6_27 : Value) (v4_25 : Value) (v3_20 : Value) (v2_19 : Value) (v1_17 : Value) (w12 : World) : Prop :=
  loopS (fun Q1 ρ1 w13 =>
  X Try.prog (binOp .lss 3 (ρ1 39) (ρ1 38)) w13 fun v13_40 w14 =>
  condS v13_40 (
  X Try.prog (Instr.indexAt 27 (ρ1 6) (ρ1 39)) w14 fun v14_44 w15 =>
  X Try.prog (Instr.loadAt 5 v14_44) w15 fun v15_45 w16 =>
  X Try.prog (binOp .xor 5 v15_45 (.int .u8 255)) w16 fun v16_46 w17 =>
  X Try.prog (Instr.indexAt 27 (ρ1 6) (ρ1 39)) w17 fun v17_47 w18 =>
  XU Try.prog (Instr.storeAt 5 v17_47 v16_46) w18 fun w19 =>
  X Try.prog (binOp .add 3 (ρ1 39) (.int .i64 1)) w19 fun v18_48 w20 =>
  Q1 .normal (upds ρ1 [(39, v18_48), (48, v18_48), (47, v17_47), (46, v16_46), (45, v15_45), (44, v14_44), (43, (ρ1 39)), (42, (ρ1 6)), (11, (ρ1 39)), (41, (ρ1 39)), (40, v13_40)]) w20) (
  Q1 (.exit 0) (upds ρ1 [(40, v13_40)]) w14)) (inBlockS 0 (thenS (fun ρ2 w21 =>
  X Try.prog (Builtin.len_ #[100] 3 #[(ρ2 9)]) w21 fun v19_50 w22 =>
  loopS (fun Q3 ρ3 w23 =>
  X Try.prog (binOp .lss 3 (ρ3 51) (ρ3 50)) w23 fun v20_52 w24 =>
  condS v20_52 (
  X Try.prog (Instr.indexAt 100 (ρ3 9) (ρ3 51)) w24 fun v21_56 w25 =>
  X Try.prog (Instr.fieldAt 115 v21_56 1) w25 fun v22_57 w26 =>
  X Try.prog (Instr.loadAt 27 v22_57) w26 fun v23_58 w27 =>
  X Try.prog (Builtin.len_ #[27] 3 #[v23_58]) w27 fun v24_59 w28 =>
  B_law11_ContOwn_c1 Q3 ρ3 v24_59 v23_58 v22_57 v21_56 v20_52 w28) (
  Q3 (.exit 2) (upds ρ3 [(52, v20_52)]) w24)) (inBlockS 2 (thenS (fun ρ7 w52 =>
  X Try.prog (binOpG .neq 30 (.tmp 86) (.const (.int .i64 0)) (ρ7 10) (.int .i64 0)) w52 fun v43_87 w53 =>
  B_law11_ContOwn_c4 v43_87 K ρ7 w53) (retS Try.prog (Try.f30).results K))) (upds ρ2 [(51, (.int .i64 0)), (50, v19_50), (49, (ρ2 9))]) w22) (retS Try.prog (Try.f30).results K))) (upds (env0 #[x0, x1]) [(39, (.int .i64 0)), (38, v12_38), (37, v5_26), (10, v11_36), (9, v10_35), (8, v9_34), (36, v11_36), (35, v10_35), (34, v9_34), (31, v8_33), (33, v8_33), (32, v5_26), (29, v7_29), (28, v6_27), (7, v6_27), (6, v5_26), (27, v6_27), (26, v5_26), (22, v4_25), (25, v4_25), (24, x1), (23, x0), (20, v3_20), (19, v2_19), (18, x1), (5, v1_17), (17, v1_17), (4, (.bool false))]) w12

def B_law11_ContOwn_c6 (w : World) (x1 : Value) (K : Value → World → Prop) (x0 : Value) : Prop :=
  CALL Try.prog 85 #[] w fun v1_17 w1 =>
  CALL Try.prog 86 #[x1] w1 fun v2_19 w2 =>
  X Try.prog (Op.unary .not v2_19) w2 fun v3_20 w3 =>
  condS v3_20 (
  K v1_17 w3) (
  CALL Try.prog 87 #[x0, x1] w3 fun v4_25 w4 =>
  X Try.prog (Instr.extract v4_25 0) w4 fun v5_26 w5 =>
  X Try.prog (Instr.extract v4_25 1) w5 fun v6_27 w6 =>
  X Try.prog (binOpG .neq 30 (.tmp 28) (.const (.int .i64 0)) v6_27 (.int .i64 0)) w6 fun v7_29 w7 =>
  condS v7_29 (
  K v1_17 w7) (
  CALL Try.prog 91 #[v5_26] w7 fun v8_33 w8 =>
  X Try.prog (Instr.extract v8_33 0) w8 fun v9_34 w9 =>
  X Try.prog (Instr.extract v8_33 1) w9 fun v10_35 w10 =>
  X Try.prog (Instr.extract v8_33 2) w10 fun v11_36 w11 =>
  X Try.prog (Builtin.len_ #[27] 3 #[v5_26]) w11 fun v12_38 w12 =>
  B_law11_ContOwn_c5 K x0 x1 v12_38 v5_26 v11_36 v10_35 v9_34 v8_33 v7_29 v6_27 v4_25 v3_20 v2_19 v1_17 w12))

/-- cellarage/cellaragelaw11.ContOwn -/
def B_law11_ContOwn (x0 x1 : Value) (w : World) (K : Value → World → Prop) : Prop :=
  B_law11_ContOwn_c6 w x1 K x0

theorem eq_law11_ContOwn (x0 x1 : Value) (w : World) (K : Value → World → Prop) :
    sh Try.prog (Try.f30.body.getD .skip) (retS Try.prog Try.f30.results K) (env0 #[x0, x1]) w = B_law11_ContOwn x0 x1 w K := by kernel_rfl

theorem call_law11_ContOwn (x0 x1 : Value) (w : World) (K : Value → World → Prop) (h : B_law11_ContOwn x0 x1 w K) : CALL Try.prog 30 #[x0, x1] w K :=
  call_of_eq (c := Try.f30.body.getD .skip) mixed Try.func30 (by kernel_rfl) (by kernel_rfl) (by kernel_rfl) (Nat.le_of_ble_eq_true (by kernel_rfl)) (eq_law11_ContOwn x0 x1 w K) h

def B_law11_ContTakes_c1 (v1_17 : Value) (K : Value → World → Prop) (v18_45 : Value) (w98 : World) (v19_15 : Value) (v10_32 : Value) (x1 : Value) : Prop :=
  ∃ R, Frame? R ∧
  gstep v1_17 true (fun w122 K => K v18_45 w122) (drewW w98) fun v78_124 w123 =>
  gstep v1_17 true (fun w124 K => XP Try.prog (binOpG .eql 30 (.tmp 124) (.const (.int .i64 0)) v78_124 (.int .i64 0)) w124 K) w123 fun v79_125 w125 =>
  XP Try.prog (pickS v1_17 v79_125 (.bool false)) w125 fun v80_126 w126 =>
  gstep v80_126 true (fun w127 K => XP Try.prog (Instr.fieldAt 115 v19_15 0) w127 K) w126 fun v81_128 w128 =>
  gstep v80_126 true (fun w129 K => XR Try.prog R (Instr.loadAt 113 v81_128) w129 K) w128 fun v82_129 w130 =>
  gstep v80_126 true (fun w131 K => K v10_32 w131) w130 fun v83_130 w132 =>
  gstep v80_126 true (fun w133 K => K x1 w133) w132 fun v84_131 w134 =>
  gstep v80_126 true (fun w135 K => XP Try.prog (Instr.indexAt 100 v83_130 v84_131) w135 K) w134 fun v85_132 w136 =>
  gstep v80_126 true (fun w137 K => XP Try.prog (Instr.fieldAt 115 v85_132 0) w137 K) w136 fun v86_133 w138 =>
  gstep v80_126 true (fun w139 K => XR Try.prog R (Instr.loadAt 113 v86_133) w139 K) w138 fun v87_134 w140 =>
  gstep v80_126 true (fun w141 K => XP Try.prog (binOpG .eql 113 (.tmp 129) (.tmp 134) v82_129 v87_134) w141 K) w140 fun v88_135 w142 =>
  XP Try.prog (pickS v80_126 v88_135 (.bool false)) w142 fun v89_136 w143 =>
  gstep v89_136 true (fun w144 K => XP Try.prog (Instr.fieldAt 115 v19_15 1) w144 K) w143 fun v90_138 w145 =>
  gstep v89_136 true (fun w146 K => XR Try.prog R (Instr.loadAt 27 v90_138) w146 K) w145 fun v91_139 w147 =>
  gstep v89_136 true (fun w148 K => XR Try.prog R (convert 27 9 v91_139) w148 K) w147 fun v92_140 w149 =>
  gstep v89_136 true (fun w150 K => K v10_32 w150) w149 fun v93_141 w151 =>
  gstep v89_136 true (fun w152 K => K x1 w152) w151 fun v94_142 w153 =>
  gstep v89_136 true (fun w154 K => XP Try.prog (Instr.indexAt 100 v93_141 v94_142) w154 K) w153 fun v95_143 w155 =>
  gstep v89_136 true (fun w156 K => XP Try.prog (Instr.fieldAt 115 v95_143 1) w156 K) w155 fun v96_144 w157 =>
  gstep v89_136 true (fun w158 K => XR Try.prog R (Instr.loadAt 27 v96_144) w158 K) w157 fun v97_145 w159 =>
  gstep v89_136 true (fun w160 K => XR Try.prog R (convert 27 9 v97_145) w160 K) w159 fun v98_146 w161 =>
  gstep v89_136 true (fun w162 K => XP Try.prog (binOpG .eql 9 (.tmp 140) (.tmp 146) v92_140 v98_146) w162 K) w161 fun v99_147 w163 =>
  XP Try.prog (pickS v89_136 v99_147 (.bool false)) w163 fun v100_148 w164 =>
  K v100_148 w164

def B_law11_ContTakes_c2 (v59_98 : Value) (v63_103 : Value) (w97 : World) (v1_17 : Value) (K : Value → World → Prop) (v18_45 : Value) (v19_15 : Value) (v10_32 : Value) (x1 : Value) : Prop :=
  X Try.prog (pickS v59_98 (.bool true) v63_103) w97 fun v64_104 w98 =>
  condS v64_104 (
  gstep v1_17 true (fun w99 K => K v18_45 w99) w98 fun v65_107 w100 =>
  gstep v1_17 true (fun w101 K => X Try.prog (binOpG .eql 30 (.tmp 107) (.const (.int .i64 2)) v65_107 (.int .i64 2)) w101 K) w100 fun v66_108 w102 =>
  X Try.prog (pickS v1_17 v66_108 (.bool false)) w102 fun v67_109 w103 =>
  gstep v67_109 true (fun w104 K => X Try.prog (Instr.fieldAt 115 v19_15 1) w104 K) w103 fun v68_111 w105 =>
  gstep v67_109 true (fun w106 K => X Try.prog (Instr.loadAt 27 v68_111) w106 K) w105 fun v69_112 w107 =>
  gstep v67_109 true (fun w108 K => X Try.prog (Builtin.len_ #[27] 3 #[v69_112]) w108 K) w107 fun v70_113 w109 =>
  gstep v67_109 true (fun w110 K => X Try.prog (binOpG .eql 3 (.tmp 113) (.const (.int .i64 0)) v70_113 (.int .i64 0)) w110 K) w109 fun v71_114 w111 =>
  X Try.prog (pickS v67_109 v71_114 (.bool false)) w111 fun v72_115 w112 =>
  gstep v72_115 true (fun w113 K => X Try.prog (Instr.fieldAt 115 v19_15 0) w113 K) w112 fun v73_117 w114 =>
  gstep v72_115 true (fun w115 K => X Try.prog (Instr.loadAt 113 v73_117) w115 K) w114 fun v74_118 w116 =>
  gstep v72_115 true (fun w117 K => X Try.prog (Instr.build 113 #[]) w117 K) w116 fun v75_119 w118 =>
  gstep v72_115 true (fun w119 K => X Try.prog (binOpG .eql 113 (.tmp 118) (.tmp 119) v74_118 v75_119) w119 K) w118 fun v76_120 w120 =>
  X Try.prog (pickS v72_115 v76_120 (.bool false)) w120 fun v77_121 w121 =>
  K v77_121 w121) (
  B_law11_ContTakes_c1 v1_17 K v18_45 w98 v19_15 v10_32 x1)

def B_law11_ContTakes_c3 (v11_33 : Value) (w62 : World) (v1_17 : Value) (K : Value → World → Prop) (v18_45 : Value) (v19_15 : Value) (x1 : Value) (v10_32 : Value) : Prop :=
  X Try.prog (binOpG .neq 30 (.tmp 77) (.const (.int .i64 0)) v11_33 (.int .i64 0)) w62 fun v44_78 w63 =>
  condS v44_78 (
  gstep v1_17 true (fun w64 K => K v18_45 w64) w63 fun v45_81 w65 =>
  gstep v1_17 true (fun w66 K => K v11_33 w66) w65 fun v46_82 w67 =>
  gstep v1_17 true (fun w68 K => X Try.prog (binOpG .eql 30 (.tmp 81) (.tmp 82) v45_81 v46_82) w68 K) w67 fun v47_83 w69 =>
  X Try.prog (pickS v1_17 v47_83 (.bool false)) w69 fun v48_84 w70 =>
  gstep v48_84 true (fun w71 K => X Try.prog (Instr.fieldAt 115 v19_15 1) w71 K) w70 fun v49_86 w72 =>
  gstep v48_84 true (fun w73 K => X Try.prog (Instr.loadAt 27 v49_86) w73 K) w72 fun v50_87 w74 =>
  gstep v48_84 true (fun w75 K => X Try.prog (Builtin.len_ #[27] 3 #[v50_87]) w75 K) w74 fun v51_88 w76 =>
  gstep v48_84 true (fun w77 K => X Try.prog (binOpG .eql 3 (.tmp 88) (.const (.int .i64 0)) v51_88 (.int .i64 0)) w77 K) w76 fun v52_89 w78 =>
  X Try.prog (pickS v48_84 v52_89 (.bool false)) w78 fun v53_90 w79 =>
  gstep v53_90 true (fun w80 K => X Try.prog (Instr.fieldAt 115 v19_15 0) w80 K) w79 fun v54_92 w81 =>
  gstep v53_90 true (fun w82 K => X Try.prog (Instr.loadAt 113 v54_92) w82 K) w81 fun v55_93 w83 =>
  gstep v53_90 true (fun w84 K => X Try.prog (Instr.build 113 #[]) w84 K) w83 fun v56_94 w85 =>
  gstep v53_90 true (fun w86 K => X Try.prog (binOpG .eql 113 (.tmp 93) (.tmp 94) v55_93 v56_94) w86 K) w85 fun v57_95 w87 =>
  X Try.prog (pickS v53_90 v57_95 (.bool false)) w87 fun v58_96 w88 =>
  K v58_96 w88) (
  X Try.prog (binOp .lss 3 x1 (.int .i64 0)) w63 fun v59_98 w89 =>
  gstep v59_98 false (fun w90 K => K x1 w90) w89 fun v60_100 w91 =>
  gstep v59_98 false (fun w92 K => K v10_32 w92) w91 fun v61_101 w93 =>
  gstep v59_98 false (fun w94 K => X Try.prog (Builtin.len_ #[100] 3 #[v61_101]) w94 K) w93 fun v62_102 w95 =>
  gstep v59_98 false (fun w96 K => X Try.prog (binOp .geq 3 v60_100 v62_102) w96 K) w95 fun v63_103 w97 =>
  B_law11_ContTakes_c2 v59_98 v63_103 w97 v1_17 K v18_45 v19_15 v10_32 x1)

def B_law11_ContTakes_c4 (v29_59 : Value) (K : Value → World → Prop) (v13_37 : Value) (w37 : World) (v9_31 : Value) (v14_38 : Value) (v10_32 : Value) (v15_39 : Value) (v11_33 : Value) (v1_17 : Value) (v18_45 : Value) (v19_15 : Value) (x1 : Value) : Prop :=
  gstep v29_59 false (fun w38 K => K v13_37 w38) w37 fun v30_61 w39 =>
  gstep v29_59 false (fun w40 K => K v9_31 w40) w39 fun v31_62 w41 =>
  gstep v29_59 false (fun w42 K => X Try.prog (binOpG .neq 23 (.tmp 61) (.tmp 62) v30_61 v31_62) w42 K) w41 fun v32_63 w43 =>
  X Try.prog (pickS v29_59 (.bool true) v32_63) w43 fun v33_64 w44 =>
  gstep v33_64 false (fun w45 K => K v14_38 w45) w44 fun v34_66 w46 =>
  gstep v33_64 false (fun w47 K => K v10_32 w47) w46 fun v35_67 w48 =>
  gstep v33_64 false (fun w49 K => CALL Try.prog 97 #[v35_67] w49 K) w48 fun v36_68 w50 =>
  gstep v33_64 false (fun w51 K => CALL Try.prog 96 #[v34_66, v36_68] w51 K) w50 fun v37_69 w52 =>
  gstep v33_64 false (fun w53 K => X Try.prog (Op.unary .not v37_69) w53 K) w52 fun v38_70 w54 =>
  X Try.prog (pickS v33_64 (.bool true) v38_70) w54 fun v39_71 w55 =>
  gstep v39_71 false (fun w56 K => K v15_39 w56) w55 fun v40_73 w57 =>
  gstep v39_71 false (fun w58 K => K v11_33 w58) w57 fun v41_74 w59 =>
  gstep v39_71 false (fun w60 K => X Try.prog (binOpG .neq 30 (.tmp 73) (.tmp 74) v40_73 v41_74) w60 K) w59 fun v42_75 w61 =>
  X Try.prog (pickS v39_71 (.bool true) v42_75) w61 fun v43_76 w62 =>
  condS v43_76 (
  K (.bool false) w62) (
  B_law11_ContTakes_c3 v11_33 w62 v1_17 K v18_45 v19_15 x1 v10_32)

def B_law11_ContTakes_c5 (v12_36 : Value) (w14 : World) (x0 : Value) (x1 : Value) (v5_25 : Value) (v9_31 : Value) (K : Value → World → Prop) (v6_26 : Value) (v10_32 : Value) (v7_27 : Value) (v11_33 : Value) (v13_37 : Value) (v14_38 : Value) (v1_17 : Value) : Prop :=
  X Try.prog (Instr.extract v12_36 2) w14 fun v15_39 w15 =>
  CALL Try.prog 95 #[x0, x1] w15 fun v16_43 w16 =>
  X Try.prog (Instr.extract v16_43 0) w16 fun v17_44 w17 =>
  X Try.prog (Instr.extract v16_43 1) w17 fun v18_45 w18 =>
  X Try.prog (Instr.alloc 115 true (.tuple #[])) w18 fun v19_15 w19 =>
  XU Try.prog (Instr.storeAt 115 v19_15 v17_44) w19 fun w20 =>
  X Try.prog (binOpG .neq 23 (.tmp 46) (.tmp 47) v5_25 v9_31) w20 fun v20_48 w21 =>
  gstep v20_48 false (fun w22 K => K v6_26 w22) w21 fun v21_50 w23 =>
  gstep v20_48 false (fun w24 K => K v10_32 w24) w23 fun v22_51 w25 =>
  gstep v20_48 false (fun w26 K => CALL Try.prog 92 #[v21_50, v22_51] w26 K) w25 fun v23_52 w27 =>
  gstep v20_48 false (fun w28 K => X Try.prog (Op.unary .not v23_52) w28 K) w27 fun v24_53 w29 =>
  X Try.prog (pickS v20_48 (.bool true) v24_53) w29 fun v25_54 w30 =>
  gstep v25_54 false (fun w31 K => K v7_27 w31) w30 fun v26_56 w32 =>
  gstep v25_54 false (fun w33 K => K v11_33 w33) w32 fun v27_57 w34 =>
  gstep v25_54 false (fun w35 K => X Try.prog (binOpG .neq 30 (.tmp 56) (.tmp 57) v26_56 v27_57) w35 K) w34 fun v28_58 w36 =>
  X Try.prog (pickS v25_54 (.bool true) v28_58) w36 fun v29_59 w37 =>
  B_law11_ContTakes_c4 v29_59 K v13_37 w37 v9_31 v14_38 v10_32 v15_39 v11_33 v1_17 v18_45 v19_15 x1

def B_law11_ContTakes_c6 (w : World) (x0 : Value) (K : Value → World → Prop) (x1 : Value) : Prop :=
  CALL Try.prog 85 #[] w fun v1_17 w1 =>
  X Try.prog (Builtin.len_ #[27] 3 #[x0]) w1 fun v2_19 w2 =>
  X Try.prog (binOp .gtr 3 v2_19 (.int .i64 100000)) w2 fun v3_20 w3 =>
  condS v3_20 (
  K v1_17 w3) (
  CALL Try.prog 91 #[x0] w3 fun v4_24 w4 =>
  X Try.prog (Instr.extract v4_24 0) w4 fun v5_25 w5 =>
  X Try.prog (Instr.extract v4_24 1) w5 fun v6_26 w6 =>
  X Try.prog (Instr.extract v4_24 2) w6 fun v7_27 w7 =>
  CALL Try.prog 93 #[x0] w7 fun v8_30 w8 =>
  X Try.prog (Instr.extract v8_30 0) w8 fun v9_31 w9 =>
  X Try.prog (Instr.extract v8_30 1) w9 fun v10_32 w10 =>
  X Try.prog (Instr.extract v8_30 2) w10 fun v11_33 w11 =>
  CALL Try.prog 94 #[x0] w11 fun v12_36 w12 =>
  X Try.prog (Instr.extract v12_36 0) w12 fun v13_37 w13 =>
  X Try.prog (Instr.extract v12_36 1) w13 fun v14_38 w14 =>
  B_law11_ContTakes_c5 v12_36 w14 x0 x1 v5_25 v9_31 K v6_26 v10_32 v7_27 v11_33 v13_37 v14_38 v1_17)

/-- cellarage/cellaragelaw11.ContTakes -/
def B_law11_ContTakes (x0 x1 : Value) (w : World) (K : Value → World → Prop) : Prop :=
  B_law11_ContTakes_c6 w x0 K x1

theorem eq_law11_ContTakes (x0 x1 : Value) (w : World) (K : Value → World → Prop) :
    sh Try.prog (Try.f31.body.getD .skip) (retS Try.prog Try.f31.results K) (env0 #[x0, x1]) w = B_law11_ContTakes x0 x1 w K := by kernel_rfl

theorem call_law11_ContTakes (x0 x1 : Value) (w : World) (K : Value → World → Prop) (h : B_law11_ContTakes x0 x1 w K) : CALL Try.prog 31 #[x0, x1] w K :=
  call_of_eq (c := Try.f31.body.getD .skip) mixed Try.func31 (by kernel_rfl) (by kernel_rfl) (by kernel_rfl) (Nat.le_of_ble_eq_true (by kernel_rfl)) (eq_law11_ContTakes x0 x1 w K) h

def B_law11_shown_c1 (v8_16 : Value) (v11_20 : Value) (w14 : World) (K : Value → World → Prop) (v2_8 : Value) (v7_14 : Value) : Prop :=
  X Try.prog (pickS v8_16 v11_20 (.bool false)) w14 fun v12_21 w15 =>
  gstep v12_21 true (fun w16 K => K v2_8 w16) w15 fun v13_23 w17 =>
  gstep v12_21 true (fun w18 K => X Try.prog (Instr.sliceAt 27 v13_23 none (some (.int .i64 6)) none) w18 K) w17 fun v14_24 w19 =>
  gstep v12_21 true (fun w20 K => X Try.prog (convert 27 9 v14_24) w20 K) w19 fun v15_25 w21 =>
  gstep v12_21 true (fun w22 K => X Try.prog (binOpG .eql 9 (.tmp 25) (.const (.string { data := #[0, 0, 0, 7, 0, 0] })) v15_25 (.string { data := #[0, 0, 0, 7, 0, 0] })) w22 K) w21 fun v16_26 w23 =>
  X Try.prog (pickS v12_21 v16_26 (.bool false)) w23 fun v17_27 w24 =>
  gstep v17_27 true (fun w25 K => K v7_14 w25) w24 fun v18_29 w26 =>
  gstep v17_27 true (fun w27 K => X Try.prog (binOpG .eql 30 (.tmp 29) (.const (.int .i64 110)) v18_29 (.int .i64 110)) w27 K) w26 fun v19_30 w28 =>
  X Try.prog (pickS v17_27 v19_30 (.bool false)) w28 fun v20_31 w29 =>
  gstep v20_31 true (fun w30 K => X Try.prog (Instr.buildSlice 27 3 #[(0, (.int .u8 97)), (1, (.int .u8 98)), (2, (.int .u8 99))]) w30 K) w29 fun v21_33 w31 =>
  gstep v20_31 true (fun w32 K => X Try.prog (convert 27 27 v21_33) w32 K) w31 fun v22_34 w33 =>
  gstep v20_31 true (fun w34 K => X Try.prog (Instr.build 115 #[(1, v22_34)]) w34 K) w33 fun v23_35 w35 =>
  gstep v20_31 true (fun w36 K => X Try.prog (Instr.buildSlice 100 1 #[(0, v23_35)]) w36 K) w35 fun v24_36 w37 =>
  gstep v20_31 true (fun w38 K => CALL Try.prog 89 #[v24_36] w38 K) w37 fun v25_37 w39 =>
  gstep v20_31 true (fun w40 K => X Try.prog (binOpG .eql 3 (.tmp 37) (.const (.int .i64 51)) v25_37 (.int .i64 51)) w40 K) w39 fun v26_38 w41 =>
  X Try.prog (pickS v20_31 v26_38 (.bool false)) w41 fun v27_39 w42 =>
  K v27_39 w42

/-- cellarage/cellaragelaw11.shown -/
def B_law11_shown (w : World) (K : Value → World → Prop) : Prop :=
  CALL Try.prog 87 #[(.int .u32 7), (.slice none 0 0)] w fun v1_7 w1 =>
  X Try.prog (Instr.extract v1_7 0) w1 fun v2_8 w2 =>
  X Try.prog (Instr.extract v1_7 1) w2 fun v3_9 w3 =>
  CALL Try.prog 91 #[(.slice none 0 0)] w3 fun v4_11 w4 =>
  X Try.prog (Instr.extract v4_11 0) w4 fun v5_12 w5 =>
  X Try.prog (Instr.extract v4_11 1) w5 fun v6_13 w6 =>
  X Try.prog (Instr.extract v4_11 2) w6 fun v7_14 w7 =>
  X Try.prog (binOpG .eql 30 (.tmp 15) (.const (.int .i64 0)) v3_9 (.int .i64 0)) w7 fun v8_16 w8 =>
  gstep v8_16 true (fun w9 K => K v2_8 w9) w8 fun v9_18 w10 =>
  gstep v8_16 true (fun w11 K => X Try.prog (Builtin.len_ #[27] 3 #[v9_18]) w11 K) w10 fun v10_19 w12 =>
  gstep v8_16 true (fun w13 K => X Try.prog (binOpG .eql 3 (.tmp 19) (.const (.int .i64 10)) v10_19 (.int .i64 10)) w13 K) w12 fun v11_20 w14 =>
  B_law11_shown_c1 v8_16 v11_20 w14 K v2_8 v7_14

theorem eq_law11_shown (w : World) (K : Value → World → Prop) :
    sh Try.prog (Try.f85.body.getD .skip) (retS Try.prog Try.f85.results K) (env0 #[]) w = B_law11_shown  w K := by kernel_rfl

theorem call_law11_shown (w : World) (K : Value → World → Prop) (h : B_law11_shown  w K) : CALL Try.prog 85 #[] w K :=
  call_of_eq (c := Try.f85.body.getD .skip) mixed Try.func85 (by kernel_rfl) (by kernel_rfl) (by kernel_rfl) (Nat.le_of_ble_eq_true (by kernel_rfl)) (eq_law11_shown  w K) h

end Go.Proofs.Ytggggfcgnkllgaa
end
section
/- The reference's container; light. -/
set_option linter.unusedVariables false
set_option linter.unusedSimpArgs false
namespace Go.Proofs.Ytggggfcgnkllgaa
open Go Go.Sh Go.RowKit
attribute [local irreducible] X XU XP XR CALL loopS resC closS
section
variable {w : World} {K : Value → World → Prop}
/-- append of bytes to a row of the call's own: what else there is stays. -/
theorem X_app27 {base : Nat} {U : TypeId} {v : Value} {xs : List UInt8} {wr : World} (hx : Ext w wr) (hbs : base = w.heap.size) (hown : wr.ownsRow base 5 1 v xs.length (B8 xs)) {x : Value} {bs : List UInt8} (hb : Bts wr x bs) (hle : xs.length + bs.length ≤ 140737488355328)
    (h : ∀ v' w1, Ext w w1 → w1.ownsRow base 5 1 v' (xs ++ bs).length (B8 (xs ++ bs)) → K v' w1) : X Try.prog (Builtin.append_ #[27, 27] U #[v, x]) wr K := by
  subst hbs
  refine X_append_btsW Try.underlying27 el_5 hown hb hle hx.size ?_
  intro v' w1 ho hk _
  refine h v' w1 (Ext.seq hx hk (fun k hk => (hown.lt k hk.symm).1)) ?_
  rw [List.length_append]
  exact ho
set_option maxHeartbeats 1000000 in
theorem RLay_spec {id : Nat} {v : Value} {l : List Pc} (hid : id < 4294967296) (hl : RowK 34 Pc.cs w v l) (hin : ∀ c ∈ l, c.In w) (hT : 38 * l.length + totB (pl l) ≤ 1000000000000)
    (h0 : chk (pl l) ≠ 0 → ∀ w1, Ext w w1 → K (.tuple #[.slice none 0 0, i64v (chk (pl l))]) w1)
    (h1 : chk (pl l) = 0 → ∀ u w1, Ext w w1 → w1.ownsRow w.heap.size 5 1 u (layP id (pl l)).length (B8 (layP id (pl l))) → K (.tuple #[u, i64v 0]) w1) : CALL Try.prog 88 #[.int .u32 (id : Int), v] w K := by
  obtain ⟨a, c, ev⟩ := hl.slice
  have hll : (pl l).length = l.length := by simp
  apply call_ref11_Lay
  unfold B_ref11_Lay
  refine Refused_spec hl hin hT ?_
  intro w1 hx1
  (repeat (simp only [XP_extract0, XP_extract1, XP_extract2, XP_extract3, X_extract0, X_extract1, X_extract2, X_extract3, X_nilS, X_eql_nil_74, X_neq_nil_74, X_eql_nil_124, X_neq_nil_124, X_eql, X_neq, X_lss, X_leq, X_gtr, X_geq, X_not, X_min, X_max, X_len_27, X_len_9, X_len_79, XP_nilS, XP_eql, XP_neq, XP_lss, XP_leq, XP_gtr, XP_geq, XP_not, XP_min, XP_max, XP_len_27, XP_len_9, XP_eql_nil_74, X_str_eql, X_str_neq, XP_str_eql, XP_str_neq, GS, gs_u, decide_true, decide_false, Option.isNone_some, Option.isSome_some, Option.isNone_none, Option.isSome_none, eq_self, Bool.not_true, Bool.not_false, Int.reduceEq, Int.reduceNe, Int.reduceLT, Int.reduceLE, Int.reduceGT, Int.reduceGE]))
  by_cases hc : chk (pl l) = 0
  case neg =>
    have c : decide (chk (pl l) ≠ 0) = true := by simpa using hc
    (repeat (simp only [XP_extract0, XP_extract1, XP_extract2, XP_extract3, X_extract0, X_extract1, X_extract2, X_extract3, X_nilS, X_eql_nil_74, X_neq_nil_74, X_eql_nil_124, X_neq_nil_124, X_eql, X_neq, X_lss, X_leq, X_gtr, X_geq, X_not, X_min, X_max, X_len_27, X_len_9, X_len_79, XP_nilS, XP_eql, XP_neq, XP_lss, XP_leq, XP_gtr, XP_geq, XP_not, XP_min, XP_max, XP_len_27, XP_len_9, XP_eql_nil_74, X_str_eql, X_str_neq, XP_str_eql, XP_str_neq, GS, gs_u, decide_true, decide_false, Option.isNone_some, Option.isSome_some, Option.isNone_none, Option.isSome_none, eq_self, Bool.not_true, Bool.not_false, Int.reduceEq, Int.reduceNe, Int.reduceLT, Int.reduceLE, Int.reduceGT, Int.reduceGE, c]))
    exact h0 hc _ hx1
  have c : decide (chk (pl l) ≠ 0) = false := by simp [hc]
  (repeat (simp only [XP_extract0, XP_extract1, XP_extract2, XP_extract3, X_extract0, X_extract1, X_extract2, X_extract3, X_nilS, X_eql_nil_74, X_neq_nil_74, X_eql_nil_124, X_neq_nil_124, X_eql, X_neq, X_lss, X_leq, X_gtr, X_geq, X_not, X_min, X_max, X_len_27, X_len_9, X_len_79, XP_nilS, XP_eql, XP_neq, XP_lss, XP_leq, XP_gtr, XP_geq, XP_not, XP_min, XP_max, XP_len_27, XP_len_9, XP_eql_nil_74, X_str_eql, X_str_neq, XP_str_eql, XP_str_neq, GS, gs_u, decide_true, decide_false, Option.isNone_some, Option.isSome_some, Option.isNone_none, Option.isSome_none, eq_self, Bool.not_true, Bool.not_false, Int.reduceEq, Int.reduceNe, Int.reduceLT, Int.reduceLE, Int.reduceGT, Int.reduceGE, c]))
  obtain ⟨k1, k2, k3, k4, k5⟩ := chk_ok hc
  rw [hll] at k2
  have ktot : totB (pl l) ≤ 65536 := by unfold sizeP at k4; omega
  rw [X_conv_23_22, cw64 (by omega)]
  refine RPut_spec (by omega) ?_
  intro v2 w2 hx2 ho2
  rw [putB_4] at ho2
  rw [ev]
  (repeat (simp only [XP_extract0, XP_extract1, XP_extract2, XP_extract3, X_extract0, X_extract1, X_extract2, X_extract3, X_nilS, X_eql_nil_74, X_neq_nil_74, X_eql_nil_124, X_neq_nil_124, X_eql, X_neq, X_lss, X_leq, X_gtr, X_geq, X_not, X_min, X_max, X_len_27, X_len_9, X_len_79, XP_nilS, XP_eql, XP_neq, XP_lss, XP_leq, XP_gtr, XP_geq, XP_not, XP_min, XP_max, XP_len_27, XP_len_9, XP_eql_nil_74, X_str_eql, X_str_neq, XP_str_eql, XP_str_neq, GS, gs_u, decide_true, decide_false, Option.isNone_some, Option.isSome_some, Option.isNone_none, Option.isSome_none, eq_self, Bool.not_true, Bool.not_false, Int.reduceEq, Int.reduceNe, Int.reduceLT, Int.reduceLE, Int.reduceGT, Int.reduceGE, X_len_100]))
  rw [X_conv_3_22, cw64 (by omega), ← ev]
  refine RPut_spec (by omega) ?_
  intro v3 w3 hx3 ho3
  rw [putB_2] at ho3
  have hx03 : Ext w w3 := (hx1.trans hx2).trans hx3
  refine X_app27 hx03 rfl (own_extD (own_mono ho2 hx1.size) hx3) (own_bts ho3).1 (by simp) ?_
  intro v4 w4 hx4 ho4
  refine loopE (fun ρ wr => ∃ (i : Nat) (vb : Value), i ≤ l.length ∧ Ext w wr ∧ wr.ownsRow w.heap.size 5 1 vb (be 4 id ++ be 2 l.length ++ rowsP ((pl l).take i)).length (B8 (be 4 id ++ be 2 l.length ++ rowsP ((pl l).take i))) ∧ ρ 8 = .int .i64 (i : Int) ∧ ρ 1 = v ∧ ρ 7 = vb)
    (fun ρ wr => match ρ 8 with | .int _ s => (l.length - s).toNat | _ => 0)
    (fun ρ wr => ∃ (vb : Value), Ext w wr ∧ wr.ownsRow w.heap.size 5 1 vb (be 4 id ++ be 2 l.length ++ rowsP (pl l)).length (B8 (be 4 id ++ be 2 l.length ++ rowsP (pl l))) ∧ ρ 1 = v ∧ ρ 7 = vb) ?_ ?_ ?_
  · refine ⟨0, v4, by omega, hx4, ?_, rfl, rfl, rfl⟩
    have e : be 4 id ++ be 2 l.length ++ rowsP ((pl l).take 0) = be 4 id ++ be 2 l.length := by rw [List.take_zero]; exact List.append_nil _
    rw [e]
    exact ho4
  · rintro J hJ ρ wr ⟨i, vb, hi, hx, ho, r8, r1, r7⟩
    rw [r8, r1, r7, ev, X_len_100, X_lss, condS_bool, ← ev]
    by_cases hie : i = l.length
    · rw [if_neg (by simp; omega)]
      rw [hie, List.take_of_length_le (by rw [hll]; exact Nat.le_refl _)] at ho
      exact hJ _ _ ⟨vb, hx, ho, r1, r7⟩
    rw [if_pos (by simp; omega)]
    have hlt : i < l.length := by omega
    have hltp : i < (pl l).length := by rw [hll]; exact hlt
    have hget : (pl l)[i]'hltp = l[i].p := by simp
    have s1 := rowsP_succ (pl l) i hltp
    have hmem : l[i].p ∈ pl l := List.mem_map.2 ⟨_, List.getElem_mem hlt, rfl⟩
    have hble := k3 _ hmem
    rw [hget] at s1
    have hlr : (rowsP ((pl l).take i)).length ≤ 38 * 1000 := by rw [rowsP_len, List.length_take]; omega
    have hslen : l[i].p.k.sum.length = 32 := l[i].p.k.len
    refine X_sumAt (hl.ext hx) hlt ?_
    intro u1 u2 u3 u4 hb4
    refine X_app27 hx rfl ho hb4 (by simp only [List.length_append, be_length]; omega) ?_
    intro v5 w5 hx5 ho5
    refine X_numAt (hl.ext hx5) hlt ?_
    intro z1 z2 z3
    have hnum := l[i].p.k.lt
    rw [X_conv_23_22, cw64 (by omega)]
    refine RPut_spec (by omega) ?_
    intro v6 w6 hx6 ho6
    rw [putB_4] at ho6
    refine X_app27 (hx5.trans hx6) rfl (own_extD ho5 hx6) (own_bts ho6).1 (by simp only [List.length_append, be_length]; omega) ?_
    intro v7 w7 hx7 ho7
    refine X_dataAt (hl.ext hx7) hlt ?_
    intro y1 y2
    have hA := hin _ (List.getElem_mem hlt)
    generalize l[i] = A at s1 hA hble hnum hslen ho7 ⊢
    obtain ⟨aA, cA, eA⟩ := Bts.slice hA
    rw [eA, X_len_27, X_conv_3_22, cw64 (by omega)]
    refine RPut_spec (by omega) ?_
    intro v8 w8 hx8 ho8
    rw [putB_2] at ho8
    refine X_app27 (hx7.trans hx8) rfl (own_extD ho7 hx8) (own_bts ho8).1 (by simp only [List.length_append, be_length]; omega) ?_
    intro v9 w9 hx9 ho9
    rw [X_add]
    show _ ∧ _
    refine ⟨⟨i + 1, v9, by omega, hx9, ?_, next64 (n := 1000) (by decide) (by omega), r1, rfl⟩, ?_⟩
    · rw [s1]
      have e : be 4 id ++ be 2 l.length ++ rowsP ((pl l).take i) ++ A.p.k.sum ++ be 4 A.p.k.num ++ be 2 A.p.bs.length = be 4 id ++ be 2 l.length ++ (rowsP ((pl l).take i) ++ rowP A.p) := by
        unfold rowP
        simp only [List.append_assoc]
      rw [← e]
      exact ho9
    · show (_ - IntKind.i64.wrap _).toNat < _
      rw [w64 (by omega) (by omega)]
      first | omega | (show _ < (_ : Int).toNat; omega)
  · rintro ρ wr ⟨vb, hx, ho, r1, r7⟩
    have hlr : (rowsP (pl l)).length ≤ 38 * 1000 := by rw [rowsP_len, hll]; omega
    refine loopE (fun ρ wr => ∃ (i : Nat) (vb : Value), i ≤ l.length ∧ Ext w wr ∧ wr.ownsRow w.heap.size 5 1 vb (be 4 id ++ be 2 l.length ++ rowsP (pl l) ++ dataP ((pl l).take i)).length (B8 (be 4 id ++ be 2 l.length ++ rowsP (pl l) ++ dataP ((pl l).take i))) ∧ ρ 9 = .int .i64 (i : Int) ∧ ρ 1 = v ∧ ρ 7 = vb)
      (fun ρ wr => match ρ 9 with | .int _ s => (l.length - s).toNat | _ => 0)
      (fun ρ wr => ∃ (vb : Value), Ext w wr ∧ wr.ownsRow w.heap.size 5 1 vb (bodyP id (pl l)).length (B8 (bodyP id (pl l))) ∧ ρ 7 = vb) ?_ ?_ ?_
    · refine ⟨0, vb, by omega, hx, ?_, rfl, r1, r7⟩
      have e : be 4 id ++ be 2 l.length ++ rowsP (pl l) ++ dataP ((pl l).take 0) = be 4 id ++ be 2 l.length ++ rowsP (pl l) := by rw [List.take_zero]; exact List.append_nil _
      rw [e]
      exact ho
    · rintro J hJ ρ wr ⟨i, vb, hi, hx, ho, r9, r1, r7⟩
      rw [r9, r1, r7, ev, X_len_100, X_lss, condS_bool, ← ev]
      by_cases hie : i = l.length
      · rw [if_neg (by simp; omega)]
        rw [hie, List.take_of_length_le (by rw [hll]; exact Nat.le_refl _)] at ho
        have e : be 4 id ++ be 2 l.length ++ rowsP (pl l) ++ dataP (pl l) = bodyP id (pl l) := by
          unfold bodyP
          rw [hll]
        rw [e] at ho
        exact hJ _ _ ⟨vb, hx, ho, r7⟩
      rw [if_pos (by simp; omega)]
      have hlt : i < l.length := by omega
      have hltp : i < (pl l).length := by rw [hll]; exact hlt
      have hget : (pl l)[i]'hltp = l[i].p := by simp
      have s1 := dataP_succ (pl l) i hltp
      have hld : (dataP ((pl l).take i)).length ≤ 65536 := by rw [dataP_len]; have := totB_take_le (pl l) i; omega
      have hble := k3 _ (List.mem_map.2 ⟨_, List.getElem_mem hlt, rfl⟩ : l[i].p ∈ pl l)
      rw [hget] at s1
      refine X_dataAt (hl.ext hx) hlt ?_
      intro y1 y2
      have hA := (hin _ (List.getElem_mem hlt)).ext hx
      generalize l[i] = A at s1 hA hble ⊢
      refine X_app27 hx rfl ho hA (by simp only [List.length_append, be_length]; omega) ?_
      intro v9 w9 hx9 ho9
      rw [X_add]
      show _ ∧ _
      refine ⟨⟨i + 1, v9, by omega, hx9, ?_, next64 (n := 1000) (by decide) (by omega), r1, rfl⟩, ?_⟩
      · rw [s1, ← List.append_assoc]
        exact ho9
      · show (_ - IntKind.i64.wrap _).toNat < _
        rw [w64 (by omega) (by omega)]
        first | omega | (show _ < (_ : Int).toNat; omega)
    · rintro ρ wr ⟨vb, hx, ho, r7⟩
      rw [r7]
      refine RSeal_spec (own_bts ho).1 (by rw [bodyP_len, hll]; omega) ?_
      intro v8 w8 hx8 ho8
      exact h1 hc v8 w8 (hx.trans hx8) (own_mono ho8 hx.size)
/-- light: no more than 1100 pieces, of no more than 100000 bytes. -/
def lightP (l : List Pp) : Prop := l.length ≤ 1100 ∧ totB l ≤ 100000
instance (l : List Pp) : Decidable (lightP l) := inferInstanceAs (Decidable (_ ∧ _))
theorem totB_take_all (l : List Pp) : totB (l.take l.length) = totB l := by rw [List.take_length]
theorem Light_spec {v : Value} {l : List Pc} (hl : RowK 34 Pc.cs w v l) (hin : ∀ c ∈ l, c.In w) (hK : K (.bool (decide (lightP (pl l)))) w) : CALL Try.prog 86 #[v] w K := by
  obtain ⟨a, c, ev⟩ := hl.slice
  have hll : (pl l).length = l.length := by simp
  have hcap := run_idx_cap hl
  have no : ¬ lightP (pl l) → K (.bool false) w := fun h => by rw [decide_eq_false h] at hK; exact hK
  have yes : lightP (pl l) → K (.bool true) w := fun h => by rw [decide_eq_true h] at hK; exact hK
  apply call_law11_light
  unfold B_law11_light
  rw [ev, X_len_100, ← ev]
  refine loopE (fun ρ wr => ∃ i : Nat, i ≤ l.length ∧ i ≤ 1100 ∧ wr = w ∧ totB ((pl l).take i) ≤ 100000 ∧ ρ 7 = .int .i64 (i : Int) ∧ ρ 6 = .int .i64 (l.length : Int) ∧ ρ 0 = v ∧ ρ 3 = .int .i64 (100000 - (totB ((pl l).take i) : Int)))
    (fun ρ wr => match ρ 7 with | .int _ s => (l.length - s).toNat | _ => 0)
    (fun ρ wr => wr = w ∧ lightP (pl l)) ?_ ?_ ?_
  · exact ⟨0, by omega, by omega, rfl, by rw [List.take_zero]; decide, rfl, rfl, rfl, rfl⟩
  · rintro J hJ ρ wr ⟨i, hi, hi2, rfl, ht, r7, r6, r0, r3⟩
    rw [r7, r6, r0, r3, X_lss, condS_bool]
    by_cases hie : i = l.length
    · rw [if_neg (by simp; omega)]
      rw [hie, ← hll, totB_take_all] at ht
      exact hJ _ _ ⟨rfl, by rw [hll]; omega, ht⟩
    rw [if_pos (by simp; omega)]
    have hlt : i < l.length := by omega
    rw [X_geq]
    by_cases h11 : i = 1100
    · have c : decide ((i : Int) ≥ 1100) = true := by simp; omega
      (repeat (simp only [XP_extract0, XP_extract1, XP_extract2, XP_extract3, X_extract0, X_extract1, X_extract2, X_extract3, X_nilS, X_eql_nil_74, X_neq_nil_74, X_eql_nil_124, X_neq_nil_124, X_eql, X_neq, X_lss, X_leq, X_gtr, X_geq, X_not, X_min, X_max, X_len_27, X_len_9, X_len_79, XP_nilS, XP_eql, XP_neq, XP_lss, XP_leq, XP_gtr, XP_geq, XP_not, XP_min, XP_max, XP_len_27, XP_len_9, XP_eql_nil_74, X_str_eql, X_str_neq, XP_str_eql, XP_str_neq, GS, gs_u, decide_true, decide_false, Option.isNone_some, Option.isSome_some, Option.isNone_none, Option.isSome_none, eq_self, Bool.not_true, Bool.not_false, Int.reduceEq, Int.reduceNe, Int.reduceLT, Int.reduceLE, Int.reduceGT, Int.reduceGE, c]))
      show K (.bool false) wr
      refine no (fun h => ?_)
      have := h.1
      omega
    have c : decide ((i : Int) ≥ 1100) = false := by simp; omega
    (repeat (simp only [XP_extract0, XP_extract1, XP_extract2, XP_extract3, X_extract0, X_extract1, X_extract2, X_extract3, X_nilS, X_eql_nil_74, X_neq_nil_74, X_eql_nil_124, X_neq_nil_124, X_eql, X_neq, X_lss, X_leq, X_gtr, X_geq, X_not, X_min, X_max, X_len_27, X_len_9, X_len_79, XP_nilS, XP_eql, XP_neq, XP_lss, XP_leq, XP_gtr, XP_geq, XP_not, XP_min, XP_max, XP_len_27, XP_len_9, XP_eql_nil_74, X_str_eql, X_str_neq, XP_str_eql, XP_str_neq, GS, gs_u, decide_true, decide_false, Option.isNone_some, Option.isSome_some, Option.isNone_none, Option.isSome_none, eq_self, Bool.not_true, Bool.not_false, Int.reduceEq, Int.reduceNe, Int.reduceLT, Int.reduceLE, Int.reduceGT, Int.reduceGE, c]))
    have hts := totB_take_succ (pl l) i (by simpa using hlt)
    have hle := totB_take_le (pl l) (i + 1)
    have hget : (pl l)[i]'(by simpa using hlt) = l[i].p := by simp
    rw [hget] at hts
    refine X_dataAt hl hlt ?_
    intro u1 u2
    have hd := fun (K : Value → Value → Value → World → Prop) (hK : ∀ v1 v2, K v1 v2 l[i].dv wr) => X_dataAt (K := K) hl hlt hK
    have hA := hin _ (List.getElem_mem hlt)
    generalize l[i] = A at hts hA hd
    obtain ⟨aA, cA, eA⟩ := Bts.slice hA
    have hAl : A.p.bs.length ≤ 9223372036854775807 := by
      obtain ⟨_, _, _, g1, g2, _⟩ := hA
      omega
    rw [eA]
    (repeat (simp only [XP_extract0, XP_extract1, XP_extract2, XP_extract3, X_extract0, X_extract1, X_extract2, X_extract3, X_nilS, X_eql_nil_74, X_neq_nil_74, X_eql_nil_124, X_neq_nil_124, X_eql, X_neq, X_lss, X_leq, X_gtr, X_geq, X_not, X_min, X_max, X_len_27, X_len_9, X_len_79, XP_nilS, XP_eql, XP_neq, XP_lss, XP_leq, XP_gtr, XP_geq, XP_not, XP_min, XP_max, XP_len_27, XP_len_9, XP_eql_nil_74, X_str_eql, X_str_neq, XP_str_eql, XP_str_neq, GS, gs_u, decide_true, decide_false, Option.isNone_some, Option.isSome_some, Option.isNone_none, Option.isSome_none, eq_self, Bool.not_true, Bool.not_false, Int.reduceEq, Int.reduceNe, Int.reduceLT, Int.reduceLE, Int.reduceGT, Int.reduceGE]))
    by_cases hgt : totB ((pl l).take i) + A.p.bs.length ≤ 100000
    · have c2 : decide ((A.p.bs.length : Int) > 100000 - (totB ((pl l).take i) : Int)) = false := by simp; omega
      (repeat (simp only [XP_extract0, XP_extract1, XP_extract2, XP_extract3, X_extract0, X_extract1, X_extract2, X_extract3, X_nilS, X_eql_nil_74, X_neq_nil_74, X_eql_nil_124, X_neq_nil_124, X_eql, X_neq, X_lss, X_leq, X_gtr, X_geq, X_not, X_min, X_max, X_len_27, X_len_9, X_len_79, XP_nilS, XP_eql, XP_neq, XP_lss, XP_leq, XP_gtr, XP_geq, XP_not, XP_min, XP_max, XP_len_27, XP_len_9, XP_eql_nil_74, X_str_eql, X_str_neq, XP_str_eql, XP_str_neq, GS, gs_u, decide_true, decide_false, Option.isNone_some, Option.isSome_some, Option.isNone_none, Option.isSome_none, eq_self, Bool.not_true, Bool.not_false, Int.reduceEq, Int.reduceNe, Int.reduceLT, Int.reduceLE, Int.reduceGT, Int.reduceGE, c2]))
      refine hd _ ?_
      intro u3 u4
      rw [eA]
      (repeat (simp only [XP_extract0, XP_extract1, XP_extract2, XP_extract3, X_extract0, X_extract1, X_extract2, X_extract3, X_nilS, X_eql_nil_74, X_neq_nil_74, X_eql_nil_124, X_neq_nil_124, X_eql, X_neq, X_lss, X_leq, X_gtr, X_geq, X_not, X_min, X_max, X_len_27, X_len_9, X_len_79, XP_nilS, XP_eql, XP_neq, XP_lss, XP_leq, XP_gtr, XP_geq, XP_not, XP_min, XP_max, XP_len_27, XP_len_9, XP_eql_nil_74, X_str_eql, X_str_neq, XP_str_eql, XP_str_neq, GS, gs_u, decide_true, decide_false, Option.isNone_some, Option.isSome_some, Option.isNone_none, Option.isSome_none, eq_self, Bool.not_true, Bool.not_false, Int.reduceEq, Int.reduceNe, Int.reduceLT, Int.reduceLE, Int.reduceGT, Int.reduceGE]))
      rw [X_sub, w64 (by omega) (by omega), X_add]
      show _ ∧ _
      refine ⟨⟨i + 1, by omega, by omega, rfl, by omega, next64 (n := 1000000000000) (by decide) (by omega), r6, r0, ?_⟩, ?_⟩
      · show Value.int .i64 _ = _
        congr 1
        omega
      · show (_ - IntKind.i64.wrap _).toNat < _
        rw [w64 (by omega) (by omega)]
        first | omega | (show _ < (_ : Int).toNat; omega)
    · have c2 : decide ((A.p.bs.length : Int) > 100000 - (totB ((pl l).take i) : Int)) = true := by simp; omega
      (repeat (simp only [XP_extract0, XP_extract1, XP_extract2, XP_extract3, X_extract0, X_extract1, X_extract2, X_extract3, X_nilS, X_eql_nil_74, X_neq_nil_74, X_eql_nil_124, X_neq_nil_124, X_eql, X_neq, X_lss, X_leq, X_gtr, X_geq, X_not, X_min, X_max, X_len_27, X_len_9, X_len_79, XP_nilS, XP_eql, XP_neq, XP_lss, XP_leq, XP_gtr, XP_geq, XP_not, XP_min, XP_max, XP_len_27, XP_len_9, XP_eql_nil_74, X_str_eql, X_str_neq, XP_str_eql, XP_str_neq, GS, gs_u, decide_true, decide_false, Option.isNone_some, Option.isSome_some, Option.isNone_none, Option.isSome_none, eq_self, Bool.not_true, Bool.not_false, Int.reduceEq, Int.reduceNe, Int.reduceLT, Int.reduceLE, Int.reduceGT, Int.reduceGE, c2]))
      show K (.bool false) wr
      refine no (fun h => ?_)
      have := h.2
      omega
  · rintro ρ wr ⟨rfl, h⟩
    exact yes h
end
end Go.Proofs.Ytggggfcgnkllgaa
end
section
/- Literals of keys and of pieces; what opens not is not taken. -/
set_option linter.unusedVariables false
set_option linter.unusedSimpArgs false
namespace Go.Proofs.Ytggggfcgnkllgaa
open Go Go.Sh Go.RowKit
attribute [local irreducible] X XU XP XR CALL loopS resC closS
abbrev z115 : List Value := List.replicate 32 (Value.int .u8 0) ++ [Value.int .u32 0] ++ [Value.slice none 0 0]
theorem B8_rep (n : Nat) : B8 (List.replicate n 0) = List.replicate n (Value.int .u8 0) := by
  unfold B8
  rw [List.map_replicate]
  rfl
theorem nilKy_cs : nilKy.cs = List.replicate 32 (Value.int .u8 0) ++ [Value.int .u32 0] := by
  unfold Ky.cs nilKy
  show B8 (List.replicate 32 0) ++ _ = _
  rw [B8_rep]
  rfl
theorem z115_take : z115.take 33 = nilKy.cs := by rw [nilKy_cs]; rfl
theorem z115_drop : z115.drop 33 = [Value.slice none 0 0] := by rfl
theorem run_build_115d {a : Option Addr} {n c : Nat} (bs : List UInt8) (w : World) : (Instr.build 115 #[(1, .slice a n c)]).run Try.prog w = .ok (.agg (Pc.cs ⟨⟨nilKy, bs⟩, .slice a n c⟩).toArray) w := by
  refine run_build2 (a := 33) (b := 1) (z := z115) Try.underlying115 zero_115 rfl rfl sz_113 sz_27 info_113 info_27 ?_ w
  have := fill_right (a := 33) (b := 1) (v1 := .slice a n c) (z := z115) rfl rfl
  rw [z115_take] at this
  exact this
theorem run_build_115k (k : Ky) (w : World) : (Instr.build 115 #[(0, k.v)]).run Try.prog w = .ok (.agg (Pc.cs ⟨⟨k, []⟩, .slice none 0 0⟩).toArray) w := by
  refine run_build2 (a := 33) (b := 1) (z := z115) Try.underlying115 zero_115 rfl rfl sz_113 sz_27 info_113 info_27 ?_ w
  have := fill_left (a := 33) (b := 1) (v0 := k.v) (z := z115) (by show k.cs.toArray.size = 33; simp [k.cs_len]) rfl
  rw [z115_drop] at this
  exact this
theorem run_build_115b (k : Ky) {a : Option Addr} {n c : Nat} (bs : List UInt8) (w : World) : (Instr.build 115 #[(0, k.v), (1, .slice a n c)]).run Try.prog w = .ok (.agg (Pc.cs ⟨⟨k, bs⟩, .slice a n c⟩).toArray) w := by
  refine run_build2 (a := 33) (b := 1) (z := z115) Try.underlying115 zero_115 rfl rfl sz_113 sz_27 info_113 info_27 ?_ w
  exact fill_both (a := 33) (b := 1) (v0 := k.v) (v1 := .slice a n c) (z := z115) (by show k.cs.toArray.size = 33; simp [k.cs_len]) rfl rfl
theorem run_build_113b (k : Ky) (w : World) : (Instr.build 113 #[(0, .agg (B8 k.sum).toArray), (1, .int .u32 (k.num : Int))]).run Try.prog w = .ok k.v w := by
  refine run_build2 (a := 32) (b := 1) (z := List.replicate 32 (Value.int .u8 0) ++ [Value.int .u32 0]) Try.underlying113 zero_113 rfl rfl sz_111 sz_23 info_111 info_23 ?_ w
  exact fill_both (a := 32) (b := 1) (v0 := .agg (B8 k.sum).toArray) (v1 := .int .u32 (k.num : Int)) (by show (B8 k.sum).toArray.size = 32; simp [k.len]) rfl rfl
theorem run_build_113s {s : List UInt8} (hs : s.length = 32) (w : World) : (Instr.build 113 #[(0, .agg (B8 s).toArray)]).run Try.prog w = .ok (Ky.v ⟨s, 0, hs, by decide⟩) w := by
  refine run_build2 (a := 32) (b := 1) (z := List.replicate 32 (Value.int .u8 0) ++ [Value.int .u32 0]) Try.underlying113 zero_113 rfl rfl sz_111 sz_23 info_111 info_23 ?_ w
  exact fill_left (a := 32) (b := 1) (v0 := .agg (B8 s).toArray) (by show (B8 s).toArray.size = 32; simp [hs]) rfl
theorem openB_nil : openB [] = none := by unfold openB; rw [if_pos (by decide)]
theorem row_nil {α : Type} {k : Nat} {f : α → List Value} (w : World) : RowK k f w (.slice none 0 0) ([] : List α) := ⟨none, 0, rfl, Nat.le_refl _, by omega, fun h => absurd h (by simp)⟩
section
variable {w : World} {K : Value → World → Prop}
theorem Take_none {v : Value} {bs : List UInt8} (hb : Bts w v bs) (hl : bs.length ≤ 140737488351232) (hn : openB bs = none) (hK : ∀ w1, Ext w w1 → K (.tuple #[.int .u32 0, .slice none 0 0, i64v 110]) w1) : CALL Try.prog 91 #[v] w K := by
  apply call_cont_Take
  unfold B_cont_Take
  refine X_alloc zero_100 ?_
  have hx1 := newB_ext w #[Value.slice none 0 0] 100
  show X _ _ (newB w #[Value.slice none 0 0] 100) _
  generalize newB w #[Value.slice none 0 0] 100 = w1 at hx1 ⊢
  refine X_of (v := .func (.func 139) #[] #[ptr w.heap.size]) (w1 := w1) rfl ?_
  apply call_cont_each
  unfold B_cont_each
  refine Open_spec (hb.ext hx1) hl (fun _ w2 hx2 => ?_) (fun cs v' w2 h => absurd (hn.symm.trans h) (by simp))
  (repeat (simp only [XP_extract0, XP_extract1, XP_extract2, XP_extract3, X_extract0, X_extract1, X_extract2, X_extract3, X_nilS, X_eql_nil_74, X_neq_nil_74, X_eql_nil_124, X_neq_nil_124, X_eql, X_neq, X_lss, X_leq, X_gtr, X_geq, X_not, X_min, X_max, X_len_27, X_len_9, X_len_79, XP_nilS, XP_eql, XP_neq, XP_lss, XP_leq, XP_gtr, XP_geq, XP_not, XP_min, XP_max, XP_len_27, XP_len_9, XP_eql_nil_74, X_str_eql, X_str_neq, XP_str_eql, XP_str_neq, GS, gs_u, decide_true, decide_false, Option.isNone_some, Option.isSome_some, Option.isNone_none, Option.isSome_none, eq_self, Bool.not_true, Bool.not_false, Int.reduceEq, Int.reduceNe, Int.reduceLT, Int.reduceLE, Int.reduceGT, Int.reduceGE]))
  exact hK w2 (hx1.trans hx2)
end
end Go.Proofs.Ytggggfcgnkllgaa
end
section
/- What a vault is, plain Lean: shelves of a disk. -/
set_option linter.unusedSimpArgs false
set_option linter.unusedVariables false
namespace Go.Sh
/-- Bytes are written, sector by sector. -/
def layAll (d : Dk) (to_ : Nat) (x : List UInt8) : Dk × Int :=
  if x = [] then (d, 0) else if (d.write (to_ : Int) (x.take 128)).2 ≠ 0 then d.write (to_ : Int) (x.take 128) else layAll (d.write (to_ : Int) (x.take 128)).1 (to_ + 1) (x.drop 128)
termination_by x.length
decreasing_by
  rename_i h _
  have : 0 < x.length := by
    cases x with
    | nil => exact absurd rfl h
    | cons _ _ => simp
  simp
  omega
theorem layAll_nil (d : Dk) (to_ : Nat) : layAll d to_ [] = (d, 0) := by unfold layAll; rw [if_pos rfl]
theorem layAll_cons (d : Dk) (to_ : Nat) {x : List UInt8} (h : x ≠ []) : layAll d to_ x = if (d.write (to_ : Int) (x.take 128)).2 ≠ 0 then d.write (to_ : Int) (x.take 128) else layAll (d.write (to_ : Int) (x.take 128)).1 (to_ + 1) (x.drop 128) := by
  rw [layAll.eq_1 d to_ x, if_neg h]
theorem layAll_ind {P : Dk → Nat → List UInt8 → Prop} (h0 : ∀ d t, P d t []) (h1 : ∀ d t x, x ≠ [] → (d.write (t : Int) (x.take 128)).2 ≠ 0 → P d t x)
    (h2 : ∀ d t x, x ≠ [] → (d.write (t : Int) (x.take 128)).2 = 0 → P (d.write (t : Int) (x.take 128)).1 (t + 1) (x.drop 128) → P d t x) : ∀ d t x, P d t x := by
  have key : ∀ n d t x, x.length ≤ n → P d t x := by
    intro n
    induction n with
    | zero =>
      intro d t x hx
      have : x = [] := List.eq_nil_of_length_eq_zero (by omega)
      rw [this]; exact h0 d t
    | succ n ih =>
      intro d t x hx
      by_cases hn : x = []
      · rw [hn]; exact h0 d t
      · have hp : 0 < x.length := List.length_pos_iff.2 hn
        by_cases he : (d.write (t : Int) (x.take 128)).2 = 0
        · exact h2 d t x hn he (ih _ _ _ (by simp; omega))
        · exact h1 d t x hn he
  exact fun d t x => key x.length d t x (Nat.le_refl _)
theorem layAll_ok {d : Dk} (h : d.ok) (t : Nat) (x : List UInt8) : (layAll d t x).1.ok := by
  refine layAll_ind (P := fun d t x => d.ok → (layAll d t x).1.ok) ?_ ?_ ?_ d t x h
  · intro d t h; rw [layAll_nil]; exact h
  · intro d t x hx he h; rw [layAll_cons d t hx, if_pos he]; exact Dk.write_ok h _ _
  · intro d t x hx he ih h; rw [layAll_cons d t hx, if_neg (by simpa using he)]; exact ih (Dk.write_ok h _ _)
theorem layAll_size (d : Dk) (t : Nat) (x : List UInt8) : (layAll d t x).1.safe.length = d.safe.length := by
  refine layAll_ind (P := fun d t x => (layAll d t x).1.safe.length = d.safe.length) ?_ ?_ ?_ d t x
  · intro d t; rw [layAll_nil]
  · intro d t x hx he; rw [layAll_cons d t hx, if_pos he]; exact Dk.write_size _ _ _
  · intro d t x hx he ih; rw [layAll_cons d t hx, if_neg (by simpa using he), ih]; exact Dk.write_size _ _ _
theorem layAll_ws (d : Dk) (t : Nat) (x : List UInt8) : (layAll d t x).1.ws.length ≤ d.ws.length + x.length := by
  refine layAll_ind (P := fun d t x => (layAll d t x).1.ws.length ≤ d.ws.length + x.length) ?_ ?_ ?_ d t x
  · intro d t; rw [layAll_nil]; simp
  · intro d t x hx he
    rw [layAll_cons d t hx, if_pos he]
    have := Dk.write_ws d (t : Int) (x.take 128)
    have hp : 0 < x.length := List.length_pos_iff.2 hx
    omega
  · intro d t x hx he ih
    rw [layAll_cons d t hx, if_neg (by simpa using he)]
    have := Dk.write_ws d (t : Int) (x.take 128)
    have hp : 0 < x.length := List.length_pos_iff.2 hx
    rw [List.length_drop] at ih
    omega
structure Vt where
  fm : Nat
  each : Nat
  n : Nat
def Vt.ok (v : Vt) (size : Nat) : Prop := 1 ≤ v.each ∧ v.each ≤ 16384 ∧ v.fm + v.n * v.each ≤ size ∧ size ≤ 16384
def Vt.room (v : Vt) : Nat := v.each * 128 - 4
theorem Vt.n_le {v : Vt} {size : Nat} (h : v.ok size) : v.n ≤ 16384 := by
  obtain ⟨h1, h2, h3, h4⟩ := h
  have : v.n * 1 ≤ v.n * v.each := Nat.mul_le_mul_left _ h1
  omega
theorem Vt.at_le {v : Vt} {size at_ : Nat} (h : v.ok size) (ha : at_ < v.n) : v.fm + at_ * v.each + v.each ≤ size := by
  obtain ⟨h1, h2, h3, h4⟩ := h
  have : (at_ + 1) * v.each ≤ v.n * v.each := Nat.mul_le_mul_right _ ha
  rw [Nat.succ_mul] at this
  omega
/-- Bytes onto a shelf. -/
def vput (v : Vt) (d : Dk) (at_ : Int) (bs : List UInt8) : Dk × Int :=
  if at_ < 0 ∨ (v.n : Int) ≤ at_ then (d, 1) else if v.room < bs.length then (d, 4) else layAll d (v.fm + at_.toNat * v.each) (be 4 bs.length ++ bs)
/-- All bytes of a shelf. -/
def vall (v : Vt) (d : Dk) (at_ : Nat) : List UInt8 := ((d.now.drop (v.fm + at_ * v.each)).take v.each).flatten
def vget (v : Vt) (d : Dk) (at_ : Int) : List UInt8 × Int :=
  if at_ < 0 ∨ (v.n : Int) ≤ at_ then ([], 1) else if d.dead = true then ([], 6) else
    if v.room < num ((vall v d at_.toNat).take 4) then ([], 110) else (((vall v d at_.toNat).drop 4).take (num ((vall v d at_.toNat).take 4)), 0)
theorem vput_ok {v : Vt} {d : Dk} (h : d.ok) (at_ : Int) (bs : List UInt8) : (vput v d at_ bs).1.ok := by
  unfold vput
  split
  · exact h
  · split
    · exact h
    · exact layAll_ok h _ _
theorem vput_size (v : Vt) (d : Dk) (at_ : Int) (bs : List UInt8) : (vput v d at_ bs).1.safe.length = d.safe.length := by
  unfold vput
  split
  · rfl
  · split
    · rfl
    · exact layAll_size _ _ _
theorem vput_ws (v : Vt) (d : Dk) (at_ : Int) (bs : List UInt8) : (vput v d at_ bs).1.ws.length ≤ d.ws.length + bs.length + 4 := by
  unfold vput
  split
  · show d.ws.length ≤ _; omega
  · split
    · show d.ws.length ≤ _; omega
    · have := layAll_ws d (v.fm + at_.toNat * v.each) (be 4 bs.length ++ bs)
      rw [List.length_append, be_length] at this
      omega
/-- What a new vault is, and why there is none. -/
def vnew (size : Nat) (fm each n : Int) : Option Vt :=
  if fm < 0 ∨ each < 1 ∨ 16384 < each ∨ n < 0 ∨ (size : Int) < fm ∨ ((size : Int) - fm) / each < n then none else some ⟨fm.toNat, each.toNat, n.toNat⟩
theorem vnew_ok {size : Nat} {fm each n : Int} {v : Vt} (hs : size ≤ 16384) (h : vnew size fm each n = some v) : v.ok size ∧ (v.fm : Int) = fm ∧ (v.each : Int) = each ∧ (v.n : Int) = n := by
  unfold vnew at h
  split at h
  · cases h
  · rename_i hn
    have e := Option.some.inj h
    subst e
    refine ⟨⟨by show 1 ≤ each.toNat; omega, by show each.toNat ≤ 16384; omega, ?_, hs⟩, by show ((fm.toNat : Nat) : Int) = fm; omega, by show ((each.toNat : Nat) : Int) = each; omega, by show ((n.toNat : Nat) : Int) = n; omega⟩
    show fm.toNat + n.toNat * each.toNat ≤ size
    have h1 : n ≤ ((size : Int) - fm) / each := by omega
    have h2 : n * each ≤ (size : Int) - fm := by
      have h3 : n * each ≤ ((size : Int) - fm) / each * each := Int.mul_le_mul_of_nonneg_right h1 (by omega)
      have h4 := Int.ediv_mul_le ((size : Int) - fm) (b := each) (by omega)
      omega
    have h5 : ((n.toNat * each.toNat : Nat) : Int) = n * each := by
      rw [Int.natCast_mul, Int.toNat_of_nonneg (by omega), Int.toNat_of_nonneg (by omega)]
    omega
end Go.Sh
end
