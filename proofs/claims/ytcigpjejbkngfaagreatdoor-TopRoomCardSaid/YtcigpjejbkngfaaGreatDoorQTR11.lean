/- Part 11 of what the law is proved with. -/
import Derived.Maps.RangeRun
import Derived.Test.YtcigpjejbkngfaaGreatDoorQTR10
set_option linter.unusedVariables false
set_option linter.unusedSimpArgs false
section
namespace Go.Proofs.YtcigpjejbkngfaaGreatDoor
open Go Go.Sh Go.RowKit
attribute [local irreducible] X XU XP XR CALL loopS resC closS
def findE (es : List (Ky × Pl)) (k : Ky) : Option Pl := (es.find? fun e => decide (e.1 = k)).map Prod.snd
def findR (rows : List Ex) (k : Ky) : Option Pl := (rows.find? fun r => decide (r.k = k)).map fun r => (r.off, r.len)
def findT (T : Tbl) (k : Ky) : Option Pl := T.findSome? fun p => findR p.2 k
theorem addR_find (es : List (Ky × Pl)) (r : Ex) (k : Ky) : findE (addR es r) k = (findE es k).or (if r.k = k then some (r.off, r.len) else none) := by
  unfold addR findE
  split
  · rename_i h
    cases hf : es.find? fun e => decide (e.1 = k) with
    | some x => rfl
    | none =>
      have hne : r.k ≠ k := by
        intro he
        obtain ⟨x, hx, hxk⟩ := List.mem_map.1 h
        have := List.find?_eq_none.1 hf x hx
        simp at this
        exact this (hxk.trans he)
      simp [hne]
  · rw [List.find?_append]
    cases hf : es.find? fun e => decide (e.1 = k) with
    | some x => rfl
    | none =>
      by_cases he : r.k = k
      · simp [he]
      · simp [he]
theorem tab_find (rows : List Ex) (k : Ky) : findE (tabR rows) k = findR rows k := by
  suffices ∀ (rows : List Ex) (es : List (Ky × Pl)), findE (rows.foldl addR es) k = (findE es k).or (findR rows k) by
    have := this rows []
    simpa [tabR, findE] using this
  intro rows
  induction rows with
  | nil => intro es; simp [findR]
  | cons r rows ih =>
    intro es
    rw [List.foldl_cons, ih, addR_find, Option.or_assoc]
    congr 1
    unfold findR
    rw [List.find?_cons]
    by_cases he : r.k = k
    · simp [he]
    · simp [he]
theorem tab_nodup (rows : List Ex) : ((tabR rows).map Prod.fst).Nodup := by
  suffices ∀ (rows : List Ex) (es : List (Ky × Pl)), (es.map Prod.fst).Nodup → ((rows.foldl addR es).map Prod.fst).Nodup by
    exact this rows [] (by simp)
  intro rows
  induction rows with
  | nil => intro es h; exact h
  | cons r rows ih =>
    intro es h
    rw [List.foldl_cons]
    refine ih _ ?_
    unfold addR
    split
    · exact h
    · rename_i hn
      rw [List.map_append, List.nodup_append]
      refine ⟨h, by simp, fun x hx y hy => ?_⟩
      rw [List.map_singleton, List.mem_singleton] at hy
      rw [hy]
      exact fun he => hn (by have he' : x = r.k := he; rw [← he']; exact hx)
theorem run_inner {w : World} {b : Nat} {es : List (Ky × Pl)} (hm : MapAt w b (es.map entV)) (hn : (es.map Prod.fst).Nodup) (k : Ky) :
    (Instr.lookup 142 (.map (some b)) k.v true).run Tryz.prog w = .ok (.tuple #[plV ((findE es k).getD (0, 0)), .bool (findE es k).isSome]) w := by
  obtain ⟨kl, hkl⟩ := keyOf_ky k
  rcases run_lookupM (P := Tryz.prog) keyed33 Tryz.underlying142 zero_104 hm (keyed44_all es) hkl true with ⟨hno, hrun⟩ | ⟨p, hp, hpk, hrun⟩
  · have hf : findE es k = none := by
      unfold findE
      have : es.find? (fun e => decide (e.1 = k)) = none := by
        rw [List.find?_eq_none]
        intro x hx
        simp only [decide_eq_true_eq]
        intro he
        exact hno (entV x) (List.mem_map.2 ⟨x, hx, rfl⟩) (by show x.1.v = _; rw [he])
      rw [this]
      rfl
    rw [hf]
    exact hrun
  · obtain ⟨x, hx, rfl⟩ := List.mem_map.1 hp
    have hke : x.1 = k := Ky.v_inj hpk
    have hf : findE es k = some x.2 := by
      unfold findE
      cases hfd : es.find? (fun e => decide (e.1 = k)) with
      | none =>
        have := List.find?_eq_none.1 hfd x hx
        simp at this
        exact absurd hke this
      | some y =>
        have hy := List.mem_of_find?_eq_some hfd
        have hyk : y.1 = k := by simpa using List.find?_some hfd
        have : y = x := fst_inj hn hy hx (hyk.trans hke.symm)
        rw [this]
        rfl
    rw [hf]
    exact hrun
theorem run_outer {w : World} {mb : Nat} {tb : List (Int × Nat)} (hm : MapAt w mb (tb.map tbV)) (hn : (tb.map Prod.fst).Nodup) (hi : ∀ s ∈ tb.map Prod.fst, I64 s) {p : Int × Nat} (hp : p ∈ tb) :
    (Instr.lookup 173 (.map (some mb)) (.int .i64 p.1) false).run Tryz.prog w = .ok (.map (some p.2)) w := by
  have hs := hi p.1 (List.mem_map.2 ⟨p, hp, rfl⟩)
  rcases run_lookupM (P := Tryz.prog) keyed3 Tryz.underlying173 zero_142 hm (tb_keys tb hi) (keyOf_i64 hs) false with ⟨hno, hrun⟩ | ⟨q, hq, hqk, hrun⟩
  · exact absurd rfl (hno (tbV p) (List.mem_map.2 ⟨p, hp, rfl⟩))
  · obtain ⟨x, hx, rfl⟩ := List.mem_map.1 hq
    have hxs : x.1 = p.1 := by injection hqk
    have : x = p := fst_inj hn hx hp hxs
    rw [this] at hrun
    exact hrun
theorem run_build46 (w : World) : (Instr.build 104 #[]).run Tryz.prog w = .ok (.agg #[.int .i64 0, .int .i64 0]) w := by kernel_rfl
section
variable {w : World} {K : Value → World → Prop}
set_option maxHeartbeats 1000000 in
theorem Get_specC {D : Nat → Prop} {cb room : Nat} {T : Tbl} {k : Ky} (h : CacheAt w D cb room T) (hK : ∀ w1, Ext w w1 → K (.tuple #[plV ((findT T k).getD (0, 0)), .bool (findT T k).isSome]) w1) : CALL Tryz.prog 64 #[ptr cb, k.v] w K := by
  have hC := h
  obtain ⟨⟨vo, mb, tb, h1, h2, h3, h4, h5, h6, h7, h8, h9, h10⟩, hlt, hnd, hi, hsm, hf⟩ := h
  have hitb : ∀ s ∈ tb.map Prod.fst, I64 s := fun s hs => hi s ((h5 s).1 hs)
  have hlT : (shs T).length = T.length := List.length_map ..
  apply call_cache_Cache_Get
  unfold B_cache_Cache_Get
  refine X_box ?_
  have hx1 := newB_ext w k.v.cells 33
  have hg1 : (newB w k.v.cells 33).heap[w.heap.size]? = some (.cells k.cs.toArray 33 (0, 0)) := newB_get w k.v.cells 33
  generalize newB w k.v.cells 33 = w1 at hx1 hg1 ⊢
  refine X_alloc zero_104 ?_
  have hx2 := newB_ext w1 (Value.agg #[(.int .i64 0), (.int .i64 0)]).cells 104
  have hg2 : (newB w1 (Value.agg #[(.int .i64 0), (.int .i64 0)]).cells 104).heap[w1.heap.size]? = some (.cells [Value.int .i64 0, Value.int .i64 0].toArray 104 (0, 0)) := newB_get _ _ _
  generalize newB w1 (Value.agg #[(.int .i64 0), (.int .i64 0)]).cells 104 = w2 at hx2 hg2 ⊢
  have hx02 := hx1.trans hx2
  have hg12 := hx2.get hg1
  have hlt1 := lt_of_blk hg1
  have hs1 := hx1.size
  obtain ⟨ao, co, eo⟩ := (OwnK.rowK (by decide) intC_len h2).slice
  (repeat (simp only [SLB, Int.reduceEq, Int.reduceNe, Int.reduceLT, Int.reduceLE, Int.reduceGT, Int.reduceGE, X_field_175_1]))
  refine X_of (run_loadAt (v := vo) agg_43 ((cell_blk (Ext.get hx02 h1)).trans rfl)) ?_
  rw [eo, X_len_43, ← eo, hlT]
  refine loopGR 0 (fun ρ wr => ∃ i : Nat, i ≤ T.length ∧ Ext w2 wr ∧ findT (T.take i) k = none ∧ ρ 18 = .int .i64 (i : Int) ∧ ρ 17 = .int .i64 (T.length : Int) ∧ ρ 16 = vo ∧ ρ 0 = ptr cb ∧ ρ 3 = ptr w.heap.size ∧ ρ 4 = ptr w1.heap.size)
    (fun ρ wr => match ρ 18 with | .int _ s => (T.length - s).toNat | _ => 0)
    (fun ρ wr => Ext w2 wr ∧ findT T k = none ∧ ρ 4 = ptr w1.heap.size)
    (fun ρ wr => ∃ p, findT T k = some p ∧ Ext w wr ∧ wr.heap[w1.heap.size]? = some (.cells [Value.int .i64 p.1, Value.int .i64 p.2].toArray 104 (0, 0)) ∧ ρ 4 = ptr w1.heap.size ∧ ρ 5 = .bool true) ?_ ?_ ?_ ?_
  · exact ⟨0, by omega, Keep.refl _ _, by simp [findT], rfl, rfl, rfl, rfl, rfl, rfl⟩
  · rintro J hJ hJR ρ wr ⟨i, hi', hx, hno, r18, r17, r16, r0, r3, r4⟩
    rw [r18, r17, r16, X_lss, condS_bool]
    by_cases hie : i = T.length
    · rw [if_neg (by simp; omega)]
      rw [hie, List.take_of_length_le (Nat.le_refl _)] at hno
      exact hJ _ _ ⟨hx, hno, r4⟩
    rw [if_pos (by simp; omega)]
    have hltT : i < T.length := by omega
    have hlt2 : i < (shs T).length := by omega
    have hx0 := hx02.trans hx
    obtain ⟨g, hix, hcell, _⟩ := int_at ((OwnK.rowK (by decide) intC_len h2).ext hx0) hlt2
    refine X_of (hix _) ?_
    refine X_of (run_loadAt agg_3 hcell) ?_
    have hsi : (shs T)[i] = T[i].1 := by simp
    rw [hsi]
    obtain ⟨q, hq, hqs⟩ := List.mem_map.1 ((h5 T[i].1).2 (List.mem_map.2 ⟨_, List.getElem_mem hltT, rfl⟩))
    have hmT := h6 q hq T[i].2 (by rw [hqs]; exact List.getElem_mem hltT)
    have hsucc : findT (T.take (i + 1)) k = findR T[i].2 k := by
      rw [List.take_succ_eq_append_getElem hltT]
      unfold findT at hno ⊢
      rw [List.findSome?_append, hno]
      simp
    have hpre : ∀ p, findR T[i].2 k = some p → findT T k = some p := by
      intro p hp
      have e : T = T.take i ++ T[i] :: T.drop (i + 1) := by rw [← List.drop_eq_getElem_cons hltT, List.take_append_drop]
      conv => lhs; rw [e]
      unfold findT at hno ⊢
      rw [List.findSome?_append, hno, Option.none_or, List.findSome?_cons, hp]
    have hxd := hx.trans (Keep.drew (fun _ => False) wr)
    refine ⟨Ext, Ext.frame, ?_⟩
    generalize drewW wr = wd at hxd ⊢
    rw [r0, r3]
    rw [← hqs]
    generalize T[i].2 = rows at hmT hsucc hpre
    have hx0d := hx02.trans hxd
    (repeat (simp only [SLB, Int.reduceEq, Int.reduceNe, Int.reduceLT, Int.reduceLE, Int.reduceGT, Int.reduceGE, XP_field_175_2]))
    refine XR_ok Ext.frame (fun w' kk => run_loadAt (v := .map (some mb)) agg_173 ((cell_blk (Ext.get (hx0d.trans kk) h1)).trans rfl)) ?_
    refine XR_ok Ext.frame (fun w' kk => run_outer (h3.ext (hx0d.trans kk)) h4 hitb hq) ?_
    refine XR_ok Ext.frame (fun w' kk => load_cells Tryz.underlying33 agg_33 info_33 (l := k.cs) (by rw [sz_33, Ky.cs_len]) (fun j u hj => by rw [add_plain, Nat.zero_add, cell_blk (Ext.get (hxd.trans kk) hg12)]; simpa using hj)) ?_
    refine XR_ok Ext.frame (fun w' kk => run_inner (hmT.ext (hx0d.trans kk)) (tab_nodup _) k) ?_
    rw [tab_find]
    (repeat (simp only [SLB, Int.reduceEq, Int.reduceNe, Int.reduceLT, Int.reduceLE, Int.reduceGT, Int.reduceGE]))
    refine X_alloc zero_104 ?_
    have hxa := newB_ext wd (Value.agg #[(.int .i64 0), (.int .i64 0)]).cells 104
    have hga : (newB wd (Value.agg #[(.int .i64 0), (.int .i64 0)]).cells 104).heap[wd.heap.size]? = some (.cells [Value.int .i64 0, Value.int .i64 0].toArray 104 (0, 0)) := newB_get _ _ _
    generalize newB wd (Value.agg #[(.int .i64 0), (.int .i64 0)]).cells 104 = w5 at hxa hga ⊢
    refine ⟨hxa, ?_⟩
    generalize hfp : findR rows k = fp at hsucc hpre
    refine XU_storeAgg (l := [.int .i64 (fp.getD (0, 0)).1, .int .i64 (fp.getD (0, 0)).2]) info_104 hga (by rw [sz_104]; rfl) (by rw [sz_104]; rfl) (by intro u hu; simp only [List.mem_cons, List.not_mem_nil, or_false] at hu; rcases hu with rfl | rfl <;> rfl) ?_
    have hk6 := setAt_keep w5 wd.heap.size [Value.int .i64 (fp.getD (0, 0)).1, Value.int .i64 (fp.getD (0, 0)).2].toArray 104 (0, 0)
    have hg6 : (setAt w5 wd.heap.size [Value.int .i64 (fp.getD (0, 0)).1, Value.int .i64 (fp.getD (0, 0)).2].toArray 104 (0, 0)).heap[wd.heap.size]? = some (.cells [Value.int .i64 (fp.getD (0, 0)).1, Value.int .i64 (fp.getD (0, 0)).2].toArray 104 (0, 0)) := setAt_same (lt_of_blk hga)
    have hx6 : Ext wd (setAt w5 wd.heap.size [Value.int .i64 (fp.getD (0, 0)).1, Value.int .i64 (fp.getD (0, 0)).2].toArray 104 (0, 0)) := Ext.seq hxa hk6 (fun g hg => by omega)
    generalize setAt w5 wd.heap.size [Value.int .i64 (fp.getD (0, 0)).1, Value.int .i64 (fp.getD (0, 0)).2].toArray 104 (0, 0) = w6 at hg6 hx6 ⊢
    have hx26 := hxd.trans hx6
    cases fp with
    | none =>
      rw [Option.isSome_none, condS_bool, if_neg (by decide), X_add]
      show _ ∧ _
      refine ⟨⟨i + 1, by omega, hx26, hsucc, next64 (n := 4096) (by decide) (by omega), r17, r16, r0, r3, r4⟩, ?_⟩
      show (_ - IntKind.i64.wrap _).toNat < _
      rw [w64 (by omega) (by omega)]
      first | omega | (show _ < (_ : Int).toNat; omega)
    | some p =>
      rw [Option.isSome_some, condS_bool, if_pos rfl]
      refine X_of (load_cells Tryz.underlying104 agg_104 info_104 (l := [Value.int .i64 p.1, Value.int .i64 p.2]) (by rw [sz_104]; rfl) (fun j u hj => by rw [add_plain, Nat.zero_add, cell_blk hg6]; simpa using hj)) ?_
      rw [r4]
      have hg26 := Ext.get hx26 hg2
      refine XU_storeAgg (l := [Value.int .i64 p.1, Value.int .i64 p.2]) info_104 hg26 (by rw [sz_104]; rfl) (by rw [sz_104]; rfl) (by intro u hu; simp only [List.mem_cons, List.not_mem_nil, or_false] at hu; rcases hu with rfl | rfl <;> rfl) ?_
      refine hJR _ _ ⟨p, hpre p rfl, Ext.seq (hx02.trans hx26) (setAt_keep _ _ _ _ _) (fun g hg => by omega), setAt_same (lt_of_blk hg26), r4, rfl⟩
  · rintro ρ wr ⟨hx, hno, r4⟩
    show X _ (Instr.build 104 #[]) wr _
    refine X_of (run_build46 _) ?_
    rw [r4]
    have hg26 := Ext.get hx hg2
    refine XU_storeAgg (l := [.int .i64 0, .int .i64 0]) info_104 hg26 (by rw [sz_104]; rfl) (by rw [sz_104]; rfl) (by intro u hu; simp at hu; rw [hu]; rfl) ?_
    refine resC_agg Tryz.underlying104 agg_104 info_104 (setAt_same (lt_of_blk hg26)) (by rw [sz_104]; rfl) ?_
    have := hK _ (Ext.seq (hx02.trans hx) (setAt_keep wr w1.heap.size [Value.int .i64 0, Value.int .i64 0].toArray 104 (0, 0)) (fun g hg => by omega))
    rw [hno] at this
    exact this
  · rintro ρ wr ⟨p, hp, hx, hg, r4, r5⟩
    show resC _ 104 (ρ 4) wr fun v => K (.tuple #[v, ρ 5]) wr
    rw [r4, r5]
    refine resC_agg Tryz.underlying104 agg_104 info_104 hg (by rw [sz_104]; rfl) ?_
    have := hK _ hx
    rw [hp] at this
    exact this
end
end Go.Proofs.YtcigpjejbkngfaaGreatDoor
end
section
namespace Go.Proofs.YtcigpjejbkngfaaGreatDoor
open Go Go.Sh
attribute [local irreducible] X XU XP XR CALL loopS resC closS
def B_slices_Insert_uint32 (x0 x1 x2 : Value) (w : World) (K : Value → World → Prop) : Prop :=
  X Tryz.prog (Instr.sliceAt 141 x0 (some x1) none none) w fun v1 w1 =>
  X Tryz.prog (Builtin.len_ #[141] 3 #[x2]) w1 fun v2 w2 =>
  X Tryz.prog (binOpG .eql 3 (.tmp 15) (.const (.int .i64 0)) v2 (.int .i64 0)) w2 fun v3 w3 =>
  condS v3 (
  K x0 w3) (
  X Tryz.prog (Builtin.len_ #[141] 3 #[x0]) w3 fun v4 w4 =>
  X Tryz.prog (binOpG .eql 3 (.tmp 20) (.tmp 21) x1 v4) w4 fun v5 w5 =>
  condS v5 (
  X Tryz.prog (Builtin.append_ #[141, 141] 141 #[x0, x2]) w5 fun v6 w6 =>
  K v6 w6) (
  X Tryz.prog (binOp .add 3 v4 v2) w5 fun v7 w7 =>
  X Tryz.prog (Builtin.cap_ #[141] 3 #[x0]) w7 fun v8 w8 =>
  X Tryz.prog (binOp .gtr 3 v7 v8) w8 fun v9 w9 =>
  condS v9 (
  X Tryz.prog (Instr.sliceAt 141 x0 none (some x1) none) w9 fun v10 w10 =>
  X Tryz.prog (binOp .add 3 v4 v2) w10 fun v11 w11 =>
  X Tryz.prog (binOp .sub 3 v11 x1) w11 fun v12 w12 =>
  X Tryz.prog (Builtin.append_ #[141, 3] 141 #[v10, v12]) w12 fun v13 w13 =>
  X Tryz.prog (Instr.sliceAt 141 v13 (some x1) none none) w13 fun v14 w14 =>
  X Tryz.prog (Builtin.copy_ #[141, 141] 3 #[v14, x2]) w14 fun v15 w15 =>
  ∃ R, Frame? R ∧
  XP Tryz.prog (binOp .add 3 x1 v2) (drewW w15) fun v16 w16 =>
  XP Tryz.prog (Instr.sliceAt 141 v13 (some v16) none none) w16 fun v17 w17 =>
  XP Tryz.prog (Instr.sliceAt 141 x0 (some x1) none none) w17 fun v18 w18 =>
  X Tryz.prog (Builtin.copy_ #[141, 141] 3 #[v17, v18]) w18 fun v19 w19 =>
  K v13 w19) (
  X Tryz.prog (binOp .add 3 v4 v2) w9 fun v20 w20 =>
  X Tryz.prog (Instr.sliceAt 141 x0 none (some v20) none) w20 fun v21 w21 =>
  X Tryz.prog (binOp .add 3 x1 v2) w21 fun v22 w22 =>
  X Tryz.prog (Instr.sliceAt 141 v21 (some v22) none none) w22 fun v23 w23 =>
  CALL Tryz.prog 121 #[x2, v23] w23 fun v24 w24 =>
  X Tryz.prog (Op.unary .not v24) w24 fun v25 w25 =>
  condS v25 (
  ∃ R, Frame? R ∧
  XP Tryz.prog (binOp .add 3 x1 v2) (drewW w25) fun v26 w26 =>
  XP Tryz.prog (Instr.sliceAt 141 v21 (some v26) none none) w26 fun v27 w27 =>
  XP Tryz.prog (Instr.sliceAt 141 v21 (some x1) none none) w27 fun v28 w28 =>
  X Tryz.prog (Builtin.copy_ #[141, 141] 3 #[v27, v28]) w28 fun v29 w29 =>
  X Tryz.prog (Instr.sliceAt 141 v21 (some x1) none none) w29 fun v30 w30 =>
  X Tryz.prog (Builtin.copy_ #[141, 141] 3 #[v30, x2]) w30 fun v31 w31 =>
  K v21 w31) (
  X Tryz.prog (Instr.sliceAt 141 v21 (some v4) none none) w25 fun v32 w32 =>
  X Tryz.prog (Builtin.copy_ #[141, 141] 3 #[v32, x2]) w32 fun v33 w33 =>
  X Tryz.prog (Instr.sliceAt 141 v21 (some x1) none none) w33 fun v34 w34 =>
  CALL Tryz.prog 122 #[v34, v2] w34 fun v35 w35 =>
  K v21 w35))))
theorem eq_slices_Insert_uint32 (x0 x1 x2 : Value) (w : World) (K : Value → World → Prop) :
    sh Tryz.prog (Tryz.f103.body.getD .skip) (retS Tryz.prog Tryz.f103.results K) (env0 #[x0, x1, x2]) w = B_slices_Insert_uint32 x0 x1 x2 w K := by kernel_rfl
theorem call_slices_Insert_uint32 (x0 x1 x2 : Value) (w : World) (K : Value → World → Prop) (h : B_slices_Insert_uint32 x0 x1 x2 w K) : CALL Tryz.prog 103 #[x0, x1, x2] w K :=
  call_of_eq (c := Tryz.f103.body.getD .skip) mixed Tryz.func103 (by kernel_rfl) (by kernel_rfl) (by kernel_rfl) (Nat.le_of_ble_eq_true (by kernel_rfl)) (eq_slices_Insert_uint32 x0 x1 x2 w K) h
end Go.Proofs.YtcigpjejbkngfaaGreatDoor
end
section
set_option maxRecDepth 8000
namespace Go.Sh
open Go Go.RowKit
def MapS (w : World) (mb : Nat) (l : List (Value × Value)) : Prop := ∃ es clock, w.heap[mb]? = some (.map es clock) ∧ es.toList.map (fun e => (e.key, e.val)) = l ∧ (∀ e ∈ es.toList, e.born < clock) ∧ (es.toList.map (·.born)).Nodup
theorem MapS.at {w : World} {mb : Nat} {l : List (Value × Value)} (h : MapS w mb l) : MapAt w mb l := by
  obtain ⟨es, c, h1, h2, _⟩ := h
  exact ⟨es, c, h1, h2⟩
theorem MapS.keep {D : Nat → Prop} {w w' : World} {mb : Nat} {l : List (Value × Value)} (h : MapS w mb l) (k : Keep D w w') (hd : ¬ D mb) : MapS w' mb l := by
  obtain ⟨es, c, h1, h2⟩ := h
  exact ⟨es, c, k.get hd h1, h2⟩
theorem MapS.ext {w w' : World} {mb : Nat} {l : List (Value × Value)} (h : MapS w mb l) (k : Ext w w') : MapS w' mb l := h.keep k (fun h => h)
theorem newM_S (w : World) : MapS (newM w) w.heap.size [] := ⟨#[], 0, by show (w.heap.push _)[w.heap.size]? = _; exact Array.getElem?_push_size, rfl, by simp, by simp⟩
section
variable {P : Program} {t k e : TypeId} {w : World} {mb : Nat} {l : List (Value × Value)}
theorem XU_updateNewS (K : Maps.Keyed P k) (ht : P.underlying t = some (.map k e)) (hm : MapS w mb l) (hl : ∀ p ∈ l, ∃ x, keyOf P k p.1 = some x) {key v : Value} {kl : Lit} (hkey : keyOf P k key = some kl) (hnew : ∀ p ∈ l, p.1 ≠ key) {Q : World → Prop}
    (h : ∀ w1, MapS w1 mb (l ++ [(key, v)]) → Keep (· = mb) w w1 → Q w1) : XU P (Instr.mapUpdate t (.map (some mb)) key v) w Q := by
  obtain ⟨es, clock, hb, rfl, hbn, hnd⟩ := hm
  have hes : ∀ x ∈ es.toList, ∃ y, keyOf P k x.key = some y := fun x hx => hl (x.key, x.val) (List.mem_map.2 ⟨x, hx, rfl⟩)
  rcases K.find w hkey es.toList hes with ⟨h1, h2⟩ | ⟨j, e0, h1, h2, h3⟩
  · have hr : (Instr.mapUpdate t (.map (some mb)) key v).run P w = .ok () { w with heap := w.heap.setIfInBounds mb (.map (es.push { key, val := v, born := clock }) (clock + 1)) } := by
      simp [Instr.mapUpdate, run_underlying ht, MapKept.run_getObj_map hb, K.check w _ hkey, h1, Result.andThen, MapKept.run_setObj_map _ hb]
    unfold XU
    rw [hr]
    have hlt := lt_of_blk hb
    refine h _ ⟨es.push { key, val := v, born := clock }, clock + 1, by show (w.heap.setIfInBounds mb _)[mb]? = _; simp [hlt], by simp, fun e he => ?_, ?_⟩ ⟨rfl, rfl, rfl, by show _ ≤ (w.heap.setIfInBounds mb _).size; simp, fun i _ hi => by show (w.heap.setIfInBounds mb _)[i]? = _; rw [Array.getElem?_setIfInBounds_ne (Ne.symm hi)]⟩
    · rw [Array.toList_push, List.mem_append] at he
      rcases he with he | he
      · have := hbn e he; omega
      · rw [List.mem_singleton.1 he]; exact Nat.lt_succ_self _
    · rw [Array.toList_push, List.map_append, List.nodup_append]
      refine ⟨hnd, by simp, fun a ha b hb' => ?_⟩
      obtain ⟨x, hx, rfl⟩ := List.mem_map.1 ha
      rw [List.map_singleton, List.mem_singleton] at hb'
      rw [hb']
      have := hbn x hx
      show x.born ≠ clock
      omega
  · exact absurd h3 (hnew (e0.key, e0.val) (List.mem_map.2 ⟨e0, List.mem_of_getElem? h2, rfl⟩))
end
end Go.Sh
namespace Go.Proofs.YtcigpjejbkngfaaGreatDoor
open Go Go.Sh Go.RowKit
attribute [local irreducible] X XU XP XR CALL loopS resC closS
theorem keyAt30 : Tryz.prog.keyTypeAt 5 30 = true := by kernel_rfl
theorem keyTy30 : Tryz.prog.keyType 30 = true := by kernel_rfl
theorem keyed30 : Maps.Keyed Tryz.prog 30 := Maps.Keyed.of_law (deep_law_laid laidOut (m := 5) (Nat.le_of_ble_eq_true rfl) (Nat.lt_trans (by decide) size33) keyAt30 (by rw [Tryz.underlying30]))
def sumV (s : List UInt8) : Value := .agg (B8 s).toArray
theorem sumV_inj {a b : List UInt8} (h : sumV a = sumV b) : a = b := by
  unfold sumV at h
  injection h with h
  have h2 : B8 a = B8 b := by
    have := congrArg Array.toList h
    simpa using this
  exact B8_inj h2
theorem keyOf_sum {s : List UInt8} (hs : s.length = 32) : ∃ l, keyOf Tryz.prog 30 (sumV s) = some l := by
  have hkt := keyTy30
  have hfm : (sumV s).formed Tryz.prog 30 = true := by
    unfold Value.formed
    rw [Tryz.underlying30]
    show decide ((B8 s).toArray.size = Tryz.prog.cellsOf 30) = true
    rw [cel30]
    simp [hs]
  unfold keyOf
  rw [Tryz.underlying30]
  simp only [hkt, hfm, Bool.and_self, if_true]
  have hk : ∃ ls, Tryz.prog.keyLits (Tryz.prog.types.size + 1) 30 (sumV s).cells.toList = some ls := by
    obtain ⟨n, hn⟩ : ∃ n, Tryz.prog.types.size + 1 = n + 3 := ⟨Tryz.prog.types.size - 2, by
      have h2 : 2 ≤ Tryz.prog.types.size := Nat.le_of_ble_eq_true (by kernel_rfl)
      omega⟩
    rw [hn]
    have ecs : (sumV s).cells.toList = B8 s := rfl
    rw [ecs]
    unfold Program.keyLits
    rw [Tryz.underlying30]
    simp only [cel30, cel5, B8_length, hs, if_true]
    obtain ⟨r, hr⟩ := mapM_all (fun i => Tryz.prog.keyLits (n + 2) 5 ((List.drop (i * 1) (B8 s)).take 1)) (List.range 32) (fun i hi => by
      have hi' : i < 32 := List.mem_range.1 hi
      have hd : (List.drop (i * 1) (B8 s)).take 1 = [.int .u8 ((s[i]'(by rw [hs]; exact hi')).toNat : Int)] := by
        have hl : i < (B8 s).length := by simp [hs]; exact hi'
        rw [Nat.mul_one, List.drop_eq_getElem_cons hl]
        simp [B8]
      rw [hd]
      unfold Program.keyLits
      rw [Tryz.underlying5]
      refine ⟨_, if_pos ⟨rfl, ?_⟩⟩
      have := (s[i]'(by rw [hs]; exact hi')).toNat_lt
      simp [Lit.wf, IntKind.min, IntKind.max, IntKind.signed, IntKind.bits]
      omega)
    rw [hr]
    exact ⟨_, rfl⟩
  obtain ⟨ls, hls⟩ := hk
  rw [hls]
  exact ⟨_, rfl⟩
theorem sumV_load {w : World} {g : Nat} {s : List UInt8} (hg : w.heap[g]? = some (.cells (B8 s).toArray 30 (0, 0))) (hs : s.length = 32) : (Instr.loadAt 30 (ptr g)).run Tryz.prog w = .ok (sumV s) w :=
  load_cells Tryz.underlying30 agg_30 info_30 (l := B8 s) (by rw [sz_30]; simp [hs]) (fun j u hj => by rw [add_plain, Nat.zero_add, cell_blk hg]; rw [← List.getElem?_toArray] at hj; exact hj)
def u32C (n : Nat) : List Value := [.int .u32 (n : Int)]
theorem u32C_len : ∀ n, (u32C n).length = 1 := fun _ => rfl
section
variable {w : World} {K : Value → World → Prop}
theorem u32_at {v : Value} {l : List Nat} {i : Nat} (hl : RowK 1 u32C w v l) (hi : i < l.length) : ∃ a, (∀ w', (Instr.indexAt 141 v (.int .i64 (i : Int))).run Tryz.prog w' = .ok (.pointer (some a)) w') ∧ w.cell? a = some (.int .u32 (l[i] : Int)) := by
  obtain ⟨ad, hix, hcs⟩ := hl.at Tryz.underlying141 info_31 sz_31 (kd := .i64) (ii := (i : Int)) i rfl hi
  have h0 := hcs 0 _ rfl
  have e : ad.add 0 = ad := by simp [Addr.add]
  rw [e] at h0
  exact ⟨ad, hix, h0⟩
theorem Bin_spec {v : Value} {l : List Nat} {n : Nat} (hl : RowK 1 u32C w v l) (hlen : l.length ≤ 1000000) (hlt : ∀ x ∈ l, x < n) (hK : K (.tuple #[.int .i64 (l.length : Int), .bool false]) w) : CALL Tryz.prog 102 #[v, .int .u32 (n : Int)] w K := by
  obtain ⟨a, c, ev⟩ := hl.slice
  apply call_slices_BinarySearch_uint32
  unfold B_slices_BinarySearch_uint32
  rw [ev, X_len_141, ← ev]
  refine loopG 0 (fun ρ wr => ∃ i : Nat, i ≤ l.length ∧ wr = w ∧ ρ 7 = .int .i64 (i : Int) ∧ ρ 8 = .int .i64 (l.length : Int) ∧ ρ 6 = .int .i64 (l.length : Int) ∧ ρ 0 = v ∧ ρ 1 = .int .u32 (n : Int))
    (fun ρ wr => match ρ 7 with | .int _ s => (l.length - s).toNat | _ => 0)
    (fun ρ wr => wr = w ∧ ρ 7 = .int .i64 (l.length : Int) ∧ ρ 6 = .int .i64 (l.length : Int)) ?_ ?_ ?_
  · exact ⟨0, by omega, rfl, rfl, rfl, rfl, rfl, rfl⟩
  · rintro J hJ ρ wr ⟨i, hi, rfl, r7, r8, r6, r0, r1⟩
    rw [r7, r8, r0, r1, X_lss, condS_bool]
    by_cases hie : i = l.length
    · rw [if_neg (by simp; omega)]
      rw [hie] at r7
      exact hJ _ _ ⟨rfl, r7, r6⟩
    rw [if_pos (by simp; omega)]
    refine X_of (addN 3 (a := i) (b := l.length) (by omega) _) ?_
    rw [X_conv_3_118, wrap_u64, Int.emod_eq_of_lt (by omega) (by omega)]
    have e1 : ∀ m : Nat, (binOp .shr 118 (.int .u64 (m : Int)) (.int .u64 1)).run Tryz.prog wr = .ok (.int .u64 ((m / 2 : Nat) : Int)) wr := fun m => by
      rw [run_shr _ _ (by decide) wr]
      have e1 : min ((1 : Int).toNat) IntKind.u64.bits = 1 := rfl
      rw [e1, fdiv_pow]
    refine X_of (e1 _) ?_
    rw [X_conv_118_3, w64 (by omega) (by omega)]
    obtain ⟨a', hix, hc⟩ := u32_at hl (i := (i + l.length) / 2) (by omega)
    refine X_of (hix _) ?_
    refine X_of (run_loadAt agg_31 hc) ?_
    refine Less_spec ?_
    have hlt' := hlt _ (List.getElem_mem (show (i + l.length) / 2 < l.length by omega))
    have c : decide (((l[(i + l.length) / 2]'(by omega) : Nat) : Int) < (n : Int)) = true := decide_eq_true (by omega)
    rw [c, condS_bool, if_pos rfl]
    refine X_of (addN 3 (a := (i + l.length) / 2) (b := 1) (by omega) _) ?_
    show _ ∧ _
    refine ⟨⟨(i + l.length) / 2 + 1, by omega, rfl, rfl, r8, r6, r0, r1⟩, ?_⟩
    show ((l.length : Int) - (((i + l.length) / 2 + 1 : Nat) : Int)).toNat < ((l.length : Int) - (i : Int)).toNat
    omega
  · rintro ρ wr ⟨rfl, r7, r6⟩
    simp only [inBlockS_same, thenS_normal]
    rw [r7, r6]
    have c : decide ((l.length : Int) < (l.length : Int)) = false := by simp
    (repeat (simp only [SLB, Int.reduceEq, Int.reduceNe, Int.reduceLT, Int.reduceLE, Int.reduceGT, Int.reduceGE, c]))
    exact hK
theorem Insert_spec {base : Nat} {v : Value} {l : List Nat} {n : Nat} {q : Nat} (ho : OwnK 1 31 u32C w base v l) (hlen : l.length ≤ 1000000) (hbase : base ≤ w.heap.size) (hq : w.heap[q]? = some (.cells #[.int .u32 (n : Int)] 31 (0, 0)))
    (hK : ∀ v' w1, OwnK 1 31 u32C w1 base v' (l ++ [n]) → Keep (fun k => some k = v.ownBlock) w w1 → (∀ g, v'.ownBlock = some g → v.ownBlock = some g ∨ w.heap.size ≤ g) → K v' w1) : CALL Tryz.prog 103 #[v, .int .i64 (l.length : Int), .slice (some ⟨q, 0, none⟩) 1 1] w K := by
  obtain ⟨a, c, ev⟩ := (OwnK.rowK (by decide) u32C_len ho).slice
  apply call_slices_Insert_uint32
  unfold B_slices_Insert_uint32
  rw [ev]
  refine X_of (sl_lo Tryz.underlying141 info_31 l.length rfl (Nat.le_refl _) _) ?_
  rw [X_len_141]
  have c1 : decide ((((1 : Nat) : Int)) = 0) = false := rfl
  have c2 : decide ((l.length : Int) = (l.length : Int)) = true := by simp
  (repeat (simp only [SLB, Int.reduceEq, Int.reduceNe, Int.reduceLT, Int.reduceLE, Int.reduceGT, Int.reduceGE, c1, c2]))
  rw [← ev]
  refine X_appendW (base := base) Tryz.underlying141 el_31 (by decide) ho (news := [.int .u32 (n : Int)]) (m := 1) rfl (fun j u hu => ?_) (by intro u hu; rw [List.mem_singleton.1 hu]; rfl) (by omega) (by decide) hbase ?_
  · rw [add_plain, Nat.zero_add, cell_blk hq]
    simpa using hu
  intro v' w1 ho1 hk1 hnb
  refine hK v' w1 ?_ hk1 hnb
  unfold OwnK
  rw [List.length_append, cellsK_append]
  exact ho1
end
end Go.Proofs.YtcigpjejbkngfaaGreatDoor
end
section
namespace Go.Proofs.YtcigpjejbkngfaaGreatDoor
open Go Go.Sh
attribute [local irreducible] X XU XP XR CALL loopS resC closS
def B_index_New (w : World) (K : Value → World → Prop) : Prop :=
  X Tryz.prog (Instr.makeMap 142 none) w fun v1 w1 =>
  X Tryz.prog (Instr.makeMap 143 none) w1 fun v2 w2 =>
  X Tryz.prog (Instr.makeMap 144 none) w2 fun v3 w3 =>
  X Tryz.prog (Instr.build 146 #[(0, v1), (1, v2), (2, v3)]) w3 fun v4 w4 =>
  X Tryz.prog (Instr.box 146 v4) w4 fun v5 w5 =>
  K v5 w5
theorem eq_index_New (w : World) (K : Value → World → Prop) :
    sh Tryz.prog (Tryz.f59.body.getD .skip) (retS Tryz.prog Tryz.f59.results K) (env0 #[]) w = B_index_New  w K := by kernel_rfl
theorem call_index_New (w : World) (K : Value → World → Prop) (h : B_index_New  w K) : CALL Tryz.prog 59 #[] w K :=
  call_of_eq (c := Tryz.f59.body.getD .skip) mixed Tryz.func59 (by kernel_rfl) (by kernel_rfl) (by kernel_rfl) (Nat.le_of_ble_eq_true (by kernel_rfl)) (eq_index_New  w K) h
def B_index_Index_Get (x0 x1 : Value) (w : World) (K : Value → World → Prop) : Prop :=
  X Tryz.prog (Instr.box 33 x1) w fun v1 w1 =>
  X Tryz.prog (Instr.alloc 104 true (.tuple #[])) w1 fun v2 w2 =>
  X Tryz.prog (binOpG .eql 101 (.tmp 8) (.const (.pointer none)) x0 (.pointer none)) w2 fun v3 w3 =>
  condS v3 (
  X Tryz.prog (Instr.build 104 #[]) w3 fun v4 w4 =>
  XU Tryz.prog (Instr.storeAt 104 v2 v4) w4 fun w5 =>
  resC Tryz.prog 104 v2 w5 fun r0 =>
  K (.tuple #[r0, (.bool false)]) w5) (
  ∃ R, Frame? R ∧
  XP Tryz.prog (nilS x0) (drewW w3) fun v5 w6 =>
  XP Tryz.prog (Instr.fieldAt 146 v5 0) w6 fun v6 w7 =>
  XR Tryz.prog R (Instr.loadAt 142 v6) w7 fun v7 w8 =>
  XR Tryz.prog R (Instr.loadAt 33 v1) w8 fun v8 w9 =>
  XR Tryz.prog R (Instr.lookup 142 v7 v8 true) w9 fun v9 w10 =>
  XP Tryz.prog (Instr.extract v9 0) w10 fun v10 w11 =>
  XP Tryz.prog (Instr.extract v9 1) w11 fun v11 w12 =>
  X Tryz.prog (Instr.alloc 104 true (.tuple #[])) w12 fun v12 w13 =>
  R w12 w13 ∧
  XU Tryz.prog (Instr.storeAt 104 v12 v10) w13 fun w14 =>
  X Tryz.prog (Instr.loadAt 104 v12) w14 fun v13 w15 =>
  XU Tryz.prog (Instr.storeAt 104 v2 v13) w15 fun w16 =>
  resC Tryz.prog 104 v2 w16 fun r0 =>
  K (.tuple #[r0, v11]) w16)
theorem eq_index_Index_Get (x0 x1 : Value) (w : World) (K : Value → World → Prop) :
    sh Tryz.prog (Tryz.f65.body.getD .skip) (retS Tryz.prog Tryz.f65.results K) (env0 #[x0, x1]) w = B_index_Index_Get x0 x1 w K := by kernel_rfl
theorem call_index_Index_Get (x0 x1 : Value) (w : World) (K : Value → World → Prop) (h : B_index_Index_Get x0 x1 w K) : CALL Tryz.prog 65 #[x0, x1] w K :=
  call_of_eq (c := Tryz.f65.body.getD .skip) mixed Tryz.func65 (by kernel_rfl) (by kernel_rfl) (by kernel_rfl) (Nat.le_of_ble_eq_true (by kernel_rfl)) (eq_index_Index_Get x0 x1 w K) h
def B_index_Index_Drop (x0 x1 : Value) (w : World) (K : Value → World → Prop) : Prop :=
  X Tryz.prog (Instr.box 33 x1) w fun v1 w1 =>
  X Tryz.prog (Instr.loadAt 33 v1) w1 fun v2 w2 =>
  CALL Tryz.prog 65 #[x0, v2] w2 fun v3 w3 =>
  X Tryz.prog (Instr.extract v3 0) w3 fun v4 w4 =>
  X Tryz.prog (Instr.extract v3 1) w4 fun v5 w5 =>
  X Tryz.prog (Instr.alloc 104 true (.tuple #[])) w5 fun v6 w6 =>
  XU Tryz.prog (Instr.storeAt 104 v6 v4) w6 fun w7 =>
  X Tryz.prog (Op.unary .not v5) w7 fun v7 w8 =>
  condS v7 (
  K (.bool false) w8) (
  ∃ R, Frame? R ∧
  XP Tryz.prog (nilS x0) (drewW w8) fun v8 w9 =>
  XP Tryz.prog (Instr.fieldAt 146 v8 0) w9 fun v9 w10 =>
  XR Tryz.prog R (Instr.loadAt 142 v9) w10 fun v10 w11 =>
  XR Tryz.prog R (Instr.loadAt 33 v1) w11 fun v11 w12 =>
  X Tryz.prog (Builtin.delete_ #[142, 33] 0 #[v10, v11]) w12 fun _ w13 =>
  ∃ R, Frame? R ∧
  XP Tryz.prog (nilS x0) (drewW w13) fun v12 w14 =>
  XP Tryz.prog (Instr.fieldAt 146 v12 1) w14 fun v13 w15 =>
  XR Tryz.prog R (Instr.loadAt 143 v13) w15 fun v14 w16 =>
  XP Tryz.prog (Instr.fieldAt 33 v1 0) w16 fun v15 w17 =>
  XR Tryz.prog R (Instr.loadAt 30 v15) w17 fun v16 w18 =>
  XR Tryz.prog R (Instr.lookup 143 v14 v16 false) w18 fun v17 w19 =>
  X Tryz.prog (Instr.fieldAt 33 v1 1) w19 fun v18 w20 =>
  X Tryz.prog (Instr.loadAt 31 v18) w20 fun v19 w21 =>
  CALL Tryz.prog 102 #[v17, v19] w21 fun v20 w22 =>
  X Tryz.prog (Instr.extract v20 0) w22 fun v21 w23 =>
  X Tryz.prog (Instr.extract v20 1) w23 fun v22 w24 =>
  ∃ R, Frame? R ∧
  XP Tryz.prog (nilS x0) (drewW w24) fun v23 w25 =>
  XP Tryz.prog (Instr.fieldAt 146 v23 1) w25 fun v24 w26 =>
  XR Tryz.prog R (Instr.loadAt 143 v24) w26 fun v25 w27 =>
  XP Tryz.prog (Instr.fieldAt 33 v1 0) w27 fun v26 w28 =>
  XR Tryz.prog R (Instr.loadAt 30 v26) w28 fun v27 w29 =>
  XP Tryz.prog (binOp .add 3 v21 (.int .i64 1)) w29 fun v28 w30 =>
  CALL Tryz.prog 118 #[v17, v21, v28] w30 fun v29 w31 =>
  R w30 w31 ∧
  XU Tryz.prog (Instr.mapUpdate 143 v25 v27 v29) w31 fun w32 =>
  joinS (fun ρ1 w33 =>
  ∃ R, Frame? R ∧
  XP Tryz.prog (nilS (ρ1 0)) (drewW w33) fun v30 w34 =>
  XP Tryz.prog (Instr.fieldAt 146 v30 2) w34 fun v31 w35 =>
  XR Tryz.prog R (Instr.loadAt 144 v31) w35 fun v32 w36 =>
  XP Tryz.prog (Instr.fieldAt 104 (ρ1 5) 0) w36 fun v33 w37 =>
  XR Tryz.prog R (Instr.loadAt 3 v33) w37 fun v34 w38 =>
  XR Tryz.prog R (Instr.lookup 144 v32 v34 false) w38 fun v35 w39 =>
  XR Tryz.prog R (Instr.loadAt 33 (ρ1 3)) w39 fun v36 w40 =>
  X Tryz.prog (Builtin.delete_ #[157, 33] 0 #[v35, v36]) w40 fun _ w41 =>
  R w40 w41 ∧
  joinS (fun ρ2 w42 =>
  K (.bool true) w42) fun J2 =>
  ∃ R, Frame? R ∧
  XP Tryz.prog (nilS (ρ1 0)) (drewW w41) fun v37 w43 =>
  XP Tryz.prog (Instr.fieldAt 146 v37 2) w43 fun v38 w44 =>
  XR Tryz.prog R (Instr.loadAt 144 v38) w44 fun v39 w45 =>
  XP Tryz.prog (Instr.fieldAt 104 (ρ1 5) 0) w45 fun v40 w46 =>
  XR Tryz.prog R (Instr.loadAt 3 v40) w46 fun v41 w47 =>
  XR Tryz.prog R (Instr.lookup 144 v39 v41 false) w47 fun v42 w48 =>
  XP Tryz.prog (Builtin.len_ #[157] 3 #[v42]) w48 fun v43 w49 =>
  XP Tryz.prog (binOpG .eql 3 (.tmp 78) (.const (.int .i64 0)) v43 (.int .i64 0)) w49 fun v44 w50 =>
  condS v44 (
  ∃ R, Frame? R ∧
  XP Tryz.prog (nilS (ρ1 0)) (drewW w50) fun v45 w51 =>
  XP Tryz.prog (Instr.fieldAt 146 v45 2) w51 fun v46 w52 =>
  XR Tryz.prog R (Instr.loadAt 144 v46) w52 fun v47 w53 =>
  XP Tryz.prog (Instr.fieldAt 104 (ρ1 5) 0) w53 fun v48 w54 =>
  XR Tryz.prog R (Instr.loadAt 3 v48) w54 fun v49 w55 =>
  X Tryz.prog (Builtin.delete_ #[144, 3] 0 #[v47, v49]) w55 fun _ w56 =>
  J2 (upds ρ1 [(85, v49), (84, v48), (83, v47), (82, v46), (81, v45), (80, (ρ1 0)), (79, v44), (78, v43), (77, v42), (76, v41), (75, v40), (74, v39), (73, v38), (72, v37), (71, (ρ1 0)), (70, v36), (69, v35), (68, v34), (67, v33), (66, v32), (65, v31), (64, v30), (63, (ρ1 0))]) w56) (
  J2 (upds ρ1 [(79, v44), (78, v43), (77, v42), (76, v41), (75, v40), (74, v39), (73, v38), (72, v37), (71, (ρ1 0)), (70, v36), (69, v35), (68, v34), (67, v33), (66, v32), (65, v31), (64, v30), (63, (ρ1 0))]) w50)) fun J1 =>
  ∃ R, Frame? R ∧
  XP Tryz.prog (nilS x0) (drewW w32) fun v50 w57 =>
  XP Tryz.prog (Instr.fieldAt 146 v50 1) w57 fun v51 w58 =>
  XR Tryz.prog R (Instr.loadAt 143 v51) w58 fun v52 w59 =>
  XP Tryz.prog (Instr.fieldAt 33 v1 0) w59 fun v53 w60 =>
  XR Tryz.prog R (Instr.loadAt 30 v53) w60 fun v54 w61 =>
  XR Tryz.prog R (Instr.lookup 143 v52 v54 false) w61 fun v55 w62 =>
  XP Tryz.prog (Builtin.len_ #[141] 3 #[v55]) w62 fun v56 w63 =>
  XP Tryz.prog (binOpG .eql 3 (.tmp 55) (.const (.int .i64 0)) v56 (.int .i64 0)) w63 fun v57 w64 =>
  condS v57 (
  ∃ R, Frame? R ∧
  XP Tryz.prog (nilS x0) (drewW w64) fun v58 w65 =>
  XP Tryz.prog (Instr.fieldAt 146 v58 1) w65 fun v59 w66 =>
  XR Tryz.prog R (Instr.loadAt 143 v59) w66 fun v60 w67 =>
  XP Tryz.prog (Instr.fieldAt 33 v1 0) w67 fun v61 w68 =>
  XR Tryz.prog R (Instr.loadAt 30 v61) w68 fun v62 w69 =>
  X Tryz.prog (Builtin.delete_ #[143, 30] 0 #[v60, v62]) w69 fun _ w70 =>
  J1 (upds (env0 #[x0, x1]) [(62, v62), (61, v61), (60, v60), (59, v59), (58, v58), (57, x0), (56, v57), (55, v56), (54, v55), (53, v54), (52, v53), (51, v52), (50, v51), (49, v50), (48, x0), (47, v29), (46, v28), (45, v21), (44, v21), (43, v17), (42, v27), (41, v26), (40, v25), (39, v24), (38, v23), (37, x0), (9, v22), (8, v21), (36, v22), (35, v21), (30, v20), (34, v20), (33, v19), (32, v18), (31, v17), (7, v17), (29, v17), (28, v16), (27, v15), (26, v14), (25, v13), (24, v12), (23, x0), (22, v11), (21, v10), (20, v9), (19, v8), (18, x0), (17, v7), (16, v5), (6, v5), (5, v6), (15, v5), (14, v4), (10, v3), (13, v3), (12, v2), (11, x0), (4, (.bool false)), (3, v1)]) w70) (
  J1 (upds (env0 #[x0, x1]) [(56, v57), (55, v56), (54, v55), (53, v54), (52, v53), (51, v52), (50, v51), (49, v50), (48, x0), (47, v29), (46, v28), (45, v21), (44, v21), (43, v17), (42, v27), (41, v26), (40, v25), (39, v24), (38, v23), (37, x0), (9, v22), (8, v21), (36, v22), (35, v21), (30, v20), (34, v20), (33, v19), (32, v18), (31, v17), (7, v17), (29, v17), (28, v16), (27, v15), (26, v14), (25, v13), (24, v12), (23, x0), (22, v11), (21, v10), (20, v9), (19, v8), (18, x0), (17, v7), (16, v5), (6, v5), (5, v6), (15, v5), (14, v4), (10, v3), (13, v3), (12, v2), (11, x0), (4, (.bool false)), (3, v1)]) w64))
theorem eq_index_Index_Drop (x0 x1 : Value) (w : World) (K : Value → World → Prop) :
    sh Tryz.prog (Tryz.f101.body.getD .skip) (retS Tryz.prog Tryz.f101.results K) (env0 #[x0, x1]) w = B_index_Index_Drop x0 x1 w K := by kernel_rfl
theorem call_index_Index_Drop (x0 x1 : Value) (w : World) (K : Value → World → Prop) (h : B_index_Index_Drop x0 x1 w K) : CALL Tryz.prog 101 #[x0, x1] w K :=
  call_of_eq (c := Tryz.f101.body.getD .skip) mixed Tryz.func101 (by kernel_rfl) (by kernel_rfl) (by kernel_rfl) (Nat.le_of_ble_eq_true (by kernel_rfl)) (eq_index_Index_Drop x0 x1 w K) h
def B_index_Index_Put (x0 x1 x2 : Value) (w : World) (K : Value → World → Prop) : Prop :=
  X Tryz.prog (Instr.box 33 x1) w fun v1 w1 =>
  X Tryz.prog (Instr.box 104 x2) w1 fun v2 w2 =>
  X Tryz.prog (binOpG .eql 101 (.tmp 11) (.const (.pointer none)) x0 (.pointer none)) w2 fun v3 w3 =>
  condS v3 (
  K (.bool false) w3) (
  X Tryz.prog (Instr.loadAt 33 v1) w3 fun v4 w4 =>
  CALL Tryz.prog 101 #[x0, v4] w4 fun v5 w5 =>
  ∃ R, Frame? R ∧
  XP Tryz.prog (nilS x0) (drewW w5) fun v6 w6 =>
  XP Tryz.prog (Instr.fieldAt 146 v6 0) w6 fun v7 w7 =>
  XR Tryz.prog R (Instr.loadAt 142 v7) w7 fun v8 w8 =>
  XR Tryz.prog R (Instr.loadAt 33 v1) w8 fun v9 w9 =>
  XR Tryz.prog R (Instr.loadAt 104 v2) w9 fun v10 w10 =>
  XU Tryz.prog (Instr.mapUpdate 142 v8 v9 v10) w10 fun w11 =>
  ∃ R, Frame? R ∧
  XP Tryz.prog (nilS x0) (drewW w11) fun v11 w12 =>
  XP Tryz.prog (Instr.fieldAt 146 v11 1) w12 fun v12 w13 =>
  XR Tryz.prog R (Instr.loadAt 143 v12) w13 fun v13 w14 =>
  XP Tryz.prog (Instr.fieldAt 33 v1 0) w14 fun v14 w15 =>
  XR Tryz.prog R (Instr.loadAt 30 v14) w15 fun v15 w16 =>
  XR Tryz.prog R (Instr.lookup 143 v13 v15 false) w16 fun v16 w17 =>
  X Tryz.prog (Instr.fieldAt 33 v1 1) w17 fun v17 w18 =>
  X Tryz.prog (Instr.loadAt 31 v17) w18 fun v18 w19 =>
  CALL Tryz.prog 102 #[v16, v18] w19 fun v19 w20 =>
  X Tryz.prog (Instr.extract v19 0) w20 fun v20 w21 =>
  X Tryz.prog (Instr.extract v19 1) w21 fun v21 w22 =>
  ∃ R, Frame? R ∧
  XP Tryz.prog (nilS x0) (drewW w22) fun v22 w23 =>
  XP Tryz.prog (Instr.fieldAt 146 v22 1) w23 fun v23 w24 =>
  XR Tryz.prog R (Instr.loadAt 143 v23) w24 fun v24 w25 =>
  XP Tryz.prog (Instr.fieldAt 33 v1 0) w25 fun v25 w26 =>
  XR Tryz.prog R (Instr.loadAt 30 v25) w26 fun v26 w27 =>
  XP Tryz.prog (Instr.fieldAt 33 v1 1) w27 fun v27 w28 =>
  XR Tryz.prog R (Instr.loadAt 31 v27) w28 fun v28 w29 =>
  X Tryz.prog (Instr.buildSlice 141 1 #[(0, v28)]) w29 fun v29 w30 =>
  R w29 w30 ∧
  CALL Tryz.prog 103 #[v16, v20, v29] w30 fun v30 w31 =>
  R w30 w31 ∧
  XU Tryz.prog (Instr.mapUpdate 143 v24 v26 v30) w31 fun w32 =>
  joinS (fun ρ1 w33 =>
  ∃ R, Frame? R ∧
  XP Tryz.prog (nilS (ρ1 0)) (drewW w33) fun v31 w34 =>
  XP Tryz.prog (Instr.fieldAt 146 v31 2) w34 fun v32 w35 =>
  XR Tryz.prog R (Instr.loadAt 144 v32) w35 fun v33 w36 =>
  XP Tryz.prog (Instr.fieldAt 104 (ρ1 5) 0) w36 fun v34 w37 =>
  XR Tryz.prog R (Instr.loadAt 3 v34) w37 fun v35 w38 =>
  XR Tryz.prog R (Instr.lookup 144 v33 v35 false) w38 fun v36 w39 =>
  XR Tryz.prog R (Instr.loadAt 33 (ρ1 4)) w39 fun v37 w40 =>
  XU Tryz.prog (Instr.mapUpdate 157 v36 v37 (.bool true)) w40 fun w41 =>
  K (ρ1 7) w41) fun J1 =>
  ∃ R, Frame? R ∧
  XP Tryz.prog (nilS x0) (drewW w32) fun v38 w42 =>
  XP Tryz.prog (Instr.fieldAt 146 v38 2) w42 fun v39 w43 =>
  XR Tryz.prog R (Instr.loadAt 144 v39) w43 fun v40 w44 =>
  XP Tryz.prog (Instr.fieldAt 104 v2 0) w44 fun v41 w45 =>
  XR Tryz.prog R (Instr.loadAt 3 v41) w45 fun v42 w46 =>
  XR Tryz.prog R (Instr.lookup 144 v40 v42 false) w46 fun v43 w47 =>
  XP Tryz.prog (binOpG .eql 157 (.tmp 54) (.const (.map none)) v43 (.map none)) w47 fun v44 w48 =>
  condS v44 (
  ∃ R, Frame? R ∧
  XP Tryz.prog (nilS x0) (drewW w48) fun v45 w49 =>
  XP Tryz.prog (Instr.fieldAt 146 v45 2) w49 fun v46 w50 =>
  XR Tryz.prog R (Instr.loadAt 144 v46) w50 fun v47 w51 =>
  XP Tryz.prog (Instr.fieldAt 104 v2 0) w51 fun v48 w52 =>
  XR Tryz.prog R (Instr.loadAt 3 v48) w52 fun v49 w53 =>
  X Tryz.prog (Instr.makeMap 157 none) w53 fun v50 w54 =>
  R w53 w54 ∧
  XU Tryz.prog (Instr.mapUpdate 144 v47 v49 v50) w54 fun w55 =>
  J1 (upds (env0 #[x0, x1, x2]) [(62, v50), (61, v49), (60, v48), (59, v47), (58, v46), (57, v45), (56, x0), (55, v44), (54, v43), (53, v42), (52, v41), (51, v40), (50, v39), (49, v38), (48, x0), (47, v30), (46, v29), (45, v28), (44, v27), (43, v20), (42, v16), (41, v26), (40, v25), (39, v24), (38, v23), (37, v22), (36, x0), (10, v21), (9, v20), (35, v21), (34, v20), (29, v19), (33, v19), (32, v18), (31, v17), (30, v16), (8, v16), (28, v16), (27, v15), (26, v14), (25, v13), (24, v12), (23, v11), (22, x0), (21, v10), (20, v9), (19, v8), (18, v7), (17, v6), (16, x0), (7, v5), (15, v5), (14, v4), (13, x0), (12, v3), (11, x0), (6, (.bool false)), (5, v2), (4, v1)]) w55) (
  J1 (upds (env0 #[x0, x1, x2]) [(55, v44), (54, v43), (53, v42), (52, v41), (51, v40), (50, v39), (49, v38), (48, x0), (47, v30), (46, v29), (45, v28), (44, v27), (43, v20), (42, v16), (41, v26), (40, v25), (39, v24), (38, v23), (37, v22), (36, x0), (10, v21), (9, v20), (35, v21), (34, v20), (29, v19), (33, v19), (32, v18), (31, v17), (30, v16), (8, v16), (28, v16), (27, v15), (26, v14), (25, v13), (24, v12), (23, v11), (22, x0), (21, v10), (20, v9), (19, v8), (18, v7), (17, v6), (16, x0), (7, v5), (15, v5), (14, v4), (13, x0), (12, v3), (11, x0), (6, (.bool false)), (5, v2), (4, v1)]) w48))
theorem eq_index_Index_Put (x0 x1 x2 : Value) (w : World) (K : Value → World → Prop) :
    sh Tryz.prog (Tryz.f76.body.getD .skip) (retS Tryz.prog Tryz.f76.results K) (env0 #[x0, x1, x2]) w = B_index_Index_Put x0 x1 x2 w K := by kernel_rfl
theorem call_index_Index_Put (x0 x1 x2 : Value) (w : World) (K : Value → World → Prop) (h : B_index_Index_Put x0 x1 x2 w K) : CALL Tryz.prog 76 #[x0, x1, x2] w K :=
  call_of_eq (c := Tryz.f76.body.getD .skip) mixed Tryz.func76 (by kernel_rfl) (by kernel_rfl) (by kernel_rfl) (Nat.le_of_ble_eq_true (by kernel_rfl)) (eq_index_Index_Put x0 x1 x2 w K) h
def B_index_Index_Twins (x0 x1 : Value) (w : World) (K : Value → World → Prop) : Prop :=
  X Tryz.prog (Instr.box 30 x1) w fun v1 w1 =>
  X Tryz.prog (binOpG .eql 101 (.tmp 8) (.const (.pointer none)) x0 (.pointer none)) w1 fun v2 w2 =>
  condS v2 (
  K (.slice none 0 0) w2) (
  ∃ R, Frame? R ∧
  XP Tryz.prog (nilS x0) (drewW w2) fun v3 w3 =>
  XP Tryz.prog (Instr.fieldAt 146 v3 1) w3 fun v4 w4 =>
  XR Tryz.prog R (Instr.loadAt 143 v4) w4 fun v5 w5 =>
  XR Tryz.prog R (Instr.loadAt 30 v1) w5 fun v6 w6 =>
  XR Tryz.prog R (Instr.lookup 143 v5 v6 false) w6 fun v7 w7 =>
  XP Tryz.prog (Builtin.len_ #[141] 3 #[v7]) w7 fun v8 w8 =>
  loopS (fun Q1 ρ1 w9 =>
  X Tryz.prog (binOp .lss 3 (ρ1 17) (ρ1 16)) w9 fun v9 w10 =>
  condS v9 (
  X Tryz.prog (Instr.indexAt 141 (ρ1 15) (ρ1 17)) w10 fun v10 w11 =>
  X Tryz.prog (Instr.loadAt 31 v10) w11 fun v11 w12 =>
  X Tryz.prog (Instr.loadAt 30 (ρ1 3)) w12 fun v12 w13 =>
  X Tryz.prog (Instr.build 33 #[(0, v12), (1, v11)]) w13 fun v13 w14 =>
  X Tryz.prog (Instr.buildSlice 67 1 #[(0, v13)]) w14 fun v14 w15 =>
  X Tryz.prog (Builtin.append_ #[67, 67] 67 #[(ρ1 5), v14]) w15 fun v15 w16 =>
  X Tryz.prog (binOp .add 3 (ρ1 17) (.int .i64 1)) w16 fun v16 w17 =>
  Q1 .normal (upds ρ1 [(17, v16), (27, v16), (5, v15), (26, v15), (25, v14), (24, v13), (23, v11), (22, v12), (21, (ρ1 5)), (7, v11), (20, v11), (19, v10), (18, v9)]) w17) (
  Q1 (.exit 0) (upds ρ1 [(18, v9)]) w10)) (inBlockS 0 (thenS (fun ρ2 w18 =>
  K (ρ2 5) w18) (retS Tryz.prog (Tryz.f41).results K))) (upds (env0 #[x0, x1]) [(17, (.int .i64 0)), (16, v8), (15, v7), (14, v6), (13, v5), (12, v4), (11, v3), (10, x0), (5, (.slice none 0 0)), (9, v2), (8, x0), (4, (.slice none 0 0)), (3, v1)]) w8)
theorem eq_index_Index_Twins (x0 x1 : Value) (w : World) (K : Value → World → Prop) :
    sh Tryz.prog (Tryz.f41.body.getD .skip) (retS Tryz.prog Tryz.f41.results K) (env0 #[x0, x1]) w = B_index_Index_Twins x0 x1 w K := by kernel_rfl
theorem call_index_Index_Twins (x0 x1 : Value) (w : World) (K : Value → World → Prop) (h : B_index_Index_Twins x0 x1 w K) : CALL Tryz.prog 41 #[x0, x1] w K :=
  call_of_eq (c := Tryz.f41.body.getD .skip) mixed Tryz.func41 (by kernel_rfl) (by kernel_rfl) (by kernel_rfl) (Nat.le_of_ble_eq_true (by kernel_rfl)) (eq_index_Index_Twins x0 x1 w K) h
def B_index_Index_Shelf (x0 x1 : Value) (w : World) (K : Value → World → Prop) : Prop :=
  X Tryz.prog (binOpG .eql 101 (.tmp 7) (.const (.pointer none)) x0 (.pointer none)) w fun v1 w1 =>
  condS v1 (
  K (.slice none 0 0) w1) (
  X Tryz.prog (nilS x0) w1 fun v2 w2 =>
  X Tryz.prog (Instr.fieldAt 146 v2 2) w2 fun v3 w3 =>
  X Tryz.prog (Instr.loadAt 144 v3) w3 fun v4 w4 =>
  X Tryz.prog (Instr.lookup 144 v4 x1 false) w4 fun v5 w5 =>
  X Tryz.prog (Instr.range 157 v5) w5 fun v6 w6 =>
  loopS (fun Q1 ρ1 w7 =>
  X Tryz.prog (Instr.next (ρ1 15) false 0) w7 fun v7 w8 =>
  X Tryz.prog (Instr.extract v7 0) w8 fun v8 w9 =>
  condS v8 (
  X Tryz.prog (Instr.entry (ρ1 15)) w9 fun v9 w10 =>
  X Tryz.prog (Instr.extract v9 0) w10 fun v10 w11 =>
  X Tryz.prog (Instr.alloc 33 true (.tuple #[])) w11 fun v11 w12 =>
  XU Tryz.prog (Instr.storeAt 33 v11 v10) w12 fun w13 =>
  ∃ R, Frame? R ∧
  XR Tryz.prog R (Instr.loadAt 33 v11) (drewW w13) fun v12 w14 =>
  XP Tryz.prog (nilS (ρ1 0)) w14 fun v13 w15 =>
  XP Tryz.prog (Instr.fieldAt 146 v13 0) w15 fun v14 w16 =>
  XR Tryz.prog R (Instr.loadAt 142 v14) w16 fun v15 w17 =>
  XR Tryz.prog R (Instr.loadAt 33 v11) w17 fun v16 w18 =>
  XR Tryz.prog R (Instr.lookup 142 v15 v16 false) w18 fun v17 w19 =>
  XP Tryz.prog (Instr.build 184 #[(0, v12), (1, v17)]) w19 fun v18 w20 =>
  X Tryz.prog (Instr.buildSlice 150 1 #[(0, v18)]) w20 fun v19 w21 =>
  R w20 w21 ∧
  X Tryz.prog (Builtin.append_ #[150, 150] 150 #[(ρ1 5), v19]) w21 fun v20 w22 =>
  R w21 w22 ∧
  Q1 .normal (upds ρ1 [(5, v20), (30, v20), (29, v19), (28, v18), (27, v17), (26, v16), (25, v15), (24, v14), (23, v13), (22, (ρ1 0)), (21, v12), (20, (ρ1 5)), (6, v11), (19, v10), (18, v9), (17, v8), (16, v7)]) w22) (
  Q1 (.exit 0) (upds ρ1 [(17, v8), (16, v7)]) w9)) (inBlockS 0 (thenS (fun ρ2 w23 =>
  CALL Tryz.prog 110 #[(ρ2 5), (.func (.func 111) #[] #[])] w23 fun v21 w24 =>
  K (ρ2 5) w24) (retS Tryz.prog (Tryz.f90).results K))) (upds (env0 #[x0, x1]) [(15, v6), (14, v5), (13, x1), (12, v4), (11, v3), (10, v2), (9, x0), (5, (.slice none 0 0)), (8, v1), (7, x0), (4, (.slice none 0 0))]) w6)
theorem eq_index_Index_Shelf (x0 x1 : Value) (w : World) (K : Value → World → Prop) :
    sh Tryz.prog (Tryz.f90.body.getD .skip) (retS Tryz.prog Tryz.f90.results K) (env0 #[x0, x1]) w = B_index_Index_Shelf x0 x1 w K := by kernel_rfl
theorem call_index_Index_Shelf (x0 x1 : Value) (w : World) (K : Value → World → Prop) (h : B_index_Index_Shelf x0 x1 w K) : CALL Tryz.prog 90 #[x0, x1] w K :=
  call_of_eq (c := Tryz.f90.body.getD .skip) mixed Tryz.func90 (by kernel_rfl) (by kernel_rfl) (by kernel_rfl) (Nat.le_of_ble_eq_true (by kernel_rfl)) (eq_index_Index_Shelf x0 x1 w K) h
end Go.Proofs.YtcigpjejbkngfaaGreatDoor
end
section
set_option maxRecDepth 8000
namespace Go.Proofs.YtcigpjejbkngfaaGreatDoor
open Go Go.Sh Go.RowKit
attribute [local irreducible] X XU XP XR CALL loopS resC closS
def numsOf (R : List Ex) (s : List UInt8) : List Nat := (R.filter fun r => decide (r.k.sum = s)).map fun r => r.k.num
def onShelf (R : List Ex) (a : Int) : List Ex := R.filter fun r => decide (r.off = a)
abbrev plE (r : Ex) : Value × Value := (r.k.v, plV (r.off, r.len))
abbrev kB (r : Ex) : Value × Value := (r.k.v, .bool true)
abbrev twV (t : List UInt8 × Value) : Value × Value := (sumV t.1, t.2)
structure IdxAt (w : World) (D : Nat → Prop) (xb : Nat) (R : List Ex) : Prop where
  ex : ∃ (pb tb sb : Nat) (tw : List (List UInt8 × Value)) (sh : List (Int × Nat)),
    w.heap[xb]? = some (.cells #[.map (some pb), .map (some tb), .map (some sb)] 146 (0, 0)) ∧ MapAt w pb (R.map plE) ∧
    (MapAt w tb (tw.map twV) ∧ (tw.map Prod.fst).Nodup ∧ (∀ s, s ∈ tw.map Prod.fst ↔ ∃ r ∈ R, r.k.sum = s) ∧ (∀ t ∈ tw, OwnK 1 31 u32C w 0 t.2 (numsOf R t.1) ∧ ∀ g, t.2.ownBlock = some g → D g) ∧
      ∀ t ∈ tw, ∀ t' ∈ tw, ∀ g, t.2.ownBlock = some g → t'.2.ownBlock = some g → t.1 = t'.1) ∧
    (MapAt w sb (sh.map tbV) ∧ (sh.map Prod.fst).Nodup ∧ (∀ a, a ∈ sh.map Prod.fst ↔ ∃ r ∈ R, r.off = a) ∧ (∀ p ∈ sh, MapS w p.2 ((onShelf R p.1).map kB) ∧ D p.2 ∧ p.2 ≠ pb ∧ p.2 ≠ tb ∧ p.2 ≠ sb) ∧
      ∀ p ∈ sh, ∀ p' ∈ sh, p.2 = p'.2 → p.1 = p'.1) ∧
    D xb ∧ D pb ∧ D tb ∧ D sb ∧ pb ≠ tb ∧ pb ≠ sb ∧ tb ≠ sb
  lt : ∀ g, D g → g < w.heap.size
  nodup : (R.map Ex.k).Nodup
theorem IdxAt.keep {w w1 : World} {D E : Nat → Prop} {xb : Nat} {R : List Ex} (h : IdxAt w D xb R) (k : Keep E w w1) (hd : ∀ g, D g → ¬ E g) : IdxAt w1 D xb R := by
  obtain ⟨⟨pb, tb, sb, tw, sh, h1, h2, ⟨a1, a2, a3, a4, a5⟩, ⟨b1, b2, b3, b4, b5⟩, c1, c2, c3, c4, c5⟩, hlt, hnd⟩ := h
  exact ⟨⟨pb, tb, sb, tw, sh, k.get (hd _ c1) h1, h2.keep k (hd _ c2), ⟨a1.keep k (hd _ c3), a2, a3, fun t ht => ⟨(a4 t ht).1.keep k (fun g hg => hd _ ((a4 t ht).2 g hg)), (a4 t ht).2⟩, a5⟩,
    ⟨b1.keep k (hd _ c4), b2, b3, fun p hp => ⟨(b4 p hp).1.keep k (hd _ (b4 p hp).2.1), (b4 p hp).2⟩, b5⟩, c1, c2, c3, c4, c5⟩, fun g hg => by have := hlt g hg; have := k.size; omega, hnd⟩
theorem IdxAt.ext {w w1 : World} {D : Nat → Prop} {xb : Nat} {R : List Ex} (h : IdxAt w D xb R) (k : Ext w w1) : IdxAt w1 D xb R := h.keep k (fun _ _ h => h)
theorem findR_mem {R : List Ex} (hn : (R.map Ex.k).Nodup) {r : Ex} (hr : r ∈ R) : findR R r.k = some (r.off, r.len) := by
  obtain ⟨i, hi, rfl⟩ := List.mem_iff_getElem.1 hr
  unfold findR
  have : R.find? (fun x => decide (x.k = R[i].k)) = some R[i] := by
    rw [List.find?_eq_some_iff_getElem]
    refine ⟨by simp, i, hi, rfl, fun j hj => ?_⟩
    have : R[j].k ≠ R[i].k := fun h => by
      have e1 : (R.map Ex.k)[j]'(by rw [List.length_map]; omega) = (R.map Ex.k)[i]'(by rw [List.length_map]; exact hi) := by simpa using h
      have := (List.getElem_inj hn).1 e1
      omega
    simpa using this
  rw [this]
  rfl
theorem findR_not {R : List Ex} {k : Ky} (h : k ∉ R.map Ex.k) : findR R k = none := by
  unfold findR
  have : R.find? (fun r => decide (r.k = k)) = none := List.find?_eq_none.2 (fun r hr => by
    have : r.k ≠ k := fun he => h (List.mem_map.2 ⟨r, hr, he⟩)
    simpa using this)
  rw [this]
  rfl
theorem keys_all (R : List Ex) : ∀ p ∈ R.map plE, ∃ x, keyOf Tryz.prog 33 p.1 = some x := fun p hp => by
  obtain ⟨e, _, rfl⟩ := List.mem_map.1 hp
  exact keyOf_ky e.k
theorem keysB_all (R : List Ex) : ∀ p ∈ R.map kB, ∃ x, keyOf Tryz.prog 33 p.1 = some x := fun p hp => by
  obtain ⟨e, _, rfl⟩ := List.mem_map.1 hp
  exact keyOf_ky e.k
theorem run_places {w : World} {pb : Nat} {R : List Ex} (hm : MapAt w pb (R.map plE)) (hn : (R.map Ex.k).Nodup) (k : Ky) (c : Bool) :
    (Instr.lookup 142 (.map (some pb)) k.v c).run Tryz.prog w = .ok (if c then .tuple #[plV ((findR R k).getD (0, 0)), .bool (findR R k).isSome] else plV ((findR R k).getD (0, 0))) w := by
  obtain ⟨kl, hkl⟩ := keyOf_ky k
  rcases run_lookupM (P := Tryz.prog) keyed33 Tryz.underlying142 zero_104 hm (keys_all R) hkl c with ⟨hno, hrun⟩ | ⟨p, hp, hpk, hrun⟩
  · have hf : findR R k = none := findR_not (fun h => by
      obtain ⟨r, hr, rfl⟩ := List.mem_map.1 h
      exact hno (plE r) (List.mem_map.2 ⟨r, hr, rfl⟩) rfl)
    rw [hrun, hf]
    rfl
  · obtain ⟨r, hr, rfl⟩ := List.mem_map.1 hp
    have hk : r.k = k := Ky.v_inj hpk
    have hf := findR_mem hn hr
    rw [hk] at hf
    rw [hrun, hf]
    rfl
theorem run_build_146 (a b c : Nat) (w : World) : (Instr.build 146 #[(0, .map (some a)), (1, .map (some b)), (2, .map (some c))]).run Tryz.prog w = .ok (.agg #[.map (some a), .map (some b), .map (some c)]) w := by kernel_rfl
theorem key_load {w : World} {g : Nat} {k : Ky} (hg : w.heap[g]? = some (.cells k.cs.toArray 33 (0, 0))) : (Instr.loadAt 33 (ptr g)).run Tryz.prog w = .ok k.v w :=
  load_cells Tryz.underlying33 agg_33 info_33 (l := k.cs) (by rw [sz_33, Ky.cs_len]) (fun j u hj => by rw [add_plain, Nat.zero_add, cell_blk hg]; rw [← List.getElem?_toArray] at hj; exact hj)
section
variable {w : World} {K : Value → World → Prop}
theorem INew_spec (hK : ∀ xb w1, Ext w w1 → IdxAt w1 (fun g => w.heap.size ≤ g ∧ g < w1.heap.size) xb [] → K (ptr xb) w1) : CALL Tryz.prog 59 #[] w K := by
  apply call_index_New
  unfold B_index_New
  refine X_makeMap0 ?_
  have hx1 := newM_ext w
  have hm1 := newM_at w
  have hs1 : (newM w).heap.size = w.heap.size + 1 := by show (w.heap.push _).size = _; rw [Array.size_push]
  generalize newM w = w1 at hx1 hm1 hs1 ⊢
  refine X_makeMap0 ?_
  have hx2 := newM_ext w1
  have hm2 := newM_at w1
  have hs2 : (newM w1).heap.size = w1.heap.size + 1 := by show (w1.heap.push _).size = _; rw [Array.size_push]
  generalize newM w1 = w2 at hx2 hm2 hs2 ⊢
  refine X_makeMap0 ?_
  have hx3 := newM_ext w2
  have hm3 := newM_at w2
  have hs3 : (newM w2).heap.size = w2.heap.size + 1 := by show (w2.heap.push _).size = _; rw [Array.size_push]
  generalize newM w2 = w3 at hx3 hm3 hs3 ⊢
  refine X_of (run_build_146 _ _ _ _) ?_
  refine X_box ?_
  have hx4 := newB_ext w3 (Value.agg #[.map (some w.heap.size), .map (some w1.heap.size), .map (some w2.heap.size)]).cells 146
  have hg4 : (newB w3 (Value.agg #[.map (some w.heap.size), .map (some w1.heap.size), .map (some w2.heap.size)]).cells 146).heap[w3.heap.size]? = some (.cells #[.map (some w.heap.size), .map (some w1.heap.size), .map (some w2.heap.size)] 146 (0, 0)) := newB_get _ _ _
  have hs4 : (newB w3 (Value.agg #[.map (some w.heap.size), .map (some w1.heap.size), .map (some w2.heap.size)]).cells 146).heap.size = w3.heap.size + 1 := newB_size _ _ _
  generalize newB w3 (Value.agg #[.map (some w.heap.size), .map (some w1.heap.size), .map (some w2.heap.size)]).cells 146 = w4 at hx4 hg4 hs4 ⊢
  refine hK _ w4 (((hx1.trans hx2).trans hx3).trans hx4) ⟨⟨w.heap.size, w1.heap.size, w2.heap.size, [], [], hg4, ((hm1.ext hx2).ext hx3).ext hx4, ⟨(hm2.ext hx3).ext hx4, by simp, by simp, by simp, by simp⟩, ⟨hm3.ext hx4, by simp, by simp, by simp, by simp⟩, by omega, by omega, by omega, by omega, by omega, by omega, by omega⟩, fun g hg => hg.2, by simp⟩
theorem IGet_spec {D : Nat → Prop} {xb : Nat} {R : List Ex} {k : Ky} (h : IdxAt w D xb R) (hK : ∀ w1, Ext w w1 → K (.tuple #[plV ((findR R k).getD (0, 0)), .bool (findR R k).isSome]) w1) : CALL Tryz.prog 65 #[ptr xb, k.v] w K := by
  obtain ⟨⟨pb, tb, sb, tw, sh, h1, h2, _⟩, hlt, hnd⟩ := h
  apply call_index_Index_Get
  unfold B_index_Index_Get
  refine X_box ?_
  have hx1 := newB_ext w k.v.cells 33
  have hg1 : (newB w k.v.cells 33).heap[w.heap.size]? = some (.cells k.cs.toArray 33 (0, 0)) := newB_get w k.v.cells 33
  generalize newB w k.v.cells 33 = w1 at hx1 hg1 ⊢
  generalize w.heap.size = kb at hg1 ⊢
  refine X_alloc zero_104 ?_
  have hx2 := newB_ext w1 (Value.agg #[(.int .i64 0), (.int .i64 0)]).cells 104
  have hg2 : (newB w1 (Value.agg #[(.int .i64 0), (.int .i64 0)]).cells 104).heap[w1.heap.size]? = some (.cells [Value.int .i64 0, Value.int .i64 0].toArray 104 (0, 0)) := newB_get _ _ _
  have hs1 := hx1.size
  generalize newB w1 (Value.agg #[(.int .i64 0), (.int .i64 0)]).cells 104 = w2 at hx2 hg2 ⊢
  have hx02 := hx1.trans hx2
  have hg12 := Ext.get hx2 hg1
  have hltb := lt_of_blk hg2
  generalize hrb : w1.heap.size = rb at hg2 hs1 hltb
  (repeat (simp only [SLB, Int.reduceEq, Int.reduceNe, Int.reduceLT, Int.reduceLE, Int.reduceGT, Int.reduceGE]))
  have kd := Keep.drew (fun _ => False) w2
  have hx0d := hx02.trans kd
  have hg1d := Ext.get kd hg12
  have hg2d := Ext.get kd hg2
  have sd : (drewW w2).heap.size = w2.heap.size := rfl
  refine ⟨Ext, Ext.frame, ?_⟩
  generalize drewW w2 = wd at hx0d hg1d hg2d sd ⊢
  (repeat (simp only [SLB, Int.reduceEq, Int.reduceNe, Int.reduceLT, Int.reduceLE, Int.reduceGT, Int.reduceGE, XP_field_146_0]))
  refine XR_ok Ext.frame (fun w' kk => run_loadAt (v := .map (some pb)) agg_142 ((cell_blk (Ext.get (hx0d.trans kk) h1)).trans rfl)) ?_
  refine XR_ok Ext.frame (fun w' kk => key_load (Ext.get kk hg1d)) ?_
  refine XR_ok Ext.frame (fun w' kk => run_places (h2.ext (hx0d.trans kk)) hnd k true) ?_
  generalize hp : (findR R k).getD (0, 0) = p at hK ⊢
  generalize (findR R k).isSome = b at hK ⊢
  rw [if_pos rfl]
  (repeat (simp only [SLB, Int.reduceEq, Int.reduceNe, Int.reduceLT, Int.reduceLE, Int.reduceGT, Int.reduceGE]))
  refine X_alloc zero_104 ?_
  have hx3 := newB_ext wd (Value.agg #[(.int .i64 0), (.int .i64 0)]).cells 104
  have hg3 : (newB wd (Value.agg #[(.int .i64 0), (.int .i64 0)]).cells 104).heap[wd.heap.size]? = some (.cells [Value.int .i64 0, Value.int .i64 0].toArray 104 (0, 0)) := newB_get _ _ _
  generalize newB wd (Value.agg #[(.int .i64 0), (.int .i64 0)]).cells 104 = w3 at hx3 hg3 ⊢
  refine ⟨hx3, ?_⟩
  have hone : ∀ u ∈ [Value.int .i64 p.1, Value.int .i64 p.2], u.oneCell' = true := by intro u hu; simp only [List.mem_cons, List.not_mem_nil, or_false] at hu; rcases hu with rfl | rfl <;> rfl
  refine XU_storeAgg (l := [.int .i64 p.1, .int .i64 p.2]) info_104 hg3 (by rw [sz_104]; rfl) (by rw [sz_104]; rfl) hone ?_
  have hk4 := setAt_keep w3 wd.heap.size [Value.int .i64 p.1, Value.int .i64 p.2].toArray 104 (0, 0)
  have hg4 : (setAt w3 wd.heap.size [Value.int .i64 p.1, Value.int .i64 p.2].toArray 104 (0, 0)).heap[wd.heap.size]? = some (.cells [Value.int .i64 p.1, Value.int .i64 p.2].toArray 104 (0, 0)) := setAt_same (lt_of_blk hg3)
  generalize setAt w3 wd.heap.size [Value.int .i64 p.1, Value.int .i64 p.2].toArray 104 (0, 0) = w4 at hk4 hg4 ⊢
  refine X_of (load_cells Tryz.underlying104 agg_104 info_104 (l := [Value.int .i64 p.1, Value.int .i64 p.2]) (by rw [sz_104]; rfl) (fun j u hj => by rw [add_plain, Nat.zero_add, cell_blk hg4]; rw [← List.getElem?_toArray] at hj; exact hj)) ?_
  have hg24 := hk4.get (by omega) (Ext.get hx3 hg2d)
  refine XU_storeAgg (l := [.int .i64 p.1, .int .i64 p.2]) info_104 hg24 (by rw [sz_104]; rfl) (by rw [sz_104]; rfl) hone ?_
  have hx04 : Ext w w4 := Ext.seq (hx0d.trans hx3) hk4 (fun g hg => by have := hx0d.size; omega)
  refine resC_agg Tryz.underlying104 agg_104 info_104 (setAt_same (lt_of_blk hg24)) (by rw [sz_104]; rfl) ?_
  exact hK _ (Ext.seq hx04 (setAt_keep _ _ _ _ _) (fun g hg => by have := hx1.size; omega))
theorem IDrop_none {D : Nat → Prop} {xb : Nat} {R : List Ex} {k : Ky} (h : IdxAt w D xb R) (hk : k ∉ R.map Ex.k) (hK : ∀ w1, Ext w w1 → K (.bool false) w1) : CALL Tryz.prog 101 #[ptr xb, k.v] w K := by
  apply call_index_Index_Drop
  unfold B_index_Index_Drop
  refine X_box ?_
  have hx1 := newB_ext w k.v.cells 33
  have hg1 : (newB w k.v.cells 33).heap[w.heap.size]? = some (.cells k.cs.toArray 33 (0, 0)) := newB_get w k.v.cells 33
  generalize newB w k.v.cells 33 = w1 at hx1 hg1 ⊢
  refine X_of (key_load hg1) ?_
  refine IGet_spec (h.ext hx1) ?_
  intro w2 hx2
  rw [findR_not hk]
  (repeat (simp only [SLB, Int.reduceEq, Int.reduceNe, Int.reduceLT, Int.reduceLE, Int.reduceGT, Int.reduceGE]))
  refine X_alloc zero_104 ?_
  have hx3 := newB_ext w2 (Value.agg #[(.int .i64 0), (.int .i64 0)]).cells 104
  have hg3 : (newB w2 (Value.agg #[(.int .i64 0), (.int .i64 0)]).cells 104).heap[w2.heap.size]? = some (.cells [Value.int .i64 0, Value.int .i64 0].toArray 104 (0, 0)) := newB_get _ _ _
  generalize newB w2 (Value.agg #[(.int .i64 0), (.int .i64 0)]).cells 104 = w3 at hx3 hg3 ⊢
  refine XU_storeAgg (l := [.int .i64 0, .int .i64 0]) info_104 hg3 (by rw [sz_104]; rfl) (by rw [sz_104]; rfl) (by intro u hu; simp at hu; rw [hu]; rfl) ?_
  (repeat (simp only [SLB, Int.reduceEq, Int.reduceNe, Int.reduceLT, Int.reduceLE, Int.reduceGT, Int.reduceGE]))
  have h02 := hx1.trans hx2
  exact hK _ (Ext.seq (h02.trans hx3) (setAt_keep _ _ _ _ _) (fun g hg => by have := h02.size; omega))
end
end Go.Proofs.YtcigpjejbkngfaaGreatDoor
end
section
namespace Go.Proofs.YtcigpjejbkngfaaGreatDoor
open Go Go.Sh
attribute [local irreducible] X XU XP XR CALL loopS resC closS
def B_cont_Size (x0 : Value) (w : World) (K : Value → World → Prop) : Prop :=
  X Tryz.prog (Builtin.len_ #[41] 3 #[x0]) w fun v1 w1 =>
  X Tryz.prog (binOp .mul 3 (.int .i64 38) v1) w1 fun v2 w2 =>
  X Tryz.prog (binOp .add 3 (.int .i64 10) v2) w2 fun v3 w3 =>
  X Tryz.prog (Builtin.len_ #[41] 3 #[x0]) w3 fun v4 w4 =>
  loopS (fun Q1 ρ1 w5 =>
  X Tryz.prog (binOp .lss 3 (ρ1 12) (ρ1 11)) w5 fun v5 w6 =>
  condS v5 (
  X Tryz.prog (Instr.indexAt 41 (ρ1 10) (ρ1 12)) w6 fun v6 w7 =>
  X Tryz.prog (Instr.loadAt 40 v6) w7 fun v7 w8 =>
  X Tryz.prog (Instr.alloc 40 true (.tuple #[])) w8 fun v8 w9 =>
  XU Tryz.prog (Instr.storeAt 40 v8 v7) w9 fun w10 =>
  X Tryz.prog (Instr.fieldAt 40 v8 1) w10 fun v9 w11 =>
  X Tryz.prog (Instr.loadAt 28 v9) w11 fun v10 w12 =>
  X Tryz.prog (Builtin.len_ #[28] 3 #[v10]) w12 fun v11 w13 =>
  X Tryz.prog (binOp .add 3 (ρ1 3) v11) w13 fun v12 w14 =>
  X Tryz.prog (binOp .add 3 (ρ1 12) (.int .i64 1)) w14 fun v13 w15 =>
  Q1 .normal (upds ρ1 [(12, v13), (21, v13), (3, v12), (20, v12), (19, v11), (18, v10), (17, v9), (16, (ρ1 3)), (5, v8), (15, v7), (14, v6), (13, v5)]) w15) (
  Q1 (.exit 0) (upds ρ1 [(13, v5)]) w6)) (inBlockS 0 (thenS (fun ρ2 w16 =>
  K (ρ2 3) w16) (retS Tryz.prog (Tryz.f7).results K))) (upds (env0 #[x0]) [(12, (.int .i64 0)), (11, v4), (10, x0), (3, v3), (9, v3), (8, v2), (7, v1), (6, x0), (2, (.int .i64 0))]) w4
theorem eq_cont_Size (x0 : Value) (w : World) (K : Value → World → Prop) :
    sh Tryz.prog (Tryz.f7.body.getD .skip) (retS Tryz.prog Tryz.f7.results K) (env0 #[x0]) w = B_cont_Size x0 w K := by kernel_rfl
theorem call_cont_Size (x0 : Value) (w : World) (K : Value → World → Prop) (h : B_cont_Size x0 w K) : CALL Tryz.prog 7 #[x0] w K :=
  call_of_eq (c := Tryz.f7.body.getD .skip) mixed Tryz.func7 (by kernel_rfl) (by kernel_rfl) (by kernel_rfl) (Nat.le_of_ble_eq_true (by kernel_rfl)) (eq_cont_Size x0 w K) h
def B_cont_Lay (x0 x1 : Value) (w : World) (K : Value → World → Prop) : Prop :=
  CALL Tryz.prog 46 #[x1] w fun v1 w1 =>
  X Tryz.prog (binOpG .neq 34 (.tmp 14) (.const (.int .i64 0)) v1 (.int .i64 0)) w1 fun v2 w2 =>
  condS v2 (
  K (.tuple #[(.slice none 0 0), v1]) w2) (
  X Tryz.prog (convert 31 37 x0) w2 fun v3 w3 =>
  CALL Tryz.prog 47 #[(.slice none 0 0), v3, (.int .i64 4)] w3 fun v4 w4 =>
  X Tryz.prog (Builtin.len_ #[41] 3 #[x1]) w4 fun v5 w5 =>
  X Tryz.prog (convert 3 37 v5) w5 fun v6 w6 =>
  CALL Tryz.prog 47 #[v4, v6, (.int .i64 2)] w6 fun v7 w7 =>
  X Tryz.prog (Builtin.len_ #[41] 3 #[x1]) w7 fun v8 w8 =>
  loopS (fun Q1 ρ1 w9 =>
  X Tryz.prog (binOp .lss 3 (ρ1 26) (ρ1 25)) w9 fun v9 w10 =>
  condS v9 (
  X Tryz.prog (Instr.indexAt 41 (ρ1 24) (ρ1 26)) w10 fun v10 w11 =>
  X Tryz.prog (Instr.loadAt 40 v10) w11 fun v11 w12 =>
  X Tryz.prog (Instr.alloc 40 true (.tuple #[])) w12 fun v12 w13 =>
  XU Tryz.prog (Instr.storeAt 40 v12 v11) w13 fun w14 =>
  ∃ R, Frame? R ∧
  XP Tryz.prog (Instr.fieldAt 40 v12 0) (drewW w14) fun v13 w15 =>
  XP Tryz.prog (Instr.fieldAt 33 v13 1) w15 fun v14 w16 =>
  XR Tryz.prog R (Instr.loadAt 31 v14) w16 fun v15 w17 =>
  XR Tryz.prog R (convert 31 37 v15) w17 fun v16 w18 =>
  XP Tryz.prog (Instr.fieldAt 40 v12 1) w18 fun v17 w19 =>
  XR Tryz.prog R (Instr.loadAt 28 v17) w19 fun v18 w20 =>
  XP Tryz.prog (Builtin.len_ #[28] 3 #[v18]) w20 fun v19 w21 =>
  XR Tryz.prog R (convert 3 37 v19) w21 fun v20 w22 =>
  CALL Tryz.prog 47 #[(.slice none 0 0), v16, (.int .i64 4)] w22 fun v21 w23 =>
  R w22 w23 ∧
  CALL Tryz.prog 47 #[v21, v20, (.int .i64 2)] w23 fun v22 w24 =>
  R w23 w24 ∧
  X Tryz.prog (Instr.fieldAt 40 v12 0) w24 fun v23 w25 =>
  X Tryz.prog (Instr.fieldAt 33 v23 0) w25 fun v24 w26 =>
  X Tryz.prog (Instr.sliceAt 30 v24 none none none) w26 fun v25 w27 =>
  X Tryz.prog (Builtin.append_ #[28, 28] 28 #[(ρ1 7), v25]) w27 fun v26 w28 =>
  X Tryz.prog (Builtin.append_ #[28, 28] 28 #[v26, v22]) w28 fun v27 w29 =>
  X Tryz.prog (Instr.fieldAt 40 v12 1) w29 fun v28 w30 =>
  X Tryz.prog (Instr.loadAt 28 v28) w30 fun v29 w31 =>
  X Tryz.prog (Builtin.append_ #[28, 28] 28 #[(ρ1 8), v29]) w31 fun v30 w32 =>
  X Tryz.prog (binOp .add 3 (ρ1 26) (.int .i64 1)) w32 fun v31 w33 =>
  Q1 .normal (upds ρ1 [(26, v31), (51, v31), (8, v30), (50, v30), (49, v29), (48, v28), (47, (ρ1 8)), (7, v27), (46, v27), (45, v22), (44, v26), (43, v25), (42, v24), (41, v23), (40, (ρ1 7)), (11, v22), (39, v22), (34, v21), (38, v20), (37, v19), (36, v18), (35, v17), (33, v16), (32, v15), (31, v14), (30, v13), (10, v12), (29, v11), (28, v10), (27, v9)]) w33) (
  Q1 (.exit 0) (upds ρ1 [(27, v9)]) w10)) (inBlockS 0 (thenS (fun ρ2 w34 =>
  X Tryz.prog (Builtin.append_ #[28, 28] 28 #[(ρ2 7), (ρ2 8)]) w34 fun v32 w35 =>
  CALL Tryz.prog 48 #[v32] w35 fun v33 w36 =>
  K (.tuple #[v33, (.int .i64 0)]) w36) (retS Tryz.prog (Tryz.f24).results K))) (upds (env0 #[x0, x1]) [(26, (.int .i64 0)), (25, v8), (24, x1), (8, (.slice none 0 0)), (7, v7), (23, v7), (22, v6), (21, v5), (20, x1), (19, v4), (18, v3), (17, x0), (15, v2), (14, v1), (6, v1), (13, v1), (12, x1), (5, (.int .i64 0)), (4, (.slice none 0 0))]) w8)
theorem eq_cont_Lay (x0 x1 : Value) (w : World) (K : Value → World → Prop) :
    sh Tryz.prog (Tryz.f24.body.getD .skip) (retS Tryz.prog Tryz.f24.results K) (env0 #[x0, x1]) w = B_cont_Lay x0 x1 w K := by kernel_rfl
theorem call_cont_Lay (x0 x1 : Value) (w : World) (K : Value → World → Prop) (h : B_cont_Lay x0 x1 w K) : CALL Tryz.prog 24 #[x0, x1] w K :=
  call_of_eq (c := Tryz.f24.body.getD .skip) mixed Tryz.func24 (by kernel_rfl) (by kernel_rfl) (by kernel_rfl) (Nat.le_of_ble_eq_true (by kernel_rfl)) (eq_cont_Lay x0 x1 w K) h
def B_cont_check (x0 : Value) (w : World) (K : Value → World → Prop) : Prop :=
  X Tryz.prog (Builtin.len_ #[41] 3 #[x0]) w fun v1 w1 =>
  X Tryz.prog (binOp .gtr 3 v1 (.int .i64 1000)) w1 fun v2 w2 =>
  X Tryz.prog (Builtin.len_ #[41] 3 #[x0]) w2 fun v3 w3 =>
  loopS (fun Q1 ρ1 w4 =>
  X Tryz.prog (binOp .lss 3 (ρ1 14) (ρ1 13)) w4 fun v4 w5 =>
  condS v4 (
  X Tryz.prog (Instr.indexAt 41 (ρ1 12) (ρ1 14)) w5 fun v5 w6 =>
  X Tryz.prog (Instr.loadAt 40 v5) w6 fun v6 w7 =>
  X Tryz.prog (Instr.alloc 40 true (.tuple #[])) w7 fun v7 w8 =>
  XU Tryz.prog (Instr.storeAt 40 v7 v6) w8 fun w9 =>
  X Tryz.prog (Instr.fieldAt 40 v7 1) w9 fun v8 w10 =>
  X Tryz.prog (Instr.loadAt 28 v8) w10 fun v9 w11 =>
  X Tryz.prog (Builtin.len_ #[28] 3 #[v9]) w11 fun v10 w12 =>
  X Tryz.prog (binOpG .eql 3 (.tmp 20) (.const (.int .i64 0)) v10 (.int .i64 0)) w12 fun v11 w13 =>
  condS v11 (
  Q1 .ret (upds ρ1 [(2, (.int .i64 1)), (21, v11), (20, v10), (19, v9), (18, v8), (5, v7), (17, v6), (16, v5), (15, v4)]) w13) (
  gstep (ρ1 3) false (fun w14 K => X Tryz.prog (Instr.fieldAt 40 v7 1) w14 K) w13 fun v12 w15 =>
  gstep (ρ1 3) false (fun w16 K => X Tryz.prog (Instr.loadAt 28 v12) w16 K) w15 fun v13 w17 =>
  gstep (ρ1 3) false (fun w18 K => X Tryz.prog (Builtin.len_ #[28] 3 #[v13]) w18 K) w17 fun v14 w19 =>
  gstep (ρ1 3) false (fun w20 K => X Tryz.prog (binOp .gtr 3 v14 (.int .i64 4096)) w20 K) w19 fun v15 w21 =>
  X Tryz.prog (pickS (ρ1 3) (.bool true) v15) w21 fun v16 w22 =>
  X Tryz.prog (binOp .add 3 (ρ1 14) (.int .i64 1)) w22 fun v17 w23 =>
  Q1 .normal (upds ρ1 [(14, v17), (29, v17), (3, v16), (28, v16), (27, v15), (26, v14), (25, v13), (24, v12), (23, (ρ1 3)), (22, (ρ1 3)), (21, v11), (20, v10), (19, v9), (18, v8), (5, v7), (17, v6), (16, v5), (15, v4)]) w23)) (
  Q1 (.exit 0) (upds ρ1 [(15, v4)]) w5)) (inBlockS 0 (thenS (fun ρ2 w24 =>
  gstep (ρ2 3) false (fun w25 K => K (ρ2 0) w25) w24 fun v18 w26 =>
  gstep (ρ2 3) false (fun w27 K => CALL Tryz.prog 7 #[v18] w27 K) w26 fun v19 w28 =>
  gstep (ρ2 3) false (fun w29 K => X Tryz.prog (binOp .gtr 3 v19 (.int .i64 65536)) w29 K) w28 fun v20 w30 =>
  X Tryz.prog (pickS (ρ2 3) (.bool true) v20) w30 fun v21 w31 =>
  condS v21 (
  K (.int .i64 4) w31) (
  X Tryz.prog (Builtin.len_ #[41] 3 #[(ρ2 0)]) w31 fun v22 w32 =>
  X Tryz.prog (Instr.makeMap 157 (some v22)) w32 fun v23 w33 =>
  X Tryz.prog (Builtin.len_ #[41] 3 #[(ρ2 0)]) w33 fun v24 w34 =>
  loopS (fun Q3 ρ3 w35 =>
  X Tryz.prog (binOp .lss 3 (ρ3 41) (ρ3 40)) w35 fun v25 w36 =>
  condS v25 (
  X Tryz.prog (Instr.indexAt 41 (ρ3 39) (ρ3 41)) w36 fun v26 w37 =>
  X Tryz.prog (Instr.loadAt 40 v26) w37 fun v27 w38 =>
  X Tryz.prog (Instr.alloc 40 true (.tuple #[])) w38 fun v28 w39 =>
  XU Tryz.prog (Instr.storeAt 40 v28 v27) w39 fun w40 =>
  X Tryz.prog (Instr.fieldAt 40 v28 0) w40 fun v29 w41 =>
  X Tryz.prog (Instr.loadAt 33 v29) w41 fun v30 w42 =>
  X Tryz.prog (Instr.lookup 157 (ρ3 6) v30 false) w42 fun v31 w43 =>
  condS v31 (
  Q3 .ret (upds ρ3 [(2, (.int .i64 3)), (48, v31), (47, v30), (46, v29), (45, (ρ3 6)), (8, v28), (44, v27), (43, v26), (42, v25)]) w43) (
  X Tryz.prog (Instr.fieldAt 40 v28 0) w43 fun v32 w44 =>
  X Tryz.prog (Instr.loadAt 33 v32) w44 fun v33 w45 =>
  XU Tryz.prog (Instr.mapUpdate 157 (ρ3 6) v33 (.bool true)) w45 fun w46 =>
  X Tryz.prog (binOp .add 3 (ρ3 41) (.int .i64 1)) w46 fun v34 w47 =>
  Q3 .normal (upds ρ3 [(41, v34), (52, v34), (51, v33), (50, v32), (49, (ρ3 6)), (48, v31), (47, v30), (46, v29), (45, (ρ3 6)), (8, v28), (44, v27), (43, v26), (42, v25)]) w47)) (
  Q3 (.exit 2) (upds ρ3 [(42, v25)]) w36)) (inBlockS 2 (thenS (fun ρ4 w48 =>
  K (.int .i64 0) w48) (retS Tryz.prog (Tryz.f46).results K))) (upds ρ2 [(41, (.int .i64 0)), (40, v24), (39, (ρ2 0)), (6, v23), (38, v23), (37, v22), (36, (ρ2 0)), (35, v21), (34, v20), (33, v19), (32, v18), (31, (ρ2 3)), (30, (ρ2 3))]) w34)) (retS Tryz.prog (Tryz.f46).results K))) (upds (env0 #[x0]) [(14, (.int .i64 0)), (13, v3), (12, x0), (3, v2), (11, v2), (10, v1), (9, x0), (2, (.int .i64 0))]) w3
theorem eq_cont_check (x0 : Value) (w : World) (K : Value → World → Prop) :
    sh Tryz.prog (Tryz.f46.body.getD .skip) (retS Tryz.prog Tryz.f46.results K) (env0 #[x0]) w = B_cont_check x0 w K := by kernel_rfl
theorem call_cont_check (x0 : Value) (w : World) (K : Value → World → Prop) (h : B_cont_check x0 w K) : CALL Tryz.prog 46 #[x0] w K :=
  call_of_eq (c := Tryz.f46.body.getD .skip) mixed Tryz.func46 (by kernel_rfl) (by kernel_rfl) (by kernel_rfl) (Nat.le_of_ble_eq_true (by kernel_rfl)) (eq_cont_check x0 w K) h
def B_cont_Take (x0 : Value) (w : World) (K : Value → World → Prop) : Prop :=
  X Tryz.prog (Instr.alloc 41 true (.tuple #[])) w fun v1 w1 =>
  X Tryz.prog (Instr.makeFunc (.func 95) #[] #[v1]) w1 fun v2 w2 =>
  CALL Tryz.prog 94 #[x0, v2] w2 fun v3 w3 =>
  X Tryz.prog (Instr.extract v3 0) w3 fun v4 w4 =>
  X Tryz.prog (Instr.extract v3 1) w4 fun v5 w5 =>
  X Tryz.prog (Op.unary .not v5) w5 fun v6 w6 =>
  gstep v6 false (fun w7 K => X Tryz.prog (Instr.loadAt 41 v1) w7 K) w6 fun v7 w8 =>
  gstep v6 false (fun w9 K => CALL Tryz.prog 46 #[v7] w9 K) w8 fun v8 w10 =>
  gstep v6 false (fun w11 K => X Tryz.prog (binOpG .neq 34 (.tmp 18) (.const (.int .i64 0)) v8 (.int .i64 0)) w11 K) w10 fun v9 w12 =>
  X Tryz.prog (pickS v6 (.bool true) v9) w12 fun v10 w13 =>
  condS v10 (
  K (.tuple #[(.int .u32 0), (.slice none 0 0), (.int .i64 110)]) w13) (
  ∃ R, Frame? R ∧
  XR Tryz.prog R (Instr.loadAt 41 v1) (drewW w13) fun v11 w14 =>
  K (.tuple #[v4, v11, (.int .i64 0)]) w14)
theorem eq_cont_Take (x0 : Value) (w : World) (K : Value → World → Prop) :
    sh Tryz.prog (Tryz.f69.body.getD .skip) (retS Tryz.prog Tryz.f69.results K) (env0 #[x0]) w = B_cont_Take x0 w K := by kernel_rfl
theorem call_cont_Take (x0 : Value) (w : World) (K : Value → World → Prop) (h : B_cont_Take x0 w K) : CALL Tryz.prog 69 #[x0] w K :=
  call_of_eq (c := Tryz.f69.body.getD .skip) mixed Tryz.func69 (by kernel_rfl) (by kernel_rfl) (by kernel_rfl) (Nat.le_of_ble_eq_true (by kernel_rfl)) (eq_cont_Take x0 w K) h
def B_cont_each (x0 x1 : Value) (w : World) (K : Value → World → Prop) : Prop :=
  CALL Tryz.prog 117 #[x0] w fun v1 w1 =>
  X Tryz.prog (Instr.extract v1 0) w1 fun v2 w2 =>
  X Tryz.prog (Instr.extract v1 1) w2 fun v3 w3 =>
  X Tryz.prog (Op.unary .not v3) w3 fun v4 w4 =>
  gstep v4 false (fun w5 K => K v2 w5) w4 fun v5 w6 =>
  gstep v4 false (fun w7 K => X Tryz.prog (Builtin.len_ #[28] 3 #[v5]) w7 K) w6 fun v6 w8 =>
  gstep v4 false (fun w9 K => X Tryz.prog (binOp .lss 3 v6 (.int .i64 6)) w9 K) w8 fun v7 w10 =>
  X Tryz.prog (pickS v4 (.bool true) v7) w10 fun v8 w11 =>
  condS v8 (
  K (.tuple #[(.int .u32 0), (.bool false)]) w11) (
  X Tryz.prog (Instr.sliceAt 28 v2 none (some (.int .i64 6)) none) w11 fun v9 w12 =>
  CALL Tryz.prog 92 #[v9] w12 fun v10 w13 =>
  CALL Tryz.prog 93 #[v10, (.int .i64 4)] w13 fun v11 w14 =>
  X Tryz.prog (convert 37 31 v11) w14 fun v12 w15 =>
  CALL Tryz.prog 93 #[v10, (.int .i64 2)] w15 fun v13 w16 =>
  X Tryz.prog (convert 37 3 v13) w16 fun v14 w17 =>
  X Tryz.prog (Builtin.len_ #[28] 3 #[v2]) w17 fun v15 w18 =>
  X Tryz.prog (binOp .sub 3 v15 (.int .i64 6)) w18 fun v16 w19 =>
  X Tryz.prog (binOp .quo 3 v16 (.int .i64 38)) w19 fun v17 w20 =>
  X Tryz.prog (binOp .gtr 3 v14 v17) w20 fun v18 w21 =>
  condS v18 (
  K (.tuple #[(.int .u32 0), (.bool false)]) w21) (
  ∃ R, Frame? R ∧
  XP Tryz.prog (binOp .mul 3 v14 (.int .i64 38)) (drewW w21) fun v19 w22 =>
  XP Tryz.prog (binOp .add 3 (.int .i64 6) v19) w22 fun v20 w23 =>
  XP Tryz.prog (Instr.sliceAt 28 v2 (some (.int .i64 6)) (some v20) none) w23 fun v21 w24 =>
  XP Tryz.prog (binOp .mul 3 v14 (.int .i64 38)) w24 fun v22 w25 =>
  XP Tryz.prog (binOp .add 3 (.int .i64 6) v22) w25 fun v23 w26 =>
  XP Tryz.prog (Instr.sliceAt 28 v2 (some v23) none none) w26 fun v24 w27 =>
  loopS (fun Q1 ρ1 w28 =>
  X Tryz.prog (Builtin.len_ #[28] 3 #[(ρ1 11)]) w28 fun v25 w29 =>
  X Tryz.prog (binOp .gtr 3 v25 (.int .i64 0)) w29 fun v26 w30 =>
  condS v26 (
  X Tryz.prog (Instr.sliceAt 28 (ρ1 11) (some (.int .i64 32)) (some (.int .i64 38)) none) w30 fun v27 w31 =>
  CALL Tryz.prog 92 #[v27] w31 fun v28 w32 =>
  joinS (fun ρ2 w33 =>
  CALL Tryz.prog 93 #[(ρ2 13), (.int .i64 2)] w33 fun v29 w34 =>
  X Tryz.prog (convert 37 3 v29) w34 fun v30 w35 =>
  X Tryz.prog (Builtin.len_ #[28] 3 #[(ρ2 12)]) w35 fun v31 w36 =>
  X Tryz.prog (binOp .gtr 3 v30 v31) w36 fun v32 w37 =>
  condS v32 (
  Q1 .ret (upds ρ2 [(5, (.bool false)), (4, (.int .u32 0)), (75, v32), (74, v31), (73, (ρ2 12)), (72, v30), (15, v30), (71, v30), (70, v29), (69, (ρ2 13))]) w37) (
  ∃ R, Frame? R ∧
  XR Tryz.prog R (Instr.loadAt 33 (ρ2 14)) (drewW w37) fun v33 w38 =>
  XP Tryz.prog (Instr.sliceAt 28 (ρ2 12) none (some v30) (some v30)) w38 fun v34 w39 =>
  closS Tryz.prog (ρ2 1) #[v33, v34] w39 fun v35 w40 =>
  X Tryz.prog (Instr.sliceAt 28 (ρ2 12) (some v30) none none) w40 fun v36 w41 =>
  X Tryz.prog (Instr.sliceAt 28 (ρ2 11) (some (.int .i64 38)) none none) w41 fun v37 w42 =>
  Q1 .normal (upds ρ2 [(11, v37), (57, v37), (56, (ρ2 11)), (12, v36), (85, v36), (84, v30), (83, (ρ2 12)), (82, v35), (81, v34), (80, v30), (79, v30), (78, (ρ2 12)), (77, v33), (76, (ρ2 1)), (75, v32), (74, v31), (73, (ρ2 12)), (72, v30), (15, v30), (71, v30), (70, v29), (69, (ρ2 13))]) w42)) fun J2 =>
  ∃ R, Frame? R ∧
  XP Tryz.prog (Instr.sliceAt 28 (ρ1 11) none (some (.int .i64 32)) none) (drewW w32) fun v38 w43 =>
  XP Tryz.prog (Instr.arrayAt 30 v38) w43 fun v39 w44 =>
  XR Tryz.prog R (Instr.loadAt 30 v39) w44 fun v40 w45 =>
  (CALL Tryz.prog 93 #[v28, (.int .i64 4)] w45 fun v41 w46 =>
  R w45 w46 ∧
  XR Tryz.prog R (convert 37 31 v41) w46 fun v42 w47 =>
  XP Tryz.prog (Instr.build 33 #[(0, v40), (1, v42)]) w47 fun v43 w48 =>
  X Tryz.prog (Instr.alloc 33 true (.tuple #[])) w48 fun v44 w49 =>
  R w48 w49 ∧
  XU Tryz.prog (Instr.storeAt 33 v44 v43) w49 fun w50 =>
  J2 (upds ρ1 [(14, v44), (68, v43), (67, v42), (66, v41), (65, v28), (64, v40), (63, v39), (62, v38), (61, (ρ1 11)), (13, v28), (60, v28), (59, v27), (58, (ρ1 11)), (55, v26), (54, v25), (53, (ρ1 11))]) w50) ∧
  (X Tryz.prog (Instr.alloc 33 true (.tuple #[])) w45 fun v45 w51 =>
  R w45 w51 ∧
  CALL Tryz.prog 93 #[v28, (.int .i64 4)] w51 fun v46 w52 =>
  R w51 w52 ∧
  XR Tryz.prog R (convert 37 31 v46) w52 fun v47 w53 =>
  XP Tryz.prog (Instr.build 33 #[(0, v40), (1, v47)]) w53 fun v48 w54 =>
  XU Tryz.prog (Instr.storeAt 33 v45 v48) w54 fun w55 =>
  J2 (upds ρ1 [(68, v48), (67, v47), (66, v46), (14, v45), (65, v28), (64, v40), (63, v39), (62, v38), (61, (ρ1 11)), (13, v28), (60, v28), (59, v27), (58, (ρ1 11)), (55, v26), (54, v25), (53, (ρ1 11))]) w55)) (
  Q1 (.exit 0) (upds ρ1 [(55, v26), (54, v25), (53, (ρ1 11))]) w30)) (inBlockS 0 (thenS (fun ρ3 w56 =>
  X Tryz.prog (Builtin.len_ #[28] 3 #[(ρ3 12)]) w56 fun v49 w57 =>
  X Tryz.prog (binOpG .eql 3 (.tmp 88) (.const (.int .i64 0)) v49 (.int .i64 0)) w57 fun v50 w58 =>
  K (.tuple #[(ρ3 9), v50]) w58) (retS Tryz.prog (Tryz.f94).results K))) (upds (env0 #[x0, x1]) [(12, v24), (11, v21), (52, v24), (51, v23), (50, v22), (49, v14), (48, v2), (47, v21), (46, v20), (45, v19), (44, v14), (43, v2), (42, v18), (41, v17), (40, v16), (39, v15), (38, v2), (37, v14), (10, v14), (9, v12), (36, v14), (35, v13), (34, v10), (33, v12), (32, v11), (31, v10), (8, v10), (30, v10), (29, v9), (28, v2), (27, v8), (26, v7), (25, v6), (24, v5), (23, v4), (22, v4), (21, v3), (7, v3), (6, v2), (20, v3), (19, v2), (16, v1), (18, v1), (17, x0), (5, (.bool false)), (4, (.int .u32 0))]) w27))
theorem eq_cont_each (x0 x1 : Value) (w : World) (K : Value → World → Prop) :
    sh Tryz.prog (Tryz.f94.body.getD .skip) (retS Tryz.prog Tryz.f94.results K) (env0 #[x0, x1]) w = B_cont_each x0 x1 w K := by kernel_rfl
theorem call_cont_each (x0 x1 : Value) (w : World) (K : Value → World → Prop) (h : B_cont_each x0 x1 w K) : CALL Tryz.prog 94 #[x0, x1] w K :=
  call_of_eq (c := Tryz.f94.body.getD .skip) mixed Tryz.func94 (by kernel_rfl) (by kernel_rfl) (by kernel_rfl) (Nat.le_of_ble_eq_true (by kernel_rfl)) (eq_cont_each x0 x1 w K) h
def B_cont_Take_1 (x0 x1 x2 : Value) (w : World) (K : Value → World → Prop) : Prop :=
  X Tryz.prog (Instr.box 33 x0) w fun v1 w1 =>
  ∃ R, Frame? R ∧
  XR Tryz.prog R (Instr.loadAt 41 x2) (drewW w1) fun v2 w2 =>
  XR Tryz.prog R (Instr.loadAt 33 v1) w2 fun v3 w3 =>
  X Tryz.prog (Builtin.append_ #[28, 28] 28 #[(.slice none 0 0), x1]) w3 fun v4 w4 =>
  R w3 w4 ∧
  XP Tryz.prog (Instr.build 40 #[(0, v3), (1, v4)]) w4 fun v5 w5 =>
  X Tryz.prog (Instr.buildSlice 41 1 #[(0, v5)]) w5 fun v6 w6 =>
  R w5 w6 ∧
  X Tryz.prog (Builtin.append_ #[41, 41] 41 #[v2, v6]) w6 fun v7 w7 =>
  R w6 w7 ∧
  XU Tryz.prog (Instr.storeAt 41 x2 v7) w7 fun w8 =>
  K (.tuple #[]) w8
theorem eq_cont_Take_1 (x0 x1 x2 : Value) (w : World) (K : Value → World → Prop) :
    sh Tryz.prog (Tryz.f95.body.getD .skip) (retS Tryz.prog Tryz.f95.results K) (env0 #[x0, x1, x2]) w = B_cont_Take_1 x0 x1 x2 w K := by kernel_rfl
theorem call_cont_Take_1 (x0 x1 x2 : Value) (w : World) (K : Value → World → Prop) (h : B_cont_Take_1 x0 x1 x2 w K) : CALL Tryz.prog 95 #[x0, x1, x2] w K :=
  call_of_eq (c := Tryz.f95.body.getD .skip) mixed Tryz.func95 (by kernel_rfl) (by kernel_rfl) (by kernel_rfl) (Nat.le_of_ble_eq_true (by kernel_rfl)) (eq_cont_Take_1 x0 x1 x2 w K) h
end Go.Proofs.YtcigpjejbkngfaaGreatDoor
end
section
namespace Go.Proofs.YtcigpjejbkngfaaGreatDoor
open Go Go.Sh Go.RowKit Go.ChangeShapes Go.WideShapes Go.ChangeAt
attribute [local irreducible] X XU XP XR CALL loopS resC closS Value.okWide
structure Pp where
  k : Ky
  bs : List UInt8
structure Pc where
  p : Pp
  dv : Value
def Pc.cs (c : Pc) : List Value := c.p.k.cs ++ [c.dv]
theorem Pc.len (c : Pc) : c.cs.length = 34 := by simp [Pc.cs, Ky.cs_len]
def Pc.In (c : Pc) (w : World) : Prop := Bts w c.dv c.p.bs
theorem Pc.In.ext {c : Pc} {W w : World} (h : c.In W) (k : Ext W w) : c.In w := Bts.ext h k
theorem Pc.one {c : Pc} {W : World} (h : c.In W) : ∀ v ∈ c.cs, v.oneCell' = true := by
  obtain ⟨_, _, e1⟩ := Bts.slice h
  intro v hv
  rcases List.mem_append.1 hv with hv | hv
  · exact Ky.one _ _ hv
  · rw [List.mem_singleton.1 hv, e1]; rfl
theorem Pc.dvAt (c : Pc) : c.cs[33]? = some c.dv := by
  unfold Pc.cs
  rw [List.getElem?_append_right (by rw [Ky.cs_len]; omega), Ky.cs_len]
  rfl
theorem Pc.numAt (c : Pc) : c.cs[32]? = some (.int .u32 (c.p.k.num : Int)) := by
  unfold Pc.cs
  rw [List.getElem?_append_left (by rw [Ky.cs_len]; omega)]
  have := c.p.k.cs_num
  simpa using this
theorem Pc.keyAt (c : Pc) {j : Nat} {u : Value} (h : c.p.k.cs[j]? = some u) : c.cs[j]? = some u := by
  unfold Pc.cs
  rw [List.getElem?_append_left (List.getElem?_eq_some_iff.1 h).1]
  exact h
theorem Pc.sumAt (c : Pc) {j : Nat} {u : UInt8} (h : c.p.k.sum[j]? = some u) : c.cs[j]? = some (.int .u8 (u.toNat : Int)) := by
  refine c.keyAt ?_
  unfold Ky.cs
  have hj := (List.getElem?_eq_some_iff.1 h).1
  rw [List.getElem?_append_left (by simpa using hj), B8_getElem?, h]
  rfl
abbrev pl (l : List Pc) : List Pp := l.map Pc.p
def totB (l : List Pp) : Nat := (l.map fun p => p.bs.length).sum
def sizeP (l : List Pp) : Nat := 10 + 38 * l.length + totB l
theorem totB_take_succ (l : List Pp) (i : Nat) (h : i < l.length) : totB (l.take (i + 1)) = totB (l.take i) + l[i].bs.length := by
  unfold totB
  rw [List.take_succ_eq_append_getElem h, List.map_append, List.sum_append]
  simp only [List.map_cons, List.map_nil, List.sum_cons, List.sum_nil, Nat.add_zero]
theorem totB_take_le (l : List Pp) (i : Nat) : totB (l.take i) ≤ totB l := by
  unfold totB
  induction l generalizing i with
  | nil => simp
  | cons p l ih =>
    cases i with
    | zero => simp
    | succ i => have := ih i; simp only [List.take_succ_cons, List.map_cons, List.sum_cons]; omega
theorem totB_mem {l : List Pp} {p : Pp} (h : p ∈ l) : p.bs.length ≤ totB l := by
  unfold totB
  induction l with
  | nil => cases h
  | cons q l ih =>
    simp only [List.map_cons, List.sum_cons]
    rcases List.mem_cons.1 h with rfl | h
    · omega
    · have := ih h; omega
theorem X_takePiece {w : World} {v : Value} {l : List Pc} {i : Nat} {K : Value → Value → Value → World → Prop} (hl : RowK 34 Pc.cs w v l) (hi : i < l.length) (ha : l[i].In w)
    (hK : ∀ v1 v2 q w1, Ext w w1 → w.heap.size ≤ q → w1.heap[q]? = some (.cells l[i].cs.toArray 40 (0, 0)) → K v1 v2 (ptr q) w1) :
    X Tryz.prog (Instr.indexAt 41 v (.int .i64 (i : Int))) w fun v1 w1 => X Tryz.prog (Instr.loadAt 40 v1) w1 fun v2 w2 => X Tryz.prog (Instr.alloc 40 true (.tuple #[])) w2 fun v3 w3 => XU Tryz.prog (Instr.storeAt 40 v3 v2) w3 fun w4 => K v1 v2 v3 w4 := by
  obtain ⟨ad, hix, hcs⟩ := hl.at Tryz.underlying41 info_40 sz_40 (kd := .i64) i rfl hi
  refine X_of (hix _) ?_
  refine X_of (load_cells Tryz.underlying40 agg_40 info_40 (l := l[i].cs) (by rw [sz_40, Pc.len]) hcs) ?_
  refine X_alloc zero_40 ?_
  have hq := newB_get w (List.replicate 32 (Value.int .u8 0) ++ [Value.int .u32 0] ++ [Value.slice none 0 0]).toArray 40
  have hxq := newB_ext w (List.replicate 32 (Value.int .u8 0) ++ [Value.int .u32 0] ++ [Value.slice none 0 0]).toArray 40
  show XU _ _ (newB w (List.replicate 32 (Value.int .u8 0) ++ [Value.int .u32 0] ++ [Value.slice none 0 0]).toArray 40) _
  generalize newB w (List.replicate 32 (Value.int .u8 0) ++ [Value.int .u32 0] ++ [Value.slice none 0 0]).toArray 40 = w2 at hq hxq ⊢
  refine XU_storeAgg info_40 hq (by rw [sz_40]; simp) (by rw [sz_40, Pc.len]) (Pc.one ha) ?_
  exact hK _ _ _ _ (Ext.seq hxq (setAt_keep _ _ _ _ _) (fun j hj => by omega)) (Nat.le_refl _) (setAt_same (lt_of_blk hq))
theorem piece_dv {w : World} {q : Nat} {c : Pc} {fr : Nat × Nat} (h : w.heap[q]? = some (.cells c.cs.toArray 40 fr)) : w.cell? ⟨q, 0 + 33, none⟩ = some c.dv := (cell_blk h).trans (by simpa using c.dvAt)
theorem piece_num {w : World} {q : Nat} {c : Pc} {fr : Nat × Nat} (h : w.heap[q]? = some (.cells c.cs.toArray 40 fr)) : w.cell? ⟨q, 0 + 32, none⟩ = some (.int .u32 (c.p.k.num : Int)) := (cell_blk h).trans (by simpa using c.numAt)
theorem piece_key {w : World} {q : Nat} {c : Pc} {fr : Nat × Nat} (h : w.heap[q]? = some (.cells c.cs.toArray 40 fr)) : (Instr.loadAt 33 (ptr q)).run Tryz.prog w = .ok c.p.k.v w := by
  refine load_cells Tryz.underlying33 agg_33 info_33 (l := c.p.k.cs) (by rw [sz_33, Ky.cs_len]) (fun j u hj => ?_)
  rw [add_plain, Nat.zero_add, cell_blk h]
  simpa using c.keyAt hj
section
variable {w : World} {K : Value → World → Prop}
theorem Size_pieces {v : Value} {l : List Pc} (hl : RowK 34 Pc.cs w v l) (hin : ∀ c ∈ l, c.In w) (hT : 38 * l.length + totB (pl l) ≤ 1000000000000) (hK : ∀ w1, Ext w w1 → K (i64v ((sizeP (pl l) : Nat) : Int)) w1) : CALL Tryz.prog 7 #[v] w K := by
  obtain ⟨a, c, ev⟩ := hl.slice
  apply call_cont_Size
  unfold B_cont_Size
  rw [ev, X_len_41, X_mul, w64 (by omega) (by omega), X_add, w64 (by omega) (by omega), X_len_41, ← ev]
  refine loopE (fun ρ wr => ∃ i : Nat, i ≤ l.length ∧ Ext w wr ∧ ρ 12 = .int .i64 (i : Int) ∧ ρ 11 = .int .i64 (l.length : Int) ∧ ρ 10 = v ∧ ρ 3 = .int .i64 ((10 + 38 * l.length + totB ((pl l).take i) : Nat) : Int))
    (fun ρ wr => match ρ 12 with | .int _ s => (l.length - s).toNat | _ => 0)
    (fun ρ wr => Ext w wr ∧ ρ 3 = .int .i64 ((sizeP (pl l) : Nat) : Int)) ?_ ?_ ?_
  · exact ⟨0, by omega, Keep.refl _ _, rfl, rfl, rfl, by show Value.int .i64 (10 + 38 * (l.length : Int)) = _; congr 1⟩
  · rintro J hJ ρ wr ⟨i, hi, hx, r12, r11, r10, r3⟩
    rw [r12, r11, r10, X_lss, condS_bool]
    by_cases hie : i = l.length
    · rw [if_neg (by simp; omega)]
      refine hJ _ _ ⟨hx, ?_⟩
      show ρ 3 = _
      rw [r3, hie]
      have : (pl l).take l.length = pl l := List.take_of_length_le (by simp)
      rw [this]
      have hll : (pl l).length = l.length := by simp
      unfold sizeP
      rw [hll]
    rw [if_pos (by simp; omega)]
    have hlt : i < l.length := by omega
    refine X_takePiece (hl.ext hx) hlt ((hin _ (List.getElem_mem hlt)).ext hx) ?_
    intro u1 u2 q w4 hx4 hq hqb
    have hin4 := ((hin _ (List.getElem_mem hlt)).ext hx).ext hx4
    have hts := totB_take_succ (pl l) i (by simpa using hlt)
    have hle := totB_take_le (pl l) (i + 1)
    have hget : (pl l)[i]'(by simpa using hlt) = l[i].p := by simp
    rw [hget] at hts
    generalize l[i] = A at hqb hin4 hts
    obtain ⟨aA, cA, eA⟩ := Bts.slice hin4
    rw [X_field_40_1]
    refine X_of (run_loadAt agg_28 (piece_dv hqb)) ?_
    rw [eA, X_len_28, r3, X_add, w64 (by omega) (by omega), X_add]
    show _ ∧ _
    refine ⟨⟨i + 1, by omega, hx.trans hx4, next64 (n := 1000000000000) (by decide) (by omega), r11, r10, ?_⟩, ?_⟩
    · show Value.int .i64 _ = _
      congr 1
      rw [hts]
      omega
    · show (_ - IntKind.i64.wrap _).toNat < _
      rw [w64 (by omega) (by omega)]
      first | omega | (show _ < (_ : Int).toNat; omega)
  · rintro ρ wr ⟨hx, r3⟩
    rw [r3]
    exact hK _ hx
end
end Go.Proofs.YtcigpjejbkngfaaGreatDoor
end
section
namespace Go.Proofs.YtcigpjejbkngfaaGreatDoor
open Go Go.Sh Go.RowKit
attribute [local irreducible] X XU XP XR CALL loopS resC closS
abbrev kys (l : List Pp) : List Ky := l.map Pp.k
def chk (l : List Pp) : Int :=
  if ∃ p ∈ l, p.bs = [] then 1
  else if 1000 < l.length ∨ (∃ p ∈ l, 4096 < p.bs.length) ∨ 65536 < sizeP l then 4
  else if (kys l).Nodup then 0 else 3
theorem nodup_succ {l : List Ky} {j : Nat} (h : j < l.length) : (l.take (j + 1)).Nodup ↔ (l.take j).Nodup ∧ l[j] ∉ l.take j := by
  rw [List.take_succ_eq_append_getElem h, List.nodup_append]
  constructor
  · rintro ⟨h1, _, h3⟩
    exact ⟨h1, fun hm => h3 _ hm _ (by simp) rfl⟩
  · rintro ⟨h1, h2⟩
    refine ⟨h1, by simp, fun a ha b hb => ?_⟩
    rw [List.mem_singleton.1 hb]
    rintro rfl
    exact h2 ha
theorem any_succ {l : List Pp} {P : Pp → Prop} {i : Nat} (h : i < l.length) : (∃ p ∈ l.take (i + 1), P p) ↔ (∃ p ∈ l.take i, P p) ∨ P l[i] := by
  rw [List.take_succ_eq_append_getElem h]
  constructor
  · rintro ⟨p, hp, h⟩
    rcases List.mem_append.1 hp with hp | hp
    · exact .inl ⟨p, hp, h⟩
    · rw [List.mem_singleton.1 hp] at h; exact .inr h
  · rintro (⟨p, hp, h⟩ | h)
    · exact ⟨p, List.mem_append_left _ hp, h⟩
    · exact ⟨_, List.mem_append_right _ (by simp), h⟩
def longB (l : List Pp) (i : Nat) : Bool := decide (1000 < l.length ∨ ∃ p ∈ l.take i, 4096 < p.bs.length)
section
variable {w : World} {K : Value → World → Prop}
set_option maxHeartbeats 1000000 in
theorem check_spec {v : Value} {l : List Pc} (hl : RowK 34 Pc.cs w v l) (hin : ∀ c ∈ l, c.In w) (hT : 38 * l.length + totB (pl l) ≤ 1000000000000) (hK : ∀ w1, Ext w w1 → K (i64v (chk (pl l))) w1) : CALL Tryz.prog 46 #[v] w K := by
  obtain ⟨a, c, ev⟩ := hl.slice
  have hll : (pl l).length = l.length := by simp
  have e0 : decide ((0 : Int) = 0) = true := by decide
  apply call_cont_check
  unfold B_cont_check
  rw [ev, X_len_41, X_gtr, X_len_41, ← ev]
  refine loopE (fun ρ wr => ∃ i : Nat, i ≤ l.length ∧ Ext w wr ∧ (¬ ∃ p ∈ (pl l).take i, p.bs = []) ∧ ρ 14 = .int .i64 (i : Int) ∧ ρ 13 = .int .i64 (l.length : Int) ∧ ρ 12 = v ∧ ρ 3 = .bool (longB (pl l) i) ∧ ρ 0 = v)
    (fun ρ wr => match ρ 14 with | .int _ s => (l.length - s).toNat | _ => 0)
    (fun ρ wr => Ext w wr ∧ (¬ ∃ p ∈ pl l, p.bs = []) ∧ ρ 3 = .bool (longB (pl l) l.length) ∧ ρ 0 = v) ?_ ?_ ?_
  · refine ⟨0, by omega, Keep.refl _ _, by simp, rfl, rfl, rfl, ?_, rfl⟩
    show Value.bool (decide ((l.length : Int) > 1000)) = _
    unfold longB
    congr 1
    apply decide_eq_decide.2
    rw [hll]
    constructor
    · intro h; left; omega
    · rintro (h | ⟨p, hp, _⟩)
      · omega
      · simp at hp
  · rintro J hJ ρ wr ⟨i, hi, hx, hne, r14, r13, r12, r3, r0⟩
    rw [r14, r13, r12, X_lss, condS_bool]
    by_cases hie : i = l.length
    · rw [if_neg (by simp; omega)]
      subst hie
      have ht : (pl l).take l.length = pl l := List.take_of_length_le (by simp)
      rw [ht] at hne
      exact hJ _ _ ⟨hx, hne, r3, r0⟩
    rw [if_pos (by simp; omega)]
    have hlt : i < l.length := by omega
    have hltp : i < (pl l).length := by rw [hll]; exact hlt
    refine X_takePiece (hl.ext hx) hlt ((hin _ (List.getElem_mem hlt)).ext hx) ?_
    intro u1 u2 q w4 hx4 hq hqb
    have hin4 := ((hin _ (List.getElem_mem hlt)).ext hx).ext hx4
    have hget : (pl l)[i]'hltp = l[i].p := by simp
    have s1 := any_succ (P := fun p => p.bs = []) hltp
    have s2 := any_succ (P := fun p => 4096 < p.bs.length) hltp
    have hmem : l[i].p ∈ pl l := List.mem_map.2 ⟨_, List.getElem_mem hlt, rfl⟩
    have hble := totB_mem hmem
    rw [hget] at s1 s2
    generalize l[i] = A at hqb hin4 s1 s2 hmem hble
    obtain ⟨aA, cA, eA⟩ := Bts.slice hin4
    rw [X_field_40_1]
    refine X_of (run_loadAt agg_28 (piece_dv hqb)) ?_
    rw [eA, X_len_28]
    (repeat (simp only [SLB, Int.reduceEq, Int.reduceNe, Int.reduceLT, Int.reduceLE, Int.reduceGT, Int.reduceGE]))
    by_cases h0 : A.p.bs = []
    · have c : decide ((A.p.bs.length : Int) = 0) = true := by rw [h0]; decide
      (repeat (simp only [SLB, Int.reduceEq, Int.reduceNe, Int.reduceLT, Int.reduceLE, Int.reduceGT, Int.reduceGE, c]))
      show K (i64v 1) w4
      have := hK w4 (hx.trans hx4)
      have ec : chk (pl l) = 1 := by
        unfold chk
        rw [if_pos ⟨_, hmem, h0⟩]
      rw [ec] at this
      exact this
    have hpos : 0 < A.p.bs.length := List.length_pos_iff.2 h0
    have c : decide ((A.p.bs.length : Int) = 0) = false := by simp; omega
    (repeat (simp only [SLB, Int.reduceEq, Int.reduceNe, Int.reduceLT, Int.reduceLE, Int.reduceGT, Int.reduceGE, c]))
    have fin : ∀ ρ' : Env, ρ' 14 = .int .i64 (IntKind.i64.wrap ((i : Int) + 1)) → ρ' 13 = .int .i64 (l.length : Int) → ρ' 12 = v → ρ' 3 = .bool (longB (pl l) (i + 1)) → ρ' 0 = v →
        (∃ i : Nat, i ≤ l.length ∧ Ext w w4 ∧ (¬ ∃ p ∈ (pl l).take i, p.bs = []) ∧ ρ' 14 = .int .i64 (i : Int) ∧ ρ' 13 = .int .i64 (l.length : Int) ∧ ρ' 12 = v ∧ ρ' 3 = .bool (longB (pl l) i) ∧ ρ' 0 = v) ∧
          (match ρ' 14 with | .int _ s => (l.length - s).toNat | _ => 0) < ((l.length : Int) - (i : Int)).toNat := by
      intro ρ' g14 g13 g12 g3 g0
      refine ⟨⟨i + 1, by omega, hx.trans hx4, ?_, by rw [g14]; exact next64 (n := 1000000000000) (by decide) (by omega), g13, g12, g3, g0⟩, ?_⟩
      · rw [s1]; rintro (h | h)
        · exact hne h
        · exact h0 h
      · rw [g14]
        show (_ - IntKind.i64.wrap _).toNat < _
        rw [w64 (by omega) (by omega)]
        first | omega | (show _ < (_ : Int).toNat; omega)
    rw [r3]
    cases hb : longB (pl l) i with
    | true =>
      have hb1 : longB (pl l) (i + 1) = true := by
        unfold longB at hb ⊢
        have hb := of_decide_eq_true hb
        refine decide_eq_true ?_
        rcases hb with h | h
        · exact .inl h
        · exact .inr (s2.2 (.inl h))
      (repeat (simp only [SLB, Int.reduceEq, Int.reduceNe, Int.reduceLT, Int.reduceLE, Int.reduceGT, Int.reduceGE]))
      rw [X_add]
      exact fin _ rfl r13 r12 (by rw [hb1]; rfl) r0
    | false =>
      have hb1 : longB (pl l) (i + 1) = decide ((A.p.bs.length : Int) > 4096) := by
        unfold longB at hb ⊢
        have hb := of_decide_eq_false hb
        apply decide_eq_decide.2
        rw [s2]
        constructor
        · rintro (h | h | h)
          · exact absurd (.inl h) hb
          · exact absurd (.inr h) hb
          · omega
        · intro h; exact .inr (.inr (by omega))
      (repeat (simp only [SLB, Int.reduceEq, Int.reduceNe, Int.reduceLT, Int.reduceLE, Int.reduceGT, Int.reduceGE, X_field_40_1]))
      refine X_of (run_loadAt agg_28 (piece_dv hqb)) ?_
      rw [eA]
      (repeat (simp only [SLB, Int.reduceEq, Int.reduceNe, Int.reduceLT, Int.reduceLE, Int.reduceGT, Int.reduceGE]))
      rw [X_add]
      exact fin _ rfl r13 r12 (by rw [hb1]; rfl) r0
  · rintro ρ wr ⟨hx, hne, r3, r0⟩
    rw [r3, r0]
    have four : (longB (pl l) l.length = true ∨ 65536 < sizeP (pl l)) → ∀ w', Ext w w' → K (.int .i64 4) w' := by
      intro h w' hx'
      have := hK w' hx'
      have ec : chk (pl l) = 4 := by
        unfold chk
        rw [if_neg hne, if_pos]
        rcases h with h | h
        · have h := of_decide_eq_true h
          rw [List.take_of_length_le (by simp)] at h
          rcases h with h | h
          · exact .inl h
          · exact .inr (.inl h)
        · exact .inr (.inr h)
      rw [ec] at this
      exact this
    have htot : sizeP (pl l) ≤ 1000000000010 := by unfold sizeP; rw [hll]; omega
    cases hb : longB (pl l) l.length with
    | true =>
      (repeat (simp only [SLB, Int.reduceEq, Int.reduceNe, Int.reduceLT, Int.reduceLE, Int.reduceGT, Int.reduceGE]))
      exact four (.inl hb) _ hx
    | false =>
      (repeat (simp only [SLB, Int.reduceEq, Int.reduceNe, Int.reduceLT, Int.reduceLE, Int.reduceGT, Int.reduceGE]))
      refine Size_pieces (hl.ext hx) (fun c hc => (hin c hc).ext hx) hT ?_
      intro w1 hx1
      have hx01 : Ext w w1 := hx.trans hx1
      (repeat (simp only [SLB, Int.reduceEq, Int.reduceNe, Int.reduceLT, Int.reduceLE, Int.reduceGT, Int.reduceGE]))
      by_cases hsz : 65536 < sizeP (pl l)
      · have c : decide (((sizeP (pl l) : Nat) : Int) > 65536) = true := by simp; omega
        (repeat (simp only [SLB, Int.reduceEq, Int.reduceNe, Int.reduceLT, Int.reduceLE, Int.reduceGT, Int.reduceGE, c]))
        exact four (.inr hsz) _ hx01
      have c : decide (((sizeP (pl l) : Nat) : Int) > 65536) = false := by simp; omega
      (repeat (simp only [SLB, Int.reduceEq, Int.reduceNe, Int.reduceLT, Int.reduceLE, Int.reduceGT, Int.reduceGE, c]))
      have hb' := of_decide_eq_false hb
      rw [List.take_of_length_le (by simp)] at hb'
      have n4 : ¬ (1000 < (pl l).length ∨ (∃ p ∈ pl l, 4096 < p.bs.length) ∨ 65536 < sizeP (pl l)) := by
        rintro (h | h | h)
        · exact hb' (.inl h)
        · exact hb' (.inr h)
        · exact hsz h
      rw [ev]
      (repeat (simp only [SLB, Int.reduceEq, Int.reduceNe, Int.reduceLT, Int.reduceLE, Int.reduceGT, Int.reduceGE, X_len_41]))
      refine X_makeMap Tryz.underlying157 _ ?_
      have hm0 := newM_at w1
      have hxm := newM_ext w1
      have hmlt : w.heap.size ≤ w1.heap.size := hx01.size
      generalize newM w1 = w2 at hm0 hxm ⊢
      generalize w1.heap.size = mb at hm0 hmlt ⊢
      rw [← ev]
      have hkl : (kys (pl l)).length = l.length := by simp
      refine loopE (fun ρ3 w3 => ∃ j : Nat, j ≤ l.length ∧ Ext w w3 ∧ MapAt w3 mb (((kys (pl l)).take j).map fun k => (k.v, Value.bool true)) ∧ ((kys (pl l)).take j).Nodup ∧ ρ3 41 = .int .i64 (j : Int) ∧ ρ3 40 = .int .i64 (l.length : Int) ∧ ρ3 39 = v ∧ ρ3 6 = .map (some mb))
        (fun ρ3 w3 => match ρ3 41 with | .int _ s => (l.length - s).toNat | _ => 0)
        (fun ρ3 w3 => Ext w w3 ∧ (kys (pl l)).Nodup) ?_ ?_ ?_
      · exact ⟨0, by omega, hx01.trans hxm, by rw [List.take_zero]; exact hm0, by rw [List.take_zero]; exact List.nodup_nil, rfl, rfl, rfl, rfl⟩
      · rintro J hJ ρ3 w3 ⟨j, hj, hx3, hm3, hnd, r41, r40, r39, r6⟩
        rw [r41, r40, r39, r6, X_lss, condS_bool]
        by_cases hje : j = l.length
        · rw [if_neg (by simp; omega)]
          rw [hje, List.take_of_length_le (by simp)] at hnd
          exact hJ _ _ ⟨hx3, hnd⟩
        rw [if_pos (by simp; omega)]
        have hlt : j < l.length := by omega
        have hltk : j < (kys (pl l)).length := by rw [hkl]; exact hlt
        refine X_takePiece (hl.ext hx3) hlt ((hin _ (List.getElem_mem hlt)).ext hx3) ?_
        intro u1 u2 q w4 hx4 hq hqb
        have hgk : (kys (pl l))[j]'hltk = l[j].p.k := by simp
        have hns := nodup_succ hltk
        rw [hgk] at hns
        have htk : (kys (pl l)).take (j + 1) = (kys (pl l)).take j ++ [l[j].p.k] := by rw [List.take_succ_eq_append_getElem hltk, hgk]
        generalize l[j] = A at hqb hns htk
        obtain ⟨kl, hkl'⟩ := keyOf_ky A.p.k
        have hm4 := hm3.ext hx4
        have hall : ∀ p ∈ (((kys (pl l)).take j).map fun k => (k.v, Value.bool true)), ∃ x, keyOf Tryz.prog 33 p.1 = some x := by
          intro p hp
          obtain ⟨k, _, rfl⟩ := List.mem_map.1 hp
          exact keyOf_ky k
        rw [X_field_40_0]
        refine X_of (piece_key hqb) ?_
        rcases run_lookupM keyed33 Tryz.underlying157 zero_4 hm4 hall hkl' false with ⟨hno, hrun⟩ | ⟨p, hp, hpk, hrun⟩
        · refine X_of hrun ?_
          (repeat (simp only [SLB, Int.reduceEq, Int.reduceNe, Int.reduceLT, Int.reduceLE, Int.reduceGT, Int.reduceGE, X_field_40_0]))
          refine X_of (piece_key hqb) ?_
          refine XU_updateNew keyed33 Tryz.underlying157 hm4 hall hkl' hno ?_
          intro w5 hm5 hk5
          rw [X_add]
          show _ ∧ _
          refine ⟨⟨j + 1, by omega, Ext.seq (hx3.trans hx4) hk5 (fun k hk => by omega), ?_, hns.2 ⟨hnd, fun hmem => ?_⟩, next64 (n := 1000000000000) (by decide) (by omega), r40, r39, r6⟩, ?_⟩
          · rw [htk, List.map_append]
            exact hm5
          · exact hno (A.p.k.v, .bool true) (List.mem_map.2 ⟨_, hmem, rfl⟩) rfl
          · show (_ - IntKind.i64.wrap _).toNat < _
            rw [w64 (by omega) (by omega)]
            first | omega | (show _ < (_ : Int).toNat; omega)
        · obtain ⟨k, hk, rfl⟩ := List.mem_map.1 hp
          have hkk : k = A.p.k := Ky.v_inj hpk
          refine X_of hrun ?_
          (repeat (simp only [SLB, Int.reduceEq, Int.reduceNe, Int.reduceLT, Int.reduceLE, Int.reduceGT, Int.reduceGE]))
          show K (i64v 3) w4
          have := hK w4 (hx3.trans hx4)
          have ec : chk (pl l) = 3 := by
            unfold chk
            rw [if_neg hne, if_neg n4, if_neg]
            intro hnd'
            have hnd2 : ((kys (pl l)).take (j + 1)).Nodup := hnd'.sublist (List.take_sublist _ _)
            have := (hns.1 hnd2).2
            rw [hkk] at hk
            exact this hk
          rw [ec] at this
          exact this
      · rintro ρ4 w4 ⟨hx4, hnd⟩
        have := hK w4 hx4
        have ec : chk (pl l) = 0 := by
          unfold chk
          rw [if_neg hne, if_neg n4, if_pos hnd]
        rw [ec] at this
        exact this
end
end Go.Proofs.YtcigpjejbkngfaaGreatDoor
end
section
namespace Go.Proofs.YtcigpjejbkngfaaGreatDoor
open Go Go.Sh Go.RowKit
attribute [local irreducible] X XU XP XR CALL loopS resC closS
theorem fold_take_succ (c : W32) (bs : List UInt8) (i : Nat) (h : i < bs.length) : fold c (bs.take (i + 1)) = upd1 (fold c (bs.take i)) bs[i] := by
  rw [take_succ' bs i h, fold_append]; rfl
theorem More_spec {c : W32} {v : Value} {bs : List UInt8} {w : World} {K : Value → World → Prop} (hb : Bts w v bs) (h : ∀ w1, Ext w w1 → K (U32 (more c bs)) w1) : CALL Tryz.prog 104 #[U32 c, v] w K := by
  obtain ⟨a, cp, e, h1, h2, h3⟩ := id hb
  subst e
  apply call_crc_More
  unfold B_crc_More
  refine X_of (u32_not c w) ?_
  simp only [SS, ST]
  by_cases hl : bs.length < 64
  · rw [if_pos (by simp; omega)]
    refine loopS_of (fun ρ wr => ∃ i : Nat, i ≤ bs.length ∧ wr = w ∧ ρ 18 = .int .i64 (i : Nat) ∧ ρ 17 = .int .i64 (bs.length : Nat) ∧ ρ 16 = .slice a bs.length cp ∧ ρ 5 = U32 (fold (~~~c) (bs.take i)))
      (fun ρ wr => match ρ 18 with | .int _ s => (bs.length - s).toNat | _ => 0) ?_ ?_
    · exact ⟨0, by omega, rfl, rfl, rfl, rfl, rfl⟩
    · rintro ρ wr ⟨i, hi, rfl, h18, h17, h16, h5⟩
      simp only [SS, ST, h18, h17, h16, h5]
      by_cases hin : i = bs.length
      · subst hin
        rw [if_neg (by simp)]
        simp only [upds_cons, upds_nil, Nat.reduceEqDiff, if_false, h5]
        refine X_of (u32_not _ _) ?_
        rw [List.take_length]
        exact h _ (Keep.refl _ _)
      · rw [if_pos (by simp; omega)]
        obtain ⟨ad, hix, hcell, _⟩ := at_bts Tryz.underlying28 info_5 sz_5 hb (k := .i64) i rfl (by omega)
        refine X_of (hix _) ?_
        refine X_load agg_5 hcell ?_
        refine X_of (u32_shl 31 .u64 _ 8 (by decide) _) ?_
        refine X_of (u32_shr 31 .u64 _ 24 (by decide) _) ?_
        refine X_of (u8_of_u32 Tryz.underlying31 Tryz.underlying5 _ _) ?_
        refine X_of (u8_xor 5 _ _ _) ?_
        refine step_spec ?_
        refine X_of (u32_xor 31 _ _ _) ?_
        rw [upd_eq, ← fold_take_succ]
        show _ ∧ _
        refine ⟨⟨i + 1, by omega, rfl, next64 (n := bs.length - 1) (by omega) (by omega), h17, h16, rfl⟩, ?_⟩
        · show (_ - IntKind.i64.wrap _).toNat < _
          rw [w64 (by omega) (by omega)]
          omega
  · rw [if_neg (by simp; omega)]
    refine table_spec ?_
    intro b w1 hx hbs hg
    have hb1 := hb.ext hx
    refine loopS_of (fun ρ wr => ∃ i : Nat, i ≤ bs.length ∧ wr = w1 ∧ ρ 37 = .int .i64 (i : Nat) ∧ ρ 36 = .int .i64 (bs.length : Nat) ∧ ρ 35 = .slice a bs.length cp ∧ ρ 8 = .pointer (some ⟨b, 0, none⟩) ∧ ρ 5 = U32 (fold (~~~c) (bs.take i)))
      (fun ρ wr => match ρ 37 with | .int _ s => (bs.length - s).toNat | _ => 0) ?_ ?_
    · exact ⟨0, by omega, rfl, rfl, rfl, rfl, rfl, rfl⟩
    · rintro ρ wr ⟨i, hi, rfl, h18, h17, h16, h8, h5⟩
      simp only [SS, ST, h18, h17, h16, h5, h8]
      by_cases hin : i = bs.length
      · subst hin
        rw [if_neg (by simp)]
        simp only [upds_cons, upds_nil, Nat.reduceEqDiff, if_false, h5]
        refine X_of (u32_not _ _) ?_
        rw [List.take_length]
        exact h _ hx
      · rw [if_pos (by simp; omega)]
        obtain ⟨ad, hix, hcell, _⟩ := at_bts Tryz.underlying28 info_5 sz_5 hb1 (k := .i64) i rfl (by omega)
        refine X_of (hix _) ?_
        refine X_load agg_5 hcell ?_
        refine X_of (u32_shl 31 .u64 _ 8 (by decide) _) ?_
        refine X_of (u32_shr 31 .u64 _ 24 (by decide) _) ?_
        refine X_of (u8_of_u32 Tryz.underlying31 Tryz.underlying5 _ _) ?_
        refine X_of (u8_xor 5 _ _ _) ?_
        refine X_of (ix_arr Tryz.underlying224 info_31 _ rfl (UInt8.toNat_lt _) _) ?_
        rw [sz_31, Nat.mul_one, add_plain, Nat.zero_add]
        refine X_loadL agg_31 hg (tab_get _ (UInt8.toNat_lt _)) ?_
        rw [UInt8.ofNat_toNat]
        refine X_of (u32_xor 31 _ _ _) ?_
        rw [upd_eq, ← fold_take_succ]
        show _ ∧ _
        refine ⟨⟨i + 1, by omega, rfl, next64 (n := bs.length - 1) (by omega) (by omega), h17, h16, h8, rfl⟩, ?_⟩
        · show (_ - IntKind.i64.wrap _).toNat < _
          rw [w64 (by omega) (by omega)]
          omega
theorem Sum_spec {v : Value} {bs : List UInt8} {w : World} {K : Value → World → Prop} (hb : Bts w v bs) (h : ∀ w1, Ext w w1 → K (U32 (crc bs)) w1) : CALL Tryz.prog 77 #[v] w K := by
  apply call_crc_Sum
  unfold B_crc_Sum
  exact More_spec (c := 0#32) hb h
theorem u64_of_u32 (c : W32) (w : World) : (convert 31 37 (U32 c)).run Tryz.prog w = .ok (.int .u64 ((c.toNat : Nat) : Int)) w := by
  unfold U32
  rw [run_conv_int Tryz.underlying31 Tryz.underlying37, wrap_u64]
  have := c.isLt
  congr 2
  omega
def sealB (bs : List UInt8) : List UInt8 := bs ++ be 4 (crc bs).toNat
theorem sealB_len (bs : List UInt8) : (sealB bs).length = bs.length + 4 := by simp [sealB]
theorem Seal_spec {v : Value} {bs : List UInt8} {w : World} {K : Value → World → Prop} (hb : Bts w v bs) (hl : bs.length ≤ 140737488351232)
    (h : ∀ v' w1, Ext w w1 → w1.ownsRow w.heap.size 5 1 v' (sealB bs).length (B8 (sealB bs)) → K v' w1) : CALL Tryz.prog 48 #[v] w K := by
  apply call_crc_Seal
  unfold B_crc_Seal
  refine Sum_spec hb ?_
  intro w1 hx
  refine X_of (u64_of_u32 _ _) ?_
  have := (crc bs).isLt
  refine Put_spec (hb.ext hx) (by omega) (by omega) ?_
  intro v' w2 hx2 ho
  rw [putB_4] at ho
  exact h v' w2 (hx.trans hx2) (own_mono ho hx.size)
def openB (bs : List UInt8) : Option (List UInt8) :=
  if bs.length < 4 then none else if num (bs.drop (bs.length - 4)) = (crc (bs.take (bs.length - 4))).toNat then some (bs.take (bs.length - 4)) else none
theorem getR4 (x : List UInt8) (h : x.length = 4) : getR x 0 4 = (num x, [], 0) := by
  have e4 : (4 : Int).toNat = 4 := rfl
  simp only [getR, e4, h]
  rw [if_neg (by simp), if_neg (by decide), if_neg (by decide), List.take_of_length_le (by omega), List.drop_eq_nil_of_le (by omega)]
theorem Open_spec {v : Value} {bs : List UInt8} {w : World} {K : Value → World → Prop} (hb : Bts w v bs) (hl : bs.length ≤ 140737488351232)
    (h0 : openB bs = none → ∀ w1, Ext w w1 → K (.tuple #[.slice none 0 0, .bool false]) w1)
    (h1 : ∀ cs v' w1, openB bs = some cs → Ext w w1 → w1.ownsRow w.heap.size 5 1 v' cs.length (B8 cs) → K (.tuple #[v', .bool true]) w1) : CALL Tryz.prog 117 #[v] w K := by
  obtain ⟨a, cp, e, _, _, _⟩ := id hb
  subst e
  apply call_crc_Open
  unfold B_crc_Open
  simp only [SS, ST]
  refine ⟨Ext, Ext.frame, ?_⟩
  by_cases h4 : bs.length < 4
  · have e1 : decide (IntKind.i64.wrap ((bs.length : Int) - 4) < 0) = true := by rw [w64 (by omega) (by omega)]; simp only [decide_eq_true_eq]; omega
    simp only [SS, ST, e1, if_true, Bool.true_eq_false, if_false]
    exact h0 (by simp [openB, h4]) _ (Keep.drew _ w)
  · have e0 : IntKind.i64.wrap ((bs.length : Int) - 4) = ((bs.length - 4 : Nat) : Int) := by rw [w64 (by omega) (by omega)]; omega
    have e1 : decide (((bs.length - 4 : Nat) : Int) < 0) = false := by simp only [decide_eq_false_iff_not]; omega
    simp only [e0, SS, ST, e1, if_true, Bool.false_eq_true, if_false]
    have hbd := hb.drew
    obtain ⟨u, hu, hub, huo⟩ := cut_lo Tryz.underlying28 info_5 sz_5 hbd (kl := .i64) (bs.length - 4) rfl (by omega)
    obtain ⟨u2, hu2, hub2, huo2⟩ := cut_hi Tryz.underlying28 info_5 hbd (kh := .i64) (bs.length - 4) rfl (by omega)
    refine XP_of hu ?_
    refine XP_of hu2 ?_
    refine New_spec hub (by simp; omega) ?_
    intro b w1 hx1 hb1 hr1
    refine Get_spec hr1 ?_
    have eg := getR4 (bs.drop (bs.length - 4)) (by simp; omega)
    rw [eg]
    intro w2 hk2 hr2
    have hx2 : Ext w w2 := Ext.seq ((Keep.drew _ w).trans hx1) hk2 (fun i hi => by subst hi; exact hb1)
    refine Sum_spec (hub2.ext ((Ext.seq hx1 hk2 (fun i hi => by subst hi; exact hb1)))) ?_
    intro w3 hx3
    refine XR_of_all (fun w' => u64_of_u32 _ w') ?_
    have hx : Ext w w3 := hx2.trans hx3
    simp only [SS, ST]
    by_cases heq : num (bs.drop (bs.length - 4)) = (crc (bs.take (bs.length - 4))).toNat
    · have ed : decide (((num (bs.drop (bs.length - 4)) : Nat) : Int) ≠ (((crc (bs.take (bs.length - 4))).toNat : Nat) : Int)) = false := by simp [heq]
      simp only [ed, Bool.false_eq_true, if_false]
      have hb3 := hb.ext hx
      obtain ⟨u3, hu3, hub3, huo3⟩ := cut_hi Tryz.underlying28 info_5 hb3 (kh := .i64) (bs.length - 4) rfl (by omega)
      refine X_of (hu3 _) ?_
      refine X_append_bts Tryz.underlying28 el_5 (xs := []) (World.ownsRow_nil w3 w3.heap.size 5 1) hub3 (by simp; omega) (Nat.le_refl _) ?_
      intro v4 w4 ho4 hk4
      refine h1 (bs.take (bs.length - 4)) v4 w4 (by simp [openB, h4, heq]) (Ext.seq hx hk4 (fun i hi => by cases hi)) ?_
      simp only [List.nil_append, Nat.zero_add] at ho4
      exact own_mono ho4 hx.size
    · have ed : decide (((num (bs.drop (bs.length - 4)) : Nat) : Int) ≠ (((crc (bs.take (bs.length - 4))).toNat : Nat) : Int)) = true := by simp; omega
      simp only [ed, if_true]
      exact h0 (by simp [openB, h4, heq]) _ hx
end Go.Proofs.YtcigpjejbkngfaaGreatDoor
end
