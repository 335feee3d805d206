/- Part 7 of what the law is proved with: Cach4 Cach5 Ext3 Cach6 Facts. -/
import Derived.ProofKit
import Derived.Test.YtlnkdphecinnnaaQPA6
section
/- The examples of the caches' chapter hold. -/
set_option linter.unusedVariables false
set_option linter.unusedSimpArgs false
namespace Go.Proofs.Ytlnkdphecinnnaa
open Go Go.Sh Go.RowKit
attribute [local irreducible] X XU XP XR CALL loopS resC closS
theorem lit2i (a b : Int) (w : World) : (Instr.buildSlice 35 2 #[(0, .int .i64 a), (1, .int .i64 b)]).run Try.prog w = .ok (.slice (some ⟨w.heap.size, 0, none⟩) 2 2) (newB w #[.int .i64 a, .int .i64 b] 3) := by kernel_rfl
theorem lit4i (a b c d : Int) (w : World) : (Instr.buildSlice 35 4 #[(0, .int .i64 a), (1, .int .i64 b), (2, .int .i64 c), (3, .int .i64 d)]).run Try.prog w = .ok (.slice (some ⟨w.heap.size, 0, none⟩) 4 4) (newB w #[.int .i64 a, .int .i64 b, .int .i64 c, .int .i64 d] 3) := by kernel_rfl
theorem row_ints {w : World} (l : List Int) (n : Nat) (hn : l.length = n) (hl : n ≤ 1000) : RowK 1 intC (newB w (l.map (fun n => Value.int .i64 n)).toArray 3) (.slice (some ⟨w.heap.size, 0, none⟩) n n) l :=
  RowK.ofK (f := intC) (by decide) intC_len (by rw [newB_get, cellsK_int]) hn (by omega)
theorem row_nilE (w : World) : RowK 35 Ex.cs w (.slice none 0 0) ([] : List Ex) := ⟨none, 0, rfl, Nat.le_refl _, by omega, fun h => absurd h (by simp)⟩
/-- A cache of the call's own. -/
def Mine (W w : World) (cb room : Nat) (T : Tbl) : Prop := ∃ D : Nat → Prop, (∀ g, D g → W.heap.size ≤ g) ∧ CacheAt w D cb room T
def shL : Nat → Tbl
  | 0 => []
  | 1 => [(5, [])]
  | 2 => [(5, []), (7, [])]
  | _ => [(7, []), (9, [])]
def litL : List Int := [5, 7, 9, 9]
theorem shL_succ (i : Nat) (h : i < 4) : loadT (shL i) 2 litL[i] [] 0 = shL (i + 1) := by
  match i, h with
  | 0, _ => rfl
  | 1, _ => rfl
  | 2, _ => rfl
  | 3, _ => rfl
theorem lit_i64 (i : Nat) (h : i < 4) : I64 litL[i] := by
  match i, h with
  | 0, _ => exact (⟨by decide, by decide⟩ : I64 5)
  | 1, _ => exact (⟨by decide, by decide⟩ : I64 7)
  | 2, _ => exact (⟨by decide, by decide⟩ : I64 9)
  | 3, _ => exact (⟨by decide, by decide⟩ : I64 9)
section
variable {w : World} {K : Value → World → Prop}
set_option maxHeartbeats 1000000 in
theorem shown14 (hK : ∀ w1, Ext w w1 → K (.bool true) w1) : CALL Try.prog 15 #[] w K := by
  apply call_law14_shown
  unfold B_law14_shown
  refine New_ok (room := 2) (by decide) ?_
  intro cb w1 hx1 hc1
  have e0 : decide ((0 : Int) ≠ 0) = false := rfl
  (repeat (simp only [XP_extract0, XP_extract1, XP_extract2, XP_extract3, X_extract0, X_extract1, X_extract2, X_extract3, X_nilS, X_eql_nil_24, X_neq_nil_24, X_eql_nil_103, X_neq_nil_103, X_eql, X_neq, X_lss, X_leq, X_gtr, X_geq, X_not, X_min, X_max, X_len_79, X_len_35, XP_nilS, XP_eql, XP_neq, XP_lss, XP_leq, XP_gtr, XP_geq, XP_not, XP_min, XP_max, XP_len_79, XP_eql_nil_24, X_str_eql, X_str_neq, XP_str_eql, XP_str_neq, GS, gs_u, decide_true, decide_false, Option.isNone_some, Option.isSome_some, Option.isNone_none, Option.isSome_none, eq_self, Bool.not_true, Bool.not_false, Int.reduceEq, Int.reduceNe, Int.reduceLT, Int.reduceLE, Int.reduceGT, Int.reduceGE, e0]))
  refine X_of (lit4i 5 7 9 9 _) ?_
  have hx2 := newB_ext w1 #[Value.int .i64 5, Value.int .i64 7, Value.int .i64 9, Value.int .i64 9] 3
  have hr2 : RowK 1 intC (newB w1 #[Value.int .i64 5, Value.int .i64 7, Value.int .i64 9, Value.int .i64 9] 3) (.slice (some ⟨w1.heap.size, 0, none⟩) 4 4) litL := row_ints litL 4 rfl (by decide)
  have hs2 := newB_size w1 #[Value.int .i64 5, Value.int .i64 7, Value.int .i64 9, Value.int .i64 9] 3
  generalize newB w1 #[Value.int .i64 5, Value.int .i64 7, Value.int .i64 9, Value.int .i64 9] 3 = w2 at hx2 hr2 hs2 ⊢
  have hx02 := hx1.trans hx2
  have hc2 := hc1.ext hx2
  rw [X_len_35]
  refine loopE (fun ρ wr => ∃ (i : Nat) (D : Nat → Prop), i ≤ 4 ∧ Ext w wr ∧ CacheAt wr D cb 2 (shL i) ∧ (∀ g, D g → w.heap.size ≤ g ∧ g ≠ w1.heap.size) ∧ w1.heap.size < wr.heap.size ∧ RowK 1 intC wr (.slice (some ⟨w1.heap.size, 0, none⟩) 4 4) litL ∧ ρ 18 = .int .i64 (i : Int) ∧ ρ 17 = .int .i64 4 ∧ ρ 16 = .slice (some ⟨w1.heap.size, 0, none⟩) 4 4 ∧ ρ 1 = ptr cb)
    (fun ρ wr => match ρ 18 with | .int _ s => (4 - s).toNat | _ => 0)
    (fun ρ wr => ∃ (D : Nat → Prop), Ext w wr ∧ CacheAt wr D cb 2 (shL 4) ∧ (∀ g, D g → w.heap.size ≤ g) ∧ ρ 1 = ptr cb) ?_ ?_ ?_
  · exact ⟨0, _, by omega, hx02, hc2, fun g hg => ⟨hg.1, by have := hg.2; omega⟩, by omega, hr2, rfl, rfl, rfl, rfl⟩
  · rintro J hJ ρ wr ⟨i, D, hi, hx, hc, hD, hlw, hr, r18, r17, r16, r1⟩
    rw [r18, r17, r16, r1, X_lss, condS_bool]
    by_cases hie : i = 4
    · rw [if_neg (by simp; omega)]
      subst hie
      exact hJ _ _ ⟨D, hx, hc, fun g hg => (hD g hg).1, r1⟩
    rw [if_pos (by simp; omega)]
    have hlt : i < 4 := by omega
    obtain ⟨g, hix, hcell, _⟩ := int_at hr (i := i) hlt
    refine X_of (hix _) ?_
    refine X_of (run_loadAt agg_3 hcell) ?_
    refine Load_spec (d := 0) hc (lit_i64 i hlt) (row_nilE wr) (by decide) (by decide) (fun h => absurd h (by decide)) ?_
    rw [shL_succ i hlt]
    intro w3 hk3 hc3
    rw [X_add]
    show _ ∧ _
    have hs3 := hk3.size
    refine ⟨⟨i + 1, _, by omega, Ext.seq hx hk3 (fun g hg => (hD g hg).1), hc3, ?_, by omega, hr.keep hk3 (fun _ b hb hbD => ?_), next64 (n := 1000) (by decide) (by omega), r17, r16, r1⟩, ?_⟩
    · rintro g (hg | hg)
      · exact hD g hg
      · have := hx.size
        exact ⟨by omega, by omega⟩
    · have hb' : w1.heap.size = b := by simpa [Value.ownBlock] using hb
      exact (hD b hbD).2 hb'.symm
    · show (_ - IntKind.i64.wrap _).toNat < _
      rw [w64 (by omega) (by omega)]
      first | omega | (show _ < (_ : Int).toNat; omega)
  · rintro ρ wr ⟨D, hx, hc, hD, r1⟩
    rw [r1]
    refine Shelves_spec hc ?_
    intro u3 w3 hx3 ho3
    have hc3 := hc.ext hx3
    refine Load_spec (s := 11) (d := 3) hc3 ⟨by decide, by decide⟩ (row_nilE w3) (by decide) (by decide) (fun h => absurd h (by decide)) ?_
    have e3 : loadT (shL 4) 2 11 [] 3 = [(7, []), (11, [])] := rfl
    rw [e3]
    intro w4 hk4 hc4
    have ho4 := ho3.keep hk4 (fun g hg hgD => by
      have h1 := (ho3.lt g hg).1
      have h2 := hc.lt g hgD
      omega)
    have hx4 : Ext w w4 := Ext.seq (hx.trans hx3) hk4 hD
    refine X_of (lit2i 7 9 _) ?_
    have hx5 := newB_ext w4 #[Value.int .i64 7, Value.int .i64 9] 3
    have hr5 : RowK 1 intC (newB w4 #[Value.int .i64 7, Value.int .i64 9] 3) (.slice (some ⟨w4.heap.size, 0, none⟩) 2 2) [7, 9] := row_ints [7, 9] 2 rfl (by decide)
    generalize newB w4 #[Value.int .i64 7, Value.int .i64 9] 3 = w5 at hx5 hr5 ⊢
    refine SameI_spec ((OwnK.rowK (by decide) intC_len ho4).ext hx5) hr5 (by decide) ?_
    intro w6 hx6
    have e4 : decide (shs (shL 4) = [7, 9]) = true := rfl
    (repeat (simp only [XP_extract0, XP_extract1, XP_extract2, XP_extract3, X_extract0, X_extract1, X_extract2, X_extract3, X_nilS, X_eql_nil_24, X_neq_nil_24, X_eql_nil_103, X_neq_nil_103, X_eql, X_neq, X_lss, X_leq, X_gtr, X_geq, X_not, X_min, X_max, X_len_79, X_len_35, XP_nilS, XP_eql, XP_neq, XP_lss, XP_leq, XP_gtr, XP_geq, XP_not, XP_min, XP_max, XP_len_79, XP_eql_nil_24, X_str_eql, X_str_neq, XP_str_eql, XP_str_neq, GS, gs_u, decide_true, decide_false, Option.isNone_some, Option.isSome_some, Option.isNone_none, Option.isSome_none, eq_self, Bool.not_true, Bool.not_false, Int.reduceEq, Int.reduceNe, Int.reduceLT, Int.reduceLE, Int.reduceGT, Int.reduceGE, e4]))
    have hx46 := hx5.trans hx6
    refine Shelves_spec (hc4.ext hx46) ?_
    intro u7 w7 hx7 ho7
    (repeat (simp only [XP_extract0, XP_extract1, XP_extract2, XP_extract3, X_extract0, X_extract1, X_extract2, X_extract3, X_nilS, X_eql_nil_24, X_neq_nil_24, X_eql_nil_103, X_neq_nil_103, X_eql, X_neq, X_lss, X_leq, X_gtr, X_geq, X_not, X_min, X_max, X_len_79, X_len_35, XP_nilS, XP_eql, XP_neq, XP_lss, XP_leq, XP_gtr, XP_geq, XP_not, XP_min, XP_max, XP_len_79, XP_eql_nil_24, X_str_eql, X_str_neq, XP_str_eql, XP_str_neq, GS, gs_u, decide_true, decide_false, Option.isNone_some, Option.isSome_some, Option.isNone_none, Option.isSome_none, eq_self, Bool.not_true, Bool.not_false, Int.reduceEq, Int.reduceNe, Int.reduceLT, Int.reduceLE, Int.reduceGT, Int.reduceGE, e4]))
    refine X_of (lit2i 7 11 _) ?_
    have hx8 := newB_ext w7 #[Value.int .i64 7, Value.int .i64 11] 3
    have hr8 : RowK 1 intC (newB w7 #[Value.int .i64 7, Value.int .i64 11] 3) (.slice (some ⟨w7.heap.size, 0, none⟩) 2 2) [7, 11] := row_ints [7, 11] 2 rfl (by decide)
    generalize newB w7 #[Value.int .i64 7, Value.int .i64 11] 3 = w8 at hx8 hr8 ⊢
    (repeat (simp only [XP_extract0, XP_extract1, XP_extract2, XP_extract3, X_extract0, X_extract1, X_extract2, X_extract3, X_nilS, X_eql_nil_24, X_neq_nil_24, X_eql_nil_103, X_neq_nil_103, X_eql, X_neq, X_lss, X_leq, X_gtr, X_geq, X_not, X_min, X_max, X_len_79, X_len_35, XP_nilS, XP_eql, XP_neq, XP_lss, XP_leq, XP_gtr, XP_geq, XP_not, XP_min, XP_max, XP_len_79, XP_eql_nil_24, X_str_eql, X_str_neq, XP_str_eql, XP_str_neq, GS, gs_u, decide_true, decide_false, Option.isNone_some, Option.isSome_some, Option.isNone_none, Option.isSome_none, eq_self, Bool.not_true, Bool.not_false, Int.reduceEq, Int.reduceNe, Int.reduceLT, Int.reduceLE, Int.reduceGT, Int.reduceGE, e4]))
    refine SameI_spec ((OwnK.rowK (by decide) intC_len ho7).ext hx8) hr8 (by decide) ?_
    intro w9 hx9
    have e5 : decide (shs [((7 : Int), ([] : List Ex)), (11, [])] = [7, 11]) = true := rfl
    (repeat (simp only [XP_extract0, XP_extract1, XP_extract2, XP_extract3, X_extract0, X_extract1, X_extract2, X_extract3, X_nilS, X_eql_nil_24, X_neq_nil_24, X_eql_nil_103, X_neq_nil_103, X_eql, X_neq, X_lss, X_leq, X_gtr, X_geq, X_not, X_min, X_max, X_len_79, X_len_35, XP_nilS, XP_eql, XP_neq, XP_lss, XP_leq, XP_gtr, XP_geq, XP_not, XP_min, XP_max, XP_len_79, XP_eql_nil_24, X_str_eql, X_str_neq, XP_str_eql, XP_str_neq, GS, gs_u, decide_true, decide_false, Option.isNone_some, Option.isSome_some, Option.isNone_none, Option.isSome_none, eq_self, Bool.not_true, Bool.not_false, Int.reduceEq, Int.reduceNe, Int.reduceLT, Int.reduceLE, Int.reduceGT, Int.reduceGE, e5]))
    exact hK _ ((((hx4.trans hx46).trans hx7).trans hx8).trans hx9)
end
end Go.Proofs.Ytlnkdphecinnnaa
end
section
/- Where a chunk lies, as the cache tells it. -/
set_option linter.unusedVariables false
set_option linter.unusedSimpArgs false
namespace Go.Proofs.Ytlnkdphecinnnaa
open Go Go.Sh Go.RowKit
attribute [local irreducible] X XU XP XR CALL loopS resC closS
def findE (es : List (Ky × Pl)) (k : Ky) : Option Pl := (es.find? fun e => decide (e.1 = k)).map Prod.snd
def findR (rows : List Ex) (k : Ky) : Option Pl := (rows.find? fun r => decide (r.k = k)).map fun r => (r.off, r.len)
def findT (T : Tbl) (k : Ky) : Option Pl := T.findSome? fun p => findR p.2 k
theorem addR_find (es : List (Ky × Pl)) (r : Ex) (k : Ky) : findE (addR es r) k = (findE es k).or (if r.k = k then some (r.off, r.len) else none) := by
  unfold addR findE
  split
  · rename_i h
    cases hf : es.find? fun e => decide (e.1 = k) with
    | some x => rfl
    | none =>
      have hne : r.k ≠ k := by
        intro he
        obtain ⟨x, hx, hxk⟩ := List.mem_map.1 h
        have := List.find?_eq_none.1 hf x hx
        simp at this
        exact this (hxk.trans he)
      simp [hne]
  · rw [List.find?_append]
    cases hf : es.find? fun e => decide (e.1 = k) with
    | some x => rfl
    | none =>
      by_cases he : r.k = k
      · simp [he]
      · simp [he]
theorem tab_find (rows : List Ex) (k : Ky) : findE (tabR rows) k = findR rows k := by
  suffices ∀ (rows : List Ex) (es : List (Ky × Pl)), findE (rows.foldl addR es) k = (findE es k).or (findR rows k) by
    have := this rows []
    simpa [tabR, findE] using this
  intro rows
  induction rows with
  | nil => intro es; simp [findR]
  | cons r rows ih =>
    intro es
    rw [List.foldl_cons, ih, addR_find, Option.or_assoc]
    congr 1
    unfold findR
    rw [List.find?_cons]
    by_cases he : r.k = k
    · simp [he]
    · simp [he]
theorem tab_nodup (rows : List Ex) : ((tabR rows).map Prod.fst).Nodup := by
  suffices ∀ (rows : List Ex) (es : List (Ky × Pl)), (es.map Prod.fst).Nodup → ((rows.foldl addR es).map Prod.fst).Nodup by
    exact this rows [] (by simp)
  intro rows
  induction rows with
  | nil => intro es h; exact h
  | cons r rows ih =>
    intro es h
    rw [List.foldl_cons]
    refine ih _ ?_
    unfold addR
    split
    · exact h
    · rename_i hn
      rw [List.map_append, List.nodup_append]
      refine ⟨h, by simp, fun x hx y hy => ?_⟩
      rw [List.map_singleton, List.mem_singleton] at hy
      rw [hy]
      exact fun he => hn (by have he' : x = r.k := he; rw [← he']; exact hx)
/-- The inner map is looked up: what is told does not hang on the world. -/
theorem run_inner {w : World} {b : Nat} {es : List (Ky × Pl)} (hm : MapAt w b (es.map entV)) (hn : (es.map Prod.fst).Nodup) (k : Ky) :
    (Instr.lookup 88 (.map (some b)) k.v true).run Try.prog w = .ok (.tuple #[plV ((findE es k).getD (0, 0)), .bool (findE es k).isSome]) w := by
  obtain ⟨kl, hkl⟩ := keyOf_ky k
  rcases run_lookupM (P := Try.prog) keyed44 Try.underlying88 zero_46 hm (keyed44_all es) hkl true with ⟨hno, hrun⟩ | ⟨p, hp, hpk, hrun⟩
  · have hf : findE es k = none := by
      unfold findE
      have : es.find? (fun e => decide (e.1 = k)) = none := by
        rw [List.find?_eq_none]
        intro x hx
        simp only [decide_eq_true_eq]
        intro he
        exact hno (entV x) (List.mem_map.2 ⟨x, hx, rfl⟩) (by show x.1.v = _; rw [he])
      rw [this]
      rfl
    rw [hf]
    exact hrun
  · obtain ⟨x, hx, rfl⟩ := List.mem_map.1 hp
    have hke : x.1 = k := Ky.v_inj hpk
    have hf : findE es k = some x.2 := by
      unfold findE
      cases hfd : es.find? (fun e => decide (e.1 = k)) with
      | none =>
        have := List.find?_eq_none.1 hfd x hx
        simp at this
        exact absurd hke this
      | some y =>
        have hy := List.mem_of_find?_eq_some hfd
        have hyk : y.1 = k := by simpa using List.find?_some hfd
        have : y = x := fst_inj hn hy hx (hyk.trans hke.symm)
        rw [this]
        rfl
    rw [hf]
    exact hrun
/-- The table of a shelf that is there. -/
theorem run_outer {w : World} {mb : Nat} {tb : List (Int × Nat)} (hm : MapAt w mb (tb.map tbV)) (hn : (tb.map Prod.fst).Nodup) (hi : ∀ s ∈ tb.map Prod.fst, I64 s) {p : Int × Nat} (hp : p ∈ tb) :
    (Instr.lookup 85 (.map (some mb)) (.int .i64 p.1) false).run Try.prog w = .ok (.map (some p.2)) w := by
  have hs := hi p.1 (List.mem_map.2 ⟨p, hp, rfl⟩)
  rcases run_lookupM (P := Try.prog) keyed3 Try.underlying85 zero_88 hm (tb_keys tb hi) (keyOf_i64 hs) false with ⟨hno, hrun⟩ | ⟨q, hq, hqk, hrun⟩
  · exact absurd rfl (hno (tbV p) (List.mem_map.2 ⟨p, hp, rfl⟩))
  · obtain ⟨x, hx, rfl⟩ := List.mem_map.1 hq
    have hxs : x.1 = p.1 := by injection hqk
    have : x = p := fst_inj hn hx hp hxs
    rw [this] at hrun
    exact hrun
theorem run_build46 (w : World) : (Instr.build 46 #[]).run Try.prog w = .ok (.agg #[.int .i64 0, .int .i64 0]) w := by kernel_rfl
section
variable {w : World} {K : Value → World → Prop}
theorem CGet_nil {k : Ky} (hK : ∀ w1, Ext w w1 → K (.tuple #[plV (0, 0), .bool false]) w1) : CALL Try.prog 25 #[.pointer none, k.v] w K := by
  apply call_cache_Cache_Get
  unfold B_cache_Cache_Get
  refine X_box ?_
  have hx1 := newB_ext w k.v.cells 44
  generalize newB w k.v.cells 44 = w1 at hx1 ⊢
  refine X_alloc zero_46 ?_
  have hx2 := newB_ext w1 (Value.agg #[(.int .i64 0), (.int .i64 0)]).cells 46
  have hg2 : (newB w1 (Value.agg #[(.int .i64 0), (.int .i64 0)]).cells 46).heap[w1.heap.size]? = some (.cells [Value.int .i64 0, Value.int .i64 0].toArray 46 (0, 0)) := newB_get _ _ _
  generalize newB w1 (Value.agg #[(.int .i64 0), (.int .i64 0)]).cells 46 = w2 at hx2 hg2 ⊢
  (repeat (simp only [XP_extract0, XP_extract1, XP_extract2, XP_extract3, X_extract0, X_extract1, X_extract2, X_extract3, X_nilS, X_eql_nil_24, X_neq_nil_24, X_eql_nil_103, X_neq_nil_103, X_eql, X_neq, X_lss, X_leq, X_gtr, X_geq, X_not, X_min, X_max, X_len_79, X_len_35, XP_nilS, XP_eql, XP_neq, XP_lss, XP_leq, XP_gtr, XP_geq, XP_not, XP_min, XP_max, XP_len_79, XP_eql_nil_24, X_str_eql, X_str_neq, XP_str_eql, XP_str_neq, GS, gs_u, decide_true, decide_false, Option.isNone_some, Option.isSome_some, Option.isNone_none, Option.isSome_none, eq_self, Bool.not_true, Bool.not_false, Int.reduceEq, Int.reduceNe, Int.reduceLT, Int.reduceLE, Int.reduceGT, Int.reduceGE]))
  refine X_of (run_build46 _) ?_
  refine XU_storeAgg (l := [.int .i64 0, .int .i64 0]) info_46 hg2 (by rw [sz_46]; rfl) (by rw [sz_46]; rfl) (by intro u hu; simp at hu; rw [hu]; rfl) ?_
  have hk3 := setAt_keep w2 w1.heap.size [Value.int .i64 0, Value.int .i64 0].toArray 46 (0, 0)
  have hg3 : (setAt w2 w1.heap.size [Value.int .i64 0, Value.int .i64 0].toArray 46 (0, 0)).heap[w1.heap.size]? = some (.cells [Value.int .i64 0, Value.int .i64 0].toArray 46 (0, 0)) := setAt_same (lt_of_blk hg2)
  generalize setAt w2 w1.heap.size [Value.int .i64 0, Value.int .i64 0].toArray 46 (0, 0) = w3 at hk3 hg3 ⊢
  refine resC_agg Try.underlying46 agg_46 info_46 hg3 (by rw [sz_46]; rfl) ?_
  exact hK _ (Ext.seq (hx1.trans hx2) hk3 (fun g hg => by have := hx1.size; omega))
set_option maxHeartbeats 1000000 in
theorem Get_specC {D : Nat → Prop} {cb room : Nat} {T : Tbl} {k : Ky} (h : CacheAt w D cb room T) (hK : ∀ w1, Ext w w1 → K (.tuple #[plV ((findT T k).getD (0, 0)), .bool (findT T k).isSome]) w1) : CALL Try.prog 25 #[ptr cb, k.v] w K := by
  have hC := h
  obtain ⟨⟨vo, mb, tb, h1, h2, h3, h4, h5, h6, h7, h8, h9, h10⟩, hlt, hnd, hi, hsm, hf⟩ := h
  have hitb : ∀ s ∈ tb.map Prod.fst, I64 s := fun s hs => hi s ((h5 s).1 hs)
  have hlT : (shs T).length = T.length := List.length_map ..
  apply call_cache_Cache_Get
  unfold B_cache_Cache_Get
  refine X_box ?_
  have hx1 := newB_ext w k.v.cells 44
  have hg1 : (newB w k.v.cells 44).heap[w.heap.size]? = some (.cells k.cs.toArray 44 (0, 0)) := newB_get w k.v.cells 44
  generalize newB w k.v.cells 44 = w1 at hx1 hg1 ⊢
  refine X_alloc zero_46 ?_
  have hx2 := newB_ext w1 (Value.agg #[(.int .i64 0), (.int .i64 0)]).cells 46
  have hg2 : (newB w1 (Value.agg #[(.int .i64 0), (.int .i64 0)]).cells 46).heap[w1.heap.size]? = some (.cells [Value.int .i64 0, Value.int .i64 0].toArray 46 (0, 0)) := newB_get _ _ _
  generalize newB w1 (Value.agg #[(.int .i64 0), (.int .i64 0)]).cells 46 = w2 at hx2 hg2 ⊢
  have hx02 := hx1.trans hx2
  have hg12 := hx2.get hg1
  have hlt1 := lt_of_blk hg1
  have hs1 := hx1.size
  obtain ⟨ao, co, eo⟩ := (OwnK.rowK (by decide) intC_len h2).slice
  (repeat (simp only [XP_extract0, XP_extract1, XP_extract2, XP_extract3, X_extract0, X_extract1, X_extract2, X_extract3, X_nilS, X_eql_nil_24, X_neq_nil_24, X_eql_nil_103, X_neq_nil_103, X_eql, X_neq, X_lss, X_leq, X_gtr, X_geq, X_not, X_min, X_max, X_len_79, X_len_35, XP_nilS, XP_eql, XP_neq, XP_lss, XP_leq, XP_gtr, XP_geq, XP_not, XP_min, XP_max, XP_len_79, XP_eql_nil_24, X_str_eql, X_str_neq, XP_str_eql, XP_str_neq, GS, gs_u, decide_true, decide_false, Option.isNone_some, Option.isSome_some, Option.isNone_none, Option.isSome_none, eq_self, Bool.not_true, Bool.not_false, Int.reduceEq, Int.reduceNe, Int.reduceLT, Int.reduceLE, Int.reduceGT, Int.reduceGE, X_field_87_1]))
  refine X_of (run_loadAt (v := vo) agg_35 ((cell_blk (Ext.get hx02 h1)).trans rfl)) ?_
  rw [eo, X_len_35, ← eo, hlT]
  refine loopGR 0 (fun ρ wr => ∃ i : Nat, i ≤ T.length ∧ Ext w2 wr ∧ findT (T.take i) k = none ∧ ρ 18 = .int .i64 (i : Int) ∧ ρ 17 = .int .i64 (T.length : Int) ∧ ρ 16 = vo ∧ ρ 0 = ptr cb ∧ ρ 3 = ptr w.heap.size ∧ ρ 4 = ptr w1.heap.size)
    (fun ρ wr => match ρ 18 with | .int _ s => (T.length - s).toNat | _ => 0)
    (fun ρ wr => Ext w2 wr ∧ findT T k = none ∧ ρ 4 = ptr w1.heap.size)
    (fun ρ wr => ∃ p, findT T k = some p ∧ Ext w wr ∧ wr.heap[w1.heap.size]? = some (.cells [Value.int .i64 p.1, Value.int .i64 p.2].toArray 46 (0, 0)) ∧ ρ 4 = ptr w1.heap.size ∧ ρ 5 = .bool true) ?_ ?_ ?_ ?_
  · exact ⟨0, by omega, Keep.refl _ _, by simp [findT], rfl, rfl, rfl, rfl, rfl, rfl⟩
  · rintro J hJ hJR ρ wr ⟨i, hi', hx, hno, r18, r17, r16, r0, r3, r4⟩
    rw [r18, r17, r16, X_lss, condS_bool]
    by_cases hie : i = T.length
    · rw [if_neg (by simp; omega)]
      rw [hie, List.take_of_length_le (Nat.le_refl _)] at hno
      exact hJ _ _ ⟨hx, hno, r4⟩
    rw [if_pos (by simp; omega)]
    have hltT : i < T.length := by omega
    have hlt2 : i < (shs T).length := by omega
    have hx0 := hx02.trans hx
    obtain ⟨g, hix, hcell, _⟩ := int_at ((OwnK.rowK (by decide) intC_len h2).ext hx0) hlt2
    refine X_of (hix _) ?_
    refine X_of (run_loadAt agg_3 hcell) ?_
    have hsi : (shs T)[i] = T[i].1 := by simp
    rw [hsi]
    obtain ⟨q, hq, hqs⟩ := List.mem_map.1 ((h5 T[i].1).2 (List.mem_map.2 ⟨_, List.getElem_mem hltT, rfl⟩))
    have hmT := h6 q hq T[i].2 (by rw [hqs]; exact List.getElem_mem hltT)
    have hsucc : findT (T.take (i + 1)) k = findR T[i].2 k := by
      rw [List.take_succ_eq_append_getElem hltT]
      unfold findT at hno ⊢
      rw [List.findSome?_append, hno]
      simp
    have hpre : ∀ p, findR T[i].2 k = some p → findT T k = some p := by
      intro p hp
      have e : T = T.take i ++ T[i] :: T.drop (i + 1) := by rw [← List.drop_eq_getElem_cons hltT, List.take_append_drop]
      conv => lhs; rw [e]
      unfold findT at hno ⊢
      rw [List.findSome?_append, hno, Option.none_or, List.findSome?_cons, hp]
    have hxd := hx.trans (Keep.drew (fun _ => False) wr)
    refine ⟨Ext, Ext.frame, ?_⟩
    generalize drewW wr = wd at hxd ⊢
    rw [r0, r3]
    rw [← hqs]
    generalize T[i].2 = rows at hmT hsucc hpre
    have hx0d := hx02.trans hxd
    (repeat (simp only [XP_extract0, XP_extract1, XP_extract2, XP_extract3, X_extract0, X_extract1, X_extract2, X_extract3, X_nilS, X_eql_nil_24, X_neq_nil_24, X_eql_nil_103, X_neq_nil_103, X_eql, X_neq, X_lss, X_leq, X_gtr, X_geq, X_not, X_min, X_max, X_len_79, X_len_35, XP_nilS, XP_eql, XP_neq, XP_lss, XP_leq, XP_gtr, XP_geq, XP_not, XP_min, XP_max, XP_len_79, XP_eql_nil_24, X_str_eql, X_str_neq, XP_str_eql, XP_str_neq, GS, gs_u, decide_true, decide_false, Option.isNone_some, Option.isSome_some, Option.isNone_none, Option.isSome_none, eq_self, Bool.not_true, Bool.not_false, Int.reduceEq, Int.reduceNe, Int.reduceLT, Int.reduceLE, Int.reduceGT, Int.reduceGE, XP_field_87_2]))
    refine XR_ok Ext.frame (fun w' kk => run_loadAt (v := .map (some mb)) agg_85 ((cell_blk (Ext.get (hx0d.trans kk) h1)).trans rfl)) ?_
    refine XR_ok Ext.frame (fun w' kk => run_outer (h3.ext (hx0d.trans kk)) h4 hitb hq) ?_
    refine XR_ok Ext.frame (fun w' kk => load_cells Try.underlying44 agg_44 info_44 (l := k.cs) (by rw [sz_44, Ky.cs_len]) (fun j u hj => by rw [add_plain, Nat.zero_add, cell_blk (Ext.get (hxd.trans kk) hg12)]; simpa using hj)) ?_
    refine XR_ok Ext.frame (fun w' kk => run_inner (hmT.ext (hx0d.trans kk)) (tab_nodup _) k) ?_
    rw [tab_find]
    (repeat (simp only [XP_extract0, XP_extract1, XP_extract2, XP_extract3, X_extract0, X_extract1, X_extract2, X_extract3, X_nilS, X_eql_nil_24, X_neq_nil_24, X_eql_nil_103, X_neq_nil_103, X_eql, X_neq, X_lss, X_leq, X_gtr, X_geq, X_not, X_min, X_max, X_len_79, X_len_35, XP_nilS, XP_eql, XP_neq, XP_lss, XP_leq, XP_gtr, XP_geq, XP_not, XP_min, XP_max, XP_len_79, XP_eql_nil_24, X_str_eql, X_str_neq, XP_str_eql, XP_str_neq, GS, gs_u, decide_true, decide_false, Option.isNone_some, Option.isSome_some, Option.isNone_none, Option.isSome_none, eq_self, Bool.not_true, Bool.not_false, Int.reduceEq, Int.reduceNe, Int.reduceLT, Int.reduceLE, Int.reduceGT, Int.reduceGE]))
    refine X_alloc zero_46 ?_
    have hxa := newB_ext wd (Value.agg #[(.int .i64 0), (.int .i64 0)]).cells 46
    have hga : (newB wd (Value.agg #[(.int .i64 0), (.int .i64 0)]).cells 46).heap[wd.heap.size]? = some (.cells [Value.int .i64 0, Value.int .i64 0].toArray 46 (0, 0)) := newB_get _ _ _
    generalize newB wd (Value.agg #[(.int .i64 0), (.int .i64 0)]).cells 46 = w5 at hxa hga ⊢
    refine ⟨hxa, ?_⟩
    generalize hfp : findR rows k = fp at hsucc hpre
    refine XU_storeAgg (l := [.int .i64 (fp.getD (0, 0)).1, .int .i64 (fp.getD (0, 0)).2]) info_46 hga (by rw [sz_46]; rfl) (by rw [sz_46]; rfl) (by intro u hu; simp only [List.mem_cons, List.not_mem_nil, or_false] at hu; rcases hu with rfl | rfl <;> rfl) ?_
    have hk6 := setAt_keep w5 wd.heap.size [Value.int .i64 (fp.getD (0, 0)).1, Value.int .i64 (fp.getD (0, 0)).2].toArray 46 (0, 0)
    have hg6 : (setAt w5 wd.heap.size [Value.int .i64 (fp.getD (0, 0)).1, Value.int .i64 (fp.getD (0, 0)).2].toArray 46 (0, 0)).heap[wd.heap.size]? = some (.cells [Value.int .i64 (fp.getD (0, 0)).1, Value.int .i64 (fp.getD (0, 0)).2].toArray 46 (0, 0)) := setAt_same (lt_of_blk hga)
    have hx6 : Ext wd (setAt w5 wd.heap.size [Value.int .i64 (fp.getD (0, 0)).1, Value.int .i64 (fp.getD (0, 0)).2].toArray 46 (0, 0)) := Ext.seq hxa hk6 (fun g hg => by omega)
    generalize setAt w5 wd.heap.size [Value.int .i64 (fp.getD (0, 0)).1, Value.int .i64 (fp.getD (0, 0)).2].toArray 46 (0, 0) = w6 at hg6 hx6 ⊢
    have hx26 := hxd.trans hx6
    cases fp with
    | none =>
      rw [Option.isSome_none, condS_bool, if_neg (by decide), X_add]
      show _ ∧ _
      refine ⟨⟨i + 1, by omega, hx26, hsucc, next64 (n := 4096) (by decide) (by omega), r17, r16, r0, r3, r4⟩, ?_⟩
      show (_ - IntKind.i64.wrap _).toNat < _
      rw [w64 (by omega) (by omega)]
      first | omega | (show _ < (_ : Int).toNat; omega)
    | some p =>
      rw [Option.isSome_some, condS_bool, if_pos rfl]
      refine X_of (load_cells Try.underlying46 agg_46 info_46 (l := [Value.int .i64 p.1, Value.int .i64 p.2]) (by rw [sz_46]; rfl) (fun j u hj => by rw [add_plain, Nat.zero_add, cell_blk hg6]; simpa using hj)) ?_
      rw [r4]
      have hg26 := Ext.get hx26 hg2
      refine XU_storeAgg (l := [Value.int .i64 p.1, Value.int .i64 p.2]) info_46 hg26 (by rw [sz_46]; rfl) (by rw [sz_46]; rfl) (by intro u hu; simp only [List.mem_cons, List.not_mem_nil, or_false] at hu; rcases hu with rfl | rfl <;> rfl) ?_
      refine hJR _ _ ⟨p, hpre p rfl, Ext.seq (hx02.trans hx26) (setAt_keep _ _ _ _ _) (fun g hg => by omega), setAt_same (lt_of_blk hg26), r4, rfl⟩
  · rintro ρ wr ⟨hx, hno, r4⟩
    show X _ (Instr.build 46 #[]) wr _
    refine X_of (run_build46 _) ?_
    rw [r4]
    have hg26 := Ext.get hx hg2
    refine XU_storeAgg (l := [.int .i64 0, .int .i64 0]) info_46 hg26 (by rw [sz_46]; rfl) (by rw [sz_46]; rfl) (by intro u hu; simp at hu; rw [hu]; rfl) ?_
    refine resC_agg Try.underlying46 agg_46 info_46 (setAt_same (lt_of_blk hg26)) (by rw [sz_46]; rfl) ?_
    have := hK _ (Ext.seq (hx02.trans hx) (setAt_keep wr w1.heap.size [Value.int .i64 0, Value.int .i64 0].toArray 46 (0, 0)) (fun g hg => by omega))
    rw [hno] at this
    exact this
  · rintro ρ wr ⟨p, hp, hx, hg, r4, r5⟩
    show resC _ 46 (ρ 4) wr fun v => K (.tuple #[v, ρ 5]) wr
    rw [r4, r5]
    refine resC_agg Try.underlying46 agg_46 info_46 hg (by rw [sz_46]; rfl) ?_
    have := hK _ hx
    rw [hp] at this
    exact this
end
end Go.Proofs.Ytlnkdphecinnnaa
end
section
/- Extents: the argument, a literal; extent.Slice. -/
set_option linter.unusedVariables false
set_option linter.unusedSimpArgs false
namespace Go.Proofs.Ytlnkdphecinnnaa
open Go Go.Sh Go.RowKit Go.ChangeShapes Go.WideShapes Go.ChangeAt
attribute [local irreducible] X XU XP XR CALL loopS resC closS Value.okWide
theorem cel72 : Try.prog.cellsOf 72 = 35 := by kernel_rfl
theorem cel3 : Try.prog.cellsOf 3 = 1 := by kernel_rfl
theorem u8_of_wf' {n : Int} (h : (Lit.int .u8 n).wf = true) : ∃ u : UInt8, n = ((u.toNat : Nat) : Int) := by
  simp [Lit.wf, IntKind.min, IntKind.max, IntKind.signed, IntKind.bits] at h
  refine ⟨UInt8.ofNat n.toNat, ?_⟩
  have : n.toNat < 256 := by omega
  simp [Nat.mod_eq_of_lt this]
  omega
theorem b8_of' : ∀ {es : List Value}, (∀ i, i < es.length → ∃ u : UInt8, es[i]? = some (.int .u8 ((u.toNat : Nat) : Int))) → ∃ xs, es = B8 xs := by
  intro es
  induction es with
  | nil => intro _; exact ⟨[], rfl⟩
  | cons e es ih =>
    intro h
    obtain ⟨u, hu⟩ := h 0 (by simp)
    obtain ⟨xs, rfl⟩ := ih (fun i hi => by have := h (i + 1) (by simp; omega); simpa using this)
    refine ⟨u :: xs, ?_⟩
    simp only [List.getElem?_cons_zero, Option.some.injEq] at hu
    rw [hu]
    rfl
theorem trc_key' {H : Type} {enc : TypeId × Value → H} {W : World} {es : List Value} (h : TrC enc Try.prog W 44 es) : ∃ k : Ky, es = k.cs := by
  obtain ⟨hl, hf⟩ := h.struct Try.underlying44
  rw [cel44] at hl
  have g0 := hf { name := "Sum", type := 41, offset := 0, embedded := false, tag := "", pkgPath := "", byteOffset := 0 } (by simp)
  have g1 := hf { name := "N", type := 42, offset := 32, embedded := false, tag := "", pkgPath := "", byteOffset := 32 } (by simp)
  simp only [cel41, cel42, List.drop_zero] at g0 g1
  obtain ⟨n, hn, hw⟩ := TrC.int Try.underlying42 g1
  obtain ⟨hl0, ha⟩ := g0.array Try.underlying41
  rw [cel41] at hl0
  have hall : ∀ i, i < (es.take 32).length → ∃ u : UInt8, (es.take 32)[i]? = some (.int .u8 ((u.toNat : Nat) : Int)) := by
    intro i hi
    have := ha i (by omega)
    rw [cel5, Nat.mul_one] at this
    obtain ⟨m, hm, hw⟩ := TrC.int Try.underlying5 this
    obtain ⟨u, rfl⟩ := u8_of_wf' hw
    refine ⟨u, ?_⟩
    have h0 := congrArg (fun l => l[0]?) hm
    simp only [List.getElem?_cons_zero] at h0
    rw [List.getElem?_take, if_pos (by omega), List.getElem?_drop, Nat.add_zero] at h0
    exact h0
  obtain ⟨xs, hxs⟩ := b8_of' hall
  have hxl : xs.length = 32 := by
    have := congrArg List.length hxs
    rw [hl0] at this
    simpa using this.symm
  simp [Lit.wf, IntKind.min, IntKind.max, IntKind.signed, IntKind.bits] at hw
  refine ⟨⟨xs, n.toNat, hxl, by omega⟩, ?_⟩
  unfold Ky.cs
  show es = B8 xs ++ [.int .u32 ((n.toNat : Nat) : Int)]
  rw [Int.toNat_of_nonneg hw.1, ← hxs, ← hn]
  have : (es.drop 32).take 1 = es.drop 32 := List.take_of_length_le (by rw [List.length_drop]; omega)
  rw [this, List.take_append_drop]
theorem trc_ext {H : Type} {enc : TypeId × Value → H} {W : World} {es : List Value} (h : TrC enc Try.prog W 72 es) : ∃ e : Ex, es = e.cs := by
  obtain ⟨hl, hf⟩ := h.struct Try.underlying72
  rw [cel72] at hl
  have g0 := hf { name := "Key", type := 44, offset := 0, embedded := false, tag := "", pkgPath := "", byteOffset := 0 } (by simp)
  have g1 := hf { name := "Off", type := 3, offset := 33, embedded := false, tag := "", pkgPath := "", byteOffset := 40 } (by simp)
  have g2 := hf { name := "Len", type := 3, offset := 34, embedded := false, tag := "", pkgPath := "", byteOffset := 48 } (by simp)
  simp only [cel44, cel3, List.drop_zero] at g0 g1 g2
  obtain ⟨k, hk⟩ := trc_key' g0
  obtain ⟨a, ha, hwa⟩ := TrC.int Try.underlying3 g1
  obtain ⟨b, hb, hwb⟩ := TrC.int Try.underlying3 g2
  simp [Lit.wf, IntKind.min, IntKind.max, IntKind.signed, IntKind.bits] at hwa hwb
  refine ⟨⟨k, a, b, by omega, by omega, by omega, by omega⟩, ?_⟩
  unfold Ex.cs
  show es = k.cs ++ [.int .i64 a, .int .i64 b]
  have e1 : (es.drop 33).take 1 ++ (es.drop 34).take 1 = es.drop 33 := by
    have : es.drop 34 = (es.drop 33).drop 1 := by rw [List.drop_drop]
    rw [this]
    have h2 : (((es.drop 33).drop 1).take 1) = (es.drop 33).drop 1 := List.take_of_length_le (by rw [List.length_drop, List.length_drop]; omega)
    rw [h2, List.take_append_drop]
  rw [ha, hb] at e1
  have e2 : [Value.int .i64 a, Value.int .i64 b] = es.drop 33 := e1
  rw [e2, ← hk, List.take_append_drop]
theorem arg_exts {H : Type} {enc : TypeId × Value → H} {W : World} {base : Nat} {v : Value} {d : DataW H} {p : List MemPlace}
    (ok : Value.okWide Try.prog W .any base 59 v) (h : DataW.Trod enc Try.prog W 0 (fun _ => true) true 59 v d p) : ∃ l : List Ex, RowK 35 Ex.cs W v l := by
  obtain ⟨a, n, c, rfl⟩ := okWide_slice Try.underlying59 ok
  obtain ⟨l, hl, _⟩ := TrC.rowK (f := Ex.cs) (Good := fun _ => True) Try.underlying59 cel72 (fun es hes => by obtain ⟨e, he⟩ := trc_ext hes; exact ⟨e, he, trivial⟩) (TrC.of h)
  exact ⟨l, hl⟩
theorem wrap_lo (n : Int) : -9223372036854775808 ≤ IntKind.i64.wrap n := by rw [IntKind.wrap_i64]; omega
theorem wrap_hi (n : Int) : IntKind.i64.wrap n ≤ 9223372036854775807 := by rw [IntKind.wrap_i64]; omega
def mkEx (k : Ky) (a b : Int) : Ex := ⟨k, IntKind.i64.wrap a, IntKind.i64.wrap b, wrap_lo a, wrap_hi a, wrap_lo b, wrap_hi b⟩
/-- A row of extents of the call's own. -/
theorem X_appEx {w : World} {base : Nat} {vo : Value} {ks : List Ex} {e : Ex} (ho : OwnK 35 72 Ex.cs w base vo ks) (hn : ks.length ≤ 1000000) (hbase : base ≤ w.heap.size) {K2 : Value → Value → World → Prop}
    (hK : ∀ u v' w1, OwnK 35 72 Ex.cs w1 base v' (ks ++ [e]) → Keep (fun q => some q = vo.ownBlock) w w1 → K2 u v' w1) :
    X Try.prog (Instr.buildSlice 59 1 #[(0, .agg e.cs.toArray)]) w fun u w1 => X Try.prog (Builtin.append_ #[59, 59] 59 #[vo, u]) w1 fun v' w2 => K2 u v' w2 := by
  refine X_buildSliceK Try.underlying59 el_72 (by decide) (by decide) e.cs_len ?_
  have hx3 := newB_ext w e.cs.toArray 72
  have hg3 := newB_get w e.cs.toArray 72
  show X _ _ (newB w e.cs.toArray 72) _
  generalize newB w e.cs.toArray 72 = w3 at hx3 hg3 ⊢
  have hrow : RowK 35 Ex.cs w3 (.slice (some ⟨w.heap.size, 0, none⟩) 1 1) [e] := by
    refine RowK.ofK (T := 72) (fr := (0, 0)) (by decide) Ex.cs_len ?_ rfl (by decide)
    rw [hg3]
    unfold cellsK
    simp
  refine X_appendK Try.underlying59 el_72 (by decide) Ex.cs_len (fun x hx => by rw [List.mem_singleton.1 hx]; exact Ex.one e) (ho.ext hx3) hrow (by simp; omega) (by decide) (by have := hx3.size; omega) ?_
  intro v' w4 ho4 hk4
  exact hK _ _ _ ho4 (Keep.trans (Keep.ext hx3) hk4)
end Go.Proofs.Ytlnkdphecinnnaa
end
section
/- Words of the caches' laws: rows of numbers cut, rows of numbers as arguments. -/
set_option linter.unusedVariables false
set_option linter.unusedSimpArgs false
namespace Go.Proofs.Ytlnkdphecinnnaa
open Go Go.Sh Go.RowKit Go.ChangeShapes Go.WideShapes Go.ChangeAt
attribute [local irreducible] X XU XP XR CALL loopS resC closS Value.okWide
theorem cel3' : Try.prog.cellsOf 3 = 1 := by kernel_rfl
theorem arg_ints {H : Type} {enc : TypeId × Value → H} {W : World} {base : Nat} {v : Value} {d : DataW H} {p : List MemPlace}
    (ok : Value.okWide Try.prog W .any base 35 v) (h : DataW.Trod enc Try.prog W 0 (fun _ => true) true 35 v d p) : ∃ l : List Int, RowK 1 intC W v l ∧ ∀ x ∈ l, I64 x := by
  obtain ⟨a, n, c, rfl⟩ := okWide_slice Try.underlying35 ok
  exact TrC.rowK (k := 1) (f := intC) (Good := I64) Try.underlying35 cel3' (fun es hes => by
    obtain ⟨n, rfl, hw⟩ := hes.int Try.underlying3
    simp [Lit.wf, IntKind.min, IntKind.max, IntKind.signed, IntKind.bits] at hw
    exact ⟨n, rfl, by unfold I64; omega⟩) (TrC.of h)
theorem ints_hi {w : World} {v : Value} {l : List Int} (h : RowK 1 intC w v l) (i : Nat) (hi : i ≤ l.length) : ∃ u, (∀ w', (Instr.sliceAt 35 v none (some (.int .i64 (i : Int))) none).run Try.prog w' = .ok u w') ∧ RowK 1 intC w u (l.take i) :=
  h.cut Try.underlying35 info_3 i rfl hi
theorem ints_lo {w : World} {v : Value} {l : List Int} (h : RowK 1 intC w v l) (i : Nat) (hi : i ≤ l.length) : ∃ u, (∀ w', (Instr.sliceAt 35 v (some (.int .i64 (i : Int))) none none).run Try.prog w' = .ok u w') ∧ RowK 1 intC w u (l.drop i) := by
  obtain ⟨a, c, rfl, h1, h2, h3⟩ := h
  refine ⟨_, fun w' => sl_lo Try.underlying35 info_3 i rfl hi w', ?_⟩
  have hl : (l.drop i).length = l.length - i := List.length_drop ..
  refine ⟨_, c - i, by rw [hl], by rw [hl]; omega, by omega, fun h0 => ?_⟩
  rw [hl] at h0
  obtain ⟨ad, rfl, hc⟩ := h3 (by omega)
  refine ⟨ad.add i, by rw [if_neg (by omega), sz_3, Nat.mul_one]; rfl, fun j x hx m u hu => ?_⟩
  rw [List.getElem?_drop] at hx
  have := hc (i + j) x hx m u hu
  have e : (ad.add i).add (j * 1) = ad.add ((i + j) * 1) := by rw [add_add, Nat.mul_one, Nat.mul_one]
  rw [e]
  exact this
theorem u8_rem' (n m : Nat) (hm : 0 < m) (h2 : m < 256) : (n : Int).tmod (m : Int) = ((n % m : Nat) : Int) := by
  rw [Int.tmod_eq_emod_of_nonneg (by omega)]
  rfl
end Go.Proofs.Ytlnkdphecinnnaa
end
section
/- Three facts of the whole program that the kernel cannot reckon head-on: what the first words of the order say. -/
set_option linter.constructorNameAsVariable false
namespace Go.Proofs.Ytlnkdphecinnnaa
open Go Go.Sh Go.RowKit

theorem words_cons (c : Char) (hc : c ≠ Char.ofNat 32) (r : List Char) : wordsSigns (c :: r) = match wordsSigns r with | w :: ws => (c :: w) :: ws | [] => [[c]] := by
  rw [wordsSigns.eq_def]
  split
  · rename_i h; cases h
  · rename_i h; injection h with h1 h2; exact absurd h1 hc
  · rename_i c' r' _ h
    injection h with h1 h2
    subst h1; subst h2
    rfl
theorem words_append : ∀ (u r : List Char), (∀ c ∈ u, c ≠ Char.ofNat 32) → wordsSigns (u ++ Char.ofNat 32 :: r) = u :: wordsSigns r
  | [], r, _ => by rw [List.nil_append, wordsSigns.eq_def]; rfl
  | c :: u, r, h => by
    rw [List.cons_append, words_cons c (h c (by simp)), words_append u r (fun x hx => h x (by simp [hx]))]

theorem words_are : ∃ ws, wordsSigns Try.prog.initOrder.toList = "harness".toList :: "e8a15ecc23c33a030de7402db7772e6b478cba0a1dea1bb50f6a6670b6ebb8b4".toList :: "cut".toList :: ws := by
  have h : Try.prog.initOrder = "harness" ++ " " ++ "e8a15ecc23c33a030de7402db7772e6b478cba0a1dea1bb50f6a6670b6ebb8b4" ++ " " ++ "cut" ++ " " ++ "at cellarage/cellaragelaw14.CacheRoom cellarage/cellaragelaw14.CacheDrawn cellarage/cellaragelaw14.CachePlays cellarage/cellaragelaw14.CacheTells cellarage/cellaragelaw14.CacheNil cellarage/cellaragelaw16.ExtentSlices cellarage/cellaragelaw16.ExtentJoins cellarage/cellaragelaw16.ExtentCuts cellarage/cellaragelaw16.ExtentTwice cellarage/cellaragelaw16.ExtentRights cellarage/cellaragelaw16.ExtentBytes cellarage/cellaragelaw16.ExtentBack" := by kernel_rfl
  rw [h]
  simp only [String.toList_append, List.append_assoc]
  refine ⟨wordsSigns ("at cellarage/cellaragelaw14.CacheRoom cellarage/cellaragelaw14.CacheDrawn cellarage/cellaragelaw14.CachePlays cellarage/cellaragelaw14.CacheTells cellarage/cellaragelaw14.CacheNil cellarage/cellaragelaw16.ExtentSlices cellarage/cellaragelaw16.ExtentJoins cellarage/cellaragelaw16.ExtentCuts cellarage/cellaragelaw16.ExtentTwice cellarage/cellaragelaw16.ExtentRights cellarage/cellaragelaw16.ExtentBytes cellarage/cellaragelaw16.ExtentBack".toList), ?_⟩
  have e : " ".toList = [Char.ofNat 32] := by kernel_rfl
  rw [e]
  simp only [List.singleton_append]
  rw [words_append _ _ (by decide), words_append _ _ (by decide), words_append _ _ (by decide)]


theorem head_is : ∃ ws, behindMainWord (wordsSigns Try.prog.initOrder.toList) = "cut".toList :: ws := by
  obtain ⟨ws, h⟩ := words_are
  rw [h]
  exact ⟨ws, by kernel_rfl⟩
theorem laysLater_is : Try.prog.laysLater = false := by kernel_rfl
theorem bearsReflect_is : Try.prog.bearsReflect = false := by kernel_rfl
theorem doorRows_is : Try.prog.doorRows = [] := by kernel_rfl
section
variable {P : Program} {ws : List (List Char)}
theorem make_of (h : behindMainWord (wordsSigns P.initOrder.toList) = "cut".toList :: ws) : P.make = some .cut := by
  unfold Program.make
  rw [h]
  kernel_rfl
theorem headLifts_of (h : behindMainWord (wordsSigns P.initOrder.toList) = "cut".toList :: ws) : P.headLifts = [] := by
  unfold Program.headLifts
  rw [h]
  kernel_rfl
theorem liftsFinal_of (h : behindMainWord (wordsSigns P.initOrder.toList) = "cut".toList :: ws) : P.liftsFinal = false := by
  unfold Program.liftsFinal
  rw [headLifts_of h, h]
  kernel_rfl
theorem mayEnter_of (h : behindMainWord (wordsSigns P.initOrder.toList) = "cut".toList :: ws) (h1 : P.laysLater = false) (h2 : P.bearsReflect = false) (h3 : P.doorRows = []) : P.mayEnter = true := by
  unfold Program.mayEnter Program.doorFits
  rw [h, h1, h2, h3]
  kernel_rfl
end
theorem mayEnter_is : Try.prog.mayEnter = true := by
  obtain ⟨ws, h⟩ := head_is
  exact mayEnter_of h laysLater_is bearsReflect_is doorRows_is
theorem liftsFinal_is : Try.prog.liftsFinal = false := by
  obtain ⟨ws, h⟩ := head_is
  exact liftsFinal_of h
theorem make_is : Try.prog.make = some .cut := by
  obtain ⟨ws, h⟩ := head_is
  exact make_of h
end Go.Proofs.Ytlnkdphecinnnaa
end
