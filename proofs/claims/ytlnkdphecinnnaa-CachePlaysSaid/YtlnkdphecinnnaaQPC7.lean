/- Part 7 of what the law is proved with: Cach4 Cach5 Ext3 Cach6 Cach7 Cach8 Cach9 Cach10 Cach11 Facts. -/
import Derived.ProofKit
import Derived.Test.YtlnkdphecinnnaaQPC6
section
/- The examples of the caches' chapter hold. -/
set_option linter.unusedVariables false
set_option linter.unusedSimpArgs false
namespace Go.Proofs.Ytlnkdphecinnnaa
open Go Go.Sh Go.RowKit
attribute [local irreducible] X XU XP XR CALL loopS resC closS
theorem lit2i (a b : Int) (w : World) : (Instr.buildSlice 35 2 #[(0, .int .i64 a), (1, .int .i64 b)]).run Try.prog w = .ok (.slice (some ⟨w.heap.size, 0, none⟩) 2 2) (newB w #[.int .i64 a, .int .i64 b] 3) := by kernel_rfl
theorem lit4i (a b c d : Int) (w : World) : (Instr.buildSlice 35 4 #[(0, .int .i64 a), (1, .int .i64 b), (2, .int .i64 c), (3, .int .i64 d)]).run Try.prog w = .ok (.slice (some ⟨w.heap.size, 0, none⟩) 4 4) (newB w #[.int .i64 a, .int .i64 b, .int .i64 c, .int .i64 d] 3) := by kernel_rfl
theorem row_ints {w : World} (l : List Int) (n : Nat) (hn : l.length = n) (hl : n ≤ 1000) : RowK 1 intC (newB w (l.map (fun n => Value.int .i64 n)).toArray 3) (.slice (some ⟨w.heap.size, 0, none⟩) n n) l :=
  RowK.ofK (f := intC) (by decide) intC_len (by rw [newB_get, cellsK_int]) hn (by omega)
theorem row_nilE (w : World) : RowK 35 Ex.cs w (.slice none 0 0) ([] : List Ex) := ⟨none, 0, rfl, Nat.le_refl _, by omega, fun h => absurd h (by simp)⟩
/-- A cache of the call's own. -/
def Mine (W w : World) (cb room : Nat) (T : Tbl) : Prop := ∃ D : Nat → Prop, (∀ g, D g → W.heap.size ≤ g) ∧ CacheAt w D cb room T
def shL : Nat → Tbl
  | 0 => []
  | 1 => [(5, [])]
  | 2 => [(5, []), (7, [])]
  | _ => [(7, []), (9, [])]
def litL : List Int := [5, 7, 9, 9]
theorem shL_succ (i : Nat) (h : i < 4) : loadT (shL i) 2 litL[i] [] 0 = shL (i + 1) := by
  match i, h with
  | 0, _ => rfl
  | 1, _ => rfl
  | 2, _ => rfl
  | 3, _ => rfl
theorem lit_i64 (i : Nat) (h : i < 4) : I64 litL[i] := by
  match i, h with
  | 0, _ => exact (⟨by decide, by decide⟩ : I64 5)
  | 1, _ => exact (⟨by decide, by decide⟩ : I64 7)
  | 2, _ => exact (⟨by decide, by decide⟩ : I64 9)
  | 3, _ => exact (⟨by decide, by decide⟩ : I64 9)
section
variable {w : World} {K : Value → World → Prop}
set_option maxHeartbeats 1000000 in
theorem shown14 (hK : ∀ w1, Ext w w1 → K (.bool true) w1) : CALL Try.prog 15 #[] w K := by
  apply call_law14_shown
  unfold B_law14_shown
  refine New_ok (room := 2) (by decide) ?_
  intro cb w1 hx1 hc1
  have e0 : decide ((0 : Int) ≠ 0) = false := rfl
  (repeat (simp only [XP_extract0, XP_extract1, XP_extract2, XP_extract3, X_extract0, X_extract1, X_extract2, X_extract3, X_nilS, X_eql_nil_24, X_neq_nil_24, X_eql_nil_103, X_neq_nil_103, X_eql, X_neq, X_lss, X_leq, X_gtr, X_geq, X_not, X_min, X_max, X_len_79, X_len_35, XP_nilS, XP_eql, XP_neq, XP_lss, XP_leq, XP_gtr, XP_geq, XP_not, XP_min, XP_max, XP_len_79, XP_eql_nil_24, X_str_eql, X_str_neq, XP_str_eql, XP_str_neq, GS, gs_u, decide_true, decide_false, Option.isNone_some, Option.isSome_some, Option.isNone_none, Option.isSome_none, eq_self, Bool.not_true, Bool.not_false, Int.reduceEq, Int.reduceNe, Int.reduceLT, Int.reduceLE, Int.reduceGT, Int.reduceGE, e0]))
  refine X_of (lit4i 5 7 9 9 _) ?_
  have hx2 := newB_ext w1 #[Value.int .i64 5, Value.int .i64 7, Value.int .i64 9, Value.int .i64 9] 3
  have hr2 : RowK 1 intC (newB w1 #[Value.int .i64 5, Value.int .i64 7, Value.int .i64 9, Value.int .i64 9] 3) (.slice (some ⟨w1.heap.size, 0, none⟩) 4 4) litL := row_ints litL 4 rfl (by decide)
  have hs2 := newB_size w1 #[Value.int .i64 5, Value.int .i64 7, Value.int .i64 9, Value.int .i64 9] 3
  generalize newB w1 #[Value.int .i64 5, Value.int .i64 7, Value.int .i64 9, Value.int .i64 9] 3 = w2 at hx2 hr2 hs2 ⊢
  have hx02 := hx1.trans hx2
  have hc2 := hc1.ext hx2
  rw [X_len_35]
  refine loopE (fun ρ wr => ∃ (i : Nat) (D : Nat → Prop), i ≤ 4 ∧ Ext w wr ∧ CacheAt wr D cb 2 (shL i) ∧ (∀ g, D g → w.heap.size ≤ g ∧ g ≠ w1.heap.size) ∧ w1.heap.size < wr.heap.size ∧ RowK 1 intC wr (.slice (some ⟨w1.heap.size, 0, none⟩) 4 4) litL ∧ ρ 18 = .int .i64 (i : Int) ∧ ρ 17 = .int .i64 4 ∧ ρ 16 = .slice (some ⟨w1.heap.size, 0, none⟩) 4 4 ∧ ρ 1 = ptr cb)
    (fun ρ wr => match ρ 18 with | .int _ s => (4 - s).toNat | _ => 0)
    (fun ρ wr => ∃ (D : Nat → Prop), Ext w wr ∧ CacheAt wr D cb 2 (shL 4) ∧ (∀ g, D g → w.heap.size ≤ g) ∧ ρ 1 = ptr cb) ?_ ?_ ?_
  · exact ⟨0, _, by omega, hx02, hc2, fun g hg => ⟨hg.1, by have := hg.2; omega⟩, by omega, hr2, rfl, rfl, rfl, rfl⟩
  · rintro J hJ ρ wr ⟨i, D, hi, hx, hc, hD, hlw, hr, r18, r17, r16, r1⟩
    rw [r18, r17, r16, r1, X_lss, condS_bool]
    by_cases hie : i = 4
    · rw [if_neg (by simp; omega)]
      subst hie
      exact hJ _ _ ⟨D, hx, hc, fun g hg => (hD g hg).1, r1⟩
    rw [if_pos (by simp; omega)]
    have hlt : i < 4 := by omega
    obtain ⟨g, hix, hcell, _⟩ := int_at hr (i := i) hlt
    refine X_of (hix _) ?_
    refine X_of (run_loadAt agg_3 hcell) ?_
    refine Load_spec (d := 0) hc (lit_i64 i hlt) (row_nilE wr) (by decide) (by decide) (fun h => absurd h (by decide)) ?_
    rw [shL_succ i hlt]
    intro w3 hk3 hc3
    rw [X_add]
    show _ ∧ _
    have hs3 := hk3.size
    refine ⟨⟨i + 1, _, by omega, Ext.seq hx hk3 (fun g hg => (hD g hg).1), hc3, ?_, by omega, hr.keep hk3 (fun _ b hb hbD => ?_), next64 (n := 1000) (by decide) (by omega), r17, r16, r1⟩, ?_⟩
    · rintro g (hg | hg)
      · exact hD g hg
      · have := hx.size
        exact ⟨by omega, by omega⟩
    · have hb' : w1.heap.size = b := by simpa [Value.ownBlock] using hb
      exact (hD b hbD).2 hb'.symm
    · show (_ - IntKind.i64.wrap _).toNat < _
      rw [w64 (by omega) (by omega)]
      first | omega | (show _ < (_ : Int).toNat; omega)
  · rintro ρ wr ⟨D, hx, hc, hD, r1⟩
    rw [r1]
    refine Shelves_spec hc ?_
    intro u3 w3 hx3 ho3
    have hc3 := hc.ext hx3
    refine Load_spec (s := 11) (d := 3) hc3 ⟨by decide, by decide⟩ (row_nilE w3) (by decide) (by decide) (fun h => absurd h (by decide)) ?_
    have e3 : loadT (shL 4) 2 11 [] 3 = [(7, []), (11, [])] := rfl
    rw [e3]
    intro w4 hk4 hc4
    have ho4 := ho3.keep hk4 (fun g hg hgD => by
      have h1 := (ho3.lt g hg).1
      have h2 := hc.lt g hgD
      omega)
    have hx4 : Ext w w4 := Ext.seq (hx.trans hx3) hk4 hD
    refine X_of (lit2i 7 9 _) ?_
    have hx5 := newB_ext w4 #[Value.int .i64 7, Value.int .i64 9] 3
    have hr5 : RowK 1 intC (newB w4 #[Value.int .i64 7, Value.int .i64 9] 3) (.slice (some ⟨w4.heap.size, 0, none⟩) 2 2) [7, 9] := row_ints [7, 9] 2 rfl (by decide)
    generalize newB w4 #[Value.int .i64 7, Value.int .i64 9] 3 = w5 at hx5 hr5 ⊢
    refine SameI_spec ((OwnK.rowK (by decide) intC_len ho4).ext hx5) hr5 (by decide) ?_
    intro w6 hx6
    have e4 : decide (shs (shL 4) = [7, 9]) = true := rfl
    (repeat (simp only [XP_extract0, XP_extract1, XP_extract2, XP_extract3, X_extract0, X_extract1, X_extract2, X_extract3, X_nilS, X_eql_nil_24, X_neq_nil_24, X_eql_nil_103, X_neq_nil_103, X_eql, X_neq, X_lss, X_leq, X_gtr, X_geq, X_not, X_min, X_max, X_len_79, X_len_35, XP_nilS, XP_eql, XP_neq, XP_lss, XP_leq, XP_gtr, XP_geq, XP_not, XP_min, XP_max, XP_len_79, XP_eql_nil_24, X_str_eql, X_str_neq, XP_str_eql, XP_str_neq, GS, gs_u, decide_true, decide_false, Option.isNone_some, Option.isSome_some, Option.isNone_none, Option.isSome_none, eq_self, Bool.not_true, Bool.not_false, Int.reduceEq, Int.reduceNe, Int.reduceLT, Int.reduceLE, Int.reduceGT, Int.reduceGE, e4]))
    have hx46 := hx5.trans hx6
    refine Shelves_spec (hc4.ext hx46) ?_
    intro u7 w7 hx7 ho7
    (repeat (simp only [XP_extract0, XP_extract1, XP_extract2, XP_extract3, X_extract0, X_extract1, X_extract2, X_extract3, X_nilS, X_eql_nil_24, X_neq_nil_24, X_eql_nil_103, X_neq_nil_103, X_eql, X_neq, X_lss, X_leq, X_gtr, X_geq, X_not, X_min, X_max, X_len_79, X_len_35, XP_nilS, XP_eql, XP_neq, XP_lss, XP_leq, XP_gtr, XP_geq, XP_not, XP_min, XP_max, XP_len_79, XP_eql_nil_24, X_str_eql, X_str_neq, XP_str_eql, XP_str_neq, GS, gs_u, decide_true, decide_false, Option.isNone_some, Option.isSome_some, Option.isNone_none, Option.isSome_none, eq_self, Bool.not_true, Bool.not_false, Int.reduceEq, Int.reduceNe, Int.reduceLT, Int.reduceLE, Int.reduceGT, Int.reduceGE, e4]))
    refine X_of (lit2i 7 11 _) ?_
    have hx8 := newB_ext w7 #[Value.int .i64 7, Value.int .i64 11] 3
    have hr8 : RowK 1 intC (newB w7 #[Value.int .i64 7, Value.int .i64 11] 3) (.slice (some ⟨w7.heap.size, 0, none⟩) 2 2) [7, 11] := row_ints [7, 11] 2 rfl (by decide)
    generalize newB w7 #[Value.int .i64 7, Value.int .i64 11] 3 = w8 at hx8 hr8 ⊢
    (repeat (simp only [XP_extract0, XP_extract1, XP_extract2, XP_extract3, X_extract0, X_extract1, X_extract2, X_extract3, X_nilS, X_eql_nil_24, X_neq_nil_24, X_eql_nil_103, X_neq_nil_103, X_eql, X_neq, X_lss, X_leq, X_gtr, X_geq, X_not, X_min, X_max, X_len_79, X_len_35, XP_nilS, XP_eql, XP_neq, XP_lss, XP_leq, XP_gtr, XP_geq, XP_not, XP_min, XP_max, XP_len_79, XP_eql_nil_24, X_str_eql, X_str_neq, XP_str_eql, XP_str_neq, GS, gs_u, decide_true, decide_false, Option.isNone_some, Option.isSome_some, Option.isNone_none, Option.isSome_none, eq_self, Bool.not_true, Bool.not_false, Int.reduceEq, Int.reduceNe, Int.reduceLT, Int.reduceLE, Int.reduceGT, Int.reduceGE, e4]))
    refine SameI_spec ((OwnK.rowK (by decide) intC_len ho7).ext hx8) hr8 (by decide) ?_
    intro w9 hx9
    have e5 : decide (shs [((7 : Int), ([] : List Ex)), (11, [])] = [7, 11]) = true := rfl
    (repeat (simp only [XP_extract0, XP_extract1, XP_extract2, XP_extract3, X_extract0, X_extract1, X_extract2, X_extract3, X_nilS, X_eql_nil_24, X_neq_nil_24, X_eql_nil_103, X_neq_nil_103, X_eql, X_neq, X_lss, X_leq, X_gtr, X_geq, X_not, X_min, X_max, X_len_79, X_len_35, XP_nilS, XP_eql, XP_neq, XP_lss, XP_leq, XP_gtr, XP_geq, XP_not, XP_min, XP_max, XP_len_79, XP_eql_nil_24, X_str_eql, X_str_neq, XP_str_eql, XP_str_neq, GS, gs_u, decide_true, decide_false, Option.isNone_some, Option.isSome_some, Option.isNone_none, Option.isSome_none, eq_self, Bool.not_true, Bool.not_false, Int.reduceEq, Int.reduceNe, Int.reduceLT, Int.reduceLE, Int.reduceGT, Int.reduceGE, e5]))
    exact hK _ ((((hx4.trans hx46).trans hx7).trans hx8).trans hx9)
end
end Go.Proofs.Ytlnkdphecinnnaa
end
section
/- Where a chunk lies, as the cache tells it. -/
set_option linter.unusedVariables false
set_option linter.unusedSimpArgs false
namespace Go.Proofs.Ytlnkdphecinnnaa
open Go Go.Sh Go.RowKit
attribute [local irreducible] X XU XP XR CALL loopS resC closS
def findE (es : List (Ky × Pl)) (k : Ky) : Option Pl := (es.find? fun e => decide (e.1 = k)).map Prod.snd
def findR (rows : List Ex) (k : Ky) : Option Pl := (rows.find? fun r => decide (r.k = k)).map fun r => (r.off, r.len)
def findT (T : Tbl) (k : Ky) : Option Pl := T.findSome? fun p => findR p.2 k
theorem addR_find (es : List (Ky × Pl)) (r : Ex) (k : Ky) : findE (addR es r) k = (findE es k).or (if r.k = k then some (r.off, r.len) else none) := by
  unfold addR findE
  split
  · rename_i h
    cases hf : es.find? fun e => decide (e.1 = k) with
    | some x => rfl
    | none =>
      have hne : r.k ≠ k := by
        intro he
        obtain ⟨x, hx, hxk⟩ := List.mem_map.1 h
        have := List.find?_eq_none.1 hf x hx
        simp at this
        exact this (hxk.trans he)
      simp [hne]
  · rw [List.find?_append]
    cases hf : es.find? fun e => decide (e.1 = k) with
    | some x => rfl
    | none =>
      by_cases he : r.k = k
      · simp [he]
      · simp [he]
theorem tab_find (rows : List Ex) (k : Ky) : findE (tabR rows) k = findR rows k := by
  suffices ∀ (rows : List Ex) (es : List (Ky × Pl)), findE (rows.foldl addR es) k = (findE es k).or (findR rows k) by
    have := this rows []
    simpa [tabR, findE] using this
  intro rows
  induction rows with
  | nil => intro es; simp [findR]
  | cons r rows ih =>
    intro es
    rw [List.foldl_cons, ih, addR_find, Option.or_assoc]
    congr 1
    unfold findR
    rw [List.find?_cons]
    by_cases he : r.k = k
    · simp [he]
    · simp [he]
theorem tab_nodup (rows : List Ex) : ((tabR rows).map Prod.fst).Nodup := by
  suffices ∀ (rows : List Ex) (es : List (Ky × Pl)), (es.map Prod.fst).Nodup → ((rows.foldl addR es).map Prod.fst).Nodup by
    exact this rows [] (by simp)
  intro rows
  induction rows with
  | nil => intro es h; exact h
  | cons r rows ih =>
    intro es h
    rw [List.foldl_cons]
    refine ih _ ?_
    unfold addR
    split
    · exact h
    · rename_i hn
      rw [List.map_append, List.nodup_append]
      refine ⟨h, by simp, fun x hx y hy => ?_⟩
      rw [List.map_singleton, List.mem_singleton] at hy
      rw [hy]
      exact fun he => hn (by have he' : x = r.k := he; rw [← he']; exact hx)
/-- The inner map is looked up: what is told does not hang on the world. -/
theorem run_inner {w : World} {b : Nat} {es : List (Ky × Pl)} (hm : MapAt w b (es.map entV)) (hn : (es.map Prod.fst).Nodup) (k : Ky) :
    (Instr.lookup 88 (.map (some b)) k.v true).run Try.prog w = .ok (.tuple #[plV ((findE es k).getD (0, 0)), .bool (findE es k).isSome]) w := by
  obtain ⟨kl, hkl⟩ := keyOf_ky k
  rcases run_lookupM (P := Try.prog) keyed44 Try.underlying88 zero_46 hm (keyed44_all es) hkl true with ⟨hno, hrun⟩ | ⟨p, hp, hpk, hrun⟩
  · have hf : findE es k = none := by
      unfold findE
      have : es.find? (fun e => decide (e.1 = k)) = none := by
        rw [List.find?_eq_none]
        intro x hx
        simp only [decide_eq_true_eq]
        intro he
        exact hno (entV x) (List.mem_map.2 ⟨x, hx, rfl⟩) (by show x.1.v = _; rw [he])
      rw [this]
      rfl
    rw [hf]
    exact hrun
  · obtain ⟨x, hx, rfl⟩ := List.mem_map.1 hp
    have hke : x.1 = k := Ky.v_inj hpk
    have hf : findE es k = some x.2 := by
      unfold findE
      cases hfd : es.find? (fun e => decide (e.1 = k)) with
      | none =>
        have := List.find?_eq_none.1 hfd x hx
        simp at this
        exact absurd hke this
      | some y =>
        have hy := List.mem_of_find?_eq_some hfd
        have hyk : y.1 = k := by simpa using List.find?_some hfd
        have : y = x := fst_inj hn hy hx (hyk.trans hke.symm)
        rw [this]
        rfl
    rw [hf]
    exact hrun
/-- The table of a shelf that is there. -/
theorem run_outer {w : World} {mb : Nat} {tb : List (Int × Nat)} (hm : MapAt w mb (tb.map tbV)) (hn : (tb.map Prod.fst).Nodup) (hi : ∀ s ∈ tb.map Prod.fst, I64 s) {p : Int × Nat} (hp : p ∈ tb) :
    (Instr.lookup 85 (.map (some mb)) (.int .i64 p.1) false).run Try.prog w = .ok (.map (some p.2)) w := by
  have hs := hi p.1 (List.mem_map.2 ⟨p, hp, rfl⟩)
  rcases run_lookupM (P := Try.prog) keyed3 Try.underlying85 zero_88 hm (tb_keys tb hi) (keyOf_i64 hs) false with ⟨hno, hrun⟩ | ⟨q, hq, hqk, hrun⟩
  · exact absurd rfl (hno (tbV p) (List.mem_map.2 ⟨p, hp, rfl⟩))
  · obtain ⟨x, hx, rfl⟩ := List.mem_map.1 hq
    have hxs : x.1 = p.1 := by injection hqk
    have : x = p := fst_inj hn hx hp hxs
    rw [this] at hrun
    exact hrun
theorem run_build46 (w : World) : (Instr.build 46 #[]).run Try.prog w = .ok (.agg #[.int .i64 0, .int .i64 0]) w := by kernel_rfl
section
variable {w : World} {K : Value → World → Prop}
theorem CGet_nil {k : Ky} (hK : ∀ w1, Ext w w1 → K (.tuple #[plV (0, 0), .bool false]) w1) : CALL Try.prog 25 #[.pointer none, k.v] w K := by
  apply call_cache_Cache_Get
  unfold B_cache_Cache_Get
  refine X_box ?_
  have hx1 := newB_ext w k.v.cells 44
  generalize newB w k.v.cells 44 = w1 at hx1 ⊢
  refine X_alloc zero_46 ?_
  have hx2 := newB_ext w1 (Value.agg #[(.int .i64 0), (.int .i64 0)]).cells 46
  have hg2 : (newB w1 (Value.agg #[(.int .i64 0), (.int .i64 0)]).cells 46).heap[w1.heap.size]? = some (.cells [Value.int .i64 0, Value.int .i64 0].toArray 46 (0, 0)) := newB_get _ _ _
  generalize newB w1 (Value.agg #[(.int .i64 0), (.int .i64 0)]).cells 46 = w2 at hx2 hg2 ⊢
  (repeat (simp only [XP_extract0, XP_extract1, XP_extract2, XP_extract3, X_extract0, X_extract1, X_extract2, X_extract3, X_nilS, X_eql_nil_24, X_neq_nil_24, X_eql_nil_103, X_neq_nil_103, X_eql, X_neq, X_lss, X_leq, X_gtr, X_geq, X_not, X_min, X_max, X_len_79, X_len_35, XP_nilS, XP_eql, XP_neq, XP_lss, XP_leq, XP_gtr, XP_geq, XP_not, XP_min, XP_max, XP_len_79, XP_eql_nil_24, X_str_eql, X_str_neq, XP_str_eql, XP_str_neq, GS, gs_u, decide_true, decide_false, Option.isNone_some, Option.isSome_some, Option.isNone_none, Option.isSome_none, eq_self, Bool.not_true, Bool.not_false, Int.reduceEq, Int.reduceNe, Int.reduceLT, Int.reduceLE, Int.reduceGT, Int.reduceGE]))
  refine X_of (run_build46 _) ?_
  refine XU_storeAgg (l := [.int .i64 0, .int .i64 0]) info_46 hg2 (by rw [sz_46]; rfl) (by rw [sz_46]; rfl) (by intro u hu; simp at hu; rw [hu]; rfl) ?_
  have hk3 := setAt_keep w2 w1.heap.size [Value.int .i64 0, Value.int .i64 0].toArray 46 (0, 0)
  have hg3 : (setAt w2 w1.heap.size [Value.int .i64 0, Value.int .i64 0].toArray 46 (0, 0)).heap[w1.heap.size]? = some (.cells [Value.int .i64 0, Value.int .i64 0].toArray 46 (0, 0)) := setAt_same (lt_of_blk hg2)
  generalize setAt w2 w1.heap.size [Value.int .i64 0, Value.int .i64 0].toArray 46 (0, 0) = w3 at hk3 hg3 ⊢
  refine resC_agg Try.underlying46 agg_46 info_46 hg3 (by rw [sz_46]; rfl) ?_
  exact hK _ (Ext.seq (hx1.trans hx2) hk3 (fun g hg => by have := hx1.size; omega))
set_option maxHeartbeats 1000000 in
theorem Get_specC {D : Nat → Prop} {cb room : Nat} {T : Tbl} {k : Ky} (h : CacheAt w D cb room T) (hK : ∀ w1, Ext w w1 → K (.tuple #[plV ((findT T k).getD (0, 0)), .bool (findT T k).isSome]) w1) : CALL Try.prog 25 #[ptr cb, k.v] w K := by
  have hC := h
  obtain ⟨⟨vo, mb, tb, h1, h2, h3, h4, h5, h6, h7, h8, h9, h10⟩, hlt, hnd, hi, hsm, hf⟩ := h
  have hitb : ∀ s ∈ tb.map Prod.fst, I64 s := fun s hs => hi s ((h5 s).1 hs)
  have hlT : (shs T).length = T.length := List.length_map ..
  apply call_cache_Cache_Get
  unfold B_cache_Cache_Get
  refine X_box ?_
  have hx1 := newB_ext w k.v.cells 44
  have hg1 : (newB w k.v.cells 44).heap[w.heap.size]? = some (.cells k.cs.toArray 44 (0, 0)) := newB_get w k.v.cells 44
  generalize newB w k.v.cells 44 = w1 at hx1 hg1 ⊢
  refine X_alloc zero_46 ?_
  have hx2 := newB_ext w1 (Value.agg #[(.int .i64 0), (.int .i64 0)]).cells 46
  have hg2 : (newB w1 (Value.agg #[(.int .i64 0), (.int .i64 0)]).cells 46).heap[w1.heap.size]? = some (.cells [Value.int .i64 0, Value.int .i64 0].toArray 46 (0, 0)) := newB_get _ _ _
  generalize newB w1 (Value.agg #[(.int .i64 0), (.int .i64 0)]).cells 46 = w2 at hx2 hg2 ⊢
  have hx02 := hx1.trans hx2
  have hg12 := hx2.get hg1
  have hlt1 := lt_of_blk hg1
  have hs1 := hx1.size
  obtain ⟨ao, co, eo⟩ := (OwnK.rowK (by decide) intC_len h2).slice
  (repeat (simp only [XP_extract0, XP_extract1, XP_extract2, XP_extract3, X_extract0, X_extract1, X_extract2, X_extract3, X_nilS, X_eql_nil_24, X_neq_nil_24, X_eql_nil_103, X_neq_nil_103, X_eql, X_neq, X_lss, X_leq, X_gtr, X_geq, X_not, X_min, X_max, X_len_79, X_len_35, XP_nilS, XP_eql, XP_neq, XP_lss, XP_leq, XP_gtr, XP_geq, XP_not, XP_min, XP_max, XP_len_79, XP_eql_nil_24, X_str_eql, X_str_neq, XP_str_eql, XP_str_neq, GS, gs_u, decide_true, decide_false, Option.isNone_some, Option.isSome_some, Option.isNone_none, Option.isSome_none, eq_self, Bool.not_true, Bool.not_false, Int.reduceEq, Int.reduceNe, Int.reduceLT, Int.reduceLE, Int.reduceGT, Int.reduceGE, X_field_87_1]))
  refine X_of (run_loadAt (v := vo) agg_35 ((cell_blk (Ext.get hx02 h1)).trans rfl)) ?_
  rw [eo, X_len_35, ← eo, hlT]
  refine loopGR 0 (fun ρ wr => ∃ i : Nat, i ≤ T.length ∧ Ext w2 wr ∧ findT (T.take i) k = none ∧ ρ 18 = .int .i64 (i : Int) ∧ ρ 17 = .int .i64 (T.length : Int) ∧ ρ 16 = vo ∧ ρ 0 = ptr cb ∧ ρ 3 = ptr w.heap.size ∧ ρ 4 = ptr w1.heap.size)
    (fun ρ wr => match ρ 18 with | .int _ s => (T.length - s).toNat | _ => 0)
    (fun ρ wr => Ext w2 wr ∧ findT T k = none ∧ ρ 4 = ptr w1.heap.size)
    (fun ρ wr => ∃ p, findT T k = some p ∧ Ext w wr ∧ wr.heap[w1.heap.size]? = some (.cells [Value.int .i64 p.1, Value.int .i64 p.2].toArray 46 (0, 0)) ∧ ρ 4 = ptr w1.heap.size ∧ ρ 5 = .bool true) ?_ ?_ ?_ ?_
  · exact ⟨0, by omega, Keep.refl _ _, by simp [findT], rfl, rfl, rfl, rfl, rfl, rfl⟩
  · rintro J hJ hJR ρ wr ⟨i, hi', hx, hno, r18, r17, r16, r0, r3, r4⟩
    rw [r18, r17, r16, X_lss, condS_bool]
    by_cases hie : i = T.length
    · rw [if_neg (by simp; omega)]
      rw [hie, List.take_of_length_le (Nat.le_refl _)] at hno
      exact hJ _ _ ⟨hx, hno, r4⟩
    rw [if_pos (by simp; omega)]
    have hltT : i < T.length := by omega
    have hlt2 : i < (shs T).length := by omega
    have hx0 := hx02.trans hx
    obtain ⟨g, hix, hcell, _⟩ := int_at ((OwnK.rowK (by decide) intC_len h2).ext hx0) hlt2
    refine X_of (hix _) ?_
    refine X_of (run_loadAt agg_3 hcell) ?_
    have hsi : (shs T)[i] = T[i].1 := by simp
    rw [hsi]
    obtain ⟨q, hq, hqs⟩ := List.mem_map.1 ((h5 T[i].1).2 (List.mem_map.2 ⟨_, List.getElem_mem hltT, rfl⟩))
    have hmT := h6 q hq T[i].2 (by rw [hqs]; exact List.getElem_mem hltT)
    have hsucc : findT (T.take (i + 1)) k = findR T[i].2 k := by
      rw [List.take_succ_eq_append_getElem hltT]
      unfold findT at hno ⊢
      rw [List.findSome?_append, hno]
      simp
    have hpre : ∀ p, findR T[i].2 k = some p → findT T k = some p := by
      intro p hp
      have e : T = T.take i ++ T[i] :: T.drop (i + 1) := by rw [← List.drop_eq_getElem_cons hltT, List.take_append_drop]
      conv => lhs; rw [e]
      unfold findT at hno ⊢
      rw [List.findSome?_append, hno, Option.none_or, List.findSome?_cons, hp]
    have hxd := hx.trans (Keep.drew (fun _ => False) wr)
    refine ⟨Ext, Ext.frame, ?_⟩
    generalize drewW wr = wd at hxd ⊢
    rw [r0, r3]
    rw [← hqs]
    generalize T[i].2 = rows at hmT hsucc hpre
    have hx0d := hx02.trans hxd
    (repeat (simp only [XP_extract0, XP_extract1, XP_extract2, XP_extract3, X_extract0, X_extract1, X_extract2, X_extract3, X_nilS, X_eql_nil_24, X_neq_nil_24, X_eql_nil_103, X_neq_nil_103, X_eql, X_neq, X_lss, X_leq, X_gtr, X_geq, X_not, X_min, X_max, X_len_79, X_len_35, XP_nilS, XP_eql, XP_neq, XP_lss, XP_leq, XP_gtr, XP_geq, XP_not, XP_min, XP_max, XP_len_79, XP_eql_nil_24, X_str_eql, X_str_neq, XP_str_eql, XP_str_neq, GS, gs_u, decide_true, decide_false, Option.isNone_some, Option.isSome_some, Option.isNone_none, Option.isSome_none, eq_self, Bool.not_true, Bool.not_false, Int.reduceEq, Int.reduceNe, Int.reduceLT, Int.reduceLE, Int.reduceGT, Int.reduceGE, XP_field_87_2]))
    refine XR_ok Ext.frame (fun w' kk => run_loadAt (v := .map (some mb)) agg_85 ((cell_blk (Ext.get (hx0d.trans kk) h1)).trans rfl)) ?_
    refine XR_ok Ext.frame (fun w' kk => run_outer (h3.ext (hx0d.trans kk)) h4 hitb hq) ?_
    refine XR_ok Ext.frame (fun w' kk => load_cells Try.underlying44 agg_44 info_44 (l := k.cs) (by rw [sz_44, Ky.cs_len]) (fun j u hj => by rw [add_plain, Nat.zero_add, cell_blk (Ext.get (hxd.trans kk) hg12)]; simpa using hj)) ?_
    refine XR_ok Ext.frame (fun w' kk => run_inner (hmT.ext (hx0d.trans kk)) (tab_nodup _) k) ?_
    rw [tab_find]
    (repeat (simp only [XP_extract0, XP_extract1, XP_extract2, XP_extract3, X_extract0, X_extract1, X_extract2, X_extract3, X_nilS, X_eql_nil_24, X_neq_nil_24, X_eql_nil_103, X_neq_nil_103, X_eql, X_neq, X_lss, X_leq, X_gtr, X_geq, X_not, X_min, X_max, X_len_79, X_len_35, XP_nilS, XP_eql, XP_neq, XP_lss, XP_leq, XP_gtr, XP_geq, XP_not, XP_min, XP_max, XP_len_79, XP_eql_nil_24, X_str_eql, X_str_neq, XP_str_eql, XP_str_neq, GS, gs_u, decide_true, decide_false, Option.isNone_some, Option.isSome_some, Option.isNone_none, Option.isSome_none, eq_self, Bool.not_true, Bool.not_false, Int.reduceEq, Int.reduceNe, Int.reduceLT, Int.reduceLE, Int.reduceGT, Int.reduceGE]))
    refine X_alloc zero_46 ?_
    have hxa := newB_ext wd (Value.agg #[(.int .i64 0), (.int .i64 0)]).cells 46
    have hga : (newB wd (Value.agg #[(.int .i64 0), (.int .i64 0)]).cells 46).heap[wd.heap.size]? = some (.cells [Value.int .i64 0, Value.int .i64 0].toArray 46 (0, 0)) := newB_get _ _ _
    generalize newB wd (Value.agg #[(.int .i64 0), (.int .i64 0)]).cells 46 = w5 at hxa hga ⊢
    refine ⟨hxa, ?_⟩
    generalize hfp : findR rows k = fp at hsucc hpre
    refine XU_storeAgg (l := [.int .i64 (fp.getD (0, 0)).1, .int .i64 (fp.getD (0, 0)).2]) info_46 hga (by rw [sz_46]; rfl) (by rw [sz_46]; rfl) (by intro u hu; simp only [List.mem_cons, List.not_mem_nil, or_false] at hu; rcases hu with rfl | rfl <;> rfl) ?_
    have hk6 := setAt_keep w5 wd.heap.size [Value.int .i64 (fp.getD (0, 0)).1, Value.int .i64 (fp.getD (0, 0)).2].toArray 46 (0, 0)
    have hg6 : (setAt w5 wd.heap.size [Value.int .i64 (fp.getD (0, 0)).1, Value.int .i64 (fp.getD (0, 0)).2].toArray 46 (0, 0)).heap[wd.heap.size]? = some (.cells [Value.int .i64 (fp.getD (0, 0)).1, Value.int .i64 (fp.getD (0, 0)).2].toArray 46 (0, 0)) := setAt_same (lt_of_blk hga)
    have hx6 : Ext wd (setAt w5 wd.heap.size [Value.int .i64 (fp.getD (0, 0)).1, Value.int .i64 (fp.getD (0, 0)).2].toArray 46 (0, 0)) := Ext.seq hxa hk6 (fun g hg => by omega)
    generalize setAt w5 wd.heap.size [Value.int .i64 (fp.getD (0, 0)).1, Value.int .i64 (fp.getD (0, 0)).2].toArray 46 (0, 0) = w6 at hg6 hx6 ⊢
    have hx26 := hxd.trans hx6
    cases fp with
    | none =>
      rw [Option.isSome_none, condS_bool, if_neg (by decide), X_add]
      show _ ∧ _
      refine ⟨⟨i + 1, by omega, hx26, hsucc, next64 (n := 4096) (by decide) (by omega), r17, r16, r0, r3, r4⟩, ?_⟩
      show (_ - IntKind.i64.wrap _).toNat < _
      rw [w64 (by omega) (by omega)]
      first | omega | (show _ < (_ : Int).toNat; omega)
    | some p =>
      rw [Option.isSome_some, condS_bool, if_pos rfl]
      refine X_of (load_cells Try.underlying46 agg_46 info_46 (l := [Value.int .i64 p.1, Value.int .i64 p.2]) (by rw [sz_46]; rfl) (fun j u hj => by rw [add_plain, Nat.zero_add, cell_blk hg6]; simpa using hj)) ?_
      rw [r4]
      have hg26 := Ext.get hx26 hg2
      refine XU_storeAgg (l := [Value.int .i64 p.1, Value.int .i64 p.2]) info_46 hg26 (by rw [sz_46]; rfl) (by rw [sz_46]; rfl) (by intro u hu; simp only [List.mem_cons, List.not_mem_nil, or_false] at hu; rcases hu with rfl | rfl <;> rfl) ?_
      refine hJR _ _ ⟨p, hpre p rfl, Ext.seq (hx02.trans hx26) (setAt_keep _ _ _ _ _) (fun g hg => by omega), setAt_same (lt_of_blk hg26), r4, rfl⟩
  · rintro ρ wr ⟨hx, hno, r4⟩
    show X _ (Instr.build 46 #[]) wr _
    refine X_of (run_build46 _) ?_
    rw [r4]
    have hg26 := Ext.get hx hg2
    refine XU_storeAgg (l := [.int .i64 0, .int .i64 0]) info_46 hg26 (by rw [sz_46]; rfl) (by rw [sz_46]; rfl) (by intro u hu; simp at hu; rw [hu]; rfl) ?_
    refine resC_agg Try.underlying46 agg_46 info_46 (setAt_same (lt_of_blk hg26)) (by rw [sz_46]; rfl) ?_
    have := hK _ (Ext.seq (hx02.trans hx) (setAt_keep wr w1.heap.size [Value.int .i64 0, Value.int .i64 0].toArray 46 (0, 0)) (fun g hg => by omega))
    rw [hno] at this
    exact this
  · rintro ρ wr ⟨p, hp, hx, hg, r4, r5⟩
    show resC _ 46 (ρ 4) wr fun v => K (.tuple #[v, ρ 5]) wr
    rw [r4, r5]
    refine resC_agg Try.underlying46 agg_46 info_46 hg (by rw [sz_46]; rfl) ?_
    have := hK _ hx
    rw [hp] at this
    exact this
end
end Go.Proofs.Ytlnkdphecinnnaa
end
section
/- Extents: the argument, a literal; extent.Slice. -/
set_option linter.unusedVariables false
set_option linter.unusedSimpArgs false
namespace Go.Proofs.Ytlnkdphecinnnaa
open Go Go.Sh Go.RowKit Go.ChangeShapes Go.WideShapes Go.ChangeAt
attribute [local irreducible] X XU XP XR CALL loopS resC closS Value.okWide
theorem cel72 : Try.prog.cellsOf 72 = 35 := by kernel_rfl
theorem cel3 : Try.prog.cellsOf 3 = 1 := by kernel_rfl
theorem u8_of_wf' {n : Int} (h : (Lit.int .u8 n).wf = true) : ∃ u : UInt8, n = ((u.toNat : Nat) : Int) := by
  simp [Lit.wf, IntKind.min, IntKind.max, IntKind.signed, IntKind.bits] at h
  refine ⟨UInt8.ofNat n.toNat, ?_⟩
  have : n.toNat < 256 := by omega
  simp [Nat.mod_eq_of_lt this]
  omega
theorem b8_of' : ∀ {es : List Value}, (∀ i, i < es.length → ∃ u : UInt8, es[i]? = some (.int .u8 ((u.toNat : Nat) : Int))) → ∃ xs, es = B8 xs := by
  intro es
  induction es with
  | nil => intro _; exact ⟨[], rfl⟩
  | cons e es ih =>
    intro h
    obtain ⟨u, hu⟩ := h 0 (by simp)
    obtain ⟨xs, rfl⟩ := ih (fun i hi => by have := h (i + 1) (by simp; omega); simpa using this)
    refine ⟨u :: xs, ?_⟩
    simp only [List.getElem?_cons_zero, Option.some.injEq] at hu
    rw [hu]
    rfl
theorem trc_key' {H : Type} {enc : TypeId × Value → H} {W : World} {es : List Value} (h : TrC enc Try.prog W 44 es) : ∃ k : Ky, es = k.cs := by
  obtain ⟨hl, hf⟩ := h.struct Try.underlying44
  rw [cel44] at hl
  have g0 := hf { name := "Sum", type := 41, offset := 0, embedded := false, tag := "", pkgPath := "", byteOffset := 0 } (by simp)
  have g1 := hf { name := "N", type := 42, offset := 32, embedded := false, tag := "", pkgPath := "", byteOffset := 32 } (by simp)
  simp only [cel41, cel42, List.drop_zero] at g0 g1
  obtain ⟨n, hn, hw⟩ := TrC.int Try.underlying42 g1
  obtain ⟨hl0, ha⟩ := g0.array Try.underlying41
  rw [cel41] at hl0
  have hall : ∀ i, i < (es.take 32).length → ∃ u : UInt8, (es.take 32)[i]? = some (.int .u8 ((u.toNat : Nat) : Int)) := by
    intro i hi
    have := ha i (by omega)
    rw [cel5, Nat.mul_one] at this
    obtain ⟨m, hm, hw⟩ := TrC.int Try.underlying5 this
    obtain ⟨u, rfl⟩ := u8_of_wf' hw
    refine ⟨u, ?_⟩
    have h0 := congrArg (fun l => l[0]?) hm
    simp only [List.getElem?_cons_zero] at h0
    rw [List.getElem?_take, if_pos (by omega), List.getElem?_drop, Nat.add_zero] at h0
    exact h0
  obtain ⟨xs, hxs⟩ := b8_of' hall
  have hxl : xs.length = 32 := by
    have := congrArg List.length hxs
    rw [hl0] at this
    simpa using this.symm
  simp [Lit.wf, IntKind.min, IntKind.max, IntKind.signed, IntKind.bits] at hw
  refine ⟨⟨xs, n.toNat, hxl, by omega⟩, ?_⟩
  unfold Ky.cs
  show es = B8 xs ++ [.int .u32 ((n.toNat : Nat) : Int)]
  rw [Int.toNat_of_nonneg hw.1, ← hxs, ← hn]
  have : (es.drop 32).take 1 = es.drop 32 := List.take_of_length_le (by rw [List.length_drop]; omega)
  rw [this, List.take_append_drop]
theorem trc_ext {H : Type} {enc : TypeId × Value → H} {W : World} {es : List Value} (h : TrC enc Try.prog W 72 es) : ∃ e : Ex, es = e.cs := by
  obtain ⟨hl, hf⟩ := h.struct Try.underlying72
  rw [cel72] at hl
  have g0 := hf { name := "Key", type := 44, offset := 0, embedded := false, tag := "", pkgPath := "", byteOffset := 0 } (by simp)
  have g1 := hf { name := "Off", type := 3, offset := 33, embedded := false, tag := "", pkgPath := "", byteOffset := 40 } (by simp)
  have g2 := hf { name := "Len", type := 3, offset := 34, embedded := false, tag := "", pkgPath := "", byteOffset := 48 } (by simp)
  simp only [cel44, cel3, List.drop_zero] at g0 g1 g2
  obtain ⟨k, hk⟩ := trc_key' g0
  obtain ⟨a, ha, hwa⟩ := TrC.int Try.underlying3 g1
  obtain ⟨b, hb, hwb⟩ := TrC.int Try.underlying3 g2
  simp [Lit.wf, IntKind.min, IntKind.max, IntKind.signed, IntKind.bits] at hwa hwb
  refine ⟨⟨k, a, b, by omega, by omega, by omega, by omega⟩, ?_⟩
  unfold Ex.cs
  show es = k.cs ++ [.int .i64 a, .int .i64 b]
  have e1 : (es.drop 33).take 1 ++ (es.drop 34).take 1 = es.drop 33 := by
    have : es.drop 34 = (es.drop 33).drop 1 := by rw [List.drop_drop]
    rw [this]
    have h2 : (((es.drop 33).drop 1).take 1) = (es.drop 33).drop 1 := List.take_of_length_le (by rw [List.length_drop, List.length_drop]; omega)
    rw [h2, List.take_append_drop]
  rw [ha, hb] at e1
  have e2 : [Value.int .i64 a, Value.int .i64 b] = es.drop 33 := e1
  rw [e2, ← hk, List.take_append_drop]
theorem arg_exts {H : Type} {enc : TypeId × Value → H} {W : World} {base : Nat} {v : Value} {d : DataW H} {p : List MemPlace}
    (ok : Value.okWide Try.prog W .any base 59 v) (h : DataW.Trod enc Try.prog W 0 (fun _ => true) true 59 v d p) : ∃ l : List Ex, RowK 35 Ex.cs W v l := by
  obtain ⟨a, n, c, rfl⟩ := okWide_slice Try.underlying59 ok
  obtain ⟨l, hl, _⟩ := TrC.rowK (f := Ex.cs) (Good := fun _ => True) Try.underlying59 cel72 (fun es hes => by obtain ⟨e, he⟩ := trc_ext hes; exact ⟨e, he, trivial⟩) (TrC.of h)
  exact ⟨l, hl⟩
theorem wrap_lo (n : Int) : -9223372036854775808 ≤ IntKind.i64.wrap n := by rw [IntKind.wrap_i64]; omega
theorem wrap_hi (n : Int) : IntKind.i64.wrap n ≤ 9223372036854775807 := by rw [IntKind.wrap_i64]; omega
def mkEx (k : Ky) (a b : Int) : Ex := ⟨k, IntKind.i64.wrap a, IntKind.i64.wrap b, wrap_lo a, wrap_hi a, wrap_lo b, wrap_hi b⟩
/-- A row of extents of the call's own. -/
theorem X_appEx {w : World} {base : Nat} {vo : Value} {ks : List Ex} {e : Ex} (ho : OwnK 35 72 Ex.cs w base vo ks) (hn : ks.length ≤ 1000000) (hbase : base ≤ w.heap.size) {K2 : Value → Value → World → Prop}
    (hK : ∀ u v' w1, OwnK 35 72 Ex.cs w1 base v' (ks ++ [e]) → Keep (fun q => some q = vo.ownBlock) w w1 → K2 u v' w1) :
    X Try.prog (Instr.buildSlice 59 1 #[(0, .agg e.cs.toArray)]) w fun u w1 => X Try.prog (Builtin.append_ #[59, 59] 59 #[vo, u]) w1 fun v' w2 => K2 u v' w2 := by
  refine X_buildSliceK Try.underlying59 el_72 (by decide) (by decide) e.cs_len ?_
  have hx3 := newB_ext w e.cs.toArray 72
  have hg3 := newB_get w e.cs.toArray 72
  show X _ _ (newB w e.cs.toArray 72) _
  generalize newB w e.cs.toArray 72 = w3 at hx3 hg3 ⊢
  have hrow : RowK 35 Ex.cs w3 (.slice (some ⟨w.heap.size, 0, none⟩) 1 1) [e] := by
    refine RowK.ofK (T := 72) (fr := (0, 0)) (by decide) Ex.cs_len ?_ rfl (by decide)
    rw [hg3]
    unfold cellsK
    simp
  refine X_appendK Try.underlying59 el_72 (by decide) Ex.cs_len (fun x hx => by rw [List.mem_singleton.1 hx]; exact Ex.one e) (ho.ext hx3) hrow (by simp; omega) (by decide) (by have := hx3.size; omega) ?_
  intro v' w4 ho4 hk4
  exact hK _ _ _ ho4 (Keep.trans (Keep.ext hx3) hk4)
end Go.Proofs.Ytlnkdphecinnnaa
end
section
/- Words of the caches' laws: rows of numbers cut, rows of numbers as arguments. -/
set_option linter.unusedVariables false
set_option linter.unusedSimpArgs false
namespace Go.Proofs.Ytlnkdphecinnnaa
open Go Go.Sh Go.RowKit Go.ChangeShapes Go.WideShapes Go.ChangeAt
attribute [local irreducible] X XU XP XR CALL loopS resC closS Value.okWide
theorem cel3' : Try.prog.cellsOf 3 = 1 := by kernel_rfl
theorem arg_ints {H : Type} {enc : TypeId × Value → H} {W : World} {base : Nat} {v : Value} {d : DataW H} {p : List MemPlace}
    (ok : Value.okWide Try.prog W .any base 35 v) (h : DataW.Trod enc Try.prog W 0 (fun _ => true) true 35 v d p) : ∃ l : List Int, RowK 1 intC W v l ∧ ∀ x ∈ l, I64 x := by
  obtain ⟨a, n, c, rfl⟩ := okWide_slice Try.underlying35 ok
  exact TrC.rowK (k := 1) (f := intC) (Good := I64) Try.underlying35 cel3' (fun es hes => by
    obtain ⟨n, rfl, hw⟩ := hes.int Try.underlying3
    simp [Lit.wf, IntKind.min, IntKind.max, IntKind.signed, IntKind.bits] at hw
    exact ⟨n, rfl, by unfold I64; omega⟩) (TrC.of h)
theorem ints_hi {w : World} {v : Value} {l : List Int} (h : RowK 1 intC w v l) (i : Nat) (hi : i ≤ l.length) : ∃ u, (∀ w', (Instr.sliceAt 35 v none (some (.int .i64 (i : Int))) none).run Try.prog w' = .ok u w') ∧ RowK 1 intC w u (l.take i) :=
  h.cut Try.underlying35 info_3 i rfl hi
theorem ints_lo {w : World} {v : Value} {l : List Int} (h : RowK 1 intC w v l) (i : Nat) (hi : i ≤ l.length) : ∃ u, (∀ w', (Instr.sliceAt 35 v (some (.int .i64 (i : Int))) none none).run Try.prog w' = .ok u w') ∧ RowK 1 intC w u (l.drop i) := by
  obtain ⟨a, c, rfl, h1, h2, h3⟩ := h
  refine ⟨_, fun w' => sl_lo Try.underlying35 info_3 i rfl hi w', ?_⟩
  have hl : (l.drop i).length = l.length - i := List.length_drop ..
  refine ⟨_, c - i, by rw [hl], by rw [hl]; omega, by omega, fun h0 => ?_⟩
  rw [hl] at h0
  obtain ⟨ad, rfl, hc⟩ := h3 (by omega)
  refine ⟨ad.add i, by rw [if_neg (by omega), sz_3, Nat.mul_one]; rfl, fun j x hx m u hu => ?_⟩
  rw [List.getElem?_drop] at hx
  have := hc (i + j) x hx m u hu
  have e : (ad.add i).add (j * 1) = ad.add ((i + j) * 1) := by rw [add_add, Nat.mul_one, Nat.mul_one]
  rw [e]
  exact this
theorem u8_rem' (n m : Nat) (hm : 0 < m) (h2 : m < 256) : (n : Int).tmod (m : Int) = ((n % m : Nat) : Int) := by
  rw [Int.tmod_eq_emod_of_nonneg (by omega)]
  rfl
end Go.Proofs.Ytlnkdphecinnnaa
end
section
/- What is done to a cache, as arguments. -/
set_option linter.unusedVariables false
set_option linter.unusedSimpArgs false
namespace Go.Proofs.Ytlnkdphecinnnaa
open Go Go.Sh Go.RowKit Go.ChangeShapes Go.WideShapes Go.ChangeAt
attribute [local irreducible] X XU XP XR CALL loopS resC closS Value.okWide
structure Ac where
  gone : Bool
  s : Int
  v : Value
  rows : List Ex
  d : Nat
def Ac.cs (a : Ac) : List Value := [.bool a.gone, .int .i64 a.s, a.v, .int .u64 (a.d : Int)]
theorem Ac.len : ∀ a : Ac, a.cs.length = 4 := fun _ => rfl
structure Ac.In (a : Ac) (W : World) : Prop where
  row : RowK 35 Ex.cs W a.v a.rows
  i64 : I64 a.s
  u64 : a.d < 18446744073709551616
theorem trc_row {H : Type} {enc : TypeId × Value → H} {W : World} {es : List Value} (h : TrC enc Try.prog W 48 es) : ∃ e : Ex, es = e.cs := by
  have c46 : Try.prog.cellsOf 46 = 2 := by kernel_rfl
  have c48 : Try.prog.cellsOf 48 = 35 := by kernel_rfl
  obtain ⟨hl, hf⟩ := h.struct Try.underlying48
  rw [c48] at hl
  have g0 := hf _ (List.mem_cons_self)
  have g1 := hf _ (List.mem_cons_of_mem _ List.mem_cons_self)
  simp only [cel44, c46, List.drop_zero] at g0 g1
  obtain ⟨k, hk⟩ := trc_key' g0
  obtain ⟨hl2, hf2⟩ := g1.struct Try.underlying46
  rw [c46] at hl2
  have g2 := hf2 _ (List.mem_cons_self)
  have g3 := hf2 _ (List.mem_cons_of_mem _ List.mem_cons_self)
  simp only [cel3, List.drop_zero] at g2 g3
  obtain ⟨a, ha, hwa⟩ := TrC.int Try.underlying3 g2
  obtain ⟨b, hb, hwb⟩ := TrC.int Try.underlying3 g3
  simp [Lit.wf, IntKind.min, IntKind.max, IntKind.signed, IntKind.bits] at hwa hwb
  refine ⟨⟨k, a, b, by omega, by omega, by omega, by omega⟩, ?_⟩
  unfold Ex.cs
  show es = k.cs ++ [.int .i64 a, .int .i64 b]
  have e0 : (es.drop 33).take 2 = es.drop 33 := List.take_of_length_le (by rw [List.length_drop]; omega)
  rw [e0] at ha hb
  have e1 : (es.drop 33).take 1 ++ ((es.drop 33).drop 1).take 1 = es.drop 33 := by
    have h2 : (((es.drop 33).drop 1).take 1) = (es.drop 33).drop 1 := List.take_of_length_le (by rw [List.length_drop, List.length_drop]; omega)
    rw [h2, List.take_append_drop]
  rw [ha, hb] at e1
  have e2 : [Value.int .i64 a, Value.int .i64 b] = es.drop 33 := e1
  rw [e2, ← hk, List.take_append_drop]
set_option maxRecDepth 20000 in
theorem trc_act {H : Type} {enc : TypeId × Value → H} {W : World} {es : List Value} (h : TrC enc Try.prog W 32 es) : ∃ a : Ac, es = a.cs ∧ a.In W := by
  have c32 : Try.prog.cellsOf 32 = 4 := by kernel_rfl
  have c4 : Try.prog.cellsOf 4 = 1 := by kernel_rfl
  have c29 : Try.prog.cellsOf 29 = 1 := by kernel_rfl
  have c30 : Try.prog.cellsOf 30 = 1 := by kernel_rfl
  have c48 : Try.prog.cellsOf 48 = 35 := by kernel_rfl
  obtain ⟨hl, hf⟩ := h.struct Try.underlying32
  rw [c32] at hl
  match es, hl with
  | [x0, x1, x2, x3], _ =>
    have g0 := hf _ (List.mem_cons_self)
    have g1 := hf _ (List.mem_cons_of_mem _ List.mem_cons_self)
    have g2 := hf _ (List.mem_cons_of_mem _ (List.mem_cons_of_mem _ List.mem_cons_self))
    have g3 := hf _ (List.mem_cons_of_mem _ (List.mem_cons_of_mem _ (List.mem_cons_of_mem _ List.mem_cons_self)))
    simp only [c4, cel3, c29, c30] at g0 g1 g2 g3
    have g0' : TrC enc Try.prog W 4 [x0] := g0
    have g1' : TrC enc Try.prog W 3 [x1] := g1
    have g2' : TrC enc Try.prog W 29 [x2] := g2
    have g3' : TrC enc Try.prog W 30 [x3] := g3
    obtain ⟨b, e0⟩ := TrC.bool Try.underlying4 g0'
    obtain ⟨n1, e1, w1⟩ := TrC.int Try.underlying3 g1'
    obtain ⟨n3, e3, w3⟩ := TrC.int Try.underlying30 g3'
    obtain ⟨rows, hrow, _⟩ := TrC.rowK (f := Ex.cs) (Good := fun _ => True) Try.underlying29 c48 (fun es hes => by obtain ⟨e, he⟩ := trc_row hes; exact ⟨e, he, trivial⟩) g2'
    simp [Lit.wf, IntKind.min, IntKind.max, IntKind.signed, IntKind.bits] at w1 w3
    refine ⟨⟨b, n1, x2, rows, n3.toNat⟩, ?_, hrow, (⟨by omega, by omega⟩ : I64 n1), by show n3.toNat < _; omega⟩
    simp at e0 e1 e3
    show _ = [Value.bool b, .int .i64 n1, x2, .int .u64 ((n3.toNat : Nat) : Int)]
    rw [Int.toNat_of_nonneg w3.1, e0, e1, e3]
theorem arg_acts {H : Type} {enc : TypeId × Value → H} {W : World} {base : Nat} {v : Value} {d : DataW H} {p : List MemPlace}
    (ok : Value.okWide Try.prog W .any base 22 v) (h : DataW.Trod enc Try.prog W 0 (fun _ => true) true 22 v d p) : ∃ l : List Ac, RowK 4 Ac.cs W v l ∧ ∀ a ∈ l, a.In W := by
  obtain ⟨a, n, c, rfl⟩ := okWide_slice Try.underlying22 ok
  exact TrC.rowK Try.underlying22 (by kernel_rfl) (fun es hes => trc_act hes) (TrC.of h)
theorem arg_row {H : Type} {enc : TypeId × Value → H} {W : World} {base : Nat} {v : Value} {d : DataW H} {p : List MemPlace}
    (ok : Value.okWide Try.prog W .any base 48 v) (h : DataW.Trod enc Try.prog W 0 (fun _ => true) true 48 v d p) : ∃ e : Ex, v = .agg e.cs.toArray := by
  obtain ⟨cs, rfl, hcs⟩ := okWide_struct Try.underlying48 ok
  obtain ⟨e, he⟩ := trc_row (TrC.of h)
  exact ⟨e, by rw [← he]; rfl⟩
theorem arg_key {H : Type} {enc : TypeId × Value → H} {W : World} {base : Nat} {v : Value} {d : DataW H} {p : List MemPlace}
    (ok : Value.okWide Try.prog W .any base 44 v) (h : DataW.Trod enc Try.prog W 0 (fun _ => true) true 44 v d p) : ∃ k : Ky, v = k.v := by
  obtain ⟨cs, rfl, hcs⟩ := okWide_struct Try.underlying44 ok
  obtain ⟨k, hk⟩ := trc_key' (TrC.of h)
  exact ⟨k, by unfold Ky.v; rw [← hk]; rfl⟩
theorem act_at {w : World} {v : Value} {l : List Ac} {i : Nat} (hl : RowK 4 Ac.cs w v l) (hi : i < l.length) :
    ∃ g o, (∀ w', (Instr.indexAt 22 v (.int .i64 (i : Int))).run Try.prog w' = .ok (.pointer (some ⟨g, o, none⟩)) w') ∧ (∀ j u, l[i].cs[j]? = some u → w.cell? ⟨g, o + j, none⟩ = some u) := by
  obtain ⟨ad, hix, hcs⟩ := hl.at Try.underlying22 info_32 sz_32 (kd := .i64) (ii := (i : Int)) i rfl hi
  obtain ⟨g, o, sp⟩ := ad
  have h0 := hcs 0 _ rfl
  have : sp = none := by simpa [Addr.add] using World.cell?_spot h0
  subst this
  exact ⟨g, o, hix, fun j u hu => by have := hcs j u hu; rw [add_plain] at this; exact this⟩
theorem Ac.one {a : Ac} {W : World} (h : a.In W) : ∀ x ∈ a.cs, x.oneCell' = true := by
  obtain ⟨b, c, e⟩ := h.row.slice
  intro x hx
  unfold Ac.cs at hx
  simp only [List.mem_cons, List.not_mem_nil, or_false] at hx
  rcases hx with rfl | rfl | rfl | rfl
  · rfl
  · rfl
  · rw [e]; rfl
  · rfl
theorem X_takeAct {w W : World} {v : Value} {l : List Ac} {i : Nat} {K : Value → Value → Value → World → Prop} (hl : RowK 4 Ac.cs w v l) (hi : i < l.length) (hin : l[i].In W)
    (hK : ∀ v1 v2 q w1, Ext w w1 → w.heap.size ≤ q → w1.heap[q]? = some (.cells l[i].cs.toArray 32 (0, 0)) → K v1 v2 (ptr q) w1) :
    X Try.prog (Instr.indexAt 22 v (.int .i64 (i : Int))) w fun v1 w1 => X Try.prog (Instr.loadAt 32 v1) w1 fun v2 w2 => X Try.prog (Instr.alloc 32 true (.tuple #[])) w2 fun v3 w3 => XU Try.prog (Instr.storeAt 32 v3 v2) w3 fun w4 => K v1 v2 v3 w4 := by
  obtain ⟨g, o, hix, hc⟩ := act_at hl hi
  refine X_of (hix _) ?_
  refine X_of (load_cells Try.underlying32 agg_32 info_32 (l := l[i].cs) (by rw [sz_32]; rfl) (fun j u hj => by rw [add_plain]; exact hc j u hj)) ?_
  refine X_alloc zero_32 ?_
  have hq := newB_get w [Value.bool false, Value.int .i64 0, Value.slice none 0 0, Value.int .u64 0].toArray 32
  have hxq := newB_ext w [Value.bool false, Value.int .i64 0, Value.slice none 0 0, Value.int .u64 0].toArray 32
  show XU _ _ (newB w [Value.bool false, Value.int .i64 0, Value.slice none 0 0, Value.int .u64 0].toArray 32) _
  generalize newB w [Value.bool false, Value.int .i64 0, Value.slice none 0 0, Value.int .u64 0].toArray 32 = w2 at hq hxq ⊢
  refine XU_storeAgg info_32 hq (by rw [sz_32]; rfl) (by rw [sz_32]; rfl) (Ac.one hin) ?_
  exact hK _ _ _ _ (Ext.seq hxq (setAt_keep _ _ _ _ _) (fun j hj => by omega)) (Nat.le_refl _) (setAt_same (lt_of_blk hq))
section
variable {w : World} {K : Value → World → Prop}
set_option maxRecDepth 4000 in
theorem FewA_spec {W : World} {v : Value} {l : List Ac} (hl : RowK 4 Ac.cs W v l) (hxW : Ext W w) (hin : ∀ a ∈ l, a.In W) (hK : ∀ n u, n ≤ 100 → n ≤ l.length → (∀ a ∈ l.take n, a.rows.length ≤ 50) → RowK 4 Ac.cs W u (l.take n) → K u w) : CALL Try.prog 17 #[v] w K := by
  obtain ⟨a, c, ev⟩ := hl.slice
  have hlen : l.length ≤ 9223372036854775807 := by
    obtain ⟨_, c, _, g1, g2, _⟩ := hl
    omega
  apply call_law14_few
  unfold B_law14_few
  rw [ev, X_len_22, ← ev]
  refine loopGR 0 (fun ρ wr => ∃ i : Nat, i ≤ l.length ∧ i ≤ 100 ∧ wr = w ∧ (∀ a ∈ l.take i, a.rows.length ≤ 50) ∧ ρ 6 = .int .i64 (i : Int) ∧ ρ 5 = .int .i64 (l.length : Int) ∧ ρ 0 = v)
    (fun ρ wr => match ρ 6 with | .int _ s => (l.length - s).toNat | _ => 0)
    (fun ρ wr => wr = w ∧ l.length ≤ 100 ∧ (∀ a ∈ l, a.rows.length ≤ 50) ∧ ρ 0 = v)
    (fun ρ wr => wr = w ∧ ∃ n u, n ≤ 100 ∧ n ≤ l.length ∧ (∀ a ∈ l.take n, a.rows.length ≤ 50) ∧ RowK 4 Ac.cs W u (l.take n) ∧ ρ 2 = u) ?_ ?_ ?_ ?_
  · exact ⟨0, by omega, by omega, rfl, by simp, rfl, rfl, rfl⟩
  · rintro J hJ hJR ρ wr ⟨i, hi, hi1, rfl, hall, r6, r5, r0⟩
    rw [r6, r5, X_lss, condS_bool]
    by_cases hie : i = l.length
    · rw [if_neg (by simp; omega)]
      rw [hie, List.take_of_length_le (Nat.le_refl _)] at hall
      exact hJ _ _ ⟨rfl, by omega, hall, r0⟩
    rw [if_pos (by simp; omega)]
    have hlt : i < l.length := by omega
    obtain ⟨ur, hur, hru⟩ := hl.cut Try.underlying22 info_32 (kh := .i64) (hj := (i : Int)) i rfl hi
    rw [r0, X_geq]
    rcases Nat.lt_or_ge i 100 with h100 | h100
    rotate_left
    · have c : decide ((i : Int) ≥ 100) = true := decide_eq_true (by omega)
      (repeat (simp only [XP_extract0, XP_extract1, XP_extract2, XP_extract3, X_extract0, X_extract1, X_extract2, X_extract3, X_nilS, X_eql_nil_24, X_neq_nil_24, X_eql_nil_103, X_neq_nil_103, X_eql, X_neq, X_lss, X_leq, X_gtr, X_geq, X_not, X_min, X_max, X_len_79, X_len_35, XP_nilS, XP_eql, XP_neq, XP_lss, XP_leq, XP_gtr, XP_geq, XP_not, XP_min, XP_max, XP_len_79, XP_eql_nil_24, X_str_eql, X_str_neq, XP_str_eql, XP_str_neq, GS, gs_u, decide_true, decide_false, Option.isNone_some, Option.isSome_some, Option.isNone_none, Option.isSome_none, eq_self, Bool.not_true, Bool.not_false, Int.reduceEq, Int.reduceNe, Int.reduceLT, Int.reduceLE, Int.reduceGT, Int.reduceGE, c]))
      refine X_of (hur _) ?_
      exact hJR _ _ ⟨rfl, i, ur, hi1, hi, hall, hru, rfl⟩
    have c : decide ((i : Int) ≥ 100) = false := decide_eq_false (by omega)
    (repeat (simp only [XP_extract0, XP_extract1, XP_extract2, XP_extract3, X_extract0, X_extract1, X_extract2, X_extract3, X_nilS, X_eql_nil_24, X_neq_nil_24, X_eql_nil_103, X_neq_nil_103, X_eql, X_neq, X_lss, X_leq, X_gtr, X_geq, X_not, X_min, X_max, X_len_79, X_len_35, XP_nilS, XP_eql, XP_neq, XP_lss, XP_leq, XP_gtr, XP_geq, XP_not, XP_min, XP_max, XP_len_79, XP_eql_nil_24, X_str_eql, X_str_neq, XP_str_eql, XP_str_neq, GS, gs_u, decide_true, decide_false, Option.isNone_some, Option.isSome_some, Option.isNone_none, Option.isSome_none, eq_self, Bool.not_true, Bool.not_false, Int.reduceEq, Int.reduceNe, Int.reduceLT, Int.reduceLE, Int.reduceGT, Int.reduceGE, c]))
    obtain ⟨g, o, hix, hc⟩ := act_at (hl.ext hxW) hlt
    refine X_of (hix _) ?_
    (repeat (simp only [XP_extract0, XP_extract1, XP_extract2, XP_extract3, X_extract0, X_extract1, X_extract2, X_extract3, X_nilS, X_eql_nil_24, X_neq_nil_24, X_eql_nil_103, X_neq_nil_103, X_eql, X_neq, X_lss, X_leq, X_gtr, X_geq, X_not, X_min, X_max, X_len_79, X_len_35, XP_nilS, XP_eql, XP_neq, XP_lss, XP_leq, XP_gtr, XP_geq, XP_not, XP_min, XP_max, XP_len_79, XP_eql_nil_24, X_str_eql, X_str_neq, XP_str_eql, XP_str_neq, GS, gs_u, decide_true, decide_false, Option.isNone_some, Option.isSome_some, Option.isNone_none, Option.isSome_none, eq_self, Bool.not_true, Bool.not_false, Int.reduceEq, Int.reduceNe, Int.reduceLT, Int.reduceLE, Int.reduceGT, Int.reduceGE, X_field_32_2]))
    refine X_of (run_loadAt (v := l[i].v) agg_29 (hc 2 _ rfl)) ?_
    obtain ⟨ar, cr, er⟩ := (hin _ (List.getElem_mem hlt)).row.slice
    (repeat (simp only [XP_extract0, XP_extract1, XP_extract2, XP_extract3, X_extract0, X_extract1, X_extract2, X_extract3, X_nilS, X_eql_nil_24, X_neq_nil_24, X_eql_nil_103, X_neq_nil_103, X_eql, X_neq, X_lss, X_leq, X_gtr, X_geq, X_not, X_min, X_max, X_len_79, X_len_35, XP_nilS, XP_eql, XP_neq, XP_lss, XP_leq, XP_gtr, XP_geq, XP_not, XP_min, XP_max, XP_len_79, XP_eql_nil_24, X_str_eql, X_str_neq, XP_str_eql, XP_str_neq, GS, gs_u, decide_true, decide_false, Option.isNone_some, Option.isSome_some, Option.isNone_none, Option.isSome_none, eq_self, Bool.not_true, Bool.not_false, Int.reduceEq, Int.reduceNe, Int.reduceLT, Int.reduceLE, Int.reduceGT, Int.reduceGE]))
    rw [er, X_len_29]
    (repeat (simp only [XP_extract0, XP_extract1, XP_extract2, XP_extract3, X_extract0, X_extract1, X_extract2, X_extract3, X_nilS, X_eql_nil_24, X_neq_nil_24, X_eql_nil_103, X_neq_nil_103, X_eql, X_neq, X_lss, X_leq, X_gtr, X_geq, X_not, X_min, X_max, X_len_79, X_len_35, XP_nilS, XP_eql, XP_neq, XP_lss, XP_leq, XP_gtr, XP_geq, XP_not, XP_min, XP_max, XP_len_79, XP_eql_nil_24, X_str_eql, X_str_neq, XP_str_eql, XP_str_neq, GS, gs_u, decide_true, decide_false, Option.isNone_some, Option.isSome_some, Option.isNone_none, Option.isSome_none, eq_self, Bool.not_true, Bool.not_false, Int.reduceEq, Int.reduceNe, Int.reduceLT, Int.reduceLE, Int.reduceGT, Int.reduceGE]))
    rcases Nat.lt_or_ge 50 l[i].rows.length with h50 | h50
    · have c2 : decide ((l[i].rows.length : Int) > 50) = true := decide_eq_true (by omega)
      (repeat (simp only [XP_extract0, XP_extract1, XP_extract2, XP_extract3, X_extract0, X_extract1, X_extract2, X_extract3, X_nilS, X_eql_nil_24, X_neq_nil_24, X_eql_nil_103, X_neq_nil_103, X_eql, X_neq, X_lss, X_leq, X_gtr, X_geq, X_not, X_min, X_max, X_len_79, X_len_35, XP_nilS, XP_eql, XP_neq, XP_lss, XP_leq, XP_gtr, XP_geq, XP_not, XP_min, XP_max, XP_len_79, XP_eql_nil_24, X_str_eql, X_str_neq, XP_str_eql, XP_str_neq, GS, gs_u, decide_true, decide_false, Option.isNone_some, Option.isSome_some, Option.isNone_none, Option.isSome_none, eq_self, Bool.not_true, Bool.not_false, Int.reduceEq, Int.reduceNe, Int.reduceLT, Int.reduceLE, Int.reduceGT, Int.reduceGE, c2]))
      refine X_of (hur _) ?_
      exact hJR _ _ ⟨rfl, i, ur, hi1, hi, hall, hru, rfl⟩
    have c2 : decide ((l[i].rows.length : Int) > 50) = false := decide_eq_false (by omega)
    (repeat (simp only [XP_extract0, XP_extract1, XP_extract2, XP_extract3, X_extract0, X_extract1, X_extract2, X_extract3, X_nilS, X_eql_nil_24, X_neq_nil_24, X_eql_nil_103, X_neq_nil_103, X_eql, X_neq, X_lss, X_leq, X_gtr, X_geq, X_not, X_min, X_max, X_len_79, X_len_35, XP_nilS, XP_eql, XP_neq, XP_lss, XP_leq, XP_gtr, XP_geq, XP_not, XP_min, XP_max, XP_len_79, XP_eql_nil_24, X_str_eql, X_str_neq, XP_str_eql, XP_str_neq, GS, gs_u, decide_true, decide_false, Option.isNone_some, Option.isSome_some, Option.isNone_none, Option.isSome_none, eq_self, Bool.not_true, Bool.not_false, Int.reduceEq, Int.reduceNe, Int.reduceLT, Int.reduceLE, Int.reduceGT, Int.reduceGE, c2]))
    rw [X_add]
    show _ ∧ _
    refine ⟨⟨i + 1, by omega, by omega, rfl, ?_, next64 (n := 1000) (by decide) (by omega), r5, r0⟩, ?_⟩
    · rw [List.take_succ_eq_append_getElem hlt]
      intro a ha
      rcases List.mem_append.1 ha with ha | ha
      · exact hall a ha
      · rw [List.mem_singleton.1 ha]; exact h50
    · show (_ - IntKind.i64.wrap _).toNat < _
      rw [w64 (by omega) (by omega)]
      first | omega | (show _ < (_ : Int).toNat; omega)
  · rintro ρ wr ⟨rfl, h1, hall, r0⟩
    show K (ρ 0) _
    rw [r0]
    refine hK l.length v h1 (Nat.le_refl _) (by rw [List.take_length]; exact hall) (by rw [List.take_length]; exact hl)
  · rintro ρ wr ⟨rfl, n, u, h1, h2, h3, h4, r2⟩
    show K (ρ 2) _
    rw [r2]
    exact hK n u h1 h2 h3 h4
end
end Go.Proofs.Ytlnkdphecinnnaa
end
section
/- Places compared; an entry of a map, laid anew or over an old one; rows told. -/
set_option linter.unusedVariables false
set_option linter.unusedSimpArgs false
namespace Go.Sh
open Go Go.RowKit
section
variable {P : Program} {t k e : TypeId} {w : World} {mb : Nat} {l : List (Value × Value)}
theorem XU_updateAny (K : Maps.Keyed P k) (ht : P.underlying t = some (.map k e)) (hm : MapAt w mb l) (hl : ∀ p ∈ l, ∃ x, keyOf P k p.1 = some x) {key v : Value} {kl : Lit} (hkey : keyOf P k key = some kl) {Q : World → Prop}
    (h : ∀ w1 l', MapAt w1 mb l' → (((∀ p ∈ l, p.1 ≠ key) ∧ l' = l ++ [(key, v)]) ∨ ∃ j p, l[j]? = some p ∧ p.1 = key ∧ l' = l.set j (key, v)) → Keep (· = mb) w w1 → Q w1) : XU P (Instr.mapUpdate t (.map (some mb)) key v) w Q := by
  obtain ⟨es, clock, hb, rfl⟩ := hm
  have hes : ∀ x ∈ es.toList, ∃ y, keyOf P k x.key = some y := fun x hx => hl (x.key, x.val) (List.mem_map.2 ⟨x, hx, rfl⟩)
  have hlt := lt_of_blk hb
  rcases K.find w hkey es.toList hes with ⟨h1, h2⟩ | ⟨j, e0, h1, h2, h3⟩
  · exact XU_updateNew K ht ⟨es, clock, hb, rfl⟩ hl hkey (fun p hp => by obtain ⟨x, hx, rfl⟩ := List.mem_map.1 hp; exact h2 x hx) (fun w1 hm1 hk1 => h w1 _ hm1 (.inl ⟨fun p hp => by obtain ⟨x, hx, rfl⟩ := List.mem_map.1 hp; exact h2 x hx, rfl⟩) hk1)
  · have hj : es[j]? = some e0 := by rw [← Array.getElem?_toList]; exact h2
    have hst : (Instr.keyThatStays (((es[j]?).map (·.key)).getD key) key).run P w = .ok key w := by
      rw [hj]
      show (Instr.keyThatStays e0.key key).run P w = _
      rw [h3]
      exact K.stays w hkey
    have hr : (Instr.mapUpdate t (.map (some mb)) key v).run P w = .ok () { w with heap := w.heap.setIfInBounds mb (.map (es.modify j fun e => { e with key := key, val := v }) clock) } := by
      simp [Instr.mapUpdate, run_underlying ht, MapKept.run_getObj_map hb, K.check w _ hkey, h1, hst, Result.andThen, MapKept.run_setObj_map _ hb]
    unfold XU
    rw [hr]
    refine h _ ((es.modify j fun e => { e with key := key, val := v }).toList.map fun e => (e.key, e.val)) ⟨_, clock, by show (w.heap.setIfInBounds mb _)[mb]? = _; simp [hlt], rfl⟩ (.inr ⟨j, (e0.key, e0.val), by rw [List.getElem?_map, h2]; rfl, h3, ?_⟩) ⟨rfl, rfl, rfl, by show _ ≤ (w.heap.setIfInBounds mb _).size; simp, fun i _ hi => by show (w.heap.setIfInBounds mb _)[i]? = _; rw [Array.getElem?_setIfInBounds_ne (Ne.symm hi)]⟩
    apply List.ext_getElem?
    intro i
    rw [List.getElem?_map, Array.getElem?_toList, Array.getElem?_modify, List.getElem?_set, List.getElem?_map, Array.getElem?_toList]
    by_cases hji : j = i
    · subst hji
      have hlen : j < es.size := (Array.getElem?_eq_some_iff.1 hj).1
      simp [hj, hlen]
    · simp [hji]
end
end Go.Sh
namespace Go.Proofs.Ytlnkdphecinnnaa
open Go Go.Sh Go.RowKit
attribute [local irreducible] X XU XP XR CALL loopS resC closS
theorem fields46 : (Try.prog.fieldsOf 46).toList = [{ name := "Shelf", type := 3, offset := 0, embedded := false, tag := "", pkgPath := "", byteOffset := 0 }, { name := "Slot", type := 3, offset := 1, embedded := false, tag := "", pkgPath := "", byteOffset := 8 }] := by kernel_rfl
theorem struct46 : Try.prog.underlying 46 = some (.struct (Try.prog.fieldsOf 46)) := by kernel_rfl
theorem held46 : Try.prog.stoodInHeld 46 = false := by kernel_rfl
theorem guard46 : Try.prog.eqGuardType Try.prog.depth 46 = false := by kernel_rfl
theorem int_equal99 (a b : Int) (w : World) : (Op.equalIn 9999 3 (.int .i64 a) (.int .i64 b)).run Try.prog w = .ok (decide (a = b)) w := int_equal9 a b w
theorem pl_dec (a b : Pl) : decide (a = b) = (decide (a.1 = b.1) && decide (a.2 = b.2)) := by
  rw [← Bool.decide_and]
  exact decide_eq_decide.2 ⟨fun h => by rw [h]; exact ⟨rfl, rfl⟩, fun h => Prod.ext h.1 h.2⟩
theorem pl_equal (a b : Pl) (w : World) : (Op.equalIn 10000 46 (plV a) (plV b)).run Try.prog w = .ok (decide (a = b)) w := by
  have e1 : (Op.equalIn (9999 + 1) 46 (plV a) (plV b)).run Try.prog w = (Op.eqFields 9999 #[.int .i64 a.1, .int .i64 a.2] #[.int .i64 b.1, .int .i64 b.2] (Try.prog.fieldsOf 46).toList).run Try.prog w := run_equalIn_struct w 9999 46 _ _ struct46 held46
  have e2 : (Op.equalIn 10000 46 (plV a) (plV b)).run Try.prog w = (Op.eqFields 9999 #[.int .i64 a.1, .int .i64 a.2] #[.int .i64 b.1, .int .i64 b.2] (Try.prog.fieldsOf 46).toList).run Try.prog w := e1
  rw [e2, fields46, pl_dec]
  exact eqFields_two (by decide) (by decide) (part_cell agg_3 rfl w) (part_cell agg_3 rfl w) (part_cell agg_3 rfl w) (part_cell agg_3 rfl w) (int_equal99 a.1 b.1 w) (int_equal99 a.2 b.2 w)
theorem run_pl_neq (a b : Pl) (o1 o2 : Operand) (w : World) : (binOpG .neq 46 o1 o2 (plV a) (plV b)).run Try.prog w = .ok (.bool (decide (a ≠ b))) w := by
  rw [agg_neq guard46 o1 o2 (pl_equal a b w)]
  simp
theorem run_pl_eql (a b : Pl) (o1 o2 : Operand) (w : World) : (binOpG .eql 46 o1 o2 (plV a) (plV b)).run Try.prog w = .ok (.bool (decide (a = b))) w := agg_eql guard46 o1 o2 (pl_equal a b w)
/-- What was loaded last onto each shelf. -/
abbrev lasV (p : Int × Value) : Value × Value := (.int .i64 p.1, p.2)
theorem run_last {w : World} {mb : Nat} {L : List (Int × Value)} (hm : MapAt w mb (L.map lasV)) (hn : (L.map Prod.fst).Nodup) (hi : ∀ s ∈ L.map Prod.fst, I64 s) {p : Int × Value} (hp : p ∈ L) :
    (Instr.lookup 56 (.map (some mb)) (.int .i64 p.1) false).run Try.prog w = .ok p.2 w := by
  have hs := hi p.1 (List.mem_map.2 ⟨p, hp, rfl⟩)
  have hk : ∀ p ∈ L.map lasV, ∃ x, keyOf Try.prog 3 p.1 = some x := by
    intro p hp
    obtain ⟨q, hq, rfl⟩ := List.mem_map.1 hp
    exact ⟨_, keyOf_i64 (hi q.1 (List.mem_map.2 ⟨q, hq, rfl⟩))⟩
  rcases run_lookupM (P := Try.prog) keyed3 Try.underlying56 zero_29 hm hk (keyOf_i64 hs) false with ⟨hno, hrun⟩ | ⟨q, hq, hqk, hrun⟩
  · exact absurd rfl (hno (lasV p) (List.mem_map.2 ⟨p, hp, rfl⟩))
  · obtain ⟨x, hx, rfl⟩ := List.mem_map.1 hq
    have hxs : x.1 = p.1 := by injection hqk
    have : x = p := fst_inj hn hx hp hxs
    rw [this] at hrun
    exact hrun
/-- A shelf's rows are laid down. -/
theorem XU_last {w : World} {mb : Nat} {L : List (Int × Value)} (hm : MapAt w mb (L.map lasV)) (hn : (L.map Prod.fst).Nodup) (hi : ∀ s ∈ L.map Prod.fst, I64 s) {s : Int} {v : Value} (hs : I64 s) {Q : World → Prop}
    (h : ∀ (w1 : World) (L' : List (Int × Value)), MapAt w1 mb (L'.map lasV) → (L'.map Prod.fst).Nodup → (∀ s ∈ L'.map Prod.fst, I64 s) → (s, v) ∈ L' → (∀ p ∈ L, p.1 ≠ s → p ∈ L') → Keep (· = mb) w w1 → Q w1) : XU Try.prog (Instr.mapUpdate 56 (.map (some mb)) (.int .i64 s) v) w Q := by
  have hk : ∀ p ∈ L.map lasV, ∃ x, keyOf Try.prog 3 p.1 = some x := by
    intro p hp
    obtain ⟨q, hq, rfl⟩ := List.mem_map.1 hp
    exact ⟨_, keyOf_i64 (hi q.1 (List.mem_map.2 ⟨q, hq, rfl⟩))⟩
  refine XU_updateAny keyed3 Try.underlying56 hm hk (keyOf_i64 hs) ?_
  rintro w1 l' hm1 (⟨hno, rfl⟩ | ⟨j, p, hj, hpk, rfl⟩) hk1
  · have e : L.map lasV ++ [(Value.int .i64 s, v)] = (L ++ [(s, v)]).map lasV := by simp
    rw [e] at hm1
    have hns : s ∉ L.map Prod.fst := fun hs' => by
      obtain ⟨q, hq, hqs⟩ := List.mem_map.1 hs'
      exact hno (lasV q) (List.mem_map.2 ⟨q, hq, rfl⟩) (by show Value.int .i64 q.1 = _; rw [hqs])
    refine h w1 _ hm1 ?_ ?_ (by simp) (fun p hp _ => List.mem_append.2 (.inl hp)) hk1
    · rw [List.map_append, List.nodup_append]
      refine ⟨hn, by simp, fun x hx y hy => ?_⟩
      rw [List.map_singleton, List.mem_singleton] at hy
      rw [hy]
      exact fun he => hns (by have he' : x = s := he; rw [← he']; exact hx)
    · intro x hx
      rw [List.map_append] at hx
      rcases List.mem_append.1 hx with hx | hx
      · exact hi x hx
      · rw [List.map_singleton, List.mem_singleton] at hx
        rw [hx]; exact hs
  · obtain ⟨q, hq, rfl⟩ : ∃ q, L[j]? = some q ∧ lasV q = p := by
      rw [List.getElem?_map] at hj
      obtain ⟨q, hq, e⟩ := Option.map_eq_some_iff.1 hj
      exact ⟨q, hq, e⟩
    have hqs : q.1 = s := by injection hpk
    have hjl : j < L.length := (List.getElem?_eq_some_iff.1 hq).1
    have hqj : L[j] = q := (List.getElem?_eq_some_iff.1 hq).2
    have e : (L.map lasV).set j (Value.int .i64 s, v) = (L.set j (s, v)).map lasV := by rw [List.map_set]
    rw [e] at hm1
    have ek : (L.set j (s, v)).map Prod.fst = L.map Prod.fst := by
      rw [List.map_set]
      apply List.ext_getElem?
      intro i
      rw [List.getElem?_set]
      split
      · rename_i hji
        subst hji
        rw [List.length_map, if_pos hjl, List.getElem?_map, hq]
        show some s = some q.1
        rw [hqs]
      · rfl
    refine h w1 _ hm1 (by rw [ek]; exact hn) (by rw [ek]; exact hi) ?_ ?_ hk1
    · exact List.mem_iff_getElem.2 ⟨j, by rw [List.length_set]; exact hjl, by rw [List.getElem_set_self]⟩
    · intro p hp hne
      obtain ⟨i, hi', hpi⟩ := List.mem_iff_getElem.1 hp
      refine List.mem_iff_getElem.2 ⟨i, by rw [List.length_set]; exact hi', ?_⟩
      rw [List.getElem_set_ne (fun hji => hne ?_), hpi]
      subst hji
      rw [← hpi, hqj]
      exact hqs
def anyD (k : Ky) (l : List Ex) : Bool := l.any fun r => decide (r.k = k)
def toldD (k : Ky) (p : Pl) (l : List Ex) : Bool := l.any fun r => decide (r.k = k) && decide ((r.off, r.len) = p)
theorem find_any (rows : List Ex) (k : Ky) : (findR rows k).isSome = anyD k rows := by
  unfold findR anyD
  rw [Option.isSome_map]
  induction rows with
  | nil => rfl
  | cons r rows ih =>
    rw [List.find?_cons, List.any_cons]
    cases decide (r.k = k) <;> simp [ih]
theorem findT_any (T : Tbl) (k : Ky) : (findT T k).isSome = anyD k (T.flatMap Prod.snd) := by
  unfold findT
  induction T with
  | nil => rfl
  | cons p T ih =>
    have e : anyD k ((p :: T).flatMap Prod.snd) = (anyD k p.2 || anyD k (T.flatMap Prod.snd)) := by
      unfold anyD
      rw [List.flatMap_cons, List.any_append]
    rw [e, ← ih, ← find_any, List.findSome?_cons]
    cases findR p.2 k <;> rfl
theorem findR_told {rows : List Ex} {k : Ky} {p : Pl} (h : findR rows k = some p) : toldD k p rows = true := by
  unfold findR at h
  obtain ⟨r, hr, rfl⟩ := Option.map_eq_some_iff.1 h
  have hm := List.mem_of_find?_eq_some hr
  have hk : r.k = k := by simpa using List.find?_some hr
  unfold toldD
  rw [List.any_eq_true]
  exact ⟨r, hm, by simp [hk]⟩
theorem findT_told {T : Tbl} {k : Ky} {p : Pl} (h : findT T k = some p) : toldD k p (T.flatMap Prod.snd) = true := by
  unfold findT at h
  obtain ⟨q, hq, hp⟩ := List.exists_of_findSome?_eq_some h
  have := findR_told hp
  unfold toldD at this ⊢
  rw [List.any_eq_true] at this ⊢
  obtain ⟨r, hr, hx⟩ := this
  exact ⟨r, List.mem_flatMap.2 ⟨q, hq, hr⟩, hx⟩
end Go.Proofs.Ytlnkdphecinnnaa
end
section
/- The document's cache: where a table stands, tables cut, Drop, Load. -/
set_option linter.unusedVariables false
set_option linter.unusedSimpArgs false
set_option maxRecDepth 8000
namespace Go.Proofs.Ytlnkdphecinnnaa
open Go Go.Sh Go.RowKit
attribute [local irreducible] X XU XP XR CALL loopS resC closS
abbrev Tb := (Int × List Ex) × Value
def tbC (t : Tb) : List Value := [.int .i64 t.1.1, t.2]
theorem tbC_len : ∀ t : Tb, (tbC t).length = 2 := fun _ => rfl
structure RefAt (w : World) (D : Nat → Prop) (rb : Nat) (room : Nat) (T : Tbl) : Prop where
  cell : ∃ (vt : Value) (tl : List Tb), w.heap[rb]? = some (.cells #[vt, .int .i64 (room : Int)] 52 (0, 0)) ∧ OwnK 2 96 tbC w 0 vt tl ∧ tl.map Prod.fst = T ∧
    (∀ t ∈ tl, OwnK 35 48 Ex.cs w 0 t.2 t.1.2 ∧ ∀ g, t.2.ownBlock = some g → D g) ∧ D rb ∧ ∀ g, vt.ownBlock = some g → D g
  lt : ∀ g, D g → g < w.heap.size
theorem RefAt.keep {w w1 : World} {D E : Nat → Prop} {rb room : Nat} {T : Tbl} (h : RefAt w D rb room T) (k : Keep E w w1) (hd : ∀ g, D g → ¬ E g) : RefAt w1 D rb room T := by
  obtain ⟨⟨vt, tl, h1, h2, h3, h4, h5, h6⟩, hlt⟩ := h
  exact ⟨⟨vt, tl, k.get (hd _ h5) h1, h2.keep k (fun g hg => hd _ (h6 g hg)), h3, fun t ht => ⟨(h4 t ht).1.keep k (fun g hg => hd _ ((h4 t ht).2 g hg)), (h4 t ht).2⟩, h5, h6⟩, fun g hg => by have := hlt g hg; have := k.size; omega⟩
theorem RefAt.ext {w w1 : World} {D : Nat → Prop} {rb room : Nat} {T : Tbl} (h : RefAt w D rb room T) (k : Ext w w1) : RefAt w1 D rb room T := h.keep k (fun _ _ h => h)
theorem RefAt.mono {w : World} {D E : Nat → Prop} {rb room : Nat} {T : Tbl} (h : RefAt w D rb room T) (hd : ∀ g, D g → E g) (hl : ∀ g, E g → g < w.heap.size) : RefAt w E rb room T := by
  obtain ⟨⟨vt, tl, h1, h2, h3, h4, h5, h6⟩, hlt⟩ := h
  exact ⟨⟨vt, tl, h1, h2, h3, fun t ht => ⟨(h4 t ht).1, fun g hg => hd _ ((h4 t ht).2 g hg)⟩, hd _ h5, fun g hg => hd _ (h6 g hg)⟩, hl⟩
theorem emp50 (w : World) : (Instr.buildSlice 50 0 #[]).run Try.prog w = .ok (.slice (some ⟨w.heap.size, 0, none⟩) 0 0) (newB w #[] 96) := by kernel_rfl
theorem emp29 (w : World) : (Instr.buildSlice 29 0 #[]).run Try.prog w = .ok (.slice (some ⟨w.heap.size, 0, none⟩) 0 0) (newB w #[] 48) := by kernel_rfl
theorem run_build96 (n : Int) (a : Option Addr) (m c : Nat) (w : World) : (Instr.build 96 #[(0, .int .i64 n), (1, .slice a m c)]).run Try.prog w = .ok (.agg #[.int .i64 n, .slice a m c]) w := by kernel_rfl
theorem tb_at {w : World} {v : Value} {l : List Tb} {i : Nat} (hl : RowK 2 tbC w v l) (hi : i < l.length) :
    ∃ g o, (∀ w', (Instr.indexAt 50 v (.int .i64 (i : Int))).run Try.prog w' = .ok (.pointer (some ⟨g, o, none⟩)) w') ∧ w.cell? ⟨g, o, none⟩ = some (.int .i64 l[i].1.1) ∧ w.cell? ⟨g, o + 1, none⟩ = some l[i].2 := by
  obtain ⟨ad, hix, hcs⟩ := hl.at Try.underlying50 info_96 sz_96 (kd := .i64) (ii := (i : Int)) i rfl hi
  obtain ⟨g, o, sp⟩ := ad
  have h0 := hcs 0 _ rfl
  have : sp = none := by simpa [Addr.add] using World.cell?_spot h0
  subst this
  have h1 := hcs 1 _ rfl
  rw [add_plain] at h0 h1
  exact ⟨g, o, hix, h0, h1⟩
theorem tb_lo {w : World} {v : Value} {l : List Tb} (h : RowK 2 tbC w v l) (i : Nat) (hi : i ≤ l.length) : ∃ u, (∀ w', (Instr.sliceAt 50 v (some (.int .i64 (i : Int))) none none).run Try.prog w' = .ok u w') ∧ RowK 2 tbC w u (l.drop i) := by
  obtain ⟨a, c, rfl, h1, h2, h3⟩ := h
  refine ⟨_, fun w' => sl_lo Try.underlying50 info_96 i rfl hi w', ?_⟩
  have hl : (l.drop i).length = l.length - i := List.length_drop ..
  refine ⟨_, c - i, by rw [hl], by rw [hl]; omega, by omega, fun h0 => ?_⟩
  rw [hl] at h0
  obtain ⟨ad, rfl, hc⟩ := h3 (by omega)
  refine ⟨ad.add (i * 2), by rw [if_neg (by omega), sz_96]; rfl, fun j x hx m u hu => ?_⟩
  rw [List.getElem?_drop] at hx
  have := hc (i + j) x hx m u hu
  rw [add_add] at this
  rw [add_add, add_add]
  rw [show i * 2 + (j * 2 + m) = (i + j) * 2 + m by omega]
  exact this
theorem tb_one {w : World} {base : Nat} {v : Value} {l : List Tb} (hr : ∀ t ∈ l, ∃ a n c, t.2 = .slice a n c) : ∀ t ∈ l, ∀ u ∈ tbC t, u.oneCell' = true := by
  intro t ht u hu
  obtain ⟨a, n, c, e⟩ := hr t ht
  unfold tbC at hu
  rw [e] at hu
  simp only [List.mem_cons, List.not_mem_nil, or_false] at hu
  rcases hu with rfl | rfl <;> rfl
section
variable {w : World} {K : Value → World → Prop}
theorem At_spec {D : Nat → Prop} {rb room : Nat} {T : Tbl} {s : Int} (h : RefAt w D rb room T) (hn : T.length ≤ 1000000) (hno : s ∉ shs T → K (.int .i64 (-1)) w) (hK : ∀ i (h : i < T.length), T[i].1 = s → K (.int .i64 (i : Int)) w) : CALL Try.prog 49 #[ptr rb, .int .i64 s] w K := by
  obtain ⟨⟨vt, tl, h1, h2, h3, h4, h5, h6⟩, hlt⟩ := h
  have hlen : tl.length = T.length := by rw [← h3, List.length_map]
  have hrow := OwnK.rowK (by decide) tbC_len h2
  obtain ⟨a, c, ev⟩ := hrow.slice
  apply call_ref14_Cache_at
  unfold B_ref14_Cache_at
  refine loopGR 0 (fun ρ wr => ∃ i : Nat, i ≤ T.length ∧ wr = w ∧ (∀ j (h : j < T.length), j < i → T[j].1 ≠ s) ∧ ρ 5 = .int .i64 (i : Int) ∧ ρ 0 = ptr rb ∧ ρ 1 = .int .i64 s)
    (fun ρ wr => match ρ 5 with | .int _ s => (T.length - s).toNat | _ => 0)
    (fun ρ wr => wr = w ∧ s ∉ shs T) (fun ρ wr => wr = w ∧ ∃ i, ∃ h : i < T.length, T[i].1 = s ∧ ρ 4 = .int .i64 (i : Int)) ?_ ?_ ?_ ?_
  · exact ⟨0, by omega, rfl, fun j h h' => by omega, rfl, rfl, rfl⟩
  · rintro J hJ hJR ρ wr ⟨i, hi, rfl, hne, r5, r0, r1⟩
    rw [r5, r0, r1]
    (repeat (simp only [XP_extract0, XP_extract1, XP_extract2, XP_extract3, X_extract0, X_extract1, X_extract2, X_extract3, X_nilS, X_eql_nil_24, X_neq_nil_24, X_eql_nil_103, X_neq_nil_103, X_eql, X_neq, X_lss, X_leq, X_gtr, X_geq, X_not, X_min, X_max, X_len_79, X_len_35, XP_nilS, XP_eql, XP_neq, XP_lss, XP_leq, XP_gtr, XP_geq, XP_not, XP_min, XP_max, XP_len_79, XP_eql_nil_24, X_str_eql, X_str_neq, XP_str_eql, XP_str_neq, GS, gs_u, decide_true, decide_false, Option.isNone_some, Option.isSome_some, Option.isNone_none, Option.isSome_none, eq_self, Bool.not_true, Bool.not_false, Int.reduceEq, Int.reduceNe, Int.reduceLT, Int.reduceLE, Int.reduceGT, Int.reduceGE, X_field_52_0]))
    refine X_of (run_loadAt (v := vt) agg_50 ((cell_blk h1).trans rfl)) ?_
    rw [ev, X_len_50, X_lss, condS_bool, ← ev, hlen]
    by_cases hie : i = T.length
    · rw [if_neg (by simp; omega)]
      refine hJ _ _ ⟨rfl, fun hs => ?_⟩
      obtain ⟨p, hp, hps⟩ := List.mem_map.1 hs
      obtain ⟨j, hj, hjp⟩ := List.mem_iff_getElem.1 hp
      exact hne j hj (by omega) (by rw [hjp]; exact hps)
    rw [if_pos (by simp; omega)]
    have hlt2 : i < T.length := by omega
    obtain ⟨g, o, hix, hc, _⟩ := tb_at hrow (i := i) (by omega)
    have he : tl[i].1 = T[i] := by
      subst h3
      simp
    rw [he] at hc
    (repeat (simp only [XP_extract0, XP_extract1, XP_extract2, XP_extract3, X_extract0, X_extract1, X_extract2, X_extract3, X_nilS, X_eql_nil_24, X_neq_nil_24, X_eql_nil_103, X_neq_nil_103, X_eql, X_neq, X_lss, X_leq, X_gtr, X_geq, X_not, X_min, X_max, X_len_79, X_len_35, XP_nilS, XP_eql, XP_neq, XP_lss, XP_leq, XP_gtr, XP_geq, XP_not, XP_min, XP_max, XP_len_79, XP_eql_nil_24, X_str_eql, X_str_neq, XP_str_eql, XP_str_neq, GS, gs_u, decide_true, decide_false, Option.isNone_some, Option.isSome_some, Option.isNone_none, Option.isSome_none, eq_self, Bool.not_true, Bool.not_false, Int.reduceEq, Int.reduceNe, Int.reduceLT, Int.reduceLE, Int.reduceGT, Int.reduceGE, X_field_52_0]))
    refine X_of (run_loadAt (v := vt) agg_50 ((cell_blk h1).trans rfl)) ?_
    refine X_of (hix _) ?_
    (repeat (simp only [XP_extract0, XP_extract1, XP_extract2, XP_extract3, X_extract0, X_extract1, X_extract2, X_extract3, X_nilS, X_eql_nil_24, X_neq_nil_24, X_eql_nil_103, X_neq_nil_103, X_eql, X_neq, X_lss, X_leq, X_gtr, X_geq, X_not, X_min, X_max, X_len_79, X_len_35, XP_nilS, XP_eql, XP_neq, XP_lss, XP_leq, XP_gtr, XP_geq, XP_not, XP_min, XP_max, XP_len_79, XP_eql_nil_24, X_str_eql, X_str_neq, XP_str_eql, XP_str_neq, GS, gs_u, decide_true, decide_false, Option.isNone_some, Option.isSome_some, Option.isNone_none, Option.isSome_none, eq_self, Bool.not_true, Bool.not_false, Int.reduceEq, Int.reduceNe, Int.reduceLT, Int.reduceLE, Int.reduceGT, Int.reduceGE, X_field_96_0]))
    refine X_of (run_loadAt agg_3 hc) ?_
    rw [X_eql, condS_bool]
    by_cases he : T[i].1 = s
    · rw [if_pos (by simpa using he)]
      exact hJR _ _ ⟨rfl, i, hlt2, he, rfl⟩
    · rw [if_neg (by simpa using he), X_add]
      show _ ∧ _
      refine ⟨⟨i + 1, by omega, rfl, fun j h h' => ?_, next64 (n := 1000000) (by decide) (by omega), r0, r1⟩, ?_⟩
      · by_cases hj : j = i
        · subst hj; exact he
        · exact hne j h (by omega)
      · show (_ - IntKind.i64.wrap _).toNat < _
        rw [w64 (by omega) (by omega)]
        first | omega | (show _ < (_ : Int).toNat; omega)
  · rintro ρ wr ⟨rfl, hs⟩
    exact hno hs
  · rintro ρ wr ⟨rfl, i, hi, he, r4⟩
    show K (ρ 4) _
    rw [r4]
    exact hK i hi he
theorem Cut_spec {D : Nat → Prop} {rb room : Nat} {T : Tbl} {i : Nat} (h : RefAt w D rb room T) (hn : T.length ≤ 1000000) (hi : i < T.length)
    (hK : ∀ w1, Keep D w w1 → RefAt w1 (fun g => D g ∨ (w.heap.size ≤ g ∧ g < w1.heap.size)) rb room (T.take i ++ T.drop (i + 1)) → K (.tuple #[]) w1) : CALL Try.prog 50 #[ptr rb, .int .i64 (i : Int)] w K := by
  obtain ⟨⟨vt, tl, h1, h2, h3, h4, h5, h6⟩, hlt⟩ := h
  have hlen : tl.length = T.length := by rw [← h3, List.length_map]
  have hrow := OwnK.rowK (by decide) tbC_len h2
  have hsl : ∀ t ∈ tl, ∃ a n c, t.2 = .slice a n c := fun t ht => by
    obtain ⟨a, c, e⟩ := (OwnK.rowK (by decide) Ex.cs_len (h4 t ht).1).slice
    exact ⟨a, _, c, e⟩
  apply call_ref14_Cache_cut
  unfold B_ref14_Cache_cut
  refine X_of (emp50 w) ?_
  have hx1 := newB_ext w #[] 96
  have ho1 : OwnK 2 96 tbC (newB w #[] 96) w.heap.size (.slice (some ⟨w.heap.size, 0, none⟩) 0 0) [] := ownK_empty w
  generalize newB w #[] 96 = w1 at hx1 ho1 ⊢
  (repeat (simp only [XP_extract0, XP_extract1, XP_extract2, XP_extract3, X_extract0, X_extract1, X_extract2, X_extract3, X_nilS, X_eql_nil_24, X_neq_nil_24, X_eql_nil_103, X_neq_nil_103, X_eql, X_neq, X_lss, X_leq, X_gtr, X_geq, X_not, X_min, X_max, X_len_79, X_len_35, XP_nilS, XP_eql, XP_neq, XP_lss, XP_leq, XP_gtr, XP_geq, XP_not, XP_min, XP_max, XP_len_79, XP_eql_nil_24, X_str_eql, X_str_neq, XP_str_eql, XP_str_neq, GS, gs_u, decide_true, decide_false, Option.isNone_some, Option.isSome_some, Option.isNone_none, Option.isSome_none, eq_self, Bool.not_true, Bool.not_false, Int.reduceEq, Int.reduceNe, Int.reduceLT, Int.reduceLE, Int.reduceGT, Int.reduceGE, X_field_52_0]))
  refine X_of (run_loadAt (v := vt) agg_50 ((cell_blk (Ext.get hx1 h1)).trans rfl)) ?_
  obtain ⟨u1, hu1, hr1⟩ := (hrow.ext hx1).cut Try.underlying50 info_96 (kh := .i64) (hj := (i : Int)) i rfl (by omega)
  refine X_of (hu1 _) ?_
  refine X_appendK Try.underlying50 el_96 (by decide) tbC_len (tb_one (w := w) (base := 0) (v := vt) (fun t ht => hsl t (List.mem_of_mem_take ht))) ho1 hr1 (by simp; omega) (by decide) hx1.size ?_
  intro v2 w2 ho2 hk2
  have hx2 : Ext w w2 := Ext.seq hx1 hk2 (fun g hg => (ho1.lt g hg.symm).1)
  (repeat (simp only [XP_extract0, XP_extract1, XP_extract2, XP_extract3, X_extract0, X_extract1, X_extract2, X_extract3, X_nilS, X_eql_nil_24, X_neq_nil_24, X_eql_nil_103, X_neq_nil_103, X_eql, X_neq, X_lss, X_leq, X_gtr, X_geq, X_not, X_min, X_max, X_len_79, X_len_35, XP_nilS, XP_eql, XP_neq, XP_lss, XP_leq, XP_gtr, XP_geq, XP_not, XP_min, XP_max, XP_len_79, XP_eql_nil_24, X_str_eql, X_str_neq, XP_str_eql, XP_str_neq, GS, gs_u, decide_true, decide_false, Option.isNone_some, Option.isSome_some, Option.isNone_none, Option.isSome_none, eq_self, Bool.not_true, Bool.not_false, Int.reduceEq, Int.reduceNe, Int.reduceLT, Int.reduceLE, Int.reduceGT, Int.reduceGE, X_field_52_0]))
  refine X_of (run_loadAt (v := vt) agg_50 ((cell_blk (Ext.get hx2 h1)).trans rfl)) ?_
  have ei : IntKind.i64.wrap ((i : Int) + 1) = ((i + 1 : Nat) : Int) := by rw [w64 (by omega) (by omega)]; rfl
  rw [X_add, ei]
  obtain ⟨u3, hu3, hr3⟩ := tb_lo (hrow.ext hx2) (i + 1) (by omega)
  refine X_of (hu3 _) ?_
  refine X_appendK Try.underlying50 el_96 (by decide) tbC_len (tb_one (w := w) (base := 0) (v := vt) (fun t ht => hsl t (List.mem_of_mem_drop ht))) ho2 hr3 (by simp; omega) (by decide) hx2.size ?_
  intro v3 w3 ho3 hk3
  have hx3 : Ext w w3 := Ext.seq hx2 hk3 (fun g hg => (ho2.lt g hg.symm).1)
  rw [List.nil_append] at ho3
  have hg3 := Ext.get hx3 h1
  obtain ⟨a3, c3, e3⟩ := (OwnK.rowK (by decide) tbC_len ho3).slice
  (repeat (simp only [XP_extract0, XP_extract1, XP_extract2, XP_extract3, X_extract0, X_extract1, X_extract2, X_extract3, X_nilS, X_eql_nil_24, X_neq_nil_24, X_eql_nil_103, X_neq_nil_103, X_eql, X_neq, X_lss, X_leq, X_gtr, X_geq, X_not, X_min, X_max, X_len_79, X_len_35, XP_nilS, XP_eql, XP_neq, XP_lss, XP_leq, XP_gtr, XP_geq, XP_not, XP_min, XP_max, XP_len_79, XP_eql_nil_24, X_str_eql, X_str_neq, XP_str_eql, XP_str_neq, GS, gs_u, decide_true, decide_false, Option.isNone_some, Option.isSome_some, Option.isNone_none, Option.isSome_none, eq_self, Bool.not_true, Bool.not_false, Int.reduceEq, Int.reduceNe, Int.reduceLT, Int.reduceLE, Int.reduceGT, Int.reduceGE, X_field_52_0]))
  refine XU_store info_50 sz_50 (by rw [e3]; rfl) hg3 (by show 0 < 2; decide) (by show ¬ (0 ≤ _ ∧ _ < 0); omega) ?_
  have hk4 := setAt_keep w3 rb (#[vt, .int .i64 (room : Int)].setIfInBounds 0 v3) 52 (0, 0)
  have hg4 : (setAt w3 rb (#[vt, .int .i64 (room : Int)].setIfInBounds 0 v3) 52 (0, 0)).heap[rb]? = some (.cells #[v3, .int .i64 (room : Int)] 52 (0, 0)) := setAt_same (lt_of_blk hg3)
  generalize setAt w3 rb (#[vt, .int .i64 (room : Int)].setIfInBounds 0 v3) 52 (0, 0) = w4 at hk4 hg4 ⊢
  have s4 := hk4.size
  have s3 := hx3.size
  refine hK w4 ((Keep.ext hx3).trans (hk4.mono (fun _ _ h => by rw [h]; exact h5))) ⟨⟨v3, tl.take i ++ tl.drop (i + 1), hg4, ?_, ?_, ?_, .inl h5, ?_⟩, ?_⟩
  · have ho30 : OwnK 2 96 tbC w3 0 v3 (tl.take i ++ tl.drop (i + 1)) := own_mono ho3 (Nat.zero_le _)
    exact ho30.keep hk4 (fun g hg he => own_neT ho3 hg3 (by decide) (by rw [hg, he]))
  · rw [List.map_append, List.map_take, List.map_drop, h3]
  · intro t ht
    have htl : t ∈ tl := by
      rcases List.mem_append.1 ht with ht | ht
      · exact List.mem_of_mem_take ht
      · exact List.mem_of_mem_drop ht
    obtain ⟨g1, g2⟩ := h4 t htl
    exact ⟨(g1.ext hx3).keep hk4 (fun g hg he => own_neT (g1.ext hx3) hg3 (by decide) (by rw [hg, he])), fun g hg => .inl (g2 g hg)⟩
  · intro g hg
    have := ho3.lt g hg
    exact .inr ⟨this.1, by omega⟩
  · rintro g (hg | hg)
    · have := hlt g hg; omega
    · exact hg.2
theorem RDrop_spec {D : Nat → Prop} {rb room : Nat} {T : Tbl} {s : Int} (h : RefAt w D rb room T) (hn : T.length ≤ 1000000) (hnd : (shs T).Nodup)
    (hK : ∀ w1, Keep D w w1 → RefAt w1 (fun g => D g ∨ (w.heap.size ≤ g ∧ g < w1.heap.size)) rb room (dropT T s) → K (.bool (decide (s ∈ shs T))) w1) : CALL Try.prog 23 #[ptr rb, .int .i64 s] w K := by
  apply call_ref14_Cache_Drop
  unfold B_ref14_Cache_Drop
  refine At_spec h hn ?_ ?_
  · intro hs
    have c : decide ((-1 : Int) < 0) = true := rfl
    (repeat (simp only [XP_extract0, XP_extract1, XP_extract2, XP_extract3, X_extract0, X_extract1, X_extract2, X_extract3, X_nilS, X_eql_nil_24, X_neq_nil_24, X_eql_nil_103, X_neq_nil_103, X_eql, X_neq, X_lss, X_leq, X_gtr, X_geq, X_not, X_min, X_max, X_len_79, X_len_35, XP_nilS, XP_eql, XP_neq, XP_lss, XP_leq, XP_gtr, XP_geq, XP_not, XP_min, XP_max, XP_len_79, XP_eql_nil_24, X_str_eql, X_str_neq, XP_str_eql, XP_str_neq, GS, gs_u, decide_true, decide_false, Option.isNone_some, Option.isSome_some, Option.isNone_none, Option.isSome_none, eq_self, Bool.not_true, Bool.not_false, Int.reduceEq, Int.reduceNe, Int.reduceLT, Int.reduceLE, Int.reduceGT, Int.reduceGE, c]))
    have := hK w (Keep.refl _ _) (by rw [drop_none hs]; exact h.mono (fun g hg => .inl hg) (fun g hg => by rcases hg with hg | hg; exact h.lt g hg; exact hg.2))
    rw [decide_eq_false hs] at this
    exact this
  · intro i hi he
    have c : decide ((i : Int) < 0) = false := decide_eq_false (by omega)
    (repeat (simp only [XP_extract0, XP_extract1, XP_extract2, XP_extract3, X_extract0, X_extract1, X_extract2, X_extract3, X_nilS, X_eql_nil_24, X_neq_nil_24, X_eql_nil_103, X_neq_nil_103, X_eql, X_neq, X_lss, X_leq, X_gtr, X_geq, X_not, X_min, X_max, X_len_79, X_len_35, XP_nilS, XP_eql, XP_neq, XP_lss, XP_leq, XP_gtr, XP_geq, XP_not, XP_min, XP_max, XP_len_79, XP_eql_nil_24, X_str_eql, X_str_neq, XP_str_eql, XP_str_neq, GS, gs_u, decide_true, decide_false, Option.isNone_some, Option.isSome_some, Option.isNone_none, Option.isSome_none, eq_self, Bool.not_true, Bool.not_false, Int.reduceEq, Int.reduceNe, Int.reduceLT, Int.reduceLE, Int.reduceGT, Int.reduceGE, c]))
    refine Cut_spec h hn hi ?_
    intro w1 hk1 hr1
    have hin : s ∈ shs T := List.mem_map.2 ⟨T[i], List.getElem_mem hi, he⟩
    have hd : T.take i ++ T.drop (i + 1) = dropT T s := by
      rw [drop_at Prod.fst T i hi hnd, he]
      rfl
    rw [hd] at hr1
    have := hK w1 hk1 hr1
    rw [decide_eq_true hin] at this
    (repeat (simp only [XP_extract0, XP_extract1, XP_extract2, XP_extract3, X_extract0, X_extract1, X_extract2, X_extract3, X_nilS, X_eql_nil_24, X_neq_nil_24, X_eql_nil_103, X_neq_nil_103, X_eql, X_neq, X_lss, X_leq, X_gtr, X_geq, X_not, X_min, X_max, X_len_79, X_len_35, XP_nilS, XP_eql, XP_neq, XP_lss, XP_leq, XP_gtr, XP_geq, XP_not, XP_min, XP_max, XP_len_79, XP_eql_nil_24, X_str_eql, X_str_neq, XP_str_eql, XP_str_neq, GS, gs_u, decide_true, decide_false, Option.isNone_some, Option.isSome_some, Option.isNone_none, Option.isSome_none, eq_self, Bool.not_true, Bool.not_false, Int.reduceEq, Int.reduceNe, Int.reduceLT, Int.reduceLE, Int.reduceGT, Int.reduceGE]))
    exact this
end
end Go.Proofs.Ytlnkdphecinnnaa
end
section
/- The document's cache: Load, Shelves. -/
set_option linter.unusedVariables false
set_option linter.unusedSimpArgs false
set_option maxRecDepth 8000
namespace Go.Proofs.Ytlnkdphecinnnaa
open Go Go.Sh Go.RowKit
attribute [local irreducible] X XU XP XR CALL loopS resC closS
section
variable {w : World} {K : Value → World → Prop}
set_option maxHeartbeats 1000000 in
theorem RLoad_spec {D : Nat → Prop} {rb room : Nat} {T : Tbl} {s : Int} {vr : Value} {rows : List Ex} {d : Nat} (h : RefAt w D rb room T) (hn : T.length ≤ 1000000) (hnd : (shs T).Nodup) (hfit : T.length ≤ room) (hrow : RowK 35 Ex.cs w vr rows) (hrn : rows.length ≤ 1000000) (hd : d < 18446744073709551616)
    (hapart : 0 < rows.length → ∀ g, vr.ownBlock = some g → ¬ D g)
    (hK : ∀ w1, Keep D w w1 → RefAt w1 (fun g => D g ∨ (w.heap.size ≤ g ∧ g < w1.heap.size)) rb room (loadT T room s rows d) → K (.tuple #[]) w1) : CALL Try.prog 24 #[ptr rb, .int .i64 s, vr, .int .u64 (d : Int)] w K := by
  have same : loadT T room s rows d = T → K (.tuple #[]) w := fun he => hK w (Keep.refl _ _) (by rw [he]; exact h.mono (fun g hg => .inl hg) (fun g hg => by rcases hg with hg | hg; exact h.lt g hg; exact hg.2))
  have hcell : ∃ (vt : Value) (tl : List Tb), w.heap[rb]? = some (.cells #[vt, .int .i64 (room : Int)] 52 (0, 0)) ∧ OwnK 2 96 tbC w 0 vt tl ∧ tl.length = T.length := by
    obtain ⟨⟨vt, tl, h1, h2, h3, _⟩, _⟩ := h
    exact ⟨vt, tl, h1, h2, by rw [← h3, List.length_map]⟩
  obtain ⟨vt, tl, h1, h2, hlen⟩ := hcell
  apply call_ref14_Cache_Load
  unfold B_ref14_Cache_Load
  (repeat (simp only [XP_extract0, XP_extract1, XP_extract2, XP_extract3, X_extract0, X_extract1, X_extract2, X_extract3, X_nilS, X_eql_nil_24, X_neq_nil_24, X_eql_nil_103, X_neq_nil_103, X_eql, X_neq, X_lss, X_leq, X_gtr, X_geq, X_not, X_min, X_max, X_len_79, X_len_35, XP_nilS, XP_eql, XP_neq, XP_lss, XP_leq, XP_gtr, XP_geq, XP_not, XP_min, XP_max, XP_len_79, XP_eql_nil_24, X_str_eql, X_str_neq, XP_str_eql, XP_str_neq, GS, gs_u, decide_true, decide_false, Option.isNone_some, Option.isSome_some, Option.isNone_none, Option.isSome_none, eq_self, Bool.not_true, Bool.not_false, Int.reduceEq, Int.reduceNe, Int.reduceLT, Int.reduceLE, Int.reduceGT, Int.reduceGE, X_field_52_1]))
  refine X_of (run_loadAt (v := .int .i64 (room : Int)) agg_3 ((cell_blk h1).trans rfl)) ?_
  by_cases h0 : room = 0
  · have c : decide ((room : Int) = 0) = true := decide_eq_true (by omega)
    (repeat (simp only [XP_extract0, XP_extract1, XP_extract2, XP_extract3, X_extract0, X_extract1, X_extract2, X_extract3, X_nilS, X_eql_nil_24, X_neq_nil_24, X_eql_nil_103, X_neq_nil_103, X_eql, X_neq, X_lss, X_leq, X_gtr, X_geq, X_not, X_min, X_max, X_len_79, X_len_35, XP_nilS, XP_eql, XP_neq, XP_lss, XP_leq, XP_gtr, XP_geq, XP_not, XP_min, XP_max, XP_len_79, XP_eql_nil_24, X_str_eql, X_str_neq, XP_str_eql, XP_str_neq, GS, gs_u, decide_true, decide_false, Option.isNone_some, Option.isSome_some, Option.isNone_none, Option.isSome_none, eq_self, Bool.not_true, Bool.not_false, Int.reduceEq, Int.reduceNe, Int.reduceLT, Int.reduceLE, Int.reduceGT, Int.reduceGE, c]))
    exact same (if_pos (.inl h0))
  have c : decide ((room : Int) = 0) = false := decide_eq_false (by omega)
  (repeat (simp only [XP_extract0, XP_extract1, XP_extract2, XP_extract3, X_extract0, X_extract1, X_extract2, X_extract3, X_nilS, X_eql_nil_24, X_neq_nil_24, X_eql_nil_103, X_neq_nil_103, X_eql, X_neq, X_lss, X_leq, X_gtr, X_geq, X_not, X_min, X_max, X_len_79, X_len_35, XP_nilS, XP_eql, XP_neq, XP_lss, XP_leq, XP_gtr, XP_geq, XP_not, XP_min, XP_max, XP_len_79, XP_eql_nil_24, X_str_eql, X_str_neq, XP_str_eql, XP_str_neq, GS, gs_u, decide_true, decide_false, Option.isNone_some, Option.isSome_some, Option.isNone_none, Option.isSome_none, eq_self, Bool.not_true, Bool.not_false, Int.reduceEq, Int.reduceNe, Int.reduceLT, Int.reduceLE, Int.reduceGT, Int.reduceGE, c]))
  refine At_spec h hn ?_ ?_
  case refine_2 =>
    intro i hi he
    have c2 : decide ((i : Int) ≥ 0) = true := decide_eq_true (by omega)
    (repeat (simp only [XP_extract0, XP_extract1, XP_extract2, XP_extract3, X_extract0, X_extract1, X_extract2, X_extract3, X_nilS, X_eql_nil_24, X_neq_nil_24, X_eql_nil_103, X_neq_nil_103, X_eql, X_neq, X_lss, X_leq, X_gtr, X_geq, X_not, X_min, X_max, X_len_79, X_len_35, XP_nilS, XP_eql, XP_neq, XP_lss, XP_leq, XP_gtr, XP_geq, XP_not, XP_min, XP_max, XP_len_79, XP_eql_nil_24, X_str_eql, X_str_neq, XP_str_eql, XP_str_neq, GS, gs_u, decide_true, decide_false, Option.isNone_some, Option.isSome_some, Option.isNone_none, Option.isSome_none, eq_self, Bool.not_true, Bool.not_false, Int.reduceEq, Int.reduceNe, Int.reduceLT, Int.reduceLE, Int.reduceGT, Int.reduceGE, c2]))
    exact same (if_pos (.inr (List.mem_map.2 ⟨T[i], List.getElem_mem hi, he⟩)))
  intro hin
  have c2 : decide ((-1 : Int) ≥ 0) = false := rfl
  (repeat (simp only [XP_extract0, XP_extract1, XP_extract2, XP_extract3, X_extract0, X_extract1, X_extract2, X_extract3, X_nilS, X_eql_nil_24, X_neq_nil_24, X_eql_nil_103, X_neq_nil_103, X_eql, X_neq, X_lss, X_leq, X_gtr, X_geq, X_not, X_min, X_max, X_len_79, X_len_35, XP_nilS, XP_eql, XP_neq, XP_lss, XP_leq, XP_gtr, XP_geq, XP_not, XP_min, XP_max, XP_len_79, XP_eql_nil_24, X_str_eql, X_str_neq, XP_str_eql, XP_str_neq, GS, gs_u, decide_true, decide_false, Option.isNone_some, Option.isSome_some, Option.isNone_none, Option.isSome_none, eq_self, Bool.not_true, Bool.not_false, Int.reduceEq, Int.reduceNe, Int.reduceLT, Int.reduceLE, Int.reduceGT, Int.reduceGE, c2]))
  have hload : loadT T room s rows d = (if T.length = room then dropT T ((shs T).getD (d % T.length) 0) else T) ++ [(s, rows)] := if_neg (by rintro (h | h); exact h0 h; exact hin h)
  rw [hload] at hK
  have hlT : (shs T).length = T.length := List.length_map ..
  refine joinS_of (fun ρ w1 => ∃ T1 : Tbl, (if T.length = room then dropT T ((shs T).getD (d % T.length) 0) else T) = T1 ∧ Keep D w w1 ∧ RefAt w1 (fun g => D g ∨ (w.heap.size ≤ g ∧ g < w1.heap.size)) rb room T1 ∧ T1.length ≤ 1000000 ∧ ρ 0 = ptr rb ∧ ρ 1 = .int .i64 s ∧ ρ 2 = vr) ?_ ?_
  · rintro ρ w1 ⟨T1, hT1, hk1, hr1, hlen1, r0, r1, r2⟩
    rw [hT1] at hK
    rw [r0, r1, r2]
    have hrow1 := hrow.keep hk1 hapart
    have s1 := hk1.size
    obtain ⟨⟨vt1, tl1, b1, b2, b3, b4, b5, b6⟩, blt⟩ := hr1
    have hlen2 : tl1.length = T1.length := by rw [← b3, List.length_map]
    have kd := Keep.drew (fun _ => False) w1
    have s2 : (drewW w1).heap.size = w1.heap.size := rfl
    refine ⟨Keep (fun g => w1.heap.size ≤ g), Keep.frame _, ?_⟩
    generalize drewW w1 = w2 at kd s2 ⊢
    have hrb : rb < w1.heap.size := lt_of_blk b1
    (repeat (simp only [XP_extract0, XP_extract1, XP_extract2, XP_extract3, X_extract0, X_extract1, X_extract2, X_extract3, X_nilS, X_eql_nil_24, X_neq_nil_24, X_eql_nil_103, X_neq_nil_103, X_eql, X_neq, X_lss, X_leq, X_gtr, X_geq, X_not, X_min, X_max, X_len_79, X_len_35, XP_nilS, XP_eql, XP_neq, XP_lss, XP_leq, XP_gtr, XP_geq, XP_not, XP_min, XP_max, XP_len_79, XP_eql_nil_24, X_str_eql, X_str_neq, XP_str_eql, XP_str_neq, GS, gs_u, decide_true, decide_false, Option.isNone_some, Option.isSome_some, Option.isNone_none, Option.isSome_none, eq_self, Bool.not_true, Bool.not_false, Int.reduceEq, Int.reduceNe, Int.reduceLT, Int.reduceLE, Int.reduceGT, Int.reduceGE, XP_field_52_0]))
    refine XR_ok (Keep.frame _) (fun w' kk => run_loadAt (v := vt1) agg_50 ((cell_blk (kk.get (Nat.not_le.2 hrb) (Ext.get kd b1))).trans rfl)) ?_
    refine X_of (emp29 w2) ?_
    have hx3 := newB_ext w2 #[] 48
    have ho3 : OwnK 35 48 Ex.cs (newB w2 #[] 48) w2.heap.size (.slice (some ⟨w2.heap.size, 0, none⟩) 0 0) [] := ownK_empty w2
    generalize newB w2 #[] 48 = w3 at hx3 ho3 ⊢
    refine ⟨Keep.ext hx3, ?_⟩
    refine X_appendK Try.underlying29 el_48 (by decide) Ex.cs_len (fun x hx => Ex.one x) ho3 ((hrow1.ext kd).ext hx3) (by simp; omega) (by decide) hx3.size ?_
    intro v4 w4 ho4 hk4
    have hx24 : Ext w2 w4 := Ext.seq hx3 hk4 (fun g hg => (ho3.lt g hg.symm).1)
    rw [List.nil_append] at ho4
    refine ⟨hk4.mono (fun g _ hg => by have := (ho3.lt g hg.symm).1; omega), ?_⟩
    obtain ⟨a4, c4, e4⟩ := (OwnK.rowK (by decide) Ex.cs_len ho4).slice
    rw [e4]
    refine XP_of (run_build96 s a4 rows.length c4) ?_
    rw [← e4]
    refine X_buildSliceK Try.underlying50 el_96 (by decide) (by decide) (cs := [.int .i64 s, v4]) rfl ?_
    have hx5 := newB_ext w4 [Value.int .i64 s, v4].toArray 96
    have hg5 := newB_get w4 [Value.int .i64 s, v4].toArray 96
    generalize newB w4 [Value.int .i64 s, v4].toArray 96 = w5 at hx5 hg5 ⊢
    refine ⟨Keep.ext hx5, ?_⟩
    have hx15 : Ext w1 w5 := (kd.trans hx24).trans hx5
    have s4 := hx24.size
    have s15 := hx15.size
    refine X_appendW (base := 0) Try.underlying50 el_96 (by decide) (b2.ext hx15) (news := [.int .i64 s, v4]) (m := 1) rfl (fun j u hu => ?_) (by intro u hu; rw [e4] at hu; simp only [List.mem_cons, List.not_mem_nil, or_false] at hu; rcases hu with rfl | rfl <;> rfl) (by omega) (by decide) (Nat.zero_le _) ?_
    · rw [add_plain, Nat.zero_add, cell_blk hg5]
      simpa using hu
    intro v6 w6 ho6' hk6 hnb6
    have ho6 : OwnK 2 96 tbC w6 0 v6 (tl1 ++ [((s, rows), v4)]) := by
      unfold OwnK
      rw [List.length_append, cellsK_append]
      exact ho6'
    have hcv : ¬ some rb = vt1.ownBlock := fun he => own_neT b2 b1 (by decide) he.symm
    have b16 := hk6.get hcv (Ext.get hx15 b1)
    obtain ⟨a6, c6, e6⟩ := (OwnK.rowK (by decide) tbC_len ho6).slice
    (repeat (simp only [XP_extract0, XP_extract1, XP_extract2, XP_extract3, X_extract0, X_extract1, X_extract2, X_extract3, X_nilS, X_eql_nil_24, X_neq_nil_24, X_eql_nil_103, X_neq_nil_103, X_eql, X_neq, X_lss, X_leq, X_gtr, X_geq, X_not, X_min, X_max, X_len_79, X_len_35, XP_nilS, XP_eql, XP_neq, XP_lss, XP_leq, XP_gtr, XP_geq, XP_not, XP_min, XP_max, XP_len_79, XP_eql_nil_24, X_str_eql, X_str_neq, XP_str_eql, XP_str_neq, GS, gs_u, decide_true, decide_false, Option.isNone_some, Option.isSome_some, Option.isNone_none, Option.isSome_none, eq_self, Bool.not_true, Bool.not_false, Int.reduceEq, Int.reduceNe, Int.reduceLT, Int.reduceLE, Int.reduceGT, Int.reduceGE, XP_field_52_0]))
    refine XU_store info_50 sz_50 (by rw [e6]; rfl) b16 (by show 0 < 2; decide) (by show ¬ (0 ≤ _ ∧ _ < 0); omega) ?_
    have hk7 := setAt_keep w6 rb (#[vt1, .int .i64 (room : Int)].setIfInBounds 0 v6) 52 (0, 0)
    have hg7 : (setAt w6 rb (#[vt1, .int .i64 (room : Int)].setIfInBounds 0 v6) 52 (0, 0)).heap[rb]? = some (.cells #[v6, .int .i64 (room : Int)] 52 (0, 0)) := setAt_same (lt_of_blk b16)
    generalize setAt w6 rb (#[vt1, .int .i64 (room : Int)].setIfInBounds 0 v6) 52 (0, 0) = w7 at hk7 hg7 ⊢
    have s6 := hk6.size
    have s7 := hk7.size
    have s5 := hx5.size
    have kD : Keep (fun g => D g ∨ (w.heap.size ≤ g ∧ g < w1.heap.size)) w1 w7 := ((Keep.ext hx15).trans (hk6.mono (fun g _ h => b6 g h.symm))).trans (hk7.mono (fun _ _ h => by rw [h]; exact b5))
    have kD0 : Keep D w w7 := hk1.seq kD (fun g hg h => by rcases h with h | h; exact h; omega)
    have rows7 : ∀ (v : Value) (l : List Ex), OwnK 35 48 Ex.cs w5 0 v l → OwnK 35 48 Ex.cs w7 0 v l := by
      intro v l hv
      have hv6 := hv.keep hk6 (fun g hg he => own_neO hv (b2.ext hx15) (by decide) hg he.symm)
      exact hv6.keep hk7 (fun g hg he => own_neT hv6 b16 (by decide) (by rw [hg, he]))
    refine hK w7 kD0 ⟨⟨v6, tl1 ++ [((s, rows), v4)], hg7, ?_, ?_, ?_, ?_, ?_⟩, ?_⟩
    · exact ho6.keep hk7 (fun g hg he => own_neT ho6 b16 (by decide) (by rw [hg, he]))
    · rw [List.map_append, b3]
      rfl
    · intro t ht
      rcases List.mem_append.1 ht with ht | ht
      · obtain ⟨g1, g2⟩ := b4 t ht
        refine ⟨rows7 _ _ (g1.ext hx15), fun g hg => ?_⟩
        rcases g2 g hg with h | h
        · exact .inl h
        · exact .inr ⟨h.1, by omega⟩
      · rw [List.mem_singleton.1 ht]
        have ho40 : OwnK 35 48 Ex.cs w4 0 v4 rows := own_mono ho4 (Nat.zero_le _)
        refine ⟨rows7 _ _ (ho40.ext hx5), fun g hg => ?_⟩
        have := ho4.lt g hg
        exact .inr ⟨by omega, by omega⟩
    · rcases b5 with h | h
      · exact .inl h
      · exact .inr ⟨h.1, by omega⟩
    · intro g hg
      rcases hnb6 g hg with h | h
      · rcases b6 g h with h | h
        · exact .inl h
        · exact .inr ⟨h.1, by omega⟩
      · have := (ho6.lt g hg).2
        exact .inr ⟨by omega, by omega⟩
    · rintro g (hg | hg)
      · have := h.lt g hg
        have := kD0.size
        omega
      · exact hg.2
  · intro J1 hJ1
    have kd := Keep.drew (fun _ => False) w
    have hr0 := h.ext kd
    refine ⟨Ext, Ext.frame, ?_⟩
    have sd : (drewW w).heap.size = w.heap.size := rfl
    generalize drewW w = wd at kd hr0 sd ⊢
    have hg0 := Ext.get kd h1
    obtain ⟨a, c, ev⟩ := (OwnK.rowK (by decide) tbC_len h2).slice
    (repeat (simp only [XP_extract0, XP_extract1, XP_extract2, XP_extract3, X_extract0, X_extract1, X_extract2, X_extract3, X_nilS, X_eql_nil_24, X_neq_nil_24, X_eql_nil_103, X_neq_nil_103, X_eql, X_neq, X_lss, X_leq, X_gtr, X_geq, X_not, X_min, X_max, X_len_79, X_len_35, XP_nilS, XP_eql, XP_neq, XP_lss, XP_leq, XP_gtr, XP_geq, XP_not, XP_min, XP_max, XP_len_79, XP_eql_nil_24, X_str_eql, X_str_neq, XP_str_eql, XP_str_neq, GS, gs_u, decide_true, decide_false, Option.isNone_some, Option.isSome_some, Option.isNone_none, Option.isSome_none, eq_self, Bool.not_true, Bool.not_false, Int.reduceEq, Int.reduceNe, Int.reduceLT, Int.reduceLE, Int.reduceGT, Int.reduceGE, XP_field_52_0]))
    refine XR_ok Ext.frame (fun w' kk => run_loadAt (v := vt) agg_50 ((cell_blk (Ext.get kk hg0)).trans rfl)) ?_
    rw [ev, XP_len_50, ← ev, hlen]
    (repeat (simp only [XP_extract0, XP_extract1, XP_extract2, XP_extract3, X_extract0, X_extract1, X_extract2, X_extract3, X_nilS, X_eql_nil_24, X_neq_nil_24, X_eql_nil_103, X_neq_nil_103, X_eql, X_neq, X_lss, X_leq, X_gtr, X_geq, X_not, X_min, X_max, X_len_79, X_len_35, XP_nilS, XP_eql, XP_neq, XP_lss, XP_leq, XP_gtr, XP_geq, XP_not, XP_min, XP_max, XP_len_79, XP_eql_nil_24, X_str_eql, X_str_neq, XP_str_eql, XP_str_neq, GS, gs_u, decide_true, decide_false, Option.isNone_some, Option.isSome_some, Option.isNone_none, Option.isSome_none, eq_self, Bool.not_true, Bool.not_false, Int.reduceEq, Int.reduceNe, Int.reduceLT, Int.reduceLE, Int.reduceGT, Int.reduceGE, XP_field_52_1]))
    refine XR_ok Ext.frame (fun w' kk => run_loadAt (v := .int .i64 (room : Int)) agg_3 ((cell_blk (Ext.get kk hg0)).trans rfl)) ?_
    by_cases hfull : T.length = room
    · have c3 : decide ((T.length : Int) = (room : Int)) = true := decide_eq_true (by omega)
      rw [if_pos hfull] at hJ1
      (repeat (simp only [XP_extract0, XP_extract1, XP_extract2, XP_extract3, X_extract0, X_extract1, X_extract2, X_extract3, X_nilS, X_eql_nil_24, X_neq_nil_24, X_eql_nil_103, X_neq_nil_103, X_eql, X_neq, X_lss, X_leq, X_gtr, X_geq, X_not, X_min, X_max, X_len_79, X_len_35, XP_nilS, XP_eql, XP_neq, XP_lss, XP_leq, XP_gtr, XP_geq, XP_not, XP_min, XP_max, XP_len_79, XP_eql_nil_24, X_str_eql, X_str_neq, XP_str_eql, XP_str_neq, GS, gs_u, decide_true, decide_false, Option.isNone_some, Option.isSome_some, Option.isNone_none, Option.isSome_none, eq_self, Bool.not_true, Bool.not_false, Int.reduceEq, Int.reduceNe, Int.reduceLT, Int.reduceLE, Int.reduceGT, Int.reduceGE, c3, X_field_52_0]))
      refine X_of (run_loadAt (v := vt) agg_50 ((cell_blk hg0).trans rfl)) ?_
      rw [ev, X_len_50, ← ev, hlen]
      rw [X_conv_3_30, cwu (by omega)]
      refine X_of (run_rem _ _ _ _ (by omega) _) ?_
      have er : (d : Int).tmod (T.length : Int) = ((d % T.length : Nat) : Int) := by rw [Int.tmod_eq_emod_of_nonneg (by omega)]; rfl
      have hm : d % T.length < T.length := Nat.mod_lt _ (by omega)
      rw [er, X_conv_30_3, w64 (by omega) (by omega)]
      refine Cut_spec hr0 hn hm ?_
      intro w2 hk2 hr2
      have hd2 : T.take (d % T.length) ++ T.drop (d % T.length + 1) = dropT T ((shs T).getD (d % T.length) 0) := by
        have e : (shs T).getD (d % T.length) 0 = T[d % T.length].1 := by
          have hl : d % T.length < (shs T).length := by omega
          rw [List.getD_eq_getElem?_getD, List.getElem?_eq_getElem hl]
          simp
        rw [drop_at Prod.fst T _ hm hnd, e]
        rfl
      rw [hd2, sd] at hr2
      refine hJ1 _ _ ⟨_, rfl, (Keep.ext kd).trans hk2, hr2, ?_, rfl, rfl, rfl⟩
      exact Nat.le_trans (List.length_filter_le _ _) hn
    · have c3 : decide ((T.length : Int) = (room : Int)) = false := decide_eq_false (by omega)
      rw [if_neg hfull] at hJ1
      (repeat (simp only [XP_extract0, XP_extract1, XP_extract2, XP_extract3, X_extract0, X_extract1, X_extract2, X_extract3, X_nilS, X_eql_nil_24, X_neq_nil_24, X_eql_nil_103, X_neq_nil_103, X_eql, X_neq, X_lss, X_leq, X_gtr, X_geq, X_not, X_min, X_max, X_len_79, X_len_35, XP_nilS, XP_eql, XP_neq, XP_lss, XP_leq, XP_gtr, XP_geq, XP_not, XP_min, XP_max, XP_len_79, XP_eql_nil_24, X_str_eql, X_str_neq, XP_str_eql, XP_str_neq, GS, gs_u, decide_true, decide_false, Option.isNone_some, Option.isSome_some, Option.isNone_none, Option.isSome_none, eq_self, Bool.not_true, Bool.not_false, Int.reduceEq, Int.reduceNe, Int.reduceLT, Int.reduceLE, Int.reduceGT, Int.reduceGE, c3]))
      refine hJ1 _ _ ⟨T, rfl, Keep.ext kd, hr0.mono (fun g hg => .inl hg) (fun g hg => ?_), hn, rfl, rfl, rfl⟩
      rcases hg with hg | hg
      · have := h.lt g hg; omega
      · exact hg.2
end
end Go.Proofs.Ytlnkdphecinnnaa
end
section
/- The document's cache: Shelves, Get. -/
set_option linter.unusedVariables false
set_option linter.unusedSimpArgs false
set_option maxRecDepth 8000
namespace Go.Proofs.Ytlnkdphecinnnaa
open Go Go.Sh Go.RowKit
attribute [local irreducible] X XU XP XR CALL loopS resC closS
section
variable {w : World} {K : Value → World → Prop}
theorem RShelves_spec {D : Nat → Prop} {rb room : Nat} {T : Tbl} (h : RefAt w D rb room T) (hn : T.length ≤ 1000000) (hK : ∀ u w1, Ext w w1 → RowK 1 intC w1 u (shs T) → K u w1) : CALL Try.prog 27 #[ptr rb] w K := by
  obtain ⟨⟨vt, tl, h1, h2, h3, h4, h5, h6⟩, hlt⟩ := h
  have hlen : tl.length = T.length := by rw [← h3, List.length_map]
  have hrow := OwnK.rowK (by decide) tbC_len h2
  obtain ⟨a, c, ev⟩ := hrow.slice
  have hlT : (shs T).length = T.length := List.length_map ..
  apply call_ref14_Cache_Shelves
  unfold B_ref14_Cache_Shelves
  refine loopE (fun ρ wr => ∃ i : Nat, i ≤ T.length ∧ Ext w wr ∧ OwnK 1 3 intC wr w.heap.size (ρ 3) ((shs T).take i) ∧ ρ 4 = .int .i64 (i : Int) ∧ ρ 0 = ptr rb)
    (fun ρ wr => match ρ 4 with | .int _ s => (T.length - s).toNat | _ => 0)
    (fun ρ wr => Ext w wr ∧ OwnK 1 3 intC wr w.heap.size (ρ 3) (shs T)) ?_ ?_ ?_
  · exact ⟨0, by omega, Keep.refl _ _, ownK_nil _ _, rfl, rfl⟩
  · rintro J hJ ρ wr ⟨i, hi, hx, ho, r4, r0⟩
    rw [r4, r0]
    (repeat (simp only [XP_extract0, XP_extract1, XP_extract2, XP_extract3, X_extract0, X_extract1, X_extract2, X_extract3, X_nilS, X_eql_nil_24, X_neq_nil_24, X_eql_nil_103, X_neq_nil_103, X_eql, X_neq, X_lss, X_leq, X_gtr, X_geq, X_not, X_min, X_max, X_len_79, X_len_35, XP_nilS, XP_eql, XP_neq, XP_lss, XP_leq, XP_gtr, XP_geq, XP_not, XP_min, XP_max, XP_len_79, XP_eql_nil_24, X_str_eql, X_str_neq, XP_str_eql, XP_str_neq, GS, gs_u, decide_true, decide_false, Option.isNone_some, Option.isSome_some, Option.isNone_none, Option.isSome_none, eq_self, Bool.not_true, Bool.not_false, Int.reduceEq, Int.reduceNe, Int.reduceLT, Int.reduceLE, Int.reduceGT, Int.reduceGE, X_field_52_0]))
    refine X_of (run_loadAt (v := vt) agg_50 ((cell_blk (Ext.get hx h1)).trans rfl)) ?_
    rw [ev, X_len_50, X_lss, condS_bool, ← ev, hlen]
    by_cases hie : i = T.length
    · rw [if_neg (by simp; omega)]
      rw [List.take_of_length_le (by omega)] at ho
      exact hJ _ _ ⟨hx, ho⟩
    rw [if_pos (by simp; omega)]
    have hlt2 : i < T.length := by omega
    obtain ⟨g, o, hix, hc, _⟩ := tb_at (hrow.ext hx) (i := i) (by omega)
    have he : tl[i].1.1 = (shs T)[i]'(by omega) := by
      subst h3
      simp
    rw [he] at hc
    have hts := List.take_succ_eq_append_getElem (l := shs T) (i := i) (by omega)
    generalize (shs T)[i]'(by omega) = s at hc hts
    (repeat (simp only [XP_extract0, XP_extract1, XP_extract2, XP_extract3, X_extract0, X_extract1, X_extract2, X_extract3, X_nilS, X_eql_nil_24, X_neq_nil_24, X_eql_nil_103, X_neq_nil_103, X_eql, X_neq, X_lss, X_leq, X_gtr, X_geq, X_not, X_min, X_max, X_len_79, X_len_35, XP_nilS, XP_eql, XP_neq, XP_lss, XP_leq, XP_gtr, XP_geq, XP_not, XP_min, XP_max, XP_len_79, XP_eql_nil_24, X_str_eql, X_str_neq, XP_str_eql, XP_str_neq, GS, gs_u, decide_true, decide_false, Option.isNone_some, Option.isSome_some, Option.isNone_none, Option.isSome_none, eq_self, Bool.not_true, Bool.not_false, Int.reduceEq, Int.reduceNe, Int.reduceLT, Int.reduceLE, Int.reduceGT, Int.reduceGE, X_field_52_0]))
    refine X_of (run_loadAt (v := vt) agg_50 ((cell_blk (Ext.get hx h1)).trans rfl)) ?_
    refine X_of (hix _) ?_
    (repeat (simp only [XP_extract0, XP_extract1, XP_extract2, XP_extract3, X_extract0, X_extract1, X_extract2, X_extract3, X_nilS, X_eql_nil_24, X_neq_nil_24, X_eql_nil_103, X_neq_nil_103, X_eql, X_neq, X_lss, X_leq, X_gtr, X_geq, X_not, X_min, X_max, X_len_79, X_len_35, XP_nilS, XP_eql, XP_neq, XP_lss, XP_leq, XP_gtr, XP_geq, XP_not, XP_min, XP_max, XP_len_79, XP_eql_nil_24, X_str_eql, X_str_neq, XP_str_eql, XP_str_neq, GS, gs_u, decide_true, decide_false, Option.isNone_some, Option.isSome_some, Option.isNone_none, Option.isSome_none, eq_self, Bool.not_true, Bool.not_false, Int.reduceEq, Int.reduceNe, Int.reduceLT, Int.reduceLE, Int.reduceGT, Int.reduceGE, X_field_96_0]))
    refine X_of (run_loadAt agg_3 hc) ?_
    refine X_buildSlice1 Try.underlying35 el_3 rfl ?_
    have hx4 := newB_ext wr #[Value.int .i64 s] 3
    have hrow4 : RowK 1 intC (newB wr #[Value.int .i64 s] 3) (.slice (some ⟨wr.heap.size, 0, none⟩) 1 1) [s] := RowK.ofK (f := intC) (by decide) intC_len (by rw [newB_get]; rfl) rfl (by decide)
    generalize newB wr #[Value.int .i64 s] 3 = w4 at hx4 hrow4 ⊢
    have hx04 := hx.trans hx4
    refine X_appendK Try.underlying35 el_3 (by decide) intC_len (fun x hx q hq => by rw [List.mem_singleton.1 hq]; rfl) (ho.ext hx4) hrow4 (by simp; omega) (by decide) hx04.size ?_
    intro v5 w5 ho5 hk5
    rw [← hts] at ho5
    rw [X_add]
    show _ ∧ _
    refine ⟨⟨i + 1, by omega, Ext.seq hx04 hk5 (fun g hg => (ho.lt g hg.symm).1), ho5, next64 (n := 1000000) (by decide) (by omega), r0⟩, ?_⟩
    show (_ - IntKind.i64.wrap _).toNat < _
    rw [w64 (by omega) (by omega)]
    first | omega | (show _ < (_ : Int).toNat; omega)
  · rintro ρ wr ⟨hx, ho⟩
    exact hK _ _ hx (OwnK.rowK (by decide) intC_len ho)
theorem findR_none {rows : List Ex} {k : Ky} (h : ∀ r ∈ rows, r.k ≠ k) : findR rows k = none := by
  unfold findR
  rw [List.find?_eq_none.2 (fun r hr => by simpa using h r hr)]
  rfl
theorem findR_at {rows : List Ex} {k : Ky} {j : Nat} (hj : j < rows.length) (hk : rows[j].k = k) (hno : ∀ i (h : i < rows.length), i < j → rows[i].k ≠ k) : findR rows k = some (rows[j].off, rows[j].len) := by
  unfold findR
  have : rows.find? (fun r => decide (r.k = k)) = some rows[j] := by
    rw [List.find?_eq_some_iff_getElem]
    exact ⟨by simpa using hk, j, hj, rfl, fun i hi => by simpa using hno i (by omega) hi⟩
  rw [this]
  rfl
set_option maxHeartbeats 1000000 in
theorem RGetC_spec {D : Nat → Prop} {rb room : Nat} {T : Tbl} {k : Ky} (h : RefAt w D rb room T) (hn : T.length ≤ 1000000) (hK : ∀ w1, Ext w w1 → K (.tuple #[plV ((findT T k).getD (0, 0)), .bool (findT T k).isSome]) w1) : CALL Try.prog 26 #[ptr rb, k.v] w K := by
  obtain ⟨⟨vt, tl, h1, h2, h3, h4, h5, h6⟩, hlt⟩ := h
  have hlen : tl.length = T.length := by rw [← h3, List.length_map]
  have hrow := OwnK.rowK (by decide) tbC_len h2
  obtain ⟨a, c, ev⟩ := hrow.slice
  apply call_ref14_Cache_Get
  unfold B_ref14_Cache_Get
  refine X_box ?_
  have hx1 := newB_ext w k.v.cells 44
  have hg1 : (newB w k.v.cells 44).heap[w.heap.size]? = some (.cells k.cs.toArray 44 (0, 0)) := newB_get w k.v.cells 44
  generalize newB w k.v.cells 44 = w1 at hx1 hg1 ⊢
  refine X_alloc zero_46 ?_
  have hx2 := newB_ext w1 (Value.agg #[(.int .i64 0), (.int .i64 0)]).cells 46
  have hg2 : (newB w1 (Value.agg #[(.int .i64 0), (.int .i64 0)]).cells 46).heap[w1.heap.size]? = some (.cells [Value.int .i64 0, Value.int .i64 0].toArray 46 (0, 0)) := newB_get _ _ _
  generalize newB w1 (Value.agg #[(.int .i64 0), (.int .i64 0)]).cells 46 = w2 at hx2 hg2 ⊢
  have hx02 := hx1.trans hx2
  have hg12 := hx2.get hg1
  have hlt1 := lt_of_blk hg1
  have hs1 := hx1.size
  generalize hkb : w.heap.size = kb at hg12 hlt1
  generalize hpb : w1.heap.size = pb at hg2 hlt1
  refine loopGR 0 (fun ρ wr => ∃ i : Nat, i ≤ T.length ∧ Ext w2 wr ∧ findT (T.take i) k = none ∧ ρ 6 = .int .i64 (i : Int) ∧ ρ 0 = ptr rb ∧ ρ 3 = ptr kb ∧ ρ 4 = ptr pb)
    (fun ρ wr => match ρ 6 with | .int _ s => (T.length - s).toNat | _ => 0)
    (fun ρ wr => Ext w2 wr ∧ findT T k = none ∧ ρ 4 = ptr pb)
    (fun ρ wr => ∃ p, findT T k = some p ∧ Ext w wr ∧ wr.heap[pb]? = some (.cells [Value.int .i64 p.1, Value.int .i64 p.2].toArray 46 (0, 0)) ∧ ρ 4 = ptr pb ∧ ρ 5 = .bool true) ?_ ?_ ?_ ?_
  · refine ⟨0, by omega, Keep.refl _ _, by simp [findT], rfl, rfl, ?_, ?_⟩
    · rw [← hkb]; rfl
    · rw [← hpb]; rfl
  · rintro J hJ hJR ρ wr ⟨i, hi', hx, hno, r6, r0, r3, r4⟩
    rw [r0, r6]
    have hx0 := hx02.trans hx
    (repeat (simp only [XP_extract0, XP_extract1, XP_extract2, XP_extract3, X_extract0, X_extract1, X_extract2, X_extract3, X_nilS, X_eql_nil_24, X_neq_nil_24, X_eql_nil_103, X_neq_nil_103, X_eql, X_neq, X_lss, X_leq, X_gtr, X_geq, X_not, X_min, X_max, X_len_79, X_len_35, XP_nilS, XP_eql, XP_neq, XP_lss, XP_leq, XP_gtr, XP_geq, XP_not, XP_min, XP_max, XP_len_79, XP_eql_nil_24, X_str_eql, X_str_neq, XP_str_eql, XP_str_neq, GS, gs_u, decide_true, decide_false, Option.isNone_some, Option.isSome_some, Option.isNone_none, Option.isSome_none, eq_self, Bool.not_true, Bool.not_false, Int.reduceEq, Int.reduceNe, Int.reduceLT, Int.reduceLE, Int.reduceGT, Int.reduceGE, X_field_52_0]))
    refine X_of (run_loadAt (v := vt) agg_50 ((cell_blk (Ext.get hx0 h1)).trans rfl)) ?_
    rw [ev, X_len_50, X_lss, condS_bool, ← ev, hlen]
    by_cases hie : i = T.length
    · rw [if_neg (by simp; omega)]
      rw [hie, List.take_of_length_le (Nat.le_refl _)] at hno
      exact hJ _ _ ⟨hx, hno, r4⟩
    rw [if_pos (by simp; omega)]
    have hltT : i < T.length := by omega
    have hlt2 : i < tl.length := by omega
    have he : tl[i].1 = T[i] := by
      subst h3
      simp
    obtain ⟨ho4, _⟩ := h4 tl[i] (List.getElem_mem hlt2)
    have hrw := OwnK.rowK (by decide) Ex.cs_len ho4
    rw [he] at hrw
    obtain ⟨g, o, hix, _, hcv⟩ := tb_at hrow hlt2
    generalize tl[i].2 = vr at hrw hcv
    have hsucc : findT (T.take (i + 1)) k = findR T[i].2 k := by
      rw [List.take_succ_eq_append_getElem hltT]
      unfold findT at hno ⊢
      rw [List.findSome?_append, hno]
      simp
    have hpre : ∀ p, findR T[i].2 k = some p → findT T k = some p := by
      intro p hp
      have e : T = T.take i ++ T[i] :: T.drop (i + 1) := by rw [← List.drop_eq_getElem_cons hltT, List.take_append_drop]
      conv => lhs; rw [e]
      unfold findT at hno ⊢
      rw [List.findSome?_append, hno, Option.none_or, List.findSome?_cons, hp]
    generalize T[i].2 = rows at hrw hsucc hpre
    have hrl : rows.length ≤ 9223372036854775807 := by
      obtain ⟨_, c, _, g1, g2, _⟩ := hrw
      omega
    obtain ⟨ar, cr, er⟩ := hrw.slice
    refine loopGR 2 (fun ρ2 w3 => ∃ j : Nat, j ≤ rows.length ∧ Ext w2 w3 ∧ (∀ m (h : m < rows.length), m < j → rows[m].k ≠ k) ∧ ρ2 7 = .int .i64 (j : Int) ∧ ρ2 6 = .int .i64 (i : Int) ∧ ρ2 0 = ptr rb ∧ ρ2 3 = ptr kb ∧ ρ2 4 = ptr pb)
      (fun ρ wr => match ρ 7 with | .int _ s => (rows.length - s).toNat | _ => 0)
      (fun ρ2 w3 => Ext w2 w3 ∧ findR rows k = none ∧ ρ2 6 = .int .i64 (i : Int) ∧ ρ2 0 = ptr rb ∧ ρ2 3 = ptr kb ∧ ρ2 4 = ptr pb)
      (fun ρ wr => ∃ p, findT T k = some p ∧ Ext w wr ∧ wr.heap[pb]? = some (.cells [Value.int .i64 p.1, Value.int .i64 p.2].toArray 46 (0, 0)) ∧ ρ 4 = ptr pb ∧ ρ 5 = .bool true) ?_ ?_ ?_ ?_
    · exact ⟨0, by omega, hx, fun m h h' => by omega, rfl, r6, r0, r3, r4⟩
    · rintro J2 hJ2 hJR2 ρ2 w3 ⟨j, hj, hx3, hne, q7, q6, q0, q3, q4⟩
      rw [q0, q6, q7]
      have hx03 := hx02.trans hx3
      (repeat (simp only [XP_extract0, XP_extract1, XP_extract2, XP_extract3, X_extract0, X_extract1, X_extract2, X_extract3, X_nilS, X_eql_nil_24, X_neq_nil_24, X_eql_nil_103, X_neq_nil_103, X_eql, X_neq, X_lss, X_leq, X_gtr, X_geq, X_not, X_min, X_max, X_len_79, X_len_35, XP_nilS, XP_eql, XP_neq, XP_lss, XP_leq, XP_gtr, XP_geq, XP_not, XP_min, XP_max, XP_len_79, XP_eql_nil_24, X_str_eql, X_str_neq, XP_str_eql, XP_str_neq, GS, gs_u, decide_true, decide_false, Option.isNone_some, Option.isSome_some, Option.isNone_none, Option.isSome_none, eq_self, Bool.not_true, Bool.not_false, Int.reduceEq, Int.reduceNe, Int.reduceLT, Int.reduceLE, Int.reduceGT, Int.reduceGE, X_field_52_0]))
      refine X_of (run_loadAt (v := vt) agg_50 ((cell_blk (Ext.get hx03 h1)).trans rfl)) ?_
      refine X_of (hix _) ?_
      rw [X_field_96_1]
      refine X_of (run_loadAt agg_29 (Keep.cell hx03 (fun h => h) hcv)) ?_
      rw [er, X_len_29, X_lss, condS_bool, ← er]
      by_cases hje : j = rows.length
      · rw [if_neg (by simp; omega)]
        refine hJ2 _ _ ⟨hx3, findR_none (fun r hr => ?_), q6, q0, q3, q4⟩
        obtain ⟨m, hm, rfl⟩ := List.mem_iff_getElem.1 hr
        exact hne m hm (by omega)
      rw [if_pos (by simp; omega)]
      have hltj : j < rows.length := by omega
      have hxd := hx3.trans (Keep.drew (fun _ => False) w3)
      have hx0d := hx02.trans hxd
      refine ⟨Ext, Ext.frame, ?_⟩
      generalize drewW w3 = wd at hxd hx0d ⊢
      obtain ⟨g2, o2, hix2, hc2⟩ := row_at (hrw.ext hx0d) hltj
      (repeat (simp only [XP_extract0, XP_extract1, XP_extract2, XP_extract3, X_extract0, X_extract1, X_extract2, X_extract3, X_nilS, X_eql_nil_24, X_neq_nil_24, X_eql_nil_103, X_neq_nil_103, X_eql, X_neq, X_lss, X_leq, X_gtr, X_geq, X_not, X_min, X_max, X_len_79, X_len_35, XP_nilS, XP_eql, XP_neq, XP_lss, XP_leq, XP_gtr, XP_geq, XP_not, XP_min, XP_max, XP_len_79, XP_eql_nil_24, X_str_eql, X_str_neq, XP_str_eql, XP_str_neq, GS, gs_u, decide_true, decide_false, Option.isNone_some, Option.isSome_some, Option.isNone_none, Option.isSome_none, eq_self, Bool.not_true, Bool.not_false, Int.reduceEq, Int.reduceNe, Int.reduceLT, Int.reduceLE, Int.reduceGT, Int.reduceGE, XP_field_52_0]))
      refine XR_ok Ext.frame (fun w' kk => run_loadAt (v := vt) agg_50 ((cell_blk (Ext.get (hx0d.trans kk) h1)).trans rfl)) ?_
      refine XP_of hix ?_
      rw [XP_field_96_1]
      refine XR_ok Ext.frame (fun w' kk => run_loadAt agg_29 (Keep.cell (hx0d.trans kk) (fun h => h) hcv)) ?_
      refine XP_of hix2 ?_
      rw [XP_field_48_0]
      refine XR_ok Ext.frame (fun w' kk => load_cells Try.underlying44 agg_44 info_44 (l := rows[j].k.cs) (by rw [sz_44, Ky.cs_len]) (fun m u hm => by
        rw [add_plain]
        exact Keep.cell kk (fun h => h) (hc2 m u (rows[j].keyAt hm)))) ?_
      rw [q3]
      refine XR_ok Ext.frame (fun w' kk => load_cells Try.underlying44 agg_44 info_44 (l := k.cs) (by rw [sz_44, Ky.cs_len]) (fun j u hj => by rw [add_plain, Nat.zero_add, cell_blk (Ext.get (hxd.trans kk) hg12)]; simpa using hj)) ?_
      refine XP_of (fun w' => run_key_eql rows[j].k k _ _ w') ?_
      rw [condS_bool]
      by_cases hke : rows[j].k = k
      · rw [if_pos (by simpa using hke)]
        (repeat (simp only [XP_extract0, XP_extract1, XP_extract2, XP_extract3, X_extract0, X_extract1, X_extract2, X_extract3, X_nilS, X_eql_nil_24, X_neq_nil_24, X_eql_nil_103, X_neq_nil_103, X_eql, X_neq, X_lss, X_leq, X_gtr, X_geq, X_not, X_min, X_max, X_len_79, X_len_35, XP_nilS, XP_eql, XP_neq, XP_lss, XP_leq, XP_gtr, XP_geq, XP_not, XP_min, XP_max, XP_len_79, XP_eql_nil_24, X_str_eql, X_str_neq, XP_str_eql, XP_str_neq, GS, gs_u, decide_true, decide_false, Option.isNone_some, Option.isSome_some, Option.isNone_none, Option.isSome_none, eq_self, Bool.not_true, Bool.not_false, Int.reduceEq, Int.reduceNe, Int.reduceLT, Int.reduceLE, Int.reduceGT, Int.reduceGE, X_field_52_0]))
        refine X_of (run_loadAt (v := vt) agg_50 ((cell_blk (Ext.get hx0d h1)).trans rfl)) ?_
        refine X_of (hix _) ?_
        rw [X_field_96_1]
        refine X_of (run_loadAt agg_29 (Keep.cell hx0d (fun h => h) hcv)) ?_
        refine X_of (hix2 _) ?_
        rw [X_field_48_1]
        have hfp := findR_at hltj hke hne
        have hpat : ∀ m u, [Value.int .i64 rows[j].off, Value.int .i64 rows[j].len][m]? = some u → wd.cell? ((⟨g2, o2 + 33, none⟩ : Addr).add m) = some u := fun m u hm => by
          rw [add_plain, Nat.add_assoc]
          exact hc2 _ u (rows[j].plAt hm)
        generalize rows[j] = r at hpat hfp
        refine X_of (load_cells Try.underlying46 agg_46 info_46 (l := [Value.int .i64 r.off, Value.int .i64 r.len]) (by rw [sz_46]; rfl) hpat) ?_
        rw [q4]
        have hgd := Ext.get hxd hg2
        refine XU_storeAgg (l := [Value.int .i64 r.off, Value.int .i64 r.len]) info_46 hgd (by rw [sz_46]; rfl) (by rw [sz_46]; rfl) (by intro u hu; simp only [List.mem_cons, List.not_mem_nil, or_false] at hu; rcases hu with rfl | rfl <;> rfl) ?_
        refine hJR2 _ _ ⟨(r.off, r.len), hpre _ hfp, Ext.seq hx0d (setAt_keep _ _ _ _ _) (fun g hg => by omega), setAt_same (lt_of_blk hgd), q4, rfl⟩
      · rw [if_neg (by simpa using hke), X_add]
        show _ ∧ _
        refine ⟨⟨j + 1, by omega, hxd, fun m h h' => ?_, next64 (n := 9223372036854775806) (by decide) (by omega), q6, q0, q3, q4⟩, ?_⟩
        · by_cases hm : m = j
          · subst hm; exact hke
          · exact hne m h (by omega)
        · show (_ - IntKind.i64.wrap _).toNat < _
          rw [w64 (by omega) (by omega)]
          first | omega | (show _ < (_ : Int).toNat; omega)
    · rintro ρ2 w3 ⟨hx3, hf, q6, q0, q3, q4⟩
      show X _ (binOp .add 3 (ρ2 6) _) _ _
      rw [q6, X_add]
      show _ ∧ _
      refine ⟨⟨i + 1, by omega, hx3, by rw [hsucc, hf], next64 (n := 1000000) (by decide) (by omega), q0, q3, q4⟩, ?_⟩
      show (_ - IntKind.i64.wrap _).toNat < _
      rw [w64 (by omega) (by omega)]
      first | omega | (show _ < (_ : Int).toNat; omega)
    · intro ρ2 w3 h
      exact hJR _ _ h
  · rintro ρ wr ⟨hx, hno, r4⟩
    show X _ (Instr.build 46 #[]) wr _
    refine X_of (run_build46 _) ?_
    rw [r4]
    have hg26 := Ext.get hx hg2
    refine XU_storeAgg (l := [.int .i64 0, .int .i64 0]) info_46 hg26 (by rw [sz_46]; rfl) (by rw [sz_46]; rfl) (by intro u hu; simp at hu; rw [hu]; rfl) ?_
    refine resC_agg Try.underlying46 agg_46 info_46 (setAt_same (lt_of_blk hg26)) (by rw [sz_46]; rfl) ?_
    have := hK _ (Ext.seq (hx02.trans hx) (setAt_keep wr pb [Value.int .i64 0, Value.int .i64 0].toArray 46 (0, 0)) (fun g hg => by omega))
    rw [hno] at this
    exact this
  · rintro ρ wr ⟨p, hp, hx, hg, r4, r5⟩
    show resC _ 46 (ρ 4) wr fun v => K (.tuple #[v, ρ 5]) wr
    rw [r4, r5]
    refine resC_agg Try.underlying46 agg_46 info_46 hg (by rw [sz_46]; rfl) ?_
    have := hK _ hx
    rw [hp] at this
    exact this
end
end Go.Proofs.Ytlnkdphecinnnaa
end
section
/- Three facts of the whole program that the kernel cannot reckon head-on: what the first words of the order say. -/
set_option linter.constructorNameAsVariable false
namespace Go.Proofs.Ytlnkdphecinnnaa
open Go Go.Sh Go.RowKit

theorem words_cons (c : Char) (hc : c ≠ Char.ofNat 32) (r : List Char) : wordsSigns (c :: r) = match wordsSigns r with | w :: ws => (c :: w) :: ws | [] => [[c]] := by
  rw [wordsSigns.eq_def]
  split
  · rename_i h; cases h
  · rename_i h; injection h with h1 h2; exact absurd h1 hc
  · rename_i c' r' _ h
    injection h with h1 h2
    subst h1; subst h2
    rfl
theorem words_append : ∀ (u r : List Char), (∀ c ∈ u, c ≠ Char.ofNat 32) → wordsSigns (u ++ Char.ofNat 32 :: r) = u :: wordsSigns r
  | [], r, _ => by rw [List.nil_append, wordsSigns.eq_def]; rfl
  | c :: u, r, h => by
    rw [List.cons_append, words_cons c (h c (by simp)), words_append u r (fun x hx => h x (by simp [hx]))]

theorem words_are : ∃ ws, wordsSigns Try.prog.initOrder.toList = "harness".toList :: "e8a15ecc23c33a030de7402db7772e6b478cba0a1dea1bb50f6a6670b6ebb8b4".toList :: "cut".toList :: ws := by
  have h : Try.prog.initOrder = "harness" ++ " " ++ "e8a15ecc23c33a030de7402db7772e6b478cba0a1dea1bb50f6a6670b6ebb8b4" ++ " " ++ "cut" ++ " " ++ "at cellarage/cellaragelaw14.CacheRoom cellarage/cellaragelaw14.CacheDrawn cellarage/cellaragelaw14.CachePlays cellarage/cellaragelaw14.CacheTells cellarage/cellaragelaw14.CacheNil cellarage/cellaragelaw16.ExtentSlices cellarage/cellaragelaw16.ExtentJoins cellarage/cellaragelaw16.ExtentCuts cellarage/cellaragelaw16.ExtentTwice cellarage/cellaragelaw16.ExtentRights cellarage/cellaragelaw16.ExtentBytes cellarage/cellaragelaw16.ExtentBack" := by kernel_rfl
  rw [h]
  simp only [String.toList_append, List.append_assoc]
  refine ⟨wordsSigns ("at cellarage/cellaragelaw14.CacheRoom cellarage/cellaragelaw14.CacheDrawn cellarage/cellaragelaw14.CachePlays cellarage/cellaragelaw14.CacheTells cellarage/cellaragelaw14.CacheNil cellarage/cellaragelaw16.ExtentSlices cellarage/cellaragelaw16.ExtentJoins cellarage/cellaragelaw16.ExtentCuts cellarage/cellaragelaw16.ExtentTwice cellarage/cellaragelaw16.ExtentRights cellarage/cellaragelaw16.ExtentBytes cellarage/cellaragelaw16.ExtentBack".toList), ?_⟩
  have e : " ".toList = [Char.ofNat 32] := by kernel_rfl
  rw [e]
  simp only [List.singleton_append]
  rw [words_append _ _ (by decide), words_append _ _ (by decide), words_append _ _ (by decide)]


theorem head_is : ∃ ws, behindMainWord (wordsSigns Try.prog.initOrder.toList) = "cut".toList :: ws := by
  obtain ⟨ws, h⟩ := words_are
  rw [h]
  exact ⟨ws, by kernel_rfl⟩
theorem laysLater_is : Try.prog.laysLater = false := by kernel_rfl
theorem bearsReflect_is : Try.prog.bearsReflect = false := by kernel_rfl
theorem doorRows_is : Try.prog.doorRows = [] := by kernel_rfl
section
variable {P : Program} {ws : List (List Char)}
theorem make_of (h : behindMainWord (wordsSigns P.initOrder.toList) = "cut".toList :: ws) : P.make = some .cut := by
  unfold Program.make
  rw [h]
  kernel_rfl
theorem headLifts_of (h : behindMainWord (wordsSigns P.initOrder.toList) = "cut".toList :: ws) : P.headLifts = [] := by
  unfold Program.headLifts
  rw [h]
  kernel_rfl
theorem liftsFinal_of (h : behindMainWord (wordsSigns P.initOrder.toList) = "cut".toList :: ws) : P.liftsFinal = false := by
  unfold Program.liftsFinal
  rw [headLifts_of h, h]
  kernel_rfl
theorem mayEnter_of (h : behindMainWord (wordsSigns P.initOrder.toList) = "cut".toList :: ws) (h1 : P.laysLater = false) (h2 : P.bearsReflect = false) (h3 : P.doorRows = []) : P.mayEnter = true := by
  unfold Program.mayEnter Program.doorFits
  rw [h, h1, h2, h3]
  kernel_rfl
end
theorem mayEnter_is : Try.prog.mayEnter = true := by
  obtain ⟨ws, h⟩ := head_is
  exact mayEnter_of h laysLater_is bearsReflect_is doorRows_is
theorem liftsFinal_is : Try.prog.liftsFinal = false := by
  obtain ⟨ws, h⟩ := head_is
  exact liftsFinal_of h
theorem make_is : Try.prog.make = some .cut := by
  obtain ⟨ws, h⟩ := head_is
  exact make_of h
end Go.Proofs.Ytlnkdphecinnnaa
end
