/- cellaragelaw14.CacheTells: what is told of a chunk is one of the rows that were loaded with a shelf that is there. -/
import Derived.Test.YtlnkdphecinnnaaQPB7
set_option linter.unusedVariables false
set_option linter.unusedSimpArgs false
set_option linter.constructorNameAsVariable false
namespace Go.Proofs.Ytlnkdphecinnnaa
open Go Go.Sh Go.RowKit Go.ChangeShapes Go.WideShapes Go.ChangeAt
open Go.Proofs.Ytlnkdphecinnnaa
section
attribute [local irreducible] X XU XP XR CALL loopS resC closS Value.okWide
abbrev Slot (i : Nat) : Prop := i = 5 ∨ i = 7 ∨ i = 8 ∨ i = 10 ∨ i = 37 ∨ i = 38 ∨ i = 39
theorem anyD_snoc (k : Ky) (l : List Ex) (r : Ex) : anyD k (l ++ [r]) = (anyD k l || decide (r.k = k)) := by unfold anyD; rw [List.any_append]; simp
theorem toldD_snoc (k : Ky) (p : Pl) (l : List Ex) (r : Ex) : toldD k p (l ++ [r]) = (toldD k p l || (decide (r.k = k) && decide ((r.off, r.len) = p))) := by unfold toldD; rw [List.any_append]; simp
theorem flat_succ (T : Tbl) (i : Nat) (h : i < T.length) : (T.take (i + 1)).flatMap Prod.snd = (T.take i).flatMap Prod.snd ++ T[i].2 := by rw [List.take_succ_eq_append_getElem h, List.flatMap_append]; simp
set_option maxRecDepth 8000 in
set_option maxHeartbeats 4000000 in
theorem tells_rows {ρ4 : Env} {lb kb pb : Nat} {L : List (Int × Value)} {k : Ky} {p : Pl} {s : Int} {v : Value} {rows dn : List Ex} {w : World} {K : Value → World → Prop} {Q4 : Exit → Env → World → Prop} {ad : Addr} {v39 : Value} (W : World) (hxW : Ext W w)
    (hm : MapAt w lb (L.map lasV)) (hLn : (L.map Prod.fst).Nodup) (hLi : ∀ s ∈ L.map Prod.fst, I64 s) (hsv : (s, v) ∈ L) (hrow : RowK 35 Ex.cs W v rows) (hsm : rows.length ≤ 50) (hs : w.cell? ad = some (.int .i64 s))
    (hkb : w.heap[kb]? = some (.cells k.cs.toArray 44 (0, 0))) (hpb : w.heap[pb]? = some (.cells [Value.int .i64 p.1, Value.int .i64 p.2].toArray 46 (0, 0)))
    (r10 : ρ4 10 = .map (some lb)) (r5 : ρ4 5 = ptr kb) (r13 : ρ4 13 = ptr pb) (r15 : ρ4 15 = .bool (toldD k p dn)) (r16 : ρ4 16 = .bool (anyD k dn))
    (hgo : ∀ ρ w1, Ext w w1 → (∀ i, (Slot i ∨ i = 13 ∨ i = 14 ∨ i = 74 ∨ i = 75 ∨ i = 76) → ρ i = ρ4 i) → ρ 15 = .bool (toldD k p (dn ++ rows)) → ρ 16 = .bool (anyD k (dn ++ rows)) → X Try.prog (binOp .add 3 (ρ 76) (.int .i64 1)) w1 fun v w2 => Q4 .normal (upds ρ [(76, v), (109, v)]) w2) :
    B_law14_CacheTells_c1 (.pointer (some ad)) w ρ4 K Q4 v39 := by
  unfold B_law14_CacheTells_c1
  refine X_of (run_loadAt agg_3 hs) ?_
  rw [r10]
  refine X_of (run_last hm hLn hLi hsv) ?_
  obtain ⟨av, cv, ev⟩ := hrow.slice
  show X _ (Builtin.len_ #[29] 3 #[v]) _ _
  rw [ev, X_len_29, ← ev]
  refine loopG 4 (fun ρ wr => ∃ j : Nat, j ≤ rows.length ∧ Ext w wr ∧ ρ 84 = .int .i64 (j : Int) ∧ ρ 83 = .int .i64 (rows.length : Int) ∧ ρ 82 = v ∧ ρ 15 = .bool (toldD k p (dn ++ rows.take j)) ∧ ρ 16 = .bool (anyD k (dn ++ rows.take j)) ∧ (∀ i, (Slot i ∨ i = 13 ∨ i = 14 ∨ i = 74 ∨ i = 75 ∨ i = 76) → ρ i = ρ4 i))
    (fun ρ wr => match ρ 84 with | .int _ s => (rows.length - s).toNat | _ => 0)
    (fun ρ wr => Ext w wr ∧ ρ 15 = .bool (toldD k p (dn ++ rows)) ∧ ρ 16 = .bool (anyD k (dn ++ rows)) ∧ (∀ i, (Slot i ∨ i = 13 ∨ i = 14 ∨ i = 74 ∨ i = 75 ∨ i = 76) → ρ i = ρ4 i)) ?_ ?_ ?_
  · refine ⟨0, by omega, Keep.refl _ _, rfl, rfl, rfl, ?_, ?_, ?_⟩
    · show ρ4 15 = _
      rw [r15]; simp
    · show ρ4 16 = _
      rw [r16]; simp
    · intro j hj
      rcases hj with (rfl | rfl | rfl | rfl | rfl | rfl | rfl) | rfl | rfl | rfl | rfl | rfl <;> rfl
  · rintro J hJ ρ wr ⟨j, hj, hx, q84, q83, q82, q15, q16, qs⟩
    have q5 : ρ 5 = ptr kb := (qs 5 (.inl (.inl rfl))).trans r5
    have q13 : ρ 13 = ptr pb := (qs 13 (.inr (.inl rfl))).trans r13
    have same : ∀ l : List (Nat × Value), (∀ i, (Slot i ∨ i = 13 ∨ i = 14 ∨ i = 74 ∨ i = 75 ∨ i = 76) → upds ρ l i = ρ i) → ∀ i, (Slot i ∨ i = 13 ∨ i = 14 ∨ i = 74 ∨ i = 75 ∨ i = 76) → upds ρ l i = ρ4 i := fun l h i hi => (h i hi).trans (qs i hi)
    rw [q84, q83, q82, X_lss, condS_bool]
    by_cases hje : j = rows.length
    · rw [if_neg (by simp; omega)]
      rw [hje, List.take_of_length_le (Nat.le_refl _)] at q15 q16
      exact hJ _ _ ⟨hx, q15, q16, same _ (by intro j hj; rcases hj with (rfl | rfl | rfl | rfl | rfl | rfl | rfl) | rfl | rfl | rfl | rfl | rfl <;> rfl)⟩
    rw [if_pos (by simp; omega)]
    have hlt : j < rows.length := by omega
    have hts := List.take_succ_eq_append_getElem hlt
    refine X_takeRow (hrow.ext (hxW.trans hx)) hlt ?_
    intro u1 u2 q w4 hx4 hq hqb
    generalize rows[j] = e at hqb hts
    have hx04 := hx.trans hx4
    have hkb4 := Ext.get hx04 hkb
    have hpb4 := Ext.get hx04 hpb
    have lkb : (Instr.loadAt 44 (ptr kb)).run Try.prog w4 = .ok k.v w4 := load_cells Try.underlying44 agg_44 info_44 (l := k.cs) (by rw [sz_44, Ky.cs_len]) (fun j u hj => by rw [add_plain, Nat.zero_add, cell_blk hkb4]; simpa using hj)
    have lpb : (Instr.loadAt 46 (ptr pb)).run Try.prog w4 = .ok (plV p) w4 := load_cells Try.underlying46 agg_46 info_46 (l := [Value.int .i64 p.1, Value.int .i64 p.2]) (by rw [sz_46]; rfl) (fun j u hj => by rw [add_plain, Nat.zero_add, cell_blk hpb4]; simpa using hj)
    have stepB : ∀ (b c : Bool) (ρ' : Env), b = toldD k p (dn ++ rows.take (j + 1)) → c = anyD k (dn ++ rows.take (j + 1)) → ρ' 84 = .int .i64 (IntKind.i64.wrap ((j : Int) + 1)) → ρ' 83 = .int .i64 (rows.length : Int) → ρ' 82 = v → ρ' 15 = .bool b → ρ' 16 = .bool c → (∀ i, (Slot i ∨ i = 13 ∨ i = 14 ∨ i = 74 ∨ i = 75 ∨ i = 76) → ρ' i = ρ4 i) →
      (∃ j : Nat, j ≤ rows.length ∧ Ext w w4 ∧ ρ' 84 = .int .i64 (j : Int) ∧ ρ' 83 = .int .i64 (rows.length : Int) ∧ ρ' 82 = v ∧ ρ' 15 = .bool (toldD k p (dn ++ rows.take j)) ∧ ρ' 16 = .bool (anyD k (dn ++ rows.take j)) ∧ (∀ i, (Slot i ∨ i = 13 ∨ i = 14 ∨ i = 74 ∨ i = 75 ∨ i = 76) → ρ' i = ρ4 i)) ∧ (match ρ' 84 with | .int _ s => ((rows.length : Int) - s).toNat | _ => 0) < ((rows.length : Int) - (j : Int)).toNat := by
      intro b c ρ' hb hc e84 e83 e82 e15 e16 es
      refine ⟨⟨j + 1, by omega, hx04, e84.trans (next64 (n := 1000) (by decide) (by omega)), e83, e82, by rw [e15, hb], by rw [e16, hc], es⟩, ?_⟩
      rw [e84]
      show (_ - IntKind.i64.wrap _).toNat < _
      rw [w64 (by omega) (by omega)]
      omega
    rw [hts, ← List.append_assoc] at stepB
    rw [anyD_snoc, toldD_snoc] at stepB
    rw [q15, q16, q5, q13]
    generalize anyD k (dn ++ rows.take j) = ba at stepB
    generalize toldD k p (dn ++ rows.take j) = bt at stepB
    have fin : ∀ l : List (Nat × Value), (∀ i, (Slot i ∨ i = 13 ∨ i = 14 ∨ i = 74 ∨ i = 75 ∨ i = 76) → upds ρ l i = ρ i) → ∀ i, (Slot i ∨ i = 13 ∨ i = 14 ∨ i = 74 ∨ i = 75 ∨ i = 76) → upds ρ l i = ρ4 i := same
    cases ba with
    | true =>
      (repeat (first  | simp only [XP_extract0, XP_extract1, XP_extract2, XP_extract3, X_extract0, X_extract1, X_extract2, X_extract3, X_nilS, X_eql_nil_24, X_neq_nil_24, X_eql_nil_103, X_neq_nil_103, X_eql, X_neq, X_lss, X_leq, X_gtr, X_geq, X_not, X_min, X_max, X_len_79, X_len_35, XP_nilS, XP_eql, XP_neq, XP_lss, XP_leq, XP_gtr, XP_geq, XP_not, XP_min, XP_max, XP_len_79, XP_eql_nil_24, X_str_eql, X_str_neq, XP_str_eql, XP_str_neq, GS, gs_u, decide_true, decide_false, Option.isNone_some, Option.isSome_some, Option.isNone_none, Option.isSome_none, eq_self, Bool.not_true, Bool.not_false, Int.reduceEq, Int.reduceNe, Int.reduceLT, Int.reduceLE, Int.reduceGT, Int.reduceGE]))
      cases bt with
      | true =>
        (repeat (first  | simp only [XP_extract0, XP_extract1, XP_extract2, XP_extract3, X_extract0, X_extract1, X_extract2, X_extract3, X_nilS, X_eql_nil_24, X_neq_nil_24, X_eql_nil_103, X_neq_nil_103, X_eql, X_neq, X_lss, X_leq, X_gtr, X_geq, X_not, X_min, X_max, X_len_79, X_len_35, XP_nilS, XP_eql, XP_neq, XP_lss, XP_leq, XP_gtr, XP_geq, XP_not, XP_min, XP_max, XP_len_79, XP_eql_nil_24, X_str_eql, X_str_neq, XP_str_eql, XP_str_neq, GS, gs_u, decide_true, decide_false, Option.isNone_some, Option.isSome_some, Option.isNone_none, Option.isSome_none, eq_self, Bool.not_true, Bool.not_false, Int.reduceEq, Int.reduceNe, Int.reduceLT, Int.reduceLE, Int.reduceGT, Int.reduceGE]))
        rw [X_add]
        exact stepB _ _ _ (by simp) (by simp) rfl q83 q82 rfl rfl (same _ (by intro j hj; rcases hj with (rfl | rfl | rfl | rfl | rfl | rfl | rfl) | rfl | rfl | rfl | rfl | rfl <;> rfl))
      | false =>
        (repeat (first  | simp only [XP_extract0, XP_extract1, XP_extract2, XP_extract3, X_extract0, X_extract1, X_extract2, X_extract3, X_nilS, X_eql_nil_24, X_neq_nil_24, X_eql_nil_103, X_neq_nil_103, X_eql, X_neq, X_lss, X_leq, X_gtr, X_geq, X_not, X_min, X_max, X_len_79, X_len_35, XP_nilS, XP_eql, XP_neq, XP_lss, XP_leq, XP_gtr, XP_geq, XP_not, XP_min, XP_max, XP_len_79, XP_eql_nil_24, X_str_eql, X_str_neq, XP_str_eql, XP_str_neq, GS, gs_u, decide_true, decide_false, Option.isNone_some, Option.isSome_some, Option.isNone_none, Option.isSome_none, eq_self, Bool.not_true, Bool.not_false, Int.reduceEq, Int.reduceNe, Int.reduceLT, Int.reduceLE, Int.reduceGT, Int.reduceGE, X_field_48_0]))
        refine X_of (row_key hqb) ?_
        (repeat (first  | simp only [XP_extract0, XP_extract1, XP_extract2, XP_extract3, X_extract0, X_extract1, X_extract2, X_extract3, X_nilS, X_eql_nil_24, X_neq_nil_24, X_eql_nil_103, X_neq_nil_103, X_eql, X_neq, X_lss, X_leq, X_gtr, X_geq, X_not, X_min, X_max, X_len_79, X_len_35, XP_nilS, XP_eql, XP_neq, XP_lss, XP_leq, XP_gtr, XP_geq, XP_not, XP_min, XP_max, XP_len_79, XP_eql_nil_24, X_str_eql, X_str_neq, XP_str_eql, XP_str_neq, GS, gs_u, decide_true, decide_false, Option.isNone_some, Option.isSome_some, Option.isNone_none, Option.isSome_none, eq_self, Bool.not_true, Bool.not_false, Int.reduceEq, Int.reduceNe, Int.reduceLT, Int.reduceLE, Int.reduceGT, Int.reduceGE]))
        refine X_of lkb ?_
        (repeat (first  | simp only [XP_extract0, XP_extract1, XP_extract2, XP_extract3, X_extract0, X_extract1, X_extract2, X_extract3, X_nilS, X_eql_nil_24, X_neq_nil_24, X_eql_nil_103, X_neq_nil_103, X_eql, X_neq, X_lss, X_leq, X_gtr, X_geq, X_not, X_min, X_max, X_len_79, X_len_35, XP_nilS, XP_eql, XP_neq, XP_lss, XP_leq, XP_gtr, XP_geq, XP_not, XP_min, XP_max, XP_len_79, XP_eql_nil_24, X_str_eql, X_str_neq, XP_str_eql, XP_str_neq, GS, gs_u, decide_true, decide_false, Option.isNone_some, Option.isSome_some, Option.isNone_none, Option.isSome_none, eq_self, Bool.not_true, Bool.not_false, Int.reduceEq, Int.reduceNe, Int.reduceLT, Int.reduceLE, Int.reduceGT, Int.reduceGE]))
        refine X_of (run_key_eql _ _ _ _ _) ?_
        by_cases hke : e.k = k
        · have ck : decide (e.k = k) = true := decide_eq_true hke
          rw [ck] at stepB ⊢
          (repeat (first  | simp only [XP_extract0, XP_extract1, XP_extract2, XP_extract3, X_extract0, X_extract1, X_extract2, X_extract3, X_nilS, X_eql_nil_24, X_neq_nil_24, X_eql_nil_103, X_neq_nil_103, X_eql, X_neq, X_lss, X_leq, X_gtr, X_geq, X_not, X_min, X_max, X_len_79, X_len_35, XP_nilS, XP_eql, XP_neq, XP_lss, XP_leq, XP_gtr, XP_geq, XP_not, XP_min, XP_max, XP_len_79, XP_eql_nil_24, X_str_eql, X_str_neq, XP_str_eql, XP_str_neq, GS, gs_u, decide_true, decide_false, Option.isNone_some, Option.isSome_some, Option.isNone_none, Option.isSome_none, eq_self, Bool.not_true, Bool.not_false, Int.reduceEq, Int.reduceNe, Int.reduceLT, Int.reduceLE, Int.reduceGT, Int.reduceGE, X_field_48_1]))
          refine X_of (row_pl hqb) ?_
          (repeat (first  | simp only [XP_extract0, XP_extract1, XP_extract2, XP_extract3, X_extract0, X_extract1, X_extract2, X_extract3, X_nilS, X_eql_nil_24, X_neq_nil_24, X_eql_nil_103, X_neq_nil_103, X_eql, X_neq, X_lss, X_leq, X_gtr, X_geq, X_not, X_min, X_max, X_len_79, X_len_35, XP_nilS, XP_eql, XP_neq, XP_lss, XP_leq, XP_gtr, XP_geq, XP_not, XP_min, XP_max, XP_len_79, XP_eql_nil_24, X_str_eql, X_str_neq, XP_str_eql, XP_str_neq, GS, gs_u, decide_true, decide_false, Option.isNone_some, Option.isSome_some, Option.isNone_none, Option.isSome_none, eq_self, Bool.not_true, Bool.not_false, Int.reduceEq, Int.reduceNe, Int.reduceLT, Int.reduceLE, Int.reduceGT, Int.reduceGE]))
          refine X_of lpb ?_
          (repeat (first  | simp only [XP_extract0, XP_extract1, XP_extract2, XP_extract3, X_extract0, X_extract1, X_extract2, X_extract3, X_nilS, X_eql_nil_24, X_neq_nil_24, X_eql_nil_103, X_neq_nil_103, X_eql, X_neq, X_lss, X_leq, X_gtr, X_geq, X_not, X_min, X_max, X_len_79, X_len_35, XP_nilS, XP_eql, XP_neq, XP_lss, XP_leq, XP_gtr, XP_geq, XP_not, XP_min, XP_max, XP_len_79, XP_eql_nil_24, X_str_eql, X_str_neq, XP_str_eql, XP_str_neq, GS, gs_u, decide_true, decide_false, Option.isNone_some, Option.isSome_some, Option.isNone_none, Option.isSome_none, eq_self, Bool.not_true, Bool.not_false, Int.reduceEq, Int.reduceNe, Int.reduceLT, Int.reduceLE, Int.reduceGT, Int.reduceGE]))
          refine X_of (run_pl_eql _ _ _ _ _) ?_
          (repeat (first  | simp only [XP_extract0, XP_extract1, XP_extract2, XP_extract3, X_extract0, X_extract1, X_extract2, X_extract3, X_nilS, X_eql_nil_24, X_neq_nil_24, X_eql_nil_103, X_neq_nil_103, X_eql, X_neq, X_lss, X_leq, X_gtr, X_geq, X_not, X_min, X_max, X_len_79, X_len_35, XP_nilS, XP_eql, XP_neq, XP_lss, XP_leq, XP_gtr, XP_geq, XP_not, XP_min, XP_max, XP_len_79, XP_eql_nil_24, X_str_eql, X_str_neq, XP_str_eql, XP_str_neq, GS, gs_u, decide_true, decide_false, Option.isNone_some, Option.isSome_some, Option.isNone_none, Option.isSome_none, eq_self, Bool.not_true, Bool.not_false, Int.reduceEq, Int.reduceNe, Int.reduceLT, Int.reduceLE, Int.reduceGT, Int.reduceGE]))
          rw [X_add]
          exact stepB _ _ _ (by simp) (by simp) rfl q83 q82 rfl rfl (same _ (by intro j hj; rcases hj with (rfl | rfl | rfl | rfl | rfl | rfl | rfl) | rfl | rfl | rfl | rfl | rfl <;> rfl))
        · have ck : decide (e.k = k) = false := decide_eq_false hke
          rw [ck] at stepB ⊢
          (repeat (first  | simp only [XP_extract0, XP_extract1, XP_extract2, XP_extract3, X_extract0, X_extract1, X_extract2, X_extract3, X_nilS, X_eql_nil_24, X_neq_nil_24, X_eql_nil_103, X_neq_nil_103, X_eql, X_neq, X_lss, X_leq, X_gtr, X_geq, X_not, X_min, X_max, X_len_79, X_len_35, XP_nilS, XP_eql, XP_neq, XP_lss, XP_leq, XP_gtr, XP_geq, XP_not, XP_min, XP_max, XP_len_79, XP_eql_nil_24, X_str_eql, X_str_neq, XP_str_eql, XP_str_neq, GS, gs_u, decide_true, decide_false, Option.isNone_some, Option.isSome_some, Option.isNone_none, Option.isSome_none, eq_self, Bool.not_true, Bool.not_false, Int.reduceEq, Int.reduceNe, Int.reduceLT, Int.reduceLE, Int.reduceGT, Int.reduceGE]))
          rw [X_add]
          exact stepB _ _ _ (by simp) (by simp) rfl q83 q82 rfl rfl (same _ (by intro j hj; rcases hj with (rfl | rfl | rfl | rfl | rfl | rfl | rfl) | rfl | rfl | rfl | rfl | rfl <;> rfl))
    | false =>
      (repeat (first  | simp only [XP_extract0, XP_extract1, XP_extract2, XP_extract3, X_extract0, X_extract1, X_extract2, X_extract3, X_nilS, X_eql_nil_24, X_neq_nil_24, X_eql_nil_103, X_neq_nil_103, X_eql, X_neq, X_lss, X_leq, X_gtr, X_geq, X_not, X_min, X_max, X_len_79, X_len_35, XP_nilS, XP_eql, XP_neq, XP_lss, XP_leq, XP_gtr, XP_geq, XP_not, XP_min, XP_max, XP_len_79, XP_eql_nil_24, X_str_eql, X_str_neq, XP_str_eql, XP_str_neq, GS, gs_u, decide_true, decide_false, Option.isNone_some, Option.isSome_some, Option.isNone_none, Option.isSome_none, eq_self, Bool.not_true, Bool.not_false, Int.reduceEq, Int.reduceNe, Int.reduceLT, Int.reduceLE, Int.reduceGT, Int.reduceGE, X_field_48_0]))
      refine X_of (row_key hqb) ?_
      (repeat (first  | simp only [XP_extract0, XP_extract1, XP_extract2, XP_extract3, X_extract0, X_extract1, X_extract2, X_extract3, X_nilS, X_eql_nil_24, X_neq_nil_24, X_eql_nil_103, X_neq_nil_103, X_eql, X_neq, X_lss, X_leq, X_gtr, X_geq, X_not, X_min, X_max, X_len_79, X_len_35, XP_nilS, XP_eql, XP_neq, XP_lss, XP_leq, XP_gtr, XP_geq, XP_not, XP_min, XP_max, XP_len_79, XP_eql_nil_24, X_str_eql, X_str_neq, XP_str_eql, XP_str_neq, GS, gs_u, decide_true, decide_false, Option.isNone_some, Option.isSome_some, Option.isNone_none, Option.isSome_none, eq_self, Bool.not_true, Bool.not_false, Int.reduceEq, Int.reduceNe, Int.reduceLT, Int.reduceLE, Int.reduceGT, Int.reduceGE]))
      refine X_of lkb ?_
      (repeat (first  | simp only [XP_extract0, XP_extract1, XP_extract2, XP_extract3, X_extract0, X_extract1, X_extract2, X_extract3, X_nilS, X_eql_nil_24, X_neq_nil_24, X_eql_nil_103, X_neq_nil_103, X_eql, X_neq, X_lss, X_leq, X_gtr, X_geq, X_not, X_min, X_max, X_len_79, X_len_35, XP_nilS, XP_eql, XP_neq, XP_lss, XP_leq, XP_gtr, XP_geq, XP_not, XP_min, XP_max, XP_len_79, XP_eql_nil_24, X_str_eql, X_str_neq, XP_str_eql, XP_str_neq, GS, gs_u, decide_true, decide_false, Option.isNone_some, Option.isSome_some, Option.isNone_none, Option.isSome_none, eq_self, Bool.not_true, Bool.not_false, Int.reduceEq, Int.reduceNe, Int.reduceLT, Int.reduceLE, Int.reduceGT, Int.reduceGE]))
      refine X_of (run_key_eql _ _ _ _ _) ?_
      (repeat (first  | simp only [XP_extract0, XP_extract1, XP_extract2, XP_extract3, X_extract0, X_extract1, X_extract2, X_extract3, X_nilS, X_eql_nil_24, X_neq_nil_24, X_eql_nil_103, X_neq_nil_103, X_eql, X_neq, X_lss, X_leq, X_gtr, X_geq, X_not, X_min, X_max, X_len_79, X_len_35, XP_nilS, XP_eql, XP_neq, XP_lss, XP_leq, XP_gtr, XP_geq, XP_not, XP_min, XP_max, XP_len_79, XP_eql_nil_24, X_str_eql, X_str_neq, XP_str_eql, XP_str_neq, GS, gs_u, decide_true, decide_false, Option.isNone_some, Option.isSome_some, Option.isNone_none, Option.isSome_none, eq_self, Bool.not_true, Bool.not_false, Int.reduceEq, Int.reduceNe, Int.reduceLT, Int.reduceLE, Int.reduceGT, Int.reduceGE]))
      cases bt with
      | true =>
        (repeat (first  | simp only [XP_extract0, XP_extract1, XP_extract2, XP_extract3, X_extract0, X_extract1, X_extract2, X_extract3, X_nilS, X_eql_nil_24, X_neq_nil_24, X_eql_nil_103, X_neq_nil_103, X_eql, X_neq, X_lss, X_leq, X_gtr, X_geq, X_not, X_min, X_max, X_len_79, X_len_35, XP_nilS, XP_eql, XP_neq, XP_lss, XP_leq, XP_gtr, XP_geq, XP_not, XP_min, XP_max, XP_len_79, XP_eql_nil_24, X_str_eql, X_str_neq, XP_str_eql, XP_str_neq, GS, gs_u, decide_true, decide_false, Option.isNone_some, Option.isSome_some, Option.isNone_none, Option.isSome_none, eq_self, Bool.not_true, Bool.not_false, Int.reduceEq, Int.reduceNe, Int.reduceLT, Int.reduceLE, Int.reduceGT, Int.reduceGE]))
        rw [X_add]
        exact stepB _ _ _ (by simp) (by simp) rfl q83 q82 rfl rfl (same _ (by intro j hj; rcases hj with (rfl | rfl | rfl | rfl | rfl | rfl | rfl) | rfl | rfl | rfl | rfl | rfl <;> rfl))
      | false =>
        (repeat (first  | simp only [XP_extract0, XP_extract1, XP_extract2, XP_extract3, X_extract0, X_extract1, X_extract2, X_extract3, X_nilS, X_eql_nil_24, X_neq_nil_24, X_eql_nil_103, X_neq_nil_103, X_eql, X_neq, X_lss, X_leq, X_gtr, X_geq, X_not, X_min, X_max, X_len_79, X_len_35, XP_nilS, XP_eql, XP_neq, XP_lss, XP_leq, XP_gtr, XP_geq, XP_not, XP_min, XP_max, XP_len_79, XP_eql_nil_24, X_str_eql, X_str_neq, XP_str_eql, XP_str_neq, GS, gs_u, decide_true, decide_false, Option.isNone_some, Option.isSome_some, Option.isNone_none, Option.isSome_none, eq_self, Bool.not_true, Bool.not_false, Int.reduceEq, Int.reduceNe, Int.reduceLT, Int.reduceLE, Int.reduceGT, Int.reduceGE, X_field_48_0]))
        refine X_of (row_key hqb) ?_
        (repeat (first  | simp only [XP_extract0, XP_extract1, XP_extract2, XP_extract3, X_extract0, X_extract1, X_extract2, X_extract3, X_nilS, X_eql_nil_24, X_neq_nil_24, X_eql_nil_103, X_neq_nil_103, X_eql, X_neq, X_lss, X_leq, X_gtr, X_geq, X_not, X_min, X_max, X_len_79, X_len_35, XP_nilS, XP_eql, XP_neq, XP_lss, XP_leq, XP_gtr, XP_geq, XP_not, XP_min, XP_max, XP_len_79, XP_eql_nil_24, X_str_eql, X_str_neq, XP_str_eql, XP_str_neq, GS, gs_u, decide_true, decide_false, Option.isNone_some, Option.isSome_some, Option.isNone_none, Option.isSome_none, eq_self, Bool.not_true, Bool.not_false, Int.reduceEq, Int.reduceNe, Int.reduceLT, Int.reduceLE, Int.reduceGT, Int.reduceGE]))
        refine X_of lkb ?_
        (repeat (first  | simp only [XP_extract0, XP_extract1, XP_extract2, XP_extract3, X_extract0, X_extract1, X_extract2, X_extract3, X_nilS, X_eql_nil_24, X_neq_nil_24, X_eql_nil_103, X_neq_nil_103, X_eql, X_neq, X_lss, X_leq, X_gtr, X_geq, X_not, X_min, X_max, X_len_79, X_len_35, XP_nilS, XP_eql, XP_neq, XP_lss, XP_leq, XP_gtr, XP_geq, XP_not, XP_min, XP_max, XP_len_79, XP_eql_nil_24, X_str_eql, X_str_neq, XP_str_eql, XP_str_neq, GS, gs_u, decide_true, decide_false, Option.isNone_some, Option.isSome_some, Option.isNone_none, Option.isSome_none, eq_self, Bool.not_true, Bool.not_false, Int.reduceEq, Int.reduceNe, Int.reduceLT, Int.reduceLE, Int.reduceGT, Int.reduceGE]))
        refine X_of (run_key_eql _ _ _ _ _) ?_
        by_cases hke : e.k = k
        · have ck : decide (e.k = k) = true := decide_eq_true hke
          rw [ck] at stepB ⊢
          (repeat (first  | simp only [XP_extract0, XP_extract1, XP_extract2, XP_extract3, X_extract0, X_extract1, X_extract2, X_extract3, X_nilS, X_eql_nil_24, X_neq_nil_24, X_eql_nil_103, X_neq_nil_103, X_eql, X_neq, X_lss, X_leq, X_gtr, X_geq, X_not, X_min, X_max, X_len_79, X_len_35, XP_nilS, XP_eql, XP_neq, XP_lss, XP_leq, XP_gtr, XP_geq, XP_not, XP_min, XP_max, XP_len_79, XP_eql_nil_24, X_str_eql, X_str_neq, XP_str_eql, XP_str_neq, GS, gs_u, decide_true, decide_false, Option.isNone_some, Option.isSome_some, Option.isNone_none, Option.isSome_none, eq_self, Bool.not_true, Bool.not_false, Int.reduceEq, Int.reduceNe, Int.reduceLT, Int.reduceLE, Int.reduceGT, Int.reduceGE, X_field_48_1]))
          refine X_of (row_pl hqb) ?_
          (repeat (first  | simp only [XP_extract0, XP_extract1, XP_extract2, XP_extract3, X_extract0, X_extract1, X_extract2, X_extract3, X_nilS, X_eql_nil_24, X_neq_nil_24, X_eql_nil_103, X_neq_nil_103, X_eql, X_neq, X_lss, X_leq, X_gtr, X_geq, X_not, X_min, X_max, X_len_79, X_len_35, XP_nilS, XP_eql, XP_neq, XP_lss, XP_leq, XP_gtr, XP_geq, XP_not, XP_min, XP_max, XP_len_79, XP_eql_nil_24, X_str_eql, X_str_neq, XP_str_eql, XP_str_neq, GS, gs_u, decide_true, decide_false, Option.isNone_some, Option.isSome_some, Option.isNone_none, Option.isSome_none, eq_self, Bool.not_true, Bool.not_false, Int.reduceEq, Int.reduceNe, Int.reduceLT, Int.reduceLE, Int.reduceGT, Int.reduceGE]))
          refine X_of lpb ?_
          (repeat (first  | simp only [XP_extract0, XP_extract1, XP_extract2, XP_extract3, X_extract0, X_extract1, X_extract2, X_extract3, X_nilS, X_eql_nil_24, X_neq_nil_24, X_eql_nil_103, X_neq_nil_103, X_eql, X_neq, X_lss, X_leq, X_gtr, X_geq, X_not, X_min, X_max, X_len_79, X_len_35, XP_nilS, XP_eql, XP_neq, XP_lss, XP_leq, XP_gtr, XP_geq, XP_not, XP_min, XP_max, XP_len_79, XP_eql_nil_24, X_str_eql, X_str_neq, XP_str_eql, XP_str_neq, GS, gs_u, decide_true, decide_false, Option.isNone_some, Option.isSome_some, Option.isNone_none, Option.isSome_none, eq_self, Bool.not_true, Bool.not_false, Int.reduceEq, Int.reduceNe, Int.reduceLT, Int.reduceLE, Int.reduceGT, Int.reduceGE]))
          refine X_of (run_pl_eql _ _ _ _ _) ?_
          (repeat (first  | simp only [XP_extract0, XP_extract1, XP_extract2, XP_extract3, X_extract0, X_extract1, X_extract2, X_extract3, X_nilS, X_eql_nil_24, X_neq_nil_24, X_eql_nil_103, X_neq_nil_103, X_eql, X_neq, X_lss, X_leq, X_gtr, X_geq, X_not, X_min, X_max, X_len_79, X_len_35, XP_nilS, XP_eql, XP_neq, XP_lss, XP_leq, XP_gtr, XP_geq, XP_not, XP_min, XP_max, XP_len_79, XP_eql_nil_24, X_str_eql, X_str_neq, XP_str_eql, XP_str_neq, GS, gs_u, decide_true, decide_false, Option.isNone_some, Option.isSome_some, Option.isNone_none, Option.isSome_none, eq_self, Bool.not_true, Bool.not_false, Int.reduceEq, Int.reduceNe, Int.reduceLT, Int.reduceLE, Int.reduceGT, Int.reduceGE]))
          rw [X_add]
          exact stepB _ _ _ (by simp) (by simp) rfl q83 q82 rfl rfl (same _ (by intro j hj; rcases hj with (rfl | rfl | rfl | rfl | rfl | rfl | rfl) | rfl | rfl | rfl | rfl | rfl <;> rfl))
        · have ck : decide (e.k = k) = false := decide_eq_false hke
          rw [ck] at stepB ⊢
          (repeat (first  | simp only [XP_extract0, XP_extract1, XP_extract2, XP_extract3, X_extract0, X_extract1, X_extract2, X_extract3, X_nilS, X_eql_nil_24, X_neq_nil_24, X_eql_nil_103, X_neq_nil_103, X_eql, X_neq, X_lss, X_leq, X_gtr, X_geq, X_not, X_min, X_max, X_len_79, X_len_35, XP_nilS, XP_eql, XP_neq, XP_lss, XP_leq, XP_gtr, XP_geq, XP_not, XP_min, XP_max, XP_len_79, XP_eql_nil_24, X_str_eql, X_str_neq, XP_str_eql, XP_str_neq, GS, gs_u, decide_true, decide_false, Option.isNone_some, Option.isSome_some, Option.isNone_none, Option.isSome_none, eq_self, Bool.not_true, Bool.not_false, Int.reduceEq, Int.reduceNe, Int.reduceLT, Int.reduceLE, Int.reduceGT, Int.reduceGE]))
          rw [X_add]
          exact stepB _ _ _ (by simp) (by simp) rfl q83 q82 rfl rfl (same _ (by intro j hj; rcases hj with (rfl | rfl | rfl | rfl | rfl | rfl | rfl) | rfl | rfl | rfl | rfl | rfl <;> rfl))
  · rintro ρ wr ⟨hx, q15, q16, qs⟩
    exact hgo ρ wr hx qs q15 q16
def TellAft (W : World) (ρ3 : Env) (cb lb kb n : Nat) (k : Ky) (L : List (Int × Value)) (T' : Tbl) (ρ : Env) (w1 : World) : Prop :=
  ∃ D' : Nat → Prop, Ext W w1 ∧ CacheAt w1 D' cb n T' ∧ (∀ g, D' g → W.heap.size ≤ g) ∧ ¬ D' lb ∧ ¬ D' kb ∧ MapAt w1 lb (L.map lasV) ∧ w1.heap[kb]? = some (.cells k.cs.toArray 44 (0, 0)) ∧ ∀ i, Slot i → ρ i = ρ3 i
set_option maxRecDepth 8000 in
set_option maxHeartbeats 4000000 in
theorem tells_c2 {ρ3 : Env} {cb lb kb q n : Nat} {T T' : Tbl} {D : Nat → Prop} {L : List (Int × Value)} {k : Ky} {a : Ac} {w : World} {K : Value → World → Prop} {Q1 : Exit → Env → World → Prop} {J2 : Env → World → Prop} (W : World) (hn : n ≤ 20)
    (hT' : T' = loadT T n a.s a.rows a.d) (hxW : Ext W w) (hc : CacheAt w D cb n T) (hDW : ∀ g, D g → W.heap.size ≤ g) (hDlb : ¬ D lb) (hDkb : ¬ D kb) (hDq : ¬ D q) (hq : w.heap[q]? = some (.cells a.cs.toArray 32 (0, 0)))
    (hkb : w.heap[kb]? = some (.cells k.cs.toArray 44 (0, 0))) (hm : MapAt w lb (L.map lasV)) (hLn : (L.map Prod.fst).Nodup) (hLi : ∀ s ∈ L.map Prod.fst, I64 s) (hin : a.In W) (hsm : a.rows.length ≤ 50)
    (hL : ∀ p ∈ T', ∃ v, (p.1, v) ∈ L ∧ RowK 35 Ex.cs W v p.2 ∧ p.2.length ≤ 50)
    (r8 : ρ3 8 = ptr cb) (r10 : ρ3 10 = .map (some lb)) (r5 : ρ3 5 = ptr kb) (r12 : ρ3 12 = ptr q)
    (hgo : ∀ ρ w1, TellAft W ρ3 cb lb kb n k L T' ρ w1 → J2 ρ w1) : B_law14_CacheTells_c2 ρ3 w K Q1 J2 := by
  unfold B_law14_CacheTells_c2
  rw [r12]
  (repeat (first  | simp only [XP_extract0, XP_extract1, XP_extract2, XP_extract3, X_extract0, X_extract1, X_extract2, X_extract3, X_nilS, X_eql_nil_24, X_neq_nil_24, X_eql_nil_103, X_neq_nil_103, X_eql, X_neq, X_lss, X_leq, X_gtr, X_geq, X_not, X_min, X_max, X_len_79, X_len_35, XP_nilS, XP_eql, XP_neq, XP_lss, XP_leq, XP_gtr, XP_geq, XP_not, XP_min, XP_max, XP_len_79, XP_eql_nil_24, X_str_eql, X_str_neq, XP_str_eql, XP_str_neq, GS, gs_u, decide_true, decide_false, Option.isNone_some, Option.isSome_some, Option.isNone_none, Option.isSome_none, eq_self, Bool.not_true, Bool.not_false, Int.reduceEq, Int.reduceNe, Int.reduceLT, Int.reduceLE, Int.reduceGT, Int.reduceGE, X_field_32_1]))
  refine X_of (run_loadAt (v := .int .i64 a.s) agg_3 ((cell_blk hq).trans rfl)) ?_
  rw [X_field_32_2]
  refine X_of (run_loadAt (v := a.v) agg_29 ((cell_blk hq).trans rfl)) ?_
  rw [X_field_32_3]
  refine X_of (run_loadAt (v := .int .u64 (a.d : Int)) agg_30 ((cell_blk hq).trans rfl)) ?_
  rw [r8]
  refine Load_spec hc hin.i64 (hin.row.ext hxW) (by omega) hin.u64 (fun h0 g hg hgD => ?_) ?_
  · have h1 := hin.row.blk_lt h0 (fun x _ => by rw [Ex.cs_len]; omega) g hg
    have := hDW g hgD
    omega
  intro w5 hk5 hc5
  rw [← hT'] at hc5
  have hx05 : Ext W w5 := Ext.seq hxW hk5 hDW
  have hmlt := hm.lt
  have hklt := lt_of_blk hkb
  have hD5 : ∀ g, (D g ∨ (w.heap.size ≤ g ∧ g < w5.heap.size)) → W.heap.size ≤ g := by
    rintro g (hg | hg)
    · exact hDW g hg
    · have := hxW.size
      omega
  have hlb5 : ¬ (D lb ∨ (w.heap.size ≤ lb ∧ lb < w5.heap.size)) := by rintro (hg | hg); exact hDlb hg; omega
  have hkb5 : ¬ (D kb ∨ (w.heap.size ≤ kb ∧ kb < w5.heap.size)) := by rintro (hg | hg); exact hDkb hg; omega
  have hm5 := hm.keep hk5 hDlb
  have hkbw := hk5.get hDkb hkb
  obtain ⟨D5, hc5, hD5, hlb5, hkb5⟩ : ∃ D5 : Nat → Prop, CacheAt w5 D5 cb n T' ∧ (∀ g, D5 g → W.heap.size ≤ g) ∧ ¬ D5 lb ∧ ¬ D5 kb := ⟨_, hc5, hD5, hlb5, hkb5⟩
  rw [r5]
  refine X_of (load_cells Try.underlying44 agg_44 info_44 (l := k.cs) (by rw [sz_44, Ky.cs_len]) (fun j u hj => by rw [add_plain, Nat.zero_add, cell_blk hkbw]; simpa using hj)) ?_
  show CALL _ 25 #[_, k.v] _ _
  refine Get_specC hc5 ?_
  intro w6 hx6
  (repeat (first  | simp only [XP_extract0, XP_extract1, XP_extract2, XP_extract3, X_extract0, X_extract1, X_extract2, X_extract3, X_nilS, X_eql_nil_24, X_neq_nil_24, X_eql_nil_103, X_neq_nil_103, X_eql, X_neq, X_lss, X_leq, X_gtr, X_geq, X_not, X_min, X_max, X_len_79, X_len_35, XP_nilS, XP_eql, XP_neq, XP_lss, XP_leq, XP_gtr, XP_geq, XP_not, XP_min, XP_max, XP_len_79, XP_eql_nil_24, X_str_eql, X_str_neq, XP_str_eql, XP_str_neq, GS, gs_u, decide_true, decide_false, Option.isNone_some, Option.isSome_some, Option.isNone_none, Option.isSome_none, eq_self, Bool.not_true, Bool.not_false, Int.reduceEq, Int.reduceNe, Int.reduceLT, Int.reduceLE, Int.reduceGT, Int.reduceGE]))
  refine X_alloc zero_46 ?_
  have hx7 := newB_ext w6 (Value.agg #[(.int .i64 0), (.int .i64 0)]).cells 46
  have hg7 : (newB w6 (Value.agg #[(.int .i64 0), (.int .i64 0)]).cells 46).heap[w6.heap.size]? = some (.cells [Value.int .i64 0, Value.int .i64 0].toArray 46 (0, 0)) := newB_get _ _ _
  generalize newB w6 (Value.agg #[(.int .i64 0), (.int .i64 0)]).cells 46 = w7 at hx7 hg7 ⊢
  generalize hp : (findT T' k).getD (0, 0) = p
  refine XU_storeAgg (l := [.int .i64 p.1, .int .i64 p.2]) info_46 hg7 (by rw [sz_46]; rfl) (by rw [sz_46]; rfl) (by intro u hu; simp at hu; rcases hu with rfl | rfl <;> rfl) ?_
  have hk8 := setAt_keep w7 w6.heap.size [Value.int .i64 p.1, Value.int .i64 p.2].toArray 46 (0, 0)
  have hg8 : (setAt w7 w6.heap.size [Value.int .i64 p.1, Value.int .i64 p.2].toArray 46 (0, 0)).heap[w6.heap.size]? = some (.cells [Value.int .i64 p.1, Value.int .i64 p.2].toArray 46 (0, 0)) := setAt_same (lt_of_blk hg7)
  generalize setAt w7 w6.heap.size [Value.int .i64 p.1, Value.int .i64 p.2].toArray 46 (0, 0) = w8 at hk8 hg8 ⊢
  have hx68 : Ext w6 w8 := Ext.seq hx7 hk8 (fun g hg => by omega)
  have hx58 := hx6.trans hx68
  generalize w6.heap.size = pb at hg8 ⊢
  refine Shelves_spec (hc5.ext hx58) ?_
  intro u w9 hx9 ho9
  have hx59 := hx58.trans hx9
  have hc9 := hc5.ext hx59
  have hm9 := hm5.ext hx59
  have hkb9 := Ext.get hx59 hkbw
  have hpb9 := Ext.get hx9 hg8
  have hu9 := OwnK.rowK (by decide) intC_len ho9
  have hx09 := hx05.trans hx59
  obtain ⟨au, cu, eu⟩ := hu9.slice
  have hlT : (shs T').length = T'.length := List.length_map ..
  rw [eu, X_len_35, ← eu, hlT]
  refine loopG 2 (fun ρ wr => ∃ i : Nat, i ≤ T'.length ∧ Ext w9 wr ∧ ρ 76 = .int .i64 (i : Int) ∧ ρ 75 = .int .i64 (T'.length : Int) ∧ ρ 74 = u ∧ ρ 13 = ptr pb ∧ ρ 14 = .bool (findT T' k).isSome ∧ ρ 15 = .bool (toldD k p ((T'.take i).flatMap Prod.snd)) ∧ ρ 16 = .bool (anyD k ((T'.take i).flatMap Prod.snd)) ∧ ∀ i, Slot i → ρ i = ρ3 i)
    (fun ρ wr => match ρ 76 with | .int _ s => (T'.length - s).toNat | _ => 0)
    (fun ρ wr => Ext w9 wr ∧ ρ 14 = .bool (findT T' k).isSome ∧ ρ 15 = .bool (toldD k p (T'.flatMap Prod.snd)) ∧ ρ 16 = .bool (anyD k (T'.flatMap Prod.snd)) ∧ ∀ i, Slot i → ρ i = ρ3 i) ?_ ?_ ?_
  · refine ⟨0, by omega, Keep.refl _ _, rfl, rfl, rfl, rfl, rfl, rfl, rfl, ?_⟩
    intro j hj
    rcases hj with rfl | rfl | rfl | rfl | rfl | rfl | rfl <;> rfl
  · rintro J hJ ρ wr ⟨i, hi, hx, q76, q75, q74, q13, q14, q15, q16, qs⟩
    rw [q76, q75, q74, X_lss, condS_bool]
    by_cases hie : i = T'.length
    · rw [if_neg (by simp; omega)]
      rw [hie, List.take_of_length_le (Nat.le_refl _)] at q15 q16
      refine hJ _ _ ⟨hx, q14, q15, q16, fun j hj => ?_⟩
      have := qs j hj
      rcases hj with rfl | rfl | rfl | rfl | rfl | rfl | rfl <;> exact this
    rw [if_pos (by simp; omega)]
    have hltT : i < T'.length := by omega
    have hlt : i < (shs T').length := by omega
    obtain ⟨g, hix, hcg, _⟩ := int_at (hu9.ext hx) hlt
    have hsi : (shs T')[i] = T'[i].1 := by simp
    rw [hsi] at hcg
    refine X_of (hix _) ?_
    obtain ⟨v, hv, hrow, hvl⟩ := hL T'[i] (List.getElem_mem hltT)
    have hfl := flat_succ T' i hltT
    refine tells_rows W (hx09.trans hx) (hm9.ext hx) hLn hLi hv hrow hvl hcg (Ext.get hx hkb9) (Ext.get hx hpb9) ((qs 10 (by decide)).trans r10) ((qs 5 (by decide)).trans r5) q13 q15 q16 ?_
    intro ρ5 w1 hx1 hsame e15 e16
    rw [hsame 76 (by decide), q76, X_add]
    rw [← hfl] at e15 e16
    show _ ∧ _
    refine ⟨⟨i + 1, by omega, hx.trans hx1, next64 (n := 1000) (by decide) (by have := hc9.fits; omega), (hsame 75 (by decide)).trans q75, (hsame 74 (by decide)).trans q74, (hsame 13 (by decide)).trans q13, (hsame 14 (by decide)).trans q14, e15, e16, fun j hj => ?_⟩, ?_⟩
    · have := (hsame j (.inl hj)).trans (qs j hj)
      rcases hj with rfl | rfl | rfl | rfl | rfl | rfl | rfl <;> exact this
    · show (_ - IntKind.i64.wrap _).toNat < _
      rw [w64 (by omega) (by have := hc9.fits; omega)]
      first | omega | (show _ < (_ : Int).toNat; omega)
  · rintro ρ wr ⟨hx, q14, q15, q16, qs⟩
    have eb : ((findT T' k).isSome != anyD k (T'.flatMap Prod.snd)) = false := by rw [findT_any]; simp
    show X _ (binOpG .neq 4 _ _ (ρ 14) (ρ 16)) wr _
    rw [q14, q15, q16, X_neq_bool_4, eb]
    have aft : ∀ ρ' : Env, (∀ i, Slot i → ρ' i = ρ i) → J2 ρ' wr := fun ρ' h => hgo ρ' wr ⟨D5, hx09.trans hx, hc9.ext hx, hD5, hlb5, hkb5, hm9.ext hx, Ext.get hx hkb9, fun j hj => (h j hj).trans (qs j hj)⟩
    cases hf : findT T' k with
    | none =>
      (repeat (first  | simp only [XP_extract0, XP_extract1, XP_extract2, XP_extract3, X_extract0, X_extract1, X_extract2, X_extract3, X_nilS, X_eql_nil_24, X_neq_nil_24, X_eql_nil_103, X_neq_nil_103, X_eql, X_neq, X_lss, X_leq, X_gtr, X_geq, X_not, X_min, X_max, X_len_79, X_len_35, XP_nilS, XP_eql, XP_neq, XP_lss, XP_leq, XP_gtr, XP_geq, XP_not, XP_min, XP_max, XP_len_79, XP_eql_nil_24, X_str_eql, X_str_neq, XP_str_eql, XP_str_neq, GS, gs_u, decide_true, decide_false, Option.isNone_some, Option.isSome_some, Option.isNone_none, Option.isSome_none, eq_self, Bool.not_true, Bool.not_false, Int.reduceEq, Int.reduceNe, Int.reduceLT, Int.reduceLE, Int.reduceGT, Int.reduceGE]))
      exact aft _ (by intro j hj; rcases hj with rfl | rfl | rfl | rfl | rfl | rfl | rfl <;> rfl)
    | some p0 =>
      rw [hf] at hp
      have : p0 = p := hp
      subst this
      have et : toldD k p0 (T'.flatMap Prod.snd) = true := findT_told hf
      rw [et]
      (repeat (first  | simp only [XP_extract0, XP_extract1, XP_extract2, XP_extract3, X_extract0, X_extract1, X_extract2, X_extract3, X_nilS, X_eql_nil_24, X_neq_nil_24, X_eql_nil_103, X_neq_nil_103, X_eql, X_neq, X_lss, X_leq, X_gtr, X_geq, X_not, X_min, X_max, X_len_79, X_len_35, XP_nilS, XP_eql, XP_neq, XP_lss, XP_leq, XP_gtr, XP_geq, XP_not, XP_min, XP_max, XP_len_79, XP_eql_nil_24, X_str_eql, X_str_neq, XP_str_eql, XP_str_neq, GS, gs_u, decide_true, decide_false, Option.isNone_some, Option.isSome_some, Option.isNone_none, Option.isSome_none, eq_self, Bool.not_true, Bool.not_false, Int.reduceEq, Int.reduceNe, Int.reduceLT, Int.reduceLE, Int.reduceGT, Int.reduceGE]))
      exact aft _ (by intro j hj; rcases hj with rfl | rfl | rfl | rfl | rfl | rfl | rfl <;> rfl)
theorem mem_loadT {T : Tbl} {n : Nat} {s : Int} {rows : List Ex} {d : Nat} {p : Int × List Ex} (h : p ∈ loadT T n s rows d) : p ∈ T ∨ (s ∉ shs T ∧ p = (s, rows)) := by
  unfold loadT at h
  split at h
  · exact .inl h
  · rename_i h'
    rcases List.mem_append.1 h with h | h
    · left
      split at h
      · exact (List.mem_filter.1 h).1
      · exact h
    · exact .inr ⟨fun h2 => h' (.inr h2), List.mem_singleton.1 h⟩
def TellOk (W : World) (wr : World) (D : Nat → Prop) (cb lb kb n : Nat) (k : Ky) (L : List (Int × Value)) (T : Tbl) : Prop :=
  Ext W wr ∧ CacheAt wr D cb n T ∧ (∀ g, D g → W.heap.size ≤ g) ∧ ¬ D lb ∧ ¬ D kb ∧ MapAt wr lb (L.map lasV) ∧ (L.map Prod.fst).Nodup ∧ (∀ s ∈ L.map Prod.fst, I64 s) ∧ wr.heap[kb]? = some (.cells k.cs.toArray 44 (0, 0))
def Known (W : World) (L : List (Int × Value)) (T : Tbl) : Prop := ∀ p ∈ T, ∃ v, (p.1, v) ∈ L ∧ RowK 35 Ex.cs W v p.2 ∧ p.2.length ≤ 50
set_option maxRecDepth 8000 in
set_option maxHeartbeats 4000000 in
theorem cacheTells_run {r : Nat} {va : Value} {l : List Ac} {k : Ky} (hr : r < 256) (W : World) (hl : RowK 4 Ac.cs W va l) (hin : ∀ a ∈ l, a.In W) :
    CALL Try.prog 6 #[.int .u8 (r : Int), va, k.v] W (fun v w' => v = .bool true ∧ Ext W w') := by
  apply call_law14_CacheTells
  unfold B_law14_CacheTells
  refine X_box ?_
  have hx0 := newB_ext W k.v.cells 44
  have hg0 : (newB W k.v.cells 44).heap[W.heap.size]? = some (.cells k.cs.toArray 44 (0, 0)) := newB_get W k.v.cells 44
  generalize newB W k.v.cells 44 = w0 at hx0 hg0 ⊢
  have hkW : W.heap.size ≤ W.heap.size := Nat.le_refl _
  generalize hkbe : W.heap.size = kb at hg0 hkW
  refine shown14 ?_
  intro w1 hx1
  refine X_of (run_rem _ _ _ _ (by decide) _) ?_
  have er : (r : Int).tmod 21 = ((r % 21 : Nat) : Int) := by rw [Int.tmod_eq_emod_of_nonneg (by omega)]; rfl
  rw [er, X_conv_5_3, w64 (by omega) (by omega)]
  generalize hnn : r % 21 = n
  have hn2 : n ≤ 20 := by omega
  refine New_ok (room := n) (by omega) ?_
  intro cb w2 hx2 hc2
  have e0 : decide ((0 : Int) ≠ 0) = false := rfl
  (repeat (first  | simp only [XP_extract0, XP_extract1, XP_extract2, XP_extract3, X_extract0, X_extract1, X_extract2, X_extract3, X_nilS, X_eql_nil_24, X_neq_nil_24, X_eql_nil_103, X_neq_nil_103, X_eql, X_neq, X_lss, X_leq, X_gtr, X_geq, X_not, X_min, X_max, X_len_79, X_len_35, XP_nilS, XP_eql, XP_neq, XP_lss, XP_leq, XP_gtr, XP_geq, XP_not, XP_min, XP_max, XP_len_79, XP_eql_nil_24, X_str_eql, X_str_neq, XP_str_eql, XP_str_neq, GS, gs_u, decide_true, decide_false, Option.isNone_some, Option.isSome_some, Option.isNone_none, Option.isSome_none, eq_self, Bool.not_true, Bool.not_false, Int.reduceEq, Int.reduceNe, Int.reduceLT, Int.reduceLE, Int.reduceGT, Int.reduceGE, e0]))
  refine X_makeMap0 ?_
  have hx3 := newM_ext w2
  have hm3 := newM_at w2
  have hlbe := hx2.size
  have hlbe1 := hx1.size
  generalize hlb : w2.heap.size = lb at hm3
  generalize newM w2 = w3 at hx3 hm3 ⊢
  have hc3 := hc2.ext hx3
  have hx03 := ((hx0.trans hx1).trans hx2).trans hx3
  have hg3 := Ext.get hx3 (Ext.get hx2 (Ext.get hx1 hg0))
  have hlt0 := lt_of_blk hg0
  refine FewA_spec hl hx03 hin ?_
  intro m u hm1 hm2 hall hu
  have hin' : ∀ a ∈ l.take m, a.In W := fun a ha => hin a (List.mem_of_mem_take ha)
  generalize l.take m = acts at hall hu hin'
  obtain ⟨au, cu, eu⟩ := hu.slice
  have hal : acts.length ≤ 9223372036854775807 := by
    obtain ⟨_, c, _, g1, g2, _⟩ := hu
    omega
  rw [eu, X_len_22, ← eu]
  refine loopE (fun ρ wr => ∃ (i : Nat) (T : Tbl) (D : Nat → Prop) (L : List (Int × Value)), i ≤ acts.length ∧ TellOk W wr D cb lb kb n k L T ∧ Known W L T ∧ ρ 39 = .int .i64 (i : Int) ∧ ρ 38 = .int .i64 (acts.length : Int) ∧ ρ 37 = u ∧ ρ 10 = .map (some lb) ∧ ρ 8 = ptr cb ∧ ρ 7 = .bool true ∧ ρ 5 = ptr kb)
    (fun ρ wr => match ρ 39 with | .int _ s => (acts.length - s).toNat | _ => 0)
    (fun ρ wr => Ext W wr ∧ ρ 7 = .bool true) ?_ ?_ ?_
  · have s0 := hx0.size
    have s1 := hx1.size
    refine ⟨0, [], _, [], by omega, ⟨hx03, hc3, fun g hg => by have := hg.1; omega, fun hg => ?_, fun hg => ?_, hm3, by simp, by simp, hg3⟩, fun p hp => by simp at hp, rfl, rfl, rfl, rfl, rfl, rfl, rfl⟩
    · have := hg.2; omega
    · have := hg.1; omega
  · rintro J hJ ρ wr ⟨i, T, D, L, hi, ⟨hx, hc, hD, hDlb, hDkb, hm, hLn, hLi, hkb⟩, hkn, r39, r38, r37, r10, r8, r7, r5⟩
    unfold B_law14_CacheTells_c3
    rw [r39, r38, r37, X_lss, condS_bool]
    by_cases hie : i = acts.length
    · rw [if_neg (by simp; omega)]
      exact hJ _ _ ⟨hx, r7⟩
    rw [if_pos (by simp; omega)]
    have hlt : i < acts.length := by omega
    have hinA := hin' _ (List.getElem_mem hlt)
    have hsml := hall _ (List.getElem_mem hlt)
    refine joinS_of (fun ρ2 w2 => ∃ (T : Tbl) (D : Nat → Prop) (L : List (Int × Value)), TellOk W w2 D cb lb kb n k L T ∧ Known W L T ∧ ∀ i, Slot i → ρ2 i = ρ i) ?_ ?_
    · rintro ρ2 w2 ⟨T2, D2, L2, hok, hkn2, hs2⟩
      rw [hs2 39 (by decide), r39, X_add]
      show _ ∧ _
      refine ⟨⟨i + 1, T2, D2, L2, by omega, hok, hkn2, next64 (n := 9223372036854775806) (by decide) (by omega), (hs2 38 (by decide)).trans r38, (hs2 37 (by decide)).trans r37, (hs2 10 (by decide)).trans r10, (hs2 8 (by decide)).trans r8, (hs2 7 (by decide)).trans r7, (hs2 5 (by decide)).trans r5⟩, ?_⟩
      show (_ - IntKind.i64.wrap _).toNat < _
      rw [w64 (by omega) (by omega)]
      first | omega | (show _ < (_ : Int).toNat; omega)
    intro J2 hJ2
    refine X_takeAct (hu.ext hx) hlt hinA ?_
    intro u1 u2 q w4 hx4 hq hqb
    generalize acts[i] = a at hinA hqb hsml
    have hx04 := hx.trans hx4
    have hc4 := hc.ext hx4
    have hqD : ¬ D q := fun h => by have := hc.lt q h; omega
    have hm4 := hm.ext hx4
    have hkb4 := Ext.get hx4 hkb
    have hqlb : q ≠ lb := fun h => by have := hm.lt; omega
    have hqkb : kb ≠ lb := fun h => by omega
    rw [r8, r10]
    (repeat (first  | simp only [XP_extract0, XP_extract1, XP_extract2, XP_extract3, X_extract0, X_extract1, X_extract2, X_extract3, X_nilS, X_eql_nil_24, X_neq_nil_24, X_eql_nil_103, X_neq_nil_103, X_eql, X_neq, X_lss, X_leq, X_gtr, X_geq, X_not, X_min, X_max, X_len_79, X_len_35, XP_nilS, XP_eql, XP_neq, XP_lss, XP_leq, XP_gtr, XP_geq, XP_not, XP_min, XP_max, XP_len_79, XP_eql_nil_24, X_str_eql, X_str_neq, XP_str_eql, XP_str_neq, GS, gs_u, decide_true, decide_false, Option.isNone_some, Option.isSome_some, Option.isNone_none, Option.isSome_none, eq_self, Bool.not_true, Bool.not_false, Int.reduceEq, Int.reduceNe, Int.reduceLT, Int.reduceLE, Int.reduceGT, Int.reduceGE, X_field_32_0]))
    refine X_of (run_loadAt (v := .bool a.gone) agg_4 ((cell_blk hqb).trans rfl)) ?_
    cases hgone : a.gone with
    | true =>
      (repeat (first  | simp only [XP_extract0, XP_extract1, XP_extract2, XP_extract3, X_extract0, X_extract1, X_extract2, X_extract3, X_nilS, X_eql_nil_24, X_neq_nil_24, X_eql_nil_103, X_neq_nil_103, X_eql, X_neq, X_lss, X_leq, X_gtr, X_geq, X_not, X_min, X_max, X_len_79, X_len_35, XP_nilS, XP_eql, XP_neq, XP_lss, XP_leq, XP_gtr, XP_geq, XP_not, XP_min, XP_max, XP_len_79, XP_eql_nil_24, X_str_eql, X_str_neq, XP_str_eql, XP_str_neq, GS, gs_u, decide_true, decide_false, Option.isNone_some, Option.isSome_some, Option.isNone_none, Option.isSome_none, eq_self, Bool.not_true, Bool.not_false, Int.reduceEq, Int.reduceNe, Int.reduceLT, Int.reduceLE, Int.reduceGT, Int.reduceGE, X_field_32_1]))
      refine X_of (run_loadAt (v := .int .i64 a.s) agg_3 ((cell_blk hqb).trans rfl)) ?_
      refine Drop_spec hc4 hinA.i64 ?_
      intro w5 hk5 hc5
      refine hJ2 _ _ ⟨_, D, L, ⟨Ext.seq hx04 hk5 hD, hc5, hD, hDlb, hDkb, hm4.keep hk5 hDlb, hLn, hLi, hk5.get hDkb hkb4⟩, fun p hp => hkn p (List.mem_filter.1 hp).1, ?_⟩
      intro j hj
      rcases hj with rfl | rfl | rfl | rfl | rfl | rfl | rfl <;> rfl
    | false =>
      (repeat (first  | simp only [XP_extract0, XP_extract1, XP_extract2, XP_extract3, X_extract0, X_extract1, X_extract2, X_extract3, X_nilS, X_eql_nil_24, X_neq_nil_24, X_eql_nil_103, X_neq_nil_103, X_eql, X_neq, X_lss, X_leq, X_gtr, X_geq, X_not, X_min, X_max, X_len_79, X_len_35, XP_nilS, XP_eql, XP_neq, XP_lss, XP_leq, XP_gtr, XP_geq, XP_not, XP_min, XP_max, XP_len_79, XP_eql_nil_24, X_str_eql, X_str_neq, XP_str_eql, XP_str_neq, GS, gs_u, decide_true, decide_false, Option.isNone_some, Option.isSome_some, Option.isNone_none, Option.isSome_none, eq_self, Bool.not_true, Bool.not_false, Int.reduceEq, Int.reduceNe, Int.reduceLT, Int.reduceLE, Int.reduceGT, Int.reduceGE, X_field_32_1]))
      refine joinS_of (fun ρ3 w3 => ∃ (L : List (Int × Value)), TellOk W w3 D cb lb kb n k L T ∧ Known W L (loadT T n a.s a.rows a.d) ∧ w3.heap[q]? = some (.cells a.cs.toArray 32 (0, 0)) ∧ ρ3 12 = ptr q ∧ ∀ i, Slot i → ρ3 i = ρ i) ?_ ?_
      · rintro ρ3 w3 ⟨L3, ⟨gx, gc, gD, gDlb, gDkb, gm, gLn, gLi, gkb⟩, hkn3, gq, g12, gs⟩
        refine tells_c2 W hn2 rfl gx gc gD gDlb gDkb hqD gq gkb gm gLn gLi hinA hsml hkn3 ((gs 8 (by decide)).trans r8) ((gs 10 (by decide)).trans r10) ((gs 5 (by decide)).trans r5) g12 ?_
        rintro ρ4 w4 ⟨D4, e1, e2, e3, e4, e5, e6, e7, e8⟩
        exact hJ2 _ _ ⟨_, D4, L3, ⟨e1, e2, e3, e4, e5, e6, gLn, gLi, e7⟩, hkn3, fun j hj => (e8 j hj).trans (gs j hj)⟩
      intro J3 hJ3
      refine X_of (run_loadAt (v := .int .i64 a.s) agg_3 ((cell_blk hqb).trans rfl)) ?_
      refine Has_spec hc4 hinA.i64 ?_
      by_cases hhad : a.s ∈ shs T
      · have c1 : decide (a.s ∈ shs T) = true := decide_eq_true hhad
        (repeat (first  | simp only [XP_extract0, XP_extract1, XP_extract2, XP_extract3, X_extract0, X_extract1, X_extract2, X_extract3, X_nilS, X_eql_nil_24, X_neq_nil_24, X_eql_nil_103, X_neq_nil_103, X_eql, X_neq, X_lss, X_leq, X_gtr, X_geq, X_not, X_min, X_max, X_len_79, X_len_35, XP_nilS, XP_eql, XP_neq, XP_lss, XP_leq, XP_gtr, XP_geq, XP_not, XP_min, XP_max, XP_len_79, XP_eql_nil_24, X_str_eql, X_str_neq, XP_str_eql, XP_str_neq, GS, gs_u, decide_true, decide_false, Option.isNone_some, Option.isSome_some, Option.isNone_none, Option.isSome_none, eq_self, Bool.not_true, Bool.not_false, Int.reduceEq, Int.reduceNe, Int.reduceLT, Int.reduceLE, Int.reduceGT, Int.reduceGE, c1]))
        refine hJ3 _ _ ⟨L, ⟨hx04, hc4, hD, hDlb, hDkb, hm4, hLn, hLi, hkb4⟩, ?_, hqb, rfl, ?_⟩
        · intro p hp
          rcases mem_loadT hp with hp | ⟨hp, _⟩
          · exact hkn p hp
          · exact absurd hhad hp
        · intro j hj
          rcases hj with rfl | rfl | rfl | rfl | rfl | rfl | rfl <;> rfl
      · have c1 : decide (a.s ∈ shs T) = false := decide_eq_false hhad
        (repeat (first  | simp only [XP_extract0, XP_extract1, XP_extract2, XP_extract3, X_extract0, X_extract1, X_extract2, X_extract3, X_nilS, X_eql_nil_24, X_neq_nil_24, X_eql_nil_103, X_neq_nil_103, X_eql, X_neq, X_lss, X_leq, X_gtr, X_geq, X_not, X_min, X_max, X_len_79, X_len_35, XP_nilS, XP_eql, XP_neq, XP_lss, XP_leq, XP_gtr, XP_geq, XP_not, XP_min, XP_max, XP_len_79, XP_eql_nil_24, X_str_eql, X_str_neq, XP_str_eql, XP_str_neq, GS, gs_u, decide_true, decide_false, Option.isNone_some, Option.isSome_some, Option.isNone_none, Option.isSome_none, eq_self, Bool.not_true, Bool.not_false, Int.reduceEq, Int.reduceNe, Int.reduceLT, Int.reduceLE, Int.reduceGT, Int.reduceGE, c1, X_field_32_1]))
        refine X_of (run_loadAt (v := .int .i64 a.s) agg_3 ((cell_blk hqb).trans rfl)) ?_
        rw [X_field_32_2]
        refine X_of (run_loadAt (v := a.v) agg_29 ((cell_blk hqb).trans rfl)) ?_
        refine XU_last hm4 hLn hLi hinA.i64 ?_
        intro w5 L5 hm5 hn5 hi5 hnew hold hk5
        refine hJ3 _ _ ⟨L5, ⟨Ext.seq hx04 hk5 (fun g hg => by rw [hg]; omega), hc4.keep hk5 (fun g hg he => hDlb (he ▸ hg)), hD, hDlb, hDkb, hm5, hn5, hi5, hk5.get hqkb hkb4⟩, ?_, hk5.get hqlb hqb, rfl, ?_⟩
        · intro p hp
          rcases mem_loadT hp with hp | ⟨_, rfl⟩
          · obtain ⟨v, h1, h2, h3⟩ := hkn p hp
            exact ⟨v, hold _ h1 (fun he => hhad (List.mem_map.2 ⟨p, hp, he⟩)), h2, h3⟩
          · exact ⟨a.v, hnew, hinA.row, hsml⟩
        · intro j hj
          rcases hj with rfl | rfl | rfl | rfl | rfl | rfl | rfl <;> rfl
  · rintro ρ wr ⟨hx, r7⟩
    show ρ 7 = _ ∧ _
    exact ⟨r7, hx⟩
theorem cacheTells_walk {H : Type} (enc : TypeId × Value → H) (W : World) (v0 v1 v2 : Value) {base : Nat} (ok0 : Value.okWide Try.prog W .any base 5 v0) (ok1 : Value.okWide Try.prog W .any base 22 v1) (ok2 : Value.okWide Try.prog W .any base 44 v2) (d0 : DataW H) (p0 : List MemPlace) (d1 : DataW H) (p1 : List MemPlace) (d2 : DataW H) (p2 : List MemPlace) (h0 : DataW.Trod enc Try.prog W 0 (fun _ => true) true 5 v0 d0 p0) (h1 : DataW.Trod enc Try.prog W 0 (fun _ => true) true 22 v1 d1 p1) (h2 : DataW.Trod enc Try.prog W 0 (fun _ => true) true 44 v2 d2 p2) (hsz : (DataW.weightsEach Try.prog [5, 22, 44] [d0, d1, d2]).all (· ≤ reachBytes) = true) :
    CALL Try.prog 6 #[v0, v1, v2] W (fun v w' => v = .bool true ∧ Ext W w') := by
  obtain ⟨r, rfl, hr⟩ := arg_u8 Try.underlying5 ok0 h0
  obtain ⟨l, hl, hin⟩ := arg_acts ok1 h1
  obtain ⟨k, rfl⟩ := arg_key ok2 h2
  exact cacheTells_run hr W hl hin
end
set_option maxRecDepth 100000 in
theorem cacheTells_lifted (os : Os) (started : os.Started) (H : Type) (enc : TypeId × Value → H) :
    ReturnsInHanded {} Try.checked os 6 .any (Rows.cacheTellsSpec.pre6 enc Try.prog Try.f6 Rows.cacheTellsRow.domain false) (Rows.cacheTellsSpec.post enc Try.prog Try.f6 false true false false) := by
  refine returnsInHanded_of_change_sized (C := Try.checked) (by kernel_rfl) started (by kernel_rfl) Try.func6
    (ChangeSpec.witness6 (enc := enc) (C := Try.checked) false ⟨#[], #[(.int .u8 0), (.slice none 0 0), (.agg (List.replicate 32 (Value.int .u8 0) ++ [Value.int .u32 0]).toArray)], []⟩ 8 (by kernel_rfl) (by kernel_rfl) (by kernel_rfl) (by kernel_rfl)) ?_
  intro W base args ds gs before hval0 hW hcnd hsz0 _
  have hval : ∀ (j : Nat) t v, Try.f6.params[j]? = some t → args[j]? = some v → Value.okWide Try.prog W .any base t v := hval0
  have hW' := hW
  obtain ⟨p, q, hA0, hV, rfl, hfz, hnd⟩ := hW
  have hA : DataW.TrodAll enc Try.prog W 0 (fun _ => true) true Try.f6.params.toList args.toList ds p := hA0
  rw [Try.params6] at hA hval
  obtain ⟨v0, vs0, d0, ds0, p0, q0, hargs, rfl, rfl, h0, r0⟩ := trodAll_cons hA
  obtain ⟨v1, vs1, d1, ds1, p1, q1, rfl, rfl, rfl, h1, r1⟩ := trodAll_cons r0
  obtain ⟨v2, vs2, d2, ds2, p2, q2, rfl, rfl, rfl, h2, r2⟩ := trodAll_cons r1
  obtain ⟨rfl, rfl, rfl⟩ := trodAll_nil r2
  obtain rfl : args = #[v0, v1, v2] := by cases args; simp_all
  obtain ⟨rfl, rfl⟩ := trodVars_none hV
  have hsz : (DataW.weightsEach Try.prog [5, 22, 44] [d0, d1, d2]).all (· ≤ reachBytes) = true := hsz0
  have hw := cacheTells_walk enc W v0 v1 v2 (hval 0 5 v0 rfl rfl) (hval 1 22 v1 rfl rfl) (hval 2 44 v2 rfl rfl) d0 p0 d1 p1 d2 p2 h0 h1 h2 hsz
  refine (CALL_calls hw).mono fun e W' he => ?_
  cases e with
  | returned v =>
    obtain ⟨rfl, hx⟩ := he
    exact ⟨_, rfl, law_post (P := Try.prog) laidOut (by kernel_rfl) rfl rfl rfl Try.underlying4 hW' hx⟩
  | panicked c => exact he.elim
  | outgrown => exact he.elim

theorem cacheTells_closed : joinedFacts Try.prog 6 Try.f6 Rows.cacheTellsSpec Rows.cacheTellsRow = true := by
  unfold joinedFacts
  rw [mayEnter_is, liftsFinal_is, make_is]
  kernel_rfl
/-- For every input that the row lets in, cellarage/cellaragelaw14.CacheTells returns true, and what was there stays as it was. -/
theorem cacheTells_holds : Rows.CacheTellsSaid :=
  OpenClaim.holds_of_wide 6 Try.f6 rfl rfl rfl rfl rfl rfl rfl ⟨rfl, rfl, rfl, rfl, rfl⟩ rfl rfl rfl rfl rfl (by kernel_rfl) Try.func6 cacheTells_closed
    (of_decide_eq_true (by kernel_rfl)) (by unfold Func.isWrapper; first | (rw [if_pos (by decide +kernel)]; kernel_rfl) | (rw [if_neg (by decide +kernel)]; exact ⟨rfl, rfl⟩))
    (fun os started H enc _ => cacheTells_lifted os started H enc)
#print axioms cacheTells_holds
end Go.Proofs.Ytlnkdphecinnnaa
