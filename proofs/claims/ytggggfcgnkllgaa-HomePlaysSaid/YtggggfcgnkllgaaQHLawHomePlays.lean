/- cellaragelaw20.HomePlays: whatever is saved, loaded, written and lost, all answers, and the disk, are the document's. -/
import Derived.Test.YtggggfcgnkllgaaQH10
set_option linter.unusedVariables false
set_option linter.unusedSimpArgs false
set_option linter.constructorNameAsVariable false
namespace Go.Proofs.Ytggggfcgnkllgaa
open Go Go.Sh Go.RowKit Go.ChangeShapes Go.WideShapes Go.ChangeAt
open Go.Proofs.Ytggggfcgnkllgaa
section
attribute [local irreducible] X XU XP XR CALL loopS resC closS Value.okWide
theorem XR_strB {D : Nat → Prop} {v : Value} {bs : List UInt8} {w : World} {K : Value → World → Prop} (hb : Bts w v bs) (hd : 0 < bs.length → ∀ k, v.ownBlock = some k → ¬ D k)
    (h : K (.string (str bs)) w) : XR Try.prog (Keep D) (convert 27 9 v) w K := XR_ok (Keep.frame _) (fun w' k => Go.Sh.run_str Try.underlying27 Try.underlying5 Try.underlying9 (hb.keep' k hd)) h
theorem hwrite_ws3 (d : Dk) (t : Nat) (x : List UInt8) : (hwrite d t x).1.ws.length ≤ d.ws.length + (x.length + 127) / 128 := by
  have h := layAll_ws3 d t x
  unfold hwrite
  split
  · exact h
  · have := Dk.flush_ws (layAll d t x).1
    omega
theorem hsave_ws (each : Nat) (d : Dk) {bs : List UInt8} (h : bs.length ≤ 20000) : (hsave each d bs).1.ws.length ≤ d.ws.length + 160 := by
  have h1 := hwrite_ws3 d (2 + harea (hload each d) * each) bs
  have h2 := hwrite_ws3 (hwrite d (2 + harea (hload each d) * each) bs).1 (hpos (hload each d)) (layB (hnext (hload each d) bs))
  rw [layB_len] at h2
  unfold hsave
  repeat' split
  all_goals (try show d.ws.length ≤ _)
  all_goals omega
set_option maxHeartbeats 1000000 in
set_option maxRecDepth 8000 in
/-- The acts, one behind the other. -/
theorem homePlays_loop {W w1 : World} {b b' bh rb N each : Nat} {v1 : Value} {l : List DAct} (h1 : RowK 5 DAct.cs W v1 l) (hin : ∀ a ∈ l, a.In W)
    (okv : hok each N) (D0 : Duo (fun k => W.heap.size ≤ k) W w1 b b' (Dk.new N) (Dk.new N)) (hv0 : HomeAt w1 bh b each) (hrb0 : w1.heap[rb]? = some (.cells (rhc b' each).toArray 162 (0, 0))) (hN : (Dk.new N).safe.length = N) (hN60 : N ≤ 60)
    {x0 : Value} {x1 : Value} {v25_67 : Value} {v24_66 : Value} {v23_65 : Value} {v22_64 : Value} {v20_61 : Value} {v19_60 : Value} {v18_59 : Value} {v17_57 : Value} {v14_54 : Value} {v13_53 : Value} {v12_49 : Value} {v10_47 : Value} {v9_43 : Value} {v7_41 : Value} {v6_38 : Value} {v4_36 : Value} {v2_32 : Value} :
    (B_law20_HomePlays_c7 (.bool false) (.bool false) (w1) (fun v w' => v = .bool true ∧ Ext W w') (.int .i64 0) (.bool true) (v1) x0 x1 v25_67 v24_66 v23_65 v22_64 v20_61 v19_60 v18_59 v17_57 (ptr b) (ptr rb) v14_54 v13_53 (ptr b') v12_49 (ptr bh) v10_47 v9_43 v7_41 (.int .i64 (N : Int)) v6_38 v4_36 v2_32) := by
  have nb : ∀ x : Bool, (x != x) = false := fun x => by cases x <;> rfl
  unfold B_law20_HomePlays_c7
  have e00 : decide ((0 : Int) ≠ 0) = false := by decide
  (repeat (first | with_reducible (first | refine Eq.mpr (B_law20_HomePlays_c8.eq_1 ..) ?_ | refine Eq.mpr (B_law20_HomePlays_c6.eq_1 ..) ?_ | refine Eq.mpr (B_law20_HomePlays_c5.eq_1 ..) ?_ | refine Eq.mpr (B_law20_HomePlays_c4.eq_1 ..) ?_ | refine Eq.mpr (B_law20_HomePlays_c3.eq_1 ..) ?_ | refine Eq.mpr (B_law20_HomePlays_c2.eq_1 ..) ?_ | refine Eq.mpr (B_law20_HomePlays_c1.eq_1 ..) ?_) | simp only [XP_extract0, XP_extract1, XP_extract2, XP_extract3, X_extract0, X_extract1, X_extract2, X_extract3, X_nilS, X_eql_nil_74, X_neq_nil_74, X_eql_nil_124, X_neq_nil_124, X_eql, X_neq, X_lss, X_leq, X_gtr, X_geq, X_not, X_min, X_max, X_len_27, X_len_9, X_len_79, XP_nilS, XP_eql, XP_neq, XP_lss, XP_leq, XP_gtr, XP_geq, XP_not, XP_min, XP_max, XP_len_27, XP_len_9, XP_eql_nil_74, X_str_eql, X_str_neq, XP_str_eql, XP_str_neq, GS, gs_u, decide_true, decide_false, Option.isNone_some, Option.isSome_some, Option.isNone_none, Option.isSome_none, eq_self, Bool.not_true, Bool.not_false, Int.reduceEq, Int.reduceNe, Int.reduceLT, Int.reduceLE, Int.reduceGT, Int.reduceGE, e00]))
  refine few20_spec (h1.ext D0.out) (fun a ha => (hin a ha).ext D0.out) ?_
  intro m v3 hm60 hml hr3 hbs
  have hrow := hr3 W h1
  have hlen3 : (l.take m).length = m := by simp; omega
  have hin' : ∀ a ∈ l.take m, a.In W := fun a ha => hin a (List.mem_of_mem_take ha)
  generalize l.take m = l3 at hrow hlen3 hbs hin'
  obtain ⟨a3, c3, e3⟩ := hrow.slice
  rw [hlen3] at e3
  rw [e3, X_len_157, ← e3]
  refine loopG 0 (fun ρ wr => ∃ (i : Nat) (d : Dk), i ≤ m ∧ Duo (fun k => W.heap.size ≤ k) W wr b b' d d ∧ HomeAt wr bh b each ∧ wr.heap[rb]? = some (.cells (rhc b' each).toArray 162 (0, 0)) ∧ d.safe.length = N ∧ d.ws.length ≤ 200 * i ∧
      ρ 76 = .int .i64 (i : Int) ∧ ρ 75 = .int .i64 (m : Int) ∧ ρ 74 = v3 ∧ ρ 15 = ptr rb ∧ ρ 13 = ptr bh ∧ ρ 11 = ptr b' ∧ ρ 9 = ptr b ∧ ρ 8 = .int .i64 (N : Int) ∧ ρ 7 = .bool true)
    (fun ρ wr => match ρ 76 with | .int _ s => (m - s).toNat | _ => 0)
    (fun ρ wr => ∃ d, Duo (fun k => W.heap.size ≤ k) W wr b b' d d ∧ d.safe.length = N ∧ d.ws.length ≤ 10000 ∧ ρ 11 = ptr b' ∧ ρ 9 = ptr b ∧ ρ 8 = .int .i64 (N : Int) ∧ ρ 7 = .bool true) ?_ ?_ ?_
  · exact ⟨0, _, by omega, D0, hv0, hrb0, hN, by show 0 ≤ _; omega, rfl, rfl, rfl, rfl, rfl, rfl, rfl, rfl, rfl⟩
  · rintro J hJ ρ wr ⟨i, d, hi, D, hv, hrb, hsz, hws, r95, r94, r93, r13, r11, r9, r7, r6, r5⟩
    rw [r95, r94, r93, X_lss, condS_bool]
    by_cases him : i = m
    · rw [if_neg (by simp; omega)]
      exact hJ _ _ ⟨d, D, hsz, by omega, r9, r7, r6, r5⟩
    rw [if_pos (by simp; omega)]
    have hit : i < l3.length := by omega
    have hai := hin' _ (List.getElem_mem hit)
    have hbi := hbs _ (List.getElem_mem hit)
    unfold B_law20_HomePlays_c5
    refine X_takeAct20 (hrow.ext D.out) hit (hai.ext D.out) ?_
    intro u1 u2 q w4 hx4 hq hqb
    generalize l3[i] = A at hai hbi hqb
    have D4 := D.more hx4
    have hv4 : HomeAt w4 bh b each := hx4.get hv
    have hrb4 := hx4.get hrb
    have okd : hok each d.safe.length := by rw [hsz]; exact okv
    refine joinS_of (fun ρ' w' => ∃ d2 : Dk, Duo (fun k => W.heap.size ≤ k) W w' b b' d2 d2 ∧ HomeAt w' bh b each ∧ w'.heap[rb]? = some (.cells (rhc b' each).toArray 162 (0, 0)) ∧ d2.safe.length = N ∧ d2.ws.length ≤ 200 * (i + 1) ∧
      ρ' 76 = .int .i64 (i : Int) ∧ ρ' 75 = .int .i64 (m : Int) ∧ ρ' 74 = v3 ∧ ρ' 15 = ptr rb ∧ ρ' 13 = ptr bh ∧ ρ' 11 = ptr b' ∧ ρ' 9 = ptr b ∧ ρ' 8 = .int .i64 (N : Int) ∧ ρ' 7 = .bool true) ?_ ?_
    · rintro ρ' w' ⟨d2, D2, hv2, hrb2, hsz2, hws2, g95, g94, g93, g13, g11, g9, g7, g6, g5⟩
      unfold B_law20_HomePlays_c1
      rw [g9, g7]
      have Dd := D2.more (Keep.drew (fun _ => False) w')
      obtain ⟨okr, sv, pv, hr⟩ := Dd.ref
      refine ⟨Ext, Ext.frame, ?_⟩
      (repeat (first | with_reducible (first | refine Eq.mpr (B_law20_HomePlays_c8.eq_1 ..) ?_ | refine Eq.mpr (B_law20_HomePlays_c6.eq_1 ..) ?_ | refine Eq.mpr (B_law20_HomePlays_c5.eq_1 ..) ?_ | refine Eq.mpr (B_law20_HomePlays_c4.eq_1 ..) ?_ | refine Eq.mpr (B_law20_HomePlays_c3.eq_1 ..) ?_ | refine Eq.mpr (B_law20_HomePlays_c2.eq_1 ..) ?_ | refine Eq.mpr (B_law20_HomePlays_c1.eq_1 ..) ?_) | simp only [XP_extract0, XP_extract1, XP_extract2, XP_extract3, X_extract0, X_extract1, X_extract2, X_extract3, X_nilS, X_eql_nil_74, X_neq_nil_74, X_eql_nil_124, X_neq_nil_124, X_eql, X_neq, X_lss, X_leq, X_gtr, X_geq, X_not, X_min, X_max, X_len_27, X_len_9, X_len_79, XP_nilS, XP_eql, XP_neq, XP_lss, XP_leq, XP_gtr, XP_geq, XP_not, XP_min, XP_max, XP_len_27, XP_len_9, XP_eql_nil_74, X_str_eql, X_str_neq, XP_str_eql, XP_str_neq, GS, gs_u, decide_true, decide_false, Option.isNone_some, Option.isSome_some, Option.isNone_none, Option.isSome_none, eq_self, Bool.not_true, Bool.not_false, Int.reduceEq, Int.reduceNe, Int.reduceLT, Int.reduceLE, Int.reduceGT, Int.reduceGE]))
      rw [XP_field_148_4]
      refine XR_ok Ext.frame (fun w' k => run_loadAt agg_3 (blk_get (k.get hr.blk) (v := .int .i64 d2.done) rfl)) ?_
      refine Done_spec Dd.disk ?_
      refine ⟨Keep.refl _ _, ?_⟩
      have en : decide (d2.done ≠ d2.done) = false := by simp
      (repeat (first | with_reducible (first | refine Eq.mpr (B_law20_HomePlays_c8.eq_1 ..) ?_ | refine Eq.mpr (B_law20_HomePlays_c6.eq_1 ..) ?_ | refine Eq.mpr (B_law20_HomePlays_c5.eq_1 ..) ?_ | refine Eq.mpr (B_law20_HomePlays_c4.eq_1 ..) ?_ | refine Eq.mpr (B_law20_HomePlays_c3.eq_1 ..) ?_ | refine Eq.mpr (B_law20_HomePlays_c2.eq_1 ..) ?_ | refine Eq.mpr (B_law20_HomePlays_c1.eq_1 ..) ?_) | simp only [XP_extract0, XP_extract1, XP_extract2, XP_extract3, X_extract0, X_extract1, X_extract2, X_extract3, X_nilS, X_eql_nil_74, X_neq_nil_74, X_eql_nil_124, X_neq_nil_124, X_eql, X_neq, X_lss, X_leq, X_gtr, X_geq, X_not, X_min, X_max, X_len_27, X_len_9, X_len_79, XP_nilS, XP_eql, XP_neq, XP_lss, XP_leq, XP_gtr, XP_geq, XP_not, XP_min, XP_max, XP_len_27, XP_len_9, XP_eql_nil_74, X_str_eql, X_str_neq, XP_str_eql, XP_str_neq, GS, gs_u, decide_true, decide_false, Option.isNone_some, Option.isSome_some, Option.isNone_none, Option.isSome_none, eq_self, Bool.not_true, Bool.not_false, Int.reduceEq, Int.reduceNe, Int.reduceLT, Int.reduceLE, Int.reduceGT, Int.reduceGE, en]))
      rw [XP_field_148_2]
      refine XR_ok Ext.frame (fun w' k => run_loadAt agg_4 (blk_get (k.get hr.blk) (v := .bool d2.dead) rfl)) ?_
      refine Dead_spec Dd.disk ?_
      refine ⟨Keep.refl _ _, ?_⟩
      refine XP_of (fun w => Go.Sh.run_neq_bool Try.underlying4 _ _ _ _ w) ?_
      rw [nb]
      (repeat (first | with_reducible (first | refine Eq.mpr (B_law20_HomePlays_c8.eq_1 ..) ?_ | refine Eq.mpr (B_law20_HomePlays_c6.eq_1 ..) ?_ | refine Eq.mpr (B_law20_HomePlays_c5.eq_1 ..) ?_ | refine Eq.mpr (B_law20_HomePlays_c4.eq_1 ..) ?_ | refine Eq.mpr (B_law20_HomePlays_c3.eq_1 ..) ?_ | refine Eq.mpr (B_law20_HomePlays_c2.eq_1 ..) ?_ | refine Eq.mpr (B_law20_HomePlays_c1.eq_1 ..) ?_) | simp only [XP_extract0, XP_extract1, XP_extract2, XP_extract3, X_extract0, X_extract1, X_extract2, X_extract3, X_nilS, X_eql_nil_74, X_neq_nil_74, X_eql_nil_124, X_neq_nil_124, X_eql, X_neq, X_lss, X_leq, X_gtr, X_geq, X_not, X_min, X_max, X_len_27, X_len_9, X_len_79, XP_nilS, XP_eql, XP_neq, XP_lss, XP_leq, XP_gtr, XP_geq, XP_not, XP_min, XP_max, XP_len_27, XP_len_9, XP_eql_nil_74, X_str_eql, X_str_neq, XP_str_eql, XP_str_neq, GS, gs_u, decide_true, decide_false, Option.isNone_some, Option.isSome_some, Option.isNone_none, Option.isSome_none, eq_self, Bool.not_true, Bool.not_false, Int.reduceEq, Int.reduceNe, Int.reduceLT, Int.reduceLE, Int.reduceGT, Int.reduceGE]))
      rw [XP_field_148_1]
      refine XR_ok Ext.frame (fun w' k => run_loadAt agg_146 (blk_get (k.get hr.blk) (v := pv) rfl)) ?_
      obtain ⟨ap, cp, ep⟩ := own_sl hr.ws
      rw [ep]
      (repeat (first | with_reducible (first | refine Eq.mpr (B_law20_HomePlays_c8.eq_1 ..) ?_ | refine Eq.mpr (B_law20_HomePlays_c6.eq_1 ..) ?_ | refine Eq.mpr (B_law20_HomePlays_c5.eq_1 ..) ?_ | refine Eq.mpr (B_law20_HomePlays_c4.eq_1 ..) ?_ | refine Eq.mpr (B_law20_HomePlays_c3.eq_1 ..) ?_ | refine Eq.mpr (B_law20_HomePlays_c2.eq_1 ..) ?_ | refine Eq.mpr (B_law20_HomePlays_c1.eq_1 ..) ?_) | simp only [XP_extract0, XP_extract1, XP_extract2, XP_extract3, X_extract0, X_extract1, X_extract2, X_extract3, X_nilS, X_eql_nil_74, X_neq_nil_74, X_eql_nil_124, X_neq_nil_124, X_eql, X_neq, X_lss, X_leq, X_gtr, X_geq, X_not, X_min, X_max, X_len_27, X_len_9, X_len_79, XP_nilS, XP_eql, XP_neq, XP_lss, XP_leq, XP_gtr, XP_geq, XP_not, XP_min, XP_max, XP_len_27, XP_len_9, XP_eql_nil_74, X_str_eql, X_str_neq, XP_str_eql, XP_str_neq, GS, gs_u, decide_true, decide_false, Option.isNone_some, Option.isSome_some, Option.isNone_none, Option.isSome_none, eq_self, Bool.not_true, Bool.not_false, Int.reduceEq, Int.reduceNe, Int.reduceLT, Int.reduceLE, Int.reduceGT, Int.reduceGE, XP_len_146]))
      refine Pending_spec Dd.disk ?_
      refine ⟨Keep.refl _ _, ?_⟩
      have ew : decide ((d2.ws.length : Int) ≠ (d2.ws.length : Int)) = false := by simp
      (repeat (first | with_reducible (first | refine Eq.mpr (B_law20_HomePlays_c8.eq_1 ..) ?_ | refine Eq.mpr (B_law20_HomePlays_c6.eq_1 ..) ?_ | refine Eq.mpr (B_law20_HomePlays_c5.eq_1 ..) ?_ | refine Eq.mpr (B_law20_HomePlays_c4.eq_1 ..) ?_ | refine Eq.mpr (B_law20_HomePlays_c3.eq_1 ..) ?_ | refine Eq.mpr (B_law20_HomePlays_c2.eq_1 ..) ?_ | refine Eq.mpr (B_law20_HomePlays_c1.eq_1 ..) ?_) | simp only [XP_extract0, XP_extract1, XP_extract2, XP_extract3, X_extract0, X_extract1, X_extract2, X_extract3, X_nilS, X_eql_nil_74, X_neq_nil_74, X_eql_nil_124, X_neq_nil_124, X_eql, X_neq, X_lss, X_leq, X_gtr, X_geq, X_not, X_min, X_max, X_len_27, X_len_9, X_len_79, XP_nilS, XP_eql, XP_neq, XP_lss, XP_leq, XP_gtr, XP_geq, XP_not, XP_min, XP_max, XP_len_27, XP_len_9, XP_eql_nil_74, X_str_eql, X_str_neq, XP_str_eql, XP_str_neq, GS, gs_u, decide_true, decide_false, Option.isNone_some, Option.isSome_some, Option.isNone_none, Option.isSome_none, eq_self, Bool.not_true, Bool.not_false, Int.reduceEq, Int.reduceNe, Int.reduceLT, Int.reduceLE, Int.reduceGT, Int.reduceGE, ew]))
      rw [g95, X_add]
      show _ ∧ _
      refine ⟨⟨i + 1, d2, by omega, Dd, hv2, hrb2, hsz2, hws2, next64 (n := 50) (by decide) (by omega), g94, g93, g13, g11, g9, g7, g6, g5⟩, ?_⟩
      show (_ - IntKind.i64.wrap _).toNat < _
      rw [w64 (by omega) (by omega)]
      first | omega | (show _ < (_ : Int).toNat; omega)
    · intro J2 hJ2
      have off4 : ∀ {w : World} {e : Dk}, Duo (fun k => W.heap.size ≤ k) W w b b' e e → Off w b A ∧ Off w b' A := fun D => ⟨off_of hai D.low, off_of hai D.low'⟩
      rw [X_field_159_0]
      refine X_loadL agg_5 hqb (v := .int .u8 (A.kind : Int)) rfl ?_
      refine X_of (kind5 5 _ _) ?_
      have hk6 : A.kind % 5 < 5 := Nat.mod_lt _ (by decide)
      generalize A.kind % 5 = kd at hk6
      (repeat (first | with_reducible (first | refine Eq.mpr (B_law20_HomePlays_c8.eq_1 ..) ?_ | refine Eq.mpr (B_law20_HomePlays_c6.eq_1 ..) ?_ | refine Eq.mpr (B_law20_HomePlays_c5.eq_1 ..) ?_ | refine Eq.mpr (B_law20_HomePlays_c4.eq_1 ..) ?_ | refine Eq.mpr (B_law20_HomePlays_c3.eq_1 ..) ?_ | refine Eq.mpr (B_law20_HomePlays_c2.eq_1 ..) ?_ | refine Eq.mpr (B_law20_HomePlays_c1.eq_1 ..) ?_) | simp only [XP_extract0, XP_extract1, XP_extract2, XP_extract3, X_extract0, X_extract1, X_extract2, X_extract3, X_nilS, X_eql_nil_74, X_neq_nil_74, X_eql_nil_124, X_neq_nil_124, X_eql, X_neq, X_lss, X_leq, X_gtr, X_geq, X_not, X_min, X_max, X_len_27, X_len_9, X_len_79, XP_nilS, XP_eql, XP_neq, XP_lss, XP_leq, XP_gtr, XP_geq, XP_not, XP_min, XP_max, XP_len_27, XP_len_9, XP_eql_nil_74, X_str_eql, X_str_neq, XP_str_eql, XP_str_neq, GS, gs_u, decide_true, decide_false, Option.isNone_some, Option.isSome_some, Option.isNone_none, Option.isSome_none, eq_self, Bool.not_true, Bool.not_false, Int.reduceEq, Int.reduceNe, Int.reduceLT, Int.reduceLE, Int.reduceGT, Int.reduceGE]))
      by_cases k0 : kd = 0
      · have c : decide ((kd : Int) = 0) = true := by simp; omega
        (repeat (first | with_reducible (first | refine Eq.mpr (B_law20_HomePlays_c8.eq_1 ..) ?_ | refine Eq.mpr (B_law20_HomePlays_c6.eq_1 ..) ?_ | refine Eq.mpr (B_law20_HomePlays_c5.eq_1 ..) ?_ | refine Eq.mpr (B_law20_HomePlays_c4.eq_1 ..) ?_ | refine Eq.mpr (B_law20_HomePlays_c3.eq_1 ..) ?_ | refine Eq.mpr (B_law20_HomePlays_c2.eq_1 ..) ?_ | refine Eq.mpr (B_law20_HomePlays_c1.eq_1 ..) ?_) | simp only [XP_extract0, XP_extract1, XP_extract2, XP_extract3, X_extract0, X_extract1, X_extract2, X_extract3, X_nilS, X_eql_nil_74, X_neq_nil_74, X_eql_nil_124, X_neq_nil_124, X_eql, X_neq, X_lss, X_leq, X_gtr, X_geq, X_not, X_min, X_max, X_len_27, X_len_9, X_len_79, XP_nilS, XP_eql, XP_neq, XP_lss, XP_leq, XP_gtr, XP_geq, XP_not, XP_min, XP_max, XP_len_27, XP_len_9, XP_eql_nil_74, X_str_eql, X_str_neq, XP_str_eql, XP_str_neq, GS, gs_u, decide_true, decide_false, Option.isNone_some, Option.isSome_some, Option.isNone_none, Option.isSome_none, eq_self, Bool.not_true, Bool.not_false, Int.reduceEq, Int.reduceNe, Int.reduceLT, Int.reduceLE, Int.reduceGT, Int.reduceGE, c]))
        try unfold B_law20_HomePlays_c2
        have Dd := D4.more (Keep.drew (fun _ => False) w4)
        have hqd : (drewW w4).heap[q]? = some (.cells A.cs.toArray 159 (0, 0)) := hqb
        have hvd : HomeAt (drewW w4) bh b each := hv4
        have hrbd : (drewW w4).heap[rb]? = some (.cells (rhc b' each).toArray 162 (0, 0)) := hrb4
        generalize drewW w4 = w5 at Dd hqd hvd hrbd ⊢
        have G := Dd.start
        have nq := Dd.no hqd (by decide) (by decide) (by decide) (by decide) (by decide) (by decide)
        have nrb := Dd.no hrbd (by decide) (by decide) (by decide) (by decide) (by decide) (by decide)
        have nv := Dd.no hvd (by decide) (by decide) (by decide) (by decide) (by decide) (by decide)
        have nbv : 0 < A.bs.length → ∀ k, A.bv.ownBlock = some k → ¬ Both w5 b b' k := fun h0 k hk hB => by
          have := hai.bts.blk_lt h0 k hk
          rcases hB with hB | hB | hB
          · have := Dd.keep.size; omega
          · have := Dd.low k hB; omega
          · have := Dd.low' k hB; omega
        refine ⟨Keep (Both w5 b b'), Keep.frame _, ?_⟩
        rw [XP_field_159_3]
        refine XR_ok (Keep.frame _) (fun w' k => run_loadAt agg_27 (blk_get (k.get nq hqd) (v := A.bv) rfl)) ?_
        rw [r13]
        refine XR_ok (Keep.frame _) (fun w' k => run_loadAgg Try.underlying162 agg_162 info_162 (l := rhc b' each) (k.get nrb hrbd) (by rw [sz_162]; rfl) (by rw [sz_162]; rfl)) ?_
        rw [XP_field_159_3]
        refine XR_ok (Keep.frame _) (fun w' k => run_loadAt agg_27 (blk_get (k.get nq hqd) (v := A.bv) rfl)) ?_
        refine XR_strB (hai.bts.ext Dd.out) nbv ?_
        refine X_of (run_empty27 _) ?_
        have hxe := newB_ext w5 #[] 5
        refine ⟨hxe.ext, ?_⟩
        refine X_append_bts (xs := []) Try.underlying27 el_5 (own_emptyT w5 5 1) ((hai.bts.ext Dd.out).ext hxe) (by omega) (by rw [newB_size]; omega) ?_
        intro u w6 hu6 hk6'
        rw [List.nil_append] at hu6
        refine ⟨hk6'.mono (fun k _ hk => .inl ?_), ?_⟩
        · have : k = w5.heap.size := by injection hk.symm with h; exact h.symm
          omega
        have hx6 : Ext w5 w6 := Ext.seq hxe hk6' (fun k hk => by
          have : k = w5.heap.size := by injection hk.symm with h; exact h.symm
          omega)
        have G6 := G.more hx6
        rw [r11]
        have hv6 : HomeAt w6 bh b each := hx6.get hvd
        refine HSave_spec hv6 G6.disk okd (by omega) (own_bts hu6).1 (fun _ k hk => ⟨fun hf => ?_, (hu6.lt k hk).2⟩) ?_
        · have h1 := (hu6.lt k hk).1
          have h2 := Dd.disk.lt k ((foot_x hx6 Dd.b_lt).1 hf)
          omega
        intro w7 hd7 s7
        refine ⟨G6.stepL s7, ?_⟩
        have G7 := G6.left hd7 s7
        refine RHSave_spec G7.ref okd (by omega) ?_
        intro w8 hr8 s8
        refine ⟨G7.stepR s8, ?_⟩
        have G8 := G7.right hr8 s8
        have en : decide ((hsave each d A.bs).2 ≠ (hsave each d A.bs).2) = false := by simp
        (repeat (first | with_reducible (first | refine Eq.mpr (B_law20_HomePlays_c8.eq_1 ..) ?_ | refine Eq.mpr (B_law20_HomePlays_c6.eq_1 ..) ?_ | refine Eq.mpr (B_law20_HomePlays_c5.eq_1 ..) ?_ | refine Eq.mpr (B_law20_HomePlays_c4.eq_1 ..) ?_ | refine Eq.mpr (B_law20_HomePlays_c3.eq_1 ..) ?_ | refine Eq.mpr (B_law20_HomePlays_c2.eq_1 ..) ?_ | refine Eq.mpr (B_law20_HomePlays_c1.eq_1 ..) ?_) | simp only [XP_extract0, XP_extract1, XP_extract2, XP_extract3, X_extract0, X_extract1, X_extract2, X_extract3, X_nilS, X_eql_nil_74, X_neq_nil_74, X_eql_nil_124, X_neq_nil_124, X_eql, X_neq, X_lss, X_leq, X_gtr, X_geq, X_not, X_min, X_max, X_len_27, X_len_9, X_len_79, XP_nilS, XP_eql, XP_neq, XP_lss, XP_leq, XP_gtr, XP_geq, XP_not, XP_min, XP_max, XP_len_27, XP_len_9, XP_eql_nil_74, X_str_eql, X_str_neq, XP_str_eql, XP_str_neq, GS, gs_u, decide_true, decide_false, Option.isNone_some, Option.isSome_some, Option.isNone_none, Option.isSome_none, eq_self, Bool.not_true, Bool.not_false, Int.reduceEq, Int.reduceNe, Int.reduceLT, Int.reduceLE, Int.reduceGT, Int.reduceGE, en]))
        have D8 := Dd.after G8
        exact hJ2 _ _ ⟨_, D8, G8.keep.get nv hvd, G8.keep.get nrb hrbd, (hsave_size _ _ _).trans hsz, by have := hsave_ws each d (bs := A.bs) hbi; omega, r95, r94, r93, r13, r11, r9, r7, r6, r5⟩
      have c : decide ((kd : Int) = 0) = false := by simp; omega
      (repeat (first | with_reducible (first | refine Eq.mpr (B_law20_HomePlays_c8.eq_1 ..) ?_ | refine Eq.mpr (B_law20_HomePlays_c6.eq_1 ..) ?_ | refine Eq.mpr (B_law20_HomePlays_c5.eq_1 ..) ?_ | refine Eq.mpr (B_law20_HomePlays_c4.eq_1 ..) ?_ | refine Eq.mpr (B_law20_HomePlays_c3.eq_1 ..) ?_ | refine Eq.mpr (B_law20_HomePlays_c2.eq_1 ..) ?_ | refine Eq.mpr (B_law20_HomePlays_c1.eq_1 ..) ?_) | simp only [XP_extract0, XP_extract1, XP_extract2, XP_extract3, X_extract0, X_extract1, X_extract2, X_extract3, X_nilS, X_eql_nil_74, X_neq_nil_74, X_eql_nil_124, X_neq_nil_124, X_eql, X_neq, X_lss, X_leq, X_gtr, X_geq, X_not, X_min, X_max, X_len_27, X_len_9, X_len_79, XP_nilS, XP_eql, XP_neq, XP_lss, XP_leq, XP_gtr, XP_geq, XP_not, XP_min, XP_max, XP_len_27, XP_len_9, XP_eql_nil_74, X_str_eql, X_str_neq, XP_str_eql, XP_str_neq, GS, gs_u, decide_true, decide_false, Option.isNone_some, Option.isSome_some, Option.isNone_none, Option.isSome_none, eq_self, Bool.not_true, Bool.not_false, Int.reduceEq, Int.reduceNe, Int.reduceLT, Int.reduceLE, Int.reduceGT, Int.reduceGE, c]))
      by_cases k1 : kd = 1
      · have c : decide ((kd : Int) = 1) = true := by simp; omega
        (repeat (first | with_reducible (first | refine Eq.mpr (B_law20_HomePlays_c8.eq_1 ..) ?_ | refine Eq.mpr (B_law20_HomePlays_c6.eq_1 ..) ?_ | refine Eq.mpr (B_law20_HomePlays_c5.eq_1 ..) ?_ | refine Eq.mpr (B_law20_HomePlays_c4.eq_1 ..) ?_ | refine Eq.mpr (B_law20_HomePlays_c3.eq_1 ..) ?_ | refine Eq.mpr (B_law20_HomePlays_c2.eq_1 ..) ?_ | refine Eq.mpr (B_law20_HomePlays_c1.eq_1 ..) ?_) | simp only [XP_extract0, XP_extract1, XP_extract2, XP_extract3, X_extract0, X_extract1, X_extract2, X_extract3, X_nilS, X_eql_nil_74, X_neq_nil_74, X_eql_nil_124, X_neq_nil_124, X_eql, X_neq, X_lss, X_leq, X_gtr, X_geq, X_not, X_min, X_max, X_len_27, X_len_9, X_len_79, XP_nilS, XP_eql, XP_neq, XP_lss, XP_leq, XP_gtr, XP_geq, XP_not, XP_min, XP_max, XP_len_27, XP_len_9, XP_eql_nil_74, X_str_eql, X_str_neq, XP_str_eql, XP_str_neq, GS, gs_u, decide_true, decide_false, Option.isNone_some, Option.isSome_some, Option.isNone_none, Option.isSome_none, eq_self, Bool.not_true, Bool.not_false, Int.reduceEq, Int.reduceNe, Int.reduceLT, Int.reduceLE, Int.reduceGT, Int.reduceGE, c]))
        rw [r11, r13]
        refine HLoad_spec hv4 D4.disk okd ?_
        intro u w5 hx5 hu5
        have D5 := D4.more hx5
        have hrb5 := hx5.get hrb4
        (repeat (first | with_reducible (first | refine Eq.mpr (B_law20_HomePlays_c8.eq_1 ..) ?_ | refine Eq.mpr (B_law20_HomePlays_c6.eq_1 ..) ?_ | refine Eq.mpr (B_law20_HomePlays_c5.eq_1 ..) ?_ | refine Eq.mpr (B_law20_HomePlays_c4.eq_1 ..) ?_ | refine Eq.mpr (B_law20_HomePlays_c3.eq_1 ..) ?_ | refine Eq.mpr (B_law20_HomePlays_c2.eq_1 ..) ?_ | refine Eq.mpr (B_law20_HomePlays_c1.eq_1 ..) ?_) | simp only [XP_extract0, XP_extract1, XP_extract2, XP_extract3, X_extract0, X_extract1, X_extract2, X_extract3, X_nilS, X_eql_nil_74, X_neq_nil_74, X_eql_nil_124, X_neq_nil_124, X_eql, X_neq, X_lss, X_leq, X_gtr, X_geq, X_not, X_min, X_max, X_len_27, X_len_9, X_len_79, XP_nilS, XP_eql, XP_neq, XP_lss, XP_leq, XP_gtr, XP_geq, XP_not, XP_min, XP_max, XP_len_27, XP_len_9, XP_eql_nil_74, X_str_eql, X_str_neq, XP_str_eql, XP_str_neq, GS, gs_u, decide_true, decide_false, Option.isNone_some, Option.isSome_some, Option.isNone_none, Option.isSome_none, eq_self, Bool.not_true, Bool.not_false, Int.reduceEq, Int.reduceNe, Int.reduceLT, Int.reduceLE, Int.reduceGT, Int.reduceGE]))
        refine X_loadAgg Try.underlying162 agg_162 info_162 (l := rhc b' each) hrb5 (by rw [sz_162]; rfl) ?_
        (repeat (first | with_reducible (first | refine Eq.mpr (B_law20_HomePlays_c8.eq_1 ..) ?_ | refine Eq.mpr (B_law20_HomePlays_c6.eq_1 ..) ?_ | refine Eq.mpr (B_law20_HomePlays_c5.eq_1 ..) ?_ | refine Eq.mpr (B_law20_HomePlays_c4.eq_1 ..) ?_ | refine Eq.mpr (B_law20_HomePlays_c3.eq_1 ..) ?_ | refine Eq.mpr (B_law20_HomePlays_c2.eq_1 ..) ?_ | refine Eq.mpr (B_law20_HomePlays_c1.eq_1 ..) ?_) | simp only [XP_extract0, XP_extract1, XP_extract2, XP_extract3, X_extract0, X_extract1, X_extract2, X_extract3, X_nilS, X_eql_nil_74, X_neq_nil_74, X_eql_nil_124, X_neq_nil_124, X_eql, X_neq, X_lss, X_leq, X_gtr, X_geq, X_not, X_min, X_max, X_len_27, X_len_9, X_len_79, XP_nilS, XP_eql, XP_neq, XP_lss, XP_leq, XP_gtr, XP_geq, XP_not, XP_min, XP_max, XP_len_27, XP_len_9, XP_eql_nil_74, X_str_eql, X_str_neq, XP_str_eql, XP_str_neq, GS, gs_u, decide_true, decide_false, Option.isNone_some, Option.isSome_some, Option.isNone_none, Option.isSome_none, eq_self, Bool.not_true, Bool.not_false, Int.reduceEq, Int.reduceNe, Int.reduceLT, Int.reduceLE, Int.reduceGT, Int.reduceGE]))
        refine RHLoad_spec D5.ref okd (by omega) ?_
        intro w6 hx6
        (repeat (first | with_reducible (first | refine Eq.mpr (B_law20_HomePlays_c8.eq_1 ..) ?_ | refine Eq.mpr (B_law20_HomePlays_c6.eq_1 ..) ?_ | refine Eq.mpr (B_law20_HomePlays_c5.eq_1 ..) ?_ | refine Eq.mpr (B_law20_HomePlays_c4.eq_1 ..) ?_ | refine Eq.mpr (B_law20_HomePlays_c3.eq_1 ..) ?_ | refine Eq.mpr (B_law20_HomePlays_c2.eq_1 ..) ?_ | refine Eq.mpr (B_law20_HomePlays_c1.eq_1 ..) ?_) | simp only [XP_extract0, XP_extract1, XP_extract2, XP_extract3, X_extract0, X_extract1, X_extract2, X_extract3, X_nilS, X_eql_nil_74, X_neq_nil_74, X_eql_nil_124, X_neq_nil_124, X_eql, X_neq, X_lss, X_leq, X_gtr, X_geq, X_not, X_min, X_max, X_len_27, X_len_9, X_len_79, XP_nilS, XP_eql, XP_neq, XP_lss, XP_leq, XP_gtr, XP_geq, XP_not, XP_min, XP_max, XP_len_27, XP_len_9, XP_eql_nil_74, X_str_eql, X_str_neq, XP_str_eql, XP_str_neq, GS, gs_u, decide_true, decide_false, Option.isNone_some, Option.isSome_some, Option.isNone_none, Option.isSome_none, eq_self, Bool.not_true, Bool.not_false, Int.reduceEq, Int.reduceNe, Int.reduceLT, Int.reduceLE, Int.reduceGT, Int.reduceGE]))
        refine X_str Try.underlying27 Try.underlying5 Try.underlying9 ((own_bts hu5).1.ext hx6) ?_
        have cz : ((str (hload each d).bs).toList != (str (hload each d).bs).toList) = false := by simp
        have cg : decide (((hload each d).s.gen : Int) ≠ ((hload each d).s.gen : Int)) = false := by simp
        have cn : decide ((hload each d).err ≠ (hload each d).err) = false := by simp
        (repeat (first | with_reducible (first | refine Eq.mpr (B_law20_HomePlays_c8.eq_1 ..) ?_ | refine Eq.mpr (B_law20_HomePlays_c6.eq_1 ..) ?_ | refine Eq.mpr (B_law20_HomePlays_c5.eq_1 ..) ?_ | refine Eq.mpr (B_law20_HomePlays_c4.eq_1 ..) ?_ | refine Eq.mpr (B_law20_HomePlays_c3.eq_1 ..) ?_ | refine Eq.mpr (B_law20_HomePlays_c2.eq_1 ..) ?_ | refine Eq.mpr (B_law20_HomePlays_c1.eq_1 ..) ?_) | simp only [XP_extract0, XP_extract1, XP_extract2, XP_extract3, X_extract0, X_extract1, X_extract2, X_extract3, X_nilS, X_eql_nil_74, X_neq_nil_74, X_eql_nil_124, X_neq_nil_124, X_eql, X_neq, X_lss, X_leq, X_gtr, X_geq, X_not, X_min, X_max, X_len_27, X_len_9, X_len_79, XP_nilS, XP_eql, XP_neq, XP_lss, XP_leq, XP_gtr, XP_geq, XP_not, XP_min, XP_max, XP_len_27, XP_len_9, XP_eql_nil_74, X_str_eql, X_str_neq, XP_str_eql, XP_str_neq, GS, gs_u, decide_true, decide_false, Option.isNone_some, Option.isSome_some, Option.isNone_none, Option.isSome_none, eq_self, Bool.not_true, Bool.not_false, Int.reduceEq, Int.reduceNe, Int.reduceLT, Int.reduceLE, Int.reduceGT, Int.reduceGE, cz, cg, cn]))
        have hv6 : HomeAt w6 bh b each := hx6.get (hx5.get hv4)
        exact hJ2 _ _ ⟨d, D5.more hx6, hv6, hx6.get hrb5, hsz, by omega, r95, r94, r93, r13, r11, r9, r7, r6, r5⟩
      have c : decide ((kd : Int) = 1) = false := by simp; omega
      (repeat (first | with_reducible (first | refine Eq.mpr (B_law20_HomePlays_c8.eq_1 ..) ?_ | refine Eq.mpr (B_law20_HomePlays_c6.eq_1 ..) ?_ | refine Eq.mpr (B_law20_HomePlays_c5.eq_1 ..) ?_ | refine Eq.mpr (B_law20_HomePlays_c4.eq_1 ..) ?_ | refine Eq.mpr (B_law20_HomePlays_c3.eq_1 ..) ?_ | refine Eq.mpr (B_law20_HomePlays_c2.eq_1 ..) ?_ | refine Eq.mpr (B_law20_HomePlays_c1.eq_1 ..) ?_) | simp only [XP_extract0, XP_extract1, XP_extract2, XP_extract3, X_extract0, X_extract1, X_extract2, X_extract3, X_nilS, X_eql_nil_74, X_neq_nil_74, X_eql_nil_124, X_neq_nil_124, X_eql, X_neq, X_lss, X_leq, X_gtr, X_geq, X_not, X_min, X_max, X_len_27, X_len_9, X_len_79, XP_nilS, XP_eql, XP_neq, XP_lss, XP_leq, XP_gtr, XP_geq, XP_not, XP_min, XP_max, XP_len_27, XP_len_9, XP_eql_nil_74, X_str_eql, X_str_neq, XP_str_eql, XP_str_neq, GS, gs_u, decide_true, decide_false, Option.isNone_some, Option.isSome_some, Option.isNone_none, Option.isSome_none, eq_self, Bool.not_true, Bool.not_false, Int.reduceEq, Int.reduceNe, Int.reduceLT, Int.reduceLE, Int.reduceGT, Int.reduceGE, c]))
      try unfold B_law20_HomePlays_c4
      by_cases k2 : kd = 2
      · have c : decide ((kd : Int) = 2) = true := by simp; omega
        (repeat (first | with_reducible (first | refine Eq.mpr (B_law20_HomePlays_c8.eq_1 ..) ?_ | refine Eq.mpr (B_law20_HomePlays_c6.eq_1 ..) ?_ | refine Eq.mpr (B_law20_HomePlays_c5.eq_1 ..) ?_ | refine Eq.mpr (B_law20_HomePlays_c4.eq_1 ..) ?_ | refine Eq.mpr (B_law20_HomePlays_c3.eq_1 ..) ?_ | refine Eq.mpr (B_law20_HomePlays_c2.eq_1 ..) ?_ | refine Eq.mpr (B_law20_HomePlays_c1.eq_1 ..) ?_) | simp only [XP_extract0, XP_extract1, XP_extract2, XP_extract3, X_extract0, X_extract1, X_extract2, X_extract3, X_nilS, X_eql_nil_74, X_neq_nil_74, X_eql_nil_124, X_neq_nil_124, X_eql, X_neq, X_lss, X_leq, X_gtr, X_geq, X_not, X_min, X_max, X_len_27, X_len_9, X_len_79, XP_nilS, XP_eql, XP_neq, XP_lss, XP_leq, XP_gtr, XP_geq, XP_not, XP_min, XP_max, XP_len_27, XP_len_9, XP_eql_nil_74, X_str_eql, X_str_neq, XP_str_eql, XP_str_neq, GS, gs_u, decide_true, decide_false, Option.isNone_some, Option.isSome_some, Option.isNone_none, Option.isSome_none, eq_self, Bool.not_true, Bool.not_false, Int.reduceEq, Int.reduceNe, Int.reduceLT, Int.reduceLE, Int.reduceGT, Int.reduceGE, c]))
        rw [X_field_159_1]
        refine X_loadL agg_3 hqb (v := .int .i64 A.pos) rfl ?_
        rw [X_field_159_3]
        refine X_loadL agg_27 hqb (v := A.bv) rfl ?_
        rw [r7, r9]
        refine Write_spec D4.disk (by omega) (hai.bts.ext D4.out) (off4 D4).1.1 ?_
        intro w5 hd5 s5
        have D5 := D4.left hd5 s5
        have hq5 := s5.keep.get (D4.no1 hqb (by decide) (by decide) (by decide)) hqb
        have hv5 : HomeAt w5 bh b each := s5.keep.get (D4.no1 hv4 (by decide) (by decide) (by decide)) hv4
        have hrb5 := s5.keep.get (D4.no1 hrb4 (by decide) (by decide) (by decide)) hrb4
        rw [X_field_159_1]
        refine X_loadL agg_3 hq5 (v := .int .i64 A.pos) rfl ?_
        rw [X_field_159_3]
        refine X_loadL agg_27 hq5 (v := A.bv) rfl ?_
        refine X_str Try.underlying27 Try.underlying5 Try.underlying9 (hai.bts.ext D5.out) ?_
        refine RWrite_spec D5.ref (by omega) ?_
        intro w6 hr6 s6
        have D6 := D5.right hr6 s6
        exact hJ2 _ _ ⟨_, D6, s6.keep.get (D5.no2 hv5 (by decide) (by decide) (by decide)) hv5, s6.keep.get (D5.no2 hrb5 (by decide) (by decide) (by decide)) hrb5, (Dk.write_size _ _ _).trans hsz, by have := Dk.write_ws d A.pos A.bs; omega, r95, r94, r93, r13, r11, r9, r7, r6, r5⟩
      have c : decide ((kd : Int) = 2) = false := by simp; omega
      (repeat (first | with_reducible (first | refine Eq.mpr (B_law20_HomePlays_c8.eq_1 ..) ?_ | refine Eq.mpr (B_law20_HomePlays_c6.eq_1 ..) ?_ | refine Eq.mpr (B_law20_HomePlays_c5.eq_1 ..) ?_ | refine Eq.mpr (B_law20_HomePlays_c4.eq_1 ..) ?_ | refine Eq.mpr (B_law20_HomePlays_c3.eq_1 ..) ?_ | refine Eq.mpr (B_law20_HomePlays_c2.eq_1 ..) ?_ | refine Eq.mpr (B_law20_HomePlays_c1.eq_1 ..) ?_) | simp only [XP_extract0, XP_extract1, XP_extract2, XP_extract3, X_extract0, X_extract1, X_extract2, X_extract3, X_nilS, X_eql_nil_74, X_neq_nil_74, X_eql_nil_124, X_neq_nil_124, X_eql, X_neq, X_lss, X_leq, X_gtr, X_geq, X_not, X_min, X_max, X_len_27, X_len_9, X_len_79, XP_nilS, XP_eql, XP_neq, XP_lss, XP_leq, XP_gtr, XP_geq, XP_not, XP_min, XP_max, XP_len_27, XP_len_9, XP_eql_nil_74, X_str_eql, X_str_neq, XP_str_eql, XP_str_neq, GS, gs_u, decide_true, decide_false, Option.isNone_some, Option.isSome_some, Option.isNone_none, Option.isSome_none, eq_self, Bool.not_true, Bool.not_false, Int.reduceEq, Int.reduceNe, Int.reduceLT, Int.reduceLE, Int.reduceGT, Int.reduceGE, c]))
      by_cases k3 : kd = 3
      · have c : decide ((kd : Int) = 3) = true := by simp; omega
        (repeat (first | with_reducible (first | refine Eq.mpr (B_law20_HomePlays_c8.eq_1 ..) ?_ | refine Eq.mpr (B_law20_HomePlays_c6.eq_1 ..) ?_ | refine Eq.mpr (B_law20_HomePlays_c5.eq_1 ..) ?_ | refine Eq.mpr (B_law20_HomePlays_c4.eq_1 ..) ?_ | refine Eq.mpr (B_law20_HomePlays_c3.eq_1 ..) ?_ | refine Eq.mpr (B_law20_HomePlays_c2.eq_1 ..) ?_ | refine Eq.mpr (B_law20_HomePlays_c1.eq_1 ..) ?_) | simp only [XP_extract0, XP_extract1, XP_extract2, XP_extract3, X_extract0, X_extract1, X_extract2, X_extract3, X_nilS, X_eql_nil_74, X_neq_nil_74, X_eql_nil_124, X_neq_nil_124, X_eql, X_neq, X_lss, X_leq, X_gtr, X_geq, X_not, X_min, X_max, X_len_27, X_len_9, X_len_79, XP_nilS, XP_eql, XP_neq, XP_lss, XP_leq, XP_gtr, XP_geq, XP_not, XP_min, XP_max, XP_len_27, XP_len_9, XP_eql_nil_74, X_str_eql, X_str_neq, XP_str_eql, XP_str_neq, GS, gs_u, decide_true, decide_false, Option.isNone_some, Option.isSome_some, Option.isNone_none, Option.isSome_none, eq_self, Bool.not_true, Bool.not_false, Int.reduceEq, Int.reduceNe, Int.reduceLT, Int.reduceLE, Int.reduceGT, Int.reduceGE, c]))
        rw [X_field_159_2]
        refine X_loadL agg_3 hqb (v := .int .i64 A.num) rfl ?_
        rw [r7, r9]
        refine Cut_spec hai.num D4.disk ?_
        intro w5 hd5 s5
        have D5 := D4.left hd5 s5
        have hq5 := s5.keep.get (D4.no1 hqb (by decide) (by decide) (by decide)) hqb
        have hv5 : HomeAt w5 bh b each := s5.keep.get (D4.no1 hv4 (by decide) (by decide) (by decide)) hv4
        have hrb5 := s5.keep.get (D4.no1 hrb4 (by decide) (by decide) (by decide)) hrb4
        rw [X_field_159_2]
        refine X_loadL agg_3 hq5 (v := .int .i64 A.num) rfl ?_
        refine RCut_spec hai.num D5.ref ?_
        intro w6 hr6 s6
        have D6 := D5.right hr6 s6
        exact hJ2 _ _ ⟨_, D6, s6.keep.get (D5.no2 hv5 (by decide) (by decide) (by decide)) hv5, s6.keep.get (D5.no2 hrb5 (by decide) (by decide) (by decide)) hrb5, (Dk.cut_size _ _).trans hsz, by unfold Dk.cut; split <;> (show d.ws.length ≤ _; omega), r95, r94, r93, r13, r11, r9, r7, r6, r5⟩
      have c : decide ((kd : Int) = 3) = false := by simp; omega
      (repeat (first | with_reducible (first | refine Eq.mpr (B_law20_HomePlays_c8.eq_1 ..) ?_ | refine Eq.mpr (B_law20_HomePlays_c6.eq_1 ..) ?_ | refine Eq.mpr (B_law20_HomePlays_c5.eq_1 ..) ?_ | refine Eq.mpr (B_law20_HomePlays_c4.eq_1 ..) ?_ | refine Eq.mpr (B_law20_HomePlays_c3.eq_1 ..) ?_ | refine Eq.mpr (B_law20_HomePlays_c2.eq_1 ..) ?_ | refine Eq.mpr (B_law20_HomePlays_c1.eq_1 ..) ?_) | simp only [XP_extract0, XP_extract1, XP_extract2, XP_extract3, X_extract0, X_extract1, X_extract2, X_extract3, X_nilS, X_eql_nil_74, X_neq_nil_74, X_eql_nil_124, X_neq_nil_124, X_eql, X_neq, X_lss, X_leq, X_gtr, X_geq, X_not, X_min, X_max, X_len_27, X_len_9, X_len_79, XP_nilS, XP_eql, XP_neq, XP_lss, XP_leq, XP_gtr, XP_geq, XP_not, XP_min, XP_max, XP_len_27, XP_len_9, XP_eql_nil_74, X_str_eql, X_str_neq, XP_str_eql, XP_str_neq, GS, gs_u, decide_true, decide_false, Option.isNone_some, Option.isSome_some, Option.isNone_none, Option.isSome_none, eq_self, Bool.not_true, Bool.not_false, Int.reduceEq, Int.reduceNe, Int.reduceLT, Int.reduceLE, Int.reduceGT, Int.reduceGE, c]))
      rw [X_field_159_4]
      refine X_loadL agg_79 hqb (v := A.fv) rfl ?_
      rw [r7, r9]
      refine Crash_spec D4.disk (hai.fate.ext D4.out) (off4 D4).1.2 ?_
      intro w5 hd5 s5
      have D5 := D4.left hd5 s5
      have hq5 := s5.keep.get (D4.no1 hqb (by decide) (by decide) (by decide)) hqb
      have hv5 : HomeAt w5 bh b each := s5.keep.get (D4.no1 hv4 (by decide) (by decide) (by decide)) hv4
      have hrb5 := s5.keep.get (D4.no1 hrb4 (by decide) (by decide) (by decide)) hrb4
      rw [X_field_159_4]
      refine X_loadL agg_79 hq5 (v := A.fv) rfl ?_
      refine RCrash_spec D5.ref (by omega) (hai.fate.ext D5.out) (fun h0 k hk hf => by have := hai.fate.blk_lt h0 k hk; have := D5.low' k hf; omega) ?_
      intro w6 hr6 s6
      have D6 := D5.right hr6 s6
      exact hJ2 _ _ ⟨_, D6, s6.keep.get (D5.no2 hv5 (by decide) (by decide) (by decide)) hv5, s6.keep.get (D5.no2 hrb5 (by decide) (by decide) (by decide)) hrb5, (Dk.crash_size _ _).trans hsz, by show 0 ≤ _; omega, r95, r94, r93, r13, r11, r9, r7, r6, r5⟩
  · rintro ρ wr ⟨d, D, hsz, hws, r9, r7, r6, r5⟩
    refine loopG 3 (fun ρ4 w4 => ∃ j : Nat, j ≤ N ∧ Ext wr w4 ∧ ρ4 186 = .int .i64 (j : Int) ∧ ρ4 185 = .int .i64 (N : Int) ∧ ρ4 11 = ptr b' ∧ ρ4 9 = ptr b ∧ ρ4 7 = .bool true)
      (fun ρ4 w4 => match ρ4 186 with | .int _ s => (N - s).toNat | _ => 0)
      (fun ρ4 w4 => Ext wr w4 ∧ ρ4 7 = .bool true) ?_ ?_ ?_
    · exact ⟨0, by omega, Keep.refl _ _, rfl, r6, r9, r7, r5⟩
    · rintro J hJ ρ4 w4 ⟨j, hj, hx4, t202, t201, t9, t7, t5⟩
      (first | with_reducible (first | refine Eq.mpr (B_law20_HomePlays_c8.eq_1 ..) ?_ | refine Eq.mpr (B_law20_HomePlays_c6.eq_1 ..) ?_ | refine Eq.mpr (B_law20_HomePlays_c5.eq_1 ..) ?_ | refine Eq.mpr (B_law20_HomePlays_c4.eq_1 ..) ?_ | refine Eq.mpr (B_law20_HomePlays_c3.eq_1 ..) ?_ | refine Eq.mpr (B_law20_HomePlays_c2.eq_1 ..) ?_ | refine Eq.mpr (B_law20_HomePlays_c1.eq_1 ..) ?_))
      rw [t202, t201, t9, t7, X_lss, condS_bool]
      by_cases hjN : j = N
      · rw [if_neg (by simp; omega)]
        exact hJ _ _ ⟨hx4, t5⟩
      rw [if_pos (by simp; omega)]
      have D4 := D.more hx4
      refine Read_spec D4.disk ?_
      intro u w5 hx5 hu5
      have D5 := D4.more hx5
      (repeat (first | with_reducible (first | refine Eq.mpr (B_law20_HomePlays_c8.eq_1 ..) ?_ | refine Eq.mpr (B_law20_HomePlays_c6.eq_1 ..) ?_ | refine Eq.mpr (B_law20_HomePlays_c5.eq_1 ..) ?_ | refine Eq.mpr (B_law20_HomePlays_c4.eq_1 ..) ?_ | refine Eq.mpr (B_law20_HomePlays_c3.eq_1 ..) ?_ | refine Eq.mpr (B_law20_HomePlays_c2.eq_1 ..) ?_ | refine Eq.mpr (B_law20_HomePlays_c1.eq_1 ..) ?_) | simp only [XP_extract0, XP_extract1, XP_extract2, XP_extract3, X_extract0, X_extract1, X_extract2, X_extract3, X_nilS, X_eql_nil_74, X_neq_nil_74, X_eql_nil_124, X_neq_nil_124, X_eql, X_neq, X_lss, X_leq, X_gtr, X_geq, X_not, X_min, X_max, X_len_27, X_len_9, X_len_79, XP_nilS, XP_eql, XP_neq, XP_lss, XP_leq, XP_gtr, XP_geq, XP_not, XP_min, XP_max, XP_len_27, XP_len_9, XP_eql_nil_74, X_str_eql, X_str_neq, XP_str_eql, XP_str_neq, GS, gs_u, decide_true, decide_false, Option.isNone_some, Option.isSome_some, Option.isNone_none, Option.isSome_none, eq_self, Bool.not_true, Bool.not_false, Int.reduceEq, Int.reduceNe, Int.reduceLT, Int.reduceLE, Int.reduceGT, Int.reduceGE]))
      refine RRead_spec D5.ref (by omega) ?_
      (repeat (first | with_reducible (first | refine Eq.mpr (B_law20_HomePlays_c8.eq_1 ..) ?_ | refine Eq.mpr (B_law20_HomePlays_c6.eq_1 ..) ?_ | refine Eq.mpr (B_law20_HomePlays_c5.eq_1 ..) ?_ | refine Eq.mpr (B_law20_HomePlays_c4.eq_1 ..) ?_ | refine Eq.mpr (B_law20_HomePlays_c3.eq_1 ..) ?_ | refine Eq.mpr (B_law20_HomePlays_c2.eq_1 ..) ?_ | refine Eq.mpr (B_law20_HomePlays_c1.eq_1 ..) ?_) | simp only [XP_extract0, XP_extract1, XP_extract2, XP_extract3, X_extract0, X_extract1, X_extract2, X_extract3, X_nilS, X_eql_nil_74, X_neq_nil_74, X_eql_nil_124, X_neq_nil_124, X_eql, X_neq, X_lss, X_leq, X_gtr, X_geq, X_not, X_min, X_max, X_len_27, X_len_9, X_len_79, XP_nilS, XP_eql, XP_neq, XP_lss, XP_leq, XP_gtr, XP_geq, XP_not, XP_min, XP_max, XP_len_27, XP_len_9, XP_eql_nil_74, X_str_eql, X_str_neq, XP_str_eql, XP_str_neq, GS, gs_u, decide_true, decide_false, Option.isNone_some, Option.isSome_some, Option.isNone_none, Option.isSome_none, eq_self, Bool.not_true, Bool.not_false, Int.reduceEq, Int.reduceNe, Int.reduceLT, Int.reduceLE, Int.reduceGT, Int.reduceGE]))
      (repeat (first | with_reducible (first | refine Eq.mpr (B_law20_HomePlays_c8.eq_1 ..) ?_ | refine Eq.mpr (B_law20_HomePlays_c6.eq_1 ..) ?_ | refine Eq.mpr (B_law20_HomePlays_c5.eq_1 ..) ?_ | refine Eq.mpr (B_law20_HomePlays_c4.eq_1 ..) ?_ | refine Eq.mpr (B_law20_HomePlays_c3.eq_1 ..) ?_ | refine Eq.mpr (B_law20_HomePlays_c2.eq_1 ..) ?_ | refine Eq.mpr (B_law20_HomePlays_c1.eq_1 ..) ?_) | simp only [XP_extract0, XP_extract1, XP_extract2, XP_extract3, X_extract0, X_extract1, X_extract2, X_extract3, X_nilS, X_eql_nil_74, X_neq_nil_74, X_eql_nil_124, X_neq_nil_124, X_eql, X_neq, X_lss, X_leq, X_gtr, X_geq, X_not, X_min, X_max, X_len_27, X_len_9, X_len_79, XP_nilS, XP_eql, XP_neq, XP_lss, XP_leq, XP_gtr, XP_geq, XP_not, XP_min, XP_max, XP_len_27, XP_len_9, XP_eql_nil_74, X_str_eql, X_str_neq, XP_str_eql, XP_str_neq, GS, gs_u, decide_true, decide_false, Option.isNone_some, Option.isSome_some, Option.isNone_none, Option.isSome_none, eq_self, Bool.not_true, Bool.not_false, Int.reduceEq, Int.reduceNe, Int.reduceLT, Int.reduceLE, Int.reduceGT, Int.reduceGE]))
      refine X_str Try.underlying27 Try.underlying5 Try.underlying9 (own_bts hu5).1 ?_
      have cz : ((str (d.read (j : Int)).1).toList != (str (d.read (j : Int)).1).toList) = false := by simp
      have cn : decide ((d.read (j : Int)).2 ≠ (d.read (j : Int)).2) = false := by simp
      (repeat (first | with_reducible (first | refine Eq.mpr (B_law20_HomePlays_c8.eq_1 ..) ?_ | refine Eq.mpr (B_law20_HomePlays_c6.eq_1 ..) ?_ | refine Eq.mpr (B_law20_HomePlays_c5.eq_1 ..) ?_ | refine Eq.mpr (B_law20_HomePlays_c4.eq_1 ..) ?_ | refine Eq.mpr (B_law20_HomePlays_c3.eq_1 ..) ?_ | refine Eq.mpr (B_law20_HomePlays_c2.eq_1 ..) ?_ | refine Eq.mpr (B_law20_HomePlays_c1.eq_1 ..) ?_) | simp only [XP_extract0, XP_extract1, XP_extract2, XP_extract3, X_extract0, X_extract1, X_extract2, X_extract3, X_nilS, X_eql_nil_74, X_neq_nil_74, X_eql_nil_124, X_neq_nil_124, X_eql, X_neq, X_lss, X_leq, X_gtr, X_geq, X_not, X_min, X_max, X_len_27, X_len_9, X_len_79, XP_nilS, XP_eql, XP_neq, XP_lss, XP_leq, XP_gtr, XP_geq, XP_not, XP_min, XP_max, XP_len_27, XP_len_9, XP_eql_nil_74, X_str_eql, X_str_neq, XP_str_eql, XP_str_neq, GS, gs_u, decide_true, decide_false, Option.isNone_some, Option.isSome_some, Option.isNone_none, Option.isSome_none, eq_self, Bool.not_true, Bool.not_false, Int.reduceEq, Int.reduceNe, Int.reduceLT, Int.reduceLE, Int.reduceGT, Int.reduceGE, cz, cn]))
      rw [X_add]
      show _ ∧ _
      refine ⟨⟨j + 1, by omega, hx4.trans hx5, next64 (n := 60) (by decide) (by omega), t201, t9, t7, t5⟩, ?_⟩
      show (_ - IntKind.i64.wrap _).toNat < _
      rw [w64 (by omega) (by omega)]
      first | omega | (show _ < (_ : Int).toNat; omega)
    · rintro ρ5 w5 ⟨hx5, t5⟩
      show (ρ5 7 = _ ∧ _)
      exact ⟨t5, D.out.trans hx5⟩
set_option maxHeartbeats 1000000 in
set_option maxRecDepth 8000 in
theorem homePlays_run {s : Nat} {each : Int} (hs256 : s < 256) {v1 : Value} {l : List DAct} (W : World) (h1 : RowK 5 DAct.cs W v1 l) (hin : ∀ a ∈ l, a.In W) :
    CALL Try.prog 40 #[.int .u8 (s : Int), .int .i64 each, v1] W (fun v w' => v = .bool true ∧ Ext W w') := by
  have e0 : decide ((0 : Int) ≠ 0) = false := by decide
  have e1 : decide ((1 : Int) ≠ 0) = true := by decide
  have e00 : decide ((0 : Int) = 0) = true := by decide
  have e10 : decide ((1 : Int) = 0) = false := by decide
  have e11 : decide ((1 : Int) ≠ 1) = false := by decide
  have nb : ∀ x : Bool, (x != x) = false := fun x => by cases x <;> rfl
  apply call_law20_HomePlays
  unfold B_law20_HomePlays
  refine shown20 ?_
  intro w1 hx1
  refine X_of (run_rem 5 .u8 _ 61 (by decide) _) ?_
  obtain ⟨N, hN⟩ : ∃ N, N = s % 61 := ⟨_, rfl⟩
  have er : ((s : Nat) : Int).tmod 61 = ((s % 61 : Nat) : Int) := rfl
  rw [er, ← hN, X_conv_5_3, w64 (by omega) (by omega)]
  refine New_disk (fun h => absurd h (by omega)) ?_
  intro N' hN' _ b w2 hx2 hlow hd2
  obtain rfl : N' = N := by omega
  (repeat (first | with_reducible (first | refine Eq.mpr (B_law20_HomePlays_c8.eq_1 ..) ?_ | refine Eq.mpr (B_law20_HomePlays_c6.eq_1 ..) ?_ | refine Eq.mpr (B_law20_HomePlays_c5.eq_1 ..) ?_ | refine Eq.mpr (B_law20_HomePlays_c4.eq_1 ..) ?_ | refine Eq.mpr (B_law20_HomePlays_c3.eq_1 ..) ?_ | refine Eq.mpr (B_law20_HomePlays_c2.eq_1 ..) ?_ | refine Eq.mpr (B_law20_HomePlays_c1.eq_1 ..) ?_) | simp only [XP_extract0, XP_extract1, XP_extract2, XP_extract3, X_extract0, X_extract1, X_extract2, X_extract3, X_nilS, X_eql_nil_74, X_neq_nil_74, X_eql_nil_124, X_neq_nil_124, X_eql, X_neq, X_lss, X_leq, X_gtr, X_geq, X_not, X_min, X_max, X_len_27, X_len_9, X_len_79, XP_nilS, XP_eql, XP_neq, XP_lss, XP_leq, XP_gtr, XP_geq, XP_not, XP_min, XP_max, XP_len_27, XP_len_9, XP_eql_nil_74, X_str_eql, X_str_neq, XP_str_eql, XP_str_neq, GS, gs_u, decide_true, decide_false, Option.isNone_some, Option.isSome_some, Option.isNone_none, Option.isSome_none, eq_self, Bool.not_true, Bool.not_false, Int.reduceEq, Int.reduceNe, Int.reduceLT, Int.reduceLE, Int.reduceGT, Int.reduceGE]))
  refine RNew_disk (fun h => absurd h (by omega)) ?_
  intro N2 hN2 _ b' w3 hx3 hlow' hr3
  obtain rfl : N2 = N' := by omega
  have hx02 : Ext W w2 := hx1.trans hx2
  have D3 : Duo (fun k => W.heap.size ≤ k) W w3 b b' (Dk.new N2) (Dk.new N2) := Duo.mk' (hx02.trans hx3) (hd2.ext hx3) hr3 (Apart.new hx3 hd2.lt hlow')
    (fun k hk => Nat.le_trans hx1.size (hlow k ((foot_x hx3 (hd2.lt b (foot_self _ _))).1 hk))) (fun k hk => Nat.le_trans hx02.size (hlow' k hk))
  (repeat (first | with_reducible (first | refine Eq.mpr (B_law20_HomePlays_c8.eq_1 ..) ?_ | refine Eq.mpr (B_law20_HomePlays_c6.eq_1 ..) ?_ | refine Eq.mpr (B_law20_HomePlays_c5.eq_1 ..) ?_ | refine Eq.mpr (B_law20_HomePlays_c4.eq_1 ..) ?_ | refine Eq.mpr (B_law20_HomePlays_c3.eq_1 ..) ?_ | refine Eq.mpr (B_law20_HomePlays_c2.eq_1 ..) ?_ | refine Eq.mpr (B_law20_HomePlays_c1.eq_1 ..) ?_) | simp only [XP_extract0, XP_extract1, XP_extract2, XP_extract3, X_extract0, X_extract1, X_extract2, X_extract3, X_nilS, X_eql_nil_74, X_neq_nil_74, X_eql_nil_124, X_neq_nil_124, X_eql, X_neq, X_lss, X_leq, X_gtr, X_geq, X_not, X_min, X_max, X_len_27, X_len_9, X_len_79, XP_nilS, XP_eql, XP_neq, XP_lss, XP_leq, XP_gtr, XP_geq, XP_not, XP_min, XP_max, XP_len_27, XP_len_9, XP_eql_nil_74, X_str_eql, X_str_neq, XP_str_eql, XP_str_neq, GS, gs_u, decide_true, decide_false, Option.isNone_some, Option.isSome_some, Option.isNone_none, Option.isSome_none, eq_self, Bool.not_true, Bool.not_false, Int.reduceEq, Int.reduceNe, Int.reduceLT, Int.reduceLE, Int.reduceGT, Int.reduceGE]))
  have hNN : (Dk.new N2).safe.length = N2 := new_size N2
  refine HNew_spec D3.disk ?_ ?_
  · intro hbad
    (repeat (first | with_reducible (first | refine Eq.mpr (B_law20_HomePlays_c8.eq_1 ..) ?_ | refine Eq.mpr (B_law20_HomePlays_c6.eq_1 ..) ?_ | refine Eq.mpr (B_law20_HomePlays_c5.eq_1 ..) ?_ | refine Eq.mpr (B_law20_HomePlays_c4.eq_1 ..) ?_ | refine Eq.mpr (B_law20_HomePlays_c3.eq_1 ..) ?_ | refine Eq.mpr (B_law20_HomePlays_c2.eq_1 ..) ?_ | refine Eq.mpr (B_law20_HomePlays_c1.eq_1 ..) ?_) | simp only [XP_extract0, XP_extract1, XP_extract2, XP_extract3, X_extract0, X_extract1, X_extract2, X_extract3, X_nilS, X_eql_nil_74, X_neq_nil_74, X_eql_nil_124, X_neq_nil_124, X_eql, X_neq, X_lss, X_leq, X_gtr, X_geq, X_not, X_min, X_max, X_len_27, X_len_9, X_len_79, XP_nilS, XP_eql, XP_neq, XP_lss, XP_leq, XP_gtr, XP_geq, XP_not, XP_min, XP_max, XP_len_27, XP_len_9, XP_eql_nil_74, X_str_eql, X_str_neq, XP_str_eql, XP_str_neq, GS, gs_u, decide_true, decide_false, Option.isNone_some, Option.isSome_some, Option.isNone_none, Option.isSome_none, eq_self, Bool.not_true, Bool.not_false, Int.reduceEq, Int.reduceNe, Int.reduceLT, Int.reduceLE, Int.reduceGT, Int.reduceGE]))
    refine RHNew_spec D3.ref (fun _ => ?_) (fun e he hok' => absurd hbad (by unfold hok at hok'; omega))
    intro w4 hx4
    (repeat (first | with_reducible (first | refine Eq.mpr (B_law20_HomePlays_c8.eq_1 ..) ?_ | refine Eq.mpr (B_law20_HomePlays_c6.eq_1 ..) ?_ | refine Eq.mpr (B_law20_HomePlays_c5.eq_1 ..) ?_ | refine Eq.mpr (B_law20_HomePlays_c4.eq_1 ..) ?_ | refine Eq.mpr (B_law20_HomePlays_c3.eq_1 ..) ?_ | refine Eq.mpr (B_law20_HomePlays_c2.eq_1 ..) ?_ | refine Eq.mpr (B_law20_HomePlays_c1.eq_1 ..) ?_) | simp only [XP_extract0, XP_extract1, XP_extract2, XP_extract3, X_extract0, X_extract1, X_extract2, X_extract3, X_nilS, X_eql_nil_74, X_neq_nil_74, X_eql_nil_124, X_neq_nil_124, X_eql, X_neq, X_lss, X_leq, X_gtr, X_geq, X_not, X_min, X_max, X_len_27, X_len_9, X_len_79, XP_nilS, XP_eql, XP_neq, XP_lss, XP_leq, XP_gtr, XP_geq, XP_not, XP_min, XP_max, XP_len_27, XP_len_9, XP_eql_nil_74, X_str_eql, X_str_neq, XP_str_eql, XP_str_neq, GS, gs_u, decide_true, decide_false, Option.isNone_some, Option.isSome_some, Option.isNone_none, Option.isSome_none, eq_self, Bool.not_true, Bool.not_false, Int.reduceEq, Int.reduceNe, Int.reduceLT, Int.reduceLE, Int.reduceGT, Int.reduceGE]))
    refine X_alloc zero_162 ?_
    have hz := newB_get w4 #[(.pointer none), (.int .i64 0)] 162
    have hxz := newB_ext w4 #[(.pointer none), (.int .i64 0)] 162
    show XU _ _ (newB w4 #[(.pointer none), (.int .i64 0)] 162) _
    generalize newB w4 #[(.pointer none), (.int .i64 0)] 162 = w5 at hz hxz ⊢
    refine XU_storeAgg (l := [.pointer none, .int .i64 0]) info_162 hz (by rw [sz_162]; rfl) (by rw [sz_162]; rfl) (by intro x hx; simp at hx; rcases hx with rfl | rfl <;> rfl) ?_
    have hx6 := Ext.seq hxz (setAt_keep w5 w4.heap.size [.pointer none, .int .i64 0].toArray 162 (0, 0)) (fun j hj => by omega)
    (repeat (first | with_reducible (first | refine Eq.mpr (B_law20_HomePlays_c8.eq_1 ..) ?_ | refine Eq.mpr (B_law20_HomePlays_c6.eq_1 ..) ?_ | refine Eq.mpr (B_law20_HomePlays_c5.eq_1 ..) ?_ | refine Eq.mpr (B_law20_HomePlays_c4.eq_1 ..) ?_ | refine Eq.mpr (B_law20_HomePlays_c3.eq_1 ..) ?_ | refine Eq.mpr (B_law20_HomePlays_c2.eq_1 ..) ?_ | refine Eq.mpr (B_law20_HomePlays_c1.eq_1 ..) ?_) | simp only [XP_extract0, XP_extract1, XP_extract2, XP_extract3, X_extract0, X_extract1, X_extract2, X_extract3, X_nilS, X_eql_nil_74, X_neq_nil_74, X_eql_nil_124, X_neq_nil_124, X_eql, X_neq, X_lss, X_leq, X_gtr, X_geq, X_not, X_min, X_max, X_len_27, X_len_9, X_len_79, XP_nilS, XP_eql, XP_neq, XP_lss, XP_leq, XP_gtr, XP_geq, XP_not, XP_min, XP_max, XP_len_27, XP_len_9, XP_eql_nil_74, X_str_eql, X_str_neq, XP_str_eql, XP_str_neq, GS, gs_u, decide_true, decide_false, Option.isNone_some, Option.isSome_some, Option.isNone_none, Option.isSome_none, eq_self, Bool.not_true, Bool.not_false, Int.reduceEq, Int.reduceNe, Int.reduceLT, Int.reduceLE, Int.reduceGT, Int.reduceGE, X_neq_nil_150, e11, e10, e1]))
    refine X_of (Go.Sh.run_neq_bool Try.underlying4 _ _ _ _ _) ?_
    rw [nb]
    try unfold B_law20_HomePlays_c7
    (repeat (first | with_reducible (first | refine Eq.mpr (B_law20_HomePlays_c8.eq_1 ..) ?_ | refine Eq.mpr (B_law20_HomePlays_c6.eq_1 ..) ?_ | refine Eq.mpr (B_law20_HomePlays_c5.eq_1 ..) ?_ | refine Eq.mpr (B_law20_HomePlays_c4.eq_1 ..) ?_ | refine Eq.mpr (B_law20_HomePlays_c3.eq_1 ..) ?_ | refine Eq.mpr (B_law20_HomePlays_c2.eq_1 ..) ?_ | refine Eq.mpr (B_law20_HomePlays_c1.eq_1 ..) ?_) | simp only [XP_extract0, XP_extract1, XP_extract2, XP_extract3, X_extract0, X_extract1, X_extract2, X_extract3, X_nilS, X_eql_nil_74, X_neq_nil_74, X_eql_nil_124, X_neq_nil_124, X_eql, X_neq, X_lss, X_leq, X_gtr, X_geq, X_not, X_min, X_max, X_len_27, X_len_9, X_len_79, XP_nilS, XP_eql, XP_neq, XP_lss, XP_leq, XP_gtr, XP_geq, XP_not, XP_min, XP_max, XP_len_27, XP_len_9, XP_eql_nil_74, X_str_eql, X_str_neq, XP_str_eql, XP_str_neq, GS, gs_u, decide_true, decide_false, Option.isNone_some, Option.isSome_some, Option.isNone_none, Option.isSome_none, eq_self, Bool.not_true, Bool.not_false, Int.reduceEq, Int.reduceNe, Int.reduceLT, Int.reduceLE, Int.reduceGT, Int.reduceGE, e11, e10, e1]))
    exact ⟨trivial, (D3.out.trans hx4).trans hx6⟩
  · intro ea hea hokE bh w4 hx4 hbh hv4
    have D4 := D3.more hx4
    (repeat (first | with_reducible (first | refine Eq.mpr (B_law20_HomePlays_c8.eq_1 ..) ?_ | refine Eq.mpr (B_law20_HomePlays_c6.eq_1 ..) ?_ | refine Eq.mpr (B_law20_HomePlays_c5.eq_1 ..) ?_ | refine Eq.mpr (B_law20_HomePlays_c4.eq_1 ..) ?_ | refine Eq.mpr (B_law20_HomePlays_c3.eq_1 ..) ?_ | refine Eq.mpr (B_law20_HomePlays_c2.eq_1 ..) ?_ | refine Eq.mpr (B_law20_HomePlays_c1.eq_1 ..) ?_) | simp only [XP_extract0, XP_extract1, XP_extract2, XP_extract3, X_extract0, X_extract1, X_extract2, X_extract3, X_nilS, X_eql_nil_74, X_neq_nil_74, X_eql_nil_124, X_neq_nil_124, X_eql, X_neq, X_lss, X_leq, X_gtr, X_geq, X_not, X_min, X_max, X_len_27, X_len_9, X_len_79, XP_nilS, XP_eql, XP_neq, XP_lss, XP_leq, XP_gtr, XP_geq, XP_not, XP_min, XP_max, XP_len_27, XP_len_9, XP_eql_nil_74, X_str_eql, X_str_neq, XP_str_eql, XP_str_neq, GS, gs_u, decide_true, decide_false, Option.isNone_some, Option.isSome_some, Option.isNone_none, Option.isSome_none, eq_self, Bool.not_true, Bool.not_false, Int.reduceEq, Int.reduceNe, Int.reduceLT, Int.reduceLE, Int.reduceGT, Int.reduceGE]))
    refine RHNew_spec D4.ref (fun hbad => absurd hbad (by unfold hok at hokE; omega)) ?_
    intro ea2 hea2 _ w5 hx5
    obtain rfl : ea2 = ea := by omega
    have D5 := D4.more hx5
    (repeat (first | with_reducible (first | refine Eq.mpr (B_law20_HomePlays_c8.eq_1 ..) ?_ | refine Eq.mpr (B_law20_HomePlays_c6.eq_1 ..) ?_ | refine Eq.mpr (B_law20_HomePlays_c5.eq_1 ..) ?_ | refine Eq.mpr (B_law20_HomePlays_c4.eq_1 ..) ?_ | refine Eq.mpr (B_law20_HomePlays_c3.eq_1 ..) ?_ | refine Eq.mpr (B_law20_HomePlays_c2.eq_1 ..) ?_ | refine Eq.mpr (B_law20_HomePlays_c1.eq_1 ..) ?_) | simp only [XP_extract0, XP_extract1, XP_extract2, XP_extract3, X_extract0, X_extract1, X_extract2, X_extract3, X_nilS, X_eql_nil_74, X_neq_nil_74, X_eql_nil_124, X_neq_nil_124, X_eql, X_neq, X_lss, X_leq, X_gtr, X_geq, X_not, X_min, X_max, X_len_27, X_len_9, X_len_79, XP_nilS, XP_eql, XP_neq, XP_lss, XP_leq, XP_gtr, XP_geq, XP_not, XP_min, XP_max, XP_len_27, XP_len_9, XP_eql_nil_74, X_str_eql, X_str_neq, XP_str_eql, XP_str_neq, GS, gs_u, decide_true, decide_false, Option.isNone_some, Option.isSome_some, Option.isNone_none, Option.isSome_none, eq_self, Bool.not_true, Bool.not_false, Int.reduceEq, Int.reduceNe, Int.reduceLT, Int.reduceLE, Int.reduceGT, Int.reduceGE]))
    refine X_alloc zero_162 ?_
    have hz := newB_get w5 #[(.pointer none), (.int .i64 0)] 162
    have hxz := newB_ext w5 #[(.pointer none), (.int .i64 0)] 162
    show XU _ _ (newB w5 #[(.pointer none), (.int .i64 0)] 162) _
    generalize newB w5 #[(.pointer none), (.int .i64 0)] 162 = w6 at hz hxz ⊢
    refine XU_storeAgg (l := rhc b' ea2) info_162 hz (by rw [sz_162]; rfl) (by rw [sz_162]; rfl) (rhc_one _ _) ?_
    have hx7 := Ext.seq hxz (setAt_keep w6 w5.heap.size (rhc b' ea2).toArray 162 (0, 0)) (fun j hj => by omega)
    have hrb := setAt_same (cs := (rhc b' ea2).toArray) (T := 162) (fr := (0, 0)) (lt_of_blk hz)
    have D7 := D5.more hx7
    have hv7 : HomeAt _ bh b ea2 := hx7.get (hx5.get hv4)
    generalize setAt w6 w5.heap.size (rhc b' ea2).toArray 162 (0, 0) = w7 at hx7 hrb D7 hv7 ⊢
    generalize w5.heap.size = rb at hrb ⊢
    (repeat (first | with_reducible (first | refine Eq.mpr (B_law20_HomePlays_c8.eq_1 ..) ?_ | refine Eq.mpr (B_law20_HomePlays_c6.eq_1 ..) ?_ | refine Eq.mpr (B_law20_HomePlays_c5.eq_1 ..) ?_ | refine Eq.mpr (B_law20_HomePlays_c4.eq_1 ..) ?_ | refine Eq.mpr (B_law20_HomePlays_c3.eq_1 ..) ?_ | refine Eq.mpr (B_law20_HomePlays_c2.eq_1 ..) ?_ | refine Eq.mpr (B_law20_HomePlays_c1.eq_1 ..) ?_) | simp only [XP_extract0, XP_extract1, XP_extract2, XP_extract3, X_extract0, X_extract1, X_extract2, X_extract3, X_nilS, X_eql_nil_74, X_neq_nil_74, X_eql_nil_124, X_neq_nil_124, X_eql, X_neq, X_lss, X_leq, X_gtr, X_geq, X_not, X_min, X_max, X_len_27, X_len_9, X_len_79, XP_nilS, XP_eql, XP_neq, XP_lss, XP_leq, XP_gtr, XP_geq, XP_not, XP_min, XP_max, XP_len_27, XP_len_9, XP_eql_nil_74, X_str_eql, X_str_neq, XP_str_eql, XP_str_neq, GS, gs_u, decide_true, decide_false, Option.isNone_some, Option.isSome_some, Option.isNone_none, Option.isSome_none, eq_self, Bool.not_true, Bool.not_false, Int.reduceEq, Int.reduceNe, Int.reduceLT, Int.reduceLE, Int.reduceGT, Int.reduceGE, X_neq_nil_150, e0, e00]))
    refine X_of (Go.Sh.run_neq_bool Try.underlying4 _ _ _ _ _) ?_
    rw [nb]
    with_reducible exact homePlays_loop h1 hin (by rw [← hNN]; exact hokE) D7 hv7 hrb hNN (by omega)
theorem homePlays_walk {H : Type} (enc : TypeId × Value → H) (W : World) (v0 v1 v2 : Value) {base : Nat} (ok0 : Value.okWide Try.prog W .any base 5 v0) (ok1 : Value.okWide Try.prog W .any base 3 v1) (ok2 : Value.okWide Try.prog W .any base 157 v2) (d0 : DataW H) (p0 : List MemPlace) (d1 : DataW H) (p1 : List MemPlace) (d2 : DataW H) (p2 : List MemPlace) (h0 : DataW.Trod enc Try.prog W 0 (fun _ => true) true 5 v0 d0 p0) (h1 : DataW.Trod enc Try.prog W 0 (fun _ => true) true 3 v1 d1 p1) (h2 : DataW.Trod enc Try.prog W 0 (fun _ => true) true 157 v2 d2 p2) (hsz : (DataW.weightsEach Try.prog [5, 3, 157] [d0, d1, d2]).all (· ≤ reachBytes) = true) :
    CALL Try.prog 40 #[v0, v1, v2] W (fun v w' => v = .bool true ∧ Ext W w') := by
  obtain ⟨s, rfl, hs⟩ := arg_u8 Try.underlying5 ok0 h0
  obtain ⟨each, rfl, _⟩ := arg_i64 Try.underlying3 ok1 h1
  obtain ⟨l, hl, hin⟩ := arg_acts20 ok2 h2
  exact homePlays_run hs W hl hin
end
set_option maxRecDepth 100000 in
theorem homePlays_lifted (os : Os) (started : os.Started) (H : Type) (enc : TypeId × Value → H) :
    ReturnsInHanded {} Try.checked os 40 .any (Rows.homePlaysSpec.pre6 enc Try.prog Try.f40 Rows.homePlaysRow.domain false) (Rows.homePlaysSpec.post enc Try.prog Try.f40 false true false false) := by
  refine returnsInHanded_of_change_sized (C := Try.checked) (by kernel_rfl) started (by kernel_rfl) Try.func40
    (ChangeSpec.witness6 (enc := enc) (C := Try.checked) false ⟨#[], #[(.int .u8 0), (.int .i64 0), (.slice none 0 0)], []⟩ 8 (by kernel_rfl) (by kernel_rfl) (by kernel_rfl) (by kernel_rfl)) ?_
  intro W base args ds gs before hval0 hW hcnd hsz0 _
  have hval : ∀ (j : Nat) t v, Try.f40.params[j]? = some t → args[j]? = some v → Value.okWide Try.prog W .any base t v := hval0
  have hW' := hW
  obtain ⟨p, q, hA0, hV, rfl, hfz, hnd⟩ := hW
  have hA : DataW.TrodAll enc Try.prog W 0 (fun _ => true) true Try.f40.params.toList args.toList ds p := hA0
  rw [Try.params40] at hA hval
  obtain ⟨v0, vs0, d0, ds0, p0, q0, hargs, rfl, rfl, h0, r0⟩ := trodAll_cons hA
  obtain ⟨v1, vs1, d1, ds1, p1, q1, rfl, rfl, rfl, h1, r1⟩ := trodAll_cons r0
  obtain ⟨v2, vs2, d2, ds2, p2, q2, rfl, rfl, rfl, h2, r2⟩ := trodAll_cons r1
  obtain ⟨rfl, rfl, rfl⟩ := trodAll_nil r2
  obtain rfl : args = #[v0, v1, v2] := by cases args; simp_all
  obtain ⟨rfl, rfl⟩ := trodVars_none hV
  have hsz : (DataW.weightsEach Try.prog [5, 3, 157] [d0, d1, d2]).all (· ≤ reachBytes) = true := hsz0
  have hw := homePlays_walk enc W v0 v1 v2 (hval 0 5 v0 rfl rfl) (hval 1 3 v1 rfl rfl) (hval 2 157 v2 rfl rfl) d0 p0 d1 p1 d2 p2 h0 h1 h2 hsz
  refine (CALL_calls hw).mono fun e W' he => ?_
  cases e with
  | returned v =>
    obtain ⟨rfl, hx⟩ := he
    exact ⟨_, rfl, law_post (P := Try.prog) laidOut (by kernel_rfl) rfl rfl rfl Try.underlying4 hW' hx⟩
  | panicked c => exact he.elim
  | outgrown => exact he.elim

theorem homePlays_closed : joinedFacts Try.prog 40 Try.f40 Rows.homePlaysSpec Rows.homePlaysRow = true := by
  unfold joinedFacts
  rw [mayEnter_is, liftsFinal_is, make_is]
  kernel_rfl
/-- For every input that the row lets in, cellarage/cellaragelaw20.HomePlays returns true, and what was there stays as it was. -/
theorem homePlays_holds : Rows.HomePlaysSaid :=
  OpenClaim.holds_of_wide 40 Try.f40 rfl rfl rfl rfl rfl rfl rfl ⟨rfl, rfl, rfl, rfl, rfl⟩ rfl rfl rfl rfl rfl (by kernel_rfl) Try.func40 homePlays_closed
    (of_decide_eq_true (by kernel_rfl)) (by unfold Func.isWrapper; first | (rw [if_pos (by decide +kernel)]; kernel_rfl) | (rw [if_neg (by decide +kernel)]; exact ⟨rfl, rfl⟩))
    (fun os started H enc _ => homePlays_lifted os started H enc)
#print axioms homePlays_holds
end Go.Proofs.Ytggggfcgnkllgaa
