/- cellaragelaw12.VaultPlays: whatever is put, got, written and lost, all answers, and the disk, are the document's. -/
import Derived.Test.YtggggfcgnkllgaaQV8
set_option linter.unusedVariables false
set_option linter.unusedSimpArgs false
set_option linter.constructorNameAsVariable false
namespace Go.Proofs.Ytggggfcgnkllgaa
open Go Go.Sh Go.RowKit Go.ChangeShapes Go.WideShapes Go.ChangeAt
open Go.Proofs.Ytggggfcgnkllgaa
section
attribute [local irreducible] X XU XP XR CALL loopS resC closS Value.okWide
theorem trc_four {P : Program} {H : Type} {enc : TypeId × Value → H} {W : World} {t : TypeId} {es : List Value} {f0 f1 f2 f3 : Field} (ht : P.underlying t = some (.struct #[f0, f1, f2, f3])) (hc : P.cellsOf t = 4)
    (o0 : f0.offset = 0) (o1 : f1.offset = 1) (o2 : f2.offset = 2) (o3 : f3.offset = 3) (c0 : P.cellsOf f0.type = 1) (c1 : P.cellsOf f1.type = 1) (c2 : P.cellsOf f2.type = 1) (c3 : P.cellsOf f3.type = 1)
    (h : TrC enc P W t es) : ∃ x0 x1 x2 x3, es = [x0, x1, x2, x3] ∧ TrC enc P W f0.type [x0] ∧ TrC enc P W f1.type [x1] ∧ TrC enc P W f2.type [x2] ∧ TrC enc P W f3.type [x3] := by
  obtain ⟨hl, hf⟩ := h.struct ht
  rw [hc] at hl
  match es, hl with
  | [x0, x1, x2, x3], _ =>
    have g0 := hf f0 (by simp)
    have g1 := hf f1 (by simp)
    have g2 := hf f2 (by simp)
    have g3 := hf f3 (by simp)
    rw [o0, c0] at g0
    rw [o1, c1] at g1
    rw [o2, c2] at g2
    rw [o3, c3] at g3
    exact ⟨x0, x1, x2, x3, rfl, g0, g1, g2, g3⟩
theorem arg_shape {H : Type} {enc : TypeId × Value → H} {W : World} {base : Nat} {v : Value} {d : DataW H} {p : List MemPlace}
    (ok : Value.okWide Try.prog W .any base 135 v) (h : DataW.Trod enc Try.prog W 0 (fun _ => true) true 135 v d p) :
    ∃ (s : Nat) (fm each n : Int), v = .agg [.int .u8 (s : Int), .int .i64 fm, .int .i64 each, .int .i64 n].toArray ∧ s < 256 ∧ (-9223372036854775808 ≤ fm ∧ fm ≤ 9223372036854775807) := by
  obtain ⟨cs, rfl, hcs⟩ := okWide_struct Try.underlying135 ok
  obtain ⟨x0, x1, x2, x3, ha, g0, g1, g2, g3⟩ := trc_four Try.underlying135 (by kernel_rfl) rfl rfl rfl rfl (by kernel_rfl) (by kernel_rfl) (by kernel_rfl) (by kernel_rfl) (TrC.of h)
  obtain ⟨n0, e0, w0⟩ := TrC.int Try.underlying5 g0
  obtain ⟨n1, e1, w1⟩ := TrC.int Try.underlying3 g1
  obtain ⟨n2, e2, w2⟩ := TrC.int Try.underlying3 g2
  obtain ⟨n3, e3, w3⟩ := TrC.int Try.underlying3 g3
  simp at e0 e1 e2 e3
  subst e0; subst e1; subst e2; subst e3
  simp [Lit.wf, IntKind.min, IntKind.max, IntKind.signed, IntKind.bits] at w0 w1
  refine ⟨n0.toNat, n1, n2, n3, ?_, by omega, by omega⟩
  have : cs = [Value.int .u8 n0, .int .i64 n1, .int .i64 n2, .int .i64 n3].toArray := by
    apply Array.ext'
    exact ha
  rw [this, Int.toNat_of_nonneg w0.1]
theorem layAll_ws2 (d : Dk) (t : Nat) (x : List UInt8) : (layAll d t x).1.ws.length ≤ d.ws.length + nsec x := by
  refine layAll_ind (P := fun d t x => (layAll d t x).1.ws.length ≤ d.ws.length + nsec x) ?_ ?_ ?_ d t x
  · intro d t; rw [layAll_nil]; show d.ws.length ≤ _; omega
  · intro d t x hx he
    rw [layAll_cons d t hx, if_pos he]
    have := Dk.write_ws d (t : Int) (x.take 128)
    have hp : 0 < x.length := List.length_pos_iff.2 hx
    have : 1 ≤ nsec x := by unfold nsec; omega
    omega
  · intro d t x hx he ih
    rw [layAll_cons d t hx, if_neg (by simpa using he)]
    have := Dk.write_ws d (t : Int) (x.take 128)
    have hp : 0 < x.length := List.length_pos_iff.2 hx
    have : nsec x = 1 + nsec (x.drop 128) := by unfold nsec; rw [List.length_drop]; omega
    omega
theorem vput_ws2 (v : Vt) (d : Dk) (at_ : Int) {bs : List UInt8} (h : bs.length ≤ 20000) : (vput v d at_ bs).1.ws.length ≤ d.ws.length + 160 := by
  unfold vput
  split
  · show d.ws.length ≤ _; omega
  · split
    · show d.ws.length ≤ _; omega
    · have := layAll_ws2 d (v.fm + at_.toNat * v.each) (be 4 bs.length ++ bs)
      unfold nsec at this
      rw [List.length_append, be_length] at this
      omega
theorem kind6 (T : TypeId) (k : Nat) (w : World) : (binOp .rem T (.int .u8 (k : Int)) (.int .u8 6)).run Try.prog w = .ok (.int .u8 ((k % 6 : Nat) : Int)) w := by
  rw [run_rem _ _ _ _ (by decide)]
  rfl
theorem XR_strB {D : Nat → Prop} {v : Value} {bs : List UInt8} {w : World} {K : Value → World → Prop} (hb : Bts w v bs) (hd : 0 < bs.length → ∀ k, v.ownBlock = some k → ¬ D k)
    (h : K (.string (str bs)) w) : XR Try.prog (Keep D) (convert 27 9 v) w K := XR_ok (Keep.frame _) (fun w' k => Go.Sh.run_str Try.underlying27 Try.underlying5 Try.underlying9 (hb.keep' k hd)) h
theorem vnew_ok' {N : Nat} {fm each n : Int} {v : Vt} {d : Dk} (h : vnew d.safe.length fm each n = some v) (hd : d.ok) : v.ok d.safe.length := (vnew_ok hd.2.2.1 h).1
set_option maxHeartbeats 1000000 in
set_option maxRecDepth 8000 in
/-- The acts, one behind the other. -/
theorem vaultPlays_loop {W w1 : World} {b b' bv rb N : Nat} {v : Vt} {v1 : Value} {l : List DAct} (h1 : RowK 5 DAct.cs W v1 l) (hin : ∀ a ∈ l, a.In W)
    (okv : v.ok N) (D0 : Duo (fun k => W.heap.size ≤ k) W w1 b b' (Dk.new N) (Dk.new N)) (hv0 : VaultAt w1 bv b v) (hrb0 : w1.heap[rb]? = some (.cells (Vt.cs v b').toArray 138 (0, 0))) (hN : (Dk.new N).safe.length = N) (hN60 : N ≤ 60)
    {x0 : Value} {v53_91 : Value} {v52_90 : Value} {v51_87 : Value} {v50_89 : Value} {v49_88 : Value} {v48_86 : Value} {v47_84 : Value} {v46_83 : Value} {v45_81 : Value} {v44_82 : Value} {v43_78 : Value} {v30_62 : Value} {v42_76 : Value} {v41_75 : Value} {v40_74 : Value} {v39_73 : Value} {v38_72 : Value} {v37_71 : Value} {v36_69 : Value} {v35_68 : Value} {v34_67 : Value} {v33_66 : Value} {v32_64 : Value} {v29_61 : Value} {v28_60 : Value} {v27_59 : Value} {v26_58 : Value} {v25_57 : Value} {v24_56 : Value} {v23_55 : Value} {v22_54 : Value} {v21_51 : Value} {v19_49 : Value} {v18_48 : Value} {v17_47 : Value} {v16_46 : Value} {v15_45 : Value} {v14_44 : Value} {v13_43 : Value} {v12_40 : Value} {v10_38 : Value} {v9_35 : Value} {v7_33 : Value} {v5_29 : Value} {v4_28 : Value} {v3_27 : Value} {v1_2 : Value} :
    (B_law12_VaultPlays_c11 (v1) (w1) (fun v w' => v = .bool true ∧ Ext W w') x0 v53_91 v52_90 v51_87 v50_89 v49_88 v48_86 v47_84 v46_83 v45_81 v44_82 (ptr bv) v43_78 v30_62 v42_76 v41_75 v40_74 v39_73 v38_72 v37_71 v36_69 v35_68 v34_67 v33_66 v32_64 (ptr b) (ptr rb) v29_61 v28_60 v27_59 v26_58 v25_57 v24_56 v23_55 v22_54 (ptr b') v21_51 v19_49 v18_48 v17_47 v16_46 v15_45 v14_44 v13_43 v12_40 v10_38 (.int .i64 (N : Int)) v9_35 v7_33 v5_29 v4_28 v3_27 (.bool true) v1_2) := by
  have nb : ∀ x : Bool, (x != x) = false := fun x => by cases x <;> rfl
  unfold B_law12_VaultPlays_c11
  refine few12_spec (h1.ext D0.out) (fun a ha => (hin a ha).ext D0.out) ?_
  intro m v3 hm60 hml hr3 hbs
  have hrow := hr3 W h1
  have hlen3 : (l.take m).length = m := by simp; omega
  have hin' : ∀ a ∈ l.take m, a.In W := fun a ha => hin a (List.mem_of_mem_take ha)
  generalize l.take m = l3 at hrow hlen3 hbs hin'
  obtain ⟨a3, c3, e3⟩ := hrow.slice
  rw [hlen3] at e3
  rw [e3, X_len_136, ← e3]
  refine loopG 0 (fun ρ wr => ∃ (i : Nat) (d : Dk), i ≤ m ∧ Duo (fun k => W.heap.size ≤ k) W wr b b' d d ∧ VaultAt wr bv b v ∧ wr.heap[rb]? = some (.cells (Vt.cs v b').toArray 138 (0, 0)) ∧ d.safe.length = N ∧ d.ws.length ≤ 160 * i ∧
      ρ 95 = .int .i64 (i : Int) ∧ ρ 94 = .int .i64 (m : Int) ∧ ρ 93 = v3 ∧ ρ 13 = ptr rb ∧ ρ 11 = ptr bv ∧ ρ 9 = ptr b' ∧ ρ 7 = ptr b ∧ ρ 6 = .int .i64 (N : Int) ∧ ρ 5 = .bool true)
    (fun ρ wr => match ρ 95 with | .int _ s => (m - s).toNat | _ => 0)
    (fun ρ wr => ∃ d, Duo (fun k => W.heap.size ≤ k) W wr b b' d d ∧ d.safe.length = N ∧ d.ws.length ≤ 9600 ∧ ρ 9 = ptr b' ∧ ρ 7 = ptr b ∧ ρ 6 = .int .i64 (N : Int) ∧ ρ 5 = .bool true) ?_ ?_ ?_
  · exact ⟨0, _, by omega, D0, hv0, hrb0, hN, by show 0 ≤ _; omega, rfl, rfl, rfl, rfl, rfl, rfl, rfl, rfl, rfl⟩
  · rintro J hJ ρ wr ⟨i, d, hi, D, hv, hrb, hsz, hws, r95, r94, r93, r13, r11, r9, r7, r6, r5⟩
    rw [r95, r94, r93, X_lss, condS_bool]
    by_cases him : i = m
    · rw [if_neg (by simp; omega)]
      exact hJ _ _ ⟨d, D, hsz, by omega, r9, r7, r6, r5⟩
    rw [if_pos (by simp; omega)]
    have hit : i < l3.length := by omega
    have hai := hin' _ (List.getElem_mem hit)
    have hbi := hbs _ (List.getElem_mem hit)
    unfold B_law12_VaultPlays_c8
    refine X_takeAct12 (hrow.ext D.out) hit (hai.ext D.out) ?_
    intro u1 u2 q w4 hx4 hq hqb
    generalize l3[i] = A at hai hbi hqb
    have D4 := D.more hx4
    have hv4 : VaultAt w4 bv b v := hx4.get hv
    have hrb4 := hx4.get hrb
    have okd : v.ok d.safe.length := by rw [hsz]; exact okv
    refine joinS_of (fun ρ' w' => ∃ d2 : Dk, Duo (fun k => W.heap.size ≤ k) W w' b b' d2 d2 ∧ VaultAt w' bv b v ∧ w'.heap[rb]? = some (.cells (Vt.cs v b').toArray 138 (0, 0)) ∧ d2.safe.length = N ∧ d2.ws.length ≤ 160 * (i + 1) ∧
      ρ' 95 = .int .i64 (i : Int) ∧ ρ' 94 = .int .i64 (m : Int) ∧ ρ' 93 = v3 ∧ ρ' 13 = ptr rb ∧ ρ' 11 = ptr bv ∧ ρ' 9 = ptr b' ∧ ρ' 7 = ptr b ∧ ρ' 6 = .int .i64 (N : Int) ∧ ρ' 5 = .bool true) ?_ ?_
    · rintro ρ' w' ⟨d2, D2, hv2, hrb2, hsz2, hws2, g95, g94, g93, g13, g11, g9, g7, g6, g5⟩
      unfold B_law12_VaultPlays_c1
      rw [g9, g7]
      have Dd := D2.more (Keep.drew (fun _ => False) w')
      obtain ⟨okr, sv, pv, hr⟩ := Dd.ref
      refine ⟨Ext, Ext.frame, ?_⟩
      (repeat (first | with_reducible (first | refine Eq.mpr (B_law12_VaultPlays_c16.eq_1 ..) ?_ | refine Eq.mpr (B_law12_VaultPlays_c15.eq_1 ..) ?_ | refine Eq.mpr (B_law12_VaultPlays_c14.eq_1 ..) ?_ | refine Eq.mpr (B_law12_VaultPlays_c13.eq_1 ..) ?_ | refine Eq.mpr (B_law12_VaultPlays_c12.eq_1 ..) ?_ | refine Eq.mpr (B_law12_VaultPlays_c10.eq_1 ..) ?_ | refine Eq.mpr (B_law12_VaultPlays_c9.eq_1 ..) ?_ | refine Eq.mpr (B_law12_VaultPlays_c8.eq_1 ..) ?_ | refine Eq.mpr (B_law12_VaultPlays_c7.eq_1 ..) ?_ | refine Eq.mpr (B_law12_VaultPlays_c6.eq_1 ..) ?_ | refine Eq.mpr (B_law12_VaultPlays_c5.eq_1 ..) ?_ | refine Eq.mpr (B_law12_VaultPlays_c4.eq_1 ..) ?_ | refine Eq.mpr (B_law12_VaultPlays_c3.eq_1 ..) ?_ | refine Eq.mpr (B_law12_VaultPlays_c2.eq_1 ..) ?_ | refine Eq.mpr (B_law12_VaultPlays_c1.eq_1 ..) ?_) | simp only [XP_extract0, XP_extract1, XP_extract2, XP_extract3, X_extract0, X_extract1, X_extract2, X_extract3, X_nilS, X_eql_nil_74, X_neq_nil_74, X_eql_nil_124, X_neq_nil_124, X_eql, X_neq, X_lss, X_leq, X_gtr, X_geq, X_not, X_min, X_max, X_len_27, X_len_9, X_len_79, XP_nilS, XP_eql, XP_neq, XP_lss, XP_leq, XP_gtr, XP_geq, XP_not, XP_min, XP_max, XP_len_27, XP_len_9, XP_eql_nil_74, X_str_eql, X_str_neq, XP_str_eql, XP_str_neq, GS, gs_u, decide_true, decide_false, Option.isNone_some, Option.isSome_some, Option.isNone_none, Option.isSome_none, eq_self, Bool.not_true, Bool.not_false, Int.reduceEq, Int.reduceNe, Int.reduceLT, Int.reduceLE, Int.reduceGT, Int.reduceGE]))
      rw [XP_field_148_4]
      refine XR_ok Ext.frame (fun w' k => run_loadAt agg_3 (blk_get (k.get hr.blk) (v := .int .i64 d2.done) rfl)) ?_
      refine Done_spec Dd.disk ?_
      refine ⟨Keep.refl _ _, ?_⟩
      have en : decide (d2.done ≠ d2.done) = false := by simp
      (repeat (first | with_reducible (first | refine Eq.mpr (B_law12_VaultPlays_c16.eq_1 ..) ?_ | refine Eq.mpr (B_law12_VaultPlays_c15.eq_1 ..) ?_ | refine Eq.mpr (B_law12_VaultPlays_c14.eq_1 ..) ?_ | refine Eq.mpr (B_law12_VaultPlays_c13.eq_1 ..) ?_ | refine Eq.mpr (B_law12_VaultPlays_c12.eq_1 ..) ?_ | refine Eq.mpr (B_law12_VaultPlays_c10.eq_1 ..) ?_ | refine Eq.mpr (B_law12_VaultPlays_c9.eq_1 ..) ?_ | refine Eq.mpr (B_law12_VaultPlays_c8.eq_1 ..) ?_ | refine Eq.mpr (B_law12_VaultPlays_c7.eq_1 ..) ?_ | refine Eq.mpr (B_law12_VaultPlays_c6.eq_1 ..) ?_ | refine Eq.mpr (B_law12_VaultPlays_c5.eq_1 ..) ?_ | refine Eq.mpr (B_law12_VaultPlays_c4.eq_1 ..) ?_ | refine Eq.mpr (B_law12_VaultPlays_c3.eq_1 ..) ?_ | refine Eq.mpr (B_law12_VaultPlays_c2.eq_1 ..) ?_ | refine Eq.mpr (B_law12_VaultPlays_c1.eq_1 ..) ?_) | simp only [XP_extract0, XP_extract1, XP_extract2, XP_extract3, X_extract0, X_extract1, X_extract2, X_extract3, X_nilS, X_eql_nil_74, X_neq_nil_74, X_eql_nil_124, X_neq_nil_124, X_eql, X_neq, X_lss, X_leq, X_gtr, X_geq, X_not, X_min, X_max, X_len_27, X_len_9, X_len_79, XP_nilS, XP_eql, XP_neq, XP_lss, XP_leq, XP_gtr, XP_geq, XP_not, XP_min, XP_max, XP_len_27, XP_len_9, XP_eql_nil_74, X_str_eql, X_str_neq, XP_str_eql, XP_str_neq, GS, gs_u, decide_true, decide_false, Option.isNone_some, Option.isSome_some, Option.isNone_none, Option.isSome_none, eq_self, Bool.not_true, Bool.not_false, Int.reduceEq, Int.reduceNe, Int.reduceLT, Int.reduceLE, Int.reduceGT, Int.reduceGE, en]))
      rw [XP_field_148_2]
      refine XR_ok Ext.frame (fun w' k => run_loadAt agg_4 (blk_get (k.get hr.blk) (v := .bool d2.dead) rfl)) ?_
      refine Dead_spec Dd.disk ?_
      refine ⟨Keep.refl _ _, ?_⟩
      refine XP_of (fun w => Go.Sh.run_neq_bool Try.underlying4 _ _ _ _ w) ?_
      rw [nb]
      (repeat (first | with_reducible (first | refine Eq.mpr (B_law12_VaultPlays_c16.eq_1 ..) ?_ | refine Eq.mpr (B_law12_VaultPlays_c15.eq_1 ..) ?_ | refine Eq.mpr (B_law12_VaultPlays_c14.eq_1 ..) ?_ | refine Eq.mpr (B_law12_VaultPlays_c13.eq_1 ..) ?_ | refine Eq.mpr (B_law12_VaultPlays_c12.eq_1 ..) ?_ | refine Eq.mpr (B_law12_VaultPlays_c10.eq_1 ..) ?_ | refine Eq.mpr (B_law12_VaultPlays_c9.eq_1 ..) ?_ | refine Eq.mpr (B_law12_VaultPlays_c8.eq_1 ..) ?_ | refine Eq.mpr (B_law12_VaultPlays_c7.eq_1 ..) ?_ | refine Eq.mpr (B_law12_VaultPlays_c6.eq_1 ..) ?_ | refine Eq.mpr (B_law12_VaultPlays_c5.eq_1 ..) ?_ | refine Eq.mpr (B_law12_VaultPlays_c4.eq_1 ..) ?_ | refine Eq.mpr (B_law12_VaultPlays_c3.eq_1 ..) ?_ | refine Eq.mpr (B_law12_VaultPlays_c2.eq_1 ..) ?_ | refine Eq.mpr (B_law12_VaultPlays_c1.eq_1 ..) ?_) | simp only [XP_extract0, XP_extract1, XP_extract2, XP_extract3, X_extract0, X_extract1, X_extract2, X_extract3, X_nilS, X_eql_nil_74, X_neq_nil_74, X_eql_nil_124, X_neq_nil_124, X_eql, X_neq, X_lss, X_leq, X_gtr, X_geq, X_not, X_min, X_max, X_len_27, X_len_9, X_len_79, XP_nilS, XP_eql, XP_neq, XP_lss, XP_leq, XP_gtr, XP_geq, XP_not, XP_min, XP_max, XP_len_27, XP_len_9, XP_eql_nil_74, X_str_eql, X_str_neq, XP_str_eql, XP_str_neq, GS, gs_u, decide_true, decide_false, Option.isNone_some, Option.isSome_some, Option.isNone_none, Option.isSome_none, eq_self, Bool.not_true, Bool.not_false, Int.reduceEq, Int.reduceNe, Int.reduceLT, Int.reduceLE, Int.reduceGT, Int.reduceGE]))
      rw [g95, X_add]
      show _ ∧ _
      refine ⟨⟨i + 1, d2, by omega, Dd, hv2, hrb2, hsz2, hws2, next64 (n := 60) (by decide) (by omega), g94, g93, g13, g11, g9, g7, g6, g5⟩, ?_⟩
      show (_ - IntKind.i64.wrap _).toNat < _
      rw [w64 (by omega) (by omega)]
      first | omega | (show _ < (_ : Int).toNat; omega)
    · intro J2 hJ2
      have off4 : ∀ {w : World} {e : Dk}, Duo (fun k => W.heap.size ≤ k) W w b b' e e → Off w b A ∧ Off w b' A := fun D => ⟨off_of hai D.low, off_of hai D.low'⟩
      rw [X_field_142_0]
      refine X_loadL agg_5 hqb (v := .int .u8 (A.kind : Int)) rfl ?_
      refine X_of (kind6 5 _ _) ?_
      have hk6 : A.kind % 6 < 6 := Nat.mod_lt _ (by decide)
      generalize A.kind % 6 = kd at hk6
      (repeat (first | with_reducible (first | refine Eq.mpr (B_law12_VaultPlays_c16.eq_1 ..) ?_ | refine Eq.mpr (B_law12_VaultPlays_c15.eq_1 ..) ?_ | refine Eq.mpr (B_law12_VaultPlays_c14.eq_1 ..) ?_ | refine Eq.mpr (B_law12_VaultPlays_c13.eq_1 ..) ?_ | refine Eq.mpr (B_law12_VaultPlays_c12.eq_1 ..) ?_ | refine Eq.mpr (B_law12_VaultPlays_c10.eq_1 ..) ?_ | refine Eq.mpr (B_law12_VaultPlays_c9.eq_1 ..) ?_ | refine Eq.mpr (B_law12_VaultPlays_c8.eq_1 ..) ?_ | refine Eq.mpr (B_law12_VaultPlays_c7.eq_1 ..) ?_ | refine Eq.mpr (B_law12_VaultPlays_c6.eq_1 ..) ?_ | refine Eq.mpr (B_law12_VaultPlays_c5.eq_1 ..) ?_ | refine Eq.mpr (B_law12_VaultPlays_c4.eq_1 ..) ?_ | refine Eq.mpr (B_law12_VaultPlays_c3.eq_1 ..) ?_ | refine Eq.mpr (B_law12_VaultPlays_c2.eq_1 ..) ?_ | refine Eq.mpr (B_law12_VaultPlays_c1.eq_1 ..) ?_) | simp only [XP_extract0, XP_extract1, XP_extract2, XP_extract3, X_extract0, X_extract1, X_extract2, X_extract3, X_nilS, X_eql_nil_74, X_neq_nil_74, X_eql_nil_124, X_neq_nil_124, X_eql, X_neq, X_lss, X_leq, X_gtr, X_geq, X_not, X_min, X_max, X_len_27, X_len_9, X_len_79, XP_nilS, XP_eql, XP_neq, XP_lss, XP_leq, XP_gtr, XP_geq, XP_not, XP_min, XP_max, XP_len_27, XP_len_9, XP_eql_nil_74, X_str_eql, X_str_neq, XP_str_eql, XP_str_neq, GS, gs_u, decide_true, decide_false, Option.isNone_some, Option.isSome_some, Option.isNone_none, Option.isSome_none, eq_self, Bool.not_true, Bool.not_false, Int.reduceEq, Int.reduceNe, Int.reduceLT, Int.reduceLE, Int.reduceGT, Int.reduceGE]))
      by_cases k0 : kd = 0
      · have c : decide ((kd : Int) = 0) = true := by simp; omega
        (repeat (first | with_reducible (first | refine Eq.mpr (B_law12_VaultPlays_c16.eq_1 ..) ?_ | refine Eq.mpr (B_law12_VaultPlays_c15.eq_1 ..) ?_ | refine Eq.mpr (B_law12_VaultPlays_c14.eq_1 ..) ?_ | refine Eq.mpr (B_law12_VaultPlays_c13.eq_1 ..) ?_ | refine Eq.mpr (B_law12_VaultPlays_c12.eq_1 ..) ?_ | refine Eq.mpr (B_law12_VaultPlays_c10.eq_1 ..) ?_ | refine Eq.mpr (B_law12_VaultPlays_c9.eq_1 ..) ?_ | refine Eq.mpr (B_law12_VaultPlays_c8.eq_1 ..) ?_ | refine Eq.mpr (B_law12_VaultPlays_c7.eq_1 ..) ?_ | refine Eq.mpr (B_law12_VaultPlays_c6.eq_1 ..) ?_ | refine Eq.mpr (B_law12_VaultPlays_c5.eq_1 ..) ?_ | refine Eq.mpr (B_law12_VaultPlays_c4.eq_1 ..) ?_ | refine Eq.mpr (B_law12_VaultPlays_c3.eq_1 ..) ?_ | refine Eq.mpr (B_law12_VaultPlays_c2.eq_1 ..) ?_ | refine Eq.mpr (B_law12_VaultPlays_c1.eq_1 ..) ?_) | simp only [XP_extract0, XP_extract1, XP_extract2, XP_extract3, X_extract0, X_extract1, X_extract2, X_extract3, X_nilS, X_eql_nil_74, X_neq_nil_74, X_eql_nil_124, X_neq_nil_124, X_eql, X_neq, X_lss, X_leq, X_gtr, X_geq, X_not, X_min, X_max, X_len_27, X_len_9, X_len_79, XP_nilS, XP_eql, XP_neq, XP_lss, XP_leq, XP_gtr, XP_geq, XP_not, XP_min, XP_max, XP_len_27, XP_len_9, XP_eql_nil_74, X_str_eql, X_str_neq, XP_str_eql, XP_str_neq, GS, gs_u, decide_true, decide_false, Option.isNone_some, Option.isSome_some, Option.isNone_none, Option.isSome_none, eq_self, Bool.not_true, Bool.not_false, Int.reduceEq, Int.reduceNe, Int.reduceLT, Int.reduceLE, Int.reduceGT, Int.reduceGE, c]))
        try unfold B_law12_VaultPlays_c2
        have Dd := D4.more (Keep.drew (fun _ => False) w4)
        have hqd : (drewW w4).heap[q]? = some (.cells A.cs.toArray 142 (0, 0)) := hqb
        have hvd : VaultAt (drewW w4) bv b v := hv4
        have hrbd : (drewW w4).heap[rb]? = some (.cells (Vt.cs v b').toArray 138 (0, 0)) := hrb4
        generalize drewW w4 = w5 at Dd hqd hvd hrbd ⊢
        have G := Dd.start
        have nq := Dd.no hqd (by decide) (by decide) (by decide) (by decide) (by decide) (by decide)
        have nrb := Dd.no hrbd (by decide) (by decide) (by decide) (by decide) (by decide) (by decide)
        have nv := Dd.no hvd (by decide) (by decide) (by decide) (by decide) (by decide) (by decide)
        have nbv : 0 < A.bs.length → ∀ k, A.bv.ownBlock = some k → ¬ Both w5 b b' k := fun h0 k hk hB => by
          have := hai.bts.blk_lt h0 k hk
          rcases hB with hB | hB | hB
          · have := Dd.keep.size; omega
          · have := Dd.low k hB; omega
          · have := Dd.low' k hB; omega
        refine ⟨Keep (Both w5 b b'), Keep.frame _, ?_⟩
        rw [XP_field_142_1]
        refine XR_ok (Keep.frame _) (fun w' k => run_loadAt agg_3 (blk_get (k.get nq hqd) (v := .int .i64 A.pos) rfl)) ?_
        rw [XP_field_142_3]
        refine XR_ok (Keep.frame _) (fun w' k => run_loadAt agg_27 (blk_get (k.get nq hqd) (v := A.bv) rfl)) ?_
        rw [r13]
        refine XR_ok (Keep.frame _) (fun w' k => run_loadAgg Try.underlying138 agg_138 info_138 (l := Vt.cs v b') (k.get nrb hrbd) (by rw [sz_138]; rfl) (by rw [sz_138]; rfl)) ?_
        rw [XP_field_142_1]
        refine XR_ok (Keep.frame _) (fun w' k => run_loadAt agg_3 (blk_get (k.get nq hqd) (v := .int .i64 A.pos) rfl)) ?_
        rw [XP_field_142_3]
        refine XR_ok (Keep.frame _) (fun w' k => run_loadAt agg_27 (blk_get (k.get nq hqd) (v := A.bv) rfl)) ?_
        refine XR_strB (hai.bts.ext Dd.out) nbv ?_
        refine X_of (run_empty27 _) ?_
        have hxe := newB_ext w5 #[] 5
        refine ⟨hxe.ext, ?_⟩
        refine X_append_bts (xs := []) Try.underlying27 el_5 (own_emptyT w5 5 1) ((hai.bts.ext Dd.out).ext hxe) (by omega) (by rw [newB_size]; omega) ?_
        intro u w6 hu6 hk6'
        rw [List.nil_append] at hu6
        refine ⟨hk6'.mono (fun k _ hk => .inl ?_), ?_⟩
        · have : k = w5.heap.size := by injection hk.symm with h; exact h.symm
          omega
        have hx6 : Ext w5 w6 := Ext.seq hxe hk6' (fun k hk => by
          have : k = w5.heap.size := by injection hk.symm with h; exact h.symm
          omega)
        have G6 := G.more hx6
        rw [r11]
        refine VPut_spec (hx6.get hvd) G6.disk okd (by omega) (own_bts hu6).1 ?_
        intro w7 hd7 s7
        refine ⟨G6.stepL s7, ?_⟩
        have G7 := G6.left hd7 s7
        refine RVPut_spec G7.ref okd (by omega) ?_
        intro w8 hr8 s8
        refine ⟨G7.stepR s8, ?_⟩
        have G8 := G7.right hr8 s8
        have en : decide ((vput v d A.pos A.bs).2 ≠ (vput v d A.pos A.bs).2) = false := by simp
        (repeat (first | with_reducible (first | refine Eq.mpr (B_law12_VaultPlays_c16.eq_1 ..) ?_ | refine Eq.mpr (B_law12_VaultPlays_c15.eq_1 ..) ?_ | refine Eq.mpr (B_law12_VaultPlays_c14.eq_1 ..) ?_ | refine Eq.mpr (B_law12_VaultPlays_c13.eq_1 ..) ?_ | refine Eq.mpr (B_law12_VaultPlays_c12.eq_1 ..) ?_ | refine Eq.mpr (B_law12_VaultPlays_c10.eq_1 ..) ?_ | refine Eq.mpr (B_law12_VaultPlays_c9.eq_1 ..) ?_ | refine Eq.mpr (B_law12_VaultPlays_c8.eq_1 ..) ?_ | refine Eq.mpr (B_law12_VaultPlays_c7.eq_1 ..) ?_ | refine Eq.mpr (B_law12_VaultPlays_c6.eq_1 ..) ?_ | refine Eq.mpr (B_law12_VaultPlays_c5.eq_1 ..) ?_ | refine Eq.mpr (B_law12_VaultPlays_c4.eq_1 ..) ?_ | refine Eq.mpr (B_law12_VaultPlays_c3.eq_1 ..) ?_ | refine Eq.mpr (B_law12_VaultPlays_c2.eq_1 ..) ?_ | refine Eq.mpr (B_law12_VaultPlays_c1.eq_1 ..) ?_) | simp only [XP_extract0, XP_extract1, XP_extract2, XP_extract3, X_extract0, X_extract1, X_extract2, X_extract3, X_nilS, X_eql_nil_74, X_neq_nil_74, X_eql_nil_124, X_neq_nil_124, X_eql, X_neq, X_lss, X_leq, X_gtr, X_geq, X_not, X_min, X_max, X_len_27, X_len_9, X_len_79, XP_nilS, XP_eql, XP_neq, XP_lss, XP_leq, XP_gtr, XP_geq, XP_not, XP_min, XP_max, XP_len_27, XP_len_9, XP_eql_nil_74, X_str_eql, X_str_neq, XP_str_eql, XP_str_neq, GS, gs_u, decide_true, decide_false, Option.isNone_some, Option.isSome_some, Option.isNone_none, Option.isSome_none, eq_self, Bool.not_true, Bool.not_false, Int.reduceEq, Int.reduceNe, Int.reduceLT, Int.reduceLE, Int.reduceGT, Int.reduceGE, en]))
        have D8 := Dd.after G8
        exact hJ2 _ _ ⟨_, D8, G8.keep.get nv hvd, G8.keep.get nrb hrbd, (vput_size _ _ _ _).trans hsz, by have := vput_ws2 v d A.pos (bs := A.bs) hbi; omega, r95, r94, r93, r13, r11, r9, r7, r6, r5⟩
      have c : decide ((kd : Int) = 0) = false := by simp; omega
      (repeat (first | with_reducible (first | refine Eq.mpr (B_law12_VaultPlays_c16.eq_1 ..) ?_ | refine Eq.mpr (B_law12_VaultPlays_c15.eq_1 ..) ?_ | refine Eq.mpr (B_law12_VaultPlays_c14.eq_1 ..) ?_ | refine Eq.mpr (B_law12_VaultPlays_c13.eq_1 ..) ?_ | refine Eq.mpr (B_law12_VaultPlays_c12.eq_1 ..) ?_ | refine Eq.mpr (B_law12_VaultPlays_c10.eq_1 ..) ?_ | refine Eq.mpr (B_law12_VaultPlays_c9.eq_1 ..) ?_ | refine Eq.mpr (B_law12_VaultPlays_c8.eq_1 ..) ?_ | refine Eq.mpr (B_law12_VaultPlays_c7.eq_1 ..) ?_ | refine Eq.mpr (B_law12_VaultPlays_c6.eq_1 ..) ?_ | refine Eq.mpr (B_law12_VaultPlays_c5.eq_1 ..) ?_ | refine Eq.mpr (B_law12_VaultPlays_c4.eq_1 ..) ?_ | refine Eq.mpr (B_law12_VaultPlays_c3.eq_1 ..) ?_ | refine Eq.mpr (B_law12_VaultPlays_c2.eq_1 ..) ?_ | refine Eq.mpr (B_law12_VaultPlays_c1.eq_1 ..) ?_) | simp only [XP_extract0, XP_extract1, XP_extract2, XP_extract3, X_extract0, X_extract1, X_extract2, X_extract3, X_nilS, X_eql_nil_74, X_neq_nil_74, X_eql_nil_124, X_neq_nil_124, X_eql, X_neq, X_lss, X_leq, X_gtr, X_geq, X_not, X_min, X_max, X_len_27, X_len_9, X_len_79, XP_nilS, XP_eql, XP_neq, XP_lss, XP_leq, XP_gtr, XP_geq, XP_not, XP_min, XP_max, XP_len_27, XP_len_9, XP_eql_nil_74, X_str_eql, X_str_neq, XP_str_eql, XP_str_neq, GS, gs_u, decide_true, decide_false, Option.isNone_some, Option.isSome_some, Option.isNone_none, Option.isSome_none, eq_self, Bool.not_true, Bool.not_false, Int.reduceEq, Int.reduceNe, Int.reduceLT, Int.reduceLE, Int.reduceGT, Int.reduceGE, c]))
      by_cases k1 : kd = 1
      · have c : decide ((kd : Int) = 1) = true := by simp; omega
        (repeat (first | with_reducible (first | refine Eq.mpr (B_law12_VaultPlays_c16.eq_1 ..) ?_ | refine Eq.mpr (B_law12_VaultPlays_c15.eq_1 ..) ?_ | refine Eq.mpr (B_law12_VaultPlays_c14.eq_1 ..) ?_ | refine Eq.mpr (B_law12_VaultPlays_c13.eq_1 ..) ?_ | refine Eq.mpr (B_law12_VaultPlays_c12.eq_1 ..) ?_ | refine Eq.mpr (B_law12_VaultPlays_c10.eq_1 ..) ?_ | refine Eq.mpr (B_law12_VaultPlays_c9.eq_1 ..) ?_ | refine Eq.mpr (B_law12_VaultPlays_c8.eq_1 ..) ?_ | refine Eq.mpr (B_law12_VaultPlays_c7.eq_1 ..) ?_ | refine Eq.mpr (B_law12_VaultPlays_c6.eq_1 ..) ?_ | refine Eq.mpr (B_law12_VaultPlays_c5.eq_1 ..) ?_ | refine Eq.mpr (B_law12_VaultPlays_c4.eq_1 ..) ?_ | refine Eq.mpr (B_law12_VaultPlays_c3.eq_1 ..) ?_ | refine Eq.mpr (B_law12_VaultPlays_c2.eq_1 ..) ?_ | refine Eq.mpr (B_law12_VaultPlays_c1.eq_1 ..) ?_) | simp only [XP_extract0, XP_extract1, XP_extract2, XP_extract3, X_extract0, X_extract1, X_extract2, X_extract3, X_nilS, X_eql_nil_74, X_neq_nil_74, X_eql_nil_124, X_neq_nil_124, X_eql, X_neq, X_lss, X_leq, X_gtr, X_geq, X_not, X_min, X_max, X_len_27, X_len_9, X_len_79, XP_nilS, XP_eql, XP_neq, XP_lss, XP_leq, XP_gtr, XP_geq, XP_not, XP_min, XP_max, XP_len_27, XP_len_9, XP_eql_nil_74, X_str_eql, X_str_neq, XP_str_eql, XP_str_neq, GS, gs_u, decide_true, decide_false, Option.isNone_some, Option.isSome_some, Option.isNone_none, Option.isSome_none, eq_self, Bool.not_true, Bool.not_false, Int.reduceEq, Int.reduceNe, Int.reduceLT, Int.reduceLE, Int.reduceGT, Int.reduceGE, c]))
        try unfold B_law12_VaultPlays_c7
        (repeat (first | with_reducible (first | refine Eq.mpr (B_law12_VaultPlays_c16.eq_1 ..) ?_ | refine Eq.mpr (B_law12_VaultPlays_c15.eq_1 ..) ?_ | refine Eq.mpr (B_law12_VaultPlays_c14.eq_1 ..) ?_ | refine Eq.mpr (B_law12_VaultPlays_c13.eq_1 ..) ?_ | refine Eq.mpr (B_law12_VaultPlays_c12.eq_1 ..) ?_ | refine Eq.mpr (B_law12_VaultPlays_c10.eq_1 ..) ?_ | refine Eq.mpr (B_law12_VaultPlays_c9.eq_1 ..) ?_ | refine Eq.mpr (B_law12_VaultPlays_c8.eq_1 ..) ?_ | refine Eq.mpr (B_law12_VaultPlays_c7.eq_1 ..) ?_ | refine Eq.mpr (B_law12_VaultPlays_c6.eq_1 ..) ?_ | refine Eq.mpr (B_law12_VaultPlays_c5.eq_1 ..) ?_ | refine Eq.mpr (B_law12_VaultPlays_c4.eq_1 ..) ?_ | refine Eq.mpr (B_law12_VaultPlays_c3.eq_1 ..) ?_ | refine Eq.mpr (B_law12_VaultPlays_c2.eq_1 ..) ?_ | refine Eq.mpr (B_law12_VaultPlays_c1.eq_1 ..) ?_) | simp only [XP_extract0, XP_extract1, XP_extract2, XP_extract3, X_extract0, X_extract1, X_extract2, X_extract3, X_nilS, X_eql_nil_74, X_neq_nil_74, X_eql_nil_124, X_neq_nil_124, X_eql, X_neq, X_lss, X_leq, X_gtr, X_geq, X_not, X_min, X_max, X_len_27, X_len_9, X_len_79, XP_nilS, XP_eql, XP_neq, XP_lss, XP_leq, XP_gtr, XP_geq, XP_not, XP_min, XP_max, XP_len_27, XP_len_9, XP_eql_nil_74, X_str_eql, X_str_neq, XP_str_eql, XP_str_neq, GS, gs_u, decide_true, decide_false, Option.isNone_some, Option.isSome_some, Option.isNone_none, Option.isSome_none, eq_self, Bool.not_true, Bool.not_false, Int.reduceEq, Int.reduceNe, Int.reduceLT, Int.reduceLE, Int.reduceGT, Int.reduceGE]))
        rw [X_field_142_1]
        refine X_loadL agg_3 hqb (v := .int .i64 A.pos) rfl ?_
        rw [r11, r13]
        refine VGet_spec hv4 D4.disk okd ?_
        intro u w5 hx5 hu5
        have D5 := D4.more hx5
        have hrb5 := hx5.get hrb4
        (repeat (first | with_reducible (first | refine Eq.mpr (B_law12_VaultPlays_c16.eq_1 ..) ?_ | refine Eq.mpr (B_law12_VaultPlays_c15.eq_1 ..) ?_ | refine Eq.mpr (B_law12_VaultPlays_c14.eq_1 ..) ?_ | refine Eq.mpr (B_law12_VaultPlays_c13.eq_1 ..) ?_ | refine Eq.mpr (B_law12_VaultPlays_c12.eq_1 ..) ?_ | refine Eq.mpr (B_law12_VaultPlays_c10.eq_1 ..) ?_ | refine Eq.mpr (B_law12_VaultPlays_c9.eq_1 ..) ?_ | refine Eq.mpr (B_law12_VaultPlays_c8.eq_1 ..) ?_ | refine Eq.mpr (B_law12_VaultPlays_c7.eq_1 ..) ?_ | refine Eq.mpr (B_law12_VaultPlays_c6.eq_1 ..) ?_ | refine Eq.mpr (B_law12_VaultPlays_c5.eq_1 ..) ?_ | refine Eq.mpr (B_law12_VaultPlays_c4.eq_1 ..) ?_ | refine Eq.mpr (B_law12_VaultPlays_c3.eq_1 ..) ?_ | refine Eq.mpr (B_law12_VaultPlays_c2.eq_1 ..) ?_ | refine Eq.mpr (B_law12_VaultPlays_c1.eq_1 ..) ?_) | simp only [XP_extract0, XP_extract1, XP_extract2, XP_extract3, X_extract0, X_extract1, X_extract2, X_extract3, X_nilS, X_eql_nil_74, X_neq_nil_74, X_eql_nil_124, X_neq_nil_124, X_eql, X_neq, X_lss, X_leq, X_gtr, X_geq, X_not, X_min, X_max, X_len_27, X_len_9, X_len_79, XP_nilS, XP_eql, XP_neq, XP_lss, XP_leq, XP_gtr, XP_geq, XP_not, XP_min, XP_max, XP_len_27, XP_len_9, XP_eql_nil_74, X_str_eql, X_str_neq, XP_str_eql, XP_str_neq, GS, gs_u, decide_true, decide_false, Option.isNone_some, Option.isSome_some, Option.isNone_none, Option.isSome_none, eq_self, Bool.not_true, Bool.not_false, Int.reduceEq, Int.reduceNe, Int.reduceLT, Int.reduceLE, Int.reduceGT, Int.reduceGE]))
        refine X_loadAgg Try.underlying138 agg_138 info_138 (l := Vt.cs v b') hrb5 (by rw [sz_138]; rfl) ?_
        rw [X_field_142_1]
        refine X_loadL agg_3 (hx5.get hqb) (v := .int .i64 A.pos) rfl ?_
        refine RVGet_spec D5.ref okd (by omega) ?_
        intro w6 hx6
        (repeat (first | with_reducible (first | refine Eq.mpr (B_law12_VaultPlays_c16.eq_1 ..) ?_ | refine Eq.mpr (B_law12_VaultPlays_c15.eq_1 ..) ?_ | refine Eq.mpr (B_law12_VaultPlays_c14.eq_1 ..) ?_ | refine Eq.mpr (B_law12_VaultPlays_c13.eq_1 ..) ?_ | refine Eq.mpr (B_law12_VaultPlays_c12.eq_1 ..) ?_ | refine Eq.mpr (B_law12_VaultPlays_c10.eq_1 ..) ?_ | refine Eq.mpr (B_law12_VaultPlays_c9.eq_1 ..) ?_ | refine Eq.mpr (B_law12_VaultPlays_c8.eq_1 ..) ?_ | refine Eq.mpr (B_law12_VaultPlays_c7.eq_1 ..) ?_ | refine Eq.mpr (B_law12_VaultPlays_c6.eq_1 ..) ?_ | refine Eq.mpr (B_law12_VaultPlays_c5.eq_1 ..) ?_ | refine Eq.mpr (B_law12_VaultPlays_c4.eq_1 ..) ?_ | refine Eq.mpr (B_law12_VaultPlays_c3.eq_1 ..) ?_ | refine Eq.mpr (B_law12_VaultPlays_c2.eq_1 ..) ?_ | refine Eq.mpr (B_law12_VaultPlays_c1.eq_1 ..) ?_) | simp only [XP_extract0, XP_extract1, XP_extract2, XP_extract3, X_extract0, X_extract1, X_extract2, X_extract3, X_nilS, X_eql_nil_74, X_neq_nil_74, X_eql_nil_124, X_neq_nil_124, X_eql, X_neq, X_lss, X_leq, X_gtr, X_geq, X_not, X_min, X_max, X_len_27, X_len_9, X_len_79, XP_nilS, XP_eql, XP_neq, XP_lss, XP_leq, XP_gtr, XP_geq, XP_not, XP_min, XP_max, XP_len_27, XP_len_9, XP_eql_nil_74, X_str_eql, X_str_neq, XP_str_eql, XP_str_neq, GS, gs_u, decide_true, decide_false, Option.isNone_some, Option.isSome_some, Option.isNone_none, Option.isSome_none, eq_self, Bool.not_true, Bool.not_false, Int.reduceEq, Int.reduceNe, Int.reduceLT, Int.reduceLE, Int.reduceGT, Int.reduceGE]))
        refine X_str Try.underlying27 Try.underlying5 Try.underlying9 (hu5.ext hx6) ?_
        have cz : ((str (vget v d A.pos).1).toList != (str (vget v d A.pos).1).toList) = false := by simp
        have cn : decide ((vget v d A.pos).2 ≠ (vget v d A.pos).2) = false := by simp
        (repeat (first | with_reducible (first | refine Eq.mpr (B_law12_VaultPlays_c16.eq_1 ..) ?_ | refine Eq.mpr (B_law12_VaultPlays_c15.eq_1 ..) ?_ | refine Eq.mpr (B_law12_VaultPlays_c14.eq_1 ..) ?_ | refine Eq.mpr (B_law12_VaultPlays_c13.eq_1 ..) ?_ | refine Eq.mpr (B_law12_VaultPlays_c12.eq_1 ..) ?_ | refine Eq.mpr (B_law12_VaultPlays_c10.eq_1 ..) ?_ | refine Eq.mpr (B_law12_VaultPlays_c9.eq_1 ..) ?_ | refine Eq.mpr (B_law12_VaultPlays_c8.eq_1 ..) ?_ | refine Eq.mpr (B_law12_VaultPlays_c7.eq_1 ..) ?_ | refine Eq.mpr (B_law12_VaultPlays_c6.eq_1 ..) ?_ | refine Eq.mpr (B_law12_VaultPlays_c5.eq_1 ..) ?_ | refine Eq.mpr (B_law12_VaultPlays_c4.eq_1 ..) ?_ | refine Eq.mpr (B_law12_VaultPlays_c3.eq_1 ..) ?_ | refine Eq.mpr (B_law12_VaultPlays_c2.eq_1 ..) ?_ | refine Eq.mpr (B_law12_VaultPlays_c1.eq_1 ..) ?_) | simp only [XP_extract0, XP_extract1, XP_extract2, XP_extract3, X_extract0, X_extract1, X_extract2, X_extract3, X_nilS, X_eql_nil_74, X_neq_nil_74, X_eql_nil_124, X_neq_nil_124, X_eql, X_neq, X_lss, X_leq, X_gtr, X_geq, X_not, X_min, X_max, X_len_27, X_len_9, X_len_79, XP_nilS, XP_eql, XP_neq, XP_lss, XP_leq, XP_gtr, XP_geq, XP_not, XP_min, XP_max, XP_len_27, XP_len_9, XP_eql_nil_74, X_str_eql, X_str_neq, XP_str_eql, XP_str_neq, GS, gs_u, decide_true, decide_false, Option.isNone_some, Option.isSome_some, Option.isNone_none, Option.isSome_none, eq_self, Bool.not_true, Bool.not_false, Int.reduceEq, Int.reduceNe, Int.reduceLT, Int.reduceLE, Int.reduceGT, Int.reduceGE, cz, cn]))
        exact hJ2 _ _ ⟨d, D5.more hx6, hx6.get (hx5.get hv4), hx6.get hrb5, hsz, by omega, r95, r94, r93, r13, r11, r9, r7, r6, r5⟩
      have c : decide ((kd : Int) = 1) = false := by simp; omega
      (repeat (first | with_reducible (first | refine Eq.mpr (B_law12_VaultPlays_c16.eq_1 ..) ?_ | refine Eq.mpr (B_law12_VaultPlays_c15.eq_1 ..) ?_ | refine Eq.mpr (B_law12_VaultPlays_c14.eq_1 ..) ?_ | refine Eq.mpr (B_law12_VaultPlays_c13.eq_1 ..) ?_ | refine Eq.mpr (B_law12_VaultPlays_c12.eq_1 ..) ?_ | refine Eq.mpr (B_law12_VaultPlays_c10.eq_1 ..) ?_ | refine Eq.mpr (B_law12_VaultPlays_c9.eq_1 ..) ?_ | refine Eq.mpr (B_law12_VaultPlays_c8.eq_1 ..) ?_ | refine Eq.mpr (B_law12_VaultPlays_c7.eq_1 ..) ?_ | refine Eq.mpr (B_law12_VaultPlays_c6.eq_1 ..) ?_ | refine Eq.mpr (B_law12_VaultPlays_c5.eq_1 ..) ?_ | refine Eq.mpr (B_law12_VaultPlays_c4.eq_1 ..) ?_ | refine Eq.mpr (B_law12_VaultPlays_c3.eq_1 ..) ?_ | refine Eq.mpr (B_law12_VaultPlays_c2.eq_1 ..) ?_ | refine Eq.mpr (B_law12_VaultPlays_c1.eq_1 ..) ?_) | simp only [XP_extract0, XP_extract1, XP_extract2, XP_extract3, X_extract0, X_extract1, X_extract2, X_extract3, X_nilS, X_eql_nil_74, X_neq_nil_74, X_eql_nil_124, X_neq_nil_124, X_eql, X_neq, X_lss, X_leq, X_gtr, X_geq, X_not, X_min, X_max, X_len_27, X_len_9, X_len_79, XP_nilS, XP_eql, XP_neq, XP_lss, XP_leq, XP_gtr, XP_geq, XP_not, XP_min, XP_max, XP_len_27, XP_len_9, XP_eql_nil_74, X_str_eql, X_str_neq, XP_str_eql, XP_str_neq, GS, gs_u, decide_true, decide_false, Option.isNone_some, Option.isSome_some, Option.isNone_none, Option.isSome_none, eq_self, Bool.not_true, Bool.not_false, Int.reduceEq, Int.reduceNe, Int.reduceLT, Int.reduceLE, Int.reduceGT, Int.reduceGE, c]))
      try unfold B_law12_VaultPlays_c7
      (repeat (first | with_reducible (first | refine Eq.mpr (B_law12_VaultPlays_c16.eq_1 ..) ?_ | refine Eq.mpr (B_law12_VaultPlays_c15.eq_1 ..) ?_ | refine Eq.mpr (B_law12_VaultPlays_c14.eq_1 ..) ?_ | refine Eq.mpr (B_law12_VaultPlays_c13.eq_1 ..) ?_ | refine Eq.mpr (B_law12_VaultPlays_c12.eq_1 ..) ?_ | refine Eq.mpr (B_law12_VaultPlays_c10.eq_1 ..) ?_ | refine Eq.mpr (B_law12_VaultPlays_c9.eq_1 ..) ?_ | refine Eq.mpr (B_law12_VaultPlays_c8.eq_1 ..) ?_ | refine Eq.mpr (B_law12_VaultPlays_c7.eq_1 ..) ?_ | refine Eq.mpr (B_law12_VaultPlays_c6.eq_1 ..) ?_ | refine Eq.mpr (B_law12_VaultPlays_c5.eq_1 ..) ?_ | refine Eq.mpr (B_law12_VaultPlays_c4.eq_1 ..) ?_ | refine Eq.mpr (B_law12_VaultPlays_c3.eq_1 ..) ?_ | refine Eq.mpr (B_law12_VaultPlays_c2.eq_1 ..) ?_ | refine Eq.mpr (B_law12_VaultPlays_c1.eq_1 ..) ?_) | simp only [XP_extract0, XP_extract1, XP_extract2, XP_extract3, X_extract0, X_extract1, X_extract2, X_extract3, X_nilS, X_eql_nil_74, X_neq_nil_74, X_eql_nil_124, X_neq_nil_124, X_eql, X_neq, X_lss, X_leq, X_gtr, X_geq, X_not, X_min, X_max, X_len_27, X_len_9, X_len_79, XP_nilS, XP_eql, XP_neq, XP_lss, XP_leq, XP_gtr, XP_geq, XP_not, XP_min, XP_max, XP_len_27, XP_len_9, XP_eql_nil_74, X_str_eql, X_str_neq, XP_str_eql, XP_str_neq, GS, gs_u, decide_true, decide_false, Option.isNone_some, Option.isSome_some, Option.isNone_none, Option.isSome_none, eq_self, Bool.not_true, Bool.not_false, Int.reduceEq, Int.reduceNe, Int.reduceLT, Int.reduceLE, Int.reduceGT, Int.reduceGE]))
      try unfold B_law12_VaultPlays_c6
      by_cases k2 : kd = 2
      · have c : decide ((kd : Int) = 2) = true := by simp; omega
        (repeat (first | with_reducible (first | refine Eq.mpr (B_law12_VaultPlays_c16.eq_1 ..) ?_ | refine Eq.mpr (B_law12_VaultPlays_c15.eq_1 ..) ?_ | refine Eq.mpr (B_law12_VaultPlays_c14.eq_1 ..) ?_ | refine Eq.mpr (B_law12_VaultPlays_c13.eq_1 ..) ?_ | refine Eq.mpr (B_law12_VaultPlays_c12.eq_1 ..) ?_ | refine Eq.mpr (B_law12_VaultPlays_c10.eq_1 ..) ?_ | refine Eq.mpr (B_law12_VaultPlays_c9.eq_1 ..) ?_ | refine Eq.mpr (B_law12_VaultPlays_c8.eq_1 ..) ?_ | refine Eq.mpr (B_law12_VaultPlays_c7.eq_1 ..) ?_ | refine Eq.mpr (B_law12_VaultPlays_c6.eq_1 ..) ?_ | refine Eq.mpr (B_law12_VaultPlays_c5.eq_1 ..) ?_ | refine Eq.mpr (B_law12_VaultPlays_c4.eq_1 ..) ?_ | refine Eq.mpr (B_law12_VaultPlays_c3.eq_1 ..) ?_ | refine Eq.mpr (B_law12_VaultPlays_c2.eq_1 ..) ?_ | refine Eq.mpr (B_law12_VaultPlays_c1.eq_1 ..) ?_) | simp only [XP_extract0, XP_extract1, XP_extract2, XP_extract3, X_extract0, X_extract1, X_extract2, X_extract3, X_nilS, X_eql_nil_74, X_neq_nil_74, X_eql_nil_124, X_neq_nil_124, X_eql, X_neq, X_lss, X_leq, X_gtr, X_geq, X_not, X_min, X_max, X_len_27, X_len_9, X_len_79, XP_nilS, XP_eql, XP_neq, XP_lss, XP_leq, XP_gtr, XP_geq, XP_not, XP_min, XP_max, XP_len_27, XP_len_9, XP_eql_nil_74, X_str_eql, X_str_neq, XP_str_eql, XP_str_neq, GS, gs_u, decide_true, decide_false, Option.isNone_some, Option.isSome_some, Option.isNone_none, Option.isSome_none, eq_self, Bool.not_true, Bool.not_false, Int.reduceEq, Int.reduceNe, Int.reduceLT, Int.reduceLE, Int.reduceGT, Int.reduceGE, c]))
        rw [X_field_142_1]
        try unfold B_law12_VaultPlays_c4
        refine X_loadL agg_3 hqb (v := .int .i64 A.pos) rfl ?_
        rw [X_field_142_3]
        refine X_loadL agg_27 hqb (v := A.bv) rfl ?_
        rw [r7, r9]
        refine Write_spec D4.disk (by omega) (hai.bts.ext D4.out) (off4 D4).1.1 ?_
        intro w5 hd5 s5
        have D5 := D4.left hd5 s5
        have hq5 := s5.keep.get (D4.no1 hqb (by decide) (by decide) (by decide)) hqb
        have hv5 : VaultAt w5 bv b v := s5.keep.get (D4.no1 hv4 (by decide) (by decide) (by decide)) hv4
        have hrb5 := s5.keep.get (D4.no1 hrb4 (by decide) (by decide) (by decide)) hrb4
        rw [X_field_142_1]
        refine X_loadL agg_3 hq5 (v := .int .i64 A.pos) rfl ?_
        rw [X_field_142_3]
        refine X_loadL agg_27 hq5 (v := A.bv) rfl ?_
        refine X_str Try.underlying27 Try.underlying5 Try.underlying9 (hai.bts.ext D5.out) ?_
        refine RWrite_spec D5.ref (by omega) ?_
        intro w6 hr6 s6
        have D6 := D5.right hr6 s6
        exact hJ2 _ _ ⟨_, D6, s6.keep.get (D5.no2 hv5 (by decide) (by decide) (by decide)) hv5, s6.keep.get (D5.no2 hrb5 (by decide) (by decide) (by decide)) hrb5, (Dk.write_size _ _ _).trans hsz, by have := Dk.write_ws d A.pos A.bs; omega, r95, r94, r93, r13, r11, r9, r7, r6, r5⟩
      have c : decide ((kd : Int) = 2) = false := by simp; omega
      (repeat (first | with_reducible (first | refine Eq.mpr (B_law12_VaultPlays_c16.eq_1 ..) ?_ | refine Eq.mpr (B_law12_VaultPlays_c15.eq_1 ..) ?_ | refine Eq.mpr (B_law12_VaultPlays_c14.eq_1 ..) ?_ | refine Eq.mpr (B_law12_VaultPlays_c13.eq_1 ..) ?_ | refine Eq.mpr (B_law12_VaultPlays_c12.eq_1 ..) ?_ | refine Eq.mpr (B_law12_VaultPlays_c10.eq_1 ..) ?_ | refine Eq.mpr (B_law12_VaultPlays_c9.eq_1 ..) ?_ | refine Eq.mpr (B_law12_VaultPlays_c8.eq_1 ..) ?_ | refine Eq.mpr (B_law12_VaultPlays_c7.eq_1 ..) ?_ | refine Eq.mpr (B_law12_VaultPlays_c6.eq_1 ..) ?_ | refine Eq.mpr (B_law12_VaultPlays_c5.eq_1 ..) ?_ | refine Eq.mpr (B_law12_VaultPlays_c4.eq_1 ..) ?_ | refine Eq.mpr (B_law12_VaultPlays_c3.eq_1 ..) ?_ | refine Eq.mpr (B_law12_VaultPlays_c2.eq_1 ..) ?_ | refine Eq.mpr (B_law12_VaultPlays_c1.eq_1 ..) ?_) | simp only [XP_extract0, XP_extract1, XP_extract2, XP_extract3, X_extract0, X_extract1, X_extract2, X_extract3, X_nilS, X_eql_nil_74, X_neq_nil_74, X_eql_nil_124, X_neq_nil_124, X_eql, X_neq, X_lss, X_leq, X_gtr, X_geq, X_not, X_min, X_max, X_len_27, X_len_9, X_len_79, XP_nilS, XP_eql, XP_neq, XP_lss, XP_leq, XP_gtr, XP_geq, XP_not, XP_min, XP_max, XP_len_27, XP_len_9, XP_eql_nil_74, X_str_eql, X_str_neq, XP_str_eql, XP_str_neq, GS, gs_u, decide_true, decide_false, Option.isNone_some, Option.isSome_some, Option.isNone_none, Option.isSome_none, eq_self, Bool.not_true, Bool.not_false, Int.reduceEq, Int.reduceNe, Int.reduceLT, Int.reduceLE, Int.reduceGT, Int.reduceGE, c]))
      by_cases k3 : kd = 3
      · have c : decide ((kd : Int) = 3) = true := by simp; omega
        (repeat (first | with_reducible (first | refine Eq.mpr (B_law12_VaultPlays_c16.eq_1 ..) ?_ | refine Eq.mpr (B_law12_VaultPlays_c15.eq_1 ..) ?_ | refine Eq.mpr (B_law12_VaultPlays_c14.eq_1 ..) ?_ | refine Eq.mpr (B_law12_VaultPlays_c13.eq_1 ..) ?_ | refine Eq.mpr (B_law12_VaultPlays_c12.eq_1 ..) ?_ | refine Eq.mpr (B_law12_VaultPlays_c10.eq_1 ..) ?_ | refine Eq.mpr (B_law12_VaultPlays_c9.eq_1 ..) ?_ | refine Eq.mpr (B_law12_VaultPlays_c8.eq_1 ..) ?_ | refine Eq.mpr (B_law12_VaultPlays_c7.eq_1 ..) ?_ | refine Eq.mpr (B_law12_VaultPlays_c6.eq_1 ..) ?_ | refine Eq.mpr (B_law12_VaultPlays_c5.eq_1 ..) ?_ | refine Eq.mpr (B_law12_VaultPlays_c4.eq_1 ..) ?_ | refine Eq.mpr (B_law12_VaultPlays_c3.eq_1 ..) ?_ | refine Eq.mpr (B_law12_VaultPlays_c2.eq_1 ..) ?_ | refine Eq.mpr (B_law12_VaultPlays_c1.eq_1 ..) ?_) | simp only [XP_extract0, XP_extract1, XP_extract2, XP_extract3, X_extract0, X_extract1, X_extract2, X_extract3, X_nilS, X_eql_nil_74, X_neq_nil_74, X_eql_nil_124, X_neq_nil_124, X_eql, X_neq, X_lss, X_leq, X_gtr, X_geq, X_not, X_min, X_max, X_len_27, X_len_9, X_len_79, XP_nilS, XP_eql, XP_neq, XP_lss, XP_leq, XP_gtr, XP_geq, XP_not, XP_min, XP_max, XP_len_27, XP_len_9, XP_eql_nil_74, X_str_eql, X_str_neq, XP_str_eql, XP_str_neq, GS, gs_u, decide_true, decide_false, Option.isNone_some, Option.isSome_some, Option.isNone_none, Option.isSome_none, eq_self, Bool.not_true, Bool.not_false, Int.reduceEq, Int.reduceNe, Int.reduceLT, Int.reduceLE, Int.reduceGT, Int.reduceGE, c]))
        rw [r7, r9]
        refine Flush_spec D4.disk ?_
        intro w5 hd5 s5
        have D5 := D4.left hd5 s5
        have hv5 : VaultAt w5 bv b v := s5.keep.get (D4.no1 hv4 (by decide) (by decide) (by decide)) hv4
        have hrb5 := s5.keep.get (D4.no1 hrb4 (by decide) (by decide) (by decide)) hrb4
        refine RFlush_spec D5.ref (by omega) ?_
        intro w6 hr6 s6
        have D6 := D5.right hr6 s6
        exact hJ2 _ _ ⟨_, D6, s6.keep.get (D5.no2 hv5 (by decide) (by decide) (by decide)) hv5, s6.keep.get (D5.no2 hrb5 (by decide) (by decide) (by decide)) hrb5, (Dk.flush_size _).trans hsz, by have := Dk.flush_ws d; omega, r95, r94, r93, r13, r11, r9, r7, r6, r5⟩
      have c : decide ((kd : Int) = 3) = false := by simp; omega
      (repeat (first | with_reducible (first | refine Eq.mpr (B_law12_VaultPlays_c16.eq_1 ..) ?_ | refine Eq.mpr (B_law12_VaultPlays_c15.eq_1 ..) ?_ | refine Eq.mpr (B_law12_VaultPlays_c14.eq_1 ..) ?_ | refine Eq.mpr (B_law12_VaultPlays_c13.eq_1 ..) ?_ | refine Eq.mpr (B_law12_VaultPlays_c12.eq_1 ..) ?_ | refine Eq.mpr (B_law12_VaultPlays_c10.eq_1 ..) ?_ | refine Eq.mpr (B_law12_VaultPlays_c9.eq_1 ..) ?_ | refine Eq.mpr (B_law12_VaultPlays_c8.eq_1 ..) ?_ | refine Eq.mpr (B_law12_VaultPlays_c7.eq_1 ..) ?_ | refine Eq.mpr (B_law12_VaultPlays_c6.eq_1 ..) ?_ | refine Eq.mpr (B_law12_VaultPlays_c5.eq_1 ..) ?_ | refine Eq.mpr (B_law12_VaultPlays_c4.eq_1 ..) ?_ | refine Eq.mpr (B_law12_VaultPlays_c3.eq_1 ..) ?_ | refine Eq.mpr (B_law12_VaultPlays_c2.eq_1 ..) ?_ | refine Eq.mpr (B_law12_VaultPlays_c1.eq_1 ..) ?_) | simp only [XP_extract0, XP_extract1, XP_extract2, XP_extract3, X_extract0, X_extract1, X_extract2, X_extract3, X_nilS, X_eql_nil_74, X_neq_nil_74, X_eql_nil_124, X_neq_nil_124, X_eql, X_neq, X_lss, X_leq, X_gtr, X_geq, X_not, X_min, X_max, X_len_27, X_len_9, X_len_79, XP_nilS, XP_eql, XP_neq, XP_lss, XP_leq, XP_gtr, XP_geq, XP_not, XP_min, XP_max, XP_len_27, XP_len_9, XP_eql_nil_74, X_str_eql, X_str_neq, XP_str_eql, XP_str_neq, GS, gs_u, decide_true, decide_false, Option.isNone_some, Option.isSome_some, Option.isNone_none, Option.isSome_none, eq_self, Bool.not_true, Bool.not_false, Int.reduceEq, Int.reduceNe, Int.reduceLT, Int.reduceLE, Int.reduceGT, Int.reduceGE, c]))
      try unfold B_law12_VaultPlays_c5
      by_cases k4 : kd = 4
      · have c : decide ((kd : Int) = 4) = true := by simp; omega
        (repeat (first | with_reducible (first | refine Eq.mpr (B_law12_VaultPlays_c16.eq_1 ..) ?_ | refine Eq.mpr (B_law12_VaultPlays_c15.eq_1 ..) ?_ | refine Eq.mpr (B_law12_VaultPlays_c14.eq_1 ..) ?_ | refine Eq.mpr (B_law12_VaultPlays_c13.eq_1 ..) ?_ | refine Eq.mpr (B_law12_VaultPlays_c12.eq_1 ..) ?_ | refine Eq.mpr (B_law12_VaultPlays_c10.eq_1 ..) ?_ | refine Eq.mpr (B_law12_VaultPlays_c9.eq_1 ..) ?_ | refine Eq.mpr (B_law12_VaultPlays_c8.eq_1 ..) ?_ | refine Eq.mpr (B_law12_VaultPlays_c7.eq_1 ..) ?_ | refine Eq.mpr (B_law12_VaultPlays_c6.eq_1 ..) ?_ | refine Eq.mpr (B_law12_VaultPlays_c5.eq_1 ..) ?_ | refine Eq.mpr (B_law12_VaultPlays_c4.eq_1 ..) ?_ | refine Eq.mpr (B_law12_VaultPlays_c3.eq_1 ..) ?_ | refine Eq.mpr (B_law12_VaultPlays_c2.eq_1 ..) ?_ | refine Eq.mpr (B_law12_VaultPlays_c1.eq_1 ..) ?_) | simp only [XP_extract0, XP_extract1, XP_extract2, XP_extract3, X_extract0, X_extract1, X_extract2, X_extract3, X_nilS, X_eql_nil_74, X_neq_nil_74, X_eql_nil_124, X_neq_nil_124, X_eql, X_neq, X_lss, X_leq, X_gtr, X_geq, X_not, X_min, X_max, X_len_27, X_len_9, X_len_79, XP_nilS, XP_eql, XP_neq, XP_lss, XP_leq, XP_gtr, XP_geq, XP_not, XP_min, XP_max, XP_len_27, XP_len_9, XP_eql_nil_74, X_str_eql, X_str_neq, XP_str_eql, XP_str_neq, GS, gs_u, decide_true, decide_false, Option.isNone_some, Option.isSome_some, Option.isNone_none, Option.isSome_none, eq_self, Bool.not_true, Bool.not_false, Int.reduceEq, Int.reduceNe, Int.reduceLT, Int.reduceLE, Int.reduceGT, Int.reduceGE, c]))
        rw [X_field_142_2]
        refine X_loadL agg_3 hqb (v := .int .i64 A.num) rfl ?_
        rw [r7, r9]
        refine Cut_spec hai.num D4.disk ?_
        intro w5 hd5 s5
        have D5 := D4.left hd5 s5
        have hq5 := s5.keep.get (D4.no1 hqb (by decide) (by decide) (by decide)) hqb
        have hv5 : VaultAt w5 bv b v := s5.keep.get (D4.no1 hv4 (by decide) (by decide) (by decide)) hv4
        have hrb5 := s5.keep.get (D4.no1 hrb4 (by decide) (by decide) (by decide)) hrb4
        rw [X_field_142_2]
        refine X_loadL agg_3 hq5 (v := .int .i64 A.num) rfl ?_
        refine RCut_spec hai.num D5.ref ?_
        intro w6 hr6 s6
        have D6 := D5.right hr6 s6
        exact hJ2 _ _ ⟨_, D6, s6.keep.get (D5.no2 hv5 (by decide) (by decide) (by decide)) hv5, s6.keep.get (D5.no2 hrb5 (by decide) (by decide) (by decide)) hrb5, (Dk.cut_size _ _).trans hsz, by unfold Dk.cut; split <;> (show d.ws.length ≤ _; omega), r95, r94, r93, r13, r11, r9, r7, r6, r5⟩
      have c : decide ((kd : Int) = 4) = false := by simp; omega
      (repeat (first | with_reducible (first | refine Eq.mpr (B_law12_VaultPlays_c16.eq_1 ..) ?_ | refine Eq.mpr (B_law12_VaultPlays_c15.eq_1 ..) ?_ | refine Eq.mpr (B_law12_VaultPlays_c14.eq_1 ..) ?_ | refine Eq.mpr (B_law12_VaultPlays_c13.eq_1 ..) ?_ | refine Eq.mpr (B_law12_VaultPlays_c12.eq_1 ..) ?_ | refine Eq.mpr (B_law12_VaultPlays_c10.eq_1 ..) ?_ | refine Eq.mpr (B_law12_VaultPlays_c9.eq_1 ..) ?_ | refine Eq.mpr (B_law12_VaultPlays_c8.eq_1 ..) ?_ | refine Eq.mpr (B_law12_VaultPlays_c7.eq_1 ..) ?_ | refine Eq.mpr (B_law12_VaultPlays_c6.eq_1 ..) ?_ | refine Eq.mpr (B_law12_VaultPlays_c5.eq_1 ..) ?_ | refine Eq.mpr (B_law12_VaultPlays_c4.eq_1 ..) ?_ | refine Eq.mpr (B_law12_VaultPlays_c3.eq_1 ..) ?_ | refine Eq.mpr (B_law12_VaultPlays_c2.eq_1 ..) ?_ | refine Eq.mpr (B_law12_VaultPlays_c1.eq_1 ..) ?_) | simp only [XP_extract0, XP_extract1, XP_extract2, XP_extract3, X_extract0, X_extract1, X_extract2, X_extract3, X_nilS, X_eql_nil_74, X_neq_nil_74, X_eql_nil_124, X_neq_nil_124, X_eql, X_neq, X_lss, X_leq, X_gtr, X_geq, X_not, X_min, X_max, X_len_27, X_len_9, X_len_79, XP_nilS, XP_eql, XP_neq, XP_lss, XP_leq, XP_gtr, XP_geq, XP_not, XP_min, XP_max, XP_len_27, XP_len_9, XP_eql_nil_74, X_str_eql, X_str_neq, XP_str_eql, XP_str_neq, GS, gs_u, decide_true, decide_false, Option.isNone_some, Option.isSome_some, Option.isNone_none, Option.isSome_none, eq_self, Bool.not_true, Bool.not_false, Int.reduceEq, Int.reduceNe, Int.reduceLT, Int.reduceLE, Int.reduceGT, Int.reduceGE, c]))
      rw [X_field_142_4]
      refine X_loadL agg_79 hqb (v := A.fv) rfl ?_
      rw [r7, r9]
      refine Crash_spec D4.disk (hai.fate.ext D4.out) (off4 D4).1.2 ?_
      intro w5 hd5 s5
      have D5 := D4.left hd5 s5
      have hq5 := s5.keep.get (D4.no1 hqb (by decide) (by decide) (by decide)) hqb
      have hv5 : VaultAt w5 bv b v := s5.keep.get (D4.no1 hv4 (by decide) (by decide) (by decide)) hv4
      have hrb5 := s5.keep.get (D4.no1 hrb4 (by decide) (by decide) (by decide)) hrb4
      rw [X_field_142_4]
      refine X_loadL agg_79 hq5 (v := A.fv) rfl ?_
      refine RCrash_spec D5.ref (by omega) (hai.fate.ext D5.out) (fun h0 k hk hf => by have := hai.fate.blk_lt h0 k hk; have := D5.low' k hf; omega) ?_
      intro w6 hr6 s6
      have D6 := D5.right hr6 s6
      exact hJ2 _ _ ⟨_, D6, s6.keep.get (D5.no2 hv5 (by decide) (by decide) (by decide)) hv5, s6.keep.get (D5.no2 hrb5 (by decide) (by decide) (by decide)) hrb5, (Dk.crash_size _ _).trans hsz, by show 0 ≤ _; omega, r95, r94, r93, r13, r11, r9, r7, r6, r5⟩
  · rintro ρ wr ⟨d, D, hsz, hws, r9, r7, r6, r5⟩
    show B_law12_VaultPlays_c10 _ _ _
    unfold B_law12_VaultPlays_c10
    refine loopG 3 (fun ρ4 w4 => ∃ j : Nat, j ≤ N ∧ Ext wr w4 ∧ ρ4 202 = .int .i64 (j : Int) ∧ ρ4 201 = .int .i64 (N : Int) ∧ ρ4 9 = ptr b' ∧ ρ4 7 = ptr b ∧ ρ4 5 = .bool true)
      (fun ρ4 w4 => match ρ4 202 with | .int _ s => (N - s).toNat | _ => 0)
      (fun ρ4 w4 => Ext wr w4 ∧ ρ4 5 = .bool true) ?_ ?_ ?_
    · exact ⟨0, by omega, Keep.refl _ _, rfl, r6, r9, r7, r5⟩
    · rintro J hJ ρ4 w4 ⟨j, hj, hx4, t202, t201, t9, t7, t5⟩
      rw [t202, t201, t9, t7, X_lss, condS_bool]
      by_cases hjN : j = N
      · rw [if_neg (by simp; omega)]
        exact hJ _ _ ⟨hx4, t5⟩
      rw [if_pos (by simp; omega)]
      have D4 := D.more hx4
      refine Read_spec D4.disk ?_
      intro u w5 hx5 hu5
      have D5 := D4.more hx5
      (repeat (first | with_reducible (first | refine Eq.mpr (B_law12_VaultPlays_c16.eq_1 ..) ?_ | refine Eq.mpr (B_law12_VaultPlays_c15.eq_1 ..) ?_ | refine Eq.mpr (B_law12_VaultPlays_c14.eq_1 ..) ?_ | refine Eq.mpr (B_law12_VaultPlays_c13.eq_1 ..) ?_ | refine Eq.mpr (B_law12_VaultPlays_c12.eq_1 ..) ?_ | refine Eq.mpr (B_law12_VaultPlays_c10.eq_1 ..) ?_ | refine Eq.mpr (B_law12_VaultPlays_c9.eq_1 ..) ?_ | refine Eq.mpr (B_law12_VaultPlays_c8.eq_1 ..) ?_ | refine Eq.mpr (B_law12_VaultPlays_c7.eq_1 ..) ?_ | refine Eq.mpr (B_law12_VaultPlays_c6.eq_1 ..) ?_ | refine Eq.mpr (B_law12_VaultPlays_c5.eq_1 ..) ?_ | refine Eq.mpr (B_law12_VaultPlays_c4.eq_1 ..) ?_ | refine Eq.mpr (B_law12_VaultPlays_c3.eq_1 ..) ?_ | refine Eq.mpr (B_law12_VaultPlays_c2.eq_1 ..) ?_ | refine Eq.mpr (B_law12_VaultPlays_c1.eq_1 ..) ?_) | simp only [XP_extract0, XP_extract1, XP_extract2, XP_extract3, X_extract0, X_extract1, X_extract2, X_extract3, X_nilS, X_eql_nil_74, X_neq_nil_74, X_eql_nil_124, X_neq_nil_124, X_eql, X_neq, X_lss, X_leq, X_gtr, X_geq, X_not, X_min, X_max, X_len_27, X_len_9, X_len_79, XP_nilS, XP_eql, XP_neq, XP_lss, XP_leq, XP_gtr, XP_geq, XP_not, XP_min, XP_max, XP_len_27, XP_len_9, XP_eql_nil_74, X_str_eql, X_str_neq, XP_str_eql, XP_str_neq, GS, gs_u, decide_true, decide_false, Option.isNone_some, Option.isSome_some, Option.isNone_none, Option.isSome_none, eq_self, Bool.not_true, Bool.not_false, Int.reduceEq, Int.reduceNe, Int.reduceLT, Int.reduceLE, Int.reduceGT, Int.reduceGE]))
      refine RRead_spec D5.ref (by omega) ?_
      (repeat (first | with_reducible (first | refine Eq.mpr (B_law12_VaultPlays_c16.eq_1 ..) ?_ | refine Eq.mpr (B_law12_VaultPlays_c15.eq_1 ..) ?_ | refine Eq.mpr (B_law12_VaultPlays_c14.eq_1 ..) ?_ | refine Eq.mpr (B_law12_VaultPlays_c13.eq_1 ..) ?_ | refine Eq.mpr (B_law12_VaultPlays_c12.eq_1 ..) ?_ | refine Eq.mpr (B_law12_VaultPlays_c10.eq_1 ..) ?_ | refine Eq.mpr (B_law12_VaultPlays_c9.eq_1 ..) ?_ | refine Eq.mpr (B_law12_VaultPlays_c8.eq_1 ..) ?_ | refine Eq.mpr (B_law12_VaultPlays_c7.eq_1 ..) ?_ | refine Eq.mpr (B_law12_VaultPlays_c6.eq_1 ..) ?_ | refine Eq.mpr (B_law12_VaultPlays_c5.eq_1 ..) ?_ | refine Eq.mpr (B_law12_VaultPlays_c4.eq_1 ..) ?_ | refine Eq.mpr (B_law12_VaultPlays_c3.eq_1 ..) ?_ | refine Eq.mpr (B_law12_VaultPlays_c2.eq_1 ..) ?_ | refine Eq.mpr (B_law12_VaultPlays_c1.eq_1 ..) ?_) | simp only [XP_extract0, XP_extract1, XP_extract2, XP_extract3, X_extract0, X_extract1, X_extract2, X_extract3, X_nilS, X_eql_nil_74, X_neq_nil_74, X_eql_nil_124, X_neq_nil_124, X_eql, X_neq, X_lss, X_leq, X_gtr, X_geq, X_not, X_min, X_max, X_len_27, X_len_9, X_len_79, XP_nilS, XP_eql, XP_neq, XP_lss, XP_leq, XP_gtr, XP_geq, XP_not, XP_min, XP_max, XP_len_27, XP_len_9, XP_eql_nil_74, X_str_eql, X_str_neq, XP_str_eql, XP_str_neq, GS, gs_u, decide_true, decide_false, Option.isNone_some, Option.isSome_some, Option.isNone_none, Option.isSome_none, eq_self, Bool.not_true, Bool.not_false, Int.reduceEq, Int.reduceNe, Int.reduceLT, Int.reduceLE, Int.reduceGT, Int.reduceGE]))
      try unfold B_law12_VaultPlays_c9
      (repeat (first | with_reducible (first | refine Eq.mpr (B_law12_VaultPlays_c16.eq_1 ..) ?_ | refine Eq.mpr (B_law12_VaultPlays_c15.eq_1 ..) ?_ | refine Eq.mpr (B_law12_VaultPlays_c14.eq_1 ..) ?_ | refine Eq.mpr (B_law12_VaultPlays_c13.eq_1 ..) ?_ | refine Eq.mpr (B_law12_VaultPlays_c12.eq_1 ..) ?_ | refine Eq.mpr (B_law12_VaultPlays_c10.eq_1 ..) ?_ | refine Eq.mpr (B_law12_VaultPlays_c9.eq_1 ..) ?_ | refine Eq.mpr (B_law12_VaultPlays_c8.eq_1 ..) ?_ | refine Eq.mpr (B_law12_VaultPlays_c7.eq_1 ..) ?_ | refine Eq.mpr (B_law12_VaultPlays_c6.eq_1 ..) ?_ | refine Eq.mpr (B_law12_VaultPlays_c5.eq_1 ..) ?_ | refine Eq.mpr (B_law12_VaultPlays_c4.eq_1 ..) ?_ | refine Eq.mpr (B_law12_VaultPlays_c3.eq_1 ..) ?_ | refine Eq.mpr (B_law12_VaultPlays_c2.eq_1 ..) ?_ | refine Eq.mpr (B_law12_VaultPlays_c1.eq_1 ..) ?_) | simp only [XP_extract0, XP_extract1, XP_extract2, XP_extract3, X_extract0, X_extract1, X_extract2, X_extract3, X_nilS, X_eql_nil_74, X_neq_nil_74, X_eql_nil_124, X_neq_nil_124, X_eql, X_neq, X_lss, X_leq, X_gtr, X_geq, X_not, X_min, X_max, X_len_27, X_len_9, X_len_79, XP_nilS, XP_eql, XP_neq, XP_lss, XP_leq, XP_gtr, XP_geq, XP_not, XP_min, XP_max, XP_len_27, XP_len_9, XP_eql_nil_74, X_str_eql, X_str_neq, XP_str_eql, XP_str_neq, GS, gs_u, decide_true, decide_false, Option.isNone_some, Option.isSome_some, Option.isNone_none, Option.isSome_none, eq_self, Bool.not_true, Bool.not_false, Int.reduceEq, Int.reduceNe, Int.reduceLT, Int.reduceLE, Int.reduceGT, Int.reduceGE]))
      refine X_str Try.underlying27 Try.underlying5 Try.underlying9 (own_bts hu5).1 ?_
      have cz : ((str (d.read (j : Int)).1).toList != (str (d.read (j : Int)).1).toList) = false := by simp
      have cn : decide ((d.read (j : Int)).2 ≠ (d.read (j : Int)).2) = false := by simp
      (repeat (first | with_reducible (first | refine Eq.mpr (B_law12_VaultPlays_c16.eq_1 ..) ?_ | refine Eq.mpr (B_law12_VaultPlays_c15.eq_1 ..) ?_ | refine Eq.mpr (B_law12_VaultPlays_c14.eq_1 ..) ?_ | refine Eq.mpr (B_law12_VaultPlays_c13.eq_1 ..) ?_ | refine Eq.mpr (B_law12_VaultPlays_c12.eq_1 ..) ?_ | refine Eq.mpr (B_law12_VaultPlays_c10.eq_1 ..) ?_ | refine Eq.mpr (B_law12_VaultPlays_c9.eq_1 ..) ?_ | refine Eq.mpr (B_law12_VaultPlays_c8.eq_1 ..) ?_ | refine Eq.mpr (B_law12_VaultPlays_c7.eq_1 ..) ?_ | refine Eq.mpr (B_law12_VaultPlays_c6.eq_1 ..) ?_ | refine Eq.mpr (B_law12_VaultPlays_c5.eq_1 ..) ?_ | refine Eq.mpr (B_law12_VaultPlays_c4.eq_1 ..) ?_ | refine Eq.mpr (B_law12_VaultPlays_c3.eq_1 ..) ?_ | refine Eq.mpr (B_law12_VaultPlays_c2.eq_1 ..) ?_ | refine Eq.mpr (B_law12_VaultPlays_c1.eq_1 ..) ?_) | simp only [XP_extract0, XP_extract1, XP_extract2, XP_extract3, X_extract0, X_extract1, X_extract2, X_extract3, X_nilS, X_eql_nil_74, X_neq_nil_74, X_eql_nil_124, X_neq_nil_124, X_eql, X_neq, X_lss, X_leq, X_gtr, X_geq, X_not, X_min, X_max, X_len_27, X_len_9, X_len_79, XP_nilS, XP_eql, XP_neq, XP_lss, XP_leq, XP_gtr, XP_geq, XP_not, XP_min, XP_max, XP_len_27, XP_len_9, XP_eql_nil_74, X_str_eql, X_str_neq, XP_str_eql, XP_str_neq, GS, gs_u, decide_true, decide_false, Option.isNone_some, Option.isSome_some, Option.isNone_none, Option.isSome_none, eq_self, Bool.not_true, Bool.not_false, Int.reduceEq, Int.reduceNe, Int.reduceLT, Int.reduceLE, Int.reduceGT, Int.reduceGE, cz, cn]))
      rw [t202, X_add]
      show _ ∧ _
      refine ⟨⟨j + 1, by omega, hx4.trans hx5, next64 (n := 60) (by decide) (by omega), t201, t9, t7, t5⟩, ?_⟩
      show (_ - IntKind.i64.wrap _).toNat < _
      rw [w64 (by omega) (by omega)]
      first | omega | (show _ < (_ : Int).toNat; omega)
    · rintro ρ5 w5 ⟨hx5, t5⟩
      show (ρ5 5 = _ ∧ _)
      exact ⟨t5, D.out.trans hx5⟩
set_option maxHeartbeats 1000000 in
set_option maxRecDepth 8000 in
theorem vaultPlays_run {s : Nat} {fm each n : Int} (hs256 : s < 256) (hfm : -9223372036854775808 ≤ fm ∧ fm ≤ 9223372036854775807) {v1 : Value} {l : List DAct} (W : World) (h1 : RowK 5 DAct.cs W v1 l) (hin : ∀ a ∈ l, a.In W) :
    CALL Try.prog 35 #[.agg [.int .u8 (s : Int), .int .i64 fm, .int .i64 each, .int .i64 n].toArray, v1] W (fun v w' => v = .bool true ∧ Ext W w') := by
  have e0 : decide ((0 : Int) ≠ 0) = false := by decide
  have e1 : decide ((1 : Int) ≠ 0) = true := by decide
  have e00 : decide ((0 : Int) = 0) = true := by decide
  have e10 : decide ((1 : Int) = 0) = false := by decide
  have e11 : decide ((1 : Int) ≠ 1) = false := by decide
  have nb : ∀ x : Bool, (x != x) = false := fun x => by cases x <;> rfl
  apply call_law12_VaultPlays
  unfold B_law12_VaultPlays
  refine X_box ?_
  have hq := newB_get W [Value.int .u8 (s : Int), .int .i64 fm, .int .i64 each, .int .i64 n].toArray 135
  have hx := newB_ext W [Value.int .u8 (s : Int), .int .i64 fm, .int .i64 each, .int .i64 n].toArray 135
  show CALL _ _ _ (newB W [Value.int .u8 (s : Int), .int .i64 fm, .int .i64 each, .int .i64 n].toArray 135) _
  generalize newB W [Value.int .u8 (s : Int), .int .i64 fm, .int .i64 each, .int .i64 n].toArray 135 = wa at hq hx ⊢
  generalize W.heap.size = qs at hq ⊢
  refine shown12 ?_
  intro w1 hx1'
  have hx1 := hx.trans hx1'
  have hq1 := hx1'.get hq
  rw [X_field_135_0]
  refine X_loadL agg_5 hq1 (v := .int .u8 (s : Int)) rfl ?_
  refine X_of (run_rem 5 .u8 _ 61 (by decide) _) ?_
  obtain ⟨N, hN⟩ : ∃ N, N = s % 61 := ⟨_, rfl⟩
  have er : ((s : Nat) : Int).tmod 61 = ((s % 61 : Nat) : Int) := rfl
  rw [er, ← hN, X_conv_5_3, w64 (by omega) (by omega)]
  refine New_disk (fun h => absurd h (by omega)) ?_
  intro N' hN' _ b w2 hx2 hlow hd2
  obtain rfl : N' = N := by omega
  (repeat (first | with_reducible (first | refine Eq.mpr (B_law12_VaultPlays_c16.eq_1 ..) ?_ | refine Eq.mpr (B_law12_VaultPlays_c15.eq_1 ..) ?_ | refine Eq.mpr (B_law12_VaultPlays_c14.eq_1 ..) ?_ | refine Eq.mpr (B_law12_VaultPlays_c13.eq_1 ..) ?_ | refine Eq.mpr (B_law12_VaultPlays_c12.eq_1 ..) ?_ | refine Eq.mpr (B_law12_VaultPlays_c10.eq_1 ..) ?_ | refine Eq.mpr (B_law12_VaultPlays_c9.eq_1 ..) ?_ | refine Eq.mpr (B_law12_VaultPlays_c8.eq_1 ..) ?_ | refine Eq.mpr (B_law12_VaultPlays_c7.eq_1 ..) ?_ | refine Eq.mpr (B_law12_VaultPlays_c6.eq_1 ..) ?_ | refine Eq.mpr (B_law12_VaultPlays_c5.eq_1 ..) ?_ | refine Eq.mpr (B_law12_VaultPlays_c4.eq_1 ..) ?_ | refine Eq.mpr (B_law12_VaultPlays_c3.eq_1 ..) ?_ | refine Eq.mpr (B_law12_VaultPlays_c2.eq_1 ..) ?_ | refine Eq.mpr (B_law12_VaultPlays_c1.eq_1 ..) ?_) | simp only [XP_extract0, XP_extract1, XP_extract2, XP_extract3, X_extract0, X_extract1, X_extract2, X_extract3, X_nilS, X_eql_nil_74, X_neq_nil_74, X_eql_nil_124, X_neq_nil_124, X_eql, X_neq, X_lss, X_leq, X_gtr, X_geq, X_not, X_min, X_max, X_len_27, X_len_9, X_len_79, XP_nilS, XP_eql, XP_neq, XP_lss, XP_leq, XP_gtr, XP_geq, XP_not, XP_min, XP_max, XP_len_27, XP_len_9, XP_eql_nil_74, X_str_eql, X_str_neq, XP_str_eql, XP_str_neq, GS, gs_u, decide_true, decide_false, Option.isNone_some, Option.isSome_some, Option.isNone_none, Option.isSome_none, eq_self, Bool.not_true, Bool.not_false, Int.reduceEq, Int.reduceNe, Int.reduceLT, Int.reduceLE, Int.reduceGT, Int.reduceGE]))
  refine RNew_disk (fun h => absurd h (by omega)) ?_
  intro N2 hN2 _ b' w3 hx3 hlow' hr3
  obtain rfl : N2 = N' := by omega
  have hx02 := hx1.trans hx2
  have D3 : Duo (fun k => W.heap.size ≤ k) W w3 b b' (Dk.new N2) (Dk.new N2) := Duo.mk' (hx02.trans hx3) (hd2.ext hx3) hr3 (Apart.new hx3 hd2.lt hlow')
    (fun k hk => Nat.le_trans hx1.size (hlow k ((foot_x hx3 (hd2.lt b (foot_self _ _))).1 hk))) (fun k hk => Nat.le_trans hx02.size (hlow' k hk))
  have hq3 := hx3.get (hx2.get hq1)
  (repeat (first | with_reducible (first | refine Eq.mpr (B_law12_VaultPlays_c16.eq_1 ..) ?_ | refine Eq.mpr (B_law12_VaultPlays_c15.eq_1 ..) ?_ | refine Eq.mpr (B_law12_VaultPlays_c14.eq_1 ..) ?_ | refine Eq.mpr (B_law12_VaultPlays_c13.eq_1 ..) ?_ | refine Eq.mpr (B_law12_VaultPlays_c12.eq_1 ..) ?_ | refine Eq.mpr (B_law12_VaultPlays_c10.eq_1 ..) ?_ | refine Eq.mpr (B_law12_VaultPlays_c9.eq_1 ..) ?_ | refine Eq.mpr (B_law12_VaultPlays_c8.eq_1 ..) ?_ | refine Eq.mpr (B_law12_VaultPlays_c7.eq_1 ..) ?_ | refine Eq.mpr (B_law12_VaultPlays_c6.eq_1 ..) ?_ | refine Eq.mpr (B_law12_VaultPlays_c5.eq_1 ..) ?_ | refine Eq.mpr (B_law12_VaultPlays_c4.eq_1 ..) ?_ | refine Eq.mpr (B_law12_VaultPlays_c3.eq_1 ..) ?_ | refine Eq.mpr (B_law12_VaultPlays_c2.eq_1 ..) ?_ | refine Eq.mpr (B_law12_VaultPlays_c1.eq_1 ..) ?_) | simp only [XP_extract0, XP_extract1, XP_extract2, XP_extract3, X_extract0, X_extract1, X_extract2, X_extract3, X_nilS, X_eql_nil_74, X_neq_nil_74, X_eql_nil_124, X_neq_nil_124, X_eql, X_neq, X_lss, X_leq, X_gtr, X_geq, X_not, X_min, X_max, X_len_27, X_len_9, X_len_79, XP_nilS, XP_eql, XP_neq, XP_lss, XP_leq, XP_gtr, XP_geq, XP_not, XP_min, XP_max, XP_len_27, XP_len_9, XP_eql_nil_74, X_str_eql, X_str_neq, XP_str_eql, XP_str_neq, GS, gs_u, decide_true, decide_false, Option.isNone_some, Option.isSome_some, Option.isNone_none, Option.isSome_none, eq_self, Bool.not_true, Bool.not_false, Int.reduceEq, Int.reduceNe, Int.reduceLT, Int.reduceLE, Int.reduceGT, Int.reduceGE]))
  rw [X_field_135_1]
  refine X_loadL agg_3 hq3 (v := .int .i64 fm) rfl ?_
  rw [X_field_135_2]
  refine X_loadL agg_3 hq3 (v := .int .i64 each) rfl ?_
  rw [X_field_135_3]
  refine X_loadL agg_3 hq3 (v := .int .i64 n) rfl ?_
  (repeat (first | with_reducible (first | refine Eq.mpr (B_law12_VaultPlays_c16.eq_1 ..) ?_ | refine Eq.mpr (B_law12_VaultPlays_c15.eq_1 ..) ?_ | refine Eq.mpr (B_law12_VaultPlays_c14.eq_1 ..) ?_ | refine Eq.mpr (B_law12_VaultPlays_c13.eq_1 ..) ?_ | refine Eq.mpr (B_law12_VaultPlays_c12.eq_1 ..) ?_ | refine Eq.mpr (B_law12_VaultPlays_c10.eq_1 ..) ?_ | refine Eq.mpr (B_law12_VaultPlays_c9.eq_1 ..) ?_ | refine Eq.mpr (B_law12_VaultPlays_c8.eq_1 ..) ?_ | refine Eq.mpr (B_law12_VaultPlays_c7.eq_1 ..) ?_ | refine Eq.mpr (B_law12_VaultPlays_c6.eq_1 ..) ?_ | refine Eq.mpr (B_law12_VaultPlays_c5.eq_1 ..) ?_ | refine Eq.mpr (B_law12_VaultPlays_c4.eq_1 ..) ?_ | refine Eq.mpr (B_law12_VaultPlays_c3.eq_1 ..) ?_ | refine Eq.mpr (B_law12_VaultPlays_c2.eq_1 ..) ?_ | refine Eq.mpr (B_law12_VaultPlays_c1.eq_1 ..) ?_) | simp only [XP_extract0, XP_extract1, XP_extract2, XP_extract3, X_extract0, X_extract1, X_extract2, X_extract3, X_nilS, X_eql_nil_74, X_neq_nil_74, X_eql_nil_124, X_neq_nil_124, X_eql, X_neq, X_lss, X_leq, X_gtr, X_geq, X_not, X_min, X_max, X_len_27, X_len_9, X_len_79, XP_nilS, XP_eql, XP_neq, XP_lss, XP_leq, XP_gtr, XP_geq, XP_not, XP_min, XP_max, XP_len_27, XP_len_9, XP_eql_nil_74, X_str_eql, X_str_neq, XP_str_eql, XP_str_neq, GS, gs_u, decide_true, decide_false, Option.isNone_some, Option.isSome_some, Option.isNone_none, Option.isSome_none, eq_self, Bool.not_true, Bool.not_false, Int.reduceEq, Int.reduceNe, Int.reduceLT, Int.reduceLE, Int.reduceGT, Int.reduceGE]))
  have hNN : (Dk.new N2).safe.length = N2 := by simp [Dk.new]
  cases hv0 : vnew (Dk.new N2).safe.length fm each n with
  | none =>
    refine VNew_spec D3.disk hfm (fun _ => ?_) (fun v h => by rw [hv0] at h; cases h)
    (repeat (first | with_reducible (first | refine Eq.mpr (B_law12_VaultPlays_c16.eq_1 ..) ?_ | refine Eq.mpr (B_law12_VaultPlays_c15.eq_1 ..) ?_ | refine Eq.mpr (B_law12_VaultPlays_c14.eq_1 ..) ?_ | refine Eq.mpr (B_law12_VaultPlays_c13.eq_1 ..) ?_ | refine Eq.mpr (B_law12_VaultPlays_c12.eq_1 ..) ?_ | refine Eq.mpr (B_law12_VaultPlays_c10.eq_1 ..) ?_ | refine Eq.mpr (B_law12_VaultPlays_c9.eq_1 ..) ?_ | refine Eq.mpr (B_law12_VaultPlays_c8.eq_1 ..) ?_ | refine Eq.mpr (B_law12_VaultPlays_c7.eq_1 ..) ?_ | refine Eq.mpr (B_law12_VaultPlays_c6.eq_1 ..) ?_ | refine Eq.mpr (B_law12_VaultPlays_c5.eq_1 ..) ?_ | refine Eq.mpr (B_law12_VaultPlays_c4.eq_1 ..) ?_ | refine Eq.mpr (B_law12_VaultPlays_c3.eq_1 ..) ?_ | refine Eq.mpr (B_law12_VaultPlays_c2.eq_1 ..) ?_ | refine Eq.mpr (B_law12_VaultPlays_c1.eq_1 ..) ?_) | simp only [XP_extract0, XP_extract1, XP_extract2, XP_extract3, X_extract0, X_extract1, X_extract2, X_extract3, X_nilS, X_eql_nil_74, X_neq_nil_74, X_eql_nil_124, X_neq_nil_124, X_eql, X_neq, X_lss, X_leq, X_gtr, X_geq, X_not, X_min, X_max, X_len_27, X_len_9, X_len_79, XP_nilS, XP_eql, XP_neq, XP_lss, XP_leq, XP_gtr, XP_geq, XP_not, XP_min, XP_max, XP_len_27, XP_len_9, XP_eql_nil_74, X_str_eql, X_str_neq, XP_str_eql, XP_str_neq, GS, gs_u, decide_true, decide_false, Option.isNone_some, Option.isSome_some, Option.isNone_none, Option.isSome_none, eq_self, Bool.not_true, Bool.not_false, Int.reduceEq, Int.reduceNe, Int.reduceLT, Int.reduceLE, Int.reduceGT, Int.reduceGE]))
    rw [X_field_135_1]
    refine X_loadL agg_3 hq3 (v := .int .i64 fm) rfl ?_
    rw [X_field_135_2]
    refine X_loadL agg_3 hq3 (v := .int .i64 each) rfl ?_
    rw [X_field_135_3]
    refine X_loadL agg_3 hq3 (v := .int .i64 n) rfl ?_
    refine RVNew_spec D3.ref hfm (fun _ => ?_) (fun v h => by rw [hv0] at h; cases h)
    intro w4 hx4
    (repeat (first | with_reducible (first | refine Eq.mpr (B_law12_VaultPlays_c16.eq_1 ..) ?_ | refine Eq.mpr (B_law12_VaultPlays_c15.eq_1 ..) ?_ | refine Eq.mpr (B_law12_VaultPlays_c14.eq_1 ..) ?_ | refine Eq.mpr (B_law12_VaultPlays_c13.eq_1 ..) ?_ | refine Eq.mpr (B_law12_VaultPlays_c12.eq_1 ..) ?_ | refine Eq.mpr (B_law12_VaultPlays_c10.eq_1 ..) ?_ | refine Eq.mpr (B_law12_VaultPlays_c9.eq_1 ..) ?_ | refine Eq.mpr (B_law12_VaultPlays_c8.eq_1 ..) ?_ | refine Eq.mpr (B_law12_VaultPlays_c7.eq_1 ..) ?_ | refine Eq.mpr (B_law12_VaultPlays_c6.eq_1 ..) ?_ | refine Eq.mpr (B_law12_VaultPlays_c5.eq_1 ..) ?_ | refine Eq.mpr (B_law12_VaultPlays_c4.eq_1 ..) ?_ | refine Eq.mpr (B_law12_VaultPlays_c3.eq_1 ..) ?_ | refine Eq.mpr (B_law12_VaultPlays_c2.eq_1 ..) ?_ | refine Eq.mpr (B_law12_VaultPlays_c1.eq_1 ..) ?_) | simp only [XP_extract0, XP_extract1, XP_extract2, XP_extract3, X_extract0, X_extract1, X_extract2, X_extract3, X_nilS, X_eql_nil_74, X_neq_nil_74, X_eql_nil_124, X_neq_nil_124, X_eql, X_neq, X_lss, X_leq, X_gtr, X_geq, X_not, X_min, X_max, X_len_27, X_len_9, X_len_79, XP_nilS, XP_eql, XP_neq, XP_lss, XP_leq, XP_gtr, XP_geq, XP_not, XP_min, XP_max, XP_len_27, XP_len_9, XP_eql_nil_74, X_str_eql, X_str_neq, XP_str_eql, XP_str_neq, GS, gs_u, decide_true, decide_false, Option.isNone_some, Option.isSome_some, Option.isNone_none, Option.isSome_none, eq_self, Bool.not_true, Bool.not_false, Int.reduceEq, Int.reduceNe, Int.reduceLT, Int.reduceLE, Int.reduceGT, Int.reduceGE]))
    refine X_alloc zero_138 ?_
    have hz := newB_get w4 #[(.pointer none), (.int .i64 0), (.int .i64 0), (.int .i64 0)] 138
    have hxz := newB_ext w4 #[(.pointer none), (.int .i64 0), (.int .i64 0), (.int .i64 0)] 138
    show XU _ _ (newB w4 #[(.pointer none), (.int .i64 0), (.int .i64 0), (.int .i64 0)] 138) _
    generalize newB w4 #[(.pointer none), (.int .i64 0), (.int .i64 0), (.int .i64 0)] 138 = w5 at hz hxz ⊢
    refine XU_storeAgg (l := [.pointer none, .int .i64 0, .int .i64 0, .int .i64 0]) info_138 hz (by rw [sz_138]; rfl) (by rw [sz_138]; rfl) (by intro x hx; simp at hx; rcases hx with rfl | rfl | rfl | rfl <;> rfl) ?_
    have hx6 := Ext.seq hxz (setAt_keep w5 w4.heap.size [.pointer none, .int .i64 0, .int .i64 0, .int .i64 0].toArray 138 (0, 0)) (fun j hj => by omega)
    (repeat (first | with_reducible (first | refine Eq.mpr (B_law12_VaultPlays_c16.eq_1 ..) ?_ | refine Eq.mpr (B_law12_VaultPlays_c15.eq_1 ..) ?_ | refine Eq.mpr (B_law12_VaultPlays_c14.eq_1 ..) ?_ | refine Eq.mpr (B_law12_VaultPlays_c13.eq_1 ..) ?_ | refine Eq.mpr (B_law12_VaultPlays_c12.eq_1 ..) ?_ | refine Eq.mpr (B_law12_VaultPlays_c10.eq_1 ..) ?_ | refine Eq.mpr (B_law12_VaultPlays_c9.eq_1 ..) ?_ | refine Eq.mpr (B_law12_VaultPlays_c8.eq_1 ..) ?_ | refine Eq.mpr (B_law12_VaultPlays_c7.eq_1 ..) ?_ | refine Eq.mpr (B_law12_VaultPlays_c6.eq_1 ..) ?_ | refine Eq.mpr (B_law12_VaultPlays_c5.eq_1 ..) ?_ | refine Eq.mpr (B_law12_VaultPlays_c4.eq_1 ..) ?_ | refine Eq.mpr (B_law12_VaultPlays_c3.eq_1 ..) ?_ | refine Eq.mpr (B_law12_VaultPlays_c2.eq_1 ..) ?_ | refine Eq.mpr (B_law12_VaultPlays_c1.eq_1 ..) ?_) | simp only [XP_extract0, XP_extract1, XP_extract2, XP_extract3, X_extract0, X_extract1, X_extract2, X_extract3, X_nilS, X_eql_nil_74, X_neq_nil_74, X_eql_nil_124, X_neq_nil_124, X_eql, X_neq, X_lss, X_leq, X_gtr, X_geq, X_not, X_min, X_max, X_len_27, X_len_9, X_len_79, XP_nilS, XP_eql, XP_neq, XP_lss, XP_leq, XP_gtr, XP_geq, XP_not, XP_min, XP_max, XP_len_27, XP_len_9, XP_eql_nil_74, X_str_eql, X_str_neq, XP_str_eql, XP_str_neq, GS, gs_u, decide_true, decide_false, Option.isNone_some, Option.isSome_some, Option.isNone_none, Option.isSome_none, eq_self, Bool.not_true, Bool.not_false, Int.reduceEq, Int.reduceNe, Int.reduceLT, Int.reduceLE, Int.reduceGT, Int.reduceGE, e11, e10, e1]))
    refine X_of (Go.Sh.run_neq_bool Try.underlying4 _ _ _ _ _) ?_
    rw [nb]
    (repeat (first | with_reducible (first | refine Eq.mpr (B_law12_VaultPlays_c16.eq_1 ..) ?_ | refine Eq.mpr (B_law12_VaultPlays_c15.eq_1 ..) ?_ | refine Eq.mpr (B_law12_VaultPlays_c14.eq_1 ..) ?_ | refine Eq.mpr (B_law12_VaultPlays_c13.eq_1 ..) ?_ | refine Eq.mpr (B_law12_VaultPlays_c12.eq_1 ..) ?_ | refine Eq.mpr (B_law12_VaultPlays_c10.eq_1 ..) ?_ | refine Eq.mpr (B_law12_VaultPlays_c9.eq_1 ..) ?_ | refine Eq.mpr (B_law12_VaultPlays_c8.eq_1 ..) ?_ | refine Eq.mpr (B_law12_VaultPlays_c7.eq_1 ..) ?_ | refine Eq.mpr (B_law12_VaultPlays_c6.eq_1 ..) ?_ | refine Eq.mpr (B_law12_VaultPlays_c5.eq_1 ..) ?_ | refine Eq.mpr (B_law12_VaultPlays_c4.eq_1 ..) ?_ | refine Eq.mpr (B_law12_VaultPlays_c3.eq_1 ..) ?_ | refine Eq.mpr (B_law12_VaultPlays_c2.eq_1 ..) ?_ | refine Eq.mpr (B_law12_VaultPlays_c1.eq_1 ..) ?_) | simp only [XP_extract0, XP_extract1, XP_extract2, XP_extract3, X_extract0, X_extract1, X_extract2, X_extract3, X_nilS, X_eql_nil_74, X_neq_nil_74, X_eql_nil_124, X_neq_nil_124, X_eql, X_neq, X_lss, X_leq, X_gtr, X_geq, X_not, X_min, X_max, X_len_27, X_len_9, X_len_79, XP_nilS, XP_eql, XP_neq, XP_lss, XP_leq, XP_gtr, XP_geq, XP_not, XP_min, XP_max, XP_len_27, XP_len_9, XP_eql_nil_74, X_str_eql, X_str_neq, XP_str_eql, XP_str_neq, GS, gs_u, decide_true, decide_false, Option.isNone_some, Option.isSome_some, Option.isNone_none, Option.isSome_none, eq_self, Bool.not_true, Bool.not_false, Int.reduceEq, Int.reduceNe, Int.reduceLT, Int.reduceLE, Int.reduceGT, Int.reduceGE, e11, e10, e1]))
    exact ⟨trivial, (D3.out.trans hx4).trans hx6⟩
  | some v =>
    have okv := vnew_ok' (N := N2) hv0 D3.disk.1
    refine VNew_spec D3.disk hfm (fun h => by rw [hv0] at h; cases h) ?_
    intro v' hv' bv w4 hx4 hbv hv4
    rw [hv0] at hv'
    obtain rfl := Option.some.inj hv'
    have D4 := D3.more hx4
    have hq4 := hx4.get hq3
    (repeat (first | with_reducible (first | refine Eq.mpr (B_law12_VaultPlays_c16.eq_1 ..) ?_ | refine Eq.mpr (B_law12_VaultPlays_c15.eq_1 ..) ?_ | refine Eq.mpr (B_law12_VaultPlays_c14.eq_1 ..) ?_ | refine Eq.mpr (B_law12_VaultPlays_c13.eq_1 ..) ?_ | refine Eq.mpr (B_law12_VaultPlays_c12.eq_1 ..) ?_ | refine Eq.mpr (B_law12_VaultPlays_c10.eq_1 ..) ?_ | refine Eq.mpr (B_law12_VaultPlays_c9.eq_1 ..) ?_ | refine Eq.mpr (B_law12_VaultPlays_c8.eq_1 ..) ?_ | refine Eq.mpr (B_law12_VaultPlays_c7.eq_1 ..) ?_ | refine Eq.mpr (B_law12_VaultPlays_c6.eq_1 ..) ?_ | refine Eq.mpr (B_law12_VaultPlays_c5.eq_1 ..) ?_ | refine Eq.mpr (B_law12_VaultPlays_c4.eq_1 ..) ?_ | refine Eq.mpr (B_law12_VaultPlays_c3.eq_1 ..) ?_ | refine Eq.mpr (B_law12_VaultPlays_c2.eq_1 ..) ?_ | refine Eq.mpr (B_law12_VaultPlays_c1.eq_1 ..) ?_) | simp only [XP_extract0, XP_extract1, XP_extract2, XP_extract3, X_extract0, X_extract1, X_extract2, X_extract3, X_nilS, X_eql_nil_74, X_neq_nil_74, X_eql_nil_124, X_neq_nil_124, X_eql, X_neq, X_lss, X_leq, X_gtr, X_geq, X_not, X_min, X_max, X_len_27, X_len_9, X_len_79, XP_nilS, XP_eql, XP_neq, XP_lss, XP_leq, XP_gtr, XP_geq, XP_not, XP_min, XP_max, XP_len_27, XP_len_9, XP_eql_nil_74, X_str_eql, X_str_neq, XP_str_eql, XP_str_neq, GS, gs_u, decide_true, decide_false, Option.isNone_some, Option.isSome_some, Option.isNone_none, Option.isSome_none, eq_self, Bool.not_true, Bool.not_false, Int.reduceEq, Int.reduceNe, Int.reduceLT, Int.reduceLE, Int.reduceGT, Int.reduceGE]))
    rw [X_field_135_1]
    refine X_loadL agg_3 hq4 (v := .int .i64 fm) rfl ?_
    rw [X_field_135_2]
    refine X_loadL agg_3 hq4 (v := .int .i64 each) rfl ?_
    rw [X_field_135_3]
    refine X_loadL agg_3 hq4 (v := .int .i64 n) rfl ?_
    refine RVNew_spec D4.ref hfm (fun h => by rw [hv0] at h; cases h) ?_
    intro v' hv' w5 hx5
    rw [hv0] at hv'
    obtain rfl := Option.some.inj hv'
    have D5 := D4.more hx5
    (repeat (first | with_reducible (first | refine Eq.mpr (B_law12_VaultPlays_c16.eq_1 ..) ?_ | refine Eq.mpr (B_law12_VaultPlays_c15.eq_1 ..) ?_ | refine Eq.mpr (B_law12_VaultPlays_c14.eq_1 ..) ?_ | refine Eq.mpr (B_law12_VaultPlays_c13.eq_1 ..) ?_ | refine Eq.mpr (B_law12_VaultPlays_c12.eq_1 ..) ?_ | refine Eq.mpr (B_law12_VaultPlays_c10.eq_1 ..) ?_ | refine Eq.mpr (B_law12_VaultPlays_c9.eq_1 ..) ?_ | refine Eq.mpr (B_law12_VaultPlays_c8.eq_1 ..) ?_ | refine Eq.mpr (B_law12_VaultPlays_c7.eq_1 ..) ?_ | refine Eq.mpr (B_law12_VaultPlays_c6.eq_1 ..) ?_ | refine Eq.mpr (B_law12_VaultPlays_c5.eq_1 ..) ?_ | refine Eq.mpr (B_law12_VaultPlays_c4.eq_1 ..) ?_ | refine Eq.mpr (B_law12_VaultPlays_c3.eq_1 ..) ?_ | refine Eq.mpr (B_law12_VaultPlays_c2.eq_1 ..) ?_ | refine Eq.mpr (B_law12_VaultPlays_c1.eq_1 ..) ?_) | simp only [XP_extract0, XP_extract1, XP_extract2, XP_extract3, X_extract0, X_extract1, X_extract2, X_extract3, X_nilS, X_eql_nil_74, X_neq_nil_74, X_eql_nil_124, X_neq_nil_124, X_eql, X_neq, X_lss, X_leq, X_gtr, X_geq, X_not, X_min, X_max, X_len_27, X_len_9, X_len_79, XP_nilS, XP_eql, XP_neq, XP_lss, XP_leq, XP_gtr, XP_geq, XP_not, XP_min, XP_max, XP_len_27, XP_len_9, XP_eql_nil_74, X_str_eql, X_str_neq, XP_str_eql, XP_str_neq, GS, gs_u, decide_true, decide_false, Option.isNone_some, Option.isSome_some, Option.isNone_none, Option.isSome_none, eq_self, Bool.not_true, Bool.not_false, Int.reduceEq, Int.reduceNe, Int.reduceLT, Int.reduceLE, Int.reduceGT, Int.reduceGE]))
    refine X_alloc zero_138 ?_
    have hz := newB_get w5 #[(.pointer none), (.int .i64 0), (.int .i64 0), (.int .i64 0)] 138
    have hxz := newB_ext w5 #[(.pointer none), (.int .i64 0), (.int .i64 0), (.int .i64 0)] 138
    show XU _ _ (newB w5 #[(.pointer none), (.int .i64 0), (.int .i64 0), (.int .i64 0)] 138) _
    generalize newB w5 #[(.pointer none), (.int .i64 0), (.int .i64 0), (.int .i64 0)] 138 = w6 at hz hxz ⊢
    refine XU_storeAgg (l := Vt.cs v b') info_138 hz (by rw [sz_138]; rfl) (by rw [sz_138]; rfl) (Vt.cs_one _ _) ?_
    have hx7 := Ext.seq hxz (setAt_keep w6 w5.heap.size (Vt.cs v b').toArray 138 (0, 0)) (fun j hj => by omega)
    have hrb := setAt_same (cs := (Vt.cs v b').toArray) (T := 138) (fr := (0, 0)) (lt_of_blk hz)
    have D7 := D5.more hx7
    have hv7 : VaultAt _ bv b v := hx7.get (hx5.get hv4)
    generalize setAt w6 w5.heap.size (Vt.cs v b').toArray 138 (0, 0) = w7 at hx7 hrb D7 hv7 ⊢
    generalize w5.heap.size = rb at hrb ⊢
    (repeat (first | with_reducible (first | refine Eq.mpr (B_law12_VaultPlays_c16.eq_1 ..) ?_ | refine Eq.mpr (B_law12_VaultPlays_c15.eq_1 ..) ?_ | refine Eq.mpr (B_law12_VaultPlays_c14.eq_1 ..) ?_ | refine Eq.mpr (B_law12_VaultPlays_c13.eq_1 ..) ?_ | refine Eq.mpr (B_law12_VaultPlays_c12.eq_1 ..) ?_ | refine Eq.mpr (B_law12_VaultPlays_c10.eq_1 ..) ?_ | refine Eq.mpr (B_law12_VaultPlays_c9.eq_1 ..) ?_ | refine Eq.mpr (B_law12_VaultPlays_c8.eq_1 ..) ?_ | refine Eq.mpr (B_law12_VaultPlays_c7.eq_1 ..) ?_ | refine Eq.mpr (B_law12_VaultPlays_c6.eq_1 ..) ?_ | refine Eq.mpr (B_law12_VaultPlays_c5.eq_1 ..) ?_ | refine Eq.mpr (B_law12_VaultPlays_c4.eq_1 ..) ?_ | refine Eq.mpr (B_law12_VaultPlays_c3.eq_1 ..) ?_ | refine Eq.mpr (B_law12_VaultPlays_c2.eq_1 ..) ?_ | refine Eq.mpr (B_law12_VaultPlays_c1.eq_1 ..) ?_) | simp only [XP_extract0, XP_extract1, XP_extract2, XP_extract3, X_extract0, X_extract1, X_extract2, X_extract3, X_nilS, X_eql_nil_74, X_neq_nil_74, X_eql_nil_124, X_neq_nil_124, X_eql, X_neq, X_lss, X_leq, X_gtr, X_geq, X_not, X_min, X_max, X_len_27, X_len_9, X_len_79, XP_nilS, XP_eql, XP_neq, XP_lss, XP_leq, XP_gtr, XP_geq, XP_not, XP_min, XP_max, XP_len_27, XP_len_9, XP_eql_nil_74, X_str_eql, X_str_neq, XP_str_eql, XP_str_neq, GS, gs_u, decide_true, decide_false, Option.isNone_some, Option.isSome_some, Option.isNone_none, Option.isSome_none, eq_self, Bool.not_true, Bool.not_false, Int.reduceEq, Int.reduceNe, Int.reduceLT, Int.reduceLE, Int.reduceGT, Int.reduceGE, e0, e00]))
    refine X_of (Go.Sh.run_neq_bool Try.underlying4 _ _ _ _ _) ?_
    rw [nb]
    (repeat (first | with_reducible (first | refine Eq.mpr (B_law12_VaultPlays_c16.eq_1 ..) ?_ | refine Eq.mpr (B_law12_VaultPlays_c15.eq_1 ..) ?_ | refine Eq.mpr (B_law12_VaultPlays_c14.eq_1 ..) ?_ | refine Eq.mpr (B_law12_VaultPlays_c13.eq_1 ..) ?_ | refine Eq.mpr (B_law12_VaultPlays_c12.eq_1 ..) ?_ | refine Eq.mpr (B_law12_VaultPlays_c10.eq_1 ..) ?_ | refine Eq.mpr (B_law12_VaultPlays_c9.eq_1 ..) ?_ | refine Eq.mpr (B_law12_VaultPlays_c8.eq_1 ..) ?_ | refine Eq.mpr (B_law12_VaultPlays_c7.eq_1 ..) ?_ | refine Eq.mpr (B_law12_VaultPlays_c6.eq_1 ..) ?_ | refine Eq.mpr (B_law12_VaultPlays_c5.eq_1 ..) ?_ | refine Eq.mpr (B_law12_VaultPlays_c4.eq_1 ..) ?_ | refine Eq.mpr (B_law12_VaultPlays_c3.eq_1 ..) ?_ | refine Eq.mpr (B_law12_VaultPlays_c2.eq_1 ..) ?_ | refine Eq.mpr (B_law12_VaultPlays_c1.eq_1 ..) ?_) | simp only [XP_extract0, XP_extract1, XP_extract2, XP_extract3, X_extract0, X_extract1, X_extract2, X_extract3, X_nilS, X_eql_nil_74, X_neq_nil_74, X_eql_nil_124, X_neq_nil_124, X_eql, X_neq, X_lss, X_leq, X_gtr, X_geq, X_not, X_min, X_max, X_len_27, X_len_9, X_len_79, XP_nilS, XP_eql, XP_neq, XP_lss, XP_leq, XP_gtr, XP_geq, XP_not, XP_min, XP_max, XP_len_27, XP_len_9, XP_eql_nil_74, X_str_eql, X_str_neq, XP_str_eql, XP_str_neq, GS, gs_u, decide_true, decide_false, Option.isNone_some, Option.isSome_some, Option.isNone_none, Option.isSome_none, eq_self, Bool.not_true, Bool.not_false, Int.reduceEq, Int.reduceNe, Int.reduceLT, Int.reduceLE, Int.reduceGT, Int.reduceGE, e0, e00]))
    try unfold B_law12_VaultPlays_c12
    have hrbd : (drewW w7).heap[rb]? = some (.cells (Vt.cs v b').toArray 138 (0, 0)) := hrb
    have hvd : VaultAt (drewW w7) bv b v := hv7
    have Dd := D7.more (Keep.drew (fun _ => False) w7)
    refine ⟨Ext, Ext.frame, ?_⟩
    refine XR_ok Ext.frame (fun w' k => run_loadAgg Try.underlying138 agg_138 info_138 (l := Vt.cs v b') (k.get hrbd) (by rw [sz_138]; rfl) (by rw [sz_138]; rfl)) ?_
    refine VRoom_spec hvd okv ?_
    refine ⟨Keep.refl _ _, ?_⟩
    refine RVRoom_spec (b := b') okv ?_
    intro w8 hx8
    have cr : decide (((v.room : Nat) : Int) ≠ ((v.room : Nat) : Int)) = false := by simp
    have cn : decide (((v.n : Nat) : Int) ≠ ((v.n : Nat) : Int)) = false := by simp
    (repeat (first | with_reducible (first | refine Eq.mpr (B_law12_VaultPlays_c16.eq_1 ..) ?_ | refine Eq.mpr (B_law12_VaultPlays_c15.eq_1 ..) ?_ | refine Eq.mpr (B_law12_VaultPlays_c14.eq_1 ..) ?_ | refine Eq.mpr (B_law12_VaultPlays_c13.eq_1 ..) ?_ | refine Eq.mpr (B_law12_VaultPlays_c12.eq_1 ..) ?_ | refine Eq.mpr (B_law12_VaultPlays_c10.eq_1 ..) ?_ | refine Eq.mpr (B_law12_VaultPlays_c9.eq_1 ..) ?_ | refine Eq.mpr (B_law12_VaultPlays_c8.eq_1 ..) ?_ | refine Eq.mpr (B_law12_VaultPlays_c7.eq_1 ..) ?_ | refine Eq.mpr (B_law12_VaultPlays_c6.eq_1 ..) ?_ | refine Eq.mpr (B_law12_VaultPlays_c5.eq_1 ..) ?_ | refine Eq.mpr (B_law12_VaultPlays_c4.eq_1 ..) ?_ | refine Eq.mpr (B_law12_VaultPlays_c3.eq_1 ..) ?_ | refine Eq.mpr (B_law12_VaultPlays_c2.eq_1 ..) ?_ | refine Eq.mpr (B_law12_VaultPlays_c1.eq_1 ..) ?_) | simp only [XP_extract0, XP_extract1, XP_extract2, XP_extract3, X_extract0, X_extract1, X_extract2, X_extract3, X_nilS, X_eql_nil_74, X_neq_nil_74, X_eql_nil_124, X_neq_nil_124, X_eql, X_neq, X_lss, X_leq, X_gtr, X_geq, X_not, X_min, X_max, X_len_27, X_len_9, X_len_79, XP_nilS, XP_eql, XP_neq, XP_lss, XP_leq, XP_gtr, XP_geq, XP_not, XP_min, XP_max, XP_len_27, XP_len_9, XP_eql_nil_74, X_str_eql, X_str_neq, XP_str_eql, XP_str_neq, GS, gs_u, decide_true, decide_false, Option.isNone_some, Option.isSome_some, Option.isNone_none, Option.isSome_none, eq_self, Bool.not_true, Bool.not_false, Int.reduceEq, Int.reduceNe, Int.reduceLT, Int.reduceLE, Int.reduceGT, Int.reduceGE, cr]))
    rw [XP_field_138_3]
    refine XR_ok Ext.frame (fun w' k => run_loadAt agg_3 (blk_get (k.get (hx8.get hrbd)) (v := .int .i64 (v.n : Int)) rfl)) ?_
    refine VLen_spec (hx8.get hvd) ?_
    refine ⟨Keep.refl _ _, ?_⟩
    (repeat (first | with_reducible (first | refine Eq.mpr (B_law12_VaultPlays_c16.eq_1 ..) ?_ | refine Eq.mpr (B_law12_VaultPlays_c15.eq_1 ..) ?_ | refine Eq.mpr (B_law12_VaultPlays_c14.eq_1 ..) ?_ | refine Eq.mpr (B_law12_VaultPlays_c13.eq_1 ..) ?_ | refine Eq.mpr (B_law12_VaultPlays_c12.eq_1 ..) ?_ | refine Eq.mpr (B_law12_VaultPlays_c10.eq_1 ..) ?_ | refine Eq.mpr (B_law12_VaultPlays_c9.eq_1 ..) ?_ | refine Eq.mpr (B_law12_VaultPlays_c8.eq_1 ..) ?_ | refine Eq.mpr (B_law12_VaultPlays_c7.eq_1 ..) ?_ | refine Eq.mpr (B_law12_VaultPlays_c6.eq_1 ..) ?_ | refine Eq.mpr (B_law12_VaultPlays_c5.eq_1 ..) ?_ | refine Eq.mpr (B_law12_VaultPlays_c4.eq_1 ..) ?_ | refine Eq.mpr (B_law12_VaultPlays_c3.eq_1 ..) ?_ | refine Eq.mpr (B_law12_VaultPlays_c2.eq_1 ..) ?_ | refine Eq.mpr (B_law12_VaultPlays_c1.eq_1 ..) ?_) | simp only [XP_extract0, XP_extract1, XP_extract2, XP_extract3, X_extract0, X_extract1, X_extract2, X_extract3, X_nilS, X_eql_nil_74, X_neq_nil_74, X_eql_nil_124, X_neq_nil_124, X_eql, X_neq, X_lss, X_leq, X_gtr, X_geq, X_not, X_min, X_max, X_len_27, X_len_9, X_len_79, XP_nilS, XP_eql, XP_neq, XP_lss, XP_leq, XP_gtr, XP_geq, XP_not, XP_min, XP_max, XP_len_27, XP_len_9, XP_eql_nil_74, X_str_eql, X_str_neq, XP_str_eql, XP_str_neq, GS, gs_u, decide_true, decide_false, Option.isNone_some, Option.isSome_some, Option.isNone_none, Option.isSome_none, eq_self, Bool.not_true, Bool.not_false, Int.reduceEq, Int.reduceNe, Int.reduceLT, Int.reduceLE, Int.reduceGT, Int.reduceGE, cn]))
    have hv8 : VaultAt w8 bv b v := hx8.get hvd
    with_reducible exact vaultPlays_loop h1 hin (by rw [← hNN]; exact okv) (Dd.more hx8) hv8 (hx8.get hrbd) hNN (by omega)
theorem vaultPlays_walk {H : Type} (enc : TypeId × Value → H) (W : World) (v0 v1 : Value) {base : Nat} (ok0 : Value.okWide Try.prog W .any base 135 v0) (ok1 : Value.okWide Try.prog W .any base 136 v1) (d0 : DataW H) (p0 : List MemPlace) (d1 : DataW H) (p1 : List MemPlace) (h0 : DataW.Trod enc Try.prog W 0 (fun _ => true) true 135 v0 d0 p0) (h1 : DataW.Trod enc Try.prog W 0 (fun _ => true) true 136 v1 d1 p1) (hsz : (DataW.weightsEach Try.prog [135, 136] [d0, d1]).all (· ≤ reachBytes) = true) :
    CALL Try.prog 35 #[v0, v1] W (fun v w' => v = .bool true ∧ Ext W w') := by
  obtain ⟨s, fm, each, n, rfl, hs, hfm⟩ := arg_shape ok0 h0
  obtain ⟨l, hl, hin⟩ := arg_acts12 ok1 h1
  exact vaultPlays_run hs hfm W hl hin
end
set_option maxRecDepth 100000 in
theorem vaultPlays_lifted (os : Os) (started : os.Started) (H : Type) (enc : TypeId × Value → H) :
    ReturnsInHanded {} Try.checked os 35 .any (Rows.vaultPlaysSpec.pre6 enc Try.prog Try.f35 Rows.vaultPlaysRow.domain false) (Rows.vaultPlaysSpec.post enc Try.prog Try.f35 false true false false) := by
  refine returnsInHanded_of_change_sized (C := Try.checked) (by kernel_rfl) started (by kernel_rfl) Try.func35
    (ChangeSpec.witness6 (enc := enc) (C := Try.checked) false ⟨#[], #[(.agg #[(.int .u8 0), (.int .i64 0), (.int .i64 0), (.int .i64 0)]), (.slice none 0 0)], []⟩ 8 (by kernel_rfl) (by kernel_rfl) (by kernel_rfl) (by kernel_rfl)) ?_
  intro W base args ds gs before hval0 hW hcnd hsz0 _
  have hval : ∀ (j : Nat) t v, Try.f35.params[j]? = some t → args[j]? = some v → Value.okWide Try.prog W .any base t v := hval0
  have hW' := hW
  obtain ⟨p, q, hA0, hV, rfl, hfz, hnd⟩ := hW
  have hA : DataW.TrodAll enc Try.prog W 0 (fun _ => true) true Try.f35.params.toList args.toList ds p := hA0
  rw [Try.params35] at hA hval
  obtain ⟨v0, vs0, d0, ds0, p0, q0, hargs, rfl, rfl, h0, r0⟩ := trodAll_cons hA
  obtain ⟨v1, vs1, d1, ds1, p1, q1, rfl, rfl, rfl, h1, r1⟩ := trodAll_cons r0
  obtain ⟨rfl, rfl, rfl⟩ := trodAll_nil r1
  obtain rfl : args = #[v0, v1] := by cases args; simp_all
  obtain ⟨rfl, rfl⟩ := trodVars_none hV
  have hsz : (DataW.weightsEach Try.prog [135, 136] [d0, d1]).all (· ≤ reachBytes) = true := hsz0
  have hw := vaultPlays_walk enc W v0 v1 (hval 0 135 v0 rfl rfl) (hval 1 136 v1 rfl rfl) d0 p0 d1 p1 h0 h1 hsz
  refine (CALL_calls hw).mono fun e W' he => ?_
  cases e with
  | returned v =>
    obtain ⟨rfl, hx⟩ := he
    exact ⟨_, rfl, law_post (P := Try.prog) laidOut (by kernel_rfl) rfl rfl rfl Try.underlying4 hW' hx⟩
  | panicked c => exact he.elim
  | outgrown => exact he.elim

theorem vaultPlays_closed : joinedFacts Try.prog 35 Try.f35 Rows.vaultPlaysSpec Rows.vaultPlaysRow = true := by
  unfold joinedFacts
  rw [mayEnter_is, liftsFinal_is, make_is]
  kernel_rfl
/-- For every input that the row lets in, cellarage/cellaragelaw12.VaultPlays returns true, and what was there stays as it was. -/
theorem vaultPlays_holds : Rows.VaultPlaysSaid :=
  OpenClaim.holds_of_wide 35 Try.f35 rfl rfl rfl rfl rfl rfl rfl ⟨rfl, rfl, rfl, rfl, rfl⟩ rfl rfl rfl rfl rfl (by kernel_rfl) Try.func35 vaultPlays_closed
    (of_decide_eq_true (by kernel_rfl)) (by unfold Func.isWrapper; first | (rw [if_pos (by decide +kernel)]; kernel_rfl) | (rw [if_neg (by decide +kernel)]; exact ⟨rfl, rfl⟩))
    (fun os started H enc _ => vaultPlays_lifted os started H enc)
#print axioms vaultPlays_holds
end Go.Proofs.Ytggggfcgnkllgaa
