/- Part 5 of what the law is proved with: Ext2 T32. -/
import Derived.Test.YtlnkdphecinnnaaQPC4
section
/- Extents: compared, built; the reference's right and total. -/
set_option linter.unusedVariables false
set_option linter.unusedSimpArgs false
namespace Go.Proofs.Ytlnkdphecinnnaa
open Go Go.Sh Go.RowKit
attribute [local irreducible] X XU XP XR CALL loopS resC closS
theorem eqFields_three {P : Program} {d : Nat} {xs ys : Array Value} {f0 f1 f2 : Field} {w : World} {x0 y0 x1 y1 x2 y2 : Value} {r0 r1 r2 : Bool} (n0 : f0.name ≠ "_") (n1 : f1.name ≠ "_") (n2 : f2.name ≠ "_")
    (hx0 : (part f0.type xs f0.offset).run P w = .ok x0 w) (hy0 : (part f0.type ys f0.offset).run P w = .ok y0 w) (hx1 : (part f1.type xs f1.offset).run P w = .ok x1 w) (hy1 : (part f1.type ys f1.offset).run P w = .ok y1 w)
    (hx2 : (part f2.type xs f2.offset).run P w = .ok x2 w) (hy2 : (part f2.type ys f2.offset).run P w = .ok y2 w)
    (q0 : (Op.equalIn d f0.type x0 y0).run P w = .ok r0 w) (q1 : (Op.equalIn d f1.type x1 y1).run P w = .ok r1 w) (q2 : (Op.equalIn d f2.type x2 y2).run P w = .ok r2 w) : (Op.eqFields d xs ys [f0, f1, f2]).run P w = .ok (r0 && (r1 && r2)) w := by
  cases r0 <;> cases r1 <;> cases r2 <;> simp [Op.eqFields, n0, n1, n2, hx0, hy0, hx1, hy1, hx2, hy2, q0, q1, q2]
theorem Ex.ext' {a b : Ex} (h1 : a.k = b.k) (h2 : a.off = b.off) (h3 : a.len = b.len) : a = b := by
  cases a; cases b; simp at h1 h2 h3; subst h1; subst h2; subst h3; rfl
instance : DecidableEq Ex := fun a b => if h1 : a.k = b.k then if h2 : a.off = b.off then if h3 : a.len = b.len then isTrue (Ex.ext' h1 h2 h3) else isFalse (fun h => h3 (by rw [h])) else isFalse (fun h => h2 (by rw [h])) else isFalse (fun h => h1 (by rw [h]))
theorem fields72 : (Try.prog.fieldsOf 72).toList = [{ name := "Key", type := 44, offset := 0, embedded := false, tag := "", pkgPath := "", byteOffset := 0 }, { name := "Off", type := 3, offset := 33, embedded := false, tag := "", pkgPath := "", byteOffset := 40 }, { name := "Len", type := 3, offset := 34, embedded := false, tag := "", pkgPath := "", byteOffset := 48 }] := by kernel_rfl
theorem struct72 : Try.prog.underlying 72 = some (.struct (Try.prog.fieldsOf 72)) := by kernel_rfl
theorem held72 : Try.prog.stoodInHeld 72 = false := by kernel_rfl
theorem guard72 : Try.prog.eqGuardType Try.prog.depth 72 = false := by kernel_rfl
theorem Ex.cs_take (e : Ex) : e.cs.take 33 = e.k.cs := by
  unfold Ex.cs
  rw [List.take_append_of_le_length (by simp [Ky.cs_len]), List.take_of_length_le (by simp [Ky.cs_len])]
theorem part_key (e : Ex) (w : World) : (part 44 e.cs.toArray 0).run Try.prog w = .ok e.k.v w := by
  rw [part_agg Try.underlying44 agg_44 info_44, sz_44]
  have : e.cs.toArray.extract 0 (0 + 33) = e.k.cs.toArray := by
    apply Array.ext'
    simp [Ex.cs_take]
  rw [this]
theorem part_off (e : Ex) (w : World) : (part 3 e.cs.toArray 33).run Try.prog w = .ok (.int .i64 e.off) w := part_cell agg_3 (by simpa using e.offAt) w
theorem part_len (e : Ex) (w : World) : (part 3 e.cs.toArray 34).run Try.prog w = .ok (.int .i64 e.len) w := part_cell agg_3 (by simpa using e.lenAt) w
theorem key_equal9 (a b : Ky) (w : World) : (Op.equalIn 9999 44 a.v b.v).run Try.prog w = .ok (decide (a = b)) w := by
  rw [show (9999 : Nat) = 9998 + 1 from rfl, run_equalIn_struct w 9998 44 _ _ struct44 held44, fields44, ky_dec]
  refine eqFields_two (by decide) (by decide) (part_sum a w) (part_sum b w) (part_num a w) (part_num b w) ?_ ?_
  · rw [show (9998 : Nat) = 9997 + 1 from rfl, run_equalIn_array w 9997 _ _ Try.underlying41 inf5, cel5, List.range_eq_range']
    have := eqItems_bytes (P := Try.prog) 9996 Try.underlying5 agg_5 a.sum b.sum (by rw [a.len, b.len]) w 32 0 (by rw [a.len])
    simpa using this
  · have bz : ((a.num : Int) == (b.num : Int)) = decide (a.num = b.num) := by
      rw [Bool.eq_iff_iff]; simp; omega
    have := run_equalIn_int (P := Try.prog) w 9997 42 .u32 .u32 (a.num : Int) (b.num : Int) Try.underlying42
    rw [bz] at this
    exact this
theorem int_equal9 (a b : Int) (w : World) : (Op.equalIn 9999 3 (.int .i64 a) (.int .i64 b)).run Try.prog w = .ok (decide (a = b)) w := by
  have bz : (a == b) = decide (a = b) := by
    rw [Bool.eq_iff_iff]; simp
  have := run_equalIn_int (P := Try.prog) w 9998 3 .i64 .i64 a b Try.underlying3
  rw [bz] at this
  exact this
theorem ex_dec (a b : Ex) : decide (a = b) = (decide (a.k = b.k) && (decide (a.off = b.off) && decide (a.len = b.len))) := by
  rw [← Bool.decide_and, ← Bool.decide_and]
  exact decide_eq_decide.2 ⟨fun h => by rw [h]; exact ⟨rfl, rfl, rfl⟩, fun h => Ex.ext' h.1 h.2.1 h.2.2⟩
theorem ext_equal (a b : Ex) (w : World) : (Op.equalIn 10000 72 (.agg a.cs.toArray) (.agg b.cs.toArray)).run Try.prog w = .ok (decide (a = b)) w := by
  have e1 : (Op.equalIn (9999 + 1) 72 (.agg a.cs.toArray) (.agg b.cs.toArray)).run Try.prog w = (Op.eqFields 9999 a.cs.toArray b.cs.toArray (Try.prog.fieldsOf 72).toList).run Try.prog w := run_equalIn_struct w 9999 72 _ _ struct72 held72
  have e2 : (Op.equalIn 10000 72 (.agg a.cs.toArray) (.agg b.cs.toArray)).run Try.prog w = (Op.eqFields 9999 a.cs.toArray b.cs.toArray (Try.prog.fieldsOf 72).toList).run Try.prog w := e1
  rw [e2, fields72, ex_dec]
  exact eqFields_three (by decide) (by decide) (by decide) (part_key a w) (part_key b w) (part_off a w) (part_off b w) (part_len a w) (part_len b w) (key_equal9 a.k b.k w) (int_equal9 a.off b.off w) (int_equal9 a.len b.len w)
theorem run_ext_neq (a b : Ex) (o1 o2 : Operand) (w : World) : (binOpG .neq 72 o1 o2 (.agg a.cs.toArray) (.agg b.cs.toArray)).run Try.prog w = .ok (.bool (decide (a ≠ b))) w := by
  rw [agg_neq guard72 o1 o2 (ext_equal a b w)]
  simp
section
variable {w : World} {K : Value → World → Prop}
theorem SameE_spec {va vb : Value} {l : List Ex} (ha : RowK 35 Ex.cs w va l) (hb : RowK 35 Ex.cs w vb l) (hn : l.length ≤ 1000000000) (hK : ∀ w1, Ext w w1 → K (.bool true) w1) : CALL Try.prog 29 #[va, vb] w K := by
  obtain ⟨aa, ca, ea⟩ := ha.slice
  obtain ⟨ab, cb, eb⟩ := hb.slice
  apply call_ref16_Same
  unfold B_ref16_Same
  rw [ea, eb]
  have c : decide ((l.length : Int) ≠ (l.length : Int)) = false := by simp
  (repeat (simp only [XP_extract0, XP_extract1, XP_extract2, XP_extract3, X_extract0, X_extract1, X_extract2, X_extract3, X_nilS, X_eql_nil_24, X_neq_nil_24, X_eql_nil_103, X_neq_nil_103, X_eql, X_neq, X_lss, X_leq, X_gtr, X_geq, X_not, X_min, X_max, X_len_79, X_len_35, XP_nilS, XP_eql, XP_neq, XP_lss, XP_leq, XP_gtr, XP_geq, XP_not, XP_min, XP_max, XP_len_79, XP_eql_nil_24, X_str_eql, X_str_neq, XP_str_eql, XP_str_neq, GS, gs_u, decide_true, decide_false, Option.isNone_some, Option.isSome_some, Option.isNone_none, Option.isSome_none, eq_self, Bool.not_true, Bool.not_false, Int.reduceEq, Int.reduceNe, Int.reduceLT, Int.reduceLE, Int.reduceGT, Int.reduceGE, X_len_59, c]))
  rw [← ea, ← eb]
  refine loopE (fun ρ wr => ∃ i : Nat, i ≤ l.length ∧ Ext w wr ∧ ρ 5 = .int .i64 (i : Int) ∧ ρ 0 = va ∧ ρ 1 = vb)
    (fun ρ wr => match ρ 5 with | .int _ s => (l.length - s).toNat | _ => 0)
    (fun ρ wr => Ext w wr) ?_ ?_ ?_
  · exact ⟨0, by omega, Keep.refl _ _, rfl, rfl, rfl⟩
  · rintro J hJ ρ wr ⟨i, hi, hx, r5, r0, r1⟩
    rw [r0, r5, ea, X_len_59, X_lss, condS_bool, ← ea]
    by_cases hie : i = l.length
    · rw [if_neg (by simp; omega)]
      exact hJ _ _ hx
    rw [if_pos (by simp; omega), r1]
    have hlt : i < l.length := by omega
    have hxd := hx.trans (Keep.drew (fun _ => False) wr)
    obtain ⟨g, o, hix, hc⟩ := ext_at (ha.ext hxd) hlt
    obtain ⟨g2, o2, hix2, hc2⟩ := ext_at (hb.ext hxd) hlt
    refine ⟨Ext, Ext.frame, ?_⟩
    generalize drewW wr = wd at hxd hc hc2 ⊢
    refine XP_of hix ?_
    refine XR_ok Ext.frame (fun w' kk => run_ext (fun j u hu => kk.cell (fun h => h) (hc j u hu))) ?_
    refine XP_of hix2 ?_
    refine XR_ok Ext.frame (fun w' kk => run_ext (fun j u hu => kk.cell (fun h => h) (hc2 j u hu))) ?_
    refine XP_of (fun w' => run_ext_neq _ _ _ _ w') ?_
    rw [condS_bool, if_neg (by simp), X_add]
    show _ ∧ _
    refine ⟨⟨i + 1, by omega, hxd, next64 (n := 1000000000) (by decide) (by omega), r0, r1⟩, ?_⟩
    show (_ - IntKind.i64.wrap _).toNat < _
    rw [w64 (by omega) (by omega)]
    first | omega | (show _ < (_ : Int).toNat; omega)
  · rintro ρ wr hx
    exact hK wr hx
/-- The first of a row's items. -/
theorem rowK_take {α : Type} {k : Nat} {f : α → List Value} {v : Value} {l : List α} (h : RowK k f w v l) (n : Nat) (hn : n ≤ l.length) : ∃ a c, v = .slice a l.length c ∧ l.length ≤ c ∧ RowK k f w (.slice (if c = 0 then a else a.map (·.add 0)) n c) (l.take n) := by
  obtain ⟨a, c, rfl, h1, h2, h3⟩ := h
  have hlen : (l.take n).length = n := by rw [List.length_take]; omega
  refine ⟨a, c, rfl, h1, ?_⟩
  rw [map_add0]
  refine ⟨a, c, by rw [hlen], by omega, h2, fun h0 => ?_⟩
  rw [hlen] at h0
  obtain ⟨ad, rfl, hc⟩ := h3 (by omega)
  refine ⟨ad, rfl, fun j x hx => hc j x ?_⟩
  rw [List.getElem?_take] at hx
  split at hx
  · exact hx
  · cases hx
theorem Few_spec {v : Value} {l : List Ex} (hl : RowK 35 Ex.cs w v l) (hK : ∀ u, RowK 35 Ex.cs w u (l.take 500) → K u w) : CALL Try.prog 31 #[v] w K := by
  apply call_law16_few
  unfold B_law16_few
  by_cases h : l.length ≤ 500
  · obtain ⟨a, c, rfl, hc, ht⟩ := rowK_take hl l.length (Nat.le_refl _)
    rw [X_len_59, X_min]
    have e : min (l.length : Int) 500 = ((l.length : Nat) : Int) := by omega
    rw [e]
    refine X_of (run_slice_hi Try.underlying59 info_72 a _ c .i64 l.length (by omega) w) ?_
    have e2 : l.take 500 = l.take l.length := by rw [List.take_of_length_le h, List.take_length]
    refine hK _ ?_
    rw [e2]
    exact ht
  · obtain ⟨a, c, rfl, hc, ht⟩ := rowK_take hl 500 (by omega)
    rw [X_len_59, X_min]
    have e : min (l.length : Int) 500 = ((500 : Nat) : Int) := by omega
    rw [e]
    refine X_of (run_slice_hi Try.underlying59 info_72 a _ c .i64 500 (by omega) w) ?_
    exact hK _ ht
set_option maxHeartbeats 1000000 in
theorem RRight_spec {v : Value} {l : List Ex} (hl : RowK 35 Ex.cs w v l) (hK : ∀ w1, Ext w w1 → K (.bool (decide (RightP l))) w1) : CALL Try.prog 37 #[v] w K := by
  obtain ⟨a, c, ev⟩ := hl.slice
  have no : ¬ RightP l → ∀ w1, Ext w w1 → K (.bool false) w1 := fun h w1 hx => by have := hK w1 hx; rwa [decide_eq_false h] at this
  apply call_ref16_Right
  unfold B_ref16_Right
  rw [ev, X_len_59, X_gtr, ← ev]
  by_cases h : l.length ≤ 16384
  case neg =>
    have c : decide ((l.length : Int) > 16384) = true := by simp; omega
    (repeat (simp only [XP_extract0, XP_extract1, XP_extract2, XP_extract3, X_extract0, X_extract1, X_extract2, X_extract3, X_nilS, X_eql_nil_24, X_neq_nil_24, X_eql_nil_103, X_neq_nil_103, X_eql, X_neq, X_lss, X_leq, X_gtr, X_geq, X_not, X_min, X_max, X_len_79, X_len_35, XP_nilS, XP_eql, XP_neq, XP_lss, XP_leq, XP_gtr, XP_geq, XP_not, XP_min, XP_max, XP_len_79, XP_eql_nil_24, X_str_eql, X_str_neq, XP_str_eql, XP_str_neq, GS, gs_u, decide_true, decide_false, Option.isNone_some, Option.isSome_some, Option.isNone_none, Option.isSome_none, eq_self, Bool.not_true, Bool.not_false, Int.reduceEq, Int.reduceNe, Int.reduceLT, Int.reduceLE, Int.reduceGT, Int.reduceGE, c]))
    exact no (fun h' => h h'.1) w (Keep.refl _ _)
  have c : decide ((l.length : Int) > 16384) = false := by simp; omega
  (repeat (simp only [XP_extract0, XP_extract1, XP_extract2, XP_extract3, X_extract0, X_extract1, X_extract2, X_extract3, X_nilS, X_eql_nil_24, X_neq_nil_24, X_eql_nil_103, X_neq_nil_103, X_eql, X_neq, X_lss, X_leq, X_gtr, X_geq, X_not, X_min, X_max, X_len_79, X_len_35, XP_nilS, XP_eql, XP_neq, XP_lss, XP_leq, XP_gtr, XP_geq, XP_not, XP_min, XP_max, XP_len_79, XP_eql_nil_24, X_str_eql, X_str_neq, XP_str_eql, XP_str_neq, GS, gs_u, decide_true, decide_false, Option.isNone_some, Option.isSome_some, Option.isNone_none, Option.isSome_none, eq_self, Bool.not_true, Bool.not_false, Int.reduceEq, Int.reduceNe, Int.reduceLT, Int.reduceLE, Int.reduceGT, Int.reduceGE, c]))
  refine loopE (fun ρ wr => ∃ i : Nat, i ≤ l.length ∧ Ext w wr ∧ (∀ e ∈ l.take i, right1 e) ∧ ρ 3 = .int .i64 (i : Int) ∧ ρ 0 = v)
    (fun ρ wr => match ρ 3 with | .int _ s => (l.length - s).toNat | _ => 0)
    (fun ρ wr => Ext w wr ∧ RightP l) ?_ ?_ ?_
  · exact ⟨0, by omega, Keep.refl _ _, by simp, rfl, rfl⟩
  · rintro J hJ ρ wr ⟨i, hi, hx, hr, r3, r0⟩
    rw [r0, r3, ev, X_len_59, X_lss, condS_bool, ← ev]
    by_cases hie : i = l.length
    · rw [if_neg (by simp; omega)]
      rw [hie, List.take_of_length_le (Nat.le_refl _)] at hr
      exact hJ _ _ ⟨hx, h, hr⟩
    rw [if_pos (by simp; omega)]
    have hlt : i < l.length := by omega
    have hxd := hx.trans (Keep.drew (fun _ => False) wr)
    obtain ⟨g, o, hix, hc⟩ := ext_at (hl.ext hxd) hlt
    refine ⟨Ext, Ext.frame, ?_⟩
    generalize drewW wr = wd at hxd hc ⊢
    have hoff : ∀ w', Ext wd w' → (Instr.loadAt 3 (.pointer (some ⟨g, o + 33, none⟩))).run Try.prog w' = .ok (.int .i64 l[i].off) w' := fun w' kk => run_loadAt agg_3 (kk.cell (fun h => h) (hc 33 _ l[i].offAt))
    have hlen : ∀ w', Ext wd w' → (Instr.loadAt 3 (.pointer (some ⟨g, o + 34, none⟩))).run Try.prog w' = .ok (.int .i64 l[i].len) w' := fun w' kk => run_loadAt agg_3 (kk.cell (fun h => h) (hc 34 _ l[i].lenAt))
    have hmem := List.getElem_mem hlt
    have hs := List.take_succ_eq_append_getElem hlt
    generalize l[i] = e at hoff hlen hmem hs
    have bad : ¬ right1 e → K (.bool false) wd := fun h => no (fun h' => h (h'.2 e hmem)) wd hxd
    have b1 := e.o1
    have b2 := e.o2
    have b3 := e.l1
    have b4 := e.l2
    refine XP_of hix ?_
    rw [XP_field_72_1]
    refine XR_ok Ext.frame hoff ?_
    rw [XP_lss]
    by_cases h1 : e.off < 0
    · have c : decide (e.off < 0) = true := by simpa using h1
      (repeat (simp only [XP_extract0, XP_extract1, XP_extract2, XP_extract3, X_extract0, X_extract1, X_extract2, X_extract3, X_nilS, X_eql_nil_24, X_neq_nil_24, X_eql_nil_103, X_neq_nil_103, X_eql, X_neq, X_lss, X_leq, X_gtr, X_geq, X_not, X_min, X_max, X_len_79, X_len_35, XP_nilS, XP_eql, XP_neq, XP_lss, XP_leq, XP_gtr, XP_geq, XP_not, XP_min, XP_max, XP_len_79, XP_eql_nil_24, X_str_eql, X_str_neq, XP_str_eql, XP_str_neq, GS, gs_u, decide_true, decide_false, Option.isNone_some, Option.isSome_some, Option.isNone_none, Option.isSome_none, eq_self, Bool.not_true, Bool.not_false, Int.reduceEq, Int.reduceNe, Int.reduceLT, Int.reduceLE, Int.reduceGT, Int.reduceGE, c]))
      exact bad (fun h => by have := h.1; omega)
    have c : decide (e.off < 0) = false := by simpa using h1
    (repeat (simp only [XP_extract0, XP_extract1, XP_extract2, XP_extract3, X_extract0, X_extract1, X_extract2, X_extract3, X_nilS, X_eql_nil_24, X_neq_nil_24, X_eql_nil_103, X_neq_nil_103, X_eql, X_neq, X_lss, X_leq, X_gtr, X_geq, X_not, X_min, X_max, X_len_79, X_len_35, XP_nilS, XP_eql, XP_neq, XP_lss, XP_leq, XP_gtr, XP_geq, XP_not, XP_min, XP_max, XP_len_79, XP_eql_nil_24, X_str_eql, X_str_neq, XP_str_eql, XP_str_neq, GS, gs_u, decide_true, decide_false, Option.isNone_some, Option.isSome_some, Option.isNone_none, Option.isSome_none, eq_self, Bool.not_true, Bool.not_false, Int.reduceEq, Int.reduceNe, Int.reduceLT, Int.reduceLE, Int.reduceGT, Int.reduceGE, c]))
    refine XP_of hix ?_
    rw [XP_field_72_2]
    refine XR_ok Ext.frame hlen ?_
    rw [XP_lss]
    by_cases h2 : e.len < 1
    · have c : decide (e.len < 1) = true := by simpa using h2
      (repeat (simp only [XP_extract0, XP_extract1, XP_extract2, XP_extract3, X_extract0, X_extract1, X_extract2, X_extract3, X_nilS, X_eql_nil_24, X_neq_nil_24, X_eql_nil_103, X_neq_nil_103, X_eql, X_neq, X_lss, X_leq, X_gtr, X_geq, X_not, X_min, X_max, X_len_79, X_len_35, XP_nilS, XP_eql, XP_neq, XP_lss, XP_leq, XP_gtr, XP_geq, XP_not, XP_min, XP_max, XP_len_79, XP_eql_nil_24, X_str_eql, X_str_neq, XP_str_eql, XP_str_neq, GS, gs_u, decide_true, decide_false, Option.isNone_some, Option.isSome_some, Option.isNone_none, Option.isSome_none, eq_self, Bool.not_true, Bool.not_false, Int.reduceEq, Int.reduceNe, Int.reduceLT, Int.reduceLE, Int.reduceGT, Int.reduceGE, c]))
      exact bad (fun h => by have := h.2.1; omega)
    have c : decide (e.len < 1) = false := by simpa using h2
    (repeat (simp only [XP_extract0, XP_extract1, XP_extract2, XP_extract3, X_extract0, X_extract1, X_extract2, X_extract3, X_nilS, X_eql_nil_24, X_neq_nil_24, X_eql_nil_103, X_neq_nil_103, X_eql, X_neq, X_lss, X_leq, X_gtr, X_geq, X_not, X_min, X_max, X_len_79, X_len_35, XP_nilS, XP_eql, XP_neq, XP_lss, XP_leq, XP_gtr, XP_geq, XP_not, XP_min, XP_max, XP_len_79, XP_eql_nil_24, X_str_eql, X_str_neq, XP_str_eql, XP_str_neq, GS, gs_u, decide_true, decide_false, Option.isNone_some, Option.isSome_some, Option.isNone_none, Option.isSome_none, eq_self, Bool.not_true, Bool.not_false, Int.reduceEq, Int.reduceNe, Int.reduceLT, Int.reduceLE, Int.reduceGT, Int.reduceGE, c]))
    refine XP_of hix ?_
    rw [XP_field_72_2]
    refine XR_ok Ext.frame hlen ?_
    rw [XP_gtr]
    by_cases h3 : e.len > 4096
    · have c : decide (e.len > 4096) = true := by simpa using h3
      (repeat (simp only [XP_extract0, XP_extract1, XP_extract2, XP_extract3, X_extract0, X_extract1, X_extract2, X_extract3, X_nilS, X_eql_nil_24, X_neq_nil_24, X_eql_nil_103, X_neq_nil_103, X_eql, X_neq, X_lss, X_leq, X_gtr, X_geq, X_not, X_min, X_max, X_len_79, X_len_35, XP_nilS, XP_eql, XP_neq, XP_lss, XP_leq, XP_gtr, XP_geq, XP_not, XP_min, XP_max, XP_len_79, XP_eql_nil_24, X_str_eql, X_str_neq, XP_str_eql, XP_str_neq, GS, gs_u, decide_true, decide_false, Option.isNone_some, Option.isSome_some, Option.isNone_none, Option.isSome_none, eq_self, Bool.not_true, Bool.not_false, Int.reduceEq, Int.reduceNe, Int.reduceLT, Int.reduceLE, Int.reduceGT, Int.reduceGE, c]))
      exact bad (fun h => by have h5 := h.2.2.2; have h6 := h.1; omega)
    have c : decide (e.len > 4096) = false := by simpa using h3
    (repeat (simp only [XP_extract0, XP_extract1, XP_extract2, XP_extract3, X_extract0, X_extract1, X_extract2, X_extract3, X_nilS, X_eql_nil_24, X_neq_nil_24, X_eql_nil_103, X_neq_nil_103, X_eql, X_neq, X_lss, X_leq, X_gtr, X_geq, X_not, X_min, X_max, X_len_79, X_len_35, XP_nilS, XP_eql, XP_neq, XP_lss, XP_leq, XP_gtr, XP_geq, XP_not, XP_min, XP_max, XP_len_79, XP_eql_nil_24, X_str_eql, X_str_neq, XP_str_eql, XP_str_neq, GS, gs_u, decide_true, decide_false, Option.isNone_some, Option.isSome_some, Option.isNone_none, Option.isSome_none, eq_self, Bool.not_true, Bool.not_false, Int.reduceEq, Int.reduceNe, Int.reduceLT, Int.reduceLE, Int.reduceGT, Int.reduceGE, c]))
    refine XP_of hix ?_
    rw [XP_field_72_1]
    refine XR_ok Ext.frame hoff ?_
    refine XP_of hix ?_
    rw [XP_field_72_2]
    refine XR_ok Ext.frame hlen ?_
    rw [XP_sub, w64 (by omega) (by omega), XP_gtr]
    by_cases h4 : e.off > 4096 - e.len
    · have c : decide (e.off > 4096 - e.len) = true := by simpa using h4
      (repeat (simp only [XP_extract0, XP_extract1, XP_extract2, XP_extract3, X_extract0, X_extract1, X_extract2, X_extract3, X_nilS, X_eql_nil_24, X_neq_nil_24, X_eql_nil_103, X_neq_nil_103, X_eql, X_neq, X_lss, X_leq, X_gtr, X_geq, X_not, X_min, X_max, X_len_79, X_len_35, XP_nilS, XP_eql, XP_neq, XP_lss, XP_leq, XP_gtr, XP_geq, XP_not, XP_min, XP_max, XP_len_79, XP_eql_nil_24, X_str_eql, X_str_neq, XP_str_eql, XP_str_neq, GS, gs_u, decide_true, decide_false, Option.isNone_some, Option.isSome_some, Option.isNone_none, Option.isSome_none, eq_self, Bool.not_true, Bool.not_false, Int.reduceEq, Int.reduceNe, Int.reduceLT, Int.reduceLE, Int.reduceGT, Int.reduceGE, c]))
      exact bad (fun h => by have h5 := h.2.2.2; omega)
    have c : decide (e.off > 4096 - e.len) = false := by simpa using h4
    (repeat (simp only [XP_extract0, XP_extract1, XP_extract2, XP_extract3, X_extract0, X_extract1, X_extract2, X_extract3, X_nilS, X_eql_nil_24, X_neq_nil_24, X_eql_nil_103, X_neq_nil_103, X_eql, X_neq, X_lss, X_leq, X_gtr, X_geq, X_not, X_min, X_max, X_len_79, X_len_35, XP_nilS, XP_eql, XP_neq, XP_lss, XP_leq, XP_gtr, XP_geq, XP_not, XP_min, XP_max, XP_len_79, XP_eql_nil_24, X_str_eql, X_str_neq, XP_str_eql, XP_str_neq, GS, gs_u, decide_true, decide_false, Option.isNone_some, Option.isSome_some, Option.isNone_none, Option.isSome_none, eq_self, Bool.not_true, Bool.not_false, Int.reduceEq, Int.reduceNe, Int.reduceLT, Int.reduceLE, Int.reduceGT, Int.reduceGE, c]))
    rw [X_add]
    show _ ∧ _
    refine ⟨⟨i + 1, by omega, hxd, ?_, next64 (n := 1000000000) (by decide) (by omega), r0⟩, ?_⟩
    · rw [hs]
      intro z hz
      rcases List.mem_append.1 hz with hz | hz
      · exact hr z hz
      · rw [List.mem_singleton.1 hz]
        unfold right1
        omega
    · show (_ - IntKind.i64.wrap _).toNat < _
      rw [w64 (by omega) (by omega)]
      first | omega | (show _ < (_ : Int).toNat; omega)
  · rintro ρ wr ⟨hx, hr⟩
    have := hK wr hx
    rw [decide_eq_true hr] at this
    exact this
theorem RTotal_spec {v : Value} {l : List Ex} (hl : RowK 35 Ex.cs w v l) (hK : ∀ w1, Ext w w1 → K (i64v (totalE l)) w1) : CALL Try.prog 38 #[v] w K := by
  obtain ⟨a, c, ev⟩ := hl.slice
  apply call_ref16_Total
  unfold B_ref16_Total
  refine RRight_spec hl ?_
  intro w1 hx1
  by_cases hr : RightP l
  case neg =>
    have c : decide (RightP l) = false := decide_eq_false hr
    (repeat (simp only [XP_extract0, XP_extract1, XP_extract2, XP_extract3, X_extract0, X_extract1, X_extract2, X_extract3, X_nilS, X_eql_nil_24, X_neq_nil_24, X_eql_nil_103, X_neq_nil_103, X_eql, X_neq, X_lss, X_leq, X_gtr, X_geq, X_not, X_min, X_max, X_len_79, X_len_35, XP_nilS, XP_eql, XP_neq, XP_lss, XP_leq, XP_gtr, XP_geq, XP_not, XP_min, XP_max, XP_len_79, XP_eql_nil_24, X_str_eql, X_str_neq, XP_str_eql, XP_str_neq, GS, gs_u, decide_true, decide_false, Option.isNone_some, Option.isSome_some, Option.isNone_none, Option.isSome_none, eq_self, Bool.not_true, Bool.not_false, Int.reduceEq, Int.reduceNe, Int.reduceLT, Int.reduceLE, Int.reduceGT, Int.reduceGE, c]))
    have := hK w1 hx1
    unfold totalE at this
    rw [if_neg hr] at this
    exact this
  have c : decide (RightP l) = true := decide_eq_true hr
  (repeat (simp only [XP_extract0, XP_extract1, XP_extract2, XP_extract3, X_extract0, X_extract1, X_extract2, X_extract3, X_nilS, X_eql_nil_24, X_neq_nil_24, X_eql_nil_103, X_neq_nil_103, X_eql, X_neq, X_lss, X_leq, X_gtr, X_geq, X_not, X_min, X_max, X_len_79, X_len_35, XP_nilS, XP_eql, XP_neq, XP_lss, XP_leq, XP_gtr, XP_geq, XP_not, XP_min, XP_max, XP_len_79, XP_eql_nil_24, X_str_eql, X_str_neq, XP_str_eql, XP_str_neq, GS, gs_u, decide_true, decide_false, Option.isNone_some, Option.isSome_some, Option.isNone_none, Option.isSome_none, eq_self, Bool.not_true, Bool.not_false, Int.reduceEq, Int.reduceNe, Int.reduceLT, Int.reduceLE, Int.reduceGT, Int.reduceGE, c]))
  have hn := hr.1
  refine loopE (fun ρ wr => ∃ i : Nat, i ≤ l.length ∧ wr = w1 ∧ ρ 4 = .int .i64 (i : Int) ∧ ρ 0 = v ∧ ρ 3 = .int .i64 (totE (l.take i)))
    (fun ρ wr => match ρ 4 with | .int _ s => (l.length - s).toNat | _ => 0)
    (fun ρ wr => wr = w1 ∧ ρ 3 = .int .i64 (totE l)) ?_ ?_ ?_
  · exact ⟨0, by omega, rfl, rfl, rfl, rfl⟩
  · rintro J hJ ρ wr ⟨i, hi, rfl, r4, r0, r3⟩
    rw [r4, r0, r3, ev, X_len_59, X_lss, condS_bool, ← ev]
    by_cases hie : i = l.length
    · rw [if_neg (by simp; omega)]
      refine hJ _ _ ⟨rfl, ?_⟩
      show ρ 3 = _
      rw [r3, hie, List.take_of_length_le (Nat.le_refl _)]
    rw [if_pos (by simp; omega)]
    have hlt : i < l.length := by omega
    obtain ⟨g, o, hix, hc⟩ := ext_at (hl.ext hx1) hlt
    have hs := totE_succ l i hlt
    obtain ⟨b1, b2⟩ := totE_bound hr.2 (i + 1)
    obtain ⟨b3, b4⟩ := totE_bound hr.2 i
    rw [List.length_take] at b2 b4
    refine X_of (hix _) ?_
    rw [X_field_72_2]
    refine X_of (run_loadAt agg_3 (hc 34 _ l[i].lenAt)) ?_
    rw [X_add, w64 (by omega) (by omega), ← hs, X_add]
    show _ ∧ _
    refine ⟨⟨i + 1, by omega, rfl, next64 (n := 1000000) (by decide) (by omega), r0, rfl⟩, ?_⟩
    show (_ - IntKind.i64.wrap _).toNat < _
    rw [w64 (by omega) (by omega)]
    first | omega | (show _ < (_ : Int).toNat; omega)
  · rintro ρ wr ⟨rfl, r3⟩
    rw [r3]
    have := hK wr hx1
    unfold totalE at this
    rw [if_pos hr] at this
    exact this
end
end Go.Proofs.Ytlnkdphecinnnaa
end
section
set_option linter.unusedVariables false
namespace Go.Proofs.Ytlnkdphecinnnaa
open Go Go.Sh
attribute [local irreducible] X XU XP XR CALL loopS resC closS
/-- cellarage/cache.New -/
def B_cache_New (x0 : Value) (w : World) (K : Value → World → Prop) : Prop :=
  X Try.prog (binOp .lss 3 x0 (.int .i64 0)) w fun v1_5 w1 =>
  gstep v1_5 false (fun w2 K => K x0 w2) w1 fun v2_7 w3 =>
  gstep v1_5 false (fun w4 K => X Try.prog (binOp .gtr 3 v2_7 (.int .i64 4096)) w4 K) w3 fun v3_8 w5 =>
  X Try.prog (pickS v1_5 (.bool true) v3_8) w5 fun v4_9 w6 =>
  condS v4_9 (
  K (.tuple #[(.pointer none), (.int .i64 1)]) w6) (
  X Try.prog (Instr.makeMap 85 none) w6 fun v5_11 w7 =>
  X Try.prog (Instr.build 87 #[(0, x0), (2, v5_11)]) w7 fun v6_12 w8 =>
  X Try.prog (Instr.box 87 v6_12) w8 fun v7_13 w9 =>
  K (.tuple #[v7_13, (.int .i64 0)]) w9)

theorem eq_cache_New (x0 : Value) (w : World) (K : Value → World → Prop) :
    sh Try.prog (Try.f16.body.getD .skip) (retS Try.prog Try.f16.results K) (env0 #[x0]) w = B_cache_New x0 w K := by kernel_rfl

theorem call_cache_New (x0 : Value) (w : World) (K : Value → World → Prop) (h : B_cache_New x0 w K) : CALL Try.prog 16 #[x0] w K :=
  call_of_eq (c := Try.f16.body.getD .skip) mixed Try.func16 (by kernel_rfl) (by kernel_rfl) (by kernel_rfl) (Nat.le_of_ble_eq_true (by kernel_rfl)) (eq_cache_New x0 w K) h

/-- (*cellarage/cache.Cache).Has -/
def B_cache_Cache_Has (x0 x1 : Value) (w : World) (K : Value → World → Prop) : Prop :=
  X Try.prog (binOpG .eql 24 (.tmp 7) (.const (.pointer none)) x0 (.pointer none)) w fun v1_8 w1 =>
  condS v1_8 (
  K (.bool false) w1) (
  X Try.prog (nilS x0) w1 fun v2_11 w2 =>
  X Try.prog (Instr.fieldAt 87 v2_11 2) w2 fun v3_12 w3 =>
  X Try.prog (Instr.loadAt 85 v3_12) w3 fun v4_13 w4 =>
  X Try.prog (Instr.lookup 85 v4_13 x1 true) w4 fun v5_15 w5 =>
  X Try.prog (Instr.extract v5_15 0) w5 fun v6_16 w6 =>
  X Try.prog (Instr.extract v5_15 1) w6 fun v7_17 w7 =>
  K v7_17 w7)

theorem eq_cache_Cache_Has (x0 x1 : Value) (w : World) (K : Value → World → Prop) :
    sh Try.prog (Try.f18.body.getD .skip) (retS Try.prog Try.f18.results K) (env0 #[x0, x1]) w = B_cache_Cache_Has x0 x1 w K := by kernel_rfl

theorem call_cache_Cache_Has (x0 x1 : Value) (w : World) (K : Value → World → Prop) (h : B_cache_Cache_Has x0 x1 w K) : CALL Try.prog 18 #[x0, x1] w K :=
  call_of_eq (c := Try.f18.body.getD .skip) mixed Try.func18 (by kernel_rfl) (by kernel_rfl) (by kernel_rfl) (Nat.le_of_ble_eq_true (by kernel_rfl)) (eq_cache_Cache_Has x0 x1 w K) h

/-- (*cellarage/cache.Cache).Drop -/
def B_cache_Cache_Drop (x0 x1 : Value) (w : World) (K : Value → World → Prop) : Prop :=
  CALL Try.prog 18 #[x0, x1] w fun v1_8 w1 =>
  X Try.prog (Op.unary .not v1_8) w1 fun v2_9 w2 =>
  condS v2_9 (
  K (.bool false) w2) (
  X Try.prog (nilS x0) w2 fun v3_11 w3 =>
  X Try.prog (Instr.fieldAt 87 v3_11 2) w3 fun v4_12 w4 =>
  X Try.prog (Instr.loadAt 85 v4_12) w4 fun v5_13 w5 =>
  X Try.prog (Builtin.delete_ #[85, 3] 0 #[v5_13, x1]) w5 fun _ w6 =>
  X Try.prog (nilS x0) w6 fun v6_16 w7 =>
  X Try.prog (Instr.fieldAt 87 v6_16 1) w7 fun v7_17 w8 =>
  X Try.prog (Instr.loadAt 35 v7_17) w8 fun v8_18 w9 =>
  CALL Try.prog 46 #[v8_18, x1] w9 fun v9_20 w10 =>
  X Try.prog (nilS x0) w10 fun v10_23 w11 =>
  X Try.prog (Instr.fieldAt 87 v10_23 1) w11 fun v11_24 w12 =>
  X Try.prog (Instr.loadAt 35 v11_24) w12 fun v12_25 w13 =>
  X Try.prog (binOp .add 3 v9_20 (.int .i64 1)) w13 fun v13_28 w14 =>
  CALL Try.prog 47 #[v12_25, v9_20, v13_28] w14 fun v14_29 w15 =>
  X Try.prog (nilS x0) w15 fun v15_30 w16 =>
  X Try.prog (Instr.fieldAt 87 v15_30 1) w16 fun v16_31 w17 =>
  XU Try.prog (Instr.storeAt 35 v16_31 v14_29) w17 fun w18 =>
  K (.bool true) w18)

theorem eq_cache_Cache_Drop (x0 x1 : Value) (w : World) (K : Value → World → Prop) :
    sh Try.prog (Try.f19.body.getD .skip) (retS Try.prog Try.f19.results K) (env0 #[x0, x1]) w = B_cache_Cache_Drop x0 x1 w K := by kernel_rfl

theorem call_cache_Cache_Drop (x0 x1 : Value) (w : World) (K : Value → World → Prop) (h : B_cache_Cache_Drop x0 x1 w K) : CALL Try.prog 19 #[x0, x1] w K :=
  call_of_eq (c := Try.f19.body.getD .skip) mixed Try.func19 (by kernel_rfl) (by kernel_rfl) (by kernel_rfl) (Nat.le_of_ble_eq_true (by kernel_rfl)) (eq_cache_Cache_Drop x0 x1 w K) h

/-- (*cellarage/cache.Cache).Load -/
def B_cache_Cache_Load (x0 x1 x2 x3 : Value) (w : World) (K : Value → World → Prop) : Prop :=
  X Try.prog (binOpG .eql 24 (.tmp 13) (.const (.pointer none)) x0 (.pointer none)) w fun v1_14 w1 =>
  gstep v1_14 false (fun w2 K => K x0 w2) w1 fun v2_16 w3 =>
  gstep v1_14 false (fun w4 K => X Try.prog (nilS v2_16) w4 K) w3 fun v3_17 w5 =>
  gstep v1_14 false (fun w6 K => X Try.prog (Instr.fieldAt 87 v3_17 0) w6 K) w5 fun v4_18 w7 =>
  gstep v1_14 false (fun w8 K => X Try.prog (Instr.loadAt 3 v4_18) w8 K) w7 fun v5_19 w9 =>
  gstep v1_14 false (fun w10 K => X Try.prog (binOpG .eql 3 (.tmp 19) (.const (.int .i64 0)) v5_19 (.int .i64 0)) w10 K) w9 fun v6_20 w11 =>
  X Try.prog (pickS v1_14 (.bool true) v6_20) w11 fun v7_21 w12 =>
  gstep v7_21 false (fun w13 K => K x0 w13) w12 fun v8_23 w14 =>
  gstep v7_21 false (fun w15 K => K x1 w15) w14 fun v9_24 w16 =>
  gstep v7_21 false (fun w17 K => CALL Try.prog 18 #[v8_23, v9_24] w17 K) w16 fun v10_25 w18 =>
  X Try.prog (pickS v7_21 (.bool true) v10_25) w18 fun v11_26 w19 =>
  condS v11_26 (
  K (.tuple #[]) w19) (
  joinS (fun ρ1 w20 =>
  X Try.prog (Builtin.len_ #[29] 3 #[(ρ1 2)]) w20 fun v12_54 w21 =>
  X Try.prog (Instr.makeMap 88 (some v12_54)) w21 fun v13_55 w22 =>
  X Try.prog (Builtin.len_ #[29] 3 #[(ρ1 2)]) w22 fun v14_57 w23 =>
  loopS (fun Q2 ρ2 w24 =>
  X Try.prog (binOp .lss 3 (ρ2 58) (ρ2 57)) w24 fun v15_59 w25 =>
  condS v15_59 (
  joinS (fun ρ3 w26 =>
  X Try.prog (binOp .add 3 (ρ3 58) (.int .i64 1)) w26 fun v16_76 w27 =>
  Q2 .normal (upds ρ3 [(58, v16_76), (76, v16_76)]) w27) fun J3 =>
  X Try.prog (Instr.indexAt 29 (ρ2 56) (ρ2 58)) w25 fun v17_60 w28 =>
  X Try.prog (Instr.loadAt 48 v17_60) w28 fun v18_61 w29 =>
  X Try.prog (Instr.alloc 48 true (.tuple #[])) w29 fun v19_10 w30 =>
  XU Try.prog (Instr.storeAt 48 v19_10 v18_61) w30 fun w31 =>
  X Try.prog (Instr.fieldAt 48 v19_10 0) w31 fun v20_64 w32 =>
  X Try.prog (Instr.loadAt 44 v20_64) w32 fun v21_65 w33 =>
  X Try.prog (Instr.lookup 88 (ρ2 8) v21_65 true) w33 fun v22_66 w34 =>
  X Try.prog (Instr.extract v22_66 0) w34 fun v23_67 w35 =>
  X Try.prog (Instr.extract v22_66 1) w35 fun v24_68 w36 =>
  X Try.prog (Instr.alloc 46 true (.tuple #[])) w36 fun v25_11 w37 =>
  XU Try.prog (Instr.storeAt 46 v25_11 v23_67) w37 fun w38 =>
  X Try.prog (Op.unary .not v24_68) w38 fun v26_70 w39 =>
  condS v26_70 (
  X Try.prog (Instr.fieldAt 48 v19_10 0) w39 fun v27_72 w40 =>
  X Try.prog (Instr.loadAt 44 v27_72) w40 fun v28_73 w41 =>
  X Try.prog (Instr.fieldAt 48 v19_10 1) w41 fun v29_74 w42 =>
  X Try.prog (Instr.loadAt 46 v29_74) w42 fun v30_75 w43 =>
  XU Try.prog (Instr.mapUpdate 88 (ρ2 8) v28_73 v30_75) w43 fun w44 =>
  J3 (upds ρ2 [(75, v30_75), (74, v29_74), (73, v28_73), (72, v27_72), (71, (ρ2 8)), (70, v26_70), (69, v24_68), (12, v24_68), (11, v25_11), (68, v24_68), (67, v23_67), (62, v22_66), (66, v22_66), (65, v21_65), (64, v20_64), (63, (ρ2 8)), (10, v19_10), (61, v18_61), (60, v17_60), (59, v15_59)]) w44) (
  J3 (upds ρ2 [(70, v26_70), (69, v24_68), (12, v24_68), (11, v25_11), (68, v24_68), (67, v23_67), (62, v22_66), (66, v22_66), (65, v21_65), (64, v20_64), (63, (ρ2 8)), (10, v19_10), (61, v18_61), (60, v17_60), (59, v15_59)]) w39)) (
  Q2 (.exit 0) (upds ρ2 [(59, v15_59)]) w25)) (inBlockS 0 (thenS (fun ρ4 w45 =>
  X Try.prog (nilS (ρ4 0)) w45 fun v31_78 w46 =>
  X Try.prog (Instr.fieldAt 87 v31_78 2) w46 fun v32_79 w47 =>
  X Try.prog (Instr.loadAt 85 v32_79) w47 fun v33_80 w48 =>
  XU Try.prog (Instr.mapUpdate 85 v33_80 (ρ4 1) (ρ4 8)) w48 fun w49 =>
  X Try.prog (nilS (ρ4 0)) w49 fun v34_85 w50 =>
  X Try.prog (Instr.fieldAt 87 v34_85 1) w50 fun v35_86 w51 =>
  X Try.prog (Instr.loadAt 35 v35_86) w51 fun v36_87 w52 =>
  X Try.prog (Instr.buildSlice 35 1 #[(0, (ρ4 1))]) w52 fun v37_89 w53 =>
  X Try.prog (Builtin.append_ #[35, 35] 35 #[v36_87, v37_89]) w53 fun v38_90 w54 =>
  X Try.prog (nilS (ρ4 0)) w54 fun v39_91 w55 =>
  X Try.prog (Instr.fieldAt 87 v39_91 1) w55 fun v40_92 w56 =>
  XU Try.prog (Instr.storeAt 35 v40_92 v38_90) w56 fun w57 =>
  K (.tuple #[]) w57) (retS Try.prog (Try.f20).results K))) (upds ρ1 [(58, (.int .i64 0)), (57, v14_57), (56, (ρ1 2)), (8, v13_55), (55, v13_55), (54, v12_54), (53, (ρ1 2))]) w23) fun J1 =>
  ∃ R, Frame? R ∧
  XP Try.prog (nilS x0) (drewW w19) fun v41_28 w58 =>
  XP Try.prog (Instr.fieldAt 87 v41_28 1) w58 fun v42_29 w59 =>
  XR Try.prog R (Instr.loadAt 35 v42_29) w59 fun v43_30 w60 =>
  XP Try.prog (Builtin.len_ #[35] 3 #[v43_30]) w60 fun v44_31 w61 =>
  XP Try.prog (nilS x0) w61 fun v45_33 w62 =>
  XP Try.prog (Instr.fieldAt 87 v45_33 0) w62 fun v46_34 w63 =>
  XR Try.prog R (Instr.loadAt 3 v46_34) w63 fun v47_35 w64 =>
  XP Try.prog (binOpG .eql 3 (.tmp 31) (.tmp 35) v44_31 v47_35) w64 fun v48_36 w65 =>
  condS v48_36 (
  ∃ R, Frame? R ∧
  XP Try.prog (nilS x0) (drewW w65) fun v49_39 w66 =>
  XP Try.prog (Instr.fieldAt 87 v49_39 1) w66 fun v50_40 w67 =>
  XR Try.prog R (Instr.loadAt 35 v50_40) w67 fun v51_41 w68 =>
  XP Try.prog (nilS x0) w68 fun v52_44 w69 =>
  XP Try.prog (Instr.fieldAt 87 v52_44 1) w69 fun v53_45 w70 =>
  XR Try.prog R (Instr.loadAt 35 v53_45) w70 fun v54_46 w71 =>
  XP Try.prog (Builtin.len_ #[35] 3 #[v54_46]) w71 fun v55_47 w72 =>
  XR Try.prog R (convert 3 30 v55_47) w72 fun v56_48 w73 =>
  XP Try.prog (binOp .rem 30 x3 v56_48) w73 fun v57_49 w74 =>
  XP Try.prog (Instr.indexAt 35 v51_41 v57_49) w74 fun v58_50 w75 =>
  XR Try.prog R (Instr.loadAt 3 v58_50) w75 fun v59_51 w76 =>
  CALL Try.prog 19 #[x0, v59_51] w76 fun v60_52 w77 =>
  R w76 w77 ∧
  J1 (upds (env0 #[x0, x1, x2, x3]) [(52, v60_52), (51, v59_51), (50, v58_50), (49, v57_49), (48, v56_48), (47, v55_47), (46, v54_46), (45, v53_45), (44, v52_44), (43, x0), (42, x3), (41, v51_41), (40, v50_40), (39, v49_39), (38, x0), (37, x0), (36, v48_36), (35, v47_35), (34, v46_34), (33, v45_33), (32, x0), (31, v44_31), (30, v43_30), (29, v42_29), (28, v41_28), (27, x0), (26, v11_26), (25, v10_25), (24, v9_24), (23, v8_23), (22, v7_21), (21, v7_21), (20, v6_20), (19, v5_19), (18, v4_18), (17, v3_17), (16, v2_16), (15, v1_14), (14, v1_14), (13, x0)]) w77) (
  J1 (upds (env0 #[x0, x1, x2, x3]) [(36, v48_36), (35, v47_35), (34, v46_34), (33, v45_33), (32, x0), (31, v44_31), (30, v43_30), (29, v42_29), (28, v41_28), (27, x0), (26, v11_26), (25, v10_25), (24, v9_24), (23, v8_23), (22, v7_21), (21, v7_21), (20, v6_20), (19, v5_19), (18, v4_18), (17, v3_17), (16, v2_16), (15, v1_14), (14, v1_14), (13, x0)]) w65))

theorem eq_cache_Cache_Load (x0 x1 x2 x3 : Value) (w : World) (K : Value → World → Prop) :
    sh Try.prog (Try.f20.body.getD .skip) (retS Try.prog Try.f20.results K) (env0 #[x0, x1, x2, x3]) w = B_cache_Cache_Load x0 x1 x2 x3 w K := by kernel_rfl

theorem call_cache_Cache_Load (x0 x1 x2 x3 : Value) (w : World) (K : Value → World → Prop) (h : B_cache_Cache_Load x0 x1 x2 x3 w K) : CALL Try.prog 20 #[x0, x1, x2, x3] w K :=
  call_of_eq (c := Try.f20.body.getD .skip) mixed Try.func20 (by kernel_rfl) (by kernel_rfl) (by kernel_rfl) (Nat.le_of_ble_eq_true (by kernel_rfl)) (eq_cache_Cache_Load x0 x1 x2 x3 w K) h

/-- (*cellarage/cache.Cache).Shelves -/
def B_cache_Cache_Shelves (x0 : Value) (w : World) (K : Value → World → Prop) : Prop :=
  X Try.prog (binOpG .eql 24 (.tmp 3) (.const (.pointer none)) x0 (.pointer none)) w fun v1_4 w1 =>
  condS v1_4 (
  K (.slice none 0 0) w1) (
  X Try.prog (nilS x0) w1 fun v2_6 w2 =>
  X Try.prog (Instr.fieldAt 87 v2_6 1) w2 fun v3_7 w3 =>
  X Try.prog (Instr.loadAt 35 v3_7) w3 fun v4_8 w4 =>
  CALL Try.prog 48 #[v4_8] w4 fun v5_9 w5 =>
  K v5_9 w5)

theorem eq_cache_Cache_Shelves (x0 : Value) (w : World) (K : Value → World → Prop) :
    sh Try.prog (Try.f21.body.getD .skip) (retS Try.prog Try.f21.results K) (env0 #[x0]) w = B_cache_Cache_Shelves x0 w K := by kernel_rfl

theorem call_cache_Cache_Shelves (x0 : Value) (w : World) (K : Value → World → Prop) (h : B_cache_Cache_Shelves x0 w K) : CALL Try.prog 21 #[x0] w K :=
  call_of_eq (c := Try.f21.body.getD .skip) mixed Try.func21 (by kernel_rfl) (by kernel_rfl) (by kernel_rfl) (Nat.le_of_ble_eq_true (by kernel_rfl)) (eq_cache_Cache_Shelves x0 w K) h

/-- cellarage/cellarageref09.SameInts -/
def B_ref09_SameInts (x0 x1 : Value) (w : World) (K : Value → World → Prop) : Prop :=
  X Try.prog (Builtin.len_ #[35] 3 #[x0]) w fun v1_7 w1 =>
  X Try.prog (Builtin.len_ #[35] 3 #[x1]) w1 fun v2_9 w2 =>
  X Try.prog (binOpG .neq 3 (.tmp 7) (.tmp 9) v1_7 v2_9) w2 fun v3_10 w3 =>
  condS v3_10 (
  K (.bool false) w3) (
  loopS (fun Q1 ρ1 w4 =>
  X Try.prog (Builtin.len_ #[35] 3 #[(ρ1 0)]) w4 fun v4_13 w5 =>
  X Try.prog (binOp .lss 3 (ρ1 5) v4_13) w5 fun v5_14 w6 =>
  condS v5_14 (
  ∃ R, Frame? R ∧
  XP Try.prog (Instr.indexAt 35 (ρ1 0) (ρ1 5)) (drewW w6) fun v6_19 w7 =>
  XR Try.prog R (Instr.loadAt 3 v6_19) w7 fun v7_20 w8 =>
  XP Try.prog (Instr.indexAt 35 (ρ1 1) (ρ1 5)) w8 fun v8_23 w9 =>
  XR Try.prog R (Instr.loadAt 3 v8_23) w9 fun v9_24 w10 =>
  XP Try.prog (binOpG .neq 3 (.tmp 20) (.tmp 24) v7_20 v9_24) w10 fun v10_25 w11 =>
  condS v10_25 (
  Q1 .ret (upds ρ1 [(4, (.bool false)), (25, v10_25), (24, v9_24), (23, v8_23), (22, (ρ1 5)), (21, (ρ1 1)), (20, v7_20), (19, v6_19), (18, (ρ1 5)), (17, (ρ1 0)), (14, v5_14), (13, v4_13), (12, (ρ1 0)), (11, (ρ1 5))]) w11) (
  X Try.prog (binOp .add 3 (ρ1 5) (.int .i64 1)) w11 fun v11_16 w12 =>
  Q1 .normal (upds ρ1 [(5, v11_16), (16, v11_16), (15, (ρ1 5)), (25, v10_25), (24, v9_24), (23, v8_23), (22, (ρ1 5)), (21, (ρ1 1)), (20, v7_20), (19, v6_19), (18, (ρ1 5)), (17, (ρ1 0)), (14, v5_14), (13, v4_13), (12, (ρ1 0)), (11, (ρ1 5))]) w12)) (
  Q1 (.exit 0) (upds ρ1 [(14, v5_14), (13, v4_13), (12, (ρ1 0)), (11, (ρ1 5))]) w6)) (inBlockS 0 (thenS (fun ρ2 w13 =>
  K (.bool true) w13) (retS Try.prog (Try.f22).results K))) (upds (env0 #[x0, x1]) [(5, (.int .i64 0)), (10, v3_10), (9, v2_9), (8, x1), (7, v1_7), (6, x0), (4, (.bool false))]) w3)

theorem eq_ref09_SameInts (x0 x1 : Value) (w : World) (K : Value → World → Prop) :
    sh Try.prog (Try.f22.body.getD .skip) (retS Try.prog Try.f22.results K) (env0 #[x0, x1]) w = B_ref09_SameInts x0 x1 w K := by kernel_rfl

theorem call_ref09_SameInts (x0 x1 : Value) (w : World) (K : Value → World → Prop) (h : B_ref09_SameInts x0 x1 w K) : CALL Try.prog 22 #[x0, x1] w K :=
  call_of_eq (c := Try.f22.body.getD .skip) mixed Try.func22 (by kernel_rfl) (by kernel_rfl) (by kernel_rfl) (Nat.le_of_ble_eq_true (by kernel_rfl)) (eq_ref09_SameInts x0 x1 w K) h

/-- (*cellarage/cellarageref14.Cache).Drop -/
def B_ref14_Cache_Drop (x0 x1 : Value) (w : World) (K : Value → World → Prop) : Prop :=
  CALL Try.prog 49 #[x0, x1] w fun v1_8 w1 =>
  X Try.prog (binOp .lss 3 v1_8 (.int .i64 0)) w1 fun v2_10 w2 =>
  condS v2_10 (
  K (.bool false) w2) (
  CALL Try.prog 50 #[x0, v1_8] w2 fun v3_13 w3 =>
  K (.bool true) w3)

theorem eq_ref14_Cache_Drop (x0 x1 : Value) (w : World) (K : Value → World → Prop) :
    sh Try.prog (Try.f23.body.getD .skip) (retS Try.prog Try.f23.results K) (env0 #[x0, x1]) w = B_ref14_Cache_Drop x0 x1 w K := by kernel_rfl

theorem call_ref14_Cache_Drop (x0 x1 : Value) (w : World) (K : Value → World → Prop) (h : B_ref14_Cache_Drop x0 x1 w K) : CALL Try.prog 23 #[x0, x1] w K :=
  call_of_eq (c := Try.f23.body.getD .skip) mixed Try.func23 (by kernel_rfl) (by kernel_rfl) (by kernel_rfl) (Nat.le_of_ble_eq_true (by kernel_rfl)) (eq_ref14_Cache_Drop x0 x1 w K) h

/-- (*cellarage/cellarageref14.Cache).Load -/
def B_ref14_Cache_Load (x0 x1 x2 x3 : Value) (w : World) (K : Value → World → Prop) : Prop :=
  X Try.prog (nilS x0) w fun v1_9 w1 =>
  X Try.prog (Instr.fieldAt 52 v1_9 1) w1 fun v2_10 w2 =>
  X Try.prog (Instr.loadAt 3 v2_10) w2 fun v3_11 w3 =>
  X Try.prog (binOpG .eql 3 (.tmp 11) (.const (.int .i64 0)) v3_11 (.int .i64 0)) w3 fun v4_12 w4 =>
  gstep v4_12 false (fun w5 K => K x0 w5) w4 fun v5_14 w6 =>
  gstep v4_12 false (fun w7 K => K x1 w7) w6 fun v6_15 w8 =>
  gstep v4_12 false (fun w9 K => CALL Try.prog 49 #[v5_14, v6_15] w9 K) w8 fun v7_16 w10 =>
  gstep v4_12 false (fun w11 K => X Try.prog (binOp .geq 3 v7_16 (.int .i64 0)) w11 K) w10 fun v8_17 w12 =>
  X Try.prog (pickS v4_12 (.bool true) v8_17) w12 fun v9_18 w13 =>
  condS v9_18 (
  K (.tuple #[]) w13) (
  joinS (fun ρ1 w14 =>
  ∃ R, Frame? R ∧
  XP Try.prog (nilS (ρ1 0)) (drewW w14) fun v10_42 w15 =>
  XP Try.prog (Instr.fieldAt 52 v10_42 0) w15 fun v11_43 w16 =>
  XR Try.prog R (Instr.loadAt 50 v11_43) w16 fun v12_44 w17 =>
  X Try.prog (Instr.buildSlice 29 0 #[]) w17 fun v13_46 w18 =>
  R w17 w18 ∧
  X Try.prog (Builtin.append_ #[29, 29] 29 #[v13_46, (ρ1 2)]) w18 fun v14_48 w19 =>
  R w18 w19 ∧
  XP Try.prog (Instr.build 96 #[(0, (ρ1 1)), (1, v14_48)]) w19 fun v15_49 w20 =>
  X Try.prog (Instr.buildSlice 50 1 #[(0, v15_49)]) w20 fun v16_50 w21 =>
  R w20 w21 ∧
  X Try.prog (Builtin.append_ #[50, 50] 50 #[v12_44, v16_50]) w21 fun v17_51 w22 =>
  XP Try.prog (nilS (ρ1 0)) w22 fun v18_52 w23 =>
  XP Try.prog (Instr.fieldAt 52 v18_52 0) w23 fun v19_53 w24 =>
  XU Try.prog (Instr.storeAt 50 v19_53 v17_51) w24 fun w25 =>
  K (.tuple #[]) w25) fun J1 =>
  ∃ R, Frame? R ∧
  XP Try.prog (nilS x0) (drewW w13) fun v20_20 w26 =>
  XP Try.prog (Instr.fieldAt 52 v20_20 0) w26 fun v21_21 w27 =>
  XR Try.prog R (Instr.loadAt 50 v21_21) w27 fun v22_22 w28 =>
  XP Try.prog (Builtin.len_ #[50] 3 #[v22_22]) w28 fun v23_23 w29 =>
  XP Try.prog (nilS x0) w29 fun v24_25 w30 =>
  XP Try.prog (Instr.fieldAt 52 v24_25 1) w30 fun v25_26 w31 =>
  XR Try.prog R (Instr.loadAt 3 v25_26) w31 fun v26_27 w32 =>
  XP Try.prog (binOpG .eql 3 (.tmp 23) (.tmp 27) v23_23 v26_27) w32 fun v27_28 w33 =>
  condS v27_28 (
  X Try.prog (nilS x0) w33 fun v28_32 w34 =>
  X Try.prog (Instr.fieldAt 52 v28_32 0) w34 fun v29_33 w35 =>
  X Try.prog (Instr.loadAt 50 v29_33) w35 fun v30_34 w36 =>
  X Try.prog (Builtin.len_ #[50] 3 #[v30_34]) w36 fun v31_35 w37 =>
  X Try.prog (convert 3 30 v31_35) w37 fun v32_36 w38 =>
  X Try.prog (binOp .rem 30 x3 v32_36) w38 fun v33_37 w39 =>
  X Try.prog (convert 30 3 v33_37) w39 fun v34_38 w40 =>
  CALL Try.prog 50 #[x0, v34_38] w40 fun v35_39 w41 =>
  J1 (upds (env0 #[x0, x1, x2, x3]) [(39, v35_39), (38, v34_38), (37, v33_37), (36, v32_36), (35, v31_35), (34, v30_34), (33, v29_33), (32, v28_32), (31, x0), (30, x3), (29, x0), (28, v27_28), (27, v26_27), (26, v25_26), (25, v24_25), (24, x0), (23, v23_23), (22, v22_22), (21, v21_21), (20, v20_20), (19, x0), (18, v9_18), (17, v8_17), (16, v7_16), (15, v6_15), (14, v5_14), (13, v4_12), (12, v4_12), (11, v3_11), (10, v2_10), (9, v1_9), (8, x0)]) w41) (
  J1 (upds (env0 #[x0, x1, x2, x3]) [(28, v27_28), (27, v26_27), (26, v25_26), (25, v24_25), (24, x0), (23, v23_23), (22, v22_22), (21, v21_21), (20, v20_20), (19, x0), (18, v9_18), (17, v8_17), (16, v7_16), (15, v6_15), (14, v5_14), (13, v4_12), (12, v4_12), (11, v3_11), (10, v2_10), (9, v1_9), (8, x0)]) w33))

theorem eq_ref14_Cache_Load (x0 x1 x2 x3 : Value) (w : World) (K : Value → World → Prop) :
    sh Try.prog (Try.f24.body.getD .skip) (retS Try.prog Try.f24.results K) (env0 #[x0, x1, x2, x3]) w = B_ref14_Cache_Load x0 x1 x2 x3 w K := by kernel_rfl

theorem call_ref14_Cache_Load (x0 x1 x2 x3 : Value) (w : World) (K : Value → World → Prop) (h : B_ref14_Cache_Load x0 x1 x2 x3 w K) : CALL Try.prog 24 #[x0, x1, x2, x3] w K :=
  call_of_eq (c := Try.f24.body.getD .skip) mixed Try.func24 (by kernel_rfl) (by kernel_rfl) (by kernel_rfl) (Nat.le_of_ble_eq_true (by kernel_rfl)) (eq_ref14_Cache_Load x0 x1 x2 x3 w K) h

/-- (*cellarage/cache.Cache).Get -/
def B_cache_Cache_Get (x0 x1 : Value) (w : World) (K : Value → World → Prop) : Prop :=
  X Try.prog (Instr.box 44 x1) w fun v1_3 w1 =>
  X Try.prog (Instr.alloc 46 true (.tuple #[])) w1 fun v2_4 w2 =>
  X Try.prog (binOpG .eql 24 (.tmp 10) (.const (.pointer none)) x0 (.pointer none)) w2 fun v3_11 w3 =>
  condS v3_11 (
  X Try.prog (Instr.build 46 #[]) w3 fun v4_12 w4 =>
  XU Try.prog (Instr.storeAt 46 v2_4 v4_12) w4 fun w5 =>
  resC Try.prog 46 v2_4 w5 fun r0 =>
  K (.tuple #[r0, (.bool false)]) w5) (
  X Try.prog (nilS x0) w3 fun v5_14 w6 =>
  X Try.prog (Instr.fieldAt 87 v5_14 1) w6 fun v6_15 w7 =>
  X Try.prog (Instr.loadAt 35 v6_15) w7 fun v7_16 w8 =>
  X Try.prog (Builtin.len_ #[35] 3 #[v7_16]) w8 fun v8_17 w9 =>
  loopS (fun Q1 ρ1 w10 =>
  X Try.prog (binOp .lss 3 (ρ1 18) (ρ1 17)) w10 fun v9_19 w11 =>
  condS v9_19 (
  X Try.prog (Instr.indexAt 35 (ρ1 16) (ρ1 18)) w11 fun v10_20 w12 =>
  X Try.prog (Instr.loadAt 3 v10_20) w12 fun v11_21 w13 =>
  ∃ R, Frame? R ∧
  XP Try.prog (nilS (ρ1 0)) (drewW w13) fun v12_24 w14 =>
  XP Try.prog (Instr.fieldAt 87 v12_24 2) w14 fun v13_25 w15 =>
  XR Try.prog R (Instr.loadAt 85 v13_25) w15 fun v14_26 w16 =>
  XR Try.prog R (Instr.lookup 85 v14_26 v11_21 false) w16 fun v15_28 w17 =>
  XR Try.prog R (Instr.loadAt 44 (ρ1 3)) w17 fun v16_29 w18 =>
  XR Try.prog R (Instr.lookup 88 v15_28 v16_29 true) w18 fun v17_30 w19 =>
  XP Try.prog (Instr.extract v17_30 0) w19 fun v18_31 w20 =>
  XP Try.prog (Instr.extract v17_30 1) w20 fun v19_32 w21 =>
  X Try.prog (Instr.alloc 46 true (.tuple #[])) w21 fun v20_8 w22 =>
  R w21 w22 ∧
  XU Try.prog (Instr.storeAt 46 v20_8 v18_31) w22 fun w23 =>
  condS v19_32 (
  X Try.prog (Instr.loadAt 46 v20_8) w23 fun v21_34 w24 =>
  XU Try.prog (Instr.storeAt 46 (ρ1 4) v21_34) w24 fun w25 =>
  Q1 .ret (upds ρ1 [(5, (.bool true)), (34, v21_34), (33, v19_32), (9, v19_32), (8, v20_8), (32, v19_32), (31, v18_31), (22, v17_30), (30, v17_30), (29, v16_29), (28, v15_28), (27, v11_21), (26, v14_26), (25, v13_25), (24, v12_24), (23, (ρ1 0)), (7, v11_21), (21, v11_21), (20, v10_20), (19, v9_19)]) w25) (
  X Try.prog (binOp .add 3 (ρ1 18) (.int .i64 1)) w23 fun v22_35 w26 =>
  Q1 .normal (upds ρ1 [(18, v22_35), (35, v22_35), (33, v19_32), (9, v19_32), (8, v20_8), (32, v19_32), (31, v18_31), (22, v17_30), (30, v17_30), (29, v16_29), (28, v15_28), (27, v11_21), (26, v14_26), (25, v13_25), (24, v12_24), (23, (ρ1 0)), (7, v11_21), (21, v11_21), (20, v10_20), (19, v9_19)]) w26)) (
  Q1 (.exit 0) (upds ρ1 [(19, v9_19)]) w11)) (inBlockS 0 (thenS (fun ρ2 w27 =>
  X Try.prog (Instr.build 46 #[]) w27 fun v23_36 w28 =>
  XU Try.prog (Instr.storeAt 46 (ρ2 4) v23_36) w28 fun w29 =>
  resC Try.prog 46 (ρ2 4) w29 fun r0 =>
  K (.tuple #[r0, (.bool false)]) w29) (retS Try.prog (Try.f25).results K))) (upds (env0 #[x0, x1]) [(18, (.int .i64 0)), (17, v8_17), (16, v7_16), (15, v6_15), (14, v5_14), (13, x0), (11, v3_11), (10, x0), (5, (.bool false)), (4, v2_4), (3, v1_3)]) w9)

theorem eq_cache_Cache_Get (x0 x1 : Value) (w : World) (K : Value → World → Prop) :
    sh Try.prog (Try.f25.body.getD .skip) (retS Try.prog Try.f25.results K) (env0 #[x0, x1]) w = B_cache_Cache_Get x0 x1 w K := by kernel_rfl

theorem call_cache_Cache_Get (x0 x1 : Value) (w : World) (K : Value → World → Prop) (h : B_cache_Cache_Get x0 x1 w K) : CALL Try.prog 25 #[x0, x1] w K :=
  call_of_eq (c := Try.f25.body.getD .skip) mixed Try.func25 (by kernel_rfl) (by kernel_rfl) (by kernel_rfl) (Nat.le_of_ble_eq_true (by kernel_rfl)) (eq_cache_Cache_Get x0 x1 w K) h

/-- (*cellarage/cellarageref14.Cache).Get -/
def B_ref14_Cache_Get (x0 x1 : Value) (w : World) (K : Value → World → Prop) : Prop :=
  X Try.prog (Instr.box 44 x1) w fun v1_3 w1 =>
  X Try.prog (Instr.alloc 46 true (.tuple #[])) w1 fun v2_4 w2 =>
  loopS (fun Q1 ρ1 w3 =>
  X Try.prog (nilS (ρ1 0)) w3 fun v3_10 w4 =>
  X Try.prog (Instr.fieldAt 52 v3_10 0) w4 fun v4_11 w5 =>
  X Try.prog (Instr.loadAt 50 v4_11) w5 fun v5_12 w6 =>
  X Try.prog (Builtin.len_ #[50] 3 #[v5_12]) w6 fun v6_13 w7 =>
  X Try.prog (binOp .lss 3 (ρ1 6) v6_13) w7 fun v7_14 w8 =>
  condS v7_14 (
  loopS (fun Q2 ρ2 w9 =>
  X Try.prog (nilS (ρ2 0)) w9 fun v8_19 w10 =>
  X Try.prog (Instr.fieldAt 52 v8_19 0) w10 fun v9_20 w11 =>
  X Try.prog (Instr.loadAt 50 v9_20) w11 fun v10_21 w12 =>
  X Try.prog (Instr.indexAt 50 v10_21 (ρ2 6)) w12 fun v11_23 w13 =>
  X Try.prog (Instr.fieldAt 96 v11_23 1) w13 fun v12_24 w14 =>
  X Try.prog (Instr.loadAt 29 v12_24) w14 fun v13_25 w15 =>
  X Try.prog (Builtin.len_ #[29] 3 #[v13_25]) w15 fun v14_26 w16 =>
  X Try.prog (binOp .lss 3 (ρ2 7) v14_26) w16 fun v15_27 w17 =>
  condS v15_27 (
  ∃ R, Frame? R ∧
  XP Try.prog (nilS (ρ2 0)) (drewW w17) fun v16_31 w18 =>
  XP Try.prog (Instr.fieldAt 52 v16_31 0) w18 fun v17_32 w19 =>
  XR Try.prog R (Instr.loadAt 50 v17_32) w19 fun v18_33 w20 =>
  XP Try.prog (Instr.indexAt 50 v18_33 (ρ2 6)) w20 fun v19_35 w21 =>
  XP Try.prog (Instr.fieldAt 96 v19_35 1) w21 fun v20_36 w22 =>
  XR Try.prog R (Instr.loadAt 29 v20_36) w22 fun v21_37 w23 =>
  XP Try.prog (Instr.indexAt 29 v21_37 (ρ2 7)) w23 fun v22_39 w24 =>
  XP Try.prog (Instr.fieldAt 48 v22_39 0) w24 fun v23_40 w25 =>
  XR Try.prog R (Instr.loadAt 44 v23_40) w25 fun v24_41 w26 =>
  XR Try.prog R (Instr.loadAt 44 (ρ2 3)) w26 fun v25_42 w27 =>
  XP Try.prog (binOpG .eql 44 (.tmp 41) (.tmp 42) v24_41 v25_42) w27 fun v26_43 w28 =>
  condS v26_43 (
  X Try.prog (nilS (ρ2 0)) w28 fun v27_45 w29 =>
  X Try.prog (Instr.fieldAt 52 v27_45 0) w29 fun v28_46 w30 =>
  X Try.prog (Instr.loadAt 50 v28_46) w30 fun v29_47 w31 =>
  X Try.prog (Instr.indexAt 50 v29_47 (ρ2 6)) w31 fun v30_49 w32 =>
  X Try.prog (Instr.fieldAt 96 v30_49 1) w32 fun v31_50 w33 =>
  X Try.prog (Instr.loadAt 29 v31_50) w33 fun v32_51 w34 =>
  X Try.prog (Instr.indexAt 29 v32_51 (ρ2 7)) w34 fun v33_53 w35 =>
  X Try.prog (Instr.fieldAt 48 v33_53 1) w35 fun v34_54 w36 =>
  X Try.prog (Instr.loadAt 46 v34_54) w36 fun v35_55 w37 =>
  XU Try.prog (Instr.storeAt 46 (ρ2 4) v35_55) w37 fun w38 =>
  Q2 .ret (upds ρ2 [(5, (.bool true)), (55, v35_55), (54, v34_54), (53, v33_53), (52, (ρ2 7)), (51, v32_51), (50, v31_50), (49, v30_49), (48, (ρ2 6)), (47, v29_47), (46, v28_46), (45, v27_45), (44, (ρ2 0)), (43, v26_43), (42, v25_42), (41, v24_41), (40, v23_40), (39, v22_39), (38, (ρ2 7)), (37, v21_37), (36, v20_36), (35, v19_35), (34, (ρ2 6)), (33, v18_33), (32, v17_32), (31, v16_31), (30, (ρ2 0)), (27, v15_27), (26, v14_26), (25, v13_25), (24, v12_24), (23, v11_23), (22, (ρ2 6)), (21, v10_21), (20, v9_20), (19, v8_19), (18, (ρ2 0)), (17, (ρ2 7))]) w38) (
  X Try.prog (binOp .add 3 (ρ2 7) (.int .i64 1)) w28 fun v36_29 w39 =>
  Q2 .normal (upds ρ2 [(7, v36_29), (29, v36_29), (28, (ρ2 7)), (43, v26_43), (42, v25_42), (41, v24_41), (40, v23_40), (39, v22_39), (38, (ρ2 7)), (37, v21_37), (36, v20_36), (35, v19_35), (34, (ρ2 6)), (33, v18_33), (32, v17_32), (31, v16_31), (30, (ρ2 0)), (27, v15_27), (26, v14_26), (25, v13_25), (24, v12_24), (23, v11_23), (22, (ρ2 6)), (21, v10_21), (20, v9_20), (19, v8_19), (18, (ρ2 0)), (17, (ρ2 7))]) w39)) (
  Q2 (.exit 2) (upds ρ2 [(27, v15_27), (26, v14_26), (25, v13_25), (24, v12_24), (23, v11_23), (22, (ρ2 6)), (21, v10_21), (20, v9_20), (19, v8_19), (18, (ρ2 0)), (17, (ρ2 7))]) w17)) (inBlockS 2 (inBlockS 1 (thenS (fun ρ3 w40 =>
  X Try.prog (binOp .add 3 (ρ3 6) (.int .i64 1)) w40 fun v37_16 w41 =>
  Q1 .normal (upds ρ3 [(6, v37_16), (16, v37_16), (15, (ρ3 6))]) w41) Q1))) (upds ρ1 [(7, (.int .i64 0)), (14, v7_14), (13, v6_13), (12, v5_12), (11, v4_11), (10, v3_10), (9, (ρ1 0)), (8, (ρ1 6))]) w8) (
  Q1 (.exit 0) (upds ρ1 [(14, v7_14), (13, v6_13), (12, v5_12), (11, v4_11), (10, v3_10), (9, (ρ1 0)), (8, (ρ1 6))]) w8)) (inBlockS 0 (thenS (fun ρ4 w42 =>
  X Try.prog (Instr.build 46 #[]) w42 fun v38_56 w43 =>
  XU Try.prog (Instr.storeAt 46 (ρ4 4) v38_56) w43 fun w44 =>
  resC Try.prog 46 (ρ4 4) w44 fun r0 =>
  K (.tuple #[r0, (.bool false)]) w44) (retS Try.prog (Try.f26).results K))) (upds (env0 #[x0, x1]) [(6, (.int .i64 0)), (5, (.bool false)), (4, v2_4), (3, v1_3)]) w2

theorem eq_ref14_Cache_Get (x0 x1 : Value) (w : World) (K : Value → World → Prop) :
    sh Try.prog (Try.f26.body.getD .skip) (retS Try.prog Try.f26.results K) (env0 #[x0, x1]) w = B_ref14_Cache_Get x0 x1 w K := by kernel_rfl

theorem call_ref14_Cache_Get (x0 x1 : Value) (w : World) (K : Value → World → Prop) (h : B_ref14_Cache_Get x0 x1 w K) : CALL Try.prog 26 #[x0, x1] w K :=
  call_of_eq (c := Try.f26.body.getD .skip) mixed Try.func26 (by kernel_rfl) (by kernel_rfl) (by kernel_rfl) (Nat.le_of_ble_eq_true (by kernel_rfl)) (eq_ref14_Cache_Get x0 x1 w K) h

/-- (*cellarage/cellarageref14.Cache).Shelves -/
def B_ref14_Cache_Shelves (x0 : Value) (w : World) (K : Value → World → Prop) : Prop :=
  loopS (fun Q1 ρ1 w1 =>
  X Try.prog (nilS (ρ1 0)) w1 fun v1_7 w2 =>
  X Try.prog (Instr.fieldAt 52 v1_7 0) w2 fun v2_8 w3 =>
  X Try.prog (Instr.loadAt 50 v2_8) w3 fun v3_9 w4 =>
  X Try.prog (Builtin.len_ #[50] 3 #[v3_9]) w4 fun v4_10 w5 =>
  X Try.prog (binOp .lss 3 (ρ1 4) v4_10) w5 fun v5_11 w6 =>
  condS v5_11 (
  X Try.prog (nilS (ρ1 0)) w6 fun v6_16 w7 =>
  X Try.prog (Instr.fieldAt 52 v6_16 0) w7 fun v7_17 w8 =>
  X Try.prog (Instr.loadAt 50 v7_17) w8 fun v8_18 w9 =>
  X Try.prog (Instr.indexAt 50 v8_18 (ρ1 4)) w9 fun v9_20 w10 =>
  X Try.prog (Instr.fieldAt 96 v9_20 0) w10 fun v10_21 w11 =>
  X Try.prog (Instr.loadAt 3 v10_21) w11 fun v11_22 w12 =>
  X Try.prog (Instr.buildSlice 35 1 #[(0, v11_22)]) w12 fun v12_23 w13 =>
  X Try.prog (Builtin.append_ #[35, 35] 35 #[(ρ1 3), v12_23]) w13 fun v13_24 w14 =>
  X Try.prog (binOp .add 3 (ρ1 4) (.int .i64 1)) w14 fun v14_13 w15 =>
  Q1 .normal (upds ρ1 [(4, v14_13), (13, v14_13), (12, (ρ1 4)), (3, v13_24), (24, v13_24), (23, v12_23), (22, v11_22), (21, v10_21), (20, v9_20), (19, (ρ1 4)), (18, v8_18), (17, v7_17), (16, v6_16), (15, (ρ1 0)), (14, (ρ1 3)), (11, v5_11), (10, v4_10), (9, v3_9), (8, v2_8), (7, v1_7), (6, (ρ1 0)), (5, (ρ1 4))]) w15) (
  Q1 (.exit 0) (upds ρ1 [(11, v5_11), (10, v4_10), (9, v3_9), (8, v2_8), (7, v1_7), (6, (ρ1 0)), (5, (ρ1 4))]) w6)) (inBlockS 0 (thenS (fun ρ2 w16 =>
  K (ρ2 3) w16) (retS Try.prog (Try.f27).results K))) (upds (env0 #[x0]) [(4, (.int .i64 0)), (3, (.slice none 0 0)), (2, (.slice none 0 0))]) w

theorem eq_ref14_Cache_Shelves (x0 : Value) (w : World) (K : Value → World → Prop) :
    sh Try.prog (Try.f27.body.getD .skip) (retS Try.prog Try.f27.results K) (env0 #[x0]) w = B_ref14_Cache_Shelves x0 w K := by kernel_rfl

theorem call_ref14_Cache_Shelves (x0 : Value) (w : World) (K : Value → World → Prop) (h : B_ref14_Cache_Shelves x0 w K) : CALL Try.prog 27 #[x0] w K :=
  call_of_eq (c := Try.f27.body.getD .skip) mixed Try.func27 (by kernel_rfl) (by kernel_rfl) (by kernel_rfl) (Nat.le_of_ble_eq_true (by kernel_rfl)) (eq_ref14_Cache_Shelves x0 w K) h

/-- slices.Index[[]int,int] -/
def B_slices_Index_int (x0 x1 : Value) (w : World) (K : Value → World → Prop) : Prop :=
  X Try.prog (Builtin.len_ #[35] 3 #[x0]) w fun v1_7 w1 =>
  loopS (fun Q1 ρ1 w2 =>
  X Try.prog (binOp .lss 3 (ρ1 8) (ρ1 7)) w2 fun v2_9 w3 =>
  condS v2_9 (
  X Try.prog (Instr.indexAt 35 (ρ1 0) (ρ1 8)) w3 fun v3_14 w4 =>
  X Try.prog (Instr.loadAt 3 v3_14) w4 fun v4_15 w5 =>
  X Try.prog (binOpG .eql 3 (.tmp 11) (.tmp 15) (ρ1 1) v4_15) w5 fun v5_16 w6 =>
  condS v5_16 (
  Q1 .ret (upds ρ1 [(4, (ρ1 8)), (17, (ρ1 8)), (16, v5_16), (15, v4_15), (14, v3_14), (13, (ρ1 8)), (12, (ρ1 0)), (11, (ρ1 1)), (5, (ρ1 8)), (10, (ρ1 8)), (9, v2_9)]) w6) (
  X Try.prog (binOp .add 3 (ρ1 8) (.int .i64 1)) w6 fun v6_18 w7 =>
  Q1 .normal (upds ρ1 [(8, v6_18), (18, v6_18), (16, v5_16), (15, v4_15), (14, v3_14), (13, (ρ1 8)), (12, (ρ1 0)), (11, (ρ1 1)), (5, (ρ1 8)), (10, (ρ1 8)), (9, v2_9)]) w7)) (
  Q1 (.exit 0) (upds ρ1 [(9, v2_9)]) w3)) (inBlockS 0 (thenS (fun ρ2 w8 =>
  K (.int .i64 (-1)) w8) (retS Try.prog (Try.f46).results K))) (upds (env0 #[x0, x1]) [(8, (.int .i64 0)), (7, v1_7), (6, x0), (4, (.int .i64 0))]) w1

theorem eq_slices_Index_int (x0 x1 : Value) (w : World) (K : Value → World → Prop) :
    sh Try.prog (Try.f46.body.getD .skip) (retS Try.prog Try.f46.results K) (env0 #[x0, x1]) w = B_slices_Index_int x0 x1 w K := by kernel_rfl

theorem call_slices_Index_int (x0 x1 : Value) (w : World) (K : Value → World → Prop) (h : B_slices_Index_int x0 x1 w K) : CALL Try.prog 46 #[x0, x1] w K :=
  call_of_eq (c := Try.f46.body.getD .skip) mixed Try.func46 (by kernel_rfl) (by kernel_rfl) (by kernel_rfl) (Nat.le_of_ble_eq_true (by kernel_rfl)) (eq_slices_Index_int x0 x1 w K) h

/-- slices.Delete[[]int,int] -/
def B_slices_Delete_int (x0 x1 x2 : Value) (w : World) (K : Value → World → Prop) : Prop :=
  X Try.prog (Builtin.len_ #[35] 3 #[x0]) w fun v1_12 w1 =>
  X Try.prog (Instr.sliceAt 35 x0 (some x1) (some x2) (some v1_12)) w1 fun v2_13 w2 =>
  X Try.prog (binOpG .eql 3 (.tmp 14) (.tmp 15) x1 x2) w2 fun v3_16 w3 =>
  condS v3_16 (
  K x0 w3) (
  X Try.prog (Builtin.len_ #[35] 3 #[x0]) w3 fun v4_19 w4 =>
  ∃ R, Frame? R ∧
  XP Try.prog (Instr.sliceAt 35 x0 none (some x1) none) (drewW w4) fun v5_22 w5 =>
  XP Try.prog (Instr.sliceAt 35 x0 (some x2) none none) w5 fun v6_25 w6 =>
  X Try.prog (Builtin.append_ #[35, 35] 35 #[v5_22, v6_25]) w6 fun v7_26 w7 =>
  X Try.prog (Builtin.len_ #[35] 3 #[v7_26]) w7 fun v8_29 w8 =>
  X Try.prog (Instr.sliceAt 35 v7_26 (some v8_29) (some v4_19) none) w8 fun v9_31 w9 =>
  X Try.prog (Builtin.clear_ #[35] 0 #[v9_31]) w9 fun _ w10 =>
  K v7_26 w10)

theorem eq_slices_Delete_int (x0 x1 x2 : Value) (w : World) (K : Value → World → Prop) :
    sh Try.prog (Try.f47.body.getD .skip) (retS Try.prog Try.f47.results K) (env0 #[x0, x1, x2]) w = B_slices_Delete_int x0 x1 x2 w K := by kernel_rfl

theorem call_slices_Delete_int (x0 x1 x2 : Value) (w : World) (K : Value → World → Prop) (h : B_slices_Delete_int x0 x1 x2 w K) : CALL Try.prog 47 #[x0, x1, x2] w K :=
  call_of_eq (c := Try.f47.body.getD .skip) mixed Try.func47 (by kernel_rfl) (by kernel_rfl) (by kernel_rfl) (Nat.le_of_ble_eq_true (by kernel_rfl)) (eq_slices_Delete_int x0 x1 x2 w K) h

/-- slices.Clone[[]int,int] -/
def B_slices_Clone_int (x0 : Value) (w : World) (K : Value → World → Prop) : Prop :=
  X Try.prog (binOpG .eql 35 (.tmp 3) (.const (.slice none 0 0)) x0 (.slice none 0 0)) w fun v1_4 w1 =>
  condS v1_4 (
  K (.slice none 0 0) w1) (
  X Try.prog (Instr.buildSlice 35 0 #[]) w1 fun v2_5 w2 =>
  X Try.prog (Builtin.append_ #[35, 35] 35 #[v2_5, x0]) w2 fun v3_7 w3 =>
  K v3_7 w3)

theorem eq_slices_Clone_int (x0 : Value) (w : World) (K : Value → World → Prop) :
    sh Try.prog (Try.f48.body.getD .skip) (retS Try.prog Try.f48.results K) (env0 #[x0]) w = B_slices_Clone_int x0 w K := by kernel_rfl

theorem call_slices_Clone_int (x0 : Value) (w : World) (K : Value → World → Prop) (h : B_slices_Clone_int x0 w K) : CALL Try.prog 48 #[x0] w K :=
  call_of_eq (c := Try.f48.body.getD .skip) mixed Try.func48 (by kernel_rfl) (by kernel_rfl) (by kernel_rfl) (Nat.le_of_ble_eq_true (by kernel_rfl)) (eq_slices_Clone_int x0 w K) h

/-- (*cellarage/cellarageref14.Cache).at -/
def B_ref14_Cache_at (x0 x1 : Value) (w : World) (K : Value → World → Prop) : Prop :=
  loopS (fun Q1 ρ1 w1 =>
  X Try.prog (nilS (ρ1 0)) w1 fun v1_8 w2 =>
  X Try.prog (Instr.fieldAt 52 v1_8 0) w2 fun v2_9 w3 =>
  X Try.prog (Instr.loadAt 50 v2_9) w3 fun v3_10 w4 =>
  X Try.prog (Builtin.len_ #[50] 3 #[v3_10]) w4 fun v4_11 w5 =>
  X Try.prog (binOp .lss 3 (ρ1 5) v4_11) w5 fun v5_12 w6 =>
  condS v5_12 (
  X Try.prog (nilS (ρ1 0)) w6 fun v6_16 w7 =>
  X Try.prog (Instr.fieldAt 52 v6_16 0) w7 fun v7_17 w8 =>
  X Try.prog (Instr.loadAt 50 v7_17) w8 fun v8_18 w9 =>
  X Try.prog (Instr.indexAt 50 v8_18 (ρ1 5)) w9 fun v9_20 w10 =>
  X Try.prog (Instr.fieldAt 96 v9_20 0) w10 fun v10_21 w11 =>
  X Try.prog (Instr.loadAt 3 v10_21) w11 fun v11_22 w12 =>
  X Try.prog (binOpG .eql 3 (.tmp 22) (.tmp 23) v11_22 (ρ1 1)) w12 fun v12_24 w13 =>
  condS v12_24 (
  Q1 .ret (upds ρ1 [(4, (ρ1 5)), (25, (ρ1 5)), (24, v12_24), (23, (ρ1 1)), (22, v11_22), (21, v10_21), (20, v9_20), (19, (ρ1 5)), (18, v8_18), (17, v7_17), (16, v6_16), (15, (ρ1 0)), (12, v5_12), (11, v4_11), (10, v3_10), (9, v2_9), (8, v1_8), (7, (ρ1 0)), (6, (ρ1 5))]) w13) (
  X Try.prog (binOp .add 3 (ρ1 5) (.int .i64 1)) w13 fun v13_14 w14 =>
  Q1 .normal (upds ρ1 [(5, v13_14), (14, v13_14), (13, (ρ1 5)), (24, v12_24), (23, (ρ1 1)), (22, v11_22), (21, v10_21), (20, v9_20), (19, (ρ1 5)), (18, v8_18), (17, v7_17), (16, v6_16), (15, (ρ1 0)), (12, v5_12), (11, v4_11), (10, v3_10), (9, v2_9), (8, v1_8), (7, (ρ1 0)), (6, (ρ1 5))]) w14)) (
  Q1 (.exit 0) (upds ρ1 [(12, v5_12), (11, v4_11), (10, v3_10), (9, v2_9), (8, v1_8), (7, (ρ1 0)), (6, (ρ1 5))]) w6)) (inBlockS 0 (thenS (fun ρ2 w15 =>
  K (.int .i64 (-1)) w15) (retS Try.prog (Try.f49).results K))) (upds (env0 #[x0, x1]) [(5, (.int .i64 0)), (4, (.int .i64 0))]) w

theorem eq_ref14_Cache_at (x0 x1 : Value) (w : World) (K : Value → World → Prop) :
    sh Try.prog (Try.f49.body.getD .skip) (retS Try.prog Try.f49.results K) (env0 #[x0, x1]) w = B_ref14_Cache_at x0 x1 w K := by kernel_rfl

theorem call_ref14_Cache_at (x0 x1 : Value) (w : World) (K : Value → World → Prop) (h : B_ref14_Cache_at x0 x1 w K) : CALL Try.prog 49 #[x0, x1] w K :=
  call_of_eq (c := Try.f49.body.getD .skip) mixed Try.func49 (by kernel_rfl) (by kernel_rfl) (by kernel_rfl) (Nat.le_of_ble_eq_true (by kernel_rfl)) (eq_ref14_Cache_at x0 x1 w K) h

/-- (*cellarage/cellarageref14.Cache).cut -/
def B_ref14_Cache_cut (x0 x1 : Value) (w : World) (K : Value → World → Prop) : Prop :=
  X Try.prog (Instr.buildSlice 50 0 #[]) w fun v1_5 w1 =>
  X Try.prog (nilS x0) w1 fun v2_7 w2 =>
  X Try.prog (Instr.fieldAt 52 v2_7 0) w2 fun v3_8 w3 =>
  X Try.prog (Instr.loadAt 50 v3_8) w3 fun v4_9 w4 =>
  X Try.prog (Instr.sliceAt 50 v4_9 none (some x1) none) w4 fun v5_11 w5 =>
  X Try.prog (Builtin.append_ #[50, 50] 50 #[v1_5, v5_11]) w5 fun v6_12 w6 =>
  X Try.prog (nilS x0) w6 fun v7_16 w7 =>
  X Try.prog (Instr.fieldAt 52 v7_16 0) w7 fun v8_17 w8 =>
  X Try.prog (Instr.loadAt 50 v8_17) w8 fun v9_18 w9 =>
  X Try.prog (binOp .add 3 x1 (.int .i64 1)) w9 fun v10_20 w10 =>
  X Try.prog (Instr.sliceAt 50 v9_18 (some v10_20) none none) w10 fun v11_21 w11 =>
  X Try.prog (Builtin.append_ #[50, 50] 50 #[v6_12, v11_21]) w11 fun v12_22 w12 =>
  X Try.prog (nilS x0) w12 fun v13_23 w13 =>
  X Try.prog (Instr.fieldAt 52 v13_23 0) w13 fun v14_24 w14 =>
  XU Try.prog (Instr.storeAt 50 v14_24 v12_22) w14 fun w15 =>
  K (.tuple #[]) w15

theorem eq_ref14_Cache_cut (x0 x1 : Value) (w : World) (K : Value → World → Prop) :
    sh Try.prog (Try.f50.body.getD .skip) (retS Try.prog Try.f50.results K) (env0 #[x0, x1]) w = B_ref14_Cache_cut x0 x1 w K := by kernel_rfl

theorem call_ref14_Cache_cut (x0 x1 : Value) (w : World) (K : Value → World → Prop) (h : B_ref14_Cache_cut x0 x1 w K) : CALL Try.prog 50 #[x0, x1] w K :=
  call_of_eq (c := Try.f50.body.getD .skip) mixed Try.func50 (by kernel_rfl) (by kernel_rfl) (by kernel_rfl) (Nat.le_of_ble_eq_true (by kernel_rfl)) (eq_ref14_Cache_cut x0 x1 w K) h

end Go.Proofs.Ytlnkdphecinnnaa
end
