/- Part 5 of what the law is proved with: Ext2 Ext3 Ext4 Ext5 Ext6 Ext7 Ext8 Ext9 Ext11 Ext12 T34 Ext13 Ext10 Ext14. -/
import Derived.Test.YtlnkdphecinnnaaQEC4
section
/- Extents: compared, built; the reference's right and total. -/
set_option linter.unusedVariables false
set_option linter.unusedSimpArgs false
namespace Go.Proofs.Ytlnkdphecinnnaa
open Go Go.Sh Go.RowKit
attribute [local irreducible] X XU XP XR CALL loopS resC closS
theorem eqFields_three {P : Program} {d : Nat} {xs ys : Array Value} {f0 f1 f2 : Field} {w : World} {x0 y0 x1 y1 x2 y2 : Value} {r0 r1 r2 : Bool} (n0 : f0.name ≠ "_") (n1 : f1.name ≠ "_") (n2 : f2.name ≠ "_")
    (hx0 : (part f0.type xs f0.offset).run P w = .ok x0 w) (hy0 : (part f0.type ys f0.offset).run P w = .ok y0 w) (hx1 : (part f1.type xs f1.offset).run P w = .ok x1 w) (hy1 : (part f1.type ys f1.offset).run P w = .ok y1 w)
    (hx2 : (part f2.type xs f2.offset).run P w = .ok x2 w) (hy2 : (part f2.type ys f2.offset).run P w = .ok y2 w)
    (q0 : (Op.equalIn d f0.type x0 y0).run P w = .ok r0 w) (q1 : (Op.equalIn d f1.type x1 y1).run P w = .ok r1 w) (q2 : (Op.equalIn d f2.type x2 y2).run P w = .ok r2 w) : (Op.eqFields d xs ys [f0, f1, f2]).run P w = .ok (r0 && (r1 && r2)) w := by
  cases r0 <;> cases r1 <;> cases r2 <;> simp [Op.eqFields, n0, n1, n2, hx0, hy0, hx1, hy1, hx2, hy2, q0, q1, q2]
theorem Ex.ext' {a b : Ex} (h1 : a.k = b.k) (h2 : a.off = b.off) (h3 : a.len = b.len) : a = b := by
  cases a; cases b; simp at h1 h2 h3; subst h1; subst h2; subst h3; rfl
instance : DecidableEq Ex := fun a b => if h1 : a.k = b.k then if h2 : a.off = b.off then if h3 : a.len = b.len then isTrue (Ex.ext' h1 h2 h3) else isFalse (fun h => h3 (by rw [h])) else isFalse (fun h => h2 (by rw [h])) else isFalse (fun h => h1 (by rw [h]))
theorem fields72 : (Try.prog.fieldsOf 72).toList = [{ name := "Key", type := 44, offset := 0, embedded := false, tag := "", pkgPath := "", byteOffset := 0 }, { name := "Off", type := 3, offset := 33, embedded := false, tag := "", pkgPath := "", byteOffset := 40 }, { name := "Len", type := 3, offset := 34, embedded := false, tag := "", pkgPath := "", byteOffset := 48 }] := by kernel_rfl
theorem struct72 : Try.prog.underlying 72 = some (.struct (Try.prog.fieldsOf 72)) := by kernel_rfl
theorem held72 : Try.prog.stoodInHeld 72 = false := by kernel_rfl
theorem guard72 : Try.prog.eqGuardType Try.prog.depth 72 = false := by kernel_rfl
theorem Ex.cs_take (e : Ex) : e.cs.take 33 = e.k.cs := by
  unfold Ex.cs
  rw [List.take_append_of_le_length (by simp [Ky.cs_len]), List.take_of_length_le (by simp [Ky.cs_len])]
theorem part_key (e : Ex) (w : World) : (part 44 e.cs.toArray 0).run Try.prog w = .ok e.k.v w := by
  rw [part_agg Try.underlying44 agg_44 info_44, sz_44]
  have : e.cs.toArray.extract 0 (0 + 33) = e.k.cs.toArray := by
    apply Array.ext'
    simp [Ex.cs_take]
  rw [this]
theorem part_off (e : Ex) (w : World) : (part 3 e.cs.toArray 33).run Try.prog w = .ok (.int .i64 e.off) w := part_cell agg_3 (by simpa using e.offAt) w
theorem part_len (e : Ex) (w : World) : (part 3 e.cs.toArray 34).run Try.prog w = .ok (.int .i64 e.len) w := part_cell agg_3 (by simpa using e.lenAt) w
theorem key_equal9 (a b : Ky) (w : World) : (Op.equalIn 9999 44 a.v b.v).run Try.prog w = .ok (decide (a = b)) w := by
  rw [show (9999 : Nat) = 9998 + 1 from rfl, run_equalIn_struct w 9998 44 _ _ struct44 held44, fields44, ky_dec]
  refine eqFields_two (by decide) (by decide) (part_sum a w) (part_sum b w) (part_num a w) (part_num b w) ?_ ?_
  · rw [show (9998 : Nat) = 9997 + 1 from rfl, run_equalIn_array w 9997 _ _ Try.underlying41 inf5, cel5, List.range_eq_range']
    have := eqItems_bytes (P := Try.prog) 9996 Try.underlying5 agg_5 a.sum b.sum (by rw [a.len, b.len]) w 32 0 (by rw [a.len])
    simpa using this
  · have bz : ((a.num : Int) == (b.num : Int)) = decide (a.num = b.num) := by
      rw [Bool.eq_iff_iff]; simp; omega
    have := run_equalIn_int (P := Try.prog) w 9997 42 .u32 .u32 (a.num : Int) (b.num : Int) Try.underlying42
    rw [bz] at this
    exact this
theorem int_equal9 (a b : Int) (w : World) : (Op.equalIn 9999 3 (.int .i64 a) (.int .i64 b)).run Try.prog w = .ok (decide (a = b)) w := by
  have bz : (a == b) = decide (a = b) := by
    rw [Bool.eq_iff_iff]; simp
  have := run_equalIn_int (P := Try.prog) w 9998 3 .i64 .i64 a b Try.underlying3
  rw [bz] at this
  exact this
theorem ex_dec (a b : Ex) : decide (a = b) = (decide (a.k = b.k) && (decide (a.off = b.off) && decide (a.len = b.len))) := by
  rw [← Bool.decide_and, ← Bool.decide_and]
  exact decide_eq_decide.2 ⟨fun h => by rw [h]; exact ⟨rfl, rfl, rfl⟩, fun h => Ex.ext' h.1 h.2.1 h.2.2⟩
theorem ext_equal (a b : Ex) (w : World) : (Op.equalIn 10000 72 (.agg a.cs.toArray) (.agg b.cs.toArray)).run Try.prog w = .ok (decide (a = b)) w := by
  have e1 : (Op.equalIn (9999 + 1) 72 (.agg a.cs.toArray) (.agg b.cs.toArray)).run Try.prog w = (Op.eqFields 9999 a.cs.toArray b.cs.toArray (Try.prog.fieldsOf 72).toList).run Try.prog w := run_equalIn_struct w 9999 72 _ _ struct72 held72
  have e2 : (Op.equalIn 10000 72 (.agg a.cs.toArray) (.agg b.cs.toArray)).run Try.prog w = (Op.eqFields 9999 a.cs.toArray b.cs.toArray (Try.prog.fieldsOf 72).toList).run Try.prog w := e1
  rw [e2, fields72, ex_dec]
  exact eqFields_three (by decide) (by decide) (by decide) (part_key a w) (part_key b w) (part_off a w) (part_off b w) (part_len a w) (part_len b w) (key_equal9 a.k b.k w) (int_equal9 a.off b.off w) (int_equal9 a.len b.len w)
theorem run_ext_neq (a b : Ex) (o1 o2 : Operand) (w : World) : (binOpG .neq 72 o1 o2 (.agg a.cs.toArray) (.agg b.cs.toArray)).run Try.prog w = .ok (.bool (decide (a ≠ b))) w := by
  rw [agg_neq guard72 o1 o2 (ext_equal a b w)]
  simp
section
variable {w : World} {K : Value → World → Prop}
theorem SameE_spec {va vb : Value} {l : List Ex} (ha : RowK 35 Ex.cs w va l) (hb : RowK 35 Ex.cs w vb l) (hn : l.length ≤ 1000000000) (hK : ∀ w1, Ext w w1 → K (.bool true) w1) : CALL Try.prog 29 #[va, vb] w K := by
  obtain ⟨aa, ca, ea⟩ := ha.slice
  obtain ⟨ab, cb, eb⟩ := hb.slice
  apply call_ref16_Same
  unfold B_ref16_Same
  rw [ea, eb]
  have c : decide ((l.length : Int) ≠ (l.length : Int)) = false := by simp
  (repeat (simp only [XP_extract0, XP_extract1, XP_extract2, XP_extract3, X_extract0, X_extract1, X_extract2, X_extract3, X_nilS, X_eql_nil_24, X_neq_nil_24, X_eql_nil_103, X_neq_nil_103, X_eql, X_neq, X_lss, X_leq, X_gtr, X_geq, X_not, X_min, X_max, X_len_79, X_len_35, XP_nilS, XP_eql, XP_neq, XP_lss, XP_leq, XP_gtr, XP_geq, XP_not, XP_min, XP_max, XP_len_79, XP_eql_nil_24, X_str_eql, X_str_neq, XP_str_eql, XP_str_neq, GS, gs_u, decide_true, decide_false, Option.isNone_some, Option.isSome_some, Option.isNone_none, Option.isSome_none, eq_self, Bool.not_true, Bool.not_false, Int.reduceEq, Int.reduceNe, Int.reduceLT, Int.reduceLE, Int.reduceGT, Int.reduceGE, X_len_59, c]))
  rw [← ea, ← eb]
  refine loopE (fun ρ wr => ∃ i : Nat, i ≤ l.length ∧ Ext w wr ∧ ρ 5 = .int .i64 (i : Int) ∧ ρ 0 = va ∧ ρ 1 = vb)
    (fun ρ wr => match ρ 5 with | .int _ s => (l.length - s).toNat | _ => 0)
    (fun ρ wr => Ext w wr) ?_ ?_ ?_
  · exact ⟨0, by omega, Keep.refl _ _, rfl, rfl, rfl⟩
  · rintro J hJ ρ wr ⟨i, hi, hx, r5, r0, r1⟩
    rw [r0, r5, ea, X_len_59, X_lss, condS_bool, ← ea]
    by_cases hie : i = l.length
    · rw [if_neg (by simp; omega)]
      exact hJ _ _ hx
    rw [if_pos (by simp; omega), r1]
    have hlt : i < l.length := by omega
    have hxd := hx.trans (Keep.drew (fun _ => False) wr)
    obtain ⟨g, o, hix, hc⟩ := ext_at (ha.ext hxd) hlt
    obtain ⟨g2, o2, hix2, hc2⟩ := ext_at (hb.ext hxd) hlt
    refine ⟨Ext, Ext.frame, ?_⟩
    generalize drewW wr = wd at hxd hc hc2 ⊢
    refine XP_of hix ?_
    refine XR_ok Ext.frame (fun w' kk => run_ext (fun j u hu => kk.cell (fun h => h) (hc j u hu))) ?_
    refine XP_of hix2 ?_
    refine XR_ok Ext.frame (fun w' kk => run_ext (fun j u hu => kk.cell (fun h => h) (hc2 j u hu))) ?_
    refine XP_of (fun w' => run_ext_neq _ _ _ _ w') ?_
    rw [condS_bool, if_neg (by simp), X_add]
    show _ ∧ _
    refine ⟨⟨i + 1, by omega, hxd, next64 (n := 1000000000) (by decide) (by omega), r0, r1⟩, ?_⟩
    show (_ - IntKind.i64.wrap _).toNat < _
    rw [w64 (by omega) (by omega)]
    first | omega | (show _ < (_ : Int).toNat; omega)
  · rintro ρ wr hx
    exact hK wr hx
/-- The first of a row's items. -/
theorem rowK_take {α : Type} {k : Nat} {f : α → List Value} {v : Value} {l : List α} (h : RowK k f w v l) (n : Nat) (hn : n ≤ l.length) : ∃ a c, v = .slice a l.length c ∧ l.length ≤ c ∧ RowK k f w (.slice (if c = 0 then a else a.map (·.add 0)) n c) (l.take n) := by
  obtain ⟨a, c, rfl, h1, h2, h3⟩ := h
  have hlen : (l.take n).length = n := by rw [List.length_take]; omega
  refine ⟨a, c, rfl, h1, ?_⟩
  rw [map_add0]
  refine ⟨a, c, by rw [hlen], by omega, h2, fun h0 => ?_⟩
  rw [hlen] at h0
  obtain ⟨ad, rfl, hc⟩ := h3 (by omega)
  refine ⟨ad, rfl, fun j x hx => hc j x ?_⟩
  rw [List.getElem?_take] at hx
  split at hx
  · exact hx
  · cases hx
theorem Few_spec {v : Value} {l : List Ex} (hl : RowK 35 Ex.cs w v l) (hK : ∀ u, RowK 35 Ex.cs w u (l.take 500) → K u w) : CALL Try.prog 31 #[v] w K := by
  apply call_law16_few
  unfold B_law16_few
  by_cases h : l.length ≤ 500
  · obtain ⟨a, c, rfl, hc, ht⟩ := rowK_take hl l.length (Nat.le_refl _)
    rw [X_len_59, X_min]
    have e : min (l.length : Int) 500 = ((l.length : Nat) : Int) := by omega
    rw [e]
    refine X_of (run_slice_hi Try.underlying59 info_72 a _ c .i64 l.length (by omega) w) ?_
    have e2 : l.take 500 = l.take l.length := by rw [List.take_of_length_le h, List.take_length]
    refine hK _ ?_
    rw [e2]
    exact ht
  · obtain ⟨a, c, rfl, hc, ht⟩ := rowK_take hl 500 (by omega)
    rw [X_len_59, X_min]
    have e : min (l.length : Int) 500 = ((500 : Nat) : Int) := by omega
    rw [e]
    refine X_of (run_slice_hi Try.underlying59 info_72 a _ c .i64 500 (by omega) w) ?_
    exact hK _ ht
set_option maxHeartbeats 1000000 in
theorem RRight_spec {v : Value} {l : List Ex} (hl : RowK 35 Ex.cs w v l) (hK : ∀ w1, Ext w w1 → K (.bool (decide (RightP l))) w1) : CALL Try.prog 37 #[v] w K := by
  obtain ⟨a, c, ev⟩ := hl.slice
  have no : ¬ RightP l → ∀ w1, Ext w w1 → K (.bool false) w1 := fun h w1 hx => by have := hK w1 hx; rwa [decide_eq_false h] at this
  apply call_ref16_Right
  unfold B_ref16_Right
  rw [ev, X_len_59, X_gtr, ← ev]
  by_cases h : l.length ≤ 16384
  case neg =>
    have c : decide ((l.length : Int) > 16384) = true := by simp; omega
    (repeat (simp only [XP_extract0, XP_extract1, XP_extract2, XP_extract3, X_extract0, X_extract1, X_extract2, X_extract3, X_nilS, X_eql_nil_24, X_neq_nil_24, X_eql_nil_103, X_neq_nil_103, X_eql, X_neq, X_lss, X_leq, X_gtr, X_geq, X_not, X_min, X_max, X_len_79, X_len_35, XP_nilS, XP_eql, XP_neq, XP_lss, XP_leq, XP_gtr, XP_geq, XP_not, XP_min, XP_max, XP_len_79, XP_eql_nil_24, X_str_eql, X_str_neq, XP_str_eql, XP_str_neq, GS, gs_u, decide_true, decide_false, Option.isNone_some, Option.isSome_some, Option.isNone_none, Option.isSome_none, eq_self, Bool.not_true, Bool.not_false, Int.reduceEq, Int.reduceNe, Int.reduceLT, Int.reduceLE, Int.reduceGT, Int.reduceGE, c]))
    exact no (fun h' => h h'.1) w (Keep.refl _ _)
  have c : decide ((l.length : Int) > 16384) = false := by simp; omega
  (repeat (simp only [XP_extract0, XP_extract1, XP_extract2, XP_extract3, X_extract0, X_extract1, X_extract2, X_extract3, X_nilS, X_eql_nil_24, X_neq_nil_24, X_eql_nil_103, X_neq_nil_103, X_eql, X_neq, X_lss, X_leq, X_gtr, X_geq, X_not, X_min, X_max, X_len_79, X_len_35, XP_nilS, XP_eql, XP_neq, XP_lss, XP_leq, XP_gtr, XP_geq, XP_not, XP_min, XP_max, XP_len_79, XP_eql_nil_24, X_str_eql, X_str_neq, XP_str_eql, XP_str_neq, GS, gs_u, decide_true, decide_false, Option.isNone_some, Option.isSome_some, Option.isNone_none, Option.isSome_none, eq_self, Bool.not_true, Bool.not_false, Int.reduceEq, Int.reduceNe, Int.reduceLT, Int.reduceLE, Int.reduceGT, Int.reduceGE, c]))
  refine loopE (fun ρ wr => ∃ i : Nat, i ≤ l.length ∧ Ext w wr ∧ (∀ e ∈ l.take i, right1 e) ∧ ρ 3 = .int .i64 (i : Int) ∧ ρ 0 = v)
    (fun ρ wr => match ρ 3 with | .int _ s => (l.length - s).toNat | _ => 0)
    (fun ρ wr => Ext w wr ∧ RightP l) ?_ ?_ ?_
  · exact ⟨0, by omega, Keep.refl _ _, by simp, rfl, rfl⟩
  · rintro J hJ ρ wr ⟨i, hi, hx, hr, r3, r0⟩
    rw [r0, r3, ev, X_len_59, X_lss, condS_bool, ← ev]
    by_cases hie : i = l.length
    · rw [if_neg (by simp; omega)]
      rw [hie, List.take_of_length_le (Nat.le_refl _)] at hr
      exact hJ _ _ ⟨hx, h, hr⟩
    rw [if_pos (by simp; omega)]
    have hlt : i < l.length := by omega
    have hxd := hx.trans (Keep.drew (fun _ => False) wr)
    obtain ⟨g, o, hix, hc⟩ := ext_at (hl.ext hxd) hlt
    refine ⟨Ext, Ext.frame, ?_⟩
    generalize drewW wr = wd at hxd hc ⊢
    have hoff : ∀ w', Ext wd w' → (Instr.loadAt 3 (.pointer (some ⟨g, o + 33, none⟩))).run Try.prog w' = .ok (.int .i64 l[i].off) w' := fun w' kk => run_loadAt agg_3 (kk.cell (fun h => h) (hc 33 _ l[i].offAt))
    have hlen : ∀ w', Ext wd w' → (Instr.loadAt 3 (.pointer (some ⟨g, o + 34, none⟩))).run Try.prog w' = .ok (.int .i64 l[i].len) w' := fun w' kk => run_loadAt agg_3 (kk.cell (fun h => h) (hc 34 _ l[i].lenAt))
    have hmem := List.getElem_mem hlt
    have hs := List.take_succ_eq_append_getElem hlt
    generalize l[i] = e at hoff hlen hmem hs
    have bad : ¬ right1 e → K (.bool false) wd := fun h => no (fun h' => h (h'.2 e hmem)) wd hxd
    have b1 := e.o1
    have b2 := e.o2
    have b3 := e.l1
    have b4 := e.l2
    refine XP_of hix ?_
    rw [XP_field_72_1]
    refine XR_ok Ext.frame hoff ?_
    rw [XP_lss]
    by_cases h1 : e.off < 0
    · have c : decide (e.off < 0) = true := by simpa using h1
      (repeat (simp only [XP_extract0, XP_extract1, XP_extract2, XP_extract3, X_extract0, X_extract1, X_extract2, X_extract3, X_nilS, X_eql_nil_24, X_neq_nil_24, X_eql_nil_103, X_neq_nil_103, X_eql, X_neq, X_lss, X_leq, X_gtr, X_geq, X_not, X_min, X_max, X_len_79, X_len_35, XP_nilS, XP_eql, XP_neq, XP_lss, XP_leq, XP_gtr, XP_geq, XP_not, XP_min, XP_max, XP_len_79, XP_eql_nil_24, X_str_eql, X_str_neq, XP_str_eql, XP_str_neq, GS, gs_u, decide_true, decide_false, Option.isNone_some, Option.isSome_some, Option.isNone_none, Option.isSome_none, eq_self, Bool.not_true, Bool.not_false, Int.reduceEq, Int.reduceNe, Int.reduceLT, Int.reduceLE, Int.reduceGT, Int.reduceGE, c]))
      exact bad (fun h => by have := h.1; omega)
    have c : decide (e.off < 0) = false := by simpa using h1
    (repeat (simp only [XP_extract0, XP_extract1, XP_extract2, XP_extract3, X_extract0, X_extract1, X_extract2, X_extract3, X_nilS, X_eql_nil_24, X_neq_nil_24, X_eql_nil_103, X_neq_nil_103, X_eql, X_neq, X_lss, X_leq, X_gtr, X_geq, X_not, X_min, X_max, X_len_79, X_len_35, XP_nilS, XP_eql, XP_neq, XP_lss, XP_leq, XP_gtr, XP_geq, XP_not, XP_min, XP_max, XP_len_79, XP_eql_nil_24, X_str_eql, X_str_neq, XP_str_eql, XP_str_neq, GS, gs_u, decide_true, decide_false, Option.isNone_some, Option.isSome_some, Option.isNone_none, Option.isSome_none, eq_self, Bool.not_true, Bool.not_false, Int.reduceEq, Int.reduceNe, Int.reduceLT, Int.reduceLE, Int.reduceGT, Int.reduceGE, c]))
    refine XP_of hix ?_
    rw [XP_field_72_2]
    refine XR_ok Ext.frame hlen ?_
    rw [XP_lss]
    by_cases h2 : e.len < 1
    · have c : decide (e.len < 1) = true := by simpa using h2
      (repeat (simp only [XP_extract0, XP_extract1, XP_extract2, XP_extract3, X_extract0, X_extract1, X_extract2, X_extract3, X_nilS, X_eql_nil_24, X_neq_nil_24, X_eql_nil_103, X_neq_nil_103, X_eql, X_neq, X_lss, X_leq, X_gtr, X_geq, X_not, X_min, X_max, X_len_79, X_len_35, XP_nilS, XP_eql, XP_neq, XP_lss, XP_leq, XP_gtr, XP_geq, XP_not, XP_min, XP_max, XP_len_79, XP_eql_nil_24, X_str_eql, X_str_neq, XP_str_eql, XP_str_neq, GS, gs_u, decide_true, decide_false, Option.isNone_some, Option.isSome_some, Option.isNone_none, Option.isSome_none, eq_self, Bool.not_true, Bool.not_false, Int.reduceEq, Int.reduceNe, Int.reduceLT, Int.reduceLE, Int.reduceGT, Int.reduceGE, c]))
      exact bad (fun h => by have := h.2.1; omega)
    have c : decide (e.len < 1) = false := by simpa using h2
    (repeat (simp only [XP_extract0, XP_extract1, XP_extract2, XP_extract3, X_extract0, X_extract1, X_extract2, X_extract3, X_nilS, X_eql_nil_24, X_neq_nil_24, X_eql_nil_103, X_neq_nil_103, X_eql, X_neq, X_lss, X_leq, X_gtr, X_geq, X_not, X_min, X_max, X_len_79, X_len_35, XP_nilS, XP_eql, XP_neq, XP_lss, XP_leq, XP_gtr, XP_geq, XP_not, XP_min, XP_max, XP_len_79, XP_eql_nil_24, X_str_eql, X_str_neq, XP_str_eql, XP_str_neq, GS, gs_u, decide_true, decide_false, Option.isNone_some, Option.isSome_some, Option.isNone_none, Option.isSome_none, eq_self, Bool.not_true, Bool.not_false, Int.reduceEq, Int.reduceNe, Int.reduceLT, Int.reduceLE, Int.reduceGT, Int.reduceGE, c]))
    refine XP_of hix ?_
    rw [XP_field_72_2]
    refine XR_ok Ext.frame hlen ?_
    rw [XP_gtr]
    by_cases h3 : e.len > 4096
    · have c : decide (e.len > 4096) = true := by simpa using h3
      (repeat (simp only [XP_extract0, XP_extract1, XP_extract2, XP_extract3, X_extract0, X_extract1, X_extract2, X_extract3, X_nilS, X_eql_nil_24, X_neq_nil_24, X_eql_nil_103, X_neq_nil_103, X_eql, X_neq, X_lss, X_leq, X_gtr, X_geq, X_not, X_min, X_max, X_len_79, X_len_35, XP_nilS, XP_eql, XP_neq, XP_lss, XP_leq, XP_gtr, XP_geq, XP_not, XP_min, XP_max, XP_len_79, XP_eql_nil_24, X_str_eql, X_str_neq, XP_str_eql, XP_str_neq, GS, gs_u, decide_true, decide_false, Option.isNone_some, Option.isSome_some, Option.isNone_none, Option.isSome_none, eq_self, Bool.not_true, Bool.not_false, Int.reduceEq, Int.reduceNe, Int.reduceLT, Int.reduceLE, Int.reduceGT, Int.reduceGE, c]))
      exact bad (fun h => by have h5 := h.2.2.2; have h6 := h.1; omega)
    have c : decide (e.len > 4096) = false := by simpa using h3
    (repeat (simp only [XP_extract0, XP_extract1, XP_extract2, XP_extract3, X_extract0, X_extract1, X_extract2, X_extract3, X_nilS, X_eql_nil_24, X_neq_nil_24, X_eql_nil_103, X_neq_nil_103, X_eql, X_neq, X_lss, X_leq, X_gtr, X_geq, X_not, X_min, X_max, X_len_79, X_len_35, XP_nilS, XP_eql, XP_neq, XP_lss, XP_leq, XP_gtr, XP_geq, XP_not, XP_min, XP_max, XP_len_79, XP_eql_nil_24, X_str_eql, X_str_neq, XP_str_eql, XP_str_neq, GS, gs_u, decide_true, decide_false, Option.isNone_some, Option.isSome_some, Option.isNone_none, Option.isSome_none, eq_self, Bool.not_true, Bool.not_false, Int.reduceEq, Int.reduceNe, Int.reduceLT, Int.reduceLE, Int.reduceGT, Int.reduceGE, c]))
    refine XP_of hix ?_
    rw [XP_field_72_1]
    refine XR_ok Ext.frame hoff ?_
    refine XP_of hix ?_
    rw [XP_field_72_2]
    refine XR_ok Ext.frame hlen ?_
    rw [XP_sub, w64 (by omega) (by omega), XP_gtr]
    by_cases h4 : e.off > 4096 - e.len
    · have c : decide (e.off > 4096 - e.len) = true := by simpa using h4
      (repeat (simp only [XP_extract0, XP_extract1, XP_extract2, XP_extract3, X_extract0, X_extract1, X_extract2, X_extract3, X_nilS, X_eql_nil_24, X_neq_nil_24, X_eql_nil_103, X_neq_nil_103, X_eql, X_neq, X_lss, X_leq, X_gtr, X_geq, X_not, X_min, X_max, X_len_79, X_len_35, XP_nilS, XP_eql, XP_neq, XP_lss, XP_leq, XP_gtr, XP_geq, XP_not, XP_min, XP_max, XP_len_79, XP_eql_nil_24, X_str_eql, X_str_neq, XP_str_eql, XP_str_neq, GS, gs_u, decide_true, decide_false, Option.isNone_some, Option.isSome_some, Option.isNone_none, Option.isSome_none, eq_self, Bool.not_true, Bool.not_false, Int.reduceEq, Int.reduceNe, Int.reduceLT, Int.reduceLE, Int.reduceGT, Int.reduceGE, c]))
      exact bad (fun h => by have h5 := h.2.2.2; omega)
    have c : decide (e.off > 4096 - e.len) = false := by simpa using h4
    (repeat (simp only [XP_extract0, XP_extract1, XP_extract2, XP_extract3, X_extract0, X_extract1, X_extract2, X_extract3, X_nilS, X_eql_nil_24, X_neq_nil_24, X_eql_nil_103, X_neq_nil_103, X_eql, X_neq, X_lss, X_leq, X_gtr, X_geq, X_not, X_min, X_max, X_len_79, X_len_35, XP_nilS, XP_eql, XP_neq, XP_lss, XP_leq, XP_gtr, XP_geq, XP_not, XP_min, XP_max, XP_len_79, XP_eql_nil_24, X_str_eql, X_str_neq, XP_str_eql, XP_str_neq, GS, gs_u, decide_true, decide_false, Option.isNone_some, Option.isSome_some, Option.isNone_none, Option.isSome_none, eq_self, Bool.not_true, Bool.not_false, Int.reduceEq, Int.reduceNe, Int.reduceLT, Int.reduceLE, Int.reduceGT, Int.reduceGE, c]))
    rw [X_add]
    show _ ∧ _
    refine ⟨⟨i + 1, by omega, hxd, ?_, next64 (n := 1000000000) (by decide) (by omega), r0⟩, ?_⟩
    · rw [hs]
      intro z hz
      rcases List.mem_append.1 hz with hz | hz
      · exact hr z hz
      · rw [List.mem_singleton.1 hz]
        unfold right1
        omega
    · show (_ - IntKind.i64.wrap _).toNat < _
      rw [w64 (by omega) (by omega)]
      first | omega | (show _ < (_ : Int).toNat; omega)
  · rintro ρ wr ⟨hx, hr⟩
    have := hK wr hx
    rw [decide_eq_true hr] at this
    exact this
theorem RTotal_spec {v : Value} {l : List Ex} (hl : RowK 35 Ex.cs w v l) (hK : ∀ w1, Ext w w1 → K (i64v (totalE l)) w1) : CALL Try.prog 38 #[v] w K := by
  obtain ⟨a, c, ev⟩ := hl.slice
  apply call_ref16_Total
  unfold B_ref16_Total
  refine RRight_spec hl ?_
  intro w1 hx1
  by_cases hr : RightP l
  case neg =>
    have c : decide (RightP l) = false := decide_eq_false hr
    (repeat (simp only [XP_extract0, XP_extract1, XP_extract2, XP_extract3, X_extract0, X_extract1, X_extract2, X_extract3, X_nilS, X_eql_nil_24, X_neq_nil_24, X_eql_nil_103, X_neq_nil_103, X_eql, X_neq, X_lss, X_leq, X_gtr, X_geq, X_not, X_min, X_max, X_len_79, X_len_35, XP_nilS, XP_eql, XP_neq, XP_lss, XP_leq, XP_gtr, XP_geq, XP_not, XP_min, XP_max, XP_len_79, XP_eql_nil_24, X_str_eql, X_str_neq, XP_str_eql, XP_str_neq, GS, gs_u, decide_true, decide_false, Option.isNone_some, Option.isSome_some, Option.isNone_none, Option.isSome_none, eq_self, Bool.not_true, Bool.not_false, Int.reduceEq, Int.reduceNe, Int.reduceLT, Int.reduceLE, Int.reduceGT, Int.reduceGE, c]))
    have := hK w1 hx1
    unfold totalE at this
    rw [if_neg hr] at this
    exact this
  have c : decide (RightP l) = true := decide_eq_true hr
  (repeat (simp only [XP_extract0, XP_extract1, XP_extract2, XP_extract3, X_extract0, X_extract1, X_extract2, X_extract3, X_nilS, X_eql_nil_24, X_neq_nil_24, X_eql_nil_103, X_neq_nil_103, X_eql, X_neq, X_lss, X_leq, X_gtr, X_geq, X_not, X_min, X_max, X_len_79, X_len_35, XP_nilS, XP_eql, XP_neq, XP_lss, XP_leq, XP_gtr, XP_geq, XP_not, XP_min, XP_max, XP_len_79, XP_eql_nil_24, X_str_eql, X_str_neq, XP_str_eql, XP_str_neq, GS, gs_u, decide_true, decide_false, Option.isNone_some, Option.isSome_some, Option.isNone_none, Option.isSome_none, eq_self, Bool.not_true, Bool.not_false, Int.reduceEq, Int.reduceNe, Int.reduceLT, Int.reduceLE, Int.reduceGT, Int.reduceGE, c]))
  have hn := hr.1
  refine loopE (fun ρ wr => ∃ i : Nat, i ≤ l.length ∧ wr = w1 ∧ ρ 4 = .int .i64 (i : Int) ∧ ρ 0 = v ∧ ρ 3 = .int .i64 (totE (l.take i)))
    (fun ρ wr => match ρ 4 with | .int _ s => (l.length - s).toNat | _ => 0)
    (fun ρ wr => wr = w1 ∧ ρ 3 = .int .i64 (totE l)) ?_ ?_ ?_
  · exact ⟨0, by omega, rfl, rfl, rfl, rfl⟩
  · rintro J hJ ρ wr ⟨i, hi, rfl, r4, r0, r3⟩
    rw [r4, r0, r3, ev, X_len_59, X_lss, condS_bool, ← ev]
    by_cases hie : i = l.length
    · rw [if_neg (by simp; omega)]
      refine hJ _ _ ⟨rfl, ?_⟩
      show ρ 3 = _
      rw [r3, hie, List.take_of_length_le (Nat.le_refl _)]
    rw [if_pos (by simp; omega)]
    have hlt : i < l.length := by omega
    obtain ⟨g, o, hix, hc⟩ := ext_at (hl.ext hx1) hlt
    have hs := totE_succ l i hlt
    obtain ⟨b1, b2⟩ := totE_bound hr.2 (i + 1)
    obtain ⟨b3, b4⟩ := totE_bound hr.2 i
    rw [List.length_take] at b2 b4
    refine X_of (hix _) ?_
    rw [X_field_72_2]
    refine X_of (run_loadAt agg_3 (hc 34 _ l[i].lenAt)) ?_
    rw [X_add, w64 (by omega) (by omega), ← hs, X_add]
    show _ ∧ _
    refine ⟨⟨i + 1, by omega, rfl, next64 (n := 1000000) (by decide) (by omega), r0, rfl⟩, ?_⟩
    show (_ - IntKind.i64.wrap _).toNat < _
    rw [w64 (by omega) (by omega)]
    first | omega | (show _ < (_ : Int).toNat; omega)
  · rintro ρ wr ⟨rfl, r3⟩
    rw [r3]
    have := hK wr hx1
    unfold totalE at this
    rw [if_pos hr] at this
    exact this
end
end Go.Proofs.Ytlnkdphecinnnaa
end
section
/- Extents: the argument, a literal; extent.Slice. -/
set_option linter.unusedVariables false
set_option linter.unusedSimpArgs false
namespace Go.Proofs.Ytlnkdphecinnnaa
open Go Go.Sh Go.RowKit Go.ChangeShapes Go.WideShapes Go.ChangeAt
attribute [local irreducible] X XU XP XR CALL loopS resC closS Value.okWide
theorem cel72 : Try.prog.cellsOf 72 = 35 := by kernel_rfl
theorem cel3 : Try.prog.cellsOf 3 = 1 := by kernel_rfl
theorem u8_of_wf' {n : Int} (h : (Lit.int .u8 n).wf = true) : ∃ u : UInt8, n = ((u.toNat : Nat) : Int) := by
  simp [Lit.wf, IntKind.min, IntKind.max, IntKind.signed, IntKind.bits] at h
  refine ⟨UInt8.ofNat n.toNat, ?_⟩
  have : n.toNat < 256 := by omega
  simp [Nat.mod_eq_of_lt this]
  omega
theorem b8_of' : ∀ {es : List Value}, (∀ i, i < es.length → ∃ u : UInt8, es[i]? = some (.int .u8 ((u.toNat : Nat) : Int))) → ∃ xs, es = B8 xs := by
  intro es
  induction es with
  | nil => intro _; exact ⟨[], rfl⟩
  | cons e es ih =>
    intro h
    obtain ⟨u, hu⟩ := h 0 (by simp)
    obtain ⟨xs, rfl⟩ := ih (fun i hi => by have := h (i + 1) (by simp; omega); simpa using this)
    refine ⟨u :: xs, ?_⟩
    simp only [List.getElem?_cons_zero, Option.some.injEq] at hu
    rw [hu]
    rfl
theorem trc_key' {H : Type} {enc : TypeId × Value → H} {W : World} {es : List Value} (h : TrC enc Try.prog W 44 es) : ∃ k : Ky, es = k.cs := by
  obtain ⟨hl, hf⟩ := h.struct Try.underlying44
  rw [cel44] at hl
  have g0 := hf { name := "Sum", type := 41, offset := 0, embedded := false, tag := "", pkgPath := "", byteOffset := 0 } (by simp)
  have g1 := hf { name := "N", type := 42, offset := 32, embedded := false, tag := "", pkgPath := "", byteOffset := 32 } (by simp)
  simp only [cel41, cel42, List.drop_zero] at g0 g1
  obtain ⟨n, hn, hw⟩ := TrC.int Try.underlying42 g1
  obtain ⟨hl0, ha⟩ := g0.array Try.underlying41
  rw [cel41] at hl0
  have hall : ∀ i, i < (es.take 32).length → ∃ u : UInt8, (es.take 32)[i]? = some (.int .u8 ((u.toNat : Nat) : Int)) := by
    intro i hi
    have := ha i (by omega)
    rw [cel5, Nat.mul_one] at this
    obtain ⟨m, hm, hw⟩ := TrC.int Try.underlying5 this
    obtain ⟨u, rfl⟩ := u8_of_wf' hw
    refine ⟨u, ?_⟩
    have h0 := congrArg (fun l => l[0]?) hm
    simp only [List.getElem?_cons_zero] at h0
    rw [List.getElem?_take, if_pos (by omega), List.getElem?_drop, Nat.add_zero] at h0
    exact h0
  obtain ⟨xs, hxs⟩ := b8_of' hall
  have hxl : xs.length = 32 := by
    have := congrArg List.length hxs
    rw [hl0] at this
    simpa using this.symm
  simp [Lit.wf, IntKind.min, IntKind.max, IntKind.signed, IntKind.bits] at hw
  refine ⟨⟨xs, n.toNat, hxl, by omega⟩, ?_⟩
  unfold Ky.cs
  show es = B8 xs ++ [.int .u32 ((n.toNat : Nat) : Int)]
  rw [Int.toNat_of_nonneg hw.1, ← hxs, ← hn]
  have : (es.drop 32).take 1 = es.drop 32 := List.take_of_length_le (by rw [List.length_drop]; omega)
  rw [this, List.take_append_drop]
theorem trc_ext {H : Type} {enc : TypeId × Value → H} {W : World} {es : List Value} (h : TrC enc Try.prog W 72 es) : ∃ e : Ex, es = e.cs := by
  obtain ⟨hl, hf⟩ := h.struct Try.underlying72
  rw [cel72] at hl
  have g0 := hf { name := "Key", type := 44, offset := 0, embedded := false, tag := "", pkgPath := "", byteOffset := 0 } (by simp)
  have g1 := hf { name := "Off", type := 3, offset := 33, embedded := false, tag := "", pkgPath := "", byteOffset := 40 } (by simp)
  have g2 := hf { name := "Len", type := 3, offset := 34, embedded := false, tag := "", pkgPath := "", byteOffset := 48 } (by simp)
  simp only [cel44, cel3, List.drop_zero] at g0 g1 g2
  obtain ⟨k, hk⟩ := trc_key' g0
  obtain ⟨a, ha, hwa⟩ := TrC.int Try.underlying3 g1
  obtain ⟨b, hb, hwb⟩ := TrC.int Try.underlying3 g2
  simp [Lit.wf, IntKind.min, IntKind.max, IntKind.signed, IntKind.bits] at hwa hwb
  refine ⟨⟨k, a, b, by omega, by omega, by omega, by omega⟩, ?_⟩
  unfold Ex.cs
  show es = k.cs ++ [.int .i64 a, .int .i64 b]
  have e1 : (es.drop 33).take 1 ++ (es.drop 34).take 1 = es.drop 33 := by
    have : es.drop 34 = (es.drop 33).drop 1 := by rw [List.drop_drop]
    rw [this]
    have h2 : (((es.drop 33).drop 1).take 1) = (es.drop 33).drop 1 := List.take_of_length_le (by rw [List.length_drop, List.length_drop]; omega)
    rw [h2, List.take_append_drop]
  rw [ha, hb] at e1
  have e2 : [Value.int .i64 a, Value.int .i64 b] = es.drop 33 := e1
  rw [e2, ← hk, List.take_append_drop]
theorem arg_exts {H : Type} {enc : TypeId × Value → H} {W : World} {base : Nat} {v : Value} {d : DataW H} {p : List MemPlace}
    (ok : Value.okWide Try.prog W .any base 59 v) (h : DataW.Trod enc Try.prog W 0 (fun _ => true) true 59 v d p) : ∃ l : List Ex, RowK 35 Ex.cs W v l := by
  obtain ⟨a, n, c, rfl⟩ := okWide_slice Try.underlying59 ok
  obtain ⟨l, hl, _⟩ := TrC.rowK (f := Ex.cs) (Good := fun _ => True) Try.underlying59 cel72 (fun es hes => by obtain ⟨e, he⟩ := trc_ext hes; exact ⟨e, he, trivial⟩) (TrC.of h)
  exact ⟨l, hl⟩
theorem wrap_lo (n : Int) : -9223372036854775808 ≤ IntKind.i64.wrap n := by rw [IntKind.wrap_i64]; omega
theorem wrap_hi (n : Int) : IntKind.i64.wrap n ≤ 9223372036854775807 := by rw [IntKind.wrap_i64]; omega
def mkEx (k : Ky) (a b : Int) : Ex := ⟨k, IntKind.i64.wrap a, IntKind.i64.wrap b, wrap_lo a, wrap_hi a, wrap_lo b, wrap_hi b⟩
/-- A row of extents of the call's own. -/
theorem X_appEx {w : World} {base : Nat} {vo : Value} {ks : List Ex} {e : Ex} (ho : OwnK 35 72 Ex.cs w base vo ks) (hn : ks.length ≤ 1000000) (hbase : base ≤ w.heap.size) {K2 : Value → Value → World → Prop}
    (hK : ∀ u v' w1, OwnK 35 72 Ex.cs w1 base v' (ks ++ [e]) → Keep (fun q => some q = vo.ownBlock) w w1 → K2 u v' w1) :
    X Try.prog (Instr.buildSlice 59 1 #[(0, .agg e.cs.toArray)]) w fun u w1 => X Try.prog (Builtin.append_ #[59, 59] 59 #[vo, u]) w1 fun v' w2 => K2 u v' w2 := by
  refine X_buildSliceK Try.underlying59 el_72 (by decide) (by decide) e.cs_len ?_
  have hx3 := newB_ext w e.cs.toArray 72
  have hg3 := newB_get w e.cs.toArray 72
  show X _ _ (newB w e.cs.toArray 72) _
  generalize newB w e.cs.toArray 72 = w3 at hx3 hg3 ⊢
  have hrow : RowK 35 Ex.cs w3 (.slice (some ⟨w.heap.size, 0, none⟩) 1 1) [e] := by
    refine RowK.ofK (T := 72) (fr := (0, 0)) (by decide) Ex.cs_len ?_ rfl (by decide)
    rw [hg3]
    unfold cellsK
    simp
  refine X_appendK Try.underlying59 el_72 (by decide) Ex.cs_len (fun x hx => by rw [List.mem_singleton.1 hx]; exact Ex.one e) (ho.ext hx3) hrow (by simp; omega) (by decide) (by have := hx3.size; omega) ?_
  intro v' w4 ho4 hk4
  exact hK _ _ _ ho4 (Keep.trans (Keep.ext hx3) hk4)
end Go.Proofs.Ytlnkdphecinnnaa
end
section
/- extent.Slice. -/
set_option linter.unusedVariables false
set_option linter.unusedSimpArgs false
namespace Go.Proofs.Ytlnkdphecinnnaa
open Go Go.Sh Go.RowKit
attribute [local irreducible] X XU XP XR CALL loopS resC closS
/-- Some bytes of extents: behind off of them, n. -/
def cutE : List Ex → Int → Int → List Ex
  | [], _, _ => []
  | x :: l, off, n => if n ≤ 0 then [] else if off ≥ x.len then cutE l (off - x.len) n else mkEx x.k (x.off + off) (min (x.len - off) n) :: cutE l 0 (n - min (x.len - off) n)
def sliceE (l : List Ex) (off n : Int) : List Ex := if n ≤ 0 ∨ ¬ RightP l then [] else if off < 0 then cutE l 0 (n + off) else cutE l off n
theorem cutE_le {l : List Ex} {off n : Int} (h : n ≤ 0) : cutE l off n = [] := by cases l with | nil => rfl | cons x l => simp [cutE, h]
section
variable {w : World} {K : Value → World → Prop}
set_option maxHeartbeats 1000000 in
theorem Slice_spec {v : Value} {l : List Ex} {off n : Int} (hl : RowK 35 Ex.cs w v l) (o1 : -9223372036854775808 ≤ off) (o2 : off ≤ 9223372036854775807) (n1 : -9223372036854775808 ≤ n) (n2 : n ≤ 9223372036854775807)
    (hK : ∀ u w1, Ext w w1 → OwnK 35 72 Ex.cs w1 w.heap.size u (sliceE l off n) → K u w1) : CALL Try.prog 30 #[v, .int .i64 off, .int .i64 n] w K := by
  obtain ⟨a, c, ev⟩ := hl.slice
  have nil : sliceE l off n = [] → ∀ w1, Ext w w1 → K (.slice none 0 0) w1 := fun h w1 hx => hK _ w1 hx (by rw [h]; exact ownK_nil _ _)
  apply call_extent_Slice
  unfold B_extent_Slice
  rw [X_leq]
  by_cases hn : n ≤ 0
  · have c : decide (n ≤ 0) = true := by simpa using hn
    (repeat (simp only [XP_extract0, XP_extract1, XP_extract2, XP_extract3, X_extract0, X_extract1, X_extract2, X_extract3, X_nilS, X_eql_nil_24, X_neq_nil_24, X_eql_nil_103, X_neq_nil_103, X_eql, X_neq, X_lss, X_leq, X_gtr, X_geq, X_not, X_min, X_max, X_len_79, X_len_35, XP_nilS, XP_eql, XP_neq, XP_lss, XP_leq, XP_gtr, XP_geq, XP_not, XP_min, XP_max, XP_len_79, XP_eql_nil_24, X_str_eql, X_str_neq, XP_str_eql, XP_str_neq, GS, gs_u, decide_true, decide_false, Option.isNone_some, Option.isSome_some, Option.isNone_none, Option.isSome_none, eq_self, Bool.not_true, Bool.not_false, Int.reduceEq, Int.reduceNe, Int.reduceLT, Int.reduceLE, Int.reduceGT, Int.reduceGE, c]))
    exact nil (by unfold sliceE; rw [if_pos (.inl hn)]) w (Keep.refl _ _)
  have c : decide (n ≤ 0) = false := by simpa using hn
  (repeat (simp only [XP_extract0, XP_extract1, XP_extract2, XP_extract3, X_extract0, X_extract1, X_extract2, X_extract3, X_nilS, X_eql_nil_24, X_neq_nil_24, X_eql_nil_103, X_neq_nil_103, X_eql, X_neq, X_lss, X_leq, X_gtr, X_geq, X_not, X_min, X_max, X_len_79, X_len_35, XP_nilS, XP_eql, XP_neq, XP_lss, XP_leq, XP_gtr, XP_geq, XP_not, XP_min, XP_max, XP_len_79, XP_eql_nil_24, X_str_eql, X_str_neq, XP_str_eql, XP_str_neq, GS, gs_u, decide_true, decide_false, Option.isNone_some, Option.isSome_some, Option.isNone_none, Option.isSome_none, eq_self, Bool.not_true, Bool.not_false, Int.reduceEq, Int.reduceNe, Int.reduceLT, Int.reduceLE, Int.reduceGT, Int.reduceGE, c]))
  refine Right_spec hl ?_
  intro w1 hx1
  by_cases hr : RightP l
  case neg =>
    have c : decide (RightP l) = false := decide_eq_false hr
    (repeat (simp only [XP_extract0, XP_extract1, XP_extract2, XP_extract3, X_extract0, X_extract1, X_extract2, X_extract3, X_nilS, X_eql_nil_24, X_neq_nil_24, X_eql_nil_103, X_neq_nil_103, X_eql, X_neq, X_lss, X_leq, X_gtr, X_geq, X_not, X_min, X_max, X_len_79, X_len_35, XP_nilS, XP_eql, XP_neq, XP_lss, XP_leq, XP_gtr, XP_geq, XP_not, XP_min, XP_max, XP_len_79, XP_eql_nil_24, X_str_eql, X_str_neq, XP_str_eql, XP_str_neq, GS, gs_u, decide_true, decide_false, Option.isNone_some, Option.isSome_some, Option.isNone_none, Option.isSome_none, eq_self, Bool.not_true, Bool.not_false, Int.reduceEq, Int.reduceNe, Int.reduceLT, Int.reduceLE, Int.reduceGT, Int.reduceGE, c]))
    exact nil (by unfold sliceE; rw [if_pos (.inr hr)]) w1 hx1
  have c : decide (RightP l) = true := decide_eq_true hr
  (repeat (simp only [XP_extract0, XP_extract1, XP_extract2, XP_extract3, X_extract0, X_extract1, X_extract2, X_extract3, X_nilS, X_eql_nil_24, X_neq_nil_24, X_eql_nil_103, X_neq_nil_103, X_eql, X_neq, X_lss, X_leq, X_gtr, X_geq, X_not, X_min, X_max, X_len_79, X_len_35, XP_nilS, XP_eql, XP_neq, XP_lss, XP_leq, XP_gtr, XP_geq, XP_not, XP_min, XP_max, XP_len_79, XP_eql_nil_24, X_str_eql, X_str_neq, XP_str_eql, XP_str_neq, GS, gs_u, decide_true, decide_false, Option.isNone_some, Option.isSome_some, Option.isNone_none, Option.isSome_none, eq_self, Bool.not_true, Bool.not_false, Int.reduceEq, Int.reduceNe, Int.reduceLT, Int.reduceLE, Int.reduceGT, Int.reduceGE, c]))
  have hlen := hr.1
  have hs : sliceE l off n = if off < 0 then cutE l 0 (n + off) else cutE l off n := by unfold sliceE; rw [if_neg (by rintro (h | h); exact hn h; exact h hr)]
  refine joinS_of (fun ρ wr => ∃ o m : Int, 0 ≤ o ∧ o ≤ 9223372036854775807 ∧ -9223372036854775808 ≤ m ∧ m ≤ 9223372036854775807 ∧ cutE l o m = sliceE l off n ∧ wr = w1 ∧ ρ 0 = v ∧ ρ 1 = .int .i64 o ∧ ρ 2 = .int .i64 m) ?_ ?_
  · rintro ρ wr ⟨o, m, b1, b2, b3, b4, hcut, rfl, r0, r1, r2⟩
    rw [r0, ev, X_len_59, ← ev]
    refine loopE (fun ρ wr' => ∃ (i : Nat) (out : List Ex) (vo : Value) (o m : Int), i ≤ l.length ∧ out.length ≤ i ∧ Ext w wr' ∧ OwnK 35 72 Ex.cs wr' w.heap.size vo out ∧ 0 ≤ o ∧ o ≤ 9223372036854775807 ∧ -9223372036854775808 ≤ m ∧ m ≤ 9223372036854775807 ∧ out ++ cutE (l.drop i) o m = sliceE l off n ∧
        ρ 24 = .int .i64 (i : Int) ∧ ρ 23 = .int .i64 (l.length : Int) ∧ ρ 22 = v ∧ ρ 1 = .int .i64 o ∧ ρ 2 = .int .i64 m ∧ ρ 7 = vo)
      (fun ρ wr' => match ρ 24 with | .int _ s => (l.length - s).toNat | _ => 0)
      (fun ρ wr' => ∃ vo : Value, Ext w wr' ∧ OwnK 35 72 Ex.cs wr' w.heap.size vo (sliceE l off n) ∧ ρ 7 = vo) ?_ ?_ ?_
    · exact ⟨0, [], _, o, m, by omega, by simp, hx1, ownK_nil _ _, b1, b2, b3, b4, hcut, rfl, rfl, rfl, r1, r2, rfl⟩
    · rintro J hJ ρ wr' ⟨i, out, vo, o, m, hi, hol, hx, ho, b1, b2, b3, b4, heq, r24, r23, r22, r1, r2, r7⟩
      rw [r24, r23, r22, r1, r2, r7, X_lss, condS_bool]
      by_cases hie : i = l.length
      · rw [if_neg (by simp; omega)]
        rw [hie, List.drop_length] at heq
        have heq' : out = sliceE l off n := by simpa [cutE] using heq
        rw [heq'] at ho
        exact hJ _ _ ⟨vo, hx, ho, r7⟩
      rw [if_pos (by simp; omega)]
      have hlt : i < l.length := by omega
      have hd := List.drop_eq_getElem_cons hlt
      have hri := hr.2 _ (List.getElem_mem hlt)
      refine joinS_of (fun ρ3 w3 => ∃ (out : List Ex) (vo : Value) (o m : Int), out.length ≤ i + 1 ∧ Ext w w3 ∧ OwnK 35 72 Ex.cs w3 w.heap.size vo out ∧ 0 ≤ o ∧ o ≤ 9223372036854775807 ∧ -9223372036854775808 ≤ m ∧ m ≤ 9223372036854775807 ∧ out ++ cutE (l.drop (i + 1)) o m = sliceE l off n ∧
        ρ3 24 = .int .i64 (i : Int) ∧ ρ3 23 = .int .i64 (l.length : Int) ∧ ρ3 22 = v ∧ ρ3 1 = .int .i64 o ∧ ρ3 2 = .int .i64 m ∧ ρ3 7 = vo) ?_ ?_
      · rintro ρ3 w3 ⟨out, vo, o, m, g0, g1, g2, g3, g4, g5, g6, g7, q24, q23, q22, q1, q2, q7⟩
        rw [q24, X_add]
        show _ ∧ _
        refine ⟨⟨i + 1, out, vo, o, m, by omega, g0, g1, g2, g3, g4, g5, g6, g7, next64 (n := 1000000) (by decide) (by omega), q23, q22, q1, q2, q7⟩, ?_⟩
        show (_ - IntKind.i64.wrap _).toNat < _
        rw [w64 (by omega) (by omega)]
        first | omega | (show _ < (_ : Int).toNat; omega)
      · intro J3 hJ3
        refine X_takeExt (hl.ext hx) hlt ?_
        intro u1 u2 q w4 hx4 hq hqb
        rw [hd] at heq
        generalize l[i] = e at heq hri hqb
        unfold right1 at hri
        have hx04 := hx.trans hx4
        have ho4 := ho.ext hx4
        rw [X_leq, condS_bool]
        by_cases hm : m ≤ 0
        · rw [if_pos (by simpa using hm)]
          rw [cutE_le hm, List.append_nil] at heq
          rw [heq] at ho4
          exact hJ _ _ ⟨vo, hx04, ho4, r7⟩
        rw [if_neg (by simpa using hm)]
        unfold cutE at heq
        rw [if_neg hm] at heq
        have hlenc : w4.cell? ⟨q, 0 + 34, none⟩ = some (.int .i64 e.len) := (cell_blk hqb).trans (by simpa using e.lenAt)
        have hoffc : w4.cell? ⟨q, 0 + 33, none⟩ = some (.int .i64 e.off) := (cell_blk hqb).trans (by simpa using e.offAt)
        rw [X_field_72_2]
        refine X_of (run_loadAt agg_3 hlenc) ?_
        rw [X_geq, condS_bool]
        by_cases hge : o ≥ e.len
        · rw [if_pos (by simpa using hge), X_field_72_2]
          rw [if_pos hge] at heq
          refine X_of (run_loadAt agg_3 hlenc) ?_
          rw [X_sub, w64 (by omega) (by omega)]
          exact hJ3 _ _ ⟨out, vo, o - e.len, m, by omega, hx04, ho4, by omega, by omega, b3, b4, heq, r24, r23, r22, rfl, r2, r7⟩
        rw [if_neg (by simpa using hge), X_field_72_1]
        rw [if_neg hge] at heq
        refine X_of (run_loadAt agg_3 hoffc) ?_
        rw [X_add, X_field_72_1]
        refine XU_store info_3 sz_3 rfl hqb (by simp [Ex.cs_len]) (by decide) ?_
        have hk5 := setAt_keep w4 q (e.cs.toArray.setIfInBounds (0 + 33) (Value.int .i64 (IntKind.i64.wrap (e.off + o)))) 72 (0, 0)
        have hg5 : (setAt w4 q (e.cs.toArray.setIfInBounds (0 + 33) (Value.int .i64 (IntKind.i64.wrap (e.off + o)))) 72 (0, 0)).heap[q]? = some (.cells (e.cs.toArray.setIfInBounds (0 + 33) (Value.int .i64 (IntKind.i64.wrap (e.off + o)))) 72 (0, 0)) := setAt_same (lt_of_blk hqb)
        have hk33 : e.k.cs.length = 33 := Ky.cs_len _
        have hcs5 : e.cs.toArray.setIfInBounds (0 + 33) (Value.int .i64 (IntKind.i64.wrap (e.off + o))) = (e.k.cs ++ [Value.int .i64 (IntKind.i64.wrap (e.off + o)), Value.int .i64 e.len]).toArray := by
          unfold Ex.cs
          rw [List.setIfInBounds_toArray, List.set_append_right _ _ (by omega), hk33]
          rfl
        rw [hcs5] at hk5 hg5 ⊢
        generalize setAt w4 q (e.k.cs ++ [Value.int .i64 (IntKind.i64.wrap (e.off + o)), Value.int .i64 e.len]).toArray 72 (0, 0) = w5 at hk5 hg5 ⊢
        have hl5 : w5.cell? ⟨q, 0 + 34, none⟩ = some (Value.int .i64 e.len) := by
          rw [cell_blk hg5]
          rw [List.getElem?_toArray, List.getElem?_append_right (by omega), hk33]
          rfl
        rw [X_field_72_2]
        refine X_of (run_loadAt agg_3 hl5) ?_
        rw [X_sub, w64 (by omega) (by omega), X_min, X_field_72_2]
        refine XU_store info_3 sz_3 rfl hg5 (by simp [Ky.cs_len]) (by decide) ?_
        have hcs6 : (e.k.cs ++ [Value.int .i64 (IntKind.i64.wrap (e.off + o)), Value.int .i64 e.len]).toArray.setIfInBounds (0 + 34) (Value.int .i64 (min (e.len - o) m)) = (mkEx e.k (e.off + o) (min (e.len - o) m)).cs.toArray := by
          unfold Ex.cs mkEx
          show _ = (e.k.cs ++ [Value.int .i64 (IntKind.i64.wrap (e.off + o)), Value.int .i64 (IntKind.i64.wrap (min (e.len - o) m))]).toArray
          rw [List.setIfInBounds_toArray, List.set_append_right _ _ (by omega), hk33, w64 (x := min (e.len - o) m) (by omega) (by omega)]
          rfl
        rw [hcs6]
        have hk6 := setAt_keep w5 q (mkEx e.k (e.off + o) (min (e.len - o) m)).cs.toArray 72 (0, 0)
        have hg6 : (setAt w5 q (mkEx e.k (e.off + o) (min (e.len - o) m)).cs.toArray 72 (0, 0)).heap[q]? = some (.cells (mkEx e.k (e.off + o) (min (e.len - o) m)).cs.toArray 72 (0, 0)) := setAt_same (lt_of_blk hg5)
        have hln : (mkEx e.k (e.off + o) (min (e.len - o) m)).len = min (e.len - o) m := w64 (by omega) (by omega)
        generalize mkEx e.k (e.off + o) (min (e.len - o) m) = ne at heq hk6 hg6 hln ⊢
        generalize setAt w5 q ne.cs.toArray 72 (0, 0) = w6 at hk6 hg6 ⊢
        have hx06 : Ext w w6 := Ext.seq (Ext.seq hx04 hk5 (fun g hg => by have := hx.size; omega)) hk6 (fun g hg => by have := hx.size; omega)
        have hx46 : Ext wr' w6 := Ext.seq (Ext.seq hx4 hk5 (fun g hg => by omega)) hk6 (fun g hg => by omega)
        have ho6 := ho.ext hx46
        have hxd := Keep.drew (fun _ => False) w6
        have hgd : (drewW w6).heap[q]? = some (.cells ne.cs.toArray 72 (0, 0)) := hg6
        have hod := ho6.ext hxd
        have hx0d := hx06.trans hxd
        refine ⟨Ext, Ext.frame, ?_⟩
        generalize drewW w6 = wd at hgd hod hx0d ⊢
        rw [XP_field_72_2]
        refine XR_ok Ext.frame (fun w' kk => run_loadAt agg_3 (v := .int .i64 ne.len) ((cell_blk (kk.get hgd)).trans (by simpa using ne.lenAt))) ?_
        rw [XP_sub, hln, w64 (by omega) (by omega)]
        refine X_of (load_cells Try.underlying72 agg_72 info_72 (l := ne.cs) (by rw [sz_72, Ex.cs_len]) (fun j u hj => by rw [add_plain, Nat.zero_add, cell_blk hgd]; simpa using hj)) ?_
        refine X_appEx hod (by omega) hx0d.size ?_
        intro u3 v' w7 ho7 hk7
        exact hJ3 _ _ ⟨out ++ [ne], v', 0, m - min (e.len - o) m, by simp; omega, Ext.seq hx0d hk7 (fun g hg => (hod.lt g hg.symm).1), ho7, by omega, by omega, by omega, by omega, by rw [List.append_assoc]; exact heq, r24, r23, r22, rfl, rfl, rfl⟩
    · rintro ρ wr' ⟨vo, hx, ho, r7⟩
      rw [r7]
      exact hK vo wr' hx ho
  · intro J1 hJ1
    rw [condS_bool]
    by_cases hneg : off < 0
    · rw [if_pos (by simpa using hneg), X_add, w64 (by omega) (by omega)]
      rw [if_pos hneg] at hs
      exact hJ1 _ _ ⟨0, n + off, by omega, by omega, by omega, by omega, hs.symm, rfl, rfl, rfl, rfl⟩
    · rw [if_neg (by simpa using hneg)]
      rw [if_neg hneg] at hs
      exact hJ1 _ _ ⟨off, n, by omega, by omega, by omega, by omega, hs.symm, rfl, rfl, rfl, rfl⟩
end
end Go.Proofs.Ytlnkdphecinnnaa
end
section
/- Some bytes of extents: the document's way is the program's. Plain Lean. -/
set_option linter.unusedVariables false
set_option linter.unusedSimpArgs false
namespace Go.Proofs.Ytlnkdphecinnnaa
open Go Go.Sh
/-- The document's way: what of each extent lies between two places. -/
def refCut : List Ex → Int → Int → Int → List Ex
  | [], _, _, _ => []
  | x :: l, at_, from_, to => (if max from_ at_ < min to (at_ + x.len) then [mkEx x.k (x.off + max from_ at_ - at_) (min to (at_ + x.len) - max from_ at_)] else []) ++ refCut l (at_ + x.len) from_ to
theorem refCut_none : ∀ (l : List Ex) (at_ from_ to : Int), (∀ e ∈ l, right1 e) → to ≤ at_ ∨ to ≤ from_ → refCut l at_ from_ to = [] := by
  intro l
  induction l with
  | nil => intros; rfl
  | cons x l ih =>
    intro at_ from_ to hr h
    have h1 := hr x (by simp)
    unfold right1 at h1
    unfold refCut
    rw [if_neg (by omega), ih _ _ _ (fun e he => hr e (by simp [he])) (by omega)]
    rfl
theorem refCut_from : ∀ (l : List Ex) (at_ f g to : Int), (∀ e ∈ l, right1 e) → f ≤ at_ → g ≤ at_ → refCut l at_ f to = refCut l at_ g to := by
  intro l
  induction l with
  | nil => intros; rfl
  | cons x l ih =>
    intro at_ f g to hr hf hg
    have h1 := hr x (by simp)
    unfold right1 at h1
    unfold refCut
    rw [show max f at_ = at_ by omega, show max g at_ = at_ by omega, ih _ f g _ (fun e he => hr e (by simp [he])) (by omega) (by omega)]
theorem totE_cons (x : Ex) (l : List Ex) : totE (x :: l) = x.len + totE l := by simp [totE]
theorem totE_nonneg {l : List Ex} (h : ∀ e ∈ l, right1 e) : 0 ≤ totE l := by
  have := (totE_bound h l.length).1
  rwa [List.take_length] at this
theorem cut_ref : ∀ (l : List Ex) (at_ off n : Int), (∀ e ∈ l, right1 e) → 0 ≤ off → cutE l off n = refCut l at_ (at_ + off) (min (at_ + totE l) (at_ + off + n)) := by
  intro l
  induction l with
  | nil => intros; rfl
  | cons x l ih =>
    intro at_ off n hr ho
    have h1 := hr x (by simp)
    have hr' : ∀ e ∈ l, right1 e := fun e he => hr e (by simp [he])
    have ht := totE_nonneg hr'
    unfold right1 at h1
    by_cases hn : n ≤ 0
    · rw [cutE_le hn, refCut_none _ _ _ _ hr (.inr (by omega))]
    rw [totE_cons]
    unfold cutE
    rw [if_neg hn]
    by_cases hge : off ≥ x.len
    · rw [if_pos hge]
      unfold refCut
      rw [if_neg (by omega), List.nil_append, ih (at_ + x.len) (off - x.len) n hr' (by omega)]
      congr 1 <;> omega
    · rw [if_neg hge]
      unfold refCut
      rw [if_pos (by omega), ih (at_ + x.len) 0 _ hr' (by omega)]
      have e1 : max (at_ + off) at_ = at_ + off := by omega
      have e2 : min (min (at_ + (x.len + totE l)) (at_ + off + n)) (at_ + x.len) - (at_ + off) = min (x.len - off) n := by omega
      rw [e1, e2, show x.off + (at_ + off) - at_ = x.off + off by omega]
      show _ :: _ = _ :: _
      congr 1
      by_cases hm : n ≤ x.len - off
      · rw [refCut_none _ _ _ _ hr' (.inl (by omega)), refCut_none _ _ _ _ hr' (.inl (by omega))]
        rfl
      · rw [refCut_from l (at_ + x.len) (at_ + off) (at_ + x.len + 0) _ hr' (by omega) (by omega)]
        congr 1
        omega
/-- The document's answer. -/
def refSlice (l : List Ex) (off n : Int) : List Ex :=
  if n ≤ 0 ∨ ¬ RightP l then [] else
    let o := if off < 0 then 0 else off
    let m := if off < 0 then n + off else n
    if m ≤ 0 ∨ totE l ≤ o then [] else refCut l 0 o (if m < totE l - o then o + m else totE l)
theorem slice_ref (l : List Ex) (off n : Int) : sliceE l off n = refSlice l off n := by
  unfold sliceE refSlice
  by_cases h : n ≤ 0 ∨ ¬ RightP l
  · rw [if_pos h, if_pos h]
  rw [if_neg h, if_neg h]
  have hr : ∀ e ∈ l, right1 e := by
    have : RightP l := by
      rcases Decidable.em (RightP l) with h' | h'
      · exact h'
      · exact absurd (.inr h') h
    exact this.2
  have key : ∀ o m : Int, 0 ≤ o → cutE l o m = if m ≤ 0 ∨ totE l ≤ o then [] else refCut l 0 o (if m < totE l - o then o + m else totE l) := by
    intro o m ho
    rw [cut_ref l 0 o m hr ho]
    by_cases hm : m ≤ 0 ∨ totE l ≤ o
    · rw [if_pos hm, refCut_none _ _ _ _ hr (.inr (by omega))]
    · rw [if_neg hm]
      congr 1
      · omega
      · split <;> omega
  by_cases hneg : off < 0
  · simp only [if_pos hneg]
    exact key 0 (n + off) (by omega)
  · simp only [if_neg hneg]
    exact key off n (by omega)
end Go.Proofs.Ytlnkdphecinnnaa
end
section
/- The reference's Slice. -/
set_option linter.unusedVariables false
set_option linter.unusedSimpArgs false
namespace Go.Proofs.Ytlnkdphecinnnaa
open Go Go.Sh Go.RowKit
attribute [local irreducible] X XU XP XR CALL loopS resC closS
theorem ext_cells {w w' : World} {v : Value} {l : List Ex} {i g o : Nat} (hi : i < l.length) (hix : ∀ w', (Instr.indexAt 59 v (.int .i64 (i : Int))).run Try.prog w' = .ok (.pointer (some ⟨g, o, none⟩)) w') (hl : RowK 35 Ex.cs w' v l) :
    ∀ j u, l[i].cs[j]? = some u → w'.cell? ⟨g, o + j, none⟩ = some u := by
  obtain ⟨g2, o2, hix2, hc2⟩ := ext_at hl hi
  have h := (hix w').symm.trans (hix2 w')
  injection h with h _
  injection h with h
  injection h with h
  injection h with h1 h2 _
  subst h1; subst h2
  exact hc2
theorem run_build3 {P : Program} {t : TypeId} {f0 f1 f2 : Field} {a : Nat} {zk : List Value} {z1 z2 : Value} (ht : P.underlying t = some (.struct #[f0, f1, f2])) (hz : zeroT P t = some (.agg (zk ++ [z1, z2]).toArray)) (o0 : f0.offset = 0) (o1 : f1.offset = a) (o2 : f2.offset = a + 1) (s0 : szT P f0.type = a) (s1 : szT P f1.type = 1) (s2 : szT P f2.type = 1)
    (i0 : infoB P f0.type = true) (i1 : infoB P f1.type = true) (i2 : infoB P f2.type = true) (hl : zk.length = a) {cs : List Value} (hc : cs.length = a) (x y : Value) (hx : x.cells = #[x]) (hy : y.cells = #[y]) (w : World) :
    (Instr.build t #[(0, .agg cs.toArray), (1, x), (2, y)]).run P w = .ok (.agg (cs ++ [x, y]).toArray) w := by
  have hm : ((#[f0, f1, f2] : Array Field).mapM fun f => do pure (f.offset, ← sizeOf f.type) : Sem (Array (Nat × Nat))).run P w = .ok #[(0, a), (a, 1), (a + 1, 1)] w := by
    rw [Array.mapM_eq_mapM_toList]
    simp [sizeOf_run i0, sizeOf_run i1, sizeOf_run i2, s0, s1, s2, o0, o1, o2, List.mapM_cons, List.mapM_nil]
  have hf : Instr.fill (fun i => (#[(0, a), (a, 1), (a + 1, 1)] : Array (Nat × Nat))[i]?) (zk ++ [z1, z2]).toArray [(0, .agg cs.toArray), (1, x), (2, y)] = some (cs ++ [x, y]).toArray := by
    have h0 : (Value.agg cs.toArray).cells.size = a := by show cs.toArray.size = a; simpa using hc
    have t1 : (List.take 0 (zk ++ [z1, z2]).toArray.toList ++ (Value.agg cs.toArray).cells.toList ++ List.drop (0 + a) (zk ++ [z1, z2]).toArray.toList) = cs ++ [z1, z2] := by
      subst hl
      simp [Value.cells]
    have t2 : (List.take a (cs ++ [z1, z2]).toArray.toList ++ x.cells.toList ++ List.drop (a + 1) (cs ++ [z1, z2]).toArray.toList) = cs ++ [x, z2] := by
      subst hc
      rw [hx]
      simp [List.drop_append]
    have t3 : (List.take (a + 1) (cs ++ [x, z2]).toArray.toList ++ y.cells.toList ++ List.drop (a + 1 + 1) (cs ++ [x, z2]).toArray.toList) = cs ++ [x, y] := by
      subst hc
      rw [hy]
      simp [List.take_append, List.drop_append]
      rw [List.take_of_length_le (by omega), List.drop_eq_nil_of_le (by omega), show cs.length + 1 + 1 - cs.length = 2 by omega]
      simp
    rw [fill_app (a := a) (off := 0) rfl h0 (by simp; omega), t1, fill_app (a := 1) (off := a) rfl (by rw [hx]; rfl) (by simp; omega), t2, fill_app (a := 1) (off := a + 1) rfl (by rw [hy]; rfl) (by simp; omega), t3]
    rfl
  simp only [Instr.build, Sem.run_bind, zeroValue_run hz, Result.andThen_ok, run_underlying ht, hm]
  have hc0 : (Value.agg (zk ++ [z1, z2]).toArray).cells = (zk ++ [z1, z2]).toArray := rfl
  rw [hc0, hf]
  rfl
theorem run_build_72 (k : Ky) (a b : Int) (w : World) : (Instr.build 72 #[(0, k.v), (1, .int .i64 (IntKind.i64.wrap a)), (2, .int .i64 (IntKind.i64.wrap b))]).run Try.prog w = .ok (.agg (mkEx k a b).cs.toArray) w :=
  run_build3 (a := 33) (zk := List.replicate 32 (Value.int .u8 0) ++ [Value.int .u32 0]) (z1 := .int .i64 0) (z2 := .int .i64 0) Try.underlying72 zero_72 rfl rfl rfl sz_44 sz_3 sz_3 info_44 info_3 info_3 (by simp) k.cs_len _ _ rfl rfl w
end Go.Proofs.Ytlnkdphecinnnaa
end
section
/- The reference's Slice. -/
set_option linter.unusedVariables false
set_option linter.unusedSimpArgs false
namespace Go.Proofs.Ytlnkdphecinnnaa
open Go Go.Sh Go.RowKit
attribute [local irreducible] X XU XP XR CALL loopS resC closS
section
variable {w : World} {K : Value → World → Prop}
set_option maxHeartbeats 1000000 in
theorem RSlice_spec {v : Value} {l : List Ex} {off n : Int} (hl : RowK 35 Ex.cs w v l) (o1 : -9223372036854775808 ≤ off) (o2 : off ≤ 9223372036854775807) (n1 : -9223372036854775808 ≤ n) (n2 : n ≤ 9223372036854775807)
    (hK : ∀ u w1, Ext w w1 → OwnK 35 72 Ex.cs w1 w.heap.size u (refSlice l off n) → K u w1) : CALL Try.prog 32 #[v, .int .i64 off, .int .i64 n] w K := by
  obtain ⟨a, c, ev⟩ := hl.slice
  have nil : refSlice l off n = [] → ∀ w1, Ext w w1 → K (.slice none 0 0) w1 := fun h w1 hx => hK _ w1 hx (by rw [h]; exact ownK_nil _ _)
  apply call_ref16_Slice
  unfold B_ref16_Slice
  rw [X_leq]
  by_cases hn : n ≤ 0
  · have c : decide (n ≤ 0) = true := by simpa using hn
    (repeat (simp only [XP_extract0, XP_extract1, XP_extract2, XP_extract3, X_extract0, X_extract1, X_extract2, X_extract3, X_nilS, X_eql_nil_24, X_neq_nil_24, X_eql_nil_103, X_neq_nil_103, X_eql, X_neq, X_lss, X_leq, X_gtr, X_geq, X_not, X_min, X_max, X_len_79, X_len_35, XP_nilS, XP_eql, XP_neq, XP_lss, XP_leq, XP_gtr, XP_geq, XP_not, XP_min, XP_max, XP_len_79, XP_eql_nil_24, X_str_eql, X_str_neq, XP_str_eql, XP_str_neq, GS, gs_u, decide_true, decide_false, Option.isNone_some, Option.isSome_some, Option.isNone_none, Option.isSome_none, eq_self, Bool.not_true, Bool.not_false, Int.reduceEq, Int.reduceNe, Int.reduceLT, Int.reduceLE, Int.reduceGT, Int.reduceGE, c]))
    exact nil (by unfold refSlice; rw [if_pos (.inl hn)]) w (Keep.refl _ _)
  have c : decide (n ≤ 0) = false := by simpa using hn
  (repeat (simp only [XP_extract0, XP_extract1, XP_extract2, XP_extract3, X_extract0, X_extract1, X_extract2, X_extract3, X_nilS, X_eql_nil_24, X_neq_nil_24, X_eql_nil_103, X_neq_nil_103, X_eql, X_neq, X_lss, X_leq, X_gtr, X_geq, X_not, X_min, X_max, X_len_79, X_len_35, XP_nilS, XP_eql, XP_neq, XP_lss, XP_leq, XP_gtr, XP_geq, XP_not, XP_min, XP_max, XP_len_79, XP_eql_nil_24, X_str_eql, X_str_neq, XP_str_eql, XP_str_neq, GS, gs_u, decide_true, decide_false, Option.isNone_some, Option.isSome_some, Option.isNone_none, Option.isSome_none, eq_self, Bool.not_true, Bool.not_false, Int.reduceEq, Int.reduceNe, Int.reduceLT, Int.reduceLE, Int.reduceGT, Int.reduceGE, c]))
  refine RRight_spec hl ?_
  intro w1 hx1
  by_cases hr : RightP l
  case neg =>
    have c : decide (RightP l) = false := decide_eq_false hr
    (repeat (simp only [XP_extract0, XP_extract1, XP_extract2, XP_extract3, X_extract0, X_extract1, X_extract2, X_extract3, X_nilS, X_eql_nil_24, X_neq_nil_24, X_eql_nil_103, X_neq_nil_103, X_eql, X_neq, X_lss, X_leq, X_gtr, X_geq, X_not, X_min, X_max, X_len_79, X_len_35, XP_nilS, XP_eql, XP_neq, XP_lss, XP_leq, XP_gtr, XP_geq, XP_not, XP_min, XP_max, XP_len_79, XP_eql_nil_24, X_str_eql, X_str_neq, XP_str_eql, XP_str_neq, GS, gs_u, decide_true, decide_false, Option.isNone_some, Option.isSome_some, Option.isNone_none, Option.isSome_none, eq_self, Bool.not_true, Bool.not_false, Int.reduceEq, Int.reduceNe, Int.reduceLT, Int.reduceLE, Int.reduceGT, Int.reduceGE, c]))
    exact nil (by unfold refSlice; rw [if_pos (.inr hr)]) w1 hx1
  have c : decide (RightP l) = true := decide_eq_true hr
  (repeat (simp only [XP_extract0, XP_extract1, XP_extract2, XP_extract3, X_extract0, X_extract1, X_extract2, X_extract3, X_nilS, X_eql_nil_24, X_neq_nil_24, X_eql_nil_103, X_neq_nil_103, X_eql, X_neq, X_lss, X_leq, X_gtr, X_geq, X_not, X_min, X_max, X_len_79, X_len_35, XP_nilS, XP_eql, XP_neq, XP_lss, XP_leq, XP_gtr, XP_geq, XP_not, XP_min, XP_max, XP_len_79, XP_eql_nil_24, X_str_eql, X_str_neq, XP_str_eql, XP_str_neq, GS, gs_u, decide_true, decide_false, Option.isNone_some, Option.isSome_some, Option.isNone_none, Option.isSome_none, eq_self, Bool.not_true, Bool.not_false, Int.reduceEq, Int.reduceNe, Int.reduceLT, Int.reduceLE, Int.reduceGT, Int.reduceGE, c]))
  have hlen := hr.1
  obtain ⟨tb1, tb2⟩ := totE_bound hr.2 l.length
  rw [List.take_length] at tb1 tb2
  have hs : refSlice l off n = (let o := if off < 0 then 0 else off
    let m := if off < 0 then n + off else n
    if m ≤ 0 ∨ totE l ≤ o then [] else refCut l 0 o (if m < totE l - o then o + m else totE l)) := by unfold refSlice; rw [if_neg (by rintro (h | h); exact hn h; exact h hr)]
  refine joinS_of (fun ρ wr => ∃ o m : Int, 0 ≤ o ∧ o ≤ 9223372036854775807 ∧ -9223372036854775808 ≤ m ∧ m ≤ 9223372036854775807 ∧ (if m ≤ 0 ∨ totE l ≤ o then [] else refCut l 0 o (if m < totE l - o then o + m else totE l)) = refSlice l off n ∧ wr = w1 ∧ ρ 0 = v ∧ ρ 1 = .int .i64 o ∧ ρ 2 = .int .i64 m) ?_ ?_
  · rintro ρ wr ⟨o, m, b1, b2, b3, b4, hcut, rfl, r0, r1, r2⟩
    rw [r0, r1, r2]
    refine RTotal_spec (hl.ext hx1) ?_
    intro w2 hx2
    have hx02 := hx1.trans hx2
    have htl : totalE l = totE l := if_pos hr
    rw [htl, X_leq]
    by_cases hm : m ≤ 0
    · have c : decide (m ≤ 0) = true := by simpa using hm
      (repeat (simp only [XP_extract0, XP_extract1, XP_extract2, XP_extract3, X_extract0, X_extract1, X_extract2, X_extract3, X_nilS, X_eql_nil_24, X_neq_nil_24, X_eql_nil_103, X_neq_nil_103, X_eql, X_neq, X_lss, X_leq, X_gtr, X_geq, X_not, X_min, X_max, X_len_79, X_len_35, XP_nilS, XP_eql, XP_neq, XP_lss, XP_leq, XP_gtr, XP_geq, XP_not, XP_min, XP_max, XP_len_79, XP_eql_nil_24, X_str_eql, X_str_neq, XP_str_eql, XP_str_neq, GS, gs_u, decide_true, decide_false, Option.isNone_some, Option.isSome_some, Option.isNone_none, Option.isSome_none, eq_self, Bool.not_true, Bool.not_false, Int.reduceEq, Int.reduceNe, Int.reduceLT, Int.reduceLE, Int.reduceGT, Int.reduceGE, c]))
      rw [if_pos (.inl hm)] at hcut
      exact nil hcut.symm w2 hx02
    have c : decide (m ≤ 0) = false := by simpa using hm
    (repeat (simp only [XP_extract0, XP_extract1, XP_extract2, XP_extract3, X_extract0, X_extract1, X_extract2, X_extract3, X_nilS, X_eql_nil_24, X_neq_nil_24, X_eql_nil_103, X_neq_nil_103, X_eql, X_neq, X_lss, X_leq, X_gtr, X_geq, X_not, X_min, X_max, X_len_79, X_len_35, XP_nilS, XP_eql, XP_neq, XP_lss, XP_leq, XP_gtr, XP_geq, XP_not, XP_min, XP_max, XP_len_79, XP_eql_nil_24, X_str_eql, X_str_neq, XP_str_eql, XP_str_neq, GS, gs_u, decide_true, decide_false, Option.isNone_some, Option.isSome_some, Option.isNone_none, Option.isSome_none, eq_self, Bool.not_true, Bool.not_false, Int.reduceEq, Int.reduceNe, Int.reduceLT, Int.reduceLE, Int.reduceGT, Int.reduceGE, c]))
    by_cases ho : totE l ≤ o
    · have c : decide (o ≥ totE l) = true := by simpa using ho
      (repeat (simp only [XP_extract0, XP_extract1, XP_extract2, XP_extract3, X_extract0, X_extract1, X_extract2, X_extract3, X_nilS, X_eql_nil_24, X_neq_nil_24, X_eql_nil_103, X_neq_nil_103, X_eql, X_neq, X_lss, X_leq, X_gtr, X_geq, X_not, X_min, X_max, X_len_79, X_len_35, XP_nilS, XP_eql, XP_neq, XP_lss, XP_leq, XP_gtr, XP_geq, XP_not, XP_min, XP_max, XP_len_79, XP_eql_nil_24, X_str_eql, X_str_neq, XP_str_eql, XP_str_neq, GS, gs_u, decide_true, decide_false, Option.isNone_some, Option.isSome_some, Option.isNone_none, Option.isSome_none, eq_self, Bool.not_true, Bool.not_false, Int.reduceEq, Int.reduceNe, Int.reduceLT, Int.reduceLE, Int.reduceGT, Int.reduceGE, c]))
      rw [if_pos (.inr ho)] at hcut
      exact nil hcut.symm w2 hx02
    have c : decide (o ≥ totE l) = false := by simpa using ho
    (repeat (simp only [XP_extract0, XP_extract1, XP_extract2, XP_extract3, X_extract0, X_extract1, X_extract2, X_extract3, X_nilS, X_eql_nil_24, X_neq_nil_24, X_eql_nil_103, X_neq_nil_103, X_eql, X_neq, X_lss, X_leq, X_gtr, X_geq, X_not, X_min, X_max, X_len_79, X_len_35, XP_nilS, XP_eql, XP_neq, XP_lss, XP_leq, XP_gtr, XP_geq, XP_not, XP_min, XP_max, XP_len_79, XP_eql_nil_24, X_str_eql, X_str_neq, XP_str_eql, XP_str_neq, GS, gs_u, decide_true, decide_false, Option.isNone_some, Option.isSome_some, Option.isNone_none, Option.isSome_none, eq_self, Bool.not_true, Bool.not_false, Int.reduceEq, Int.reduceNe, Int.reduceLT, Int.reduceLE, Int.reduceGT, Int.reduceGE, c]))
    rw [if_neg (by omega)] at hcut
    refine joinS_of (fun ρ2 wr => ∃ to : Int, 0 ≤ to ∧ to ≤ totE l ∧ refCut l 0 o to = refSlice l off n ∧ wr = w2 ∧ ρ2 0 = v ∧ ρ2 8 = .int .i64 o ∧ ρ2 9 = .int .i64 to) ?_ ?_
    · rintro ρ2 wr ⟨to, c1, c2, hcut, rfl, q0, q8, q9⟩
      refine loopE (fun ρ wr' => ∃ (i : Nat) (out : List Ex) (vo : Value), i ≤ l.length ∧ out.length ≤ i ∧ Ext w wr' ∧ OwnK 35 72 Ex.cs wr' w.heap.size vo out ∧ out ++ refCut (l.drop i) (totE (l.take i)) o to = refSlice l off n ∧
          ρ 12 = .int .i64 (i : Int) ∧ ρ 11 = .int .i64 (totE (l.take i)) ∧ ρ 10 = vo ∧ ρ 0 = v ∧ ρ 8 = .int .i64 o ∧ ρ 9 = .int .i64 to)
        (fun ρ wr' => match ρ 12 with | .int _ s => (l.length - s).toNat | _ => 0)
        (fun ρ wr' => ∃ vo : Value, Ext w wr' ∧ OwnK 35 72 Ex.cs wr' w.heap.size vo (refSlice l off n) ∧ ρ 10 = vo) ?_ ?_ ?_
      · exact ⟨0, [], _, by omega, by simp, hx02, ownK_nil _ _, hcut, rfl, rfl, rfl, q0, q8, q9⟩
      · rintro J hJ ρ wr' ⟨i, out, vo, hi, hol, hx, hown, heq, r12, r11, r10, r0, r8, r9⟩
        rw [r12, r11, r10, r0, r8, r9, ev, X_len_59, X_lss, condS_bool, ← ev]
        by_cases hie : i = l.length
        · rw [if_neg (by simp; omega)]
          rw [hie, List.drop_length] at heq
          have heq' : out = refSlice l off n := by simpa [refCut] using heq
          rw [heq'] at hown
          exact hJ _ _ ⟨vo, hx, hown, r10⟩
        rw [if_pos (by simp; omega)]
        have hlt : i < l.length := by omega
        have hri := hr.2 _ (List.getElem_mem hlt)
        have hts := totE_succ l i hlt
        obtain ⟨ta1, ta2⟩ := totE_bound hr.2 i
        rw [List.length_take] at ta2
        rw [List.drop_eq_getElem_cons hlt] at heq
        obtain ⟨g, ofs, hix, hc⟩ := ext_at (hl.ext hx) hlt
        have hcells := fun {w'} (h : RowK 35 Ex.cs w' v l) => ext_cells (w := w) hlt hix h
        generalize l[i] = e at heq hri hts hc hcells
        unfold right1 at hri
        rw [X_max]
        refine X_of (hix _) ?_
        rw [X_field_72_2]
        refine X_of (run_loadAt agg_3 (hc 34 _ e.lenAt)) ?_
        rw [X_add, w64 (by omega) (by omega), X_min]
        refine joinS_of (fun ρ4 w4 => ∃ (out : List Ex) (vo : Value), out.length ≤ i + 1 ∧ Ext w w4 ∧ OwnK 35 72 Ex.cs w4 w.heap.size vo out ∧ out ++ refCut (l.drop (i + 1)) (totE (l.take (i + 1))) o to = refSlice l off n ∧
          ρ4 12 = .int .i64 (i : Int) ∧ ρ4 11 = .int .i64 (totE (l.take i)) ∧ ρ4 10 = vo ∧ ρ4 0 = v ∧ ρ4 8 = .int .i64 o ∧ ρ4 9 = .int .i64 to) ?_ ?_
        · rintro ρ4 w4 ⟨out, vo, g0, g1, g2, g3, p12, p11, p10, p0, p8, p9⟩
          rw [p12, p11, p0]
          refine X_of (hix _) ?_
          rw [X_field_72_2]
          refine X_of (run_loadAt agg_3 (hcells (hl.ext g1) 34 _ e.lenAt)) ?_
          rw [X_add, w64 (by omega) (by omega), X_add, ← hts]
          show _ ∧ _
          refine ⟨⟨i + 1, out, vo, by omega, g0, g1, g2, g3, next64 (n := 1000000) (by decide) (by omega), rfl, p10, p0, p8, p9⟩, ?_⟩
          show (_ - IntKind.i64.wrap _).toNat < _
          rw [w64 (by omega) (by omega)]
          first | omega | (show _ < (_ : Int).toNat; omega)
        · intro J4 hJ4
          unfold refCut at heq
          rw [← hts] at heq
          rw [X_lss, condS_bool, ← hts]
          by_cases hlh : max o (totE (l.take i)) < min to (totE (l.take (i + 1)))
          · rw [if_pos (by simpa using hlh)]
            rw [if_pos hlh] at heq
            have hxd := hx.trans (Keep.drew (fun _ => False) wr')
            have hownd := hown.ext (Keep.drew (fun _ => False) wr')
            refine ⟨Keep (fun q => vo.ownBlock = some q), Keep.frame _, ?_⟩
            generalize drewW wr' = wd at hxd hownd ⊢
            have hlk : ∀ {w'}, Keep (fun q => vo.ownBlock = some q) wd w' → RowK 35 Ex.cs w' v l := fun kk => (hl.ext hxd).keep kk (fun h0 b hb hb' => by
              have h1 := hl.blk_lt h0 (fun x _ => by rw [Ex.cs_len]; omega) b hb
              have h2 := (hown.lt b hb').1
              omega)
            refine XP_of hix ?_
            rw [XP_field_72_0]
            refine XR_ok (Keep.frame _) (fun w' kk => load_cells Try.underlying44 agg_44 info_44 (l := e.k.cs) (by rw [sz_44, Ky.cs_len]) (fun j u hj => by rw [add_plain]; exact hcells (hlk kk) j u (e.keyAt hj))) ?_
            refine XP_of hix ?_
            rw [XP_field_72_1]
            refine XR_ok (Keep.frame _) (fun w' kk => run_loadAt agg_3 (hcells (hlk kk) 33 _ e.offAt)) ?_
            rw [XP_add, w64 (by omega) (by omega), XP_sub, XP_sub]
            refine XP_of (fun w' => run_build_72 e.k (e.off + max o (totE (l.take i)) - totE (l.take i)) (min to (totE (l.take (i + 1))) - max o (totE (l.take i))) w') ?_
            refine X_buildSliceK Try.underlying59 el_72 (by decide) (by decide) (Ex.cs_len _) ?_
            generalize mkEx e.k (e.off + max o (totE (l.take i)) - totE (l.take i)) (min to (totE (l.take (i + 1))) - max o (totE (l.take i))) = ne at heq ⊢
            have hx3 := newB_ext wd ne.cs.toArray 72
            have hg3 := newB_get wd ne.cs.toArray 72
            show Keep _ wd (newB wd ne.cs.toArray 72) ∧ X _ _ (newB wd ne.cs.toArray 72) _
            generalize newB wd ne.cs.toArray 72 = w3 at hx3 hg3 ⊢
            refine ⟨Keep.ext hx3, ?_⟩
            have hrow : RowK 35 Ex.cs w3 (.slice (some ⟨wd.heap.size, 0, none⟩) 1 1) [ne] := by
              refine RowK.ofK (T := 72) (fr := (0, 0)) (by decide) Ex.cs_len ?_ rfl (by decide)
              rw [hg3]
              unfold cellsK
              simp
            refine X_appendK Try.underlying59 el_72 (by decide) Ex.cs_len (fun x hx => by rw [List.mem_singleton.1 hx]; exact Ex.one ne) (hownd.ext hx3) hrow (by simp; omega) (by decide) (hxd.trans hx3).size ?_
            intro v' w5 ho5 hk5
            refine ⟨hk5.mono (fun q _ h => h.symm), ?_⟩
            exact hJ4 _ _ ⟨out ++ [ne], v', by simp; omega, Ext.seq (hxd.trans hx3) hk5 (fun q hq => (hown.lt q hq.symm).1), ho5, by rw [List.append_assoc]; exact heq, r12, r11, rfl, r0, r8, r9⟩
          · rw [if_neg (by simpa using hlh)]
            rw [if_neg hlh, List.nil_append] at heq
            exact hJ4 _ _ ⟨out, vo, by omega, hx, hown, heq, r12, r11, r10, r0, r8, r9⟩
      · rintro ρ wr' ⟨vo, hx, hown, r10⟩
        rw [r10]
        exact hK vo wr' hx hown
    · intro J2 hJ2
      rw [X_sub, w64 (by omega) (by omega), X_lss, condS_bool]
      by_cases hmt : m < totE l - o
      · rw [if_pos (by simpa using hmt), X_add, w64 (by omega) (by omega)]
        rw [if_pos hmt] at hcut
        exact hJ2 _ _ ⟨o + m, by omega, by omega, hcut, rfl, r0, rfl, rfl⟩
      · rw [if_neg (by simpa using hmt)]
        rw [if_neg hmt] at hcut
        exact hJ2 _ _ ⟨totE l, by omega, by omega, hcut, rfl, r0, rfl, rfl⟩
  · intro J1 hJ1
    rw [condS_bool]
    by_cases hneg : off < 0
    · rw [if_pos (by simpa using hneg), X_add, w64 (by omega) (by omega)]
      simp only [if_pos hneg] at hs
      exact hJ1 _ _ ⟨0, n + off, by omega, by omega, by omega, by omega, hs.symm, rfl, rfl, rfl, rfl⟩
    · rw [if_neg (by simpa using hneg)]
      simp only [if_neg hneg] at hs
      exact hJ1 _ _ ⟨off, n, by omega, by omega, by omega, by omega, hs.symm, rfl, rfl, rfl, rfl⟩
end
end Go.Proofs.Ytlnkdphecinnnaa
end
section
/- Lists joined: plain Lean, and rows of the call's own whose last item grows. -/
set_option linter.unusedVariables false
set_option linter.unusedSimpArgs false
namespace Go.Proofs.Ytlnkdphecinnnaa
open Go Go.Sh Go.RowKit
attribute [local irreducible] X XU XP XR CALL loopS resC closS
/-- An extent with another length. -/
def mrg (p : Ex) (n : Int) : Ex := ⟨p.k, p.off, IntKind.i64.wrap n, p.o1, p.o2, wrap_lo n, wrap_hi n⟩
def Fits (p x : Ex) : Prop := p.k = x.k ∧ p.off + p.len = x.off
instance (p x : Ex) : Decidable (Fits p x) := inferInstanceAs (Decidable (_ ∧ _))
/-- One more extent is joined to a list. -/
def put1 (out : List Ex) (x : Ex) : List Ex :=
  if h : 0 < out.length then if Fits (out[out.length - 1]'(by omega)) x then out.take (out.length - 1) ++ [mrg (out[out.length - 1]'(by omega)) ((out[out.length - 1]'(by omega)).len + x.len)] else out ++ [x] else out ++ [x]
def joinL (l : List Ex) : List Ex := l.foldl put1 []
def joinE (ls : List (List Ex)) : List Ex := if (∀ p ∈ ls, RightP p) ∧ RightP (joinL ls.flatten) then joinL ls.flatten else []
theorem put1_none {out : List Ex} {x : Ex} (h : out.length = 0) : put1 out x = out ++ [x] := by unfold put1; rw [dif_neg (by omega)]
theorem put1_yes {out : List Ex} {x : Ex} {n : Nat} (h : n + 1 = out.length) (hf : Fits (out[n]'(by omega)) x) : put1 out x = out.take n ++ [mrg (out[n]'(by omega)) ((out[n]'(by omega)).len + x.len)] := by
  have e : n = out.length - 1 := by omega
  subst e
  unfold put1
  rw [dif_pos (by omega), if_pos hf]
theorem put1_no {out : List Ex} {x : Ex} {n : Nat} (h : n + 1 = out.length) (hf : ¬ Fits (out[n]'(by omega)) x) : put1 out x = out ++ [x] := by
  have e : n = out.length - 1 := by omega
  subst e
  unfold put1
  rw [dif_pos (by omega), if_neg hf]
theorem set_last {α : Type} {l : List α} {n : Nat} (h : n + 1 = l.length) (x : α) : l.set n x = l.take n ++ [x] := by
  apply List.ext_getElem?
  intro i
  by_cases hi : i = n
  · subst hi
    rw [List.getElem?_set_self (by omega), List.getElem?_append_right (by simp; omega)]
    have : i - (l.take i).length = 0 := by simp; omega
    rw [this]; rfl
  · rw [List.getElem?_set_ne (by omega)]
    by_cases h2 : i < n
    · rw [List.getElem?_append_left (by simp; omega), List.getElem?_take, if_pos h2]
    · rw [List.getElem?_append_right (by simp; omega), List.getElem?_eq_none (by omega), List.getElem?_eq_none (by simp; omega)]
theorem put1_len (out : List Ex) (x : Ex) : (put1 out x).length ≤ out.length + 1 := by
  by_cases h : out.length = 0
  · rw [put1_none h]; simp
  · have hn : out.length - 1 + 1 = out.length := by omega
    by_cases hf : Fits (out[out.length - 1]'(by omega)) x
    · rw [put1_yes hn hf]; simp
    · rw [put1_no hn hf]; simp
theorem right_mrg {p x : Ex} (hp : right1 p) (hx : right1 x) (h : Fits p x) : right1 (mrg p (p.len + x.len)) ∧ (mrg p (p.len + x.len)).len = p.len + x.len := by
  obtain ⟨_, h2⟩ := h
  unfold right1 at hp hx ⊢
  have e : (mrg p (p.len + x.len)).len = p.len + x.len := w64 (by omega) (by omega)
  refine ⟨?_, e⟩
  have e2 : (mrg p (p.len + x.len)).off = p.off := rfl
  rw [e, e2]
  omega
theorem put1_right {out : List Ex} {x : Ex} (ho : ∀ e ∈ out, right1 e) (hx : right1 x) : ∀ e ∈ put1 out x, right1 e := by
  intro e he
  by_cases h : out.length = 0
  · rw [put1_none h] at he
    rcases List.mem_append.1 he with he | he
    · exact ho e he
    · rw [List.mem_singleton.1 he]; exact hx
  · have hn : out.length - 1 + 1 = out.length := by omega
    by_cases hf : Fits (out[out.length - 1]'(by omega)) x
    · rw [put1_yes hn hf] at he
      rcases List.mem_append.1 he with he | he
      · exact ho e (List.mem_of_mem_take he)
      · rw [List.mem_singleton.1 he]; exact (right_mrg (ho _ (List.getElem_mem _)) hx hf).1
    · rw [put1_no hn hf] at he
      rcases List.mem_append.1 he with he | he
      · exact ho e he
      · rw [List.mem_singleton.1 he]; exact hx
theorem joinL_snoc (l : List Ex) (x : Ex) : joinL (l ++ [x]) = put1 (joinL l) x := by
  unfold joinL
  rw [List.foldl_append]
  rfl
theorem joinL_inv (l : List Ex) (h : ∀ e ∈ l, right1 e) : (joinL l).length ≤ l.length ∧ ∀ e ∈ joinL l, right1 e := by
  suffices ∀ (l : List Ex) (out : List Ex), (∀ e ∈ l, right1 e) → (∀ e ∈ out, right1 e) → (l.foldl put1 out).length ≤ out.length + l.length ∧ ∀ e ∈ l.foldl put1 out, right1 e by
    have := this l [] h (by simp)
    simpa [joinL] using this
  intro l
  induction l with
  | nil => intro out _ ho; exact ⟨by simp, ho⟩
  | cons x l ih =>
    intro out hl ho
    have h1 := put1_len out x
    obtain ⟨a, b⟩ := ih (put1 out x) (fun e he => hl e (by simp [he])) (put1_right ho (hl x (by simp)))
    refine ⟨?_, b⟩
    simp only [List.foldl_cons, List.length_cons]
    omega
/-- What is joined when i lists and j extents more are done. -/
def doneE (ls : List (List Ex)) (i j : Nat) : List Ex := (ls.take i).flatten ++ (ls.getD i []).take j
theorem done_zero (ls : List (List Ex)) (i : Nat) : doneE ls i 0 = (ls.take i).flatten := by simp [doneE]
theorem done_step {ls : List (List Ex)} {i j : Nat} (h : i < ls.length) (h2 : j < ls[i].length) : doneE ls i (j + 1) = doneE ls i j ++ [ls[i][j]] := by
  unfold doneE
  have : ls.getD i [] = ls[i] := by rw [List.getD_eq_getElem?_getD, List.getElem?_eq_getElem h]; rfl
  rw [this, List.take_succ_eq_append_getElem h2, List.append_assoc]
theorem done_full {ls : List (List Ex)} {i : Nat} (h : i < ls.length) : doneE ls i ls[i].length = (ls.take (i + 1)).flatten := by
  unfold doneE
  have : ls.getD i [] = ls[i] := by rw [List.getD_eq_getElem?_getD, List.getElem?_eq_getElem h]; rfl
  rw [this, List.take_length, List.take_succ_eq_append_getElem h, List.flatten_append]
  simp
theorem done_len {ls : List (List Ex)} {i j : Nat} (h : i < ls.length) : (doneE ls i j).length ≤ ls.flatten.length := by
  have e : ls = ls.take i ++ ls[i] :: ls.drop (i + 1) := by rw [← List.drop_eq_getElem_cons h, List.take_append_drop]
  have e2 : ls.flatten.length = (ls.take i).flatten.length + (ls[i].length + (ls.drop (i + 1)).flatten.length) := by
    conv => lhs; rw [e]
    rw [List.flatten_append, List.flatten_cons, List.length_append, List.length_append]
  unfold doneE
  have : ls.getD i [] = ls[i] := by rw [List.getD_eq_getElem?_getD, List.getElem?_eq_getElem h]; rfl
  rw [this, List.length_append, List.length_take, e2]
  omega
theorem done_right {ls : List (List Ex)} {i j : Nat} (h : i < ls.length) (hr : ∀ p ∈ ls.take i, RightP p) (hi : RightP ls[i]) : ∀ e ∈ doneE ls i j, right1 e := by
  intro e he
  unfold doneE at he
  have : ls.getD i [] = ls[i] := by rw [List.getD_eq_getElem?_getD, List.getElem?_eq_getElem h]; rfl
  rw [this] at he
  rcases List.mem_append.1 he with he | he
  · obtain ⟨p, hp, hep⟩ := List.mem_flatten.1 he
    exact (hr p hp).2 e hep
  · exact hi.2 e (List.mem_of_mem_take he)
theorem own_set {w : World} {base e k n : Nat} {v : Value} {cells : List Value} (ho : w.ownsRow base e k v n cells) {p : Nat} (hp : p < n * k) :
    ∃ g cap cur, v = .slice (some ⟨g, 0, none⟩) n cap ∧ base ≤ g ∧ w.heap[g]? = some (.cells cur e (0, 0)) ∧ p < cur.size ∧
      ∀ (w2 : World) (u : Value), w2.heap[g]? = some (.cells cur e (0, 0)) → (setAt w2 g (cur.setIfInBounds p u) e (0, 0)).ownsRow base e k v n (cells.set p u) := by
  have hl : cells.length = n * k := ho.1
  rcases id ho.2 with ⟨_, h0⟩ | ⟨g, cap, cur, hv, hg, hh, hn, hm, hs, ht⟩
  · subst h0; omega
  · have hcs : n * k ≤ cur.size := by
      have := congrArg List.length ht
      rw [List.length_take, hl, Array.length_toList] at this
      omega
    refine ⟨g, cap, cur, hv, hg, hh, by omega, fun w2 u h2 => ⟨by simp [hl], .inr ⟨g, cap, _, hv, hg, setAt_same (lt_of_blk h2), hn, hm, by simpa using hs, ?_⟩⟩⟩
    rw [← ht]
    simp [List.take_set]
theorem Ex.csLen : ∀ x : Ex, (Ex.cs x).length = 35 := Ex.cs_len
theorem mrg_cs (p : Ex) (m : Int) : (mrg p m).cs = p.k.cs ++ [.int .i64 p.off, .int .i64 (IntKind.i64.wrap m)] := rfl
theorem cellsE_set (ps : List Ex) (i : Nat) (h : i < ps.length) (m : Int) : cellsK Ex.cs (ps.set i (mrg ps[i] m)) = (cellsK Ex.cs ps).set (i * 35 + 34) (.int .i64 (IntKind.i64.wrap m)) := by
  have hlen := cellsK_len Ex.csLen ps
  apply List.ext_getElem?
  intro p
  rw [cellsK_get (by decide) Ex.csLen]
  by_cases hpi : p / 35 = i
  · subst hpi
    rw [List.getElem?_set_self h, Option.bind_some]
    by_cases h33 : p % 35 = 34
    · have e : p / 35 * 35 + 34 = p := by omega
      have hlt : p < (cellsK Ex.cs ps).length := by rw [hlen]; omega
      rw [e, List.getElem?_set_self hlt, h33]
      exact Ex.lenAt _
    · rw [List.getElem?_set_ne (by omega), cellsK_get (by decide) Ex.csLen, List.getElem?_eq_getElem h, Option.bind_some]
      rw [mrg_cs]
      unfold Ex.cs
      have hk : ps[p / 35].k.cs.length = 33 := Ky.cs_len _
      have hm : p % 35 < 34 := by omega
      have e1 : ∀ z : Value, ps[p / 35].k.cs ++ [Value.int .i64 ps[p / 35].off, z] = (ps[p / 35].k.cs ++ [Value.int .i64 ps[p / 35].off]) ++ [z] := fun z => by simp
      have e2 : p % 35 < (ps[p / 35].k.cs ++ [Value.int .i64 ps[p / 35].off]).length := by rw [List.length_append, List.length_singleton]; omega
      rw [e1, e1, List.getElem?_append_left e2, List.getElem?_append_left e2]
  · rw [List.getElem?_set_ne (by omega), List.getElem?_set_ne (by omega), cellsK_get (by decide) Ex.csLen]
/-- An item of a row of the call's own, where it lies, and what comes of a new length. -/
theorem own_at {w : World} {base : Nat} {v : Value} {out : List Ex} (ho : OwnK 35 72 Ex.cs w base v out) {n : Nat} (hn : n < out.length) :
    ∃ g cur, v.ownBlock = some g ∧ base ≤ g ∧ w.heap[g]? = some (.cells cur 72 (0, 0)) ∧ n * 35 + 34 < cur.size ∧ (∀ w', (Instr.indexAt 59 v (.int .i64 (n : Int))).run Try.prog w' = .ok (.pointer (some ⟨g, n * 35, none⟩)) w') ∧
      (∀ j u, out[n].cs[j]? = some u → cur[n * 35 + j]? = some u) ∧ ∀ (w2 : World) (m : Int), w2.heap[g]? = some (.cells cur 72 (0, 0)) → OwnK 35 72 Ex.cs (setAt w2 g (cur.setIfInBounds (n * 35 + 34) (.int .i64 (IntKind.i64.wrap m))) 72 (0, 0)) base v (out.set n (mrg out[n] m)) := by
  obtain ⟨g, cap, cur, hv, hg, hh, hp, hset⟩ := own_set ho (p := n * 35 + 34) (by omega)
  refine ⟨g, cur, by rw [hv]; rfl, hg, hh, hp, ?_, ?_, ?_⟩
  · intro w'
    have := ix Try.underlying59 info_72 (a := ⟨g, 0, none⟩) (n := out.length) (c := cap) (k := .i64) (ii := (n : Int)) n rfl hn w'
    rw [sz_72, add_plain, Nat.zero_add] at this
    rw [hv]
    exact this
  · intro j u hu
    obtain ⟨g2, o2, hix, hc⟩ := ext_at (OwnK.rowK (by decide) Ex.csLen ho) hn
    have := ix Try.underlying59 info_72 (a := ⟨g, 0, none⟩) (n := out.length) (c := cap) (k := .i64) (ii := (n : Int)) n rfl hn w
    rw [sz_72, add_plain, Nat.zero_add, ← hv] at this
    have h := (hix w).symm.trans this
    simp only [Result.ok.injEq, Value.pointer.injEq, Option.some.injEq, Addr.mk.injEq, and_true] at h
    obtain ⟨h1, h2⟩ := h
    subst h1; subst h2
    have := hc j u hu
    rw [cell_blk hh] at this
    exact this
  · intro w2 m h2
    have := hset w2 (.int .i64 (IntKind.i64.wrap m)) h2
    rw [← cellsE_set out n hn m] at this
    unfold OwnK
    rw [List.length_set]
    exact this
/-- The first items of a row of the call's own. -/
theorem own_take {w : World} {base : Nat} {v : Value} {out : List Ex} (ho : OwnK 35 72 Ex.cs w base v out) {n : Nat} (hn : n < out.length) :
    ∃ u, (∀ w', (Instr.sliceAt 59 v none (some (.int .i64 (n : Int))) none).run Try.prog w' = .ok u w') ∧ u.ownBlock = v.ownBlock ∧ OwnK 35 72 Ex.cs w base u (out.take n) := by
  rcases id ho.2 with ⟨_, h0⟩ | ⟨g, cap, cur, hv, hg, hh, hn', hm, hs, ht⟩
  · omega
  · refine ⟨.slice (some ⟨g, 0, none⟩) n cap, fun w' => ?_, by rw [hv]; rfl, ?_⟩
    · rw [hv]
      exact sl_hi Try.underlying59 info_72 n rfl (by omega) w'
    · have hlt : (out.take n).length = n := by rw [List.length_take]; omega
      have e : cellsK Ex.cs (out.take n) = (cellsK Ex.cs out).take (n * 35) := by
        have h1 : cellsK Ex.cs out = cellsK Ex.cs (out.take n) ++ cellsK Ex.cs (out.drop n) := by rw [← cellsK_append, List.take_append_drop]
        have h2 : (cellsK Ex.cs (out.take n)).length = n * 35 := by rw [cellsK_len Ex.csLen, hlt]
        rw [h1]
        exact (List.take_left' h2).symm
      unfold OwnK
      rw [hlt]
      refine ⟨by rw [cellsK_len Ex.csLen, hlt], .inr ⟨g, cap, cur, rfl, hg, hh, by omega, hm, hs, ?_⟩⟩
      rw [e, ← ht, List.take_take, Nat.min_eq_left (Nat.mul_le_mul_right 35 (by omega))]
/-- A row of rows. -/
def RowsE (w : World) (v : Value) (ls : List (List Ex)) : Prop := ∃ us : List Value, RowK 1 (fun u : Value => [u]) w v us ∧ us.length = ls.length ∧ ∀ (i : Nat) (u : Value) (l : List Ex), us[i]? = some u → ls[i]? = some l → RowK 35 Ex.cs w u l
theorem RowsE.ext {w w1 : World} {v : Value} {ls : List (List Ex)} (h : RowsE w v ls) (k : Ext w w1) : RowsE w1 v ls := by
  obtain ⟨us, h1, h2, h3⟩ := h
  exact ⟨us, h1.ext k, h2, fun i u l hu hl => (h3 i u l hu hl).ext k⟩
theorem RowsE.slice {w : World} {v : Value} {ls : List (List Ex)} (h : RowsE w v ls) : ∃ a c, v = .slice a ls.length c := by
  obtain ⟨us, h1, h2, h3⟩ := h
  rw [← h2]
  exact h1.slice
theorem X_row {w0 w : World} {v : Value} {ls : List (List Ex)} {i : Nat} (h : RowsE w0 v ls) (hx : Ext w0 w) (hi : i < ls.length) {K : Value → Value → World → Prop} (hK : ∀ p u, RowK 35 Ex.cs w0 u ls[i] → (∀ w1, Ext w0 w1 → (Instr.indexAt 64 v (.int .i64 (i : Int))).run Try.prog w1 = .ok p w1 ∧ (Instr.loadAt 59 p).run Try.prog w1 = .ok u w1) → K p u w) :
    X Try.prog (Instr.indexAt 64 v (.int .i64 (i : Int))) w fun p w1 => X Try.prog (Instr.loadAt 59 p) w1 fun u w2 => K p u w2 := by
  obtain ⟨us, h1, h2, h3⟩ := h
  have hi' : i < us.length := by omega
  obtain ⟨a, hix, hc⟩ := h1.at Try.underlying64 info_59 sz_59 (kd := .i64) (ii := (i : Int)) i rfl hi'
  have h0 := hc 0 us[i] rfl
  have e : a.add 0 = a := by simp [Addr.add]
  rw [e] at h0
  refine X_of (hix w) ?_
  refine X_of (run_loadAt agg_59 (hx.cell (fun h => h) h0)) ?_
  exact hK _ _ (h3 i _ _ (List.getElem?_eq_getElem hi') (List.getElem?_eq_getElem hi)) (fun w1 hx => ⟨hix w1, run_loadAt agg_59 (hx.cell (fun h => h) h0)⟩)
theorem joinE_bad {ls : List (List Ex)} {p : List Ex} (h : p ∈ ls) (hr : ¬ RightP p) : joinE ls = [] := if_neg (fun h' => hr (h'.1 p h))
end Go.Proofs.Ytlnkdphecinnnaa
end
section
/- extent.Join. -/
set_option linter.unusedVariables false
set_option linter.unusedSimpArgs false
namespace Go.Proofs.Ytlnkdphecinnnaa
open Go Go.Sh Go.RowKit
attribute [local irreducible] X XU XP XR CALL loopS resC closS
section
variable {w : World} {K : Value → World → Prop}
set_option maxHeartbeats 2000000 in
theorem Join_spec {v : Value} {ls : List (List Ex)} (hv : RowsE w v ls) (hn : ls.flatten.length ≤ 1000000) (hls : ls.length ≤ 1000000) (hK : ∀ u w1, Ext w w1 → OwnK 35 72 Ex.cs w1 w.heap.size u (joinE ls) → K u w1) : CALL Try.prog 33 #[v] w K := by
  obtain ⟨a, c, ev⟩ := hv.slice
  have nil : joinE ls = [] → ∀ w1, Ext w w1 → K (.slice none 0 0) w1 := fun h w1 hx => hK _ w1 hx (by rw [h]; exact ownK_nil _ _)
  apply call_extent_Join
  unfold B_extent_Join
  rw [ev, X_len_64, ← ev]
  refine loopGR 0 (fun ρ wr => ∃ (i : Nat) (vo : Value), i ≤ ls.length ∧ Ext w wr ∧ OwnK 35 72 Ex.cs wr w.heap.size vo (joinL (ls.take i).flatten) ∧ (∀ p ∈ ls.take i, RightP p) ∧ ρ 11 = .int .i64 (i : Int) ∧ ρ 10 = .int .i64 (ls.length : Int) ∧ ρ 9 = v ∧ ρ 3 = vo)
    (fun ρ wr => match ρ 11 with | .int _ s => (ls.length - s).toNat | _ => 0)
    (fun ρ wr => ∃ vo : Value, Ext w wr ∧ OwnK 35 72 Ex.cs wr w.heap.size vo (joinL ls.flatten) ∧ (∀ p ∈ ls, RightP p) ∧ ρ 3 = vo)
    (fun ρ wr => Ext w wr ∧ joinE ls = [] ∧ ρ 2 = .slice none 0 0) ?_ ?_ ?_ ?_
  · exact ⟨0, _, by omega, Keep.refl _ _, ownK_nil _ _, by simp, rfl, rfl, rfl, rfl⟩
  · rintro J hJ hJR ρ wr ⟨i, vo, hi, hx, ho, hr, r11, r10, r9, r3⟩
    rw [r11, r10, r9, X_lss, condS_bool]
    by_cases hie : i = ls.length
    · rw [if_neg (by simp; omega)]
      rw [hie, List.take_of_length_le (Nat.le_refl _)] at hr ho
      exact hJ _ _ ⟨vo, hx, ho, hr, r3⟩
    rw [if_pos (by simp; omega)]
    have hlt : i < ls.length := by omega
    refine X_row hv hx hlt ?_
    intro p u hu _
    refine Right_spec (hu.ext hx) ?_
    intro w1 hx1
    have hx01 := hx.trans hx1
    by_cases hri : RightP ls[i]
    case neg =>
      have c : decide (RightP ls[i]) = false := decide_eq_false hri
      (repeat (simp only [XP_extract0, XP_extract1, XP_extract2, XP_extract3, X_extract0, X_extract1, X_extract2, X_extract3, X_nilS, X_eql_nil_24, X_neq_nil_24, X_eql_nil_103, X_neq_nil_103, X_eql, X_neq, X_lss, X_leq, X_gtr, X_geq, X_not, X_min, X_max, X_len_79, X_len_35, XP_nilS, XP_eql, XP_neq, XP_lss, XP_leq, XP_gtr, XP_geq, XP_not, XP_min, XP_max, XP_len_79, XP_eql_nil_24, X_str_eql, X_str_neq, XP_str_eql, XP_str_neq, GS, gs_u, decide_true, decide_false, Option.isNone_some, Option.isSome_some, Option.isNone_none, Option.isSome_none, eq_self, Bool.not_true, Bool.not_false, Int.reduceEq, Int.reduceNe, Int.reduceLT, Int.reduceLE, Int.reduceGT, Int.reduceGE, c]))
      exact hJR _ _ ⟨hx01, joinE_bad (List.getElem_mem hlt) hri, rfl⟩
    have c : decide (RightP ls[i]) = true := decide_eq_true hri
    (repeat (simp only [XP_extract0, XP_extract1, XP_extract2, XP_extract3, X_extract0, X_extract1, X_extract2, X_extract3, X_nilS, X_eql_nil_24, X_neq_nil_24, X_eql_nil_103, X_neq_nil_103, X_eql, X_neq, X_lss, X_leq, X_gtr, X_geq, X_not, X_min, X_max, X_len_79, X_len_35, XP_nilS, XP_eql, XP_neq, XP_lss, XP_leq, XP_gtr, XP_geq, XP_not, XP_min, XP_max, XP_len_79, XP_eql_nil_24, X_str_eql, X_str_neq, XP_str_eql, XP_str_neq, GS, gs_u, decide_true, decide_false, Option.isNone_some, Option.isSome_some, Option.isNone_none, Option.isSome_none, eq_self, Bool.not_true, Bool.not_false, Int.reduceEq, Int.reduceNe, Int.reduceLT, Int.reduceLE, Int.reduceGT, Int.reduceGE, c]))
    obtain ⟨a1, c1, eu⟩ := hu.slice
    rw [eu, X_len_59, ← eu]
    have hlen := hri.1
    refine loopG 2 (fun ρ2 wr => ∃ (j : Nat) (vo : Value), j ≤ ls[i].length ∧ Ext w wr ∧ OwnK 35 72 Ex.cs wr w.heap.size vo (joinL (doneE ls i j)) ∧ ρ2 20 = .int .i64 (j : Int) ∧ ρ2 19 = .int .i64 (ls[i].length : Int) ∧ ρ2 18 = u ∧ ρ2 3 = vo ∧ ρ2 11 = .int .i64 (i : Int) ∧ ρ2 10 = .int .i64 (ls.length : Int) ∧ ρ2 9 = v)
      (fun ρ2 wr => match ρ2 20 with | .int _ s => (ls[i].length - s).toNat | _ => 0)
      (fun ρ2 wr => ∃ (vo : Value), Ext w wr ∧ OwnK 35 72 Ex.cs wr w.heap.size vo (joinL (doneE ls i ls[i].length)) ∧ ρ2 3 = vo ∧ ρ2 11 = .int .i64 (i : Int) ∧ ρ2 10 = .int .i64 (ls.length : Int) ∧ ρ2 9 = v) ?_ ?_ ?_
    · refine ⟨0, vo, by omega, hx01, ?_, rfl, rfl, rfl, r3, r11, r10, r9⟩
      rw [done_zero]
      exact ho.ext hx1
    · rintro J2 hJ2 ρ2 wr2 ⟨j, vo, hj, hx2, ho2, q20, q19, q18, q3, q11, q10, q9⟩
      rw [q20, q19, q18, q3, X_lss, condS_bool]
      by_cases hje : j = ls[i].length
      · rw [if_neg (by simp; omega)]
        rw [hje] at ho2
        exact hJ2 _ _ ⟨vo, hx2, ho2, q3, q11, q10, q9⟩
      rw [if_pos (by simp; omega)]
      have hjlt : j < ls[i].length := by omega
      have hds := done_step hlt hjlt
      have hdr := done_right (j := j) hlt hr hri
      have hdl := done_len (j := j) hlt
      obtain ⟨hol, hor⟩ := joinL_inv _ hdr
      refine joinS_of (fun ρ3 w3 => ∃ (vo : Value), Ext w w3 ∧ OwnK 35 72 Ex.cs w3 w.heap.size vo (joinL (doneE ls i (j + 1))) ∧ ρ3 20 = .int .i64 (j : Int) ∧ ρ3 19 = .int .i64 (ls[i].length : Int) ∧ ρ3 18 = u ∧ ρ3 3 = vo ∧ ρ3 11 = .int .i64 (i : Int) ∧ ρ3 10 = .int .i64 (ls.length : Int) ∧ ρ3 9 = v) ?_ ?_
      · rintro ρ3 w3 ⟨vo, g1, g3, p20, p19, p18, p3, p11, p10, p9⟩
        rw [p20, X_add]
        show _ ∧ _
        refine ⟨⟨j + 1, vo, by omega, g1, g3, next64 (n := 1000000) (by decide) (by omega), p19, p18, p3, p11, p10, p9⟩, ?_⟩
        show (_ - IntKind.i64.wrap _).toNat < _
        rw [w64 (by omega) (by omega)]
        first | omega | (show _ < (_ : Int).toNat; omega)
      · intro J3 hJ3
        refine X_takeExt (hu.ext hx2) hjlt ?_
        intro u1 u2 q w4 hx4 hq hqb
        rw [hds, joinL_snoc] at hJ3
        have hrx := hri.2 _ (List.getElem_mem hjlt)
        generalize ls[i][j] = x at hJ3 hqb hrx
        generalize joinL (doneE ls i j) = out at hJ3 ho2 hol hor
        have hx04 := hx2.trans hx4
        have ho4 := ho2.ext hx4
        have hol' : out.length ≤ 1000000 := by omega
        refine joinS_of (fun ρ4 w5 => put1 out x = out ++ [x] ∧ Ext w w5 ∧ OwnK 35 72 Ex.cs w5 w.heap.size vo out ∧ w5.heap[q]? = some (.cells x.cs.toArray 72 (0, 0)) ∧ ρ4 7 = ptr q ∧ ρ4 20 = .int .i64 (j : Int) ∧ ρ4 19 = .int .i64 (ls[i].length : Int) ∧ ρ4 18 = u ∧ ρ4 3 = vo ∧ ρ4 11 = .int .i64 (i : Int) ∧ ρ4 10 = .int .i64 (ls.length : Int) ∧ ρ4 9 = v) ?_ ?_
        · rintro ρ4 w5 ⟨hput, g1, g3, g4, p7, p20, p19, p18, p3, p11, p10, p9⟩
          rw [p7, p3]
          refine X_of (load_cells Try.underlying72 agg_72 info_72 (l := x.cs) (by rw [sz_72, Ex.cs_len]) (fun j u hj => by rw [add_plain, Nat.zero_add, cell_blk g4]; simpa using hj)) ?_
          refine X_appEx g3 hol' g1.size ?_
          intro u3 v' w7 ho7 hk7
          exact hJ3 _ _ ⟨v', Ext.seq g1 hk7 (fun g hg => (g3.lt g hg.symm).1), by rw [hput]; exact ho7, p20, p19, p18, rfl, p11, p10, p9⟩
        · intro J4 hJ4
          obtain ⟨a2, c2, eo⟩ := (OwnK.rowK (by decide) Ex.csLen ho4).slice
          rw [eo, X_len_59, X_gtr, condS_bool, ← eo]
          by_cases h0 : out.length = 0
          · rw [if_neg (by rw [h0]; decide)]
            exact hJ4 _ _ ⟨put1_none h0, hx04, ho4, hqb, rfl, q20, q19, q18, q3, q11, q10, q9⟩
          rw [if_pos (decide_eq_true (by omega)), eo, X_len_59, X_sub, ← eo]
          obtain ⟨n, hn1⟩ : ∃ n, n + 1 = out.length := ⟨out.length - 1, by omega⟩
          have ew : IntKind.i64.wrap ((out.length : Int) - 1) = (n : Int) := by rw [w64 (by omega) (by omega)]; omega
          rw [ew]
          have hnlt : n < out.length := by omega
          obtain ⟨g, cur, hgo, hgb, hgh, hgs, hix, hgc, hset⟩ := own_at ho4 hnlt
          have hpr := hor _ (List.getElem_mem hnlt)
          have hgq : g < wr2.heap.size := (ho2.lt g hgo).2
          have hyes := @put1_yes out x n hn1
          have hno := @put1_no out x n hn1
          have hsl := @set_last _ out n hn1
          generalize out[n] = p at hpr hgc hset hyes hno
          refine X_of (hix w4) ?_
          have hxd := hx04.trans (Keep.drew (fun _ => False) w4)
          have hod := ho4.ext (Keep.drew (fun _ => False) w4)
          have hgd : (drewW w4).heap[g]? = some (.cells cur 72 (0, 0)) := hgh
          have hqd : (drewW w4).heap[q]? = some (.cells x.cs.toArray 72 (0, 0)) := hqb
          refine ⟨Ext, Ext.frame, ?_⟩
          generalize drewW w4 = wd at hxd hod hgd hqd ⊢
          have lk : ∀ w', Ext wd w' → (Instr.loadAt 44 (.pointer (some ⟨g, n * 35, none⟩))).run Try.prog w' = .ok p.k.v w' := fun w' kk => load_cells Try.underlying44 agg_44 info_44 (l := p.k.cs) (by rw [sz_44, Ky.cs_len]) (fun j u hj => by rw [add_plain, cell_blk (kk.get hgd)]; exact hgc j u (p.keyAt hj))
          have lo : ∀ w', Ext wd w' → (Instr.loadAt 3 (.pointer (some ⟨g, n * 35 + 33, none⟩))).run Try.prog w' = .ok (.int .i64 p.off) w' := fun w' kk => run_loadAt agg_3 ((cell_blk (kk.get hgd)).trans (hgc 33 _ p.offAt))
          have ll : ∀ w', Ext wd w' → (Instr.loadAt 3 (.pointer (some ⟨g, n * 35 + 34, none⟩))).run Try.prog w' = .ok (.int .i64 p.len) w' := fun w' kk => run_loadAt agg_3 ((cell_blk (kk.get hgd)).trans (hgc 34 _ p.lenAt))
          have xk : ∀ w', Ext wd w' → (Instr.loadAt 44 (ptr q)).run Try.prog w' = .ok x.k.v w' := fun w' kk => load_cells Try.underlying44 agg_44 info_44 (l := x.k.cs) (by rw [sz_44, Ky.cs_len]) (fun j u hj => by rw [add_plain, cell_blk (kk.get hqd)]; simpa using x.keyAt hj)
          have xo : ∀ w', Ext wd w' → (Instr.loadAt 3 (.pointer (some ⟨q, 0 + 33, none⟩))).run Try.prog w' = .ok (.int .i64 x.off) w' := fun w' kk => run_loadAt agg_3 ((cell_blk (kk.get hqd)).trans (by simpa using x.offAt))
          have xl : ∀ w', Ext wd w' → (Instr.loadAt 3 (.pointer (some ⟨q, 0 + 34, none⟩))).run Try.prog w' = .ok (.int .i64 x.len) w' := fun w' kk => run_loadAt agg_3 ((cell_blk (kk.get hqd)).trans (by simpa using x.lenAt))
          unfold right1 at hpr hrx
          rw [XP_nilS, XP_field_72_0]
          refine XR_ok Ext.frame lk ?_
          rw [XP_field_72_0]
          refine XR_ok Ext.frame xk ?_
          refine XP_of (fun w' => run_key_eql _ _ _ _ w') ?_
          by_cases hk : p.k = x.k
          case neg =>
            have c : decide (p.k = x.k) = false := decide_eq_false hk
            (repeat (simp only [XP_extract0, XP_extract1, XP_extract2, XP_extract3, X_extract0, X_extract1, X_extract2, X_extract3, X_nilS, X_eql_nil_24, X_neq_nil_24, X_eql_nil_103, X_neq_nil_103, X_eql, X_neq, X_lss, X_leq, X_gtr, X_geq, X_not, X_min, X_max, X_len_79, X_len_35, XP_nilS, XP_eql, XP_neq, XP_lss, XP_leq, XP_gtr, XP_geq, XP_not, XP_min, XP_max, XP_len_79, XP_eql_nil_24, X_str_eql, X_str_neq, XP_str_eql, XP_str_neq, GS, gs_u, decide_true, decide_false, Option.isNone_some, Option.isSome_some, Option.isNone_none, Option.isSome_none, eq_self, Bool.not_true, Bool.not_false, Int.reduceEq, Int.reduceNe, Int.reduceLT, Int.reduceLE, Int.reduceGT, Int.reduceGE, c]))
            exact hJ4 _ _ ⟨hno (fun h => hk h.1), hxd, hod, hqd, rfl, q20, q19, q18, q3, q11, q10, q9⟩
          have c : decide (p.k = x.k) = true := decide_eq_true hk
          (repeat (simp only [XP_extract0, XP_extract1, XP_extract2, XP_extract3, X_extract0, X_extract1, X_extract2, X_extract3, X_nilS, X_eql_nil_24, X_neq_nil_24, X_eql_nil_103, X_neq_nil_103, X_eql, X_neq, X_lss, X_leq, X_gtr, X_geq, X_not, X_min, X_max, X_len_79, X_len_35, XP_nilS, XP_eql, XP_neq, XP_lss, XP_leq, XP_gtr, XP_geq, XP_not, XP_min, XP_max, XP_len_79, XP_eql_nil_24, X_str_eql, X_str_neq, XP_str_eql, XP_str_neq, GS, gs_u, decide_true, decide_false, Option.isNone_some, Option.isSome_some, Option.isNone_none, Option.isSome_none, eq_self, Bool.not_true, Bool.not_false, Int.reduceEq, Int.reduceNe, Int.reduceLT, Int.reduceLE, Int.reduceGT, Int.reduceGE, c, XP_field_72_1]))
          refine XR_ok Ext.frame lo ?_
          (repeat (simp only [XP_extract0, XP_extract1, XP_extract2, XP_extract3, X_extract0, X_extract1, X_extract2, X_extract3, X_nilS, X_eql_nil_24, X_neq_nil_24, X_eql_nil_103, X_neq_nil_103, X_eql, X_neq, X_lss, X_leq, X_gtr, X_geq, X_not, X_min, X_max, X_len_79, X_len_35, XP_nilS, XP_eql, XP_neq, XP_lss, XP_leq, XP_gtr, XP_geq, XP_not, XP_min, XP_max, XP_len_79, XP_eql_nil_24, X_str_eql, X_str_neq, XP_str_eql, XP_str_neq, GS, gs_u, decide_true, decide_false, Option.isNone_some, Option.isSome_some, Option.isNone_none, Option.isSome_none, eq_self, Bool.not_true, Bool.not_false, Int.reduceEq, Int.reduceNe, Int.reduceLT, Int.reduceLE, Int.reduceGT, Int.reduceGE, c, XP_field_72_2]))
          refine XR_ok Ext.frame ll ?_
          (repeat (simp only [XP_extract0, XP_extract1, XP_extract2, XP_extract3, X_extract0, X_extract1, X_extract2, X_extract3, X_nilS, X_eql_nil_24, X_neq_nil_24, X_eql_nil_103, X_neq_nil_103, X_eql, X_neq, X_lss, X_leq, X_gtr, X_geq, X_not, X_min, X_max, X_len_79, X_len_35, XP_nilS, XP_eql, XP_neq, XP_lss, XP_leq, XP_gtr, XP_geq, XP_not, XP_min, XP_max, XP_len_79, XP_eql_nil_24, X_str_eql, X_str_neq, XP_str_eql, XP_str_neq, GS, gs_u, decide_true, decide_false, Option.isNone_some, Option.isSome_some, Option.isNone_none, Option.isSome_none, eq_self, Bool.not_true, Bool.not_false, Int.reduceEq, Int.reduceNe, Int.reduceLT, Int.reduceLE, Int.reduceGT, Int.reduceGE, c, XP_add, XP_field_72_1]))
          refine XR_ok Ext.frame xo ?_
          rw [w64 (x := p.off + p.len) (by omega) (by omega)]
          by_cases hf : p.off + p.len = x.off
          case neg =>
            have c2 : decide (p.off + p.len = x.off) = false := decide_eq_false hf
            (repeat (simp only [XP_extract0, XP_extract1, XP_extract2, XP_extract3, X_extract0, X_extract1, X_extract2, X_extract3, X_nilS, X_eql_nil_24, X_neq_nil_24, X_eql_nil_103, X_neq_nil_103, X_eql, X_neq, X_lss, X_leq, X_gtr, X_geq, X_not, X_min, X_max, X_len_79, X_len_35, XP_nilS, XP_eql, XP_neq, XP_lss, XP_leq, XP_gtr, XP_geq, XP_not, XP_min, XP_max, XP_len_79, XP_eql_nil_24, X_str_eql, X_str_neq, XP_str_eql, XP_str_neq, GS, gs_u, decide_true, decide_false, Option.isNone_some, Option.isSome_some, Option.isNone_none, Option.isSome_none, eq_self, Bool.not_true, Bool.not_false, Int.reduceEq, Int.reduceNe, Int.reduceLT, Int.reduceLE, Int.reduceGT, Int.reduceGE, c2]))
            exact hJ4 _ _ ⟨hno (fun h => hf h.2), hxd, hod, hqd, rfl, q20, q19, q18, q3, q11, q10, q9⟩
          have c2 : decide (p.off + p.len = x.off) = true := decide_eq_true hf
          (repeat (simp only [XP_extract0, XP_extract1, XP_extract2, XP_extract3, X_extract0, X_extract1, X_extract2, X_extract3, X_nilS, X_eql_nil_24, X_neq_nil_24, X_eql_nil_103, X_neq_nil_103, X_eql, X_neq, X_lss, X_leq, X_gtr, X_geq, X_not, X_min, X_max, X_len_79, X_len_35, XP_nilS, XP_eql, XP_neq, XP_lss, XP_leq, XP_gtr, XP_geq, XP_not, XP_min, XP_max, XP_len_79, XP_eql_nil_24, X_str_eql, X_str_neq, XP_str_eql, XP_str_neq, GS, gs_u, decide_true, decide_false, Option.isNone_some, Option.isSome_some, Option.isNone_none, Option.isSome_none, eq_self, Bool.not_true, Bool.not_false, Int.reduceEq, Int.reduceNe, Int.reduceLT, Int.reduceLE, Int.reduceGT, Int.reduceGE, c2]))
          refine ⟨Ext, Ext.frame, ?_⟩
          have kd := Keep.drew (fun _ => False) wd
          have hxd2 := hxd.trans kd
          have hgd2 : (drewW wd).heap[g]? = some (.cells cur 72 (0, 0)) := hgd
          generalize drewW wd = we at kd hxd2 hgd2 ⊢
          (repeat (simp only [XP_extract0, XP_extract1, XP_extract2, XP_extract3, X_extract0, X_extract1, X_extract2, X_extract3, X_nilS, X_eql_nil_24, X_neq_nil_24, X_eql_nil_103, X_neq_nil_103, X_eql, X_neq, X_lss, X_leq, X_gtr, X_geq, X_not, X_min, X_max, X_len_79, X_len_35, XP_nilS, XP_eql, XP_neq, XP_lss, XP_leq, XP_gtr, XP_geq, XP_not, XP_min, XP_max, XP_len_79, XP_eql_nil_24, X_str_eql, X_str_neq, XP_str_eql, XP_str_neq, GS, gs_u, decide_true, decide_false, Option.isNone_some, Option.isSome_some, Option.isNone_none, Option.isSome_none, eq_self, Bool.not_true, Bool.not_false, Int.reduceEq, Int.reduceNe, Int.reduceLT, Int.reduceLE, Int.reduceGT, Int.reduceGE, XP_field_72_2]))
          refine XR_ok Ext.frame (fun w' kk => ll w' (kd.trans kk)) ?_
          (repeat (simp only [XP_extract0, XP_extract1, XP_extract2, XP_extract3, X_extract0, X_extract1, X_extract2, X_extract3, X_nilS, X_eql_nil_24, X_neq_nil_24, X_eql_nil_103, X_neq_nil_103, X_eql, X_neq, X_lss, X_leq, X_gtr, X_geq, X_not, X_min, X_max, X_len_79, X_len_35, XP_nilS, XP_eql, XP_neq, XP_lss, XP_leq, XP_gtr, XP_geq, XP_not, XP_min, XP_max, XP_len_79, XP_eql_nil_24, X_str_eql, X_str_neq, XP_str_eql, XP_str_neq, GS, gs_u, decide_true, decide_false, Option.isNone_some, Option.isSome_some, Option.isNone_none, Option.isSome_none, eq_self, Bool.not_true, Bool.not_false, Int.reduceEq, Int.reduceNe, Int.reduceLT, Int.reduceLE, Int.reduceGT, Int.reduceGE, XP_field_72_2]))
          refine XR_ok Ext.frame (fun w' kk => xl w' (kd.trans kk)) ?_
          (repeat (simp only [XP_extract0, XP_extract1, XP_extract2, XP_extract3, X_extract0, X_extract1, X_extract2, X_extract3, X_nilS, X_eql_nil_24, X_neq_nil_24, X_eql_nil_103, X_neq_nil_103, X_eql, X_neq, X_lss, X_leq, X_gtr, X_geq, X_not, X_min, X_max, X_len_79, X_len_35, XP_nilS, XP_eql, XP_neq, XP_lss, XP_leq, XP_gtr, XP_geq, XP_not, XP_min, XP_max, XP_len_79, XP_eql_nil_24, X_str_eql, X_str_neq, XP_str_eql, XP_str_neq, GS, gs_u, decide_true, decide_false, Option.isNone_some, Option.isSome_some, Option.isNone_none, Option.isSome_none, eq_self, Bool.not_true, Bool.not_false, Int.reduceEq, Int.reduceNe, Int.reduceLT, Int.reduceLE, Int.reduceGT, Int.reduceGE, XP_add, XP_field_72_2]))
          refine XU_store info_3 sz_3 rfl hgd2 hgs (by show ¬ (0 ≤ _ ∧ _ < 0); omega) ?_
          have ho5 := hset we (p.len + x.len) hgd2
          have hk5 := setAt_keep we g (cur.setIfInBounds (n * 35 + 34) (.int .i64 (IntKind.i64.wrap (p.len + x.len)))) 72 (0, 0)
          generalize setAt we g (cur.setIfInBounds (n * 35 + 34) (.int .i64 (IntKind.i64.wrap (p.len + x.len)))) 72 (0, 0) = w6 at ho5 hk5 ⊢
          refine hJ3 _ _ ⟨vo, Ext.seq hxd2 hk5 (fun i hi => by omega), ?_, q20, q19, q18, q3, q11, q10, q9⟩
          rw [hyes ⟨hk, hf⟩, ← hsl]
          exact ho5
    · rintro ρ2 wr2 ⟨vo, hx2, ho2, q3, q11, q10, q9⟩
      show X _ (binOp .add 3 (ρ2 11) _) _ _
      rw [q11, X_add]
      show _ ∧ _
      refine ⟨⟨i + 1, vo, by omega, hx2, by rw [← done_full hlt]; exact ho2, ?_, next64 (n := 1000000000) (by decide) (by omega), q10, q9, q3⟩, ?_⟩
      · rw [List.take_succ_eq_append_getElem hlt]
        intro p hp
        rcases List.mem_append.1 hp with hp | hp
        · exact hr p hp
        · rw [List.mem_singleton.1 hp]; exact hri
      · show (_ - IntKind.i64.wrap _).toNat < _
        rw [w64 (by omega) (by omega)]
        first | omega | (show _ < (_ : Int).toNat; omega)
  · rintro ρ wr ⟨vo, hx, ho, hr, r3⟩
    show CALL _ 35 #[ρ 3] _ _
    rw [r3]
    refine Right_spec (OwnK.rowK (by decide) Ex.csLen ho) ?_
    intro w1 hx1
    by_cases hj : RightP (joinL ls.flatten)
    · have c : decide (RightP (joinL ls.flatten)) = true := decide_eq_true hj
      (repeat (simp only [XP_extract0, XP_extract1, XP_extract2, XP_extract3, X_extract0, X_extract1, X_extract2, X_extract3, X_nilS, X_eql_nil_24, X_neq_nil_24, X_eql_nil_103, X_neq_nil_103, X_eql, X_neq, X_lss, X_leq, X_gtr, X_geq, X_not, X_min, X_max, X_len_79, X_len_35, XP_nilS, XP_eql, XP_neq, XP_lss, XP_leq, XP_gtr, XP_geq, XP_not, XP_min, XP_max, XP_len_79, XP_eql_nil_24, X_str_eql, X_str_neq, XP_str_eql, XP_str_neq, GS, gs_u, decide_true, decide_false, Option.isNone_some, Option.isSome_some, Option.isNone_none, Option.isSome_none, eq_self, Bool.not_true, Bool.not_false, Int.reduceEq, Int.reduceNe, Int.reduceLT, Int.reduceLE, Int.reduceGT, Int.reduceGE, c]))
      refine hK _ _ (hx.trans hx1) ?_
      unfold joinE
      rw [if_pos ⟨hr, hj⟩]
      exact ho.ext hx1
    · have c : decide (RightP (joinL ls.flatten)) = false := decide_eq_false hj
      (repeat (simp only [XP_extract0, XP_extract1, XP_extract2, XP_extract3, X_extract0, X_extract1, X_extract2, X_extract3, X_nilS, X_eql_nil_24, X_neq_nil_24, X_eql_nil_103, X_neq_nil_103, X_eql, X_neq, X_lss, X_leq, X_gtr, X_geq, X_not, X_min, X_max, X_len_79, X_len_35, XP_nilS, XP_eql, XP_neq, XP_lss, XP_leq, XP_gtr, XP_geq, XP_not, XP_min, XP_max, XP_len_79, XP_eql_nil_24, X_str_eql, X_str_neq, XP_str_eql, XP_str_neq, GS, gs_u, decide_true, decide_false, Option.isNone_some, Option.isSome_some, Option.isNone_none, Option.isSome_none, eq_self, Bool.not_true, Bool.not_false, Int.reduceEq, Int.reduceNe, Int.reduceLT, Int.reduceLE, Int.reduceGT, Int.reduceGE, c]))
      exact nil (if_neg (fun h => hj h.2)) _ (hx.trans hx1)
  · rintro ρ wr ⟨hx, hj, r2⟩
    show K (ρ 2) wr
    rw [r2]
    exact nil hj _ hx
end
end Go.Proofs.Ytlnkdphecinnnaa
end
section
/- The bytes of extents, and the extents whose bytes those are: plain Lean; literals. -/
set_option linter.unusedVariables false
set_option linter.unusedSimpArgs false
namespace Go.Proofs.Ytlnkdphecinnnaa
open Go Go.Sh Go.RowKit
attribute [local irreducible] X XU XP XR CALL loopS resC closS
theorem tk {α : Type} (a b : List α) {n : Nat} (h : a.length = n) : (a ++ b).take n = a := by subst h; simp
theorem dr {α : Type} (a b : List α) {n : Nat} (h : a.length = n) : (a ++ b).drop n = b := by subst h; simp
theorem be4_num {l : List UInt8} (h : l.length = 4) : be 4 (num l) = l := by have := be_num l; rwa [h] at this
theorem be2_num {l : List UInt8} (h : l.length = 2) : be 2 (num l) = l := by have := be_num l; rwa [h] at this
theorem num_be4 {n : Nat} (h : n < 4294967296) : num (be 4 n) = n := by rw [num_be]; exact Nat.mod_eq_of_lt h
theorem num_be2 {n : Nat} (h : n < 65536) : num (be 2 n) = n := by rw [num_be]; exact Nat.mod_eq_of_lt h
theorem num_lt4 {l : List UInt8} (h : l.length = 4) : num l < 4294967296 := by have := num_lt l; rw [h] at this; exact this
theorem num_lt2 {l : List UInt8} (h : l.length = 2) : num l < 65536 := by have := num_lt l; rw [h] at this; exact this
theorem num_le2 {l : List UInt8} (h : l.length ≤ 2) : num l < 65536 := by
  have := num_lt l
  have h2 : (256 : Nat) ^ l.length ≤ 256 ^ 2 := Nat.pow_le_pow_right (by decide) h
  omega
theorem num_le4 {l : List UInt8} (h : l.length ≤ 4) : num l < 4294967296 := by
  have := num_lt l
  have h2 : (256 : Nat) ^ l.length ≤ 256 ^ 4 := Nat.pow_le_pow_right (by decide) h
  omega
def rowX (e : Ex) : List UInt8 := e.k.sum ++ be 4 e.k.num ++ be 2 e.off.toNat ++ be 2 e.len.toNat
theorem rowX_len (e : Ex) : (rowX e).length = 40 := by simp [rowX, e.k.len]
def rowsX (l : List Ex) : List UInt8 := (l.map rowX).flatten
def layX (l : List Ex) : List UInt8 := be 4 l.length ++ rowsX l
theorem rowsX_len (l : List Ex) : (rowsX l).length = 40 * l.length := by
  unfold rowsX
  induction l with
  | nil => rfl
  | cons p l ih => simp only [List.map_cons, List.flatten_cons, List.length_append, rowX_len, ih, List.length_cons]; omega
theorem rowsX_succ (l : List Ex) (i : Nat) (h : i < l.length) : rowsX (l.take (i + 1)) = rowsX (l.take i) ++ rowX l[i] := by
  unfold rowsX
  rw [List.take_succ_eq_append_getElem h, List.map_append, List.flatten_append]
  simp only [List.map_cons, List.map_nil, List.flatten_cons, List.flatten_nil, List.append_nil]
theorem layX_len (l : List Ex) : (layX l).length = 4 + 40 * l.length := by
  unfold layX
  rw [List.length_append, be_length, rowsX_len]
def kyOf (x : List UInt8) : Ky := if h : 36 ≤ x.length then ⟨x.take 32, num ((x.drop 32).take 4), by simp; omega, num_lt4 (by simp; omega)⟩ else nilKy
def exOf (x : List UInt8) : Ex := mkEx (kyOf x) (num ((x.drop 36).take 2)) (num ((x.drop 38).take 2))
def exsOf : Nat → List UInt8 → List Ex
  | 0, _ => []
  | n + 1, x => exOf x :: exsOf n (x.drop 40)
theorem exsOf_len (n : Nat) (x : List UInt8) : (exsOf n x).length = n := by
  induction n generalizing x with
  | zero => rfl
  | succ n ih => simp [exsOf, ih]
theorem exsOf_snoc (n : Nat) (x : List UInt8) : exsOf (n + 1) x = exsOf n x ++ [exOf (x.drop (40 * n))] := by
  induction n generalizing x with
  | zero => simp [exsOf]
  | succ n ih =>
    have e1 : exsOf (n + 1 + 1) x = exOf x :: exsOf (n + 1) (x.drop 40) := rfl
    have e2 : exsOf (n + 1) x = exOf x :: exsOf n (x.drop 40) := rfl
    rw [e1, e2, ih, List.drop_drop]
    have : 40 + 40 * n = 40 * (n + 1) := by omega
    rw [this]
    rfl
theorem exOf_off (x : List UInt8) : (exOf x).off = (num ((x.drop 36).take 2) : Int) := by
  have := num_le2 (l := (x.drop 36).take 2) (by simp; omega)
  exact w64 (by omega) (by omega)
theorem exOf_len' (x : List UInt8) : (exOf x).len = (num ((x.drop 38).take 2) : Int) := by
  have := num_le2 (l := (x.drop 38).take 2) (by simp; omega)
  exact w64 (by omega) (by omega)
theorem rowX_of {x : List UInt8} (h : 40 ≤ x.length) : rowX (exOf x) = x.take 40 := by
  unfold rowX
  rw [exOf_off, exOf_len']
  have hk : (exOf x).k = ⟨x.take 32, num ((x.drop 32).take 4), by simp; omega, num_lt4 (by simp; omega)⟩ := dif_pos (by omega)
  rw [hk]
  show x.take 32 ++ be 4 (num ((x.drop 32).take 4)) ++ be 2 (num ((x.drop 36).take 2)) ++ be 2 (num ((x.drop 38).take 2)) = _
  rw [be4_num (by simp; omega), be2_num (by simp; omega), be2_num (by simp; omega)]
  have t1 : x.take 36 = x.take 32 ++ (x.drop 32).take 4 := by rw [← List.take_add]
  have t2 : x.take 38 = x.take 36 ++ (x.drop 36).take 2 := by rw [← List.take_add]
  have t3 : x.take 40 = x.take 38 ++ (x.drop 38).take 2 := by rw [← List.take_add]
  rw [t3, t2, t1]
theorem exOf_row {e : Ex} (h : right1 e) (r : List UInt8) : exOf (rowX e ++ r) = e := by
  unfold right1 at h
  have hl : 36 ≤ (rowX e ++ r).length := by rw [List.length_append, rowX_len]; omega
  have e0 : rowX e ++ r = e.k.sum ++ (be 4 e.k.num ++ (be 2 e.off.toNat ++ (be 2 e.len.toNat ++ r))) := by simp [rowX]
  have d32 : (rowX e ++ r).drop 32 = be 4 e.k.num ++ (be 2 e.off.toNat ++ (be 2 e.len.toNat ++ r)) := by rw [e0, dr _ _ e.k.len]
  have d36 : (rowX e ++ r).drop 36 = be 2 e.off.toNat ++ (be 2 e.len.toNat ++ r) := by
    have : (rowX e ++ r).drop 36 = ((rowX e ++ r).drop 32).drop 4 := by rw [List.drop_drop]
    rw [this, d32, dr _ _ (be_length 4 _)]
  have d38 : (rowX e ++ r).drop 38 = be 2 e.len.toNat ++ r := by
    have : (rowX e ++ r).drop 38 = ((rowX e ++ r).drop 36).drop 2 := by rw [List.drop_drop]
    rw [this, d36, dr _ _ (be_length 2 _)]
  refine Ex.ext' ?_ ?_ ?_
  · have hk : (exOf (rowX e ++ r)).k = ⟨(rowX e ++ r).take 32, num (((rowX e ++ r).drop 32).take 4), by rw [List.length_take]; omega, num_lt4 (by rw [List.length_take, List.length_drop]; omega)⟩ := dif_pos hl
    rw [hk]
    refine Ky.ext' ?_ ?_
    · show (rowX e ++ r).take 32 = _
      rw [e0, tk _ _ e.k.len]
    · show num (((rowX e ++ r).drop 32).take 4) = _
      rw [d32, tk _ _ (be_length 4 _), num_be4 e.k.lt]
  · rw [exOf_off, d36, tk _ _ (be_length 2 _), num_be2 (by omega)]
    omega
  · rw [exOf_len', d38, tk _ _ (be_length 2 _), num_be2 (by omega)]
    omega
theorem exsOf_rows {l : List Ex} (h : ∀ e ∈ l, right1 e) : exsOf l.length (rowsX l) = l := by
  induction l with
  | nil => rfl
  | cons e l ih =>
    have e1 : rowsX (e :: l) = rowX e ++ rowsX l := by simp [rowsX]
    show exOf (rowsX (e :: l)) :: exsOf l.length ((rowsX (e :: l)).drop 40) = _
    rw [e1, exOf_row (h e (by simp)), dr _ _ (rowX_len e), ih (fun e he => h e (by simp [he]))]
theorem rows_exsOf : ∀ (n : Nat) (x : List UInt8), x.length = 40 * n → rowsX (exsOf n x) = x := by
  intro n
  induction n with
  | zero => intro x h; have : x = [] := List.eq_nil_of_length_eq_zero (by omega); subst this; rfl
  | succ n ih =>
    intro x h
    show rowsX (exOf x :: exsOf n (x.drop 40)) = x
    have e1 : rowsX (exOf x :: exsOf n (x.drop 40)) = rowX (exOf x) ++ rowsX (exsOf n (x.drop 40)) := by simp [rowsX]
    rw [e1, rowX_of (by omega), ih _ (by simp; omega), List.take_append_drop]
/-- The bytes are of a right form, whatever the extents. -/
def FormX (x : List UInt8) (n : Nat) : Prop := x.length = 4 + 40 * n ∧ num (x.take 4) = n
instance (x : List UInt8) (n : Nat) : Decidable (FormX x n) := inferInstanceAs (Decidable (_ ∧ _))
def takeX (x : List UInt8) : Option (List Ex) := if FormX x ((x.length - 4) / 40) ∧ RightP (exsOf ((x.length - 4) / 40) (x.drop 4)) then some (exsOf ((x.length - 4) / 40) (x.drop 4)) else none
theorem takeX_some {x : List UInt8} {n : Nat} (h : FormX x n) (hr : RightP (exsOf n (x.drop 4))) : takeX x = some (exsOf n (x.drop 4)) := by
  have e : (x.length - 4) / 40 = n := by have := h.1; omega
  unfold takeX
  rw [e, if_pos ⟨h, hr⟩]
theorem takeX_none {x : List UInt8} (h : ∀ n, FormX x n → ¬ RightP (exsOf n (x.drop 4))) : takeX x = none := by
  unfold takeX
  rw [if_neg (fun h' => h _ h'.1 h'.2)]
theorem takeX_lay {l : List Ex} (h : RightP l) : takeX (layX l) = some l := by
  have e4 : (layX l).take 4 = be 4 l.length := tk _ _ (be_length 4 _)
  have d4 : (layX l).drop 4 = rowsX l := dr _ _ (be_length 4 _)
  have h1 := h.1
  have hf : FormX (layX l) l.length := ⟨layX_len l, by rw [e4, num_be4 (by omega)]⟩
  have := takeX_some hf (by rw [d4, exsOf_rows h.2]; exact h)
  rw [this, d4, exsOf_rows h.2]
theorem lay_takeX {x : List UInt8} {l : List Ex} (h : takeX x = some l) : RightP l ∧ layX l = x := by
  unfold takeX at h
  split at h
  · rename_i h2
    injection h with h
    subst h
    refine ⟨h2.2, ?_⟩
    obtain ⟨h3, h4⟩ := h2.1
    unfold layX
    rw [exsOf_len, rows_exsOf _ _ (by simp; omega)]
    have : be 4 ((x.length - 4) / 40) = x.take 4 := by rw [← h4]; exact be4_num (by simp; omega)
    rw [this, List.take_append_drop]
  · cases h
theorem run_build_44b (k : Ky) (w : World) : (Instr.build 44 #[(0, .agg (B8 k.sum).toArray), (1, .int .u32 (k.num : Int))]).run Try.prog w = .ok k.v w := by
  refine run_build2 (a := 32) (b := 1) (z := List.replicate 32 (Value.int .u8 0) ++ [Value.int .u32 0]) Try.underlying44 zero_44 rfl rfl sz_41 sz_42 info_41 info_42 ?_ w
  exact fill_both (a := 32) (b := 1) (v0 := .agg (B8 k.sum).toArray) (v1 := .int .u32 (k.num : Int)) (by show (B8 k.sum).toArray.size = 32; simp [k.len]) rfl rfl
theorem B8_rep (n : Nat) : B8 (List.replicate n 0) = List.replicate n (Value.int .u8 0) := by
  unfold B8
  rw [List.map_replicate]
  rfl
theorem nilKy_cs : nilKy.cs = List.replicate 32 (Value.int .u8 0) ++ [Value.int .u32 0] := by
  unfold Ky.cs nilKy
  show B8 (List.replicate 32 0) ++ _ = _
  rw [B8_rep]
  rfl
theorem run_build_44n (n : Nat) (h : n < 4294967296) (w : World) : (Instr.build 44 #[(1, .int .u32 (n : Int))]).run Try.prog w = .ok (Ky.v ⟨List.replicate 32 0, n, List.length_replicate, h⟩) w := by
  refine run_build2 (a := 32) (b := 1) (z := List.replicate 32 (Value.int .u8 0) ++ [Value.int .u32 0]) Try.underlying44 zero_44 rfl rfl sz_41 sz_42 info_41 info_42 ?_ w
  have := fill_right (a := 32) (b := 1) (v1 := .int .u32 (n : Int)) (z := List.replicate 32 (Value.int .u8 0) ++ [Value.int .u32 0]) rfl rfl
  rw [this]
  congr 2
theorem run_buildP {P : Program} {t : TypeId} {f0 f1 f2 : Field} {a : Nat} {z : List Value} (ht : P.underlying t = some (.struct #[f0, f1, f2])) (hz : zeroT P t = some (.agg z.toArray)) (o0 : f0.offset = 0) (o1 : f1.offset = a) (o2 : f2.offset = a + 1) (s0 : szT P f0.type = a) (s1 : szT P f1.type = 1) (s2 : szT P f2.type = 1)
    (i0 : infoB P f0.type = true) (i1 : infoB P f1.type = true) (i2 : infoB P f2.type = true) {parts : List (Nat × Value)} {cells : List Value} (hf : Instr.fill (fun i => (#[(0, a), (a, 1), (a + 1, 1)] : Array (Nat × Nat))[i]?) z.toArray parts = some cells.toArray) (w : World) :
    (Instr.build t parts.toArray).run P w = .ok (.agg cells.toArray) w := by
  have hm : ((#[f0, f1, f2] : Array Field).mapM fun f => do pure (f.offset, ← sizeOf f.type) : Sem (Array (Nat × Nat))).run P w = .ok #[(0, a), (a, 1), (a + 1, 1)] w := by
    rw [Array.mapM_eq_mapM_toList]
    simp [sizeOf_run i0, sizeOf_run i1, sizeOf_run i2, s0, s1, s2, o0, o1, o2, List.mapM_cons, List.mapM_nil]
  simp only [Instr.build, Sem.run_bind, zeroValue_run hz, Result.andThen_ok, run_underlying ht, hm]
  have hc0 : (Value.agg z.toArray).cells = z.toArray := rfl
  rw [hc0, hf]
  rfl
abbrev z72 : List Value := List.replicate 32 (Value.int .u8 0) ++ [Value.int .u32 0] ++ [Value.int .i64 0, Value.int .i64 0]
theorem fill_key (k : Ky) (rest : List (Nat × Value)) : Instr.fill (fun i => (#[(0, 33), (33, 1), (33 + 1, 1)] : Array (Nat × Nat))[i]?) z72.toArray ((0, k.v) :: rest) = Instr.fill (fun i => (#[(0, 33), (33, 1), (33 + 1, 1)] : Array (Nat × Nat))[i]?) (k.cs ++ [Value.int .i64 0, Value.int .i64 0]).toArray rest := by
  rw [fill_app (a := 33) (off := 0) rfl (by show k.cs.toArray.size = 33; simp [k.cs_len]) (by simp)]
  congr 1
theorem run_build_72k (k : Ky) (w : World) : (Instr.build 72 #[(0, k.v)]).run Try.prog w = .ok (.agg (mkEx k 0 0).cs.toArray) w := by
  refine run_buildP (a := 33) (z := z72) (parts := [(0, k.v)]) Try.underlying72 zero_72 rfl rfl rfl sz_44 sz_3 sz_3 info_44 info_3 info_3 ?_ w
  rw [fill_key]
  rfl
theorem run_build_72l (k : Ky) (n : Int) (w : World) : (Instr.build 72 #[(0, k.v), (2, .int .i64 (IntKind.i64.wrap n))]).run Try.prog w = .ok (.agg (mkEx k 0 n).cs.toArray) w := by
  refine run_buildP (a := 33) (z := z72) (parts := [(0, k.v), (2, .int .i64 (IntKind.i64.wrap n))]) Try.underlying72 zero_72 rfl rfl rfl sz_44 sz_3 sz_3 info_44 info_3 info_3 ?_ w
  have hk : k.cs.length = 33 := k.cs_len
  rw [fill_key, fill_app (a := 1) (off := 33 + 1) rfl rfl (by simp; omega)]
  unfold Instr.fill
  congr 2
  show (k.cs ++ [Value.int .i64 0, Value.int .i64 0]).take (33 + 1) ++ [Value.int .i64 (IntKind.i64.wrap n)] ++ (k.cs ++ [Value.int .i64 0, Value.int .i64 0]).drop (33 + 1 + 1) = _
  rw [List.take_append, List.drop_append, hk, List.take_of_length_le (by omega), List.drop_eq_nil_of_le (by omega)]
  have w0 : IntKind.i64.wrap 0 = 0 := w64 (by omega) (by omega)
  unfold Ex.cs mkEx
  simp [w0]
theorem getR_ok {bs : List UInt8} {m : Nat} (h : m ≤ bs.length) (h8 : m ≤ 8) : getR bs 0 (m : Int) = (num (bs.take m), bs.drop m, 0) := by
  unfold getR
  rw [if_neg (by simp), if_neg (by omega), if_neg (by simp; omega)]
  rfl
end Go.Proofs.Ytlnkdphecinnnaa
end
section
/- extent.Take. -/
set_option linter.unusedVariables false
set_option linter.unusedSimpArgs false
namespace Go.Proofs.Ytlnkdphecinnnaa
open Go Go.Sh Go.RowKit
attribute [local irreducible] X XU XP XR CALL loopS resC closS
theorem cw64 {n : Nat} (h : n < 18446744073709551616) : IntKind.u64.wrap (n : Int) = (n : Int) := by rw [wrap_u64]; omega
theorem cw32 {n : Nat} (h : n < 4294967296) : IntKind.u32.wrap (n : Int) = (n : Int) := by rw [IntKind.wrap_u32]; omega
theorem set_off (e : Ex) (n : Int) : e.cs.toArray.setIfInBounds (0 + 33) (Value.int .i64 n) = (e.k.cs ++ [Value.int .i64 n, Value.int .i64 e.len]).toArray := by
  have hk33 : e.k.cs.length = 33 := Ky.cs_len _
  unfold Ex.cs
  rw [List.setIfInBounds_toArray, List.set_append_right _ _ (by omega), hk33]
  rfl
theorem set_len (e : Ex) (n : Int) : e.cs.toArray.setIfInBounds (0 + 34) (Value.int .i64 n) = (e.k.cs ++ [Value.int .i64 e.off, Value.int .i64 n]).toArray := by
  have hk33 : e.k.cs.length = 33 := Ky.cs_len _
  unfold Ex.cs
  rw [List.setIfInBounds_toArray, List.set_append_right _ _ (by omega), hk33]
  rfl
theorem set_offM (k : Ky) (a b n : Int) : (mkEx k a b).cs.toArray.setIfInBounds (0 + 33) (Value.int .i64 (IntKind.i64.wrap n)) = (mkEx k n b).cs.toArray := by rw [set_off]; rfl
theorem set_lenM (k : Ky) (a b n : Int) : (mkEx k a b).cs.toArray.setIfInBounds (0 + 34) (Value.int .i64 (IntKind.i64.wrap n)) = (mkEx k a n).cs.toArray := by rw [set_len]; rfl
section
variable {w : World} {K : Value → World → Prop}
set_option maxHeartbeats 2000000 in
theorem Take_spec {v : Value} {x : List UInt8} (hb : Bts w v x) (hl : x.length ≤ 1000000) (hK : ∀ u w1, Ext w w1 → OwnK 35 72 Ex.cs w1 w.heap.size u ((takeX x).getD []) → K (.tuple #[u, i64v (if (takeX x).isSome then 0 else 160)]) w1) : CALL Try.prog 44 #[v] w K := by
  obtain ⟨a, c, ev⟩ := Bts.slice hb
  have none' : takeX x = none → ∀ w1, Ext w w1 → K (.tuple #[.slice none 0 0, .int .i64 160]) w1 := fun h w1 hx => by
    have := hK (.slice none 0 0) w1 hx (by rw [h]; exact ownK_nil _ _)
    rw [h] at this
    exact this
  apply call_extent_Take
  unfold B_extent_Take
  rw [ev, X_len_79, X_lss, ← ev]
  by_cases h4 : x.length < 4
  · have c : decide ((x.length : Int) < 4) = true := decide_eq_true (by omega)
    (repeat (simp only [XP_extract0, XP_extract1, XP_extract2, XP_extract3, X_extract0, X_extract1, X_extract2, X_extract3, X_nilS, X_eql_nil_24, X_neq_nil_24, X_eql_nil_103, X_neq_nil_103, X_eql, X_neq, X_lss, X_leq, X_gtr, X_geq, X_not, X_min, X_max, X_len_79, X_len_35, XP_nilS, XP_eql, XP_neq, XP_lss, XP_leq, XP_gtr, XP_geq, XP_not, XP_min, XP_max, XP_len_79, XP_eql_nil_24, X_str_eql, X_str_neq, XP_str_eql, XP_str_neq, GS, gs_u, decide_true, decide_false, Option.isNone_some, Option.isSome_some, Option.isNone_none, Option.isSome_none, eq_self, Bool.not_true, Bool.not_false, Int.reduceEq, Int.reduceNe, Int.reduceLT, Int.reduceLE, Int.reduceGT, Int.reduceGE, c]))
    exact none' (takeX_none (fun n hf => by have := hf.1; omega)) w (Keep.refl _ _)
  have c4 : decide ((x.length : Int) < 4) = false := decide_eq_false (by omega)
  obtain ⟨m, hm⟩ : ∃ m, x.length = 4 + m := ⟨x.length - 4, by omega⟩
  have ew : IntKind.i64.wrap ((x.length : Int) - 4) = (m : Int) := by rw [w64 (by omega) (by omega)]; omega
  have er : (m : Int).tmod 40 = ((m % 40 : Nat) : Int) := by rw [Int.tmod_eq_emod_of_nonneg (by omega)]; omega
  have eq' : (m : Int).tdiv 40 = ((m / 40 : Nat) : Int) := by rw [Int.tdiv_eq_ediv_of_nonneg (by omega)]; omega
  (repeat (simp only [XP_extract0, XP_extract1, XP_extract2, XP_extract3, X_extract0, X_extract1, X_extract2, X_extract3, X_nilS, X_eql_nil_24, X_neq_nil_24, X_eql_nil_103, X_neq_nil_103, X_eql, X_neq, X_lss, X_leq, X_gtr, X_geq, X_not, X_min, X_max, X_len_79, X_len_35, XP_nilS, XP_eql, XP_neq, XP_lss, XP_leq, XP_gtr, XP_geq, XP_not, XP_min, XP_max, XP_len_79, XP_eql_nil_24, X_str_eql, X_str_neq, XP_str_eql, XP_str_neq, GS, gs_u, decide_true, decide_false, Option.isNone_some, Option.isSome_some, Option.isNone_none, Option.isSome_none, eq_self, Bool.not_true, Bool.not_false, Int.reduceEq, Int.reduceNe, Int.reduceLT, Int.reduceLE, Int.reduceGT, Int.reduceGE, c4]))
  rw [ev, X_len_79, X_sub, ew, ← ev]
  refine X_of (run_rem _ _ _ _ (by decide) _) ?_
  rw [er, X_gtr]
  by_cases h40 : m % 40 = 0
  case neg =>
    have c : decide (((m % 40 : Nat) : Int) > 0) = true := decide_eq_true (by omega)
    (repeat (simp only [XP_extract0, XP_extract1, XP_extract2, XP_extract3, X_extract0, X_extract1, X_extract2, X_extract3, X_nilS, X_eql_nil_24, X_neq_nil_24, X_eql_nil_103, X_neq_nil_103, X_eql, X_neq, X_lss, X_leq, X_gtr, X_geq, X_not, X_min, X_max, X_len_79, X_len_35, XP_nilS, XP_eql, XP_neq, XP_lss, XP_leq, XP_gtr, XP_geq, XP_not, XP_min, XP_max, XP_len_79, XP_eql_nil_24, X_str_eql, X_str_neq, XP_str_eql, XP_str_neq, GS, gs_u, decide_true, decide_false, Option.isNone_some, Option.isSome_some, Option.isNone_none, Option.isSome_none, eq_self, Bool.not_true, Bool.not_false, Int.reduceEq, Int.reduceNe, Int.reduceLT, Int.reduceLE, Int.reduceGT, Int.reduceGE, c]))
    exact none' (takeX_none (fun n hf => by have := hf.1; omega)) w (Keep.refl _ _)
  have c40 : decide (((m % 40 : Nat) : Int) > 0) = false := decide_eq_false (by omega)
  obtain ⟨n, hn⟩ : ∃ n, m = 40 * n := ⟨m / 40, by omega⟩
  (repeat (simp only [XP_extract0, XP_extract1, XP_extract2, XP_extract3, X_extract0, X_extract1, X_extract2, X_extract3, X_nilS, X_eql_nil_24, X_neq_nil_24, X_eql_nil_103, X_neq_nil_103, X_eql, X_neq, X_lss, X_leq, X_gtr, X_geq, X_not, X_min, X_max, X_len_79, X_len_35, XP_nilS, XP_eql, XP_neq, XP_lss, XP_leq, XP_gtr, XP_geq, XP_not, XP_min, XP_max, XP_len_79, XP_eql_nil_24, X_str_eql, X_str_neq, XP_str_eql, XP_str_neq, GS, gs_u, decide_true, decide_false, Option.isNone_some, Option.isSome_some, Option.isNone_none, Option.isSome_none, eq_self, Bool.not_true, Bool.not_false, Int.reduceEq, Int.reduceNe, Int.reduceLT, Int.reduceLE, Int.reduceGT, Int.reduceGE, c40]))
  obtain ⟨u4, hu4, hub4, _⟩ := cut_hi Try.underlying79 info_5 hb (kh := .i64) 4 rfl (by omega)
  refine X_of (hu4 _) ?_
  (repeat (simp only [XP_extract0, XP_extract1, XP_extract2, XP_extract3, X_extract0, X_extract1, X_extract2, X_extract3, X_nilS, X_eql_nil_24, X_neq_nil_24, X_eql_nil_103, X_neq_nil_103, X_eql, X_neq, X_lss, X_leq, X_gtr, X_geq, X_not, X_min, X_max, X_len_79, X_len_35, XP_nilS, XP_eql, XP_neq, XP_lss, XP_leq, XP_gtr, XP_geq, XP_not, XP_min, XP_max, XP_len_79, XP_eql_nil_24, X_str_eql, X_str_neq, XP_str_eql, XP_str_neq, GS, gs_u, decide_true, decide_false, Option.isNone_some, Option.isSome_some, Option.isNone_none, Option.isSome_none, eq_self, Bool.not_true, Bool.not_false, Int.reduceEq, Int.reduceNe, Int.reduceLT, Int.reduceLE, Int.reduceGT, Int.reduceGE, c40]))
  refine New_spec hub4 (by simp; omega) ?_
  intro b1 w1 hx1 hb1 hr1
  (repeat (simp only [XP_extract0, XP_extract1, XP_extract2, XP_extract3, X_extract0, X_extract1, X_extract2, X_extract3, X_nilS, X_eql_nil_24, X_neq_nil_24, X_eql_nil_103, X_neq_nil_103, X_eql, X_neq, X_lss, X_leq, X_gtr, X_geq, X_not, X_min, X_max, X_len_79, X_len_35, XP_nilS, XP_eql, XP_neq, XP_lss, XP_leq, XP_gtr, XP_geq, XP_not, XP_min, XP_max, XP_len_79, XP_eql_nil_24, X_str_eql, X_str_neq, XP_str_eql, XP_str_neq, GS, gs_u, decide_true, decide_false, Option.isNone_some, Option.isSome_some, Option.isNone_none, Option.isSome_none, eq_self, Bool.not_true, Bool.not_false, Int.reduceEq, Int.reduceNe, Int.reduceLT, Int.reduceLE, Int.reduceGT, Int.reduceGE, c40]))
  refine Get_spec hr1 ?_
  have e4 : getR (x.take 4) 0 4 = (num (x.take 4), [], 0) := by
    have := getR_ok (bs := x.take 4) (m := 4) (by simp; omega) (by decide)
    rw [List.take_take, Nat.min_self, List.drop_eq_nil_of_le (by simp; omega)] at this
    exact this
  rw [e4]
  intro w2 hk2 _
  have hx2 : Ext w w2 := Ext.seq hx1 hk2 (fun i hi => by omega)
  (repeat (simp only [XP_extract0, XP_extract1, XP_extract2, XP_extract3, X_extract0, X_extract1, X_extract2, X_extract3, X_nilS, X_eql_nil_24, X_neq_nil_24, X_eql_nil_103, X_neq_nil_103, X_eql, X_neq, X_lss, X_leq, X_gtr, X_geq, X_not, X_min, X_max, X_len_79, X_len_35, XP_nilS, XP_eql, XP_neq, XP_lss, XP_leq, XP_gtr, XP_geq, XP_not, XP_min, XP_max, XP_len_79, XP_eql_nil_24, X_str_eql, X_str_neq, XP_str_eql, XP_str_neq, GS, gs_u, decide_true, decide_false, Option.isNone_some, Option.isSome_some, Option.isNone_none, Option.isSome_none, eq_self, Bool.not_true, Bool.not_false, Int.reduceEq, Int.reduceNe, Int.reduceLT, Int.reduceLE, Int.reduceGT, Int.reduceGE, c40]))
  rw [ev, X_len_79, X_sub, ew, ← ev]
  refine X_of (run_quo _ _ _ _ (by decide) _) ?_
  have hdiv : m / 40 = n := by omega
  rw [eq', hdiv, w64 (by omega) (by omega), X_conv_3_30, cw64 (by omega)]
  by_cases hN : num (x.take 4) = n
  case neg =>
    have c : decide (((num (x.take 4) : Nat) : Int) ≠ (n : Int)) = true := decide_eq_true (by omega)
    (repeat (simp only [XP_extract0, XP_extract1, XP_extract2, XP_extract3, X_extract0, X_extract1, X_extract2, X_extract3, X_nilS, X_eql_nil_24, X_neq_nil_24, X_eql_nil_103, X_neq_nil_103, X_eql, X_neq, X_lss, X_leq, X_gtr, X_geq, X_not, X_min, X_max, X_len_79, X_len_35, XP_nilS, XP_eql, XP_neq, XP_lss, XP_leq, XP_gtr, XP_geq, XP_not, XP_min, XP_max, XP_len_79, XP_eql_nil_24, X_str_eql, X_str_neq, XP_str_eql, XP_str_neq, GS, gs_u, decide_true, decide_false, Option.isNone_some, Option.isSome_some, Option.isNone_none, Option.isSome_none, eq_self, Bool.not_true, Bool.not_false, Int.reduceEq, Int.reduceNe, Int.reduceLT, Int.reduceLE, Int.reduceGT, Int.reduceGE, c]))
    exact none' (takeX_none (fun n' hf => by have h1 := hf.1; have h2 := hf.2; omega)) _ hx2
  have cN : decide (((num (x.take 4) : Nat) : Int) ≠ (n : Int)) = false := decide_eq_false (by omega)
  (repeat (simp only [XP_extract0, XP_extract1, XP_extract2, XP_extract3, X_extract0, X_extract1, X_extract2, X_extract3, X_nilS, X_eql_nil_24, X_neq_nil_24, X_eql_nil_103, X_neq_nil_103, X_eql, X_neq, X_lss, X_leq, X_gtr, X_geq, X_not, X_min, X_max, X_len_79, X_len_35, XP_nilS, XP_eql, XP_neq, XP_lss, XP_leq, XP_gtr, XP_geq, XP_not, XP_min, XP_max, XP_len_79, XP_eql_nil_24, X_str_eql, X_str_neq, XP_str_eql, XP_str_neq, GS, gs_u, decide_true, decide_false, Option.isNone_some, Option.isSome_some, Option.isNone_none, Option.isSome_none, eq_self, Bool.not_true, Bool.not_false, Int.reduceEq, Int.reduceNe, Int.reduceLT, Int.reduceLE, Int.reduceGT, Int.reduceGE, cN]))
  have hform : FormX x n := ⟨by omega, hN⟩
  obtain ⟨u0, hu0, hub0, huo0⟩ := cut_lo Try.underlying79 info_5 sz_5 hb (kl := .i64) 4 rfl (by omega)
  refine X_of (hu0 _) ?_
  refine loopE (fun ρ wr => ∃ (i : Nat) (u vo : Value), i ≤ n ∧ Ext w wr ∧ Bts w u (x.drop (4 + 40 * i)) ∧ OwnK 35 72 Ex.cs wr w.heap.size vo (exsOf i (x.drop 4)) ∧ ρ 0 = u ∧ ρ 4 = vo)
    (fun ρ wr => match ρ 0 with | .slice _ n _ => n | _ => 0)
    (fun ρ wr => ∃ vo : Value, Ext w wr ∧ OwnK 35 72 Ex.cs wr w.heap.size vo (exsOf n (x.drop 4)) ∧ ρ 4 = vo) ?_ ?_ ?_
  · exact ⟨0, u0, _, by omega, hx2, hub0, ownK_nil _ _, rfl, rfl⟩
  · rintro J hJ ρ wr ⟨i, u, vo, hi, hx, hu, ho, r0, r4⟩
    obtain ⟨au, cu, eu⟩ := Bts.slice hu
    rw [r0, eu, X_len_79, X_gtr, condS_bool, ← eu]
    have hul : (x.drop (4 + 40 * i)).length = 40 * (n - i) := by rw [List.length_drop]; omega
    by_cases hie : i = n
    · rw [if_neg (by rw [hul, hie]; simp)]
      rw [hie] at ho
      exact hJ _ _ ⟨vo, hx, ho, r4⟩
    rw [if_pos (decide_eq_true (by omega))]
    have hlt : i < n := by omega
    have hsn := exsOf_snoc i (x.drop 4)
    rw [List.drop_drop] at hsn
    obtain ⟨u2, hu2, hub2, huo2⟩ := cut_lo Try.underlying79 info_5 sz_5 hu (kl := .i64) 40 rfl (by omega)
    obtain ⟨u3, hu3, hub3, huo3⟩ := cut_both Try.underlying79 info_5 sz_5 hu (kl := .i64) (kh := .i64) 32 40 rfl rfl (by omega) (by omega)
    obtain ⟨u5, hu5, hub5, huo5⟩ := cut_hi Try.underlying79 info_5 hu (kh := .i64) 32 rfl (by omega)
    have hd40 : (x.drop (4 + 40 * i)).drop 40 = x.drop (4 + 40 * (i + 1)) := by rw [List.drop_drop]; congr 1
    rw [hd40] at hub2
    generalize hy : x.drop (4 + 40 * i) = y at hu hul hub3 hub5 hsn eu
    have hyl : 40 ≤ y.length := by omega
    refine X_of (hu3 _) ?_
    have hzl : ((y.take 40).drop 32).length = 8 := by simp; omega
    refine New_spec (hub3.ext hx) (by omega) ?_
    intro b w3 hx3 hbl hrd
    have hx03 := hx.trans hx3
    have hbw : w.heap.size ≤ b := Nat.le_trans hx.size hbl
    have g4 : getR ((y.take 40).drop 32) 0 4 = (num ((y.drop 32).take 4), (y.take 40).drop 36, 0) := by
      have := getR_ok (bs := (y.take 40).drop 32) (m := 4) (by omega) (by decide)
      have e1 : ((y.take 40).drop 32).take 4 = (y.drop 32).take 4 := by rw [List.drop_take, List.take_take]; congr 1
      rw [e1, List.drop_drop] at this
      exact this
    have g2 : getR ((y.take 40).drop 36) 0 2 = (num ((y.drop 36).take 2), (y.take 40).drop 38, 0) := by
      have := getR_ok (bs := (y.take 40).drop 36) (m := 2) (by simp; omega) (by decide)
      have e1 : ((y.take 40).drop 36).take 2 = (y.drop 36).take 2 := by rw [List.drop_take, List.take_take]; congr 1
      rw [e1, List.drop_drop] at this
      exact this
    have g0 : getR ((y.take 40).drop 38) 0 2 = (num ((y.drop 38).take 2), (y.take 40).drop 40, 0) := by
      have := getR_ok (bs := (y.take 40).drop 38) (m := 2) (by simp; omega) (by decide)
      have e1 : ((y.take 40).drop 38).take 2 = (y.drop 38).take 2 := by rw [List.drop_take, List.take_take]; congr 1
      rw [e1, List.drop_drop] at this
      exact this
    have hky : kyOf y = ⟨y.take 32, num ((y.drop 32).take 4), by simp; omega, num_lt4 (by simp; omega)⟩ := dif_pos (by omega)
    refine joinS_of (fun ρ2 wr2 => ∃ (q lo hi : Nat), Ext w wr2 ∧ w.heap.size ≤ lo ∧ hi ≤ q ∧ wr2.heap[q]? = some (.cells (mkEx (kyOf y) 0 0).cs.toArray 72 (0, 0)) ∧ Rdr wr2 lo hi b ((y.take 40).drop 36) 0 ∧ OwnK 35 72 Ex.cs wr2 w.heap.size vo (exsOf i (x.drop 4)) ∧ (∀ g, vo.ownBlock = some g → g < lo) ∧ lo ≤ b ∧ b < hi ∧ ρ2 0 = u ∧ ρ2 4 = vo ∧ ρ2 5 = ptr b ∧ ρ2 6 = ptr q) ?_ ?_
    · rintro ρ2 wr2 ⟨q, lo, hi, hx2, hlo, hq, hqb, hr2, ho2, hvo, hlb, hbh, p0, p4, p5, p6⟩
      rw [p5, p0, p4, p6]
      refine Get_spec hr2 ?_
      rw [g2]
      intro w4 hk4 hr4
      rw [X_conv_30_3, X_field_72_1]
      have hq4 := hk4.get (by omega) hqb
      refine XU_store info_3 sz_3 rfl hq4 (by simp [Ex.cs_len]) (by show ¬ (0 ≤ _ ∧ _ < 0); omega) ?_
      rw [set_offM]
      have hk5 := setAt_keep w4 q (mkEx (kyOf y) (num ((y.drop 36).take 2)) 0).cs.toArray 72 (0, 0)
      have hq5 : (setAt w4 q (mkEx (kyOf y) (num ((y.drop 36).take 2)) 0).cs.toArray 72 (0, 0)).heap[q]? = some (.cells (mkEx (kyOf y) (num ((y.drop 36).take 2)) 0).cs.toArray 72 (0, 0)) := setAt_same (lt_of_blk hq4)
      generalize setAt w4 q (mkEx (kyOf y) (num ((y.drop 36).take 2)) 0).cs.toArray 72 (0, 0) = w5 at hk5 hq5 ⊢
      have hr5 := hr4.keep hk5 (by omega) (fun i h1 h2 h3 => by omega)
      refine Get_spec hr5 ?_
      rw [g0]
      intro w6 hk6 hr6
      rw [X_conv_30_3, X_field_72_2]
      have hq6 := hk6.get (by omega) hq5
      refine XU_store info_3 sz_3 rfl hq6 (by simp [Ex.cs_len]) (by show ¬ (0 ≤ _ ∧ _ < 0); omega) ?_
      rw [set_lenM]
      have hex : mkEx (kyOf y) (num ((y.drop 36).take 2)) (num ((y.drop 38).take 2)) = exOf y := rfl
      rw [hex]
      have hk7 := setAt_keep w6 q (exOf y).cs.toArray 72 (0, 0)
      have hq7 : (setAt w6 q (exOf y).cs.toArray 72 (0, 0)).heap[q]? = some (.cells (exOf y).cs.toArray 72 (0, 0)) := setAt_same (lt_of_blk hq6)
      generalize setAt w6 q (exOf y).cs.toArray 72 (0, 0) = w7 at hk7 hq7 ⊢
      have hkk : Keep (fun g => g = b ∨ g = q) wr2 w7 := Keep.trans (Keep.trans (Keep.trans (hk4.mono (fun _ _ h => .inl h)) (hk5.mono (fun _ _ h => .inr h))) (hk6.mono (fun _ _ h => .inl h))) (hk7.mono (fun _ _ h => .inr h))
      have hx7 : Ext w w7 := Ext.seq hx2 hkk (fun g hg => by omega)
      have ho7 := ho2.keep hkk (fun g hg hg' => by have := hvo g hg; omega)
      refine X_of (load_cells Try.underlying72 agg_72 info_72 (l := (exOf y).cs) (by rw [sz_72, Ex.cs_len]) (fun j u hj => by rw [add_plain, Nat.zero_add, cell_blk hq7]; simpa using hj)) ?_
      refine X_appEx ho7 (by rw [exsOf_len]; omega) hx7.size ?_
      intro u6 v' w8 ho8 hk8
      refine X_of (hu2 _) ?_
      show _ ∧ _
      refine ⟨⟨i + 1, u2, v', by omega, Ext.seq hx7 hk8 (fun g hg => (ho7.lt g hg.symm).1), hub2, ?_, rfl, rfl⟩, ?_⟩
      · rw [hsn, ← hy]
        rw [← hy] at ho8
        exact ho8
      · obtain ⟨a2, c2, e2⟩ := Bts.slice hub2
        show (match u2 with | .slice _ n _ => n | _ => 0) < _
        rw [e2, eu]
        show (x.drop (4 + 40 * (i + 1))).length < y.length
        rw [← hy, List.length_drop, List.length_drop]
        omega
    · intro J2 hJ2
      have hbl3 := hrd.lt
      have hbx : Ext w w3 := hx03
      have kd := Keep.drew (fun _ => False) w3
      have hx0d := hx03.trans kd
      have hrdd := hrd.ext kd
      have ho3 := (ho.ext hx3).ext kd
      have hsz : (drewW w3).heap.size = w3.heap.size := rfl
      refine ⟨Keep (fun g => g = b), Keep.frame _, ?_⟩
      generalize drewW w3 = wd at kd hx0d hrdd ho3 hsz ⊢
      refine XP_of hu5 ?_
      have hub5' := hub5
      obtain ⟨a5, c5, e5, g1', g2', g3'⟩ := hub5'
      have hl32 : (y.take 32).length = 32 := by rw [List.length_take]; omega
      obtain ⟨adr, hadr, hcell⟩ := g3' (by omega)
      subst hadr
      have hablk : adr.block < w.heap.size := hub5.blk_lt (by omega) _ (by rw [e5]; rfl)
      rw [e5]
      refine XP_of (fun w' => run_arrayAt Try.underlying41 _ (by omega) _ w') ?_
      refine XR_ok (Keep.frame _) (fun w' kk => load_cells (l := B8 (y.take 32)) Try.underlying41 agg_41 info_41 (by rw [sz_41]; simp; omega) (fun j u hj => ?_)) ?_
      · rw [B8_getElem?] at hj
        obtain ⟨z, hz, rfl⟩ := Option.map_eq_some_iff.1 hj
        refine (Keep.trans (Keep.ext hx0d) kk).cell ?_ (hcell j z hz)
        rw [add_block]
        omega
      have hkl : (kyOf y).sum = y.take 32 := by rw [hky]
      have hkn : ((kyOf y).num : Int) = ((num ((y.drop 32).take 4) : Nat) : Int) := by rw [hky]
      have hbuild := run_build_44b (kyOf y)
      rw [hkl, hkn] at hbuild
      have hn4 : num ((y.drop 32).take 4) < 4294967296 := num_lt4 (by simp; omega)
      have hone : ∀ u ∈ (mkEx (kyOf y) 0 0).cs, u.oneCell' = true := Ex.one _
      refine ⟨?_, ?_⟩
      · refine Get_spec hrdd ?_
        rw [g4]
        intro w9 hk9 hr9
        refine ⟨hk9, ?_⟩
        show XR _ _ (convert 30 42 (.int .u64 ((num ((y.drop 32).take 4) : Nat) : Int))) _ _
        rw [XR_conv_30_42, cw32 hn4]
        refine XP_of (fun w' => hbuild w') ?_
        refine XP_of (fun w' => run_build_72k (kyOf y) w') ?_
        refine X_alloc zero_72 ?_
        have hxA := newB_ext w9 z72.toArray 72
        have hgA := newB_get w9 z72.toArray 72
        show Keep _ w9 (newB w9 z72.toArray 72) ∧ XU _ _ (newB w9 z72.toArray 72) _
        generalize newB w9 z72.toArray 72 = w10 at hxA hgA ⊢
        refine ⟨Keep.ext hxA, ?_⟩
        have hs9 := hk9.size
        have hx9 : Ext w w9 := Ext.seq hx0d hk9 (fun i hi => by omega)
        refine XU_storeAgg info_72 hgA (by rw [sz_72]; simp) (by rw [sz_72, Ex.cs_len]) hone ?_
        refine hJ2 _ _ ⟨w9.heap.size, wr.heap.size, w3.heap.size, Ext.seq (hx9.trans hxA) (setAt_keep _ _ _ _ _) (fun i hi => by subst hi; exact hx9.size), hx.size, by omega, setAt_same (lt_of_blk hgA), ?_, ?_, fun g hg => (ho.lt g hg).2, hbl, hbl3, r0, r4, rfl, rfl⟩
        · exact (hr9.ext hxA).keep (setAt_keep _ _ _ _ _) (by omega) (fun i _ hi _ he => by omega)
        · refine ((ho3.keep hk9 (fun g hg hgb => ?_)).ext hxA).keep (setAt_keep _ _ _ _ _) (fun g hg hgb => ?_)
          · have := (ho.lt g hg).2
            omega
          · have := (ho.lt g hg).2
            omega
      · refine X_alloc zero_72 ?_
        have hxA := newB_ext wd (Value.agg z72.toArray).cells 72
        have hgA := newB_get wd (Value.agg z72.toArray).cells 72
        generalize newB wd (Value.agg z72.toArray).cells 72 = w9 at hxA hgA ⊢
        have hgA : w9.heap[wd.heap.size]? = some (.cells z72.toArray 72 (0, 0)) := hgA
        refine ⟨Keep.ext hxA, ?_⟩
        refine Get_spec (hrdd.ext hxA) ?_
        rw [g4]
        intro w10 hk10 hr10
        refine ⟨hk10, ?_⟩
        show XR _ _ (convert 30 42 (.int .u64 ((num ((y.drop 32).take 4) : Nat) : Int))) _ _
        rw [XR_conv_30_42, cw32 hn4]
        refine XP_of (fun w' => hbuild w') ?_
        refine XP_of (fun w' => run_build_72k (kyOf y) w') ?_
        have hgB := hk10.get (b := wd.heap.size) (by omega) hgA
        have hxw := hx0d.size
        refine XU_storeAgg info_72 hgB (by rw [sz_72]; simp) (by rw [sz_72, Ex.cs_len]) hone ?_
        refine hJ2 _ _ ⟨wd.heap.size, wr.heap.size, w3.heap.size, Ext.seq (Ext.seq (hx0d.trans hxA) hk10 (fun i hi => by omega)) (setAt_keep _ _ _ _ _) (fun i hi => by omega), hx.size, by omega, setAt_same (lt_of_blk hgB), ?_, ?_, fun g hg => (ho.lt g hg).2, hbl, hbl3, r0, r4, rfl, rfl⟩
        · exact hr10.keep (setAt_keep _ _ _ _ _) (by omega) (fun i _ hi _ he => by omega)
        · refine ((ho3.ext hxA).keep hk10 (fun g hg hgb => ?_)).keep (setAt_keep _ _ _ _ _) (fun g hg hgb => ?_)
          · have := (ho.lt g hg).2
            omega
          · have := (ho.lt g hg).2
            have := hx3.size
            omega
  · rintro ρ wr ⟨vo, hx, ho, r4⟩
    rw [r4]
    refine Right_spec (OwnK.rowK (by decide) Ex.csLen ho) ?_
    intro w1 hx1
    by_cases hj : RightP (exsOf n (x.drop 4))
    · have c : decide (RightP (exsOf n (x.drop 4))) = true := decide_eq_true hj
      (repeat (simp only [XP_extract0, XP_extract1, XP_extract2, XP_extract3, X_extract0, X_extract1, X_extract2, X_extract3, X_nilS, X_eql_nil_24, X_neq_nil_24, X_eql_nil_103, X_neq_nil_103, X_eql, X_neq, X_lss, X_leq, X_gtr, X_geq, X_not, X_min, X_max, X_len_79, X_len_35, XP_nilS, XP_eql, XP_neq, XP_lss, XP_leq, XP_gtr, XP_geq, XP_not, XP_min, XP_max, XP_len_79, XP_eql_nil_24, X_str_eql, X_str_neq, XP_str_eql, XP_str_neq, GS, gs_u, decide_true, decide_false, Option.isNone_some, Option.isSome_some, Option.isNone_none, Option.isSome_none, eq_self, Bool.not_true, Bool.not_false, Int.reduceEq, Int.reduceNe, Int.reduceLT, Int.reduceLE, Int.reduceGT, Int.reduceGE, c]))
      have ht := takeX_some hform hj
      have := hK vo w1 (hx.trans hx1) (by rw [ht]; exact ho.ext hx1)
      rw [ht] at this
      exact this
    · have c : decide (RightP (exsOf n (x.drop 4))) = false := decide_eq_false hj
      (repeat (simp only [XP_extract0, XP_extract1, XP_extract2, XP_extract3, X_extract0, X_extract1, X_extract2, X_extract3, X_nilS, X_eql_nil_24, X_neq_nil_24, X_eql_nil_103, X_neq_nil_103, X_eql, X_neq, X_lss, X_leq, X_gtr, X_geq, X_not, X_min, X_max, X_len_79, X_len_35, XP_nilS, XP_eql, XP_neq, XP_lss, XP_leq, XP_gtr, XP_geq, XP_not, XP_min, XP_max, XP_len_79, XP_eql_nil_24, X_str_eql, X_str_neq, XP_str_eql, XP_str_neq, GS, gs_u, decide_true, decide_false, Option.isNone_some, Option.isSome_some, Option.isNone_none, Option.isSome_none, eq_self, Bool.not_true, Bool.not_false, Int.reduceEq, Int.reduceNe, Int.reduceLT, Int.reduceLE, Int.reduceGT, Int.reduceGE, c]))
      refine none' (takeX_none (fun n' hf => ?_)) _ (hx.trans hx1)
      have : n' = n := by have := hf.1; omega
      rw [this]
      exact hj
end
end Go.Proofs.Ytlnkdphecinnnaa
end
section
set_option linter.unusedVariables false
namespace Go.Proofs.Ytlnkdphecinnnaa
open Go Go.Sh
attribute [local irreducible] X XU XP XR CALL loopS resC closS
/-- what is left of a row of statements -/
def rest_law16_shown : Nat → Code → Code
  | 0, c => c
  | n + 1, .seq _ b => rest_law16_shown n b
  | _, c => c
def first_law16_shown : Nat → Code → Code
  | 0, .seq a _ => a
  | n + 1, .seq a b => .seq a (first_law16_shown n b)
  | _, c => c
def B_law16_shown_p0 (C : Env → World → Prop) (ρ : Env) (w : World) : Prop :=
  C (upds ρ [(0, (.bool false))]) w
theorem eq_law16_shown_p0 (C : Env → World → Prop) (Q : Exit → Env → World → Prop) (ρ : Env) (w : World) : sh Try.prog (first_law16_shown 0 (rest_law16_shown 0 (Try.f28.body.getD .skip))) (thenS C Q) ρ w = B_law16_shown_p0 C ρ w := by kernel_rfl
def B_law16_shown_p1 (C : Env → World → Prop) (ρ : Env) (w : World) : Prop :=
  X Try.prog (Instr.build 44 #[(1, (.int .u32 1))]) w fun v1_8 w1 =>
  X Try.prog (Instr.build 44 #[(1, (.int .u32 2))]) w1 fun v2_9 w2 =>
  X Try.prog (Instr.alloc 44 true (.tuple #[])) w2 fun v3_1 w3 =>
  X Try.prog (Instr.alloc 44 true (.tuple #[])) w3 fun v4_2 w4 =>
  XU Try.prog (Instr.storeAt 44 v3_1 v1_8) w4 fun w5 =>
  XU Try.prog (Instr.storeAt 44 v4_2 v2_9) w5 fun w6 =>
  C (upds ρ [(2, v4_2), (1, v3_1), (9, v2_9), (8, v1_8)]) w6
theorem eq_law16_shown_p1 (C : Env → World → Prop) (Q : Exit → Env → World → Prop) (ρ : Env) (w : World) : sh Try.prog (first_law16_shown 0 (rest_law16_shown 1 (Try.f28.body.getD .skip))) (thenS C Q) ρ w = B_law16_shown_p1 C ρ w := by kernel_rfl
def B_law16_shown_p2 (C : Env → World → Prop) (ρ : Env) (w : World) : Prop :=
  X Try.prog (Instr.loadAt 44 (ρ 1)) w fun v5_10 w7 =>
  X Try.prog (Instr.build 72 #[(0, v5_10), (2, (.int .i64 10))]) w7 fun v6_11 w8 =>
  X Try.prog (Instr.loadAt 44 (ρ 2)) w8 fun v7_12 w9 =>
  X Try.prog (Instr.build 72 #[(0, v7_12), (1, (.int .i64 5)), (2, (.int .i64 10))]) w9 fun v8_13 w10 =>
  X Try.prog (Instr.buildSlice 59 2 #[(0, v6_11), (1, v8_13)]) w10 fun v9_14 w11 =>
  C (upds ρ [(3, v9_14), (14, v9_14), (13, v8_13), (12, v7_12), (11, v6_11), (10, v5_10)]) w11
theorem eq_law16_shown_p2 (C : Env → World → Prop) (Q : Exit → Env → World → Prop) (ρ : Env) (w : World) : sh Try.prog (first_law16_shown 0 (rest_law16_shown 2 (Try.f28.body.getD .skip))) (thenS C Q) ρ w = B_law16_shown_p2 C ρ w := by kernel_rfl
def B_law16_shown_p3 (C : Env → World → Prop) (ρ : Env) (w : World) : Prop :=
  CALL Try.prog 30 #[(ρ 3), (.int .i64 8), (.int .i64 5)] w fun v10_16 w12 =>
  C (upds ρ [(4, v10_16), (16, v10_16), (15, (ρ 3))]) w12
theorem eq_law16_shown_p3 (C : Env → World → Prop) (Q : Exit → Env → World → Prop) (ρ : Env) (w : World) : sh Try.prog (first_law16_shown 0 (rest_law16_shown 3 (Try.f28.body.getD .skip))) (thenS C Q) ρ w = B_law16_shown_p3 C ρ w := by kernel_rfl
def B_law16_shown_p4 (C : Env → World → Prop) (ρ : Env) (w : World) : Prop :=
  X Try.prog (Instr.loadAt 44 (ρ 1)) w fun v11_17 w13 =>
  X Try.prog (Instr.build 72 #[(0, v11_17), (2, (.int .i64 4))]) w13 fun v12_18 w14 =>
  X Try.prog (Instr.buildSlice 59 1 #[(0, v12_18)]) w14 fun v13_19 w15 =>
  X Try.prog (Instr.loadAt 44 (ρ 1)) w15 fun v14_20 w16 =>
  X Try.prog (Instr.build 72 #[(0, v14_20), (1, (.int .i64 4)), (2, (.int .i64 6))]) w16 fun v15_21 w17 =>
  X Try.prog (Instr.buildSlice 59 1 #[(0, v15_21)]) w17 fun v16_22 w18 =>
  X Try.prog (Instr.buildSlice 64 2 #[(0, v13_19), (1, v16_22)]) w18 fun v17_23 w19 =>
  CALL Try.prog 33 #[v17_23] w19 fun v18_24 w20 =>
  C (upds ρ [(5, v18_24), (24, v18_24), (23, v17_23), (22, v16_22), (21, v15_21), (20, v14_20), (19, v13_19), (18, v12_18), (17, v11_17)]) w20
theorem eq_law16_shown_p4 (C : Env → World → Prop) (Q : Exit → Env → World → Prop) (ρ : Env) (w : World) : sh Try.prog (first_law16_shown 0 (rest_law16_shown 4 (Try.f28.body.getD .skip))) (thenS C Q) ρ w = B_law16_shown_p4 C ρ w := by kernel_rfl
def B_law16_shown_p5 (C : Env → World → Prop) (ρ : Env) (w : World) : Prop :=
  X Try.prog (Instr.buildSlice 79 4 #[(0, (.int .u8 0)), (1, (.int .u8 0)), (2, (.int .u8 0)), (3, (.int .u8 0))]) w fun v19_26 w21 =>
  CALL Try.prog 44 #[v19_26] w21 fun v20_27 w22 =>
  X Try.prog (Instr.extract v20_27 0) w22 fun v21_28 w23 =>
  X Try.prog (Instr.extract v20_27 1) w23 fun v22_29 w24 =>
  C (upds ρ [(7, v22_29), (6, v21_28), (29, v22_29), (28, v21_28), (25, v20_27), (27, v20_27), (26, v19_26)]) w24
theorem eq_law16_shown_p5 (C : Env → World → Prop) (Q : Exit → Env → World → Prop) (ρ : Env) (w : World) : sh Try.prog (first_law16_shown 0 (rest_law16_shown 5 (Try.f28.body.getD .skip))) (thenS C Q) ρ w = B_law16_shown_p5 C ρ w := by kernel_rfl
def B_law16_shown_p6 (K : Value → World → Prop) (ρ : Env) (w : World) : Prop :=
  CALL Try.prog 36 #[(ρ 3)] w fun v23_31 w25 =>
  X Try.prog (binOpG .eql 3 (.tmp 31) (.const (.int .i64 20)) v23_31 (.int .i64 20)) w25 fun v24_32 w26 =>
  gstep v24_32 true (fun w27 K => K (ρ 4) w27) w26 fun v25_34 w28 =>
  gstep v24_32 true (fun w29 K => X Try.prog (Instr.loadAt 44 (ρ 1)) w29 K) w28 fun v26_35 w30 =>
  gstep v24_32 true (fun w31 K => X Try.prog (Instr.build 72 #[(0, v26_35), (1, (.int .i64 8)), (2, (.int .i64 2))]) w31 K) w30 fun v27_36 w32 =>
  gstep v24_32 true (fun w33 K => X Try.prog (Instr.loadAt 44 (ρ 2)) w33 K) w32 fun v28_37 w34 =>
  gstep v24_32 true (fun w35 K => X Try.prog (Instr.build 72 #[(0, v28_37), (1, (.int .i64 5)), (2, (.int .i64 3))]) w35 K) w34 fun v29_38 w36 =>
  gstep v24_32 true (fun w37 K => X Try.prog (Instr.buildSlice 59 2 #[(0, v27_36), (1, v29_38)]) w37 K) w36 fun v30_39 w38 =>
  gstep v24_32 true (fun w39 K => CALL Try.prog 29 #[v25_34, v30_39] w39 K) w38 fun v31_40 w40 =>
  X Try.prog (pickS v24_32 v31_40 (.bool false)) w40 fun v32_41 w41 =>
  gstep v32_41 true (fun w42 K => K (ρ 5) w42) w41 fun v33_43 w43 =>
  gstep v32_41 true (fun w44 K => K (ρ 3) w44) w43 fun v34_44 w45 =>
  gstep v32_41 true (fun w46 K => X Try.prog (Instr.sliceAt 59 v34_44 none (some (.int .i64 1)) none) w46 K) w45 fun v35_45 w47 =>
  gstep v32_41 true (fun w48 K => CALL Try.prog 29 #[v33_43, v35_45] w48 K) w47 fun v36_46 w49 =>
  X Try.prog (pickS v32_41 v36_46 (.bool false)) w49 fun v37_47 w50 =>
  gstep v37_47 true (fun w51 K => K (ρ 6) w51) w50 fun v38_49 w52 =>
  gstep v37_47 true (fun w53 K => X Try.prog (Builtin.len_ #[59] 3 #[v38_49]) w53 K) w52 fun v39_50 w54 =>
  gstep v37_47 true (fun w55 K => X Try.prog (binOpG .eql 3 (.tmp 50) (.const (.int .i64 0)) v39_50 (.int .i64 0)) w55 K) w54 fun v40_51 w56 =>
  X Try.prog (pickS v37_47 v40_51 (.bool false)) w56 fun v41_52 w57 =>
  gstep v41_52 true (fun w58 K => K (ρ 7) w58) w57 fun v42_54 w59 =>
  gstep v41_52 true (fun w60 K => X Try.prog (binOpG .eql 25 (.tmp 54) (.const (.int .i64 0)) v42_54 (.int .i64 0)) w60 K) w59 fun v43_55 w61 =>
  X Try.prog (pickS v41_52 v43_55 (.bool false)) w61 fun v44_56 w62 =>
  K v44_56 w62
theorem eq_law16_shown_p6 (K : Value → World → Prop) (ρ : Env) (w : World) : sh Try.prog (rest_law16_shown 6 (Try.f28.body.getD .skip)) (retS Try.prog Try.f28.results K) ρ w = B_law16_shown_p6 K ρ w := by kernel_rfl
/-- cellarage/cellaragelaw16.shown -/
def B_law16_shown (w : World) (K : Value → World → Prop) : Prop :=
  B_law16_shown_p0 (fun ρ w => B_law16_shown_p1 (fun ρ w => B_law16_shown_p2 (fun ρ w => B_law16_shown_p3 (fun ρ w => B_law16_shown_p4 (fun ρ w => B_law16_shown_p5 (fun ρ w => B_law16_shown_p6 K ρ w) ρ w) ρ w) ρ w) ρ w) ρ w) (env0 #[]) w
theorem seqE {P : Program} {a b : Code} {Q : Exit → Env → World → Prop} {B : Env → World → Prop} (h : ∀ ρ w, sh P b Q ρ w = B ρ w) (ρ : Env) (w : World) : sh P (.seq a b) Q ρ w = sh P a (thenS B Q) ρ w := by
  show sh P a (thenS (sh P b Q) Q) ρ w = _
  have e : sh P b Q = B := funext fun ρ => funext fun w => h ρ w
  rw [e]
theorem code_law16_shown : (Try.f28.body.getD .skip) = .seq (first_law16_shown 0 (rest_law16_shown 0 (Try.f28.body.getD .skip))) (.seq (first_law16_shown 0 (rest_law16_shown 1 (Try.f28.body.getD .skip))) (.seq (first_law16_shown 0 (rest_law16_shown 2 (Try.f28.body.getD .skip))) (.seq (first_law16_shown 0 (rest_law16_shown 3 (Try.f28.body.getD .skip))) (.seq (first_law16_shown 0 (rest_law16_shown 4 (Try.f28.body.getD .skip))) (.seq (first_law16_shown 0 (rest_law16_shown 5 (Try.f28.body.getD .skip))) (rest_law16_shown 6 (Try.f28.body.getD .skip))))))) := by kernel_rfl
theorem eq_law16_shown (w : World) (K : Value → World → Prop) :
    sh Try.prog (Try.f28.body.getD .skip) (retS Try.prog Try.f28.results K) (env0 #[]) w = B_law16_shown  w K :=
  (congrArg (fun c => sh Try.prog c (retS Try.prog Try.f28.results K) (env0 #[]) w) code_law16_shown).trans ((fun ρ w => (seqE (fun ρ w => (seqE (fun ρ w => (seqE (fun ρ w => (seqE (fun ρ w => (seqE (fun ρ w => (seqE (fun ρ w => eq_law16_shown_p6 K ρ w) ρ w).trans (eq_law16_shown_p5 _ _ ρ w)) ρ w).trans (eq_law16_shown_p4 _ _ ρ w)) ρ w).trans (eq_law16_shown_p3 _ _ ρ w)) ρ w).trans (eq_law16_shown_p2 _ _ ρ w)) ρ w).trans (eq_law16_shown_p1 _ _ ρ w)) ρ w).trans (eq_law16_shown_p0 _ _ ρ w)) _ _)
theorem call_law16_shown (w : World) (K : Value → World → Prop) (h : B_law16_shown  w K) : CALL Try.prog 28 #[] w K :=
  call_of_eq (c := Try.f28.body.getD .skip) mixed Try.func28 (by kernel_rfl) (by kernel_rfl) (by kernel_rfl) (Nat.le_of_ble_eq_true (by kernel_rfl)) (eq_law16_shown  w K) h

end Go.Proofs.Ytlnkdphecinnnaa
end
section
/- The examples of the extents' chapter hold. -/
set_option linter.unusedVariables false
set_option linter.unusedSimpArgs false
namespace Go.Proofs.Ytlnkdphecinnnaa
open Go Go.Sh Go.RowKit
attribute [local irreducible] X XU XP XR CALL loopS resC closS
/-- A literal of two items. -/
theorem X_buildSlice2 {P : Program} {w : World} {K : Value → World → Prop} {T e k bytes : Nat} {z : Value} (hT : P.underlying T = some (.slice e)) (hE : El P e k z bytes) (hk : 0 < k) (hk2 : 2 * k ≤ 16777216) {v0 v1 : Value} {c0 c1 : List Value} (e0 : v0.cells = c0.toArray) (e1 : v1.cells = c1.toArray) (l0 : c0.length = k) (l1 : c1.length = k)
    (h : K (.slice (some ⟨w.heap.size, 0, none⟩) 2 2) (newB w (c0 ++ c1).toArray e)) : X P (Instr.buildSlice T 2 #[(0, v0), (1, v1)]) w K := by
  obtain ⟨⟨i, hi, hs, hz, _⟩, hzc⟩ := hE
  refine X_of (v := .slice (some ⟨w.heap.size, 0, none⟩) 2 2) (w1 := newB w (c0 ++ c1).toArray e) ?_ h
  have h1 : ¬ (2 * k > 2 ^ 24) := by omega
  have h2 : ¬ (2 * k = 0) := by omega
  have hf : ∀ cells : Array Value, cells.size = 2 * k → Instr.fill (fun i => some (i * k, k)) cells [(0, v0), (1, v1)] = some (c0 ++ c1).toArray := by
    intro cells hcs
    have := Great.fill_whole hk [v0, v1] cells (by intro v hv; simp only [List.mem_cons, List.not_mem_nil, or_false] at hv; rcases hv with rfl | rfl <;> simp [e0, e1, l0, l1]) (by simp [hcs])
    simpa [e0, e1] using this
  have hf' := hf ((Array.range (2 * k)).map fun x => (z.cells)[x % z.cells.size]!) (by simp)
  have q1 : infoB P e = true := by unfold infoB; rw [hi]; rfl
  have q2 : szT P e = k := by unfold szT; rw [hi]; exact hs
  have q3 : zeroT P e = some z := by unfold zeroT; rw [hi]; exact hz
  simp only [Instr.buildSlice, Sem.run_bind, run_underlying hT, Result.andThen_ok, sizeOf_run q1, q2, if_neg h1, if_neg h2, zeroValue_run q3, Sem.run_pure, hf', newRow, run_newObj]
  rfl
theorem lit0000 (w : World) : (Instr.buildSlice 79 4 #[(0, (.int .u8 0)), (1, (.int .u8 0)), (2, (.int .u8 0)), (3, (.int .u8 0))]).run Try.prog w = .ok (.slice (some ⟨w.heap.size, 0, none⟩) 4 4) (newB w (B8 [0, 0, 0, 0]).toArray 5) := by kernel_rfl
def kN (n : Nat) (h : n < 4294967296) : Ky := ⟨List.replicate 32 0, n, List.length_replicate, h⟩
def kA : Ky := kN 1 (by decide)
def kB : Ky := kN 2 (by decide)
theorem bld (k : Ky) {a b : Int} (a1 : -9223372036854775808 ≤ a) (a2 : a ≤ 9223372036854775807) (b1 : -9223372036854775808 ≤ b) (b2 : b ≤ 9223372036854775807) (w : World) : (Instr.build 72 #[(0, k.v), (1, .int .i64 a), (2, .int .i64 b)]).run Try.prog w = .ok (.agg (mkEx k a b).cs.toArray) w := by
  have := run_build_72 k a b w
  rw [w64 a1 a2, w64 b1 b2] at this
  exact this
theorem bldL (k : Ky) {b : Int} (b1 : -9223372036854775808 ≤ b) (b2 : b ≤ 9223372036854775807) (w : World) : (Instr.build 72 #[(0, k.v), (2, .int .i64 b)]).run Try.prog w = .ok (.agg (mkEx k 0 b).cs.toArray) w := by
  have := run_build_72l k b w
  rw [w64 b1 b2] at this
  exact this
def exL : List Ex := [mkEx kA 0 10, mkEx kB 5 10]
theorem ex_slice : sliceE exL 8 5 = [mkEx kA 8 2, mkEx kB 5 3] := by kernel_rfl
theorem ex_join : joinE [[mkEx kA 0 4], [mkEx kA 4 6]] = exL.take 1 := by kernel_rfl
theorem ex_take : takeX [0, 0, 0, 0] = some [] := by kernel_rfl
theorem ex_total : totalE exL = 20 := by kernel_rfl
theorem row_ofK {g : Nat} {w : World} {xs : List Ex} (hg : w.heap[g]? = some (.cells (cellsK Ex.cs xs).toArray 72 (0, 0))) (n : Nat) (hn : xs.length = n) (h : n ≤ 1000) : RowK 35 Ex.cs w (.slice (some ⟨g, 0, none⟩) n n) xs := RowK.ofK (by decide) Ex.csLen hg hn (by omega)
theorem row_of1 {g T : Nat} {w : World} {us : List Value} (hg : w.heap[g]? = some (.cells us.toArray T (0, 0))) (n : Nat) (hn : us.length = n) (h : n ≤ 1000) : RowK 1 (fun u : Value => [u]) w (.slice (some ⟨g, 0, none⟩) n n) us := by
  have e : cellsK (fun u : Value => [u]) us = us := by
    unfold cellsK
    clear hg hn
    induction us with
    | nil => rfl
    | cons u us ih => simp [ih]
  exact RowK.ofK (f := fun u : Value => [u]) (by decide) (fun _ => rfl) (by rw [e]; exact hg) hn (by omega)
section
variable {w : World} {K : Value → World → Prop}
set_option maxHeartbeats 1000000 in
theorem shown16 (hK : ∀ w1, Ext w w1 → K (.bool true) w1) : CALL Try.prog 28 #[] w K := by
  apply call_law16_shown
  unfold B_law16_shown B_law16_shown_p0 B_law16_shown_p1
  refine X_of (run_build_44n 1 (by decide) _) ?_
  refine X_of (run_build_44n 2 (by decide) _) ?_
  refine X_alloc zero_44 ?_
  have hx1 := newB_ext w (Value.agg (List.replicate 32 (Value.int .u8 0) ++ [Value.int .u32 0]).toArray).cells 44
  have hg1 : (newB w (Value.agg (List.replicate 32 (Value.int .u8 0) ++ [Value.int .u32 0]).toArray).cells 44).heap[w.heap.size]? = some (.cells (List.replicate 32 (Value.int .u8 0) ++ [Value.int .u32 0]).toArray 44 (0, 0)) := newB_get _ _ _
  generalize newB w (Value.agg (List.replicate 32 (Value.int .u8 0) ++ [Value.int .u32 0]).toArray).cells 44 = w1 at hx1 hg1 ⊢
  refine X_alloc zero_44 ?_
  have hx2 := newB_ext w1 (Value.agg (List.replicate 32 (Value.int .u8 0) ++ [Value.int .u32 0]).toArray).cells 44
  have hg2 : (newB w1 (Value.agg (List.replicate 32 (Value.int .u8 0) ++ [Value.int .u32 0]).toArray).cells 44).heap[w1.heap.size]? = some (.cells (List.replicate 32 (Value.int .u8 0) ++ [Value.int .u32 0]).toArray 44 (0, 0)) := newB_get _ _ _
  generalize newB w1 (Value.agg (List.replicate 32 (Value.int .u8 0) ++ [Value.int .u32 0]).toArray).cells 44 = w2 at hx2 hg2 ⊢
  have hg12 := hx2.get hg1
  have hl1 := lt_of_blk hg1
  refine XU_storeAgg info_44 hg12 (by rw [sz_44]; simp) (by rw [sz_44, Ky.cs_len]) (Ky.one _) ?_
  show XU _ _ (setAt w2 w.heap.size kA.cs.toArray 44 (0, 0)) _
  have hk3 := setAt_keep w2 w.heap.size kA.cs.toArray 44 (0, 0)
  have hg3 : (setAt w2 w.heap.size kA.cs.toArray 44 (0, 0)).heap[w.heap.size]? = some (.cells kA.cs.toArray 44 (0, 0)) := setAt_same (lt_of_blk hg12)
  generalize setAt w2 w.heap.size kA.cs.toArray 44 (0, 0) = w3 at hk3 hg3 ⊢
  have hg23 := hk3.get (by omega) hg2
  refine XU_storeAgg info_44 hg23 (by rw [sz_44]; simp) (by rw [sz_44, Ky.cs_len]) (Ky.one _) ?_
  have hk4 := setAt_keep w3 w1.heap.size kB.cs.toArray 44 (0, 0)
  have hgB : (setAt w3 w1.heap.size kB.cs.toArray 44 (0, 0)).heap[w1.heap.size]? = some (.cells kB.cs.toArray 44 (0, 0)) := setAt_same (lt_of_blk hg23)
  have hgA := hk4.get (by omega) hg3
  have hs1 := hx1.size
  have hx4 : Ext w (setAt w3 w1.heap.size kB.cs.toArray 44 (0, 0)) := Ext.seq (Ext.seq (hx1.trans hx2) hk3 (fun i hi => by omega)) hk4 (fun i hi => by omega)
  show B_law16_shown_p2 _ _ (setAt w3 w1.heap.size kB.cs.toArray 44 (0, 0))
  generalize setAt w3 w1.heap.size kB.cs.toArray 44 (0, 0) = w4 at hgA hgB hx4 ⊢
  have lA : ∀ w', Ext w4 w' → (Instr.loadAt 44 (ptr w.heap.size)).run Try.prog w' = .ok kA.v w' := fun w' kk => load_cells Try.underlying44 agg_44 info_44 (l := kA.cs) (by rw [sz_44, Ky.cs_len]) (fun j u hj => by rw [add_plain, Nat.zero_add, cell_blk (kk.get hgA)]; simpa using hj)
  have lB : ∀ w', Ext w4 w' → (Instr.loadAt 44 (ptr w1.heap.size)).run Try.prog w' = .ok kB.v w' := fun w' kk => load_cells Try.underlying44 agg_44 info_44 (l := kB.cs) (by rw [sz_44, Ky.cs_len]) (fun j u hj => by rw [add_plain, Nat.zero_add, cell_blk (kk.get hgB)]; simpa using hj)
  unfold B_law16_shown_p2
  refine X_of (lA w4 (Keep.refl _ _)) ?_
  refine X_of (bldL kA (by decide) (by decide) _) ?_
  refine X_of (lB w4 (Keep.refl _ _)) ?_
  refine X_of (bld kB (by decide) (by decide) (by decide) (by decide) _) ?_
  refine X_buildSlice2 (c0 := (mkEx kA 0 10).cs) (c1 := (mkEx kB 5 10).cs) Try.underlying59 el_72 (by decide) (by decide) rfl rfl (Ex.cs_len _) (Ex.cs_len _) ?_
  have hx5 := newB_ext w4 ((mkEx kA 0 10).cs ++ (mkEx kB 5 10).cs).toArray 72
  have hr5 : RowK 35 Ex.cs (newB w4 ((mkEx kA 0 10).cs ++ (mkEx kB 5 10).cs).toArray 72) (.slice (some ⟨w4.heap.size, 0, none⟩) 2 2) exL := row_ofK (by rw [newB_get]; simp [cellsK, exL]) 2 rfl (by decide)
  generalize newB w4 ((mkEx kA 0 10).cs ++ (mkEx kB 5 10).cs).toArray 72 = w5 at hx5 hr5 ⊢
  unfold B_law16_shown_p3
  refine Slice_spec hr5 (by decide) (by decide) (by decide) (by decide) ?_
  rw [ex_slice]
  intro u6 w6 hx6 ho6
  have hr6 := OwnK.rowK (by decide) Ex.csLen ho6
  have hx46 := hx5.trans hx6
  unfold B_law16_shown_p4
  refine X_of (lA w6 hx46) ?_
  refine X_of (bldL kA (by decide) (by decide) _) ?_
  refine X_buildSliceK Try.underlying59 el_72 (by decide) (by decide) (Ex.cs_len _) ?_
  have hx7 := newB_ext w6 (mkEx kA 0 4).cs.toArray 72
  have hr7 : RowK 35 Ex.cs (newB w6 (mkEx kA 0 4).cs.toArray 72) (.slice (some ⟨w6.heap.size, 0, none⟩) 1 1) [mkEx kA 0 4] := row_ofK (by rw [newB_get]; simp [cellsK]) 1 rfl (by decide)
  generalize newB w6 (mkEx kA 0 4).cs.toArray 72 = w7 at hx7 hr7 ⊢
  refine X_of (lA w7 (hx46.trans hx7)) ?_
  refine X_of (bld kA (by decide) (by decide) (by decide) (by decide) _) ?_
  refine X_buildSliceK Try.underlying59 el_72 (by decide) (by decide) (Ex.cs_len _) ?_
  have hx8 := newB_ext w7 (mkEx kA 4 6).cs.toArray 72
  have hr8 : RowK 35 Ex.cs (newB w7 (mkEx kA 4 6).cs.toArray 72) (.slice (some ⟨w7.heap.size, 0, none⟩) 1 1) [mkEx kA 4 6] := row_ofK (by rw [newB_get]; simp [cellsK]) 1 rfl (by decide)
  generalize newB w7 (mkEx kA 4 6).cs.toArray 72 = w8 at hx8 hr8 ⊢
  refine X_buildSlice2 (c0 := [.slice (some ⟨w6.heap.size, 0, none⟩) 1 1]) (c1 := [.slice (some ⟨w7.heap.size, 0, none⟩) 1 1]) Try.underlying64 el_59 (by decide) (by decide) rfl rfl rfl rfl ?_
  have hx9 := newB_ext w8 ([Value.slice (some ⟨w6.heap.size, 0, none⟩) 1 1] ++ [Value.slice (some ⟨w7.heap.size, 0, none⟩) 1 1]).toArray 59
  have hr9 : RowK 1 (fun u : Value => [u]) (newB w8 ([Value.slice (some ⟨w6.heap.size, 0, none⟩) 1 1] ++ [Value.slice (some ⟨w7.heap.size, 0, none⟩) 1 1]).toArray 59) (.slice (some ⟨w8.heap.size, 0, none⟩) 2 2) [Value.slice (some ⟨w6.heap.size, 0, none⟩) 1 1, Value.slice (some ⟨w7.heap.size, 0, none⟩) 1 1] := row_of1 (by rw [newB_get]; rfl) 2 rfl (by decide)
  generalize newB w8 ([Value.slice (some ⟨w6.heap.size, 0, none⟩) 1 1] ++ [Value.slice (some ⟨w7.heap.size, 0, none⟩) 1 1]).toArray 59 = w9 at hx9 hr9 ⊢
  have hrows : RowsE w9 (.slice (some ⟨w8.heap.size, 0, none⟩) 2 2) [[mkEx kA 0 4], [mkEx kA 4 6]] := by
    refine ⟨_, hr9, rfl, fun i u l hu hl => ?_⟩
    match i with
    | 0 => simp at hu hl; subst hu; subst hl; exact (hr7.ext hx8).ext hx9
    | 1 => simp at hu hl; subst hu; subst hl; exact hr8.ext hx9
    | n + 2 => simp at hu
  refine Join_spec hrows (by decide) (by decide) ?_
  rw [ex_join]
  intro u10 w10 hx10 ho10
  have hr10 := OwnK.rowK (by decide) Ex.csLen ho10
  unfold B_law16_shown_p5
  refine X_of (lit0000 _) ?_
  have hx11 := newB_ext w10 (B8 [0, 0, 0, 0]).toArray 5
  have hb11 : Bts (newB w10 (B8 [0, 0, 0, 0]).toArray 5) (.slice (some ⟨w10.heap.size, 0, none⟩) 4 4) [0, 0, 0, 0] :=
    ⟨_, 4, rfl, by decide, by decide, fun _ => ⟨_, rfl, fun j u hj => by rw [add_plain, Nat.zero_add, cell_blk (newB_get _ _ _), List.getElem?_toArray, B8_getElem?, hj]; rfl⟩⟩
  generalize newB w10 (B8 [0, 0, 0, 0]).toArray 5 = w11 at hx11 hb11 ⊢
  refine Take_spec hb11 (by decide) ?_
  rw [ex_take]
  intro u12 w12 hx12 ho12
  obtain ⟨a12, c12, e12⟩ := (OwnK.rowK (by decide) Ex.csLen ho12).slice
  have hx612 : Ext w6 w12 := ((((hx7.trans hx8).trans hx9).trans hx10).trans hx11).trans hx12
  have hx412 := hx46.trans hx612
  rw [X_extract0, X_extract1]
  unfold B_law16_shown_p6
  refine Total_spec ((hr5.ext hx6).ext hx612) ?_
  rw [ex_total]
  intro w13 hx13
  have c20 : decide ((20 : Int) = 20) = true := rfl
  (repeat (simp only [XP_extract0, XP_extract1, XP_extract2, XP_extract3, X_extract0, X_extract1, X_extract2, X_extract3, X_nilS, X_eql_nil_24, X_neq_nil_24, X_eql_nil_103, X_neq_nil_103, X_eql, X_neq, X_lss, X_leq, X_gtr, X_geq, X_not, X_min, X_max, X_len_79, X_len_35, XP_nilS, XP_eql, XP_neq, XP_lss, XP_leq, XP_gtr, XP_geq, XP_not, XP_min, XP_max, XP_len_79, XP_eql_nil_24, X_str_eql, X_str_neq, XP_str_eql, XP_str_neq, GS, gs_u, decide_true, decide_false, Option.isNone_some, Option.isSome_some, Option.isNone_none, Option.isSome_none, eq_self, Bool.not_true, Bool.not_false, Int.reduceEq, Int.reduceNe, Int.reduceLT, Int.reduceLE, Int.reduceGT, Int.reduceGE, c20]))
  refine X_of (lA w13 (hx412.trans hx13)) ?_
  (repeat (simp only [XP_extract0, XP_extract1, XP_extract2, XP_extract3, X_extract0, X_extract1, X_extract2, X_extract3, X_nilS, X_eql_nil_24, X_neq_nil_24, X_eql_nil_103, X_neq_nil_103, X_eql, X_neq, X_lss, X_leq, X_gtr, X_geq, X_not, X_min, X_max, X_len_79, X_len_35, XP_nilS, XP_eql, XP_neq, XP_lss, XP_leq, XP_gtr, XP_geq, XP_not, XP_min, XP_max, XP_len_79, XP_eql_nil_24, X_str_eql, X_str_neq, XP_str_eql, XP_str_neq, GS, gs_u, decide_true, decide_false, Option.isNone_some, Option.isSome_some, Option.isNone_none, Option.isSome_none, eq_self, Bool.not_true, Bool.not_false, Int.reduceEq, Int.reduceNe, Int.reduceLT, Int.reduceLE, Int.reduceGT, Int.reduceGE, c20]))
  refine X_of (bld kA (by decide) (by decide) (by decide) (by decide) _) ?_
  (repeat (simp only [XP_extract0, XP_extract1, XP_extract2, XP_extract3, X_extract0, X_extract1, X_extract2, X_extract3, X_nilS, X_eql_nil_24, X_neq_nil_24, X_eql_nil_103, X_neq_nil_103, X_eql, X_neq, X_lss, X_leq, X_gtr, X_geq, X_not, X_min, X_max, X_len_79, X_len_35, XP_nilS, XP_eql, XP_neq, XP_lss, XP_leq, XP_gtr, XP_geq, XP_not, XP_min, XP_max, XP_len_79, XP_eql_nil_24, X_str_eql, X_str_neq, XP_str_eql, XP_str_neq, GS, gs_u, decide_true, decide_false, Option.isNone_some, Option.isSome_some, Option.isNone_none, Option.isSome_none, eq_self, Bool.not_true, Bool.not_false, Int.reduceEq, Int.reduceNe, Int.reduceLT, Int.reduceLE, Int.reduceGT, Int.reduceGE, c20]))
  refine X_of (lB w13 (hx412.trans hx13)) ?_
  (repeat (simp only [XP_extract0, XP_extract1, XP_extract2, XP_extract3, X_extract0, X_extract1, X_extract2, X_extract3, X_nilS, X_eql_nil_24, X_neq_nil_24, X_eql_nil_103, X_neq_nil_103, X_eql, X_neq, X_lss, X_leq, X_gtr, X_geq, X_not, X_min, X_max, X_len_79, X_len_35, XP_nilS, XP_eql, XP_neq, XP_lss, XP_leq, XP_gtr, XP_geq, XP_not, XP_min, XP_max, XP_len_79, XP_eql_nil_24, X_str_eql, X_str_neq, XP_str_eql, XP_str_neq, GS, gs_u, decide_true, decide_false, Option.isNone_some, Option.isSome_some, Option.isNone_none, Option.isSome_none, eq_self, Bool.not_true, Bool.not_false, Int.reduceEq, Int.reduceNe, Int.reduceLT, Int.reduceLE, Int.reduceGT, Int.reduceGE, c20]))
  refine X_of (bld kB (by decide) (by decide) (by decide) (by decide) _) ?_
  (repeat (simp only [XP_extract0, XP_extract1, XP_extract2, XP_extract3, X_extract0, X_extract1, X_extract2, X_extract3, X_nilS, X_eql_nil_24, X_neq_nil_24, X_eql_nil_103, X_neq_nil_103, X_eql, X_neq, X_lss, X_leq, X_gtr, X_geq, X_not, X_min, X_max, X_len_79, X_len_35, XP_nilS, XP_eql, XP_neq, XP_lss, XP_leq, XP_gtr, XP_geq, XP_not, XP_min, XP_max, XP_len_79, XP_eql_nil_24, X_str_eql, X_str_neq, XP_str_eql, XP_str_neq, GS, gs_u, decide_true, decide_false, Option.isNone_some, Option.isSome_some, Option.isNone_none, Option.isSome_none, eq_self, Bool.not_true, Bool.not_false, Int.reduceEq, Int.reduceNe, Int.reduceLT, Int.reduceLE, Int.reduceGT, Int.reduceGE, c20]))
  refine X_buildSlice2 (c0 := (mkEx kA 8 2).cs) (c1 := (mkEx kB 5 3).cs) Try.underlying59 el_72 (by decide) (by decide) rfl rfl (Ex.cs_len _) (Ex.cs_len _) ?_
  have hx14 := newB_ext w13 ((mkEx kA 8 2).cs ++ (mkEx kB 5 3).cs).toArray 72
  have hr14 : RowK 35 Ex.cs (newB w13 ((mkEx kA 8 2).cs ++ (mkEx kB 5 3).cs).toArray 72) (.slice (some ⟨w13.heap.size, 0, none⟩) 2 2) [mkEx kA 8 2, mkEx kB 5 3] := row_ofK (by rw [newB_get]; simp [cellsK]) 2 rfl (by decide)
  generalize newB w13 ((mkEx kA 8 2).cs ++ (mkEx kB 5 3).cs).toArray 72 = w14 at hx14 hr14 ⊢
  (repeat (simp only [XP_extract0, XP_extract1, XP_extract2, XP_extract3, X_extract0, X_extract1, X_extract2, X_extract3, X_nilS, X_eql_nil_24, X_neq_nil_24, X_eql_nil_103, X_neq_nil_103, X_eql, X_neq, X_lss, X_leq, X_gtr, X_geq, X_not, X_min, X_max, X_len_79, X_len_35, XP_nilS, XP_eql, XP_neq, XP_lss, XP_leq, XP_gtr, XP_geq, XP_not, XP_min, XP_max, XP_len_79, XP_eql_nil_24, X_str_eql, X_str_neq, XP_str_eql, XP_str_neq, GS, gs_u, decide_true, decide_false, Option.isNone_some, Option.isSome_some, Option.isNone_none, Option.isSome_none, eq_self, Bool.not_true, Bool.not_false, Int.reduceEq, Int.reduceNe, Int.reduceLT, Int.reduceLE, Int.reduceGT, Int.reduceGE, c20]))
  have hx614 := (hx612.trans hx13).trans hx14
  refine SameE_spec (hr6.ext hx614) hr14 (by decide) ?_
  intro w15 hx15
  have hx615 := hx614.trans hx15
  (repeat (simp only [XP_extract0, XP_extract1, XP_extract2, XP_extract3, X_extract0, X_extract1, X_extract2, X_extract3, X_nilS, X_eql_nil_24, X_neq_nil_24, X_eql_nil_103, X_neq_nil_103, X_eql, X_neq, X_lss, X_leq, X_gtr, X_geq, X_not, X_min, X_max, X_len_79, X_len_35, XP_nilS, XP_eql, XP_neq, XP_lss, XP_leq, XP_gtr, XP_geq, XP_not, XP_min, XP_max, XP_len_79, XP_eql_nil_24, X_str_eql, X_str_neq, XP_str_eql, XP_str_neq, GS, gs_u, decide_true, decide_false, Option.isNone_some, Option.isSome_some, Option.isNone_none, Option.isSome_none, eq_self, Bool.not_true, Bool.not_false, Int.reduceEq, Int.reduceNe, Int.reduceLT, Int.reduceLE, Int.reduceGT, Int.reduceGE, c20]))
  obtain ⟨at', ct, et, _, ht⟩ := rowK_take ((hr5.ext hx6).ext hx615) 1 (by decide)
  injection et with et1 et2 et3
  subst et1; subst et3
  refine X_of (run_slice_hi Try.underlying59 info_72 _ _ _ .i64 1 (by decide) w15) ?_
  (repeat (simp only [XP_extract0, XP_extract1, XP_extract2, XP_extract3, X_extract0, X_extract1, X_extract2, X_extract3, X_nilS, X_eql_nil_24, X_neq_nil_24, X_eql_nil_103, X_neq_nil_103, X_eql, X_neq, X_lss, X_leq, X_gtr, X_geq, X_not, X_min, X_max, X_len_79, X_len_35, XP_nilS, XP_eql, XP_neq, XP_lss, XP_leq, XP_gtr, XP_geq, XP_not, XP_min, XP_max, XP_len_79, XP_eql_nil_24, X_str_eql, X_str_neq, XP_str_eql, XP_str_neq, GS, gs_u, decide_true, decide_false, Option.isNone_some, Option.isSome_some, Option.isNone_none, Option.isSome_none, eq_self, Bool.not_true, Bool.not_false, Int.reduceEq, Int.reduceNe, Int.reduceLT, Int.reduceLE, Int.reduceGT, Int.reduceGE, c20]))
  refine SameE_spec (hr10.ext ((((hx11.trans hx12).trans hx13).trans hx14).trans hx15)) ht (by decide) ?_
  intro w16 hx16
  have c0 : decide ((0 : Int) = 0) = true := rfl
  (repeat (simp only [XP_extract0, XP_extract1, XP_extract2, XP_extract3, X_extract0, X_extract1, X_extract2, X_extract3, X_nilS, X_eql_nil_24, X_neq_nil_24, X_eql_nil_103, X_neq_nil_103, X_eql, X_neq, X_lss, X_leq, X_gtr, X_geq, X_not, X_min, X_max, X_len_79, X_len_35, XP_nilS, XP_eql, XP_neq, XP_lss, XP_leq, XP_gtr, XP_geq, XP_not, XP_min, XP_max, XP_len_79, XP_eql_nil_24, X_str_eql, X_str_neq, XP_str_eql, XP_str_neq, GS, gs_u, decide_true, decide_false, Option.isNone_some, Option.isSome_some, Option.isNone_none, Option.isSome_none, eq_self, Bool.not_true, Bool.not_false, Int.reduceEq, Int.reduceNe, Int.reduceLT, Int.reduceLE, Int.reduceGT, Int.reduceGE, c0]))
  show X _ (Builtin.len_ #[59] 3 #[u12]) w16 _
  rw [e12, X_len_59]
  have c0' : decide ((((Option.getD (some ([] : List Ex)) []).length : Nat) : Int) = 0) = true := rfl
  (repeat (simp only [XP_extract0, XP_extract1, XP_extract2, XP_extract3, X_extract0, X_extract1, X_extract2, X_extract3, X_nilS, X_eql_nil_24, X_neq_nil_24, X_eql_nil_103, X_neq_nil_103, X_eql, X_neq, X_lss, X_leq, X_gtr, X_geq, X_not, X_min, X_max, X_len_79, X_len_35, XP_nilS, XP_eql, XP_neq, XP_lss, XP_leq, XP_gtr, XP_geq, XP_not, XP_min, XP_max, XP_len_79, XP_eql_nil_24, X_str_eql, X_str_neq, XP_str_eql, XP_str_neq, GS, gs_u, decide_true, decide_false, Option.isNone_some, Option.isSome_some, Option.isNone_none, Option.isSome_none, eq_self, Bool.not_true, Bool.not_false, Int.reduceEq, Int.reduceNe, Int.reduceLT, Int.reduceLE, Int.reduceGT, Int.reduceGE, c0']))
  show X _ (binOpG .eql 25 _ _ (.int .i64 0) (.int .i64 0)) w16 _
  (repeat (simp only [XP_extract0, XP_extract1, XP_extract2, XP_extract3, X_extract0, X_extract1, X_extract2, X_extract3, X_nilS, X_eql_nil_24, X_neq_nil_24, X_eql_nil_103, X_neq_nil_103, X_eql, X_neq, X_lss, X_leq, X_gtr, X_geq, X_not, X_min, X_max, X_len_79, X_len_35, XP_nilS, XP_eql, XP_neq, XP_lss, XP_leq, XP_gtr, XP_geq, XP_not, XP_min, XP_max, XP_len_79, XP_eql_nil_24, X_str_eql, X_str_neq, XP_str_eql, XP_str_neq, GS, gs_u, decide_true, decide_false, Option.isNone_some, Option.isSome_some, Option.isNone_none, Option.isSome_none, eq_self, Bool.not_true, Bool.not_false, Int.reduceEq, Int.reduceNe, Int.reduceLT, Int.reduceLE, Int.reduceGT, Int.reduceGE, c0]))
  exact hK _ (((((hx4.trans hx46).trans hx614).trans hx15).trans hx16))
end
end Go.Proofs.Ytlnkdphecinnnaa
end
section
/- The reference's Join. -/
set_option linter.unusedVariables false
set_option linter.unusedSimpArgs false
namespace Go.Proofs.Ytlnkdphecinnnaa
open Go Go.Sh Go.RowKit
attribute [local irreducible] X XU XP XR CALL loopS resC closS
theorem mrg_eq {p x y : Ex} (h : Fits p x) (hy : y.cs = x.k.cs ++ [.int .i64 p.off, .int .i64 (IntKind.i64.wrap (x.len + p.len))]) : y.cs = (mrg p (p.len + x.len)).cs := by
  rw [hy, mrg_cs, h.1, Int.add_comm]
section
variable {w : World} {K : Value → World → Prop}
set_option maxHeartbeats 2000000 in
theorem RJoin_spec {v : Value} {ls : List (List Ex)} (hv : RowsE w v ls) (hn : ls.flatten.length ≤ 1000000) (hls : ls.length ≤ 1000000) (hK : ∀ u w1, Ext w w1 → OwnK 35 72 Ex.cs w1 w.heap.size u (joinE ls) → K u w1) : CALL Try.prog 34 #[v] w K := by
  obtain ⟨a, c, ev⟩ := hv.slice
  have nil : joinE ls = [] → ∀ w1, Ext w w1 → K (.slice none 0 0) w1 := fun h w1 hx => hK _ w1 hx (by rw [h]; exact ownK_nil _ _)
  apply call_ref16_Join
  unfold B_ref16_Join
  refine loopGR 0 (fun ρ wr => ∃ (i : Nat) (vo : Value), i ≤ ls.length ∧ Ext w wr ∧ OwnK 35 72 Ex.cs wr w.heap.size vo (joinL (ls.take i).flatten) ∧ (∀ p ∈ ls.take i, RightP p) ∧ ρ 4 = .int .i64 (i : Int) ∧ ρ 0 = v ∧ ρ 3 = vo)
    (fun ρ wr => match ρ 4 with | .int _ s => (ls.length - s).toNat | _ => 0)
    (fun ρ wr => ∃ vo : Value, Ext w wr ∧ OwnK 35 72 Ex.cs wr w.heap.size vo (joinL ls.flatten) ∧ (∀ p ∈ ls, RightP p) ∧ ρ 3 = vo)
    (fun ρ wr => Ext w wr ∧ joinE ls = [] ∧ ρ 2 = .slice none 0 0) ?_ ?_ ?_ ?_
  · exact ⟨0, _, by omega, Keep.refl _ _, ownK_nil _ _, by simp, rfl, rfl, rfl⟩
  · rintro J hJ hJR ρ wr ⟨i, vo, hi, hx, ho, hr, r4, r0, r3⟩
    rw [r4, r0, ev, X_len_64, X_lss, condS_bool, ← ev]
    by_cases hie : i = ls.length
    · rw [if_neg (by simp; omega)]
      rw [hie, List.take_of_length_le (Nat.le_refl _)] at hr ho
      exact hJ _ _ ⟨vo, hx, ho, hr, r3⟩
    rw [if_pos (by simp; omega)]
    have hlt : i < ls.length := by omega
    refine X_row hv hx hlt ?_
    intro pr u hu hpr
    refine RRight_spec (hu.ext hx) ?_
    intro w1 hx1
    have hx01 := hx.trans hx1
    by_cases hri : RightP ls[i]
    case neg =>
      have c : decide (RightP ls[i]) = false := decide_eq_false hri
      (repeat (simp only [XP_extract0, XP_extract1, XP_extract2, XP_extract3, X_extract0, X_extract1, X_extract2, X_extract3, X_nilS, X_eql_nil_24, X_neq_nil_24, X_eql_nil_103, X_neq_nil_103, X_eql, X_neq, X_lss, X_leq, X_gtr, X_geq, X_not, X_min, X_max, X_len_79, X_len_35, XP_nilS, XP_eql, XP_neq, XP_lss, XP_leq, XP_gtr, XP_geq, XP_not, XP_min, XP_max, XP_len_79, XP_eql_nil_24, X_str_eql, X_str_neq, XP_str_eql, XP_str_neq, GS, gs_u, decide_true, decide_false, Option.isNone_some, Option.isSome_some, Option.isNone_none, Option.isSome_none, eq_self, Bool.not_true, Bool.not_false, Int.reduceEq, Int.reduceNe, Int.reduceLT, Int.reduceLE, Int.reduceGT, Int.reduceGE, c]))
      exact hJR _ _ ⟨hx01, joinE_bad (List.getElem_mem hlt) hri, rfl⟩
    have c : decide (RightP ls[i]) = true := decide_eq_true hri
    (repeat (simp only [XP_extract0, XP_extract1, XP_extract2, XP_extract3, X_extract0, X_extract1, X_extract2, X_extract3, X_nilS, X_eql_nil_24, X_neq_nil_24, X_eql_nil_103, X_neq_nil_103, X_eql, X_neq, X_lss, X_leq, X_gtr, X_geq, X_not, X_min, X_max, X_len_79, X_len_35, XP_nilS, XP_eql, XP_neq, XP_lss, XP_leq, XP_gtr, XP_geq, XP_not, XP_min, XP_max, XP_len_79, XP_eql_nil_24, X_str_eql, X_str_neq, XP_str_eql, XP_str_neq, GS, gs_u, decide_true, decide_false, Option.isNone_some, Option.isSome_some, Option.isNone_none, Option.isSome_none, eq_self, Bool.not_true, Bool.not_false, Int.reduceEq, Int.reduceNe, Int.reduceLT, Int.reduceLE, Int.reduceGT, Int.reduceGE, c]))
    obtain ⟨a1, c1, eu⟩ := hu.slice
    have hlen := hri.1
    refine loopG 2 (fun ρ2 wr => ∃ (j : Nat) (vo : Value), j ≤ ls[i].length ∧ Ext w wr ∧ OwnK 35 72 Ex.cs wr w.heap.size vo (joinL (doneE ls i j)) ∧ ρ2 5 = .int .i64 (j : Int) ∧ ρ2 4 = .int .i64 (i : Int) ∧ ρ2 0 = v ∧ ρ2 3 = vo)
      (fun ρ2 wr => match ρ2 5 with | .int _ s => (ls[i].length - s).toNat | _ => 0)
      (fun ρ2 wr => ∃ (vo : Value), Ext w wr ∧ OwnK 35 72 Ex.cs wr w.heap.size vo (joinL (doneE ls i ls[i].length)) ∧ ρ2 3 = vo ∧ ρ2 4 = .int .i64 (i : Int) ∧ ρ2 0 = v) ?_ ?_ ?_
    · refine ⟨0, vo, by omega, hx01, ?_, rfl, r4, r0, r3⟩
      rw [done_zero]
      exact ho.ext hx1
    · rintro J2 hJ2 ρ2 wr2 ⟨j, vo, hj, hx2, ho2, q5, q4, q0, q3⟩
      rw [q5, q4, q0, q3]
      refine X_of (hpr _ hx2).1 ?_
      refine X_of (hpr _ hx2).2 ?_
      rw [eu, X_len_59, X_lss, condS_bool, ← eu]
      by_cases hje : j = ls[i].length
      · rw [if_neg (by simp; omega)]
        rw [hje] at ho2
        exact hJ2 _ _ ⟨vo, hx2, ho2, q3, q4, q0⟩
      rw [if_pos (by simp; omega)]
      have hjlt : j < ls[i].length := by omega
      have hds := done_step hlt hjlt
      have hdr := done_right (j := j) hlt hr hri
      have hdl := done_len (j := j) hlt
      obtain ⟨hol, hor⟩ := joinL_inv _ hdr
      refine X_of (hpr _ hx2).1 ?_
      refine X_of (hpr _ hx2).2 ?_
      refine X_takeExt (hu.ext hx2) hjlt ?_
      intro u1 u2 q w4 hx4 hq hqb
      have hx04 := hx2.trans hx4
      have ho4 := ho2.ext hx4
      obtain ⟨a2, c2, eo⟩ := (OwnK.rowK (by decide) Ex.csLen ho4).slice
      rw [eo, X_len_59, ← eo]
      have hrx := hri.2 _ (List.getElem_mem hjlt)
      have hol' : (joinL (doneE ls i j)).length ≤ 1000000 := by omega
      refine joinS_of (fun ρ3 w5 => ∃ (front : List Ex) (y : Ex) (vf : Value), joinL (doneE ls i (j + 1)) = front ++ [y] ∧ front.length ≤ 1000000 ∧ Ext w w5 ∧ OwnK 35 72 Ex.cs w5 w.heap.size vf front ∧ w5.heap[q]? = some (.cells y.cs.toArray 72 (0, 0)) ∧ ρ3 6 = ptr q ∧ ρ3 5 = .int .i64 (j : Int) ∧ ρ3 4 = .int .i64 (i : Int) ∧ ρ3 0 = v ∧ ρ3 3 = vf) ?_ ?_
      · rintro ρ3 w5 ⟨front, y, vf, hput, hfl, g1, g3, g4, p6, p5, p4, p0, p3⟩
        rw [p6, p3, p5]
        refine X_of (load_cells Try.underlying72 agg_72 info_72 (l := y.cs) (by rw [sz_72, Ex.cs_len]) (fun j u hj => by rw [add_plain, Nat.zero_add, cell_blk g4]; simpa using hj)) ?_
        refine X_appEx g3 hfl g1.size ?_
        intro u3 v' w7 ho7 hk7
        rw [X_add]
        show _ ∧ _
        refine ⟨⟨j + 1, v', by omega, Ext.seq g1 hk7 (fun g hg => (g3.lt g hg.symm).1), by rw [hput]; exact ho7, next64 (n := 1000000) (by decide) (by omega), p4, p0, rfl⟩, ?_⟩
        show (_ - IntKind.i64.wrap _).toNat < _
        rw [w64 (by omega) (by omega)]
        first | omega | (show _ < (_ : Int).toNat; omega)
      · intro J3 hJ3
        rw [hds, joinL_snoc] at hJ3
        generalize ls[i][j] = x at hJ3 hqb hrx
        generalize joinL (doneE ls i j) = out at hJ3 ho2 ho4 hol hor hol' eo ⊢
        have hxd := hx04.trans (Keep.drew (fun _ => False) w4)
        have hod := ho4.ext (Keep.drew (fun _ => False) w4)
        have hqd : (drewW w4).heap[q]? = some (.cells x.cs.toArray 72 (0, 0)) := hqb
        have hq4 : wr2.heap.size ≤ q := hq
        refine ⟨Ext, Ext.frame, ?_⟩
        generalize drewW w4 = wd at hxd hod hqd ⊢
        rw [XP_gtr]
        by_cases h0 : out.length = 0
        · have c : decide ((out.length : Int) > 0) = false := by rw [h0]; decide
          (repeat (simp only [XP_extract0, XP_extract1, XP_extract2, XP_extract3, X_extract0, X_extract1, X_extract2, X_extract3, X_nilS, X_eql_nil_24, X_neq_nil_24, X_eql_nil_103, X_neq_nil_103, X_eql, X_neq, X_lss, X_leq, X_gtr, X_geq, X_not, X_min, X_max, X_len_79, X_len_35, XP_nilS, XP_eql, XP_neq, XP_lss, XP_leq, XP_gtr, XP_geq, XP_not, XP_min, XP_max, XP_len_79, XP_eql_nil_24, X_str_eql, X_str_neq, XP_str_eql, XP_str_neq, GS, gs_u, decide_true, decide_false, Option.isNone_some, Option.isSome_some, Option.isNone_none, Option.isSome_none, eq_self, Bool.not_true, Bool.not_false, Int.reduceEq, Int.reduceNe, Int.reduceLT, Int.reduceLE, Int.reduceGT, Int.reduceGE, c]))
          exact hJ3 _ _ ⟨out, x, vo, put1_none h0, hol', hxd, hod, hqd, rfl, q5, q4, q0, q3⟩
        have c : decide ((out.length : Int) > 0) = true := decide_eq_true (by omega)
        (repeat (simp only [XP_extract0, XP_extract1, XP_extract2, XP_extract3, X_extract0, X_extract1, X_extract2, X_extract3, X_nilS, X_eql_nil_24, X_neq_nil_24, X_eql_nil_103, X_neq_nil_103, X_eql, X_neq, X_lss, X_leq, X_gtr, X_geq, X_not, X_min, X_max, X_len_79, X_len_35, XP_nilS, XP_eql, XP_neq, XP_lss, XP_leq, XP_gtr, XP_geq, XP_not, XP_min, XP_max, XP_len_79, XP_eql_nil_24, X_str_eql, X_str_neq, XP_str_eql, XP_str_neq, GS, gs_u, decide_true, decide_false, Option.isNone_some, Option.isSome_some, Option.isNone_none, Option.isSome_none, eq_self, Bool.not_true, Bool.not_false, Int.reduceEq, Int.reduceNe, Int.reduceLT, Int.reduceLE, Int.reduceGT, Int.reduceGE, c, XP_sub]))
        obtain ⟨n, hn1⟩ : ∃ n, n + 1 = out.length := ⟨out.length - 1, by omega⟩
        have ew : IntKind.i64.wrap ((out.length : Int) - 1) = (n : Int) := by rw [w64 (by omega) (by omega)]; omega
        try rw [ew]
        have hnlt : n < out.length := by omega
        obtain ⟨g, cur, hgo, hgb, hgd, hgs, hix, hgc, _⟩ := own_at hod hnlt
        have hpr2 := hor _ (List.getElem_mem hnlt)
        have hgq : g < wr2.heap.size := (ho2.lt g hgo).2
        have hyes := @put1_yes out x n hn1
        have hno := @put1_no out x n hn1
        obtain ⟨ut, htk, hub, hot⟩ := own_take hod hnlt
        generalize out[n] = p at hpr2 hgc hyes hno
        have lk : ∀ w', Ext wd w' → (Instr.loadAt 44 (.pointer (some ⟨g, n * 35, none⟩))).run Try.prog w' = .ok p.k.v w' := fun w' kk => load_cells Try.underlying44 agg_44 info_44 (l := p.k.cs) (by rw [sz_44, Ky.cs_len]) (fun j u hj => by rw [add_plain, cell_blk (kk.get hgd)]; exact hgc j u (p.keyAt hj))
        have lo : ∀ w', w'.heap[g]? = some (.cells cur 72 (0, 0)) → (Instr.loadAt 3 (.pointer (some ⟨g, n * 35 + 33, none⟩))).run Try.prog w' = .ok (.int .i64 p.off) w' := fun w' kk => run_loadAt agg_3 ((cell_blk kk).trans (hgc 33 _ p.offAt))
        have ll : ∀ w', w'.heap[g]? = some (.cells cur 72 (0, 0)) → (Instr.loadAt 3 (.pointer (some ⟨g, n * 35 + 34, none⟩))).run Try.prog w' = .ok (.int .i64 p.len) w' := fun w' kk => run_loadAt agg_3 ((cell_blk kk).trans (hgc 34 _ p.lenAt))
        have xk : ∀ w', Ext wd w' → (Instr.loadAt 44 (ptr q)).run Try.prog w' = .ok x.k.v w' := fun w' kk => load_cells Try.underlying44 agg_44 info_44 (l := x.k.cs) (by rw [sz_44, Ky.cs_len]) (fun j u hj => by rw [add_plain, cell_blk (kk.get hqd)]; simpa using x.keyAt hj)
        have xo : ∀ w', Ext wd w' → (Instr.loadAt 3 (.pointer (some ⟨q, 0 + 33, none⟩))).run Try.prog w' = .ok (.int .i64 x.off) w' := fun w' kk => run_loadAt agg_3 ((cell_blk (kk.get hqd)).trans (by simpa using x.offAt))
        have xl : ∀ w', Ext wd w' → (Instr.loadAt 3 (.pointer (some ⟨q, 0 + 34, none⟩))).run Try.prog w' = .ok (.int .i64 x.len) w' := fun w' kk => run_loadAt agg_3 ((cell_blk (kk.get hqd)).trans (by simpa using x.lenAt))
        unfold right1 at hpr2 hrx
        refine XP_of hix ?_
        (repeat (simp only [XP_extract0, XP_extract1, XP_extract2, XP_extract3, X_extract0, X_extract1, X_extract2, X_extract3, X_nilS, X_eql_nil_24, X_neq_nil_24, X_eql_nil_103, X_neq_nil_103, X_eql, X_neq, X_lss, X_leq, X_gtr, X_geq, X_not, X_min, X_max, X_len_79, X_len_35, XP_nilS, XP_eql, XP_neq, XP_lss, XP_leq, XP_gtr, XP_geq, XP_not, XP_min, XP_max, XP_len_79, XP_eql_nil_24, X_str_eql, X_str_neq, XP_str_eql, XP_str_neq, GS, gs_u, decide_true, decide_false, Option.isNone_some, Option.isSome_some, Option.isNone_none, Option.isSome_none, eq_self, Bool.not_true, Bool.not_false, Int.reduceEq, Int.reduceNe, Int.reduceLT, Int.reduceLE, Int.reduceGT, Int.reduceGE, XP_field_72_0]))
        refine XR_ok Ext.frame lk ?_
        (repeat (simp only [XP_extract0, XP_extract1, XP_extract2, XP_extract3, X_extract0, X_extract1, X_extract2, X_extract3, X_nilS, X_eql_nil_24, X_neq_nil_24, X_eql_nil_103, X_neq_nil_103, X_eql, X_neq, X_lss, X_leq, X_gtr, X_geq, X_not, X_min, X_max, X_len_79, X_len_35, XP_nilS, XP_eql, XP_neq, XP_lss, XP_leq, XP_gtr, XP_geq, XP_not, XP_min, XP_max, XP_len_79, XP_eql_nil_24, X_str_eql, X_str_neq, XP_str_eql, XP_str_neq, GS, gs_u, decide_true, decide_false, Option.isNone_some, Option.isSome_some, Option.isNone_none, Option.isSome_none, eq_self, Bool.not_true, Bool.not_false, Int.reduceEq, Int.reduceNe, Int.reduceLT, Int.reduceLE, Int.reduceGT, Int.reduceGE, XP_field_72_0]))
        refine XR_ok Ext.frame xk ?_
        (repeat (simp only [XP_extract0, XP_extract1, XP_extract2, XP_extract3, X_extract0, X_extract1, X_extract2, X_extract3, X_nilS, X_eql_nil_24, X_neq_nil_24, X_eql_nil_103, X_neq_nil_103, X_eql, X_neq, X_lss, X_leq, X_gtr, X_geq, X_not, X_min, X_max, X_len_79, X_len_35, XP_nilS, XP_eql, XP_neq, XP_lss, XP_leq, XP_gtr, XP_geq, XP_not, XP_min, XP_max, XP_len_79, XP_eql_nil_24, X_str_eql, X_str_neq, XP_str_eql, XP_str_neq, GS, gs_u, decide_true, decide_false, Option.isNone_some, Option.isSome_some, Option.isNone_none, Option.isSome_none, eq_self, Bool.not_true, Bool.not_false, Int.reduceEq, Int.reduceNe, Int.reduceLT, Int.reduceLE, Int.reduceGT, Int.reduceGE, c]))
        refine XP_of (fun w' => run_key_eql _ _ _ _ w') ?_
        by_cases hk : p.k = x.k
        case neg =>
          have c : decide (p.k = x.k) = false := decide_eq_false hk
          (repeat (simp only [XP_extract0, XP_extract1, XP_extract2, XP_extract3, X_extract0, X_extract1, X_extract2, X_extract3, X_nilS, X_eql_nil_24, X_neq_nil_24, X_eql_nil_103, X_neq_nil_103, X_eql, X_neq, X_lss, X_leq, X_gtr, X_geq, X_not, X_min, X_max, X_len_79, X_len_35, XP_nilS, XP_eql, XP_neq, XP_lss, XP_leq, XP_gtr, XP_geq, XP_not, XP_min, XP_max, XP_len_79, XP_eql_nil_24, X_str_eql, X_str_neq, XP_str_eql, XP_str_neq, GS, gs_u, decide_true, decide_false, Option.isNone_some, Option.isSome_some, Option.isNone_none, Option.isSome_none, eq_self, Bool.not_true, Bool.not_false, Int.reduceEq, Int.reduceNe, Int.reduceLT, Int.reduceLE, Int.reduceGT, Int.reduceGE, c]))
          exact hJ3 _ _ ⟨out, x, vo, hno (fun h => hk h.1), hol', hxd, hod, hqd, rfl, q5, q4, q0, q3⟩
        have c : decide (p.k = x.k) = true := decide_eq_true hk
        (repeat (simp only [XP_extract0, XP_extract1, XP_extract2, XP_extract3, X_extract0, X_extract1, X_extract2, X_extract3, X_nilS, X_eql_nil_24, X_neq_nil_24, X_eql_nil_103, X_neq_nil_103, X_eql, X_neq, X_lss, X_leq, X_gtr, X_geq, X_not, X_min, X_max, X_len_79, X_len_35, XP_nilS, XP_eql, XP_neq, XP_lss, XP_leq, XP_gtr, XP_geq, XP_not, XP_min, XP_max, XP_len_79, XP_eql_nil_24, X_str_eql, X_str_neq, XP_str_eql, XP_str_neq, GS, gs_u, decide_true, decide_false, Option.isNone_some, Option.isSome_some, Option.isNone_none, Option.isSome_none, eq_self, Bool.not_true, Bool.not_false, Int.reduceEq, Int.reduceNe, Int.reduceLT, Int.reduceLE, Int.reduceGT, Int.reduceGE, c, XP_sub]))
        try rw [ew]
        refine XP_of hix ?_
        (repeat (simp only [XP_extract0, XP_extract1, XP_extract2, XP_extract3, X_extract0, X_extract1, X_extract2, X_extract3, X_nilS, X_eql_nil_24, X_neq_nil_24, X_eql_nil_103, X_neq_nil_103, X_eql, X_neq, X_lss, X_leq, X_gtr, X_geq, X_not, X_min, X_max, X_len_79, X_len_35, XP_nilS, XP_eql, XP_neq, XP_lss, XP_leq, XP_gtr, XP_geq, XP_not, XP_min, XP_max, XP_len_79, XP_eql_nil_24, X_str_eql, X_str_neq, XP_str_eql, XP_str_neq, GS, gs_u, decide_true, decide_false, Option.isNone_some, Option.isSome_some, Option.isNone_none, Option.isSome_none, eq_self, Bool.not_true, Bool.not_false, Int.reduceEq, Int.reduceNe, Int.reduceLT, Int.reduceLE, Int.reduceGT, Int.reduceGE, XP_field_72_1]))
        refine XR_ok Ext.frame (fun w' kk => lo w' (kk.get hgd)) ?_
        (repeat (simp only [XP_extract0, XP_extract1, XP_extract2, XP_extract3, X_extract0, X_extract1, X_extract2, X_extract3, X_nilS, X_eql_nil_24, X_neq_nil_24, X_eql_nil_103, X_neq_nil_103, X_eql, X_neq, X_lss, X_leq, X_gtr, X_geq, X_not, X_min, X_max, X_len_79, X_len_35, XP_nilS, XP_eql, XP_neq, XP_lss, XP_leq, XP_gtr, XP_geq, XP_not, XP_min, XP_max, XP_len_79, XP_eql_nil_24, X_str_eql, X_str_neq, XP_str_eql, XP_str_neq, GS, gs_u, decide_true, decide_false, Option.isNone_some, Option.isSome_some, Option.isNone_none, Option.isSome_none, eq_self, Bool.not_true, Bool.not_false, Int.reduceEq, Int.reduceNe, Int.reduceLT, Int.reduceLE, Int.reduceGT, Int.reduceGE, XP_sub]))
        try rw [ew]
        refine XP_of hix ?_
        (repeat (simp only [XP_extract0, XP_extract1, XP_extract2, XP_extract3, X_extract0, X_extract1, X_extract2, X_extract3, X_nilS, X_eql_nil_24, X_neq_nil_24, X_eql_nil_103, X_neq_nil_103, X_eql, X_neq, X_lss, X_leq, X_gtr, X_geq, X_not, X_min, X_max, X_len_79, X_len_35, XP_nilS, XP_eql, XP_neq, XP_lss, XP_leq, XP_gtr, XP_geq, XP_not, XP_min, XP_max, XP_len_79, XP_eql_nil_24, X_str_eql, X_str_neq, XP_str_eql, XP_str_neq, GS, gs_u, decide_true, decide_false, Option.isNone_some, Option.isSome_some, Option.isNone_none, Option.isSome_none, eq_self, Bool.not_true, Bool.not_false, Int.reduceEq, Int.reduceNe, Int.reduceLT, Int.reduceLE, Int.reduceGT, Int.reduceGE, XP_field_72_2]))
        refine XR_ok Ext.frame (fun w' kk => ll w' (kk.get hgd)) ?_
        (repeat (simp only [XP_extract0, XP_extract1, XP_extract2, XP_extract3, X_extract0, X_extract1, X_extract2, X_extract3, X_nilS, X_eql_nil_24, X_neq_nil_24, X_eql_nil_103, X_neq_nil_103, X_eql, X_neq, X_lss, X_leq, X_gtr, X_geq, X_not, X_min, X_max, X_len_79, X_len_35, XP_nilS, XP_eql, XP_neq, XP_lss, XP_leq, XP_gtr, XP_geq, XP_not, XP_min, XP_max, XP_len_79, XP_eql_nil_24, X_str_eql, X_str_neq, XP_str_eql, XP_str_neq, GS, gs_u, decide_true, decide_false, Option.isNone_some, Option.isSome_some, Option.isNone_none, Option.isSome_none, eq_self, Bool.not_true, Bool.not_false, Int.reduceEq, Int.reduceNe, Int.reduceLT, Int.reduceLE, Int.reduceGT, Int.reduceGE, XP_add, XP_field_72_1]))
        refine XR_ok Ext.frame xo ?_
        rw [w64 (x := p.off + p.len) (by omega) (by omega)]
        by_cases hf : p.off + p.len = x.off
        case neg =>
          have c2 : decide (p.off + p.len = x.off) = false := decide_eq_false hf
          (repeat (simp only [XP_extract0, XP_extract1, XP_extract2, XP_extract3, X_extract0, X_extract1, X_extract2, X_extract3, X_nilS, X_eql_nil_24, X_neq_nil_24, X_eql_nil_103, X_neq_nil_103, X_eql, X_neq, X_lss, X_leq, X_gtr, X_geq, X_not, X_min, X_max, X_len_79, X_len_35, XP_nilS, XP_eql, XP_neq, XP_lss, XP_leq, XP_gtr, XP_geq, XP_not, XP_min, XP_max, XP_len_79, XP_eql_nil_24, X_str_eql, X_str_neq, XP_str_eql, XP_str_neq, GS, gs_u, decide_true, decide_false, Option.isNone_some, Option.isSome_some, Option.isNone_none, Option.isSome_none, eq_self, Bool.not_true, Bool.not_false, Int.reduceEq, Int.reduceNe, Int.reduceLT, Int.reduceLE, Int.reduceGT, Int.reduceGE, c2]))
          exact hJ3 _ _ ⟨out, x, vo, hno (fun h => hf h.2), hol', hxd, hod, hqd, rfl, q5, q4, q0, q3⟩
        have c2 : decide (p.off + p.len = x.off) = true := decide_eq_true hf
        (repeat (simp only [XP_extract0, XP_extract1, XP_extract2, XP_extract3, X_extract0, X_extract1, X_extract2, X_extract3, X_nilS, X_eql_nil_24, X_neq_nil_24, X_eql_nil_103, X_neq_nil_103, X_eql, X_neq, X_lss, X_leq, X_gtr, X_geq, X_not, X_min, X_max, X_len_79, X_len_35, XP_nilS, XP_eql, XP_neq, XP_lss, XP_leq, XP_gtr, XP_geq, XP_not, XP_min, XP_max, XP_len_79, XP_eql_nil_24, X_str_eql, X_str_neq, XP_str_eql, XP_str_neq, GS, gs_u, decide_true, decide_false, Option.isNone_some, Option.isSome_some, Option.isNone_none, Option.isSome_none, eq_self, Bool.not_true, Bool.not_false, Int.reduceEq, Int.reduceNe, Int.reduceLT, Int.reduceLE, Int.reduceGT, Int.reduceGE, c2]))
        refine ⟨Ext, Ext.frame, ?_⟩
        have kd := Keep.drew (fun _ => False) wd
        have hxd2 := hxd.trans kd
        have hgd2 : (drewW wd).heap[g]? = some (.cells cur 72 (0, 0)) := hgd
        have hqd2 : (drewW wd).heap[q]? = some (.cells x.cs.toArray 72 (0, 0)) := hqd
        have hot2 := hot.ext kd
        generalize drewW wd = we at kd hxd2 hgd2 hqd2 hot2 ⊢
        (repeat (simp only [XP_extract0, XP_extract1, XP_extract2, XP_extract3, X_extract0, X_extract1, X_extract2, X_extract3, X_nilS, X_eql_nil_24, X_neq_nil_24, X_eql_nil_103, X_neq_nil_103, X_eql, X_neq, X_lss, X_leq, X_gtr, X_geq, X_not, X_min, X_max, X_len_79, X_len_35, XP_nilS, XP_eql, XP_neq, XP_lss, XP_leq, XP_gtr, XP_geq, XP_not, XP_min, XP_max, XP_len_79, XP_eql_nil_24, X_str_eql, X_str_neq, XP_str_eql, XP_str_neq, GS, gs_u, decide_true, decide_false, Option.isNone_some, Option.isSome_some, Option.isNone_none, Option.isSome_none, eq_self, Bool.not_true, Bool.not_false, Int.reduceEq, Int.reduceNe, Int.reduceLT, Int.reduceLE, Int.reduceGT, Int.reduceGE, XP_field_72_2]))
        refine XR_ok Ext.frame (fun w' kk => xl w' (kd.trans kk)) ?_
        (repeat (simp only [XP_extract0, XP_extract1, XP_extract2, XP_extract3, X_extract0, X_extract1, X_extract2, X_extract3, X_nilS, X_eql_nil_24, X_neq_nil_24, X_eql_nil_103, X_neq_nil_103, X_eql, X_neq, X_lss, X_leq, X_gtr, X_geq, X_not, X_min, X_max, X_len_79, X_len_35, XP_nilS, XP_eql, XP_neq, XP_lss, XP_leq, XP_gtr, XP_geq, XP_not, XP_min, XP_max, XP_len_79, XP_eql_nil_24, X_str_eql, X_str_neq, XP_str_eql, XP_str_neq, GS, gs_u, decide_true, decide_false, Option.isNone_some, Option.isSome_some, Option.isNone_none, Option.isSome_none, eq_self, Bool.not_true, Bool.not_false, Int.reduceEq, Int.reduceNe, Int.reduceLT, Int.reduceLE, Int.reduceGT, Int.reduceGE, XP_sub]))
        try rw [ew]
        refine XP_of hix ?_
        (repeat (simp only [XP_extract0, XP_extract1, XP_extract2, XP_extract3, X_extract0, X_extract1, X_extract2, X_extract3, X_nilS, X_eql_nil_24, X_neq_nil_24, X_eql_nil_103, X_neq_nil_103, X_eql, X_neq, X_lss, X_leq, X_gtr, X_geq, X_not, X_min, X_max, X_len_79, X_len_35, XP_nilS, XP_eql, XP_neq, XP_lss, XP_leq, XP_gtr, XP_geq, XP_not, XP_min, XP_max, XP_len_79, XP_eql_nil_24, X_str_eql, X_str_neq, XP_str_eql, XP_str_neq, GS, gs_u, decide_true, decide_false, Option.isNone_some, Option.isSome_some, Option.isNone_none, Option.isSome_none, eq_self, Bool.not_true, Bool.not_false, Int.reduceEq, Int.reduceNe, Int.reduceLT, Int.reduceLE, Int.reduceGT, Int.reduceGE, XP_field_72_2]))
        refine XR_ok Ext.frame (fun w' kk => ll w' (kk.get hgd2)) ?_
        (repeat (simp only [XP_extract0, XP_extract1, XP_extract2, XP_extract3, X_extract0, X_extract1, X_extract2, X_extract3, X_nilS, X_eql_nil_24, X_neq_nil_24, X_eql_nil_103, X_neq_nil_103, X_eql, X_neq, X_lss, X_leq, X_gtr, X_geq, X_not, X_min, X_max, X_len_79, X_len_35, XP_nilS, XP_eql, XP_neq, XP_lss, XP_leq, XP_gtr, XP_geq, XP_not, XP_min, XP_max, XP_len_79, XP_eql_nil_24, X_str_eql, X_str_neq, XP_str_eql, XP_str_neq, GS, gs_u, decide_true, decide_false, Option.isNone_some, Option.isSome_some, Option.isNone_none, Option.isSome_none, eq_self, Bool.not_true, Bool.not_false, Int.reduceEq, Int.reduceNe, Int.reduceLT, Int.reduceLE, Int.reduceGT, Int.reduceGE, XP_add, XP_field_72_2]))
        refine XU_store info_3 sz_3 rfl hqd2 (by simp [Ex.cs_len]) (by show ¬ (0 ≤ _ ∧ _ < 0); omega) ?_
        have hk33 : x.k.cs.length = 33 := Ky.cs_len _
        have e5 : x.cs.toArray.setIfInBounds (0 + 34) (.int .i64 (IntKind.i64.wrap (x.len + p.len))) = (x.k.cs ++ [Value.int .i64 x.off, Value.int .i64 (IntKind.i64.wrap (x.len + p.len))]).toArray := by
          unfold Ex.cs
          rw [List.setIfInBounds_toArray, List.set_append_right _ _ (by omega), hk33]
          rfl
        rw [e5]
        have hk5 := setAt_keep we q (x.k.cs ++ [Value.int .i64 x.off, Value.int .i64 (IntKind.i64.wrap (x.len + p.len))]).toArray 72 (0, 0)
        have hg5 : (setAt we q (x.k.cs ++ [Value.int .i64 x.off, Value.int .i64 (IntKind.i64.wrap (x.len + p.len))]).toArray 72 (0, 0)).heap[q]? = some (.cells (x.k.cs ++ [Value.int .i64 x.off, Value.int .i64 (IntKind.i64.wrap (x.len + p.len))]).toArray 72 (0, 0)) := setAt_same (lt_of_blk hqd2)
        generalize setAt we q (x.k.cs ++ [Value.int .i64 x.off, Value.int .i64 (IntKind.i64.wrap (x.len + p.len))]).toArray 72 (0, 0) = w5 at hk5 hg5 ⊢
        have hgg5 : w5.heap[g]? = some (.cells cur 72 (0, 0)) := hk5.get (by omega) hgd2
        (repeat (simp only [XP_extract0, XP_extract1, XP_extract2, XP_extract3, X_extract0, X_extract1, X_extract2, X_extract3, X_nilS, X_eql_nil_24, X_neq_nil_24, X_eql_nil_103, X_neq_nil_103, X_eql, X_neq, X_lss, X_leq, X_gtr, X_geq, X_not, X_min, X_max, X_len_79, X_len_35, XP_nilS, XP_eql, XP_neq, XP_lss, XP_leq, XP_gtr, XP_geq, XP_not, XP_min, XP_max, XP_len_79, XP_eql_nil_24, X_str_eql, X_str_neq, XP_str_eql, XP_str_neq, GS, gs_u, decide_true, decide_false, Option.isNone_some, Option.isSome_some, Option.isNone_none, Option.isSome_none, eq_self, Bool.not_true, Bool.not_false, Int.reduceEq, Int.reduceNe, Int.reduceLT, Int.reduceLE, Int.reduceGT, Int.reduceGE, X_sub]))
        try rw [ew]
        refine X_of (hix _) ?_
        rw [X_field_72_1]
        refine X_of (lo _ hgg5) ?_
        rw [X_field_72_1]
        refine XU_store info_3 sz_3 rfl hg5 (by simp [Ky.cs_len]) (by show ¬ (0 ≤ _ ∧ _ < 0); omega) ?_
        have e6 : (x.k.cs ++ [Value.int .i64 x.off, Value.int .i64 (IntKind.i64.wrap (x.len + p.len))]).toArray.setIfInBounds (0 + 33) (.int .i64 p.off) = (mrg p (p.len + x.len)).cs.toArray := by
          rw [mrg_cs, hk, Int.add_comm p.len]
          rw [List.setIfInBounds_toArray, List.set_append_right _ _ (by omega), hk33]
          rfl
        rw [e6]
        have hk6 := setAt_keep w5 q (mrg p (p.len + x.len)).cs.toArray 72 (0, 0)
        have hg6 : (setAt w5 q (mrg p (p.len + x.len)).cs.toArray 72 (0, 0)).heap[q]? = some (.cells (mrg p (p.len + x.len)).cs.toArray 72 (0, 0)) := setAt_same (lt_of_blk hg5)
        generalize setAt w5 q (mrg p (p.len + x.len)).cs.toArray 72 (0, 0) = w6 at hk6 hg6 ⊢
        have hx26 : Keep (· = q) we w6 := Keep.trans hk5 hk6
        refine X_of (htk _) ?_
        exact hJ3 _ _ ⟨out.take n, mrg p (p.len + x.len), ut, hyes ⟨hk, hf⟩, by rw [List.length_take]; omega, Ext.seq hxd2 hx26 (fun i hi => by have := hx2.size; omega), hot2.keep hx26 (fun b hb hbq => by rw [hub] at hb; have := (ho2.lt b hb).2; omega), hg6, rfl, q5, q4, q0, rfl⟩
    · rintro ρ2 wr2 ⟨vo, hx2, ho2, q3, q4, q0⟩
      show X _ (binOp .add 3 (ρ2 4) _) _ _
      rw [q4, X_add]
      show _ ∧ _
      refine ⟨⟨i + 1, vo, by omega, hx2, by rw [← done_full hlt]; exact ho2, ?_, next64 (n := 1000000000) (by decide) (by omega), q0, q3⟩, ?_⟩
      · rw [List.take_succ_eq_append_getElem hlt]
        intro p hp
        rcases List.mem_append.1 hp with hp | hp
        · exact hr p hp
        · rw [List.mem_singleton.1 hp]; exact hri
      · show (_ - IntKind.i64.wrap _).toNat < _
        rw [w64 (by omega) (by omega)]
        first | omega | (show _ < (_ : Int).toNat; omega)
  · rintro ρ wr ⟨vo, hx, ho, hr, r3⟩
    show CALL _ 37 #[ρ 3] _ _
    rw [r3]
    refine RRight_spec (OwnK.rowK (by decide) Ex.csLen ho) ?_
    intro w1 hx1
    by_cases hj : RightP (joinL ls.flatten)
    · have c : decide (RightP (joinL ls.flatten)) = true := decide_eq_true hj
      (repeat (simp only [XP_extract0, XP_extract1, XP_extract2, XP_extract3, X_extract0, X_extract1, X_extract2, X_extract3, X_nilS, X_eql_nil_24, X_neq_nil_24, X_eql_nil_103, X_neq_nil_103, X_eql, X_neq, X_lss, X_leq, X_gtr, X_geq, X_not, X_min, X_max, X_len_79, X_len_35, XP_nilS, XP_eql, XP_neq, XP_lss, XP_leq, XP_gtr, XP_geq, XP_not, XP_min, XP_max, XP_len_79, XP_eql_nil_24, X_str_eql, X_str_neq, XP_str_eql, XP_str_neq, GS, gs_u, decide_true, decide_false, Option.isNone_some, Option.isSome_some, Option.isNone_none, Option.isSome_none, eq_self, Bool.not_true, Bool.not_false, Int.reduceEq, Int.reduceNe, Int.reduceLT, Int.reduceLE, Int.reduceGT, Int.reduceGE, c]))
      refine hK _ _ (hx.trans hx1) ?_
      unfold joinE
      rw [if_pos ⟨hr, hj⟩]
      exact ho.ext hx1
    · have c : decide (RightP (joinL ls.flatten)) = false := decide_eq_false hj
      (repeat (simp only [XP_extract0, XP_extract1, XP_extract2, XP_extract3, X_extract0, X_extract1, X_extract2, X_extract3, X_nilS, X_eql_nil_24, X_neq_nil_24, X_eql_nil_103, X_neq_nil_103, X_eql, X_neq, X_lss, X_leq, X_gtr, X_geq, X_not, X_min, X_max, X_len_79, X_len_35, XP_nilS, XP_eql, XP_neq, XP_lss, XP_leq, XP_gtr, XP_geq, XP_not, XP_min, XP_max, XP_len_79, XP_eql_nil_24, X_str_eql, X_str_neq, XP_str_eql, XP_str_neq, GS, gs_u, decide_true, decide_false, Option.isNone_some, Option.isSome_some, Option.isNone_none, Option.isSome_none, eq_self, Bool.not_true, Bool.not_false, Int.reduceEq, Int.reduceNe, Int.reduceLT, Int.reduceLE, Int.reduceGT, Int.reduceGE, c]))
      exact nil (if_neg (fun h => hj h.2)) _ (hx.trans hx1)
  · rintro ρ wr ⟨hx, hj, r2⟩
    show K (ρ 2) wr
    rw [r2]
    exact nil hj _ hx
end
end Go.Proofs.Ytlnkdphecinnnaa
end
section
/- Words of the extents' laws: how long lists are; rows of rows. -/
set_option linter.unusedVariables false
set_option linter.unusedSimpArgs false
namespace Go.Proofs.Ytlnkdphecinnnaa
open Go Go.Sh Go.RowKit
attribute [local irreducible] X XU XP XR CALL loopS resC closS
theorem cutE_len : ∀ (l : List Ex) (off n : Int), (cutE l off n).length ≤ l.length := by
  intro l
  induction l with
  | nil => intros; exact Nat.le_refl _
  | cons x l ih =>
    intro off n
    unfold cutE
    split
    · simp
    · split
      · have := ih (off - x.len) n
        simp only [List.length_cons]
        omega
      · have := ih 0 (n - min (x.len - off) n)
        simp only [List.length_cons]
        omega
theorem sliceE_len (l : List Ex) (off n : Int) : (sliceE l off n).length ≤ l.length := by
  unfold sliceE
  split
  · simp
  · split <;> exact cutE_len _ _ _
theorem few_len (l : List Ex) : (l.take 500).length ≤ 500 := by rw [List.length_take]; omega
theorem slice_few (l : List Ex) (off n : Int) : (sliceE (l.take 500) off n).length ≤ 500 := Nat.le_trans (sliceE_len _ _ _) (few_len l)
theorem joinE_len {ls : List (List Ex)} : (joinE ls).length ≤ ls.flatten.length := by
  unfold joinE
  split
  · rename_i h
    refine (joinL_inv ls.flatten ?_).1
    intro e he
    obtain ⟨p, hp, hep⟩ := List.mem_flatten.1 he
    exact (h.1 p hp).2 e hep
  · simp
/-- A row of two rows. -/
theorem X_rows2 {w : World} {K : Value → World → Prop} {u1 u2 : Value} {l1 l2 : List Ex} (h1 : RowK 35 Ex.cs w u1 l1) (h2 : RowK 35 Ex.cs w u2 l2) (hK : ∀ v w1, Ext w w1 → RowsE w1 v [l1, l2] → K v w1) :
    X Try.prog (Instr.buildSlice 64 2 #[(0, u1), (1, u2)]) w K := by
  obtain ⟨a1, c1, e1⟩ := h1.slice
  obtain ⟨a2, c2, e2⟩ := h2.slice
  subst e1; subst e2
  refine X_buildSlice2 (c0 := [.slice a1 l1.length c1]) (c1 := [.slice a2 l2.length c2]) Try.underlying64 el_59 (by decide) (by decide) rfl rfl rfl rfl ?_
  have hx := newB_ext w ([Value.slice a1 l1.length c1] ++ [Value.slice a2 l2.length c2]).toArray 59
  refine hK _ _ hx ⟨[.slice a1 l1.length c1, .slice a2 l2.length c2], row_of1 (by rw [newB_get]; rfl) 2 rfl (by decide), rfl, fun i u l hu hl => ?_⟩
  match i with
  | 0 => simp at hu hl; subst hu; subst hl; exact h1.ext hx
  | 1 => simp at hu hl; subst hu; subst hl; exact h2.ext hx
  | n + 2 => simp at hu
end Go.Proofs.Ytlnkdphecinnnaa
end
