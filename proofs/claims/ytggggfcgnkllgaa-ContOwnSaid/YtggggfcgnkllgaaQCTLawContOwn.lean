/- cellaragelaw11.ContOwn: pieces that were told share nothing. -/
import Derived.Test.YtggggfcgnkllgaaQCT9
set_option linter.unusedVariables false
set_option linter.unusedSimpArgs false
set_option linter.constructorNameAsVariable false
namespace Go.Proofs.Ytggggfcgnkllgaa
open Go Go.Sh Go.RowKit Go.ChangeShapes Go.WideShapes Go.ChangeAt
open Go.Proofs.Ytggggfcgnkllgaa
section
attribute [local irreducible] X XU XP XR CALL loopS resC closS Value.okWide
theorem bts_at {w : World} {v : Value} {bs : List UInt8} {i : Nat} (hb : Bts w v bs) (hi : i < bs.length) : ∃ ad, (∀ w', (Instr.indexAt 27 v (.int .i64 (i : Int))).run Try.prog w' = .ok (.pointer (some ad)) w') ∧ w.cell? ad = some (.int .u8 ((bs[i].toNat : Nat) : Int)) := by
  obtain ⟨a, c, rfl, h1, h2, h3⟩ := hb
  obtain ⟨ad, rfl, hc⟩ := h3 (by omega)
  refine ⟨_, fun w' => ix Try.underlying27 info_5 i rfl hi w', ?_⟩
  rw [sz_5, Nat.mul_one]
  exact hc i _ (List.getElem?_eq_getElem hi)
def x85 (b : List UInt8) (k : Nat) : List UInt8 := (b.take k).map (· ^^^ 85) ++ b.drop k
theorem x85_len (b : List UInt8) (k : Nat) : (x85 b k).length = b.length := by simp [x85]; omega
theorem x85_0 (b : List UInt8) : x85 b 0 = b := by simp [x85]
theorem x85_all (b : List UInt8) : x85 b b.length = b.map (· ^^^ 85) := by simp [x85]
theorem x85_at (b : List UInt8) (k : Nat) (h : k < b.length) (h' : k < (x85 b k).length) : (x85 b k)[k] = b[k] := by
  have : (x85 b k)[k]? = b[k]? := by
    unfold x85
    rw [List.getElem?_append_right (by simp; omega)]
    simp
    congr 1
    omega
  rw [List.getElem?_eq_getElem h', List.getElem?_eq_getElem h] at this
  simpa using this
theorem x85_succ (b : List UInt8) (k : Nat) (h : k < b.length) (h' : k < (x85 b k).length) : (x85 b k).set k ((x85 b k)[k] ^^^ 85) = x85 b (k + 1) := by
  rw [x85_at b k h h']
  unfold x85
  have e : b.take (k + 1) = b.take k ++ [b[k]] := List.take_succ_eq_append_getElem h
  have e2 : b.drop k = b[k] :: b.drop (k + 1) := List.drop_eq_getElem_cons h
  rw [e, e2, List.map_append, List.append_assoc]
  have hl : ((b.take k).map (· ^^^ 85)).length = k := by simp; omega
  rw [List.set_append_right _ _ (by omega), hl, Nat.sub_self]
  rfl
def gI (B : List Pp) (i : Nat) : Nat → List UInt8 := fun j => if j < i then (bsAt B j).map (· ^^^ 85) ++ [1, 2, 3] else bsAt B j
def gK (B : List Pp) (i k : Nat) : Nat → List UInt8 := upAt (gI B i) i (x85 (bsAt B i) k)
theorem gI_0 (B : List Pp) : gI B 0 = bsAt B := by funext j; simp [gI]
theorem gK_self (B : List Pp) (i k : Nat) : gK B i k i = x85 (bsAt B i) k := upAt_self _ _ _
theorem gK_0 (B : List Pp) (i : Nat) : gK B i 0 = gI B i := by
  funext j
  unfold gK upAt
  by_cases h : j = i
  · subst h; rw [if_pos rfl, x85_0]; simp [gI]
  · rw [if_neg h]
theorem gK_up (B : List Pp) (i k : Nat) (x : List UInt8) : upAt (gK B i k) i x = upAt (gI B i) i x := by
  funext j
  unfold gK upAt
  by_cases h : j = i
  · simp [h]
  · simp [h]
theorem gI_next (B : List Pp) (i : Nat) : upAt (gK B i (bsAt B i).length) i (gK B i (bsAt B i).length i ++ [1, 2, 3]) = gI B (i + 1) := by
  rw [gK_up, gK_self, x85_all]
  funext j
  unfold upAt gI
  by_cases h : j = i
  · subst h; simp
  · rw [if_neg h]
    by_cases h1 : j < i
    · rw [if_pos h1, if_pos (by omega)]
    · rw [if_neg h1, if_neg (by omega)]
set_option maxHeartbeats 2000000 in
theorem contOwn_run {id : Nat} {v : Value} {l : List Pc} (hid : id < 4294967296) (W : World) (hl : RowK 34 Pc.cs W v l) (hin : ∀ c ∈ l, c.In W) :
    CALL Try.prog 30 #[.int .u32 (id : Int), v] W (fun v w' => v = .bool true ∧ Ext W w') := by
  obtain ⟨av, cv, ev⟩ := hl.slice
  have hll : (pl l).length = l.length := by simp
  have n00 : decide ((0 : Int) ≠ 0) = false := by decide
  have e85 : (Value.int .u8 85) = .int .u8 (((85 : UInt8).toNat : Nat) : Int) := rfl
  have e255 : (Value.int .u8 255) = .int .u8 (((255 : UInt8).toNat : Nat) : Int) := rfl
  apply call_law11_ContOwn
  unfold B_law11_ContOwn B_law11_ContOwn_c6 B_law11_ContOwn_c5 B_law11_ContOwn_c4 B_law11_ContOwn_c3 B_law11_ContOwn_c2 B_law11_ContOwn_c1
  rw [e85, e255]
  refine shown11 ?_
  intro w1 hx1
  refine Light_spec (hl.ext hx1) (fun c hc => (hin c hc).ext hx1) ?_
  by_cases hlt : lightP (pl l)
  case neg =>
    have c : decide (lightP (pl l)) = false := decide_eq_false hlt
    (repeat (first  | simp only [XP_extract0, XP_extract1, XP_extract2, XP_extract3, X_extract0, X_extract1, X_extract2, X_extract3, X_nilS, X_eql_nil_74, X_neq_nil_74, X_eql_nil_124, X_neq_nil_124, X_eql, X_neq, X_lss, X_leq, X_gtr, X_geq, X_not, X_min, X_max, X_len_27, X_len_9, X_len_79, XP_nilS, XP_eql, XP_neq, XP_lss, XP_leq, XP_gtr, XP_geq, XP_not, XP_min, XP_max, XP_len_27, XP_len_9, XP_eql_nil_74, X_str_eql, X_str_neq, XP_str_eql, XP_str_neq, GS, gs_u, decide_true, decide_false, Option.isNone_some, Option.isSome_some, Option.isNone_none, Option.isSome_none, eq_self, Bool.not_true, Bool.not_false, Int.reduceEq, Int.reduceNe, Int.reduceLT, Int.reduceLE, Int.reduceGT, Int.reduceGE, c]))
    exact ⟨trivial, hx1⟩
  have c : decide (lightP (pl l)) = true := decide_eq_true hlt
  (repeat (first  | simp only [XP_extract0, XP_extract1, XP_extract2, XP_extract3, X_extract0, X_extract1, X_extract2, X_extract3, X_nilS, X_eql_nil_74, X_neq_nil_74, X_eql_nil_124, X_neq_nil_124, X_eql, X_neq, X_lss, X_leq, X_gtr, X_geq, X_not, X_min, X_max, X_len_27, X_len_9, X_len_79, XP_nilS, XP_eql, XP_neq, XP_lss, XP_leq, XP_gtr, XP_geq, XP_not, XP_min, XP_max, XP_len_27, XP_len_9, XP_eql_nil_74, X_str_eql, X_str_neq, XP_str_eql, XP_str_neq, GS, gs_u, decide_true, decide_false, Option.isNone_some, Option.isSome_some, Option.isNone_none, Option.isSome_none, eq_self, Bool.not_true, Bool.not_false, Int.reduceEq, Int.reduceNe, Int.reduceLT, Int.reduceLE, Int.reduceGT, Int.reduceGE, c]))
  have hT : 38 * l.length + totB (pl l) ≤ 1000000000000 := by
    have h1 := hlt.1
    have h2 := hlt.2
    omega
  refine LayC_spec hid (hl.ext hx1) (fun c hc => (hin c hc).ext hx1) hT (fun hc w2 hx2 => ?_) (fun hc vs w2 hx2 ho2 => ?_)
  · have ce : decide (chk (pl l) ≠ 0) = true := by simpa using hc
    (repeat (first  | simp only [XP_extract0, XP_extract1, XP_extract2, XP_extract3, X_extract0, X_extract1, X_extract2, X_extract3, X_nilS, X_eql_nil_74, X_neq_nil_74, X_eql_nil_124, X_neq_nil_124, X_eql, X_neq, X_lss, X_leq, X_gtr, X_geq, X_not, X_min, X_max, X_len_27, X_len_9, X_len_79, XP_nilS, XP_eql, XP_neq, XP_lss, XP_leq, XP_gtr, XP_geq, XP_not, XP_min, XP_max, XP_len_27, XP_len_9, XP_eql_nil_74, X_str_eql, X_str_neq, XP_str_eql, XP_str_neq, GS, gs_u, decide_true, decide_false, Option.isNone_some, Option.isSome_some, Option.isNone_none, Option.isSome_none, eq_self, Bool.not_true, Bool.not_false, Int.reduceEq, Int.reduceNe, Int.reduceLT, Int.reduceLE, Int.reduceGT, Int.reduceGE, ce]))
    exact ⟨trivial, hx1.trans hx2⟩
  have hx02 := hx1.trans hx2
  (repeat (first  | simp only [XP_extract0, XP_extract1, XP_extract2, XP_extract3, X_extract0, X_extract1, X_extract2, X_extract3, X_nilS, X_eql_nil_74, X_neq_nil_74, X_eql_nil_124, X_neq_nil_124, X_eql, X_neq, X_lss, X_leq, X_gtr, X_geq, X_not, X_min, X_max, X_len_27, X_len_9, X_len_79, XP_nilS, XP_eql, XP_neq, XP_lss, XP_leq, XP_gtr, XP_geq, XP_not, XP_min, XP_max, XP_len_27, XP_len_9, XP_eql_nil_74, X_str_eql, X_str_neq, XP_str_eql, XP_str_neq, GS, gs_u, decide_true, decide_false, Option.isNone_some, Option.isSome_some, Option.isNone_none, Option.isSome_none, eq_self, Bool.not_true, Bool.not_false, Int.reduceEq, Int.reduceNe, Int.reduceLT, Int.reduceLE, Int.reduceGT, Int.reduceGE, n00]))
  have hsz : (layP id (pl l)).length ≤ 1000000 := by
    rw [layP_len]
    have := (chk_ok hc).2.2.2.1
    omega
  have hbl : ∀ j, j < l.length → (bsAt (pl l) j).length ≤ 4096 := by
    intro j hj
    rw [bsAt_get (by rw [hll]; exact hj)]
    exact (chk_ok hc).2.2.1 _ (List.getElem_mem _)
  have hnl : l.length ≤ 1000 := by have := (chk_ok hc).2.1; omega
  have hs2 := (own_bts ho2).1
  obtain ⟨as_, cs_, es⟩ := Bts.slice hs2
  have hvs : ∀ g, vs.ownBlock = some g → W.heap.size ≤ g ∧ g < w2.heap.size := fun g hg => by
    have h1 := ho2.lt g hg
    have := hx1.size
    omega
  refine Take_spec hs2 hsz (fun hno => absurd rfl (hno id (pl l) hid hc)) (fun id' l' hid' hc' he q vl cs w3 hcs hx3 t3 => ?_)
  obtain ⟨_, hll'⟩ := lay_eq hid hid' (fit_chk hc) (fit_chk hc') he
  have hplcs : pl cs = pl l := hcs.trans hll'.symm
  have hcl : cs.length = l.length := by have := congrArg List.length hplcs; simpa using this
  have hx03 := hx02.trans hx3
  have hm3 := t3.mine
  rw [hplcs] at hm3
  have ho3 := own_extD ho2 hx3
  have hwb : W.heap.size ≤ w2.heap.size := hx02.size
  generalize w2.heap.size = base at hvs hm3 hwb
  generalize w1.heap.size = base1 at ho3
  generalize layP id (pl l) = S at hsz ho3 es
  rw [es]
  (repeat (first  | simp only [XP_extract0, XP_extract1, XP_extract2, XP_extract3, X_extract0, X_extract1, X_extract2, X_extract3, X_nilS, X_eql_nil_74, X_neq_nil_74, X_eql_nil_124, X_neq_nil_124, X_eql, X_neq, X_lss, X_leq, X_gtr, X_geq, X_not, X_min, X_max, X_len_27, X_len_9, X_len_79, XP_nilS, XP_eql, XP_neq, XP_lss, XP_leq, XP_gtr, XP_geq, XP_not, XP_min, XP_max, XP_len_27, XP_len_9, XP_eql_nil_74, X_str_eql, X_str_neq, XP_str_eql, XP_str_neq, GS, gs_u, decide_true, decide_false, Option.isNone_some, Option.isSome_some, Option.isNone_none, Option.isSome_none, eq_self, Bool.not_true, Bool.not_false, Int.reduceEq, Int.reduceNe, Int.reduceLT, Int.reduceLE, Int.reduceGT, Int.reduceGE, X_len_27]))
  rw [← es]
  refine loopE (fun ρ wr => ∃ (i : Nat) (S' : List UInt8), i ≤ S.length ∧ S'.length = S.length ∧ Ext W wr ∧ wr.ownsRow base1 5 1 vs S.length (B8 S') ∧ Mine wr base vl cs (bsAt (pl l)) ∧
      ρ 39 = .int .i64 (i : Nat) ∧ ρ 38 = .int .i64 (S.length : Nat) ∧ ρ 6 = vs ∧ ρ 9 = vl ∧ ρ 10 = .int .i64 0 ∧ ρ 1 = v ∧ ρ 5 = .bool true)
    (fun ρ wr => match ρ 39 with | .int _ s => (S.length - s).toNat | _ => 0)
    (fun ρ wr => Ext W wr ∧ Mine wr base vl cs (bsAt (pl l)) ∧ ρ 9 = vl ∧ ρ 10 = .int .i64 0 ∧ ρ 1 = v ∧ ρ 5 = .bool true) ?_ ?_ ?_
  · exact ⟨0, S, by omega, rfl, hx03, ho3, hm3, rfl, rfl, rfl, rfl, rfl, rfl, rfl⟩
  · rintro J hJ ρ wr ⟨i, S', hi, hSl, hx, ho, hm, r39, r38, r6, r9, r10, r1, r5⟩
    rw [r39, r38, r6, X_lss, condS_bool]
    by_cases hie : i = S.length
    · rw [if_neg (by simp; omega)]
      exact hJ _ _ ⟨hx, hm, r9, r10, r1, r5⟩
    rw [if_pos (by simp; omega)]
    refine X_xorAt ho (by omega) 255 ?_
    intro a b c d w5 ho5 hk5
    rw [X_add]
    show _ ∧ _
    refine ⟨⟨i + 1, _, by omega, by rw [List.length_set]; exact hSl, Ext.seq hx hk5 (fun g hg => (hvs g hg).1), ho5, hm.keep hk5 (fun g hg hgv => by have := (hvs g hgv).2; omega), next64 (n := 1000000) (by decide) (by omega), r38, r6, r9, r10, r1, r5⟩, ?_⟩
    show (_ - IntKind.i64.wrap _).toNat < _
    rw [w64 (by omega) (by omega)]
    first | omega | (show _ < (_ : Int).toNat; omega)
  rintro ρ wr ⟨hx, hm, r9, r10, r1, r5⟩
  obtain ⟨al, cl, el⟩ := hm.slice.slice
  rw [r9, el, X_len_100, ← el]
  refine loopE (fun ρ wr => ∃ (i : Nat) (ps : List Pc), i ≤ cs.length ∧ ps.length = cs.length ∧ Ext W wr ∧ Mine wr base vl ps (gI (pl l) i) ∧
      ρ 51 = .int .i64 (i : Nat) ∧ ρ 50 = .int .i64 (cs.length : Nat) ∧ ρ 9 = vl ∧ ρ 10 = .int .i64 0 ∧ ρ 1 = v ∧ ρ 5 = .bool true)
    (fun ρ wr => match ρ 51 with | .int _ s => (cs.length - s).toNat | _ => 0)
    (fun ρ wr => ∃ (ps : List Pc), ps.length = cs.length ∧ Ext W wr ∧ Mine wr base vl ps (gI (pl l) cs.length) ∧ ρ 9 = vl ∧ ρ 10 = .int .i64 0 ∧ ρ 1 = v ∧ ρ 5 = .bool true) ?_ ?_ ?_
  · exact ⟨0, cs, by omega, rfl, hx, by rw [gI_0]; exact hm, rfl, rfl, r9, r10, r1, r5⟩
  · rintro J hJ ρ wr ⟨i, ps, hi, hpl, hx, hm, r51, r50, r9, r10, r1, r5⟩
    rw [r51, r50, r9, X_lss, condS_bool]
    by_cases hie : i = cs.length
    · rw [if_neg (by simp; omega)]
      rw [hie] at hm
      exact hJ _ _ ⟨ps, hpl, hx, hm, r9, r10, r1, r5⟩
    rw [if_pos (by simp; omega)]
    have hip : i < ps.length := by omega
    have hbi := hbl i (by omega)
    refine X_dataAt hm.slice hip ?_
    intro u1 u2
    have hdi := (own_bts (hm.data i hip)).1
    obtain ⟨ai, ci, ei⟩ := Bts.slice hdi
    have hfi : gI (pl l) i i = bsAt (pl l) i := by simp [gI]
    rw [hfi] at ei
    rw [ei, X_len_27]
    refine loopE (fun ρ4 w4 => ∃ (k : Nat), k ≤ (bsAt (pl l) i).length ∧ Ext W w4 ∧ Mine w4 base vl ps (gK (pl l) i k) ∧
        ρ4 60 = .int .i64 (k : Nat) ∧ ρ4 59 = .int .i64 ((bsAt (pl l) i).length : Nat) ∧ ρ4 12 = .int .i64 (i : Nat) ∧ ρ4 51 = .int .i64 (i : Nat) ∧ ρ4 50 = .int .i64 (cs.length : Nat) ∧ ρ4 9 = vl ∧ ρ4 10 = .int .i64 0 ∧ ρ4 1 = v ∧ ρ4 5 = .bool true)
      (fun ρ4 w4 => match ρ4 60 with | .int _ s => ((bsAt (pl l) i).length - s).toNat | _ => 0)
      (fun ρ4 w4 => Ext W w4 ∧ Mine w4 base vl ps (gK (pl l) i (bsAt (pl l) i).length) ∧
        ρ4 12 = .int .i64 (i : Nat) ∧ ρ4 51 = .int .i64 (i : Nat) ∧ ρ4 50 = .int .i64 (cs.length : Nat) ∧ ρ4 9 = vl ∧ ρ4 10 = .int .i64 0 ∧ ρ4 1 = v ∧ ρ4 5 = .bool true) ?_ ?_ ?_
    · exact ⟨0, by omega, hx, by rw [gK_0]; exact hm, rfl, rfl, rfl, r51, r50, r9, r10, r1, r5⟩
    · rintro J4 hJ4 ρ4 w4 ⟨k, hk, hx4, hm4, q60, q59, q12, q51, q50, q9, q10, q1, q5⟩
      rw [q60, q59, q12, q9, X_lss, condS_bool]
      by_cases hke : k = (bsAt (pl l) i).length
      · rw [if_neg (by simp; omega)]
        rw [hke] at hm4
        exact hJ4 _ _ ⟨hx4, hm4, q12, q51, q50, q9, q10, q1, q5⟩
      rw [if_pos (by simp; omega)]
      have hkb : k < (bsAt (pl l) i).length := by omega
      have hkx : k < (x85 (bsAt (pl l) i) k).length := by rw [x85_len]; exact hkb
      refine X_mineXor (k := k) hm4 hip (by rw [gK_self]; exact hkx) 85 ?_
      intro a b c d e f1 g w5 hm5 hk5
      rw [X_add]
      show _ ∧ _
      refine ⟨⟨k + 1, by omega, Ext.seq hx4 hk5 (fun g hg => by omega), ?_, next64 (n := 1000000) (by decide) (by omega), q59, q12, q51, q50, q9, q10, q1, q5⟩, ?_⟩
      · have e : upAt (gK (pl l) i k) i ((gK (pl l) i k i).set k ((gK (pl l) i k i)[k]'(by rw [gK_self]; exact hkx) ^^^ 85)) = gK (pl l) i (k + 1) := by
          rw [gK_up]
          unfold gK
          congr 1
          simp only [upAt_self]
          exact x85_succ _ k hkb hkx
        rw [← e]
        exact hm5
      · show (_ - IntKind.i64.wrap _).toNat < _
        rw [w64 (by omega) (by omega)]
        first | omega | (show _ < (_ : Int).toNat; omega)
    · rintro ρ4 w4 ⟨hx4, hm4, q12, q51, q50, q9, q10, q1, q5⟩
      rw [q12, q9, q51]
      refine X_mineAdd hm4 hip (by rw [gK_self, x85_len]; omega) ?_
      intro a b c d e f1 g dv w5 hm5 hk5
      rw [gI_next] at hm5
      rw [X_add]
      show _ ∧ _
      refine ⟨⟨i + 1, _, by omega, by rw [List.length_set]; exact hpl, Ext.seq hx4 hk5 (fun g hg => by omega), hm5, next64 (n := 1000000) (by decide) (by omega), q50, q9, q10, q1, q5⟩, ?_⟩
      show (_ - IntKind.i64.wrap _).toNat < _
      rw [w64 (by omega) (by omega)]
      first | omega | (show _ < (_ : Int).toNat; omega)
  rintro ρ wr ⟨ps, hpl, hx, hm, r9, r10, r1, r5⟩
  rw [r10]
  (repeat (first  | simp only [XP_extract0, XP_extract1, XP_extract2, XP_extract3, X_extract0, X_extract1, X_extract2, X_extract3, X_nilS, X_eql_nil_74, X_neq_nil_74, X_eql_nil_124, X_neq_nil_124, X_eql, X_neq, X_lss, X_leq, X_gtr, X_geq, X_not, X_min, X_max, X_len_27, X_len_9, X_len_79, XP_nilS, XP_eql, XP_neq, XP_lss, XP_leq, XP_gtr, XP_geq, XP_not, XP_min, XP_max, XP_len_27, XP_len_9, XP_eql_nil_74, X_str_eql, X_str_neq, XP_str_eql, XP_str_neq, GS, gs_u, decide_true, decide_false, Option.isNone_some, Option.isSome_some, Option.isNone_none, Option.isSome_none, eq_self, Bool.not_true, Bool.not_false, Int.reduceEq, Int.reduceNe, Int.reduceLT, Int.reduceLE, Int.reduceGT, Int.reduceGE, n00]))
  rw [r9, r1, el, ev]
  have cn : decide ((cs.length : Int) ≠ (l.length : Int)) = false := by simp; omega
  (repeat (first  | simp only [XP_extract0, XP_extract1, XP_extract2, XP_extract3, X_extract0, X_extract1, X_extract2, X_extract3, X_nilS, X_eql_nil_74, X_neq_nil_74, X_eql_nil_124, X_neq_nil_124, X_eql, X_neq, X_lss, X_leq, X_gtr, X_geq, X_not, X_min, X_max, X_len_27, X_len_9, X_len_79, XP_nilS, XP_eql, XP_neq, XP_lss, XP_leq, XP_gtr, XP_geq, XP_not, XP_min, XP_max, XP_len_27, XP_len_9, XP_eql_nil_74, X_str_eql, X_str_neq, XP_str_eql, XP_str_neq, GS, gs_u, decide_true, decide_false, Option.isNone_some, Option.isSome_some, Option.isNone_none, Option.isSome_none, eq_self, Bool.not_true, Bool.not_false, Int.reduceEq, Int.reduceNe, Int.reduceLT, Int.reduceLE, Int.reduceGT, Int.reduceGE, X_len_100, cn]))
  refine loopE (fun ρ wr => ∃ (i : Nat), i ≤ cs.length ∧ Ext W wr ∧ Mine wr base vl ps (gI (pl l) cs.length) ∧
      ρ 97 = .int .i64 (i : Nat) ∧ ρ 96 = .int .i64 (cs.length : Nat) ∧ ρ 9 = vl ∧ ρ 1 = v ∧ ρ 5 = .bool true)
    (fun ρ wr => match ρ 97 with | .int _ s => (cs.length - s).toNat | _ => 0)
    (fun ρ wr => Ext W wr ∧ ρ 5 = .bool true) ?_ ?_ ?_
  · exact ⟨0, by omega, hx, hm, rfl, rfl, r9, r1, r5⟩
  · rintro J hJ ρ wr ⟨i, hi, hx, hm, r97, r96, r9, r1, r5⟩
    rw [r97, r96, X_lss, condS_bool]
    by_cases hie : i = cs.length
    · rw [if_neg (by simp; omega)]
      exact hJ _ _ ⟨hx, r5⟩
    rw [if_pos (by simp; omega), r1, r9]
    have hip : i < ps.length := by omega
    have hil : i < l.length := by omega
    have hbi := hbl i hil
    have hBi : bsAt (pl l) i = l[i].p.bs := by rw [bsAt_get (by rw [hll]; exact hil)]; simp
    have hfi : gI (pl l) cs.length i = (bsAt (pl l) i).map (· ^^^ 85) ++ [1, 2, 3] := by unfold gI; rw [if_pos (by omega)]
    refine X_dataAt (hl.ext hx) hil ?_
    intro u1 u2
    have hA := (hin _ (List.getElem_mem hil)).ext hx
    obtain ⟨aA, cA, eA⟩ := Bts.slice hA
    have hM := (own_bts (hm.data i hip)).1
    obtain ⟨aM, cM, eM⟩ := Bts.slice hM
    rw [eA, X_len_27]
    refine X_dataAt hm.slice hip ?_
    intro u3 u4
    rw [eM, X_len_27, X_add]
    have hbl1 : l[i].p.bs.length ≤ 4096 := by rw [← hBi]; exact hbi
    have hfl : (gI (pl l) cs.length i).length = l[i].p.bs.length + 3 := by rw [hfi, List.length_append, List.length_map, hBi]; rfl
    rw [w64 (by omega) (by omega)]
    have c3 : decide (((gI (pl l) cs.length i).length : Int) ≠ (l[i].p.bs.length : Int) + 3) = false := by rw [hfl]; simp
    (repeat (first  | simp only [XP_extract0, XP_extract1, XP_extract2, XP_extract3, X_extract0, X_extract1, X_extract2, X_extract3, X_nilS, X_eql_nil_74, X_neq_nil_74, X_eql_nil_124, X_neq_nil_124, X_eql, X_neq, X_lss, X_leq, X_gtr, X_geq, X_not, X_min, X_max, X_len_27, X_len_9, X_len_79, XP_nilS, XP_eql, XP_neq, XP_lss, XP_leq, XP_gtr, XP_geq, XP_not, XP_min, XP_max, XP_len_27, XP_len_9, XP_eql_nil_74, X_str_eql, X_str_neq, XP_str_eql, XP_str_neq, GS, gs_u, decide_true, decide_false, Option.isNone_some, Option.isSome_some, Option.isNone_none, Option.isSome_none, eq_self, Bool.not_true, Bool.not_false, Int.reduceEq, Int.reduceNe, Int.reduceLT, Int.reduceLE, Int.reduceGT, Int.reduceGE, c3]))
    refine loopG 8 (fun ρ4 w4 => ∃ (k : Nat), k ≤ l[i].p.bs.length ∧ Ext W w4 ∧ Mine w4 base vl ps (gI (pl l) cs.length) ∧
        ρ4 116 = .int .i64 (k : Nat) ∧ ρ4 115 = .int .i64 (l[i].p.bs.length : Nat) ∧ ρ4 14 = .int .i64 (i : Nat) ∧ ρ4 97 = .int .i64 (i : Nat) ∧ ρ4 96 = .int .i64 (cs.length : Nat) ∧ ρ4 9 = vl ∧ ρ4 1 = v ∧ ρ4 5 = .bool true)
      (fun ρ4 w4 => match ρ4 116 with | .int _ s => (l[i].p.bs.length - s).toNat | _ => 0)
      (fun ρ4 w4 => Ext W w4 ∧ Mine w4 base vl ps (gI (pl l) cs.length) ∧ ρ4 97 = .int .i64 (i : Nat) ∧ ρ4 96 = .int .i64 (cs.length : Nat) ∧ ρ4 9 = vl ∧ ρ4 1 = v ∧ ρ4 5 = .bool true) ?_ ?_ ?_
    · exact ⟨0, by omega, hx, hm, rfl, rfl, rfl, r97, r96, r9, r1, r5⟩
    · rintro J4 hJ4 ρ4 w4 ⟨k, hk, hx4, hm4, q116, q115, q14, q97, q96, q9, q1, q5⟩
      rw [q116, q115, X_lss, condS_bool]
      by_cases hke : k = l[i].p.bs.length
      · rw [if_neg (by simp; omega)]
        exact hJ4 _ _ ⟨hx4, hm4, q97, q96, q9, q1, q5⟩
      rw [if_pos (by simp; omega), q14, q9, q1]
      have hkb : k < l[i].p.bs.length := by omega
      have hxd := hx4.trans (Keep.drew (fun _ => False) w4)
      have hmd := hm4.keep (Keep.drew (fun _ => False) w4) (fun _ _ h => h)
      refine ⟨Ext, Ext.frame, ?_⟩
      generalize drewW w4 = wd at hxd hmd ⊢
      obtain ⟨g, o, hix, hcc⟩ := piece_at hmd.slice hip
      obtain ⟨g2, o2, hix2, hcc2⟩ := piece_at (hl.ext hxd) hil
      have hMd := (own_bts (hmd.data i hip)).1
      have hAd := (hin _ (List.getElem_mem hil)).ext hxd
      have hkf : k < (gI (pl l) cs.length i).length := by omega
      obtain ⟨ad, hiy, hcy⟩ := bts_at hMd hkf
      obtain ⟨ad2, hiy2, hcy2⟩ := bts_at hAd hkb
      have hval : (gI (pl l) cs.length i)[k] = l[i].p.bs[k] ^^^ 85 := by
        have h1 : (gI (pl l) cs.length i)[k]? = some (l[i].p.bs[k] ^^^ 85) := by
          rw [hfi, hBi, List.getElem?_append_left (by rw [List.length_map]; exact hkb), List.getElem?_map, List.getElem?_eq_getElem hkb]
          rfl
        rw [List.getElem?_eq_getElem hkf] at h1
        injection h1
      refine XP_of hix ?_
      rw [XP_field_115_1]
      refine XR_ok Ext.frame (fun w' kk => run_loadAt agg_27 (kk.cell (fun h => h) (hcc 33 _ ps[i].dvAt))) ?_
      refine XP_of hiy ?_
      refine XR_ok Ext.frame (fun w' kk => run_loadAt agg_5 (kk.cell (fun h => h) hcy)) ?_
      refine XP_of (fun w' => u8_xor 5 _ _ w') ?_
      refine XP_of hix2 ?_
      rw [XP_field_115_1]
      refine XR_ok Ext.frame (fun w' kk => run_loadAt agg_27 (kk.cell (fun h => h) (hcc2 33 _ l[i].dvAt))) ?_
      refine XP_of hiy2 ?_
      refine XR_ok Ext.frame (fun w' kk => run_loadAt agg_5 (kk.cell (fun h => h) hcy2)) ?_
      refine XP_of (fun w => run_neq 5 .u8 _ _ _ _ w) ?_
      rw [condS_bool, hval, UInt8.xor_assoc, UInt8.xor_self, UInt8.xor_zero, if_neg (by simp), X_add]
      show _ ∧ _
      refine ⟨⟨k + 1, by omega, hxd, hmd, next64 (n := 1000000) (by decide) (by omega), q115, q14, q97, q96, q9, q1, q5⟩, ?_⟩
      show (_ - IntKind.i64.wrap _).toNat < _
      rw [w64 (by omega) (by omega)]
      first | omega | (show _ < (_ : Int).toNat; omega)
    · rintro ρ4 w4 ⟨hx4, hm4, q97, q96, q9, q1, q5⟩
      show X _ _ _ _
      rw [q97, X_add]
      show _ ∧ _
      refine ⟨⟨i + 1, by omega, hx4, hm4, next64 (n := 1000000) (by decide) (by omega), q96, q9, q1, q5⟩, ?_⟩
      show (_ - IntKind.i64.wrap _).toNat < _
      rw [w64 (by omega) (by omega)]
      first | omega | (show _ < (_ : Int).toNat; omega)
  · rintro ρ wr ⟨hx, r5⟩
    show (ρ 5 = _ ∧ _)
    exact ⟨r5, hx⟩
theorem contOwn_walk {H : Type} (enc : TypeId × Value → H) (W : World) (v0 v1 : Value) {base : Nat} (ok0 : Value.okWide Try.prog W .any base 23 v0) (ok1 : Value.okWide Try.prog W .any base 100 v1) (d0 : DataW H) (p0 : List MemPlace) (d1 : DataW H) (p1 : List MemPlace) (h0 : DataW.Trod enc Try.prog W 0 (fun _ => true) true 23 v0 d0 p0) (h1 : DataW.Trod enc Try.prog W 0 (fun _ => true) true 100 v1 d1 p1) (hsz : (DataW.weightsEach Try.prog [23, 100] [d0, d1]).all (· ≤ reachBytes) = true) :
    CALL Try.prog 30 #[v0, v1] W (fun v w' => v = .bool true ∧ Ext W w') := by
  obtain ⟨c, rfl⟩ := arg_w32 Try.underlying23 ok0 h0
  obtain ⟨l, hl, hin⟩ := arg_pieces ok1 h1
  exact contOwn_run c.isLt W hl hin
end
set_option maxRecDepth 100000 in
theorem contOwn_lifted (os : Os) (started : os.Started) (H : Type) (enc : TypeId × Value → H) :
    ReturnsInHanded {} Try.checked os 30 .any (Rows.contOwnSpec.pre6 enc Try.prog Try.f30 Rows.contOwnRow.domain false) (Rows.contOwnSpec.post enc Try.prog Try.f30 false true false false) := by
  refine returnsInHanded_of_change_sized (C := Try.checked) (by kernel_rfl) started (by kernel_rfl) Try.func30
    (ChangeSpec.witness6 (enc := enc) (C := Try.checked) false ⟨#[], #[(.int .u32 0), (.slice none 0 0)], []⟩ 8 (by kernel_rfl) (by kernel_rfl) (by kernel_rfl) (by kernel_rfl)) ?_
  intro W base args ds gs before hval0 hW hcnd hsz0 _
  have hval : ∀ (j : Nat) t v, Try.f30.params[j]? = some t → args[j]? = some v → Value.okWide Try.prog W .any base t v := hval0
  have hW' := hW
  obtain ⟨p, q, hA0, hV, rfl, hfz, hnd⟩ := hW
  have hA : DataW.TrodAll enc Try.prog W 0 (fun _ => true) true Try.f30.params.toList args.toList ds p := hA0
  rw [Try.params30] at hA hval
  obtain ⟨v0, vs0, d0, ds0, p0, q0, hargs, rfl, rfl, h0, r0⟩ := trodAll_cons hA
  obtain ⟨v1, vs1, d1, ds1, p1, q1, rfl, rfl, rfl, h1, r1⟩ := trodAll_cons r0
  obtain ⟨rfl, rfl, rfl⟩ := trodAll_nil r1
  obtain rfl : args = #[v0, v1] := by cases args; simp_all
  obtain ⟨rfl, rfl⟩ := trodVars_none hV
  have hsz : (DataW.weightsEach Try.prog [23, 100] [d0, d1]).all (· ≤ reachBytes) = true := hsz0
  have hw := contOwn_walk enc W v0 v1 (hval 0 23 v0 rfl rfl) (hval 1 100 v1 rfl rfl) d0 p0 d1 p1 h0 h1 hsz
  refine (CALL_calls hw).mono fun e W' he => ?_
  cases e with
  | returned v =>
    obtain ⟨rfl, hx⟩ := he
    exact ⟨_, rfl, law_post (P := Try.prog) laidOut (by kernel_rfl) rfl rfl rfl Try.underlying4 hW' hx⟩
  | panicked c => exact he.elim
  | outgrown => exact he.elim

theorem contOwn_closed : joinedFacts Try.prog 30 Try.f30 Rows.contOwnSpec Rows.contOwnRow = true := by
  unfold joinedFacts
  rw [mayEnter_is, liftsFinal_is, make_is]
  kernel_rfl
/-- For every input that the row lets in, cellarage/cellaragelaw11.ContOwn returns true, and what was there stays as it was. -/
theorem contOwn_holds : Rows.ContOwnSaid :=
  OpenClaim.holds_of_wide 30 Try.f30 rfl rfl rfl rfl rfl rfl rfl ⟨rfl, rfl, rfl, rfl, rfl⟩ rfl rfl rfl rfl rfl (by kernel_rfl) Try.func30 contOwn_closed
    (of_decide_eq_true (by kernel_rfl)) (by unfold Func.isWrapper; first | (rw [if_pos (by decide +kernel)]; kernel_rfl) | (rw [if_neg (by decide +kernel)]; exact ⟨rfl, rfl⟩))
    (fun os started H enc _ => contOwn_lifted os started H enc)
#print axioms contOwn_holds
end Go.Proofs.Ytggggfcgnkllgaa
