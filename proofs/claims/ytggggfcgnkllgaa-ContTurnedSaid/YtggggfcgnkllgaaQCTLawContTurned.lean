/- cellaragelaw11.ContTurned: bytes of which some of 32 neighbouring bits are turned are no container. -/
import Derived.Test.YtggggfcgnkllgaaQCT9
set_option linter.unusedVariables false
set_option linter.unusedSimpArgs false
set_option linter.constructorNameAsVariable false
namespace Go.Proofs.Ytggggfcgnkllgaa
open Go Go.Sh Go.RowKit Go.ChangeShapes Go.WideShapes Go.ChangeAt
open Go.Proofs.Ytggggfcgnkllgaa
section
attribute [local irreducible] X XU XP XR CALL loopS resC closS Value.okWide
theorem open_flips (bs : List UInt8) (p m i : Nat) (hp : p + i ≤ 8 * (bs.length + 4)) (hi : i ≤ 32) {j : Nat} (hj : j < i) (h : m.testBit j = true) : openB (flips (sealB bs) p m i) = none := by
  have hl : (flips (sealB bs) p m i).length = bs.length + 4 := by rw [flips_length, sealB_len]
  have hl4 : ((flips (sealB bs) p m i).drop ((flips (sealB bs) p m i).length - 4)).length = 4 := by rw [List.length_drop]; omega
  unfold openB
  rw [if_neg (by omega)]
  split
  · rename_i he
    exfalso
    have hb := be_num ((flips (sealB bs) p m i).drop ((flips (sealB bs) p m i).length - 4))
    rw [hl4] at hb
    refine seal_flips bs p m i hp hi hj h ((flips (sealB bs) p m i).take ((flips (sealB bs) p m i).length - 4)) (crc ((flips (sealB bs) p m i).take ((flips (sealB bs) p m i).length - 4))) ?_ rfl
    rw [← he, hb, List.take_append_drop]
    rfl
  · rfl
theorem flip_set (l : List UInt8) (q : Nat) (h : q / 8 < l.length) : l.set (q / 8) (l[q / 8] ^^^ oneBit (q % 8)) = Go.Sh.flip l q := by
  unfold Go.Sh.flip
  apply List.ext_getElem?
  intro i
  rw [List.getElem?_modify]
  by_cases hi : q / 8 = i
  · subst hi
    rw [List.getElem?_set_self h, List.getElem?_eq_getElem h]
    simp
  · rw [List.getElem?_set_ne hi]
    simp [hi]
theorem shr128 (T : TypeId) (r : Nat) (hr : r < 8) (w : World) : (binOp .shr T (.int .u8 128) (.int .i64 (r : Int))).run Try.prog w = .ok (.int .u8 (((oneBit r).toNat : Nat) : Int)) w := by
  rw [run_shr _ _ (by omega), oneBit_toNat r hr]
  have : r = 0 ∨ r = 1 ∨ r = 2 ∨ r = 3 ∨ r = 4 ∨ r = 5 ∨ r = 6 ∨ r = 7 := by omega
  rcases this with rfl | rfl | rfl | rfl | rfl | rfl | rfl | rfl <;> rfl
theorem bit_of (m : W32) (i : Nat) : (m >>> i).toNat % 2 = if m.toNat.testBit i = true then 1 else 0 := by
  rw [BitVec.toNat_ushiftRight, Nat.testBit_eq_decide_div_mod_eq, Nat.shiftRight_eq_div_pow]
  have := Nat.mod_two_eq_zero_or_one (m.toNat / 2 ^ i)
  rcases this with h | h <;> rw [h] <;> rfl
theorem xp_quo8 (T : TypeId) (x : Nat) (hx : x ≤ 9223372036854775807) (w : World) : (binOp .quo T (.int .i64 (x : Int)) (.int .i64 8)).run Try.prog w = .ok (.int .i64 ((x / 8 : Nat) : Int)) w := by
  have e : ((x : Nat) : Int).tdiv 8 = ((x / 8 : Nat) : Int) := rfl
  rw [run_quo _ _ _ _ (by decide), e, w64 (by omega) (by omega)]
theorem xp_rem8 (T : TypeId) (x : Nat) (w : World) : (binOp .rem T (.int .i64 (x : Int)) (.int .i64 8)).run Try.prog w = .ok (.int .i64 ((x % 8 : Nat) : Int)) w := by
  rw [run_rem _ _ _ _ (by decide)]
  congr 2
theorem arg_two32 {P : Program} {H : Type} {enc : TypeId × Value → H} {W : World} {base : Nat} {v : Value} {d : DataW H} {p : List MemPlace} {t e : TypeId} (ht : P.underlying t = some (.array 2 e)) (hc : P.cellsOf t = 2) (he : P.underlying e = some (.int .u32)) (hce : P.cellsOf e = 1)
    (ok : Value.okWide P W .any base t v) (h : DataW.Trod enc P W 0 (fun _ => true) true t v d p) : ∃ a b : Nat, v = .agg #[.int .u32 (a : Int), .int .u32 (b : Int)] ∧ a < 4294967296 ∧ b < 4294967296 := by
  have hs : ∃ cs, v = .agg cs ∧ cs.size = P.cellsOf t := by
    simp only [Value.okWide, ht] at ok
    obtain ⟨cs, h1, h2, _⟩ := ok
    exact ⟨cs, h1, h2⟩
  obtain ⟨cs, rfl, hcs⟩ := hs
  rw [hc] at hcs
  obtain ⟨hl, hf⟩ := (TrC.of h).array ht
  match cs, hcs with
  | ⟨[x0, x1]⟩, _ =>
    have g0 := hf 0 (by decide)
    have g1 := hf 1 (by decide)
    rw [hce] at g0 g1
    obtain ⟨n0, e0, w0⟩ := TrC.int he g0
    obtain ⟨n1, e1, w1⟩ := TrC.int he g1
    simp [Lit.wf, IntKind.min, IntKind.max, IntKind.signed, IntKind.bits] at w0 w1
    refine ⟨n0.toNat, n1.toNat, ?_, by omega, by omega⟩
    have q0 : x0 = .int .u32 n0 := by simpa [Value.cells] using e0
    have q1 : x1 = .int .u32 n1 := by simpa [Value.cells] using e1
    rw [q0, q1, Int.toNat_of_nonneg w0.1, Int.toNat_of_nonneg w1.1]
def anyBit (m i : Nat) : Bool := (List.range i).any fun j => m.testBit j
theorem anyBit_succ (m i : Nat) : anyBit m (i + 1) = (anyBit m i || m.testBit i) := by simp [anyBit, List.range_succ]
theorem anyBit_true {m i : Nat} (h : anyBit m i = true) : ∃ j, j < i ∧ m.testBit j = true := by
  unfold anyBit at h
  obtain ⟨j, hj, h⟩ := List.any_eq_true.1 h
  exact ⟨j, List.mem_range.1 hj, h⟩
theorem anyBit_false {m i : Nat} (h : anyBit m i = false) : ∀ j, j < i → m.testBit j = false := by
  intro j hj
  unfold anyBit at h
  have := (List.any_eq_false.1 h) j (List.mem_range.2 hj)
  simpa using this
set_option maxHeartbeats 2000000 in
theorem contTurned_run {id a : Nat} {v : Value} {l : List Pc} (hid : id < 4294967296) (ha : a < 4294967296) (m : W32) (W : World) (hl : RowK 34 Pc.cs W v l) (hin : ∀ c ∈ l, c.In W) :
    CALL Try.prog 29 #[.int .u32 (id : Int), v, .agg #[.int .u32 (a : Int), U32 m]] W (fun v w' => v = .bool true ∧ Ext W w') := by
  have hll : (pl l).length = l.length := by simp
  have e00 : decide ((0 : Int) = 0) = true := by decide
  have n00 : decide ((0 : Int) ≠ 0) = false := by decide
  have e110 : decide ((110 : Int) = 110) = true := by decide
  apply call_law11_ContTurned
  unfold B_law11_ContTurned B_law11_ContTurned_c4 B_law11_ContTurned_c3 B_law11_ContTurned_c2 B_law11_ContTurned_c1
  refine X_box ?_
  have hx0 := newB_ext W (Value.agg #[.int .u32 (a : Int), U32 m]).cells 108
  have hg0 := newB_get W (Value.agg #[.int .u32 (a : Int), U32 m]).cells 108
  generalize newB W (Value.agg #[.int .u32 (a : Int), U32 m]).cells 108 = w0 at hx0 hg0 ⊢
  have hg0 : w0.heap[W.heap.size]? = some (.cells #[.int .u32 (a : Int), U32 m] 108 (0, 0)) := hg0
  generalize W.heap.size = bt at hg0 ⊢
  refine shown11 ?_
  intro w1 hx1
  have hx01 := hx0.trans hx1
  refine Light_spec (hl.ext hx01) (fun c hc => (hin c hc).ext hx01) ?_
  by_cases hlt : lightP (pl l)
  case neg =>
    have c : decide (lightP (pl l)) = false := decide_eq_false hlt
    (repeat (first  | simp only [XP_extract0, XP_extract1, XP_extract2, XP_extract3, X_extract0, X_extract1, X_extract2, X_extract3, X_nilS, X_eql_nil_74, X_neq_nil_74, X_eql_nil_124, X_neq_nil_124, X_eql, X_neq, X_lss, X_leq, X_gtr, X_geq, X_not, X_min, X_max, X_len_27, X_len_9, X_len_79, XP_nilS, XP_eql, XP_neq, XP_lss, XP_leq, XP_gtr, XP_geq, XP_not, XP_min, XP_max, XP_len_27, XP_len_9, XP_eql_nil_74, X_str_eql, X_str_neq, XP_str_eql, XP_str_neq, GS, gs_u, decide_true, decide_false, Option.isNone_some, Option.isSome_some, Option.isNone_none, Option.isSome_none, eq_self, Bool.not_true, Bool.not_false, Int.reduceEq, Int.reduceNe, Int.reduceLT, Int.reduceLE, Int.reduceGT, Int.reduceGE, c]))
    exact ⟨trivial, hx01⟩
  have c : decide (lightP (pl l)) = true := decide_eq_true hlt
  (repeat (first  | simp only [XP_extract0, XP_extract1, XP_extract2, XP_extract3, X_extract0, X_extract1, X_extract2, X_extract3, X_nilS, X_eql_nil_74, X_neq_nil_74, X_eql_nil_124, X_neq_nil_124, X_eql, X_neq, X_lss, X_leq, X_gtr, X_geq, X_not, X_min, X_max, X_len_27, X_len_9, X_len_79, XP_nilS, XP_eql, XP_neq, XP_lss, XP_leq, XP_gtr, XP_geq, XP_not, XP_min, XP_max, XP_len_27, XP_len_9, XP_eql_nil_74, X_str_eql, X_str_neq, XP_str_eql, XP_str_neq, GS, gs_u, decide_true, decide_false, Option.isNone_some, Option.isSome_some, Option.isNone_none, Option.isSome_none, eq_self, Bool.not_true, Bool.not_false, Int.reduceEq, Int.reduceNe, Int.reduceLT, Int.reduceLE, Int.reduceGT, Int.reduceGE, c]))
  have hT : 38 * l.length + totB (pl l) ≤ 1000000000000 := by
    have h1 := hlt.1
    have h2 := hlt.2
    omega
  refine LayC_spec hid (hl.ext hx01) (fun c hc => (hin c hc).ext hx01) hT (fun hc w2 hx2 => ?_) (fun hc vs w2 hx2 ho2 => ?_)
  · have ce : decide (chk (pl l) ≠ 0) = true := by simpa using hc
    (repeat (first  | simp only [XP_extract0, XP_extract1, XP_extract2, XP_extract3, X_extract0, X_extract1, X_extract2, X_extract3, X_nilS, X_eql_nil_74, X_neq_nil_74, X_eql_nil_124, X_neq_nil_124, X_eql, X_neq, X_lss, X_leq, X_gtr, X_geq, X_not, X_min, X_max, X_len_27, X_len_9, X_len_79, XP_nilS, XP_eql, XP_neq, XP_lss, XP_leq, XP_gtr, XP_geq, XP_not, XP_min, XP_max, XP_len_27, XP_len_9, XP_eql_nil_74, X_str_eql, X_str_neq, XP_str_eql, XP_str_neq, GS, gs_u, decide_true, decide_false, Option.isNone_some, Option.isSome_some, Option.isNone_none, Option.isSome_none, eq_self, Bool.not_true, Bool.not_false, Int.reduceEq, Int.reduceNe, Int.reduceLT, Int.reduceLE, Int.reduceGT, Int.reduceGE, ce]))
    exact ⟨trivial, hx01.trans hx2⟩
  have hx02 := hx01.trans hx2
  (repeat (first  | simp only [XP_extract0, XP_extract1, XP_extract2, XP_extract3, X_extract0, X_extract1, X_extract2, X_extract3, X_nilS, X_eql_nil_74, X_neq_nil_74, X_eql_nil_124, X_neq_nil_124, X_eql, X_neq, X_lss, X_leq, X_gtr, X_geq, X_not, X_min, X_max, X_len_27, X_len_9, X_len_79, XP_nilS, XP_eql, XP_neq, XP_lss, XP_leq, XP_gtr, XP_geq, XP_not, XP_min, XP_max, XP_len_27, XP_len_9, XP_eql_nil_74, X_str_eql, X_str_neq, XP_str_eql, XP_str_neq, GS, gs_u, decide_true, decide_false, Option.isNone_some, Option.isSome_some, Option.isNone_none, Option.isSome_none, eq_self, Bool.not_true, Bool.not_false, Int.reduceEq, Int.reduceNe, Int.reduceLT, Int.reduceLE, Int.reduceGT, Int.reduceGE, n00]))
  have hlen := layP_len id (pl l)
  have hsz : (layP id (pl l)).length ≤ 1000000 := by
    rw [hlen]
    have := (chk_ok hc).2.2.2.1
    omega
  have h10 : 10 ≤ (layP id (pl l)).length := by rw [hlen]; unfold sizeP; omega
  have hs2 := (own_bts ho2).1
  obtain ⟨as_, cs_, es⟩ := Bts.slice hs2
  have hg2 := hx2.get (hx1.get hg0)
  have ho2' := own_mono ho2 hx01.size
  have hop : ∀ i, i ≤ 32 → ∀ p, p + i ≤ 8 * (layP id (pl l)).length → ∀ j, j < i → m.toNat.testBit j = true → openB (flips (layP id (pl l)) p m.toNat i) = none := by
    intro i hi p hp j hj ht
    have e : (layP id (pl l)).length = (bodyP id (pl l)).length + 4 := sealB_len _
    exact open_flips (bodyP id (pl l)) p m.toNat i (by omega) hi hj ht
  have htake : ∀ b, b = layP id (pl l) → ∀ id' l', id' < 4294967296 → chk l' = 0 → b = layP id' l' → l' = pl l := by
    intro b hb id' l' hid' hc' he
    rw [hb] at he
    exact ((lay_eq hid hid' (fit_chk hc) (fit_chk hc') he).2).symm
  have hself : ∀ b, b = layP id (pl l) → ¬ (∀ id' l', id' < 4294967296 → chk l' = 0 → b ≠ layP id' l') := fun b hb hno => hno id (pl l) hid hc hb
  have hopl : ∀ b, openB b = none → ∀ id' l', b ≠ layP id' l' := by
    intro b hb id' l' he
    rw [he, open_lay] at hb
    cases hb
  generalize layP id (pl l) = S at hsz h10 hs2 es ho2' hop htake hself
  rw [es]
  (repeat (first  | simp only [XP_extract0, XP_extract1, XP_extract2, XP_extract3, X_extract0, X_extract1, X_extract2, X_extract3, X_nilS, X_eql_nil_74, X_neq_nil_74, X_eql_nil_124, X_neq_nil_124, X_eql, X_neq, X_lss, X_leq, X_gtr, X_geq, X_not, X_min, X_max, X_len_27, X_len_9, X_len_79, XP_nilS, XP_eql, XP_neq, XP_lss, XP_leq, XP_gtr, XP_geq, XP_not, XP_min, XP_max, XP_len_27, XP_len_9, XP_eql_nil_74, X_str_eql, X_str_neq, XP_str_eql, XP_str_neq, GS, gs_u, decide_true, decide_false, Option.isNone_some, Option.isSome_some, Option.isNone_none, Option.isSome_none, eq_self, Bool.not_true, Bool.not_false, Int.reduceEq, Int.reduceNe, Int.reduceLT, Int.reduceLE, Int.reduceGT, Int.reduceGE, X_len_27]))
  have c10 : decide ((S.length : Int) < 10) = false := by simp; omega
  (repeat (first  | simp only [XP_extract0, XP_extract1, XP_extract2, XP_extract3, X_extract0, X_extract1, X_extract2, X_extract3, X_nilS, X_eql_nil_74, X_neq_nil_74, X_eql_nil_124, X_neq_nil_124, X_eql, X_neq, X_lss, X_leq, X_gtr, X_geq, X_not, X_min, X_max, X_len_27, X_len_9, X_len_79, XP_nilS, XP_eql, XP_neq, XP_lss, XP_leq, XP_gtr, XP_geq, XP_not, XP_min, XP_max, XP_len_27, XP_len_9, XP_eql_nil_74, X_str_eql, X_str_neq, XP_str_eql, XP_str_neq, GS, gs_u, decide_true, decide_false, Option.isNone_some, Option.isSome_some, Option.isNone_none, Option.isSome_none, eq_self, Bool.not_true, Bool.not_false, Int.reduceEq, Int.reduceNe, Int.reduceLT, Int.reduceLE, Int.reduceGT, Int.reduceGE, c10]))
  refine X_of (ix_arr Try.underlying108 info_23 (k := .i64) (ii := 0) 0 rfl (by decide) _) ?_
  rw [sz_23, Nat.zero_mul]
  refine X_of (run_loadAt agg_23 (v := .int .u32 (a : Int)) (by rw [add_plain]; exact (cell_blk hg2).trans rfl)) ?_
  rw [X_conv_23_3, w64 (by omega) (by omega)]
  (repeat (first  | simp only [XP_extract0, XP_extract1, XP_extract2, XP_extract3, X_extract0, X_extract1, X_extract2, X_extract3, X_nilS, X_eql_nil_74, X_neq_nil_74, X_eql_nil_124, X_neq_nil_124, X_eql, X_neq, X_lss, X_leq, X_gtr, X_geq, X_not, X_min, X_max, X_len_27, X_len_9, X_len_79, XP_nilS, XP_eql, XP_neq, XP_lss, XP_leq, XP_gtr, XP_geq, XP_not, XP_min, XP_max, XP_len_27, XP_len_9, XP_eql_nil_74, X_str_eql, X_str_neq, XP_str_eql, XP_str_neq, GS, gs_u, decide_true, decide_false, Option.isNone_some, Option.isSome_some, Option.isNone_none, Option.isSome_none, eq_self, Bool.not_true, Bool.not_false, Int.reduceEq, Int.reduceNe, Int.reduceLT, Int.reduceLE, Int.reduceGT, Int.reduceGE, X_len_27]))
  simp only [X_mul]
  have e8 : IntKind.i64.wrap (8 * (S.length : Int)) = ((8 * S.length : Nat) : Int) := by rw [w64 (by omega) (by omega)]; omega
  rw [e8]
  refine X_of (run_rem 3 .i64 _ _ (by omega) _) ?_
  obtain ⟨p, hp⟩ : ∃ p : Nat, p = a % (8 * S.length) := ⟨_, rfl⟩
  have hpl : p < 8 * S.length := by rw [hp]; exact Nat.mod_lt _ (by omega)
  have ep : (a : Int).tmod ((8 * S.length : Nat) : Int) = (p : Int) := by rw [hp]; rfl
  rw [ep, ← es]
  refine loopE (fun ρ wr => ∃ i : Nat, i ≤ 32 ∧ p + i ≤ 8 * S.length ∧ Ext W wr ∧ wr.heap[bt]? = some (.cells #[.int .u32 (a : Int), U32 m] 108 (0, 0)) ∧ wr.ownsRow W.heap.size 5 1 vs S.length (B8 (flips S p m.toNat i)) ∧
      ρ 12 = .int .i64 (i : Nat) ∧ ρ 10 = .int .i64 (p : Nat) ∧ ρ 11 = .bool (anyBit m.toNat i) ∧ ρ 8 = vs ∧ ρ 7 = .bool true ∧ ρ 1 = v ∧ ρ 5 = ptr bt)
    (fun ρ wr => match ρ 12 with | .int _ s => (32 - s).toNat | _ => 0)
    (fun ρ wr => ∃ i : Nat, i ≤ 32 ∧ p + i ≤ 8 * S.length ∧ Ext W wr ∧ wr.ownsRow W.heap.size 5 1 vs S.length (B8 (flips S p m.toNat i)) ∧
      ρ 11 = .bool (anyBit m.toNat i) ∧ ρ 8 = vs ∧ ρ 7 = .bool true ∧ ρ 1 = v) ?_ ?_ ?_
  · exact ⟨0, by omega, by omega, hx02, hg2, ho2', rfl, rfl, rfl, rfl, rfl, rfl, rfl⟩
  · intro JE hJE
    rintro ρ wr ⟨i, hi, hpi, hxr, hgr, hor, h12, h10', h11, h8, h7, h1, h5⟩
    have hrl : (flips S p m.toNat i).length = S.length := flips_length _ _ _ _
    rw [h12, X_lss]
    by_cases hgo : i < 32 ∧ p + i < 8 * S.length
    · have e32 : decide ((i : Int) < 32) = true := by simp; omega
      rw [h10', h8, es]
      simp only [e32, GS, X_add, X_len_27, X_mul, X_lss]
      rw [w64 (by omega) (by omega), e8]
      have elt : decide ((p : Int) + (i : Int) < ((8 * S.length : Nat) : Int)) = true := by simp; omega
      rw [elt, cs_t]
      rw [← es]
      refine joinS_of (fun ρ' w' => Ext W w' ∧ w'.heap[bt]? = some (.cells #[.int .u32 (a : Int), U32 m] 108 (0, 0)) ∧ w'.ownsRow W.heap.size 5 1 vs S.length (B8 (flips S p m.toNat (i + 1))) ∧
        ρ' 12 = .int .i64 (i : Nat) ∧ ρ' 10 = .int .i64 (p : Nat) ∧ ρ' 11 = .bool (anyBit m.toNat (i + 1)) ∧ ρ' 8 = vs ∧ ρ' 7 = .bool true ∧ ρ' 1 = v ∧ ρ' 5 = ptr bt) ?_ ?_
      · rintro ρ' w' ⟨hx', hg', ho', g12, g10, g11, g8, g7, g1, g5⟩
        rw [g12, X_add]
        show _ ∧ _
        refine ⟨⟨i + 1, by omega, by omega, hx', hg', ho', next64 (n := 32) (by decide) (by omega), g10, g11, g8, g7, g1, g5⟩, ?_⟩
        show (_ - IntKind.i64.wrap _).toNat < _
        rw [w64 (by omega) (by omega)]
        omega
      intro J hJ
      rw [h5]
      refine X_of (ix_arr Try.underlying108 info_23 (k := .i64) (ii := 1) 1 rfl (by decide) _) ?_
      rw [sz_23]
      refine X_of (run_loadAt agg_23 (v := U32 m) (by rw [add_plain]; exact (cell_blk hgr).trans rfl)) ?_
      refine X_of (u32_shr 23 .i64 m i (by omega) _) ?_
      show X _ (binOp .rem 23 (.int .u32 (((m >>> i).toNat : Nat) : Int)) (.int .u32 2)) _ _
      refine X_of (run_rem 23 .u32 _ 2 (by decide) _) ?_
      have er : ((((m >>> i).toNat : Nat) : Int)).tmod 2 = (((m >>> i).toNat % 2 : Nat) : Int) := rfl
      rw [er, bit_of, X_eql, condS_bool]
      by_cases ht : m.toNat.testBit i = true
      · rw [if_pos (by rw [if_pos ht]; rfl)]
        refine ⟨Ext, Ext.frame, ?_⟩
        have hord : (drewW wr).ownsRow W.heap.size 5 1 vs S.length (B8 (flips S p m.toNat i)) := hor
        have hgd : (drewW wr).heap[bt]? = some (.cells #[.int .u32 (a : Int), U32 m] 108 (0, 0)) := hgr
        have hq : (p + i) / 8 < (flips S p m.toNat i).length := by rw [hrl]; omega
        obtain ⟨g, cap, cur, ev, hg, hh, hjc, hcj, hjn, hput⟩ := own_put hord hq ((flips S p m.toNat i)[(p + i) / 8] ^^^ oneBit ((p + i) % 8))
        rw [flip_set _ _ hq] at hput
        refine XP_of (fun w => xp_add 3 p i (p + i) rfl (by omega) w) ?_
        refine XP_of (fun w => xp_quo8 3 (p + i) (by omega) w) ?_
        rw [ev]
        refine XP_of (fun w => ix Try.underlying27 info_5 ((p + i) / 8) rfl hjn w) ?_
        rw [sz_5, Nat.mul_one, add_plain, Nat.zero_add]
        refine XR_ok Ext.frame (fun w' kx => run_loadAt agg_5 ((cell_blk (kx.get hh)).trans hcj)) ?_
        refine XP_of (fun w => xp_add 3 p i (p + i) rfl (by omega) w) ?_
        refine XP_of (fun w => xp_rem8 3 (p + i) w) ?_
        refine XP_of (fun w => shr128 5 ((p + i) % 8) (Nat.mod_lt _ (by decide)) w) ?_
        refine XP_of (fun w => u8_xor 5 _ _ w) ?_
        refine XP_of (fun w => ix Try.underlying27 info_5 ((p + i) / 8) rfl hjn w) ?_
        rw [sz_5, Nat.mul_one, add_plain, Nat.zero_add]
        refine XU_store info_5 sz_5 rfl hh hjc (by show ¬ ((0 : Nat) ≤ (p + i) / 8 ∧ (p + i) / 8 < 0); omega) ?_
        refine hJ _ _ ⟨Ext.seq (hxr.trans (Keep.drew _ wr)) (setAt_keep _ _ _ _ _) (fun j hj => by omega), ?_, ?_, h12, h10', ?_, h8, h7, h1, h5⟩
        · refine (setAt_keep _ _ _ _ _).get (fun hbe => ?_) hgd
          rw [hbe, hh] at hgd
          injection hgd with hgd
          injection hgd with _ hgd
          exact absurd hgd (by decide)
        · rw [ev] at hput
          rw [ev]
          have ef : flips S p m.toNat (i + 1) = Go.Sh.flip (flips S p m.toNat i) (p + i) := by
            show (if m.toNat.testBit i = true then Go.Sh.flip (flips S p m.toNat i) (p + i) else flips S p m.toNat i) = _
            rw [if_pos ht]
          rw [ef]
          exact hput
        · rw [anyBit_succ, ht, Bool.or_true]
          rfl
      · have ht' : m.toNat.testBit i = false := by simpa using ht
        rw [if_neg (by rw [if_neg ht]; decide)]
        refine hJ _ _ ⟨hxr, hgr, ?_, h12, h10', ?_, h8, h7, h1, h5⟩
        · have ef : flips S p m.toNat (i + 1) = flips S p m.toNat i := by
            show (if m.toNat.testBit i = true then Go.Sh.flip (flips S p m.toNat i) (p + i) else flips S p m.toNat i) = _
            rw [if_neg ht]
          rw [ef]
          exact hor
        · rw [anyBit_succ, ht', Bool.or_false]
          exact h11
    · have out : ∀ ρ' : Env, ρ' 11 = ρ 11 → ρ' 8 = ρ 8 → ρ' 7 = ρ 7 → ρ' 1 = ρ 1 → JE ρ' wr := fun ρ' q1 q2 q3 q4 =>
        hJE _ _ ⟨i, hi, hpi, hxr, hor, q1.trans h11, q2.trans h8, q3.trans h7, q4.trans h1⟩
      by_cases h32 : i = 32
      · have e32 : decide ((i : Int) < 32) = false := by simp; omega
        simp only [e32, GS]
        exact out _ rfl rfl rfl rfl
      · have e32 : decide ((i : Int) < 32) = true := by simp; omega
        have hr9 := h10'
        have hr8 := h8
        rw [es] at hr8
        rw [hr9, hr8]
        simp only [e32, GS, X_add, X_len_27, X_mul, X_lss]
        rw [w64 (by omega) (by omega), e8]
        have elt : decide ((p : Int) + (i : Int) < ((8 * S.length : Nat) : Int)) = false := by simp; omega
        rw [elt, cs_f]
        exact out _ rfl rfl rfl rfl
  rintro ρ wr ⟨i, hi, hpi, hxr, hor, h11, h8, h7, h1⟩
  have hrl : (flips S p m.toNat i).length = S.length := flips_length _ _ _ _
  have hrb := (own_bts hor).1
  rw [h8, h11, h7, h1]
  cases hk : anyBit m.toNat i with
  | false =>
    have ef := flips_none S p m.toNat i (anyBit_false hk)
    rw [ef] at hrb
    refine Take_spec hrb hsz (fun hno => absurd hno (hself S rfl)) (fun id' l' hid' hc' he q vl cs w3 hcs hx3 t3 => ?_)
    have hll' := htake S rfl id' l' hid' hc' he
    have hx03 := hxr.trans hx3
    (repeat (first  | simp only [XP_extract0, XP_extract1, XP_extract2, XP_extract3, X_extract0, X_extract1, X_extract2, X_extract3, X_nilS, X_eql_nil_74, X_neq_nil_74, X_eql_nil_124, X_neq_nil_124, X_eql, X_neq, X_lss, X_leq, X_gtr, X_geq, X_not, X_min, X_max, X_len_27, X_len_9, X_len_79, XP_nilS, XP_eql, XP_neq, XP_lss, XP_leq, XP_gtr, XP_geq, XP_not, XP_min, XP_max, XP_len_27, XP_len_9, XP_eql_nil_74, X_str_eql, X_str_neq, XP_str_eql, XP_str_neq, GS, gs_u, decide_true, decide_false, Option.isNone_some, Option.isSome_some, Option.isNone_none, Option.isSome_none, eq_self, Bool.not_true, Bool.not_false, Int.reduceEq, Int.reduceNe, Int.reduceLT, Int.reduceLE, Int.reduceGT, Int.reduceGE, e00]))
    refine Same_spec (hl.ext hx03) t3.slice (fun c hc => (hin c hc).ext hx03) t3.inn (by omega) (by rw [hcs, hll']) ?_
    intro w4 hx4
    (repeat (first  | simp only [XP_extract0, XP_extract1, XP_extract2, XP_extract3, X_extract0, X_extract1, X_extract2, X_extract3, X_nilS, X_eql_nil_74, X_neq_nil_74, X_eql_nil_124, X_neq_nil_124, X_eql, X_neq, X_lss, X_leq, X_gtr, X_geq, X_not, X_min, X_max, X_len_27, X_len_9, X_len_79, XP_nilS, XP_eql, XP_neq, XP_lss, XP_leq, XP_gtr, XP_geq, XP_not, XP_min, XP_max, XP_len_27, XP_len_9, XP_eql_nil_74, X_str_eql, X_str_neq, XP_str_eql, XP_str_neq, GS, gs_u, decide_true, decide_false, Option.isNone_some, Option.isSome_some, Option.isNone_none, Option.isSome_none, eq_self, Bool.not_true, Bool.not_false, Int.reduceEq, Int.reduceNe, Int.reduceLT, Int.reduceLE, Int.reduceGT, Int.reduceGE]))
    exact ⟨trivial, hx03.trans hx4⟩
  | true =>
    obtain ⟨j, hj, ht⟩ := anyBit_true hk
    have hno := hop i hi p hpi j hj ht
    refine Take_spec hrb (by rw [hrl]; exact hsz) (fun _ w3 hx3 => ?_) (fun id' l' hid' hc' he => absurd he (hopl _ hno id' l'))
    (repeat (first  | simp only [XP_extract0, XP_extract1, XP_extract2, XP_extract3, X_extract0, X_extract1, X_extract2, X_extract3, X_nilS, X_eql_nil_74, X_neq_nil_74, X_eql_nil_124, X_neq_nil_124, X_eql, X_neq, X_lss, X_leq, X_gtr, X_geq, X_not, X_min, X_max, X_len_27, X_len_9, X_len_79, XP_nilS, XP_eql, XP_neq, XP_lss, XP_leq, XP_gtr, XP_geq, XP_not, XP_min, XP_max, XP_len_27, XP_len_9, XP_eql_nil_74, X_str_eql, X_str_neq, XP_str_eql, XP_str_neq, GS, gs_u, decide_true, decide_false, Option.isNone_some, Option.isSome_some, Option.isNone_none, Option.isSome_none, eq_self, Bool.not_true, Bool.not_false, Int.reduceEq, Int.reduceNe, Int.reduceLT, Int.reduceLE, Int.reduceGT, Int.reduceGE, e110, X_len_100]))
    exact ⟨rfl, hxr.trans hx3⟩
theorem contTurned_walk {H : Type} (enc : TypeId × Value → H) (W : World) (v0 v1 v2 : Value) {base : Nat} (ok0 : Value.okWide Try.prog W .any base 23 v0) (ok1 : Value.okWide Try.prog W .any base 100 v1) (ok2 : Value.okWide Try.prog W .any base 108 v2) (d0 : DataW H) (p0 : List MemPlace) (d1 : DataW H) (p1 : List MemPlace) (d2 : DataW H) (p2 : List MemPlace) (h0 : DataW.Trod enc Try.prog W 0 (fun _ => true) true 23 v0 d0 p0) (h1 : DataW.Trod enc Try.prog W 0 (fun _ => true) true 100 v1 d1 p1) (h2 : DataW.Trod enc Try.prog W 0 (fun _ => true) true 108 v2 d2 p2) (hsz : (DataW.weightsEach Try.prog [23, 100, 108] [d0, d1, d2]).all (· ≤ reachBytes) = true) :
    CALL Try.prog 29 #[v0, v1, v2] W (fun v w' => v = .bool true ∧ Ext W w') := by
  obtain ⟨c, rfl⟩ := arg_w32 Try.underlying23 ok0 h0
  obtain ⟨l, hl, hin⟩ := arg_pieces ok1 h1
  obtain ⟨a, b, rfl, ha, hb⟩ := arg_two32 Try.underlying108 (by kernel_rfl) Try.underlying23 (by kernel_rfl) ok2 h2
  have hm : (.int .u32 (b : Int) : Value) = U32 (BitVec.ofNat 32 b) := by
    unfold U32
    congr 2
    rw [BitVec.toNat_ofNat]
    exact (Nat.mod_eq_of_lt hb).symm
  rw [hm]
  exact contTurned_run c.isLt ha _ W hl hin
end
set_option maxRecDepth 100000 in
theorem contTurned_lifted (os : Os) (started : os.Started) (H : Type) (enc : TypeId × Value → H) :
    ReturnsInHanded {} Try.checked os 29 .any (Rows.contTurnedSpec.pre6 enc Try.prog Try.f29 Rows.contTurnedRow.domain false) (Rows.contTurnedSpec.post enc Try.prog Try.f29 false true false false) := by
  refine returnsInHanded_of_change_sized (C := Try.checked) (by kernel_rfl) started (by kernel_rfl) Try.func29
    (ChangeSpec.witness6 (enc := enc) (C := Try.checked) false ⟨#[], #[(.int .u32 0), (.slice none 0 0), (.agg #[(.int .u32 0), (.int .u32 0)])], []⟩ 8 (by kernel_rfl) (by kernel_rfl) (by kernel_rfl) (by kernel_rfl)) ?_
  intro W base args ds gs before hval0 hW hcnd hsz0 _
  have hval : ∀ (j : Nat) t v, Try.f29.params[j]? = some t → args[j]? = some v → Value.okWide Try.prog W .any base t v := hval0
  have hW' := hW
  obtain ⟨p, q, hA0, hV, rfl, hfz, hnd⟩ := hW
  have hA : DataW.TrodAll enc Try.prog W 0 (fun _ => true) true Try.f29.params.toList args.toList ds p := hA0
  rw [Try.params29] at hA hval
  obtain ⟨v0, vs0, d0, ds0, p0, q0, hargs, rfl, rfl, h0, r0⟩ := trodAll_cons hA
  obtain ⟨v1, vs1, d1, ds1, p1, q1, rfl, rfl, rfl, h1, r1⟩ := trodAll_cons r0
  obtain ⟨v2, vs2, d2, ds2, p2, q2, rfl, rfl, rfl, h2, r2⟩ := trodAll_cons r1
  obtain ⟨rfl, rfl, rfl⟩ := trodAll_nil r2
  obtain rfl : args = #[v0, v1, v2] := by cases args; simp_all
  obtain ⟨rfl, rfl⟩ := trodVars_none hV
  have hsz : (DataW.weightsEach Try.prog [23, 100, 108] [d0, d1, d2]).all (· ≤ reachBytes) = true := hsz0
  have hw := contTurned_walk enc W v0 v1 v2 (hval 0 23 v0 rfl rfl) (hval 1 100 v1 rfl rfl) (hval 2 108 v2 rfl rfl) d0 p0 d1 p1 d2 p2 h0 h1 h2 hsz
  refine (CALL_calls hw).mono fun e W' he => ?_
  cases e with
  | returned v =>
    obtain ⟨rfl, hx⟩ := he
    exact ⟨_, rfl, law_post (P := Try.prog) laidOut (by kernel_rfl) rfl rfl rfl Try.underlying4 hW' hx⟩
  | panicked c => exact he.elim
  | outgrown => exact he.elim

theorem contTurned_closed : joinedFacts Try.prog 29 Try.f29 Rows.contTurnedSpec Rows.contTurnedRow = true := by
  unfold joinedFacts
  rw [mayEnter_is, liftsFinal_is, make_is]
  kernel_rfl
/-- For every input that the row lets in, cellarage/cellaragelaw11.ContTurned returns true, and what was there stays as it was. -/
theorem contTurned_holds : Rows.ContTurnedSaid :=
  OpenClaim.holds_of_wide 29 Try.f29 rfl rfl rfl rfl rfl rfl rfl ⟨rfl, rfl, rfl, rfl, rfl⟩ rfl rfl rfl rfl rfl (by kernel_rfl) Try.func29 contTurned_closed
    (of_decide_eq_true (by kernel_rfl)) (by unfold Func.isWrapper; first | (rw [if_pos (by decide +kernel)]; kernel_rfl) | (rw [if_neg (by decide +kernel)]; exact ⟨rfl, rfl⟩))
    (fun os started H enc _ => contTurned_lifted os started H enc)
#print axioms contTurned_holds
end Go.Proofs.Ytggggfcgnkllgaa
