/- cellaragelaw01.CodecShort: for every number, every text and every cut, a reader of too few bytes says so and gives nothing. -/
import Derived.Test.YtggggfcgnkllgaaShown01
import Derived.Test.YtggggfcgnkllgaaOrder
import Derived.Test.YtggggfcgnkllgaaFacts
import Derived.Test.YtggggfcgnkllgaaArgs
set_option linter.unusedVariables false
set_option linter.unusedSimpArgs false
set_option linter.constructorNameAsVariable false
namespace Go.Proofs.Ytggggfcgnkllgaa
open Go Go.Sh Go.RowKit Go.ChangeShapes Go.WideShapes Go.ChangeAt
open Go.Proofs.Ytggggfcgnkllgaa
section
attribute [local irreducible] X XU XP XR CALL loopS resC closS Value.okWide
theorem run_row70s (a : Option Addr) (n c : Nat) (a' : Option Addr) (n' c' : Nat) (w : World) : (Instr.buildSlice 70 2 #[(0, .slice a n c), (1, .slice a' n' c')]).run Try.prog w = .ok (.slice (some ⟨w.heap.size, 0, none⟩) 2 2) (newB w #[.slice a n c, .slice a' n' c'] 27) := by kernel_rfl
/-- A reader that has failed gives nothing more. -/
theorem failed_tail {v : Value} {lo hi b k : Nat} {bs : List UInt8} {w : World} {KF KT : Value → Value → Value → Value → Value → Value → Value → Value → Value → Value → Value → Value → Value → Value → Value → Value → Value → Value → Value → World → Prop} (hr : Rdr w lo hi b bs 10) (hk : bs.length = k) (hv : v = .pointer (some ⟨b, 0, none⟩)) (hK : ∀ v21 v22 v24 v25 v26 v27 v28 v29 v30 v31 v32 v33 v34 v35 v36 v37 v38 v39 v40 w1, Keep (· = b) w w1 → KT v21 v22 v24 v25 v26 v27 v28 v29 v30 v31 v32 v33 v34 v35 v36 v37 v38 v39 v40 w1) :
    CALL Try.prog 64 #[v] w fun v21 w1 => X Try.prog (binOpG .neq 30 (.tmp 57) (.const (.int .i64 10)) v21 (.int .i64 10)) w1 fun v22 w2 =>
    gstep v22 false (fun w3 K => K v w3) w2 fun v24 w4 =>
    gstep v22 false (fun w5 K => CALL Try.prog 63 #[v24] w5 K) w4 fun v25 w6 =>
    gstep v22 false (fun w7 K => K (.int .i64 (k : Int)) w7) w6 fun v26 w8 =>
    gstep v22 false (fun w9 K => X Try.prog (binOpG .neq 3 (.tmp 62) (.tmp 63) v25 v26) w9 K) w8 fun v27 w10 =>
    X Try.prog (pickS v22 (.bool true) v27) w10 fun v28 w11 =>
    gstep v28 false (fun w12 K => K v w12) w11 fun v29 w13 =>
    gstep v28 false (fun w14 K => CALL Try.prog 61 #[v29, (.int .i64 0)] w14 K) w13 fun v30 w15 =>
    gstep v28 false (fun w16 K => X Try.prog (binOpG .neq 22 (.tmp 68) (.const (.int .u64 0)) v30 (.int .u64 0)) w16 K) w15 fun v31 w17 =>
    X Try.prog (pickS v28 (.bool true) v31) w17 fun v32 w18 =>
    gstep v32 false (fun w19 K => K v w19) w18 fun v33 w20 =>
    gstep v32 false (fun w21 K => CALL Try.prog 59 #[v33, (.int .i64 9)] w21 K) w20 fun v34 w22 =>
    gstep v32 false (fun w23 K => X Try.prog (binOpG .neq 9 (.tmp 73) (.const (.string (str []))) v34 (.string (str []))) w23 K) w22 fun v35 w24 =>
    X Try.prog (pickS v32 (.bool true) v35) w24 fun v36 w25 =>
    gstep v36 false (fun w26 K => K v w26) w25 fun v37 w27 =>
    gstep v36 false (fun w28 K => CALL Try.prog 65 #[v37] w28 K) w27 fun v38 w29 =>
    gstep v36 false (fun w30 K => X Try.prog (binOpG .neq 30 (.tmp 78) (.const (.int .i64 10)) v38 (.int .i64 10)) w30 K) w29 fun v39 w31 =>
    X Try.prog (pickS v36 (.bool true) v39) w31 fun v40 w32 => condS v40 (KF v21 v22 v24 v25 v26 v27 v28 v29 v30 v31 v32 v33 v34 v35 v36 v37 v38 v39 v40 w32) (KT v21 v22 v24 v25 v26 v27 v28 v29 v30 v31 v32 v33 v34 v35 v36 v37 v38 v39 v40 w32) := by
  subst hv
  have d0 : decide ((10 : Int) ≠ 10) = false := by decide
  refine Fault_spec hr ?_
  simp only [SS, ST, d0, if_true, Bool.false_eq_true, if_false]
  refine Left_spec hr ?_
  have dk : decide (((bs.length : Nat) : Int) ≠ (k : Int)) = false := by simp; omega
  simp only [SS, ST, dk, if_true, Bool.false_eq_true, if_false]
  refine Get_spec hr ?_
  have eg : getR bs 10 0 = (0, bs, 10) := by simp [getR]
  rw [eg]
  intro w1 hk1 hr1
  have d1 : decide (((0 : Nat) : Int) ≠ 0) = false := by decide
  simp only [SS, ST, d1, if_true, Bool.false_eq_true, if_false]
  refine Text_spec hr1 (by decide) ?_
  have et : textR bs 10 9 = ([], bs, 10) := by simp [textR]
  rw [et]
  intro w2 hk2 hr2
  have d2 : decide (([] : List UInt8) ≠ []) = false := by decide
  simp only [SS, ST, str_toList, l8_bne, d2, if_true, Bool.false_eq_true, if_false]
  refine End_spec hr2 ?_
  have ee : endR bs 10 = 10 := by simp [endR]
  rw [ee]
  simp only [SS, ST, d0, if_true, Bool.false_eq_true, if_false]
  exact hK _ _ _ _ _ _ _ _ _ _ _ _ _ _ _ _ _ _ _ _ (hk1.trans hk2)
set_option maxHeartbeats 1000000 in
theorem codecShort_run {n m : Nat} {s : List UInt8} (W : World) (hn : n < 18446744073709551616) (hm : m < 65536) : CALL Try.prog 18 #[.int .u64 (n : Int), .string (str s), .int .u16 (m : Int)] W (fun v w' => v = .bool true ∧ Ext W w') := by
  apply call_law01_CodecShort
  unfold B_law01_CodecShort
  refine shown01 ?_
  intro w1 hx1
  simp only [SS, ST, str_size]
  by_cases hl : 100000 < s.length
  · rw [if_pos (by simp; omega)]
    exact ⟨trivial, hx1⟩
  rw [if_neg (by simp; omega)]
  refine Put_spec (Bts.nil _) (by simp) hn ?_
  intro v2 w2 hx2 ho2
  have hb2 := (own_bts ho2).1
  rw [List.nil_append, putB_8] at hb2
  refine PutText_spec (Bts.nil _) (by simp; omega) ?_
  intro v3 w3 hx3 ho3
  have hb3 := (own_bts ho3).1
  rw [List.nil_append] at hb3
  have hb23 := hb2.ext hx3
  obtain ⟨a2, c2, e2⟩ := Bts.slice hb23
  obtain ⟨a3, c3, e3⟩ := Bts.slice hb3
  have hrow : ∃ w4, (Instr.buildSlice 70 2 #[(0, v2), (1, v3)]).run Try.prog w3 = .ok (.slice (some ⟨w3.heap.size, 0, none⟩) 2 2) w4 ∧ w4.heap[w3.heap.size]? = some (.cells [v2, v3].toArray 27 (0, 0)) ∧ Ext w3 w4 := by
    rw [e2, e3]
    exact ⟨_, run_row70s _ _ _ _ _ _ _, newB_get _ _ _, newB_ext _ _ _⟩
  obtain ⟨w4, hrun, hrw, hx4⟩ := hrow
  refine X_of hrun ?_
  simp only [SS, ST]
  have hx14 : Ext W w4 := hx1.trans (hx2.trans (hx3.trans hx4))
  have hb2' := hb23.ext hx4
  have hb3' := hb3.ext hx4
  refine loopS_of (fun ρ wr => ∃ i : Nat, i ≤ 2 ∧ Ext w4 wr ∧ ρ 24 = .int .i64 (i : Nat) ∧ ρ 23 = .int .i64 ((2 : Nat) : Int) ∧ ρ 22 = .slice (some ⟨w3.heap.size, 0, none⟩) 2 2 ∧ ρ 1 = .string (str s) ∧ ρ 2 = .int .u16 (m : Int) ∧ ρ 7 = .bool true)
    (fun ρ wr => match ρ 24 with | .int _ s => (2 - s).toNat | _ => 0) ?_ ?_
  · exact ⟨0, by omega, Keep.refl _ _, rfl, rfl, rfl, rfl, rfl, rfl⟩
  · rintro ρ wr ⟨i, hi, hxr, h24, h23, h22, h1, h2, h7⟩
    by_cases hin : i = 2
    · subst hin
      simp only [SS, ST, h24, h23, h22, h1, h2, h7]
      rw [if_neg (by simp)]
      simp only [upds_cons, upds_nil, Nat.reduceEqDiff, if_false, h7]
      exact ⟨trivial, hx14.trans hxr⟩
    · have hsel : ∃ vi bi, [v2, v3][i]? = some vi ∧ Bts w4 vi bi ∧ 8 ≤ bi.length + 4 ∧ bi.length ≤ 200000 ∧ (i = 0 ∧ bi = be 8 n ∨ i = 1 ∧ bi = be 4 s.length ++ s) := by
        have hi2 : i = 0 ∨ i = 1 := by omega
        rcases hi2 with rfl | rfl
        · exact ⟨v2, _, rfl, hb2', by simp, by simp, .inl ⟨rfl, rfl⟩⟩
        · exact ⟨v3, _, rfl, hb3', by simp, by simp; omega, .inr ⟨rfl, rfl⟩⟩
      obtain ⟨vi, bi, hvi, hbi, hl4, hl2, hcase⟩ := hsel
      simp only [SS, ST, h24, h23, h22, h1, h2, h7]
      rw [if_pos (by simp; omega)]
      refine X_of (ix Try.underlying70 info_27 i rfl (by omega) _) ?_
      have ea : (⟨w3.heap.size, 0, none⟩ : Addr).add (i * szT Try.prog 27) = ⟨w3.heap.size, i, none⟩ := by
        rw [sz_27, Nat.mul_one, add_plain, Nat.zero_add]
      rw [ea]
      refine X_loadL agg_27 (Ext.get hxr hrw) hvi ?_
      have hbr := hbi.ext hxr
      obtain ⟨ai, ci, ei⟩ := Bts.slice hbr
      subst ei
      have dz : decide (((bi.length : Nat) : Int) = 0) = false := by simp; intro h; rw [h] at hl4; simp at hl4
      simp only [SS, ST, dz, if_true, Bool.false_eq_true, if_false]
      have em : IntKind.i64.wrap ((m : Nat) : Int) = (m : Int) := w64 (by omega) (by omega)
      rw [em]
      refine X_of (run_rem 3 .i64 _ _ (by omega) _) ?_
      obtain ⟨k, hk⟩ : ∃ k, k = m % bi.length := ⟨_, rfl⟩
      have hkl : k < bi.length := by rw [hk]; exact Nat.mod_lt _ (by omega)
      have er : ((m : Nat) : Int).tmod ((bi.length : Nat) : Int) = ((k : Nat) : Int) := by
        rw [Int.tmod_eq_emod_of_nonneg (by omega), hk]; rfl
      rw [er]
      obtain ⟨u, hu, hub, _⟩ := cut_hi Try.underlying27 info_5 hbr (kh := .i64) k rfl (by omega)
      refine X_of (hu _) ?_
      refine New_spec hub (by simp; omega) ?_
      intro b w5 hx5 hb5 hr5
      simp only [SS, ST, Option.isNone_some, Bool.false_eq_true, if_false]
      have hlk : (bi.take k).length = k := by simp; omega
      rcases hcase with ⟨rfl, rfl⟩ | ⟨rfl, rfl⟩
      · have di : decide (((0 : Nat) : Int) = 0) = true := by decide
        simp only [di, if_true]
        refine Get_spec hr5 ?_
        have hk8 : k < 8 := by simpa using hkl
        have eg : getR ((be 8 n).take k) 0 8 = (0, (be 8 n).take k, 10) := by
          have e8 : (8 : Int).toNat = 8 := rfl
          simp only [getR, e8, hlk]
          rw [if_neg (by simp), if_neg (by decide), if_pos hk8]
        rw [eg]
        intro w6 hk6 hr6
        have d1 : decide (((0 : Nat) : Int) = 0) = true := by decide
        simp only [d1, SS, ST, Bool.not_true, if_true, Bool.false_eq_true, if_false, upds_cons, upds_nil, Nat.reduceEqDiff, str_lit]
        refine failed_tail hr6 hlk rfl ?_
        intro x0 x1 x2 x3 x4 x5 x6 x7 x8 x9 x10 x11 x12 x13 x14 x15 x16 x17 x18 w7 hk7
        simp only [h24, SS, ST]
        show _ ∧ _
        refine ⟨⟨1, by omega, Ext.seq (hxr.trans hx5) (hk6.trans hk7) (fun j hj => by subst hj; exact Nat.le_trans hxr.size hb5), next64 (i := 0) (n := 2) (by decide) (by omega), h23, h22, h1, h2, h7⟩, ?_⟩
        show (_ - IntKind.i64.wrap _).toNat < _
        rw [w64 (by omega) (by omega)]
        omega
      · have di : decide (((1 : Nat) : Int) = 0) = false := by decide
        simp only [di, Bool.false_eq_true, if_false]
        refine Text_spec hr5 (by rw [str_size]; omega) ?_
        have hlb : (be 4 s.length ++ s).length = 4 + s.length := by simp
        have et : textR ((be 4 s.length ++ s).take k) 0 ((str s).size : Int) = ([], (be 4 s.length ++ s).take k, 10) := by
          unfold textR
          rw [if_neg (by simp), hlk]
          by_cases h4 : k < 4
          · rw [if_pos h4]
          · rw [if_neg h4]
            have t4 : ((be 4 s.length ++ s).take k).take 4 = be 4 s.length := by
              rw [List.take_take, Nat.min_eq_left (by omega), List.take_append_of_le_length (by simp), List.take_of_length_le (by simp)]
            have nn : num (be 4 s.length) = s.length := by rw [num_be, Nat.mod_eq_of_lt (by omega)]
            rw [t4, nn, str_size, if_neg (by omega), if_pos (by simp; omega)]
        rw [et]
        intro w6 hk6 hr6
        have d2 : decide (([] : List UInt8) = []) = true := by decide
        simp only [str_lit, str_toList, l8_beq, d2, SS, ST, Bool.not_true, if_true, Bool.false_eq_true, if_false, upds_cons, upds_nil, Nat.reduceEqDiff]
        refine failed_tail hr6 hlk rfl ?_
        intro x0 x1 x2 x3 x4 x5 x6 x7 x8 x9 x10 x11 x12 x13 x14 x15 x16 x17 x18 w7 hk7
        simp only [h24, SS, ST]
        show _ ∧ _
        refine ⟨⟨2, by omega, Ext.seq (hxr.trans hx5) (hk6.trans hk7) (fun j hj => by subst hj; exact Nat.le_trans hxr.size hb5), next64 (i := 1) (n := 2) (by decide) (by omega), h23, h22, h1, h2, h7⟩, ?_⟩
        show (_ - IntKind.i64.wrap _).toNat < _
        rw [w64 (by omega) (by omega)]
        omega
theorem codecShort_walk {H : Type} (enc : TypeId × Value → H) (W : World) (v0 v1 v2 : Value) {base : Nat} (ok0 : Value.okWide Try.prog W .any base 22 v0) (ok1 : Value.okWide Try.prog W .any base 9 v1) (ok2 : Value.okWide Try.prog W .any base 69 v2) (d0 : DataW H) (p0 : List MemPlace) (d1 : DataW H) (p1 : List MemPlace) (d2 : DataW H) (p2 : List MemPlace) (h0 : DataW.Trod enc Try.prog W 0 (fun _ => true) true 22 v0 d0 p0) (h1 : DataW.Trod enc Try.prog W 0 (fun _ => true) true 9 v1 d1 p1) (h2 : DataW.Trod enc Try.prog W 0 (fun _ => true) true 69 v2 d2 p2) (hsz : (DataW.weightsEach Try.prog [22, 9, 69] [d0, d1, d2]).all (· ≤ reachBytes) = true) :
    CALL Try.prog 18 #[v0, v1, v2] W (fun v w' => v = .bool true ∧ Ext W w') := by
  obtain ⟨n, rfl, hn⟩ := arg_u64 Try.underlying22 ok0 h0
  obtain ⟨s, rfl, hs⟩ := arg_string Try.underlying9 ok1 h1 hsz rfl rfl (j := 1)
  obtain ⟨m, rfl, hm⟩ := arg_u16 Try.underlying69 ok2 h2
  exact codecShort_run W hn hm
end
set_option maxRecDepth 100000 in
theorem codecShort_lifted (os : Os) (started : os.Started) (H : Type) (enc : TypeId × Value → H) :
    ReturnsInHanded {} Try.checked os 18 .any (Rows.codecShortSpec.pre6 enc Try.prog Try.f18 Rows.codecShortRow.domain false) (Rows.codecShortSpec.post enc Try.prog Try.f18 false true false false) := by
  refine returnsInHanded_of_change_sized (C := Try.checked) (by kernel_rfl) started (by kernel_rfl) Try.func18
    (ChangeSpec.witness6 (enc := enc) (C := Try.checked) false ⟨#[], #[(.int .u64 0), (.string { data := #[] }), (.int .u16 0)], []⟩ 8 (by kernel_rfl) (by kernel_rfl) (by kernel_rfl) (by kernel_rfl)) ?_
  intro W base args ds gs before hval0 hW hcnd hsz0 _
  have hval : ∀ (j : Nat) t v, Try.f18.params[j]? = some t → args[j]? = some v → Value.okWide Try.prog W .any base t v := hval0
  have hW' := hW
  obtain ⟨p, q, hA0, hV, rfl, hfz, hnd⟩ := hW
  have hA : DataW.TrodAll enc Try.prog W 0 (fun _ => true) true Try.f18.params.toList args.toList ds p := hA0
  rw [Try.params18] at hA hval
  obtain ⟨v0, vs0, d0, ds0, p0, q0, hargs, rfl, rfl, h0, r0⟩ := trodAll_cons hA
  obtain ⟨v1, vs1, d1, ds1, p1, q1, rfl, rfl, rfl, h1, r1⟩ := trodAll_cons r0
  obtain ⟨v2, vs2, d2, ds2, p2, q2, rfl, rfl, rfl, h2, r2⟩ := trodAll_cons r1
  obtain ⟨rfl, rfl, rfl⟩ := trodAll_nil r2
  obtain rfl : args = #[v0, v1, v2] := by cases args; simp_all
  obtain ⟨rfl, rfl⟩ := trodVars_none hV
  have hsz : (DataW.weightsEach Try.prog [22, 9, 69] [d0, d1, d2]).all (· ≤ reachBytes) = true := hsz0
  have hw := codecShort_walk enc W v0 v1 v2 (hval 0 22 v0 rfl rfl) (hval 1 9 v1 rfl rfl) (hval 2 69 v2 rfl rfl) d0 p0 d1 p1 d2 p2 h0 h1 h2 hsz
  refine (CALL_calls hw).mono fun e W' he => ?_
  cases e with
  | returned v =>
    obtain ⟨rfl, hx⟩ := he
    exact ⟨_, rfl, law_post (P := Try.prog) laidOut (by kernel_rfl) rfl rfl rfl Try.underlying4 hW' hx⟩
  | panicked c => exact he.elim
  | outgrown => exact he.elim

theorem codecShort_closed : joinedFacts Try.prog 18 Try.f18 Rows.codecShortSpec Rows.codecShortRow = true := by
  unfold joinedFacts
  rw [mayEnter_is, liftsFinal_is, make_is]
  kernel_rfl
/-- For every input that the row lets in, cellarage/cellaragelaw01.CodecShort returns true, and what was there stays as it was. -/
theorem codecShort_holds : Rows.CodecShortSaid :=
  OpenClaim.holds_of_wide 18 Try.f18 rfl rfl rfl rfl rfl rfl rfl ⟨rfl, rfl, rfl, rfl, rfl⟩ rfl rfl rfl rfl rfl (by kernel_rfl) Try.func18 codecShort_closed
    (of_decide_eq_true (by kernel_rfl)) (by unfold Func.isWrapper; first | (rw [if_pos (by decide +kernel)]; kernel_rfl) | (rw [if_neg (by decide +kernel)]; exact ⟨rfl, rfl⟩))
    (fun os started H enc _ => codecShort_lifted os started H enc)
#print axioms codecShort_holds
end Go.Proofs.Ytggggfcgnkllgaa
