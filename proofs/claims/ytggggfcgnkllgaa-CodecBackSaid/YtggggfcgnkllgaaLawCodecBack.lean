/- cellaragelaw01.CodecBack: for every numbers, texts and one more number's width, what was put is read back. -/
import Derived.Test.YtggggfcgnkllgaaShown01
import Derived.Test.YtggggfcgnkllgaaOrder
import Derived.Test.YtggggfcgnkllgaaRow
import Derived.Test.YtggggfcgnkllgaaFacts
import Derived.Test.YtggggfcgnkllgaaArgs
set_option linter.unusedVariables false
set_option linter.unusedSimpArgs false
set_option linter.constructorNameAsVariable false
namespace Go.Proofs.Ytggggfcgnkllgaa
open Go Go.Sh Go.RowKit Go.ChangeShapes Go.WideShapes Go.ChangeAt
open Go.Proofs.Ytggggfcgnkllgaa
section
attribute [local irreducible] X XU XP XR CALL loopS resC closS Value.okWide
def encN (l : List Nat) : List UInt8 := (l.map (be 8)).flatten
def encS (l : List (List UInt8)) : List UInt8 := (l.map fun s => be 4 s.length ++ s).flatten
theorem encN_len (l : List Nat) : (encN l).length = 8 * l.length := by
  induction l with
  | nil => rfl
  | cons a l ih => simp [encN] at ih ⊢; omega
theorem encS_len (l : List (List UInt8)) (h : ∀ s ∈ l, s.length ≤ 10000) : (encS l).length ≤ 10004 * l.length := by
  induction l with
  | nil => simp [encS]
  | cons a l ih =>
    have h1 := ih (fun s hs => h s (by simp [hs]))
    have h2 := h a (by simp)
    simp [encS] at h1 ⊢
    omega
theorem encN_snoc (l : List Nat) (i : Nat) (h : i < l.length) : encN (l.take (i + 1)) = encN (l.take i) ++ be 8 l[i] := by
  rw [List.take_add_one, List.getElem?_eq_getElem h]
  unfold encN
  rw [List.map_append, List.flatten_append]
  simp only [Option.toList_some, List.map_cons, List.map_nil, List.flatten_cons, List.flatten_nil, List.append_nil]
theorem encS_snoc (l : List (List UInt8)) (i : Nat) (h : i < l.length) : encS (l.take (i + 1)) = encS (l.take i) ++ (be 4 l[i].length ++ l[i]) := by
  rw [List.take_add_one, List.getElem?_eq_getElem h]
  unfold encS
  rw [List.map_append, List.flatten_append]
  simp only [Option.toList_some, List.map_cons, List.map_nil, List.flatten_cons, List.flatten_nil, List.append_nil]
theorem take_snoc {α : Type} (l : List α) (i : Nat) (h : i < l.length) : l.take (i + 1) = l.take i ++ [l[i]] := by
  rw [List.take_add_one, List.getElem?_eq_getElem h]
  rfl
theorem encN_drop (l : List Nat) (i : Nat) (h : i < l.length) : encN (l.drop i) = be 8 l[i] ++ encN (l.drop (i + 1)) := by
  rw [List.drop_eq_getElem_cons h]
  rfl
theorem encS_drop (l : List (List UInt8)) (i : Nat) (h : i < l.length) : encS (l.drop i) = be 4 l[i].length ++ (l[i] ++ encS (l.drop (i + 1))) := by
  rw [List.drop_eq_getElem_cons h]
  unfold encS
  rw [List.map_cons, List.flatten_cons, List.append_assoc]
theorem getR8 (n : Nat) (r : List UInt8) (h : n < 18446744073709551616) : getR (be 8 n ++ r) 0 8 = (n, r, 0) := by
  have e8 : (8 : Int).toNat = 8 := rfl
  unfold getR
  rw [if_neg (by simp), if_neg (by decide), e8, if_neg (by simp), List.take_append_of_le_length (by simp), List.take_of_length_le (by simp), List.drop_append_of_le_length (by simp), List.drop_eq_nil_of_le (by simp), num_be, Nat.mod_eq_of_lt (by simpa using h), List.nil_append]
theorem textR_full (s r : List UInt8) (h : s.length ≤ 10000) : textR (be 4 s.length ++ (s ++ r)) 0 (s.length : Int) = (s, r, 0) := by
  have t4 : (be 4 s.length ++ (s ++ r)).take 4 = be 4 s.length := by rw [List.take_append_of_le_length (by simp), List.take_of_length_le (by simp)]
  have d4 : (be 4 s.length ++ (s ++ r)).drop 4 = s ++ r := by rw [List.drop_append_of_le_length (by simp), List.drop_eq_nil_of_le (by simp), List.nil_append]
  have nn : num (be 4 s.length) = s.length := by rw [num_be, Nat.mod_eq_of_lt (by omega)]
  unfold textR
  rw [if_neg (by simp), if_neg (by simp), t4, nn, d4, if_neg (by omega), if_neg (by simp), List.take_append_of_le_length (Nat.le_refl _), List.take_length, List.drop_append_of_le_length (Nat.le_refl _), List.drop_length, List.nil_append]
theorem last_get (k : Nat) (hk : k ≤ 8) : getR (putB 9223372036854775813 (k : Int)) 0 (k : Int) = (9223372036854775813 % 256 ^ k, [], 0) := by
  have hc : clamp8 (k : Int) = k := by unfold clamp8; omega
  have ht : ((k : Int)).toNat = k := by omega
  unfold getR putB
  rw [if_neg (by simp), if_neg (by omega), hc, ht, if_neg (by simp), List.take_of_length_le (by simp), List.drop_eq_nil_of_le (by simp), num_be]
theorem last_zero (k : Nat) (hk : k ≤ 8) : decide (((k : Nat) : Int) = 0) = decide (((9223372036854775813 % 256 ^ k : Nat) : Int) = 0) := by
  have h : k = 0 ∨ k = 1 ∨ k = 2 ∨ k = 3 ∨ k = 4 ∨ k = 5 ∨ k = 6 ∨ k = 7 ∨ k = 8 := by omega
  rcases h with rfl | rfl | rfl | rfl | rfl | rfl | rfl | rfl | rfl <;> decide
theorem codecBack_run {v0 v1 : Value} {ns0 : List Nat} {ss0 : List (List UInt8)} {n : Nat} (W : World) (h0 : Row fU64 W v0 ns0) (g0 : ∀ x ∈ ns0, x < 18446744073709551616) (h1 : Row fStr W v1 ss0) (hn : n < 256) :
    CALL Try.prog 17 #[v0, v1, .int .u8 (n : Int)] W (fun v w' => v = .bool true ∧ Ext W w') := by
  obtain ⟨a0, c0, e⟩ := Row.slice h0
  subst e
  obtain ⟨a1, c1, e⟩ := Row.slice h1
  subst e
  apply call_law01_CodecBack
  unfold B_law01_CodecBack
  refine shown01 ?_
  intro w1 hx1
  refine ⟨Ext, Ext.frame, ?_⟩
  simp only [SS, ST]
  obtain ⟨k0, hk0⟩ : ∃ k : Nat, k = min ns0.length 100 := ⟨_, rfl⟩
  obtain ⟨k1, hk1⟩ : ∃ k : Nat, k = min ss0.length 100 := ⟨_, rfl⟩
  have e0 : min (ns0.length : Int) 100 = (k0 : Int) := by omega
  have e1 : min (ss0.length : Int) 100 = (k1 : Int) := by omega
  rw [e0, e1]
  have hxd : Ext W (drewW w1) := hx1.trans (Keep.drew _ w1)
  obtain ⟨u0, hu0, hr0⟩ := Row.cut Try.underlying65 info_22 (h0.ext hxd) (kh := .i64) k0 rfl (by omega)
  obtain ⟨u1, hu1, hr1⟩ := Row.cut Try.underlying66 info_9 (h1.ext hxd) (kh := .i64) k1 rfl (by omega)
  refine XP_of hu0 ?_
  refine XP_of hu1 ?_
  have gn : ∀ x ∈ ns0.take k0, x < 18446744073709551616 := fun x hx => g0 x (List.mem_of_mem_take hx)
  have ln : (ns0.take k0).length = k0 := by simp; omega
  have ls : (ss0.take k1).length = k1 := by simp; omega
  generalize ns0.take k0 = ns at hr0 gn ln
  generalize ss0.take k1 = ss at hr1 ls
  obtain ⟨b0, d0, e⟩ := Row.slice hr0
  subst e
  obtain ⟨b1, d1, e⟩ := Row.slice hr1
  subst e
  generalize drewW w1 = w2 at hr0 hr1 hxd ⊢
  simp only [SS, ST]
  have hk100 : k0 ≤ 100 := by omega
  have hk101 : k1 ≤ 100 := by omega
  refine loopS_of (fun ρ wr => ∃ (i : Nat) (v : Value), i ≤ k0 ∧ Ext w2 wr ∧ Bts wr v (encN (ns.take i)) ∧ ρ 31 = .int .i64 (i : Nat) ∧ ρ 30 = .int .i64 (ns.length : Nat) ∧ ρ 8 = .slice b0 ns.length d0 ∧ ρ 9 = .slice b1 ss.length d1 ∧ ρ 10 = v ∧ ρ 7 = .bool true ∧ ρ 2 = .int .u8 (n : Int))
    (fun ρ wr => match ρ 31 with | .int _ s => (k0 - s).toNat | _ => 0) ?_ ?_
  · exact ⟨0, _, by omega, Keep.refl _ _, Bts.nil _, rfl, rfl, rfl, rfl, rfl, rfl, rfl⟩
  rintro ρ wr ⟨i, v, hi, hxr, hbv, h31, h30, h8, h9, h10, h7, h2⟩
  by_cases hin : i = k0
  case neg =>
    simp only [SS, ST, h31, h30, h8, h9, h10, h7, h2]
    rw [if_pos (by simp; omega)]
    obtain ⟨ad, hix, hcell⟩ := Row.at Try.underlying65 info_22 sz_22 (hr0.ext hxr) (k := .i64) i rfl (by omega)
    refine X_of (hix _) ?_
    refine X_load agg_22 hcell ?_
    have hlen : (encN (ns.take i)).length ≤ 800 := by rw [encN_len]; simp; omega
    refine Put_spec hbv (by omega) (gn _ (List.getElem_mem _)) ?_
    intro v' w3 hx3 ho3
    have hb3 := (own_bts ho3).1
    rw [putB_8, ← encN_snoc ns i (by omega)] at hb3
    show _ ∧ _
    refine ⟨⟨i + 1, v', by omega, hxr.trans hx3, hb3, next64 (n := 100) (by decide) (by omega), h30, h8, h9, rfl, h7, h2⟩, ?_⟩
    show (_ - IntKind.i64.wrap _).toNat < _
    rw [w64 (by omega) (by omega)]
    omega
  case pos =>
    subst hin
    simp only [SS, ST, h31, h30, h8, h9, h10, h7, h2]
    rw [if_neg (by simp; omega)]
    simp only [upds_cons, upds_nil, Nat.reduceEqDiff, if_false, h9, SS, ST]
    rw [List.take_of_length_le (by omega)] at hbv
    have hlenN : (encN ns).length ≤ 800 := by rw [encN_len]; omega
    refine loopS_of (fun ρ' wr' => ∃ (j : Nat) (v' : Value), j ≤ k1 ∧ Ext w2 wr' ∧ Bts wr' v' (encN ns ++ encS (ss.take j)) ∧ (∀ x ∈ ss.take j, x.length ≤ 10000) ∧ ρ' 43 = .int .i64 (j : Nat) ∧ ρ' 42 = .int .i64 (ss.length : Nat) ∧ ρ' 8 = .slice b0 ns.length d0 ∧ ρ' 9 = .slice b1 ss.length d1 ∧ ρ' 10 = v' ∧ ρ' 7 = .bool true ∧ ρ' 2 = .int .u8 (n : Int))
      (fun ρ wr => match ρ 43 with | .int _ s => (k1 - s).toNat | _ => 0) ?_ ?_
    · exact ⟨0, v, by omega, hxr, by simpa [encS] using hbv, by simp, rfl, rfl, h8, h9, h10, h7, h2⟩
    rintro ρ' wr' ⟨j, v', hj, hxr', hbv', hsm, h43, h42, h8', h9', h10', h7', h2'⟩
    have hS := encS_len (ss.take j) hsm
    have hlt : (ss.take j).length ≤ 100 := by simp; omega
    have hlenS : (encN ns ++ encS (ss.take j)).length ≤ 1002000 := by rw [List.length_append]; omega
    by_cases hjn : j = k1
    case neg =>
      simp only [SS, ST, h43, h42, h8', h9', h10', h7', h2']
      rw [if_pos (by simp; omega)]
      obtain ⟨ad, hix, hcell⟩ := Row.at Try.underlying66 info_9 sz_9 (hr1.ext hxr') (k := .i64) j rfl (by omega)
      refine X_of (hix _) ?_
      refine X_load agg_9 hcell ?_
      simp only [fStr, SS, ST, str_size]
      by_cases hbig : 10000 < (ss[j]).length
      · rw [if_pos (by simp; omega)]
        exact ⟨rfl, hxd.trans hxr'⟩
      · rw [if_neg (by simp; omega)]
        refine X_of (hix _) ?_
        refine X_load agg_9 hcell ?_
        refine PutText_spec hbv' (by omega) ?_
        intro v3 w3 hx3 ho3
        have hb3 := (own_bts ho3).1
        rw [List.append_assoc, ← encS_snoc ss j (by omega)] at hb3
        show _ ∧ _
        refine ⟨⟨j + 1, v3, by omega, hxr'.trans hx3, hb3, ?_, next64 (n := 100) (by decide) (by omega), h42, h8', h9', rfl, h7', h2'⟩, ?_⟩
        · intro x hx
          rw [take_snoc ss j (by omega)] at hx
          rcases List.mem_append.1 hx with hx | hx
          · exact hsm x hx
          · simp at hx; subst hx; omega
        · show (_ - IntKind.i64.wrap _).toNat < _
          rw [w64 (by omega) (by omega)]
          omega
    case pos =>
      subst hjn
      simp only [SS, ST, h43, h42, h8', h9', h10', h7', h2']
      rw [if_neg (by simp; omega)]
      simp only [upds_cons, upds_nil, Nat.reduceEqDiff, if_false, h8', h9', h10', h7', h2', SS, ST]
      rw [List.take_of_length_le (by omega)] at hbv' hsm hlenS
      refine X_of (run_rem 5 .u8 _ 9 (by decide) _) ?_
      obtain ⟨k, hk⟩ : ∃ k, k = n % 9 := ⟨_, rfl⟩
      have hk8 : k ≤ 8 := by omega
      have er : ((n : Nat) : Int).tmod 9 = ((k : Nat) : Int) := by
        rw [Int.tmod_eq_emod_of_nonneg (by omega)]
        omega
      rw [er]
      simp only [SS, ST]
      rw [w64 (x := ((k : Nat) : Int)) (by omega) (by omega)]
      refine Put_spec (n := 9223372036854775813) hbv' (by omega) (by decide) ?_
      intro v3 w3 hx3 ho3
      have hb3 := (own_bts ho3).1
      have hpl : (putB 9223372036854775813 (k : Int)).length ≤ 8 := by
        unfold putB clamp8
        simp
        omega
      refine New_spec hb3 (by rw [List.length_append]; omega) ?_
      intro b w4 hx4 hb4 hr4
      simp only [SS, ST, Option.isNone_some, Bool.false_eq_true, if_false]
      have hx24 : Ext w2 w4 := hxr'.trans (hx3.trans hx4)
      have hb2 : w2.heap.size ≤ b := by
        have := hxr'.size
        have := hx3.size
        omega
      have hne : ∀ {a : Addr} {x : Value}, w2.cell? a = some x → ¬ a.block = b := fun h e => by
        have := World.block_lt_of_cell? w2 _ h
        omega
      generalize w3.heap.size = lo at hr4
      generalize w4.heap.size = hi at hr4
      generalize hlast : putB 9223372036854775813 (k : Int) = last at hr4 hpl
      rw [List.append_assoc] at hr4
      refine loopS_of (fun σ wr => ∃ i : Nat, i ≤ ns.length ∧ Ext w2 wr ∧ Rdr wr lo hi b (encN (ns.drop i) ++ (encS ss ++ last)) 0 ∧ σ 72 = .int .i64 (i : Nat) ∧ σ 71 = .int .i64 (ns.length : Nat) ∧ σ 8 = .slice b0 ns.length d0 ∧ σ 9 = .slice b1 ss.length d1 ∧ σ 14 = .pointer (some ⟨b, 0, none⟩) ∧ σ 13 = .int .i64 (k : Int) ∧ σ 7 = .bool true)
        (fun ρ wr => match ρ 72 with | .int _ s => (ns.length - s).toNat | _ => 0) ?_ ?_
      · exact ⟨0, by omega, hx24, hr4, rfl, rfl, h8', h9', rfl, rfl, h7'⟩
      rintro σ w5 ⟨i, hi5, hx5, hr5, s72, s71, s8, s9, s14, s13, s7⟩
      by_cases hin5 : i = ns.length
      case neg =>
        simp only [SS, ST, s72, s71, s8, s9, s14, s13, s7]
        rw [if_pos (by simp; omega)]
        refine ⟨Keep (· = b), Keep.frame _, ?_⟩
        obtain ⟨ad, hix, hcell⟩ := Row.at Try.underlying65 info_22 sz_22 hr0 (k := .i64) i rfl (by omega)
        have hcd := (Keep.drew (fun _ => False) w5).cell (fun h => h) (hx5.cell (fun h => h) hcell)
        refine XP_of hix ?_
        refine XR_ok (Keep.frame _) (fun w' kx => run_loadAt agg_22 (kx.cell (hne hcell) hcd)) ?_
        rw [encN_drop ns i (by omega), List.append_assoc] at hr5
        refine Get_spec (hr5.ext (Keep.drew _ w5)) ?_
        rw [getR8 _ _ (gn _ (List.getElem_mem _))]
        intro w6 hk6 hr6
        refine ⟨hk6, ?_⟩
        have dn : decide (((ns[i] : Nat) : Int) ≠ ((ns[i] : Nat) : Int)) = false := by simp
        simp only [fU64, SS, ST, dn, Bool.false_eq_true, if_false]
        show _ ∧ _
        refine ⟨⟨i + 1, by omega, Ext.seq (hx5.trans (Keep.drew _ w5)) hk6 (fun j hj => by omega), hr6, next64 (n := 100) (by decide) (by omega), s71, s8, s9, s14, s13, s7⟩, ?_⟩
        show (_ - IntKind.i64.wrap _).toNat < _
        rw [w64 (by omega) (by omega)]
        omega
      case pos =>
        subst hin5
        simp only [SS, ST, s72, s71, s8, s9, s14, s13, s7]
        rw [if_neg (by simp)]
        simp only [upds_cons, upds_nil, Nat.reduceEqDiff, if_false, s8, s9, s14, s13, s7, SS, ST]
        rw [List.drop_length] at hr5
        have hr5' : Rdr w5 lo hi b (encS ss ++ last) 0 := hr5
        refine loopS_of (fun σ wr => ∃ i : Nat, i ≤ ss.length ∧ Ext w2 wr ∧ Rdr wr lo hi b (encS (ss.drop i) ++ last) 0 ∧ σ 85 = .int .i64 (i : Nat) ∧ σ 84 = .int .i64 (ss.length : Nat) ∧ σ 9 = .slice b1 ss.length d1 ∧ σ 14 = .pointer (some ⟨b, 0, none⟩) ∧ σ 13 = .int .i64 (k : Int) ∧ σ 7 = .bool true)
          (fun ρ wr => match ρ 85 with | .int _ s => (ss.length - s).toNat | _ => 0) ?_ ?_
        · exact ⟨0, by omega, hx5, hr5', rfl, rfl, s9, s14, s13, s7⟩
        rintro τ w6 ⟨i, hi6, hx6, hr6, t85, t84, t9, t14, t13, t7⟩
        by_cases hin6 : i = ss.length
        case neg =>
          simp only [SS, ST, t85, t84, t9, t14, t13, t7]
          rw [if_pos (by simp; omega)]
          refine ⟨Keep (· = b), Keep.frame _, ?_⟩
          obtain ⟨ad, hix, hcell⟩ := Row.at Try.underlying66 info_9 sz_9 hr1 (k := .i64) i rfl (by omega)
          have hcd := (Keep.drew (fun _ => False) w6).cell (fun h => h) (hx6.cell (fun h => h) hcell)
          refine XP_of hix ?_
          refine XR_ok (Keep.frame _) (fun w' kx => run_loadAt agg_9 (kx.cell (hne hcell) hcd)) ?_
          simp only [fStr, SS, ST, str_size]
          refine XP_of hix ?_
          refine XR_ok (Keep.frame _) (fun w' kx => run_loadAt agg_9 (kx.cell (hne hcell) hcd)) ?_
          have hsi : (ss[i]).length ≤ 10000 := hsm _ (List.getElem_mem _)
          rw [encS_drop ss i (by omega), List.append_assoc, List.append_assoc] at hr6
          refine Text_spec (hr6.ext (Keep.drew _ w6)) (by omega) ?_
          rw [textR_full _ _ hsi]
          intro w7 hk7 hr7
          refine ⟨hk7, ?_⟩
          have dn : decide (ss[i] ≠ ss[i]) = false := by simp
          simp only [fStr, SS, ST, str_toList, l8_bne, dn, Bool.false_eq_true, if_false]
          show _ ∧ _
          refine ⟨⟨i + 1, by omega, Ext.seq (hx6.trans (Keep.drew _ w6)) hk7 (fun j hj => by omega), hr7, next64 (n := 100) (by decide) (by omega), t84, t9, t14, t13, t7⟩, ?_⟩
          show (_ - IntKind.i64.wrap _).toNat < _
          rw [w64 (by omega) (by omega)]
          omega
        case pos =>
          subst hin6
          simp only [SS, ST, t85, t84, t9, t14, t13, t7]
          rw [if_neg (by simp)]
          simp only [upds_cons, upds_nil, Nat.reduceEqDiff, if_false, t9, t14, t13, t7, SS, ST]
          rw [List.drop_length] at hr6
          have hr6' : Rdr w6 lo hi b last 0 := hr6
          refine Get_spec hr6' ?_
          rw [← hlast, last_get k hk8]
          intro w7 hk7 hr7
          simp only [SS, ST, if_true]
          refine End_spec hr7 ?_
          have ee : endR [] 0 = 0 := rfl
          rw [ee]
          have dz : decide ((0 : Int) = 0) = true := by decide
          have hlz := last_zero k hk8
          simp only [dz, hlz, SS, ST, if_true]
          refine ⟨?_, hxd.trans (Ext.seq hx6 hk7 (fun j hj => by omega))⟩
          simp
theorem codecBack_walk {H : Type} (enc : TypeId × Value → H) (W : World) (v0 v1 v2 : Value) {base : Nat} (ok0 : Value.okWide Try.prog W .any base 65 v0) (ok1 : Value.okWide Try.prog W .any base 66 v1) (ok2 : Value.okWide Try.prog W .any base 5 v2) (d0 : DataW H) (p0 : List MemPlace) (d1 : DataW H) (p1 : List MemPlace) (d2 : DataW H) (p2 : List MemPlace) (h0 : DataW.Trod enc Try.prog W 0 (fun _ => true) true 65 v0 d0 p0) (h1 : DataW.Trod enc Try.prog W 0 (fun _ => true) true 66 v1 d1 p1) (h2 : DataW.Trod enc Try.prog W 0 (fun _ => true) true 5 v2 d2 p2) (hsz : (DataW.weightsEach Try.prog [65, 66, 5] [d0, d1, d2]).all (· ≤ reachBytes) = true) :
    CALL Try.prog 17 #[v0, v1, v2] W (fun v w' => v = .bool true ∧ Ext W w') := by
  obtain ⟨ns, hr0, g0⟩ := arg_u64s Try.underlying65 Try.underlying22 (by kernel_rfl) ok0 h0
  obtain ⟨ss, hr1, g1⟩ := arg_strs Try.underlying66 Try.underlying9 (by kernel_rfl) ok1 h1
  obtain ⟨n, rfl, hn⟩ := arg_u8 Try.underlying5 ok2 h2
  exact codecBack_run W hr0 g0 hr1 hn
end
set_option maxRecDepth 100000 in
theorem codecBack_lifted (os : Os) (started : os.Started) (H : Type) (enc : TypeId × Value → H) :
    ReturnsInHanded {} Try.checked os 17 .any (Rows.codecBackSpec.pre6 enc Try.prog Try.f17 Rows.codecBackRow.domain false) (Rows.codecBackSpec.post enc Try.prog Try.f17 false true false false) := by
  refine returnsInHanded_of_change_sized (C := Try.checked) (by kernel_rfl) started (by kernel_rfl) Try.func17
    (ChangeSpec.witness6 (enc := enc) (C := Try.checked) false ⟨#[], #[(.slice none 0 0), (.slice none 0 0), (.int .u8 0)], []⟩ 8 (by kernel_rfl) (by kernel_rfl) (by kernel_rfl) (by kernel_rfl)) ?_
  intro W base args ds gs before hval0 hW hcnd hsz0 _
  have hval : ∀ (j : Nat) t v, Try.f17.params[j]? = some t → args[j]? = some v → Value.okWide Try.prog W .any base t v := hval0
  have hW' := hW
  obtain ⟨p, q, hA0, hV, rfl, hfz, hnd⟩ := hW
  have hA : DataW.TrodAll enc Try.prog W 0 (fun _ => true) true Try.f17.params.toList args.toList ds p := hA0
  rw [Try.params17] at hA hval
  obtain ⟨v0, vs0, d0, ds0, p0, q0, hargs, rfl, rfl, h0, r0⟩ := trodAll_cons hA
  obtain ⟨v1, vs1, d1, ds1, p1, q1, rfl, rfl, rfl, h1, r1⟩ := trodAll_cons r0
  obtain ⟨v2, vs2, d2, ds2, p2, q2, rfl, rfl, rfl, h2, r2⟩ := trodAll_cons r1
  obtain ⟨rfl, rfl, rfl⟩ := trodAll_nil r2
  obtain rfl : args = #[v0, v1, v2] := by cases args; simp_all
  obtain ⟨rfl, rfl⟩ := trodVars_none hV
  have hsz : (DataW.weightsEach Try.prog [65, 66, 5] [d0, d1, d2]).all (· ≤ reachBytes) = true := hsz0
  have hw := codecBack_walk enc W v0 v1 v2 (hval 0 65 v0 rfl rfl) (hval 1 66 v1 rfl rfl) (hval 2 5 v2 rfl rfl) d0 p0 d1 p1 d2 p2 h0 h1 h2 hsz
  refine (CALL_calls hw).mono fun e W' he => ?_
  cases e with
  | returned v =>
    obtain ⟨rfl, hx⟩ := he
    exact ⟨_, rfl, law_post (P := Try.prog) laidOut (by kernel_rfl) rfl rfl rfl Try.underlying4 hW' hx⟩
  | panicked c => exact he.elim
  | outgrown => exact he.elim

theorem codecBack_closed : joinedFacts Try.prog 17 Try.f17 Rows.codecBackSpec Rows.codecBackRow = true := by
  unfold joinedFacts
  rw [mayEnter_is, liftsFinal_is, make_is]
  kernel_rfl
/-- For every input that the row lets in, cellarage/cellaragelaw01.CodecBack returns true, and what was there stays as it was. -/
theorem codecBack_holds : Rows.CodecBackSaid :=
  OpenClaim.holds_of_wide 17 Try.f17 rfl rfl rfl rfl rfl rfl rfl ⟨rfl, rfl, rfl, rfl, rfl⟩ rfl rfl rfl rfl rfl (by kernel_rfl) Try.func17 codecBack_closed
    (of_decide_eq_true (by kernel_rfl)) (by unfold Func.isWrapper; first | (rw [if_pos (by decide +kernel)]; kernel_rfl) | (rw [if_neg (by decide +kernel)]; exact ⟨rfl, rfl⟩))
    (fun os started H enc _ => codecBack_lifted os started H enc)
#print axioms codecBack_holds
end Go.Proofs.Ytggggfcgnkllgaa
