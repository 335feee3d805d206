/- cellaragelaw08.DiskPlays: for every number of sectors and every acts, all that can be seen of the disk is the reference's. -/
import Derived.Test.YtggggfcgnkllgaaAlike
import Derived.Test.YtggggfcgnkllgaaT9
import Derived.Test.YtggggfcgnkllgaaFacts
import Derived.Test.YtggggfcgnkllgaaArgs
set_option linter.unusedVariables false
set_option linter.unusedSimpArgs false
set_option linter.constructorNameAsVariable false
namespace Go.Proofs.Ytggggfcgnkllgaa
open Go Go.Sh Go.RowKit Go.ChangeShapes Go.WideShapes Go.ChangeAt
open Go.Proofs.Ytggggfcgnkllgaa
section
attribute [local irreducible] X XU XP XR CALL loopS resC closS Value.okWide
theorem lit_gone (w : World) : (Instr.buildSlice 27 4 #[(0, (.int .u8 103)), (1, (.int .u8 111)), (2, (.int .u8 110)), (3, (.int .u8 101))]).run Try.prog w = .ok (.slice (some ⟨w.heap.size, 0, none⟩) 4 4) (newB w (B8 [103, 111, 110, 101]).toArray 5) := by kernel_rfl
theorem foot_ext {w w1 : World} {b k : Nat} (x : Ext w w1) (hb : b < w.heap.size) : foot w1 b k ↔ foot w b k := foot_same (x.block b hb (fun h => h))
theorem diskPlays_run {n : Int} {v1 : Value} {l : List DAct} (W : World) (h0 : RowK 5 DAct.cs W v1 l) (hin : ∀ a ∈ l, a.In W) :
    CALL Try.prog 24 #[.int .i64 n, v1] W (fun v w' => v = .bool true ∧ Ext W w') := by
  apply call_law08_DiskPlays
  unfold B_law08_DiskPlays
  refine shown08 ?_
  intro w1 hx1
  have e0 : decide ((0 : Int) ≠ 0) = false := by decide
  have e1 : decide ((1 : Int) ≠ 0) = true := by decide
  have e11 : decide ((1 : Int) = 1) = true := by decide
  by_cases hbad : n < 0 ∨ 16384 < n
  · refine New_disk (fun _ => ?_) (fun m hm hm' => absurd hbad (by omega))
    simp only [X_extract0, X_extract1]
    refine RNew_disk (fun _ => ?_) (fun m hm hm' => absurd hbad (by omega))
    simp only [X_extract0, X_extract1, X_neq, e1, X_eql, decide_true, X_eql_nil_74, Option.isNone_none, GS]
    exact ⟨trivial, hx1⟩
  refine New_disk (fun h => absurd h hbad) ?_
  intro N hN hN' b0 w2 hx2 hlow hd2
  simp only [X_extract0, X_extract1]
  refine RNew_disk (fun h => absurd h hbad) ?_
  intro N2 hN2 _ b' w3 hx3 hlow' hr3
  obtain rfl : N = N2 := by omega
  have hx02 := hx1.trans hx2
  have hx03 := hx02.trans hx3
  have hlt2 := hd2.lt
  have hd3 := hd2.ext hx3
  have low3 : ∀ k, foot w3 b0 k → W.heap.size ≤ k := fun k hk => Nat.le_trans hx1.size (hlow k ((foot_ext hx3 (hlt2 b0 (foot_self _ _))).1 hk))
  have low3' : ∀ k, foot w3 b' k → W.heap.size ≤ k := fun k hk => Nat.le_trans hx02.size (hlow' k hk)
  have ap3 : Apart w3 b0 b' := Apart.new hx3 hlt2 hlow'
  simp only [X_extract0, X_extract1, X_neq, e0, X_eql_nil_74, Option.isNone_some, GS]
  refine few_spec (h0.ext hx03) (fun a ha => (hin a ha).ext hx03) ?_
  intro m v3 hm100 hml hr3' hbs
  have hrow := hr3' W h0
  have hlen3 : (l.take m).length = m := by simp; omega
  obtain ⟨a3, c3', e3⟩ := hrow.slice
  rw [hlen3] at e3
  rw [e3, X_len_83, ← e3]
  refine loopE (fun ρ wr => ∃ (i : Nat) (d : Dk) (b : Nat), i ≤ m ∧ DiskAt wr b d ∧ RefAt wr b' d ∧ Apart wr b b' ∧ d.ws.length ≤ i ∧ Ext W wr ∧ (∀ k, foot wr b k → W.heap.size ≤ k) ∧ (∀ k, foot wr b' k → W.heap.size ≤ k) ∧
      ρ 46 = .int .i64 (i : Nat) ∧ ρ 45 = .int .i64 (m : Nat) ∧ ρ 44 = v3 ∧ ρ 8 = ptr b' ∧ ρ 6 = ptr b ∧ ρ 5 = .bool true)
    (fun ρ wr => match ρ 46 with | .int _ s => (m - s).toNat | _ => 0)
    (fun ρ wr => Ext W wr ∧ ρ 5 = .bool true) ?_ ?_ ?_
  · exact ⟨0, _, b0, by omega, hd3, hr3, ap3, by simp [Dk.new], hx03, low3, low3', rfl, rfl, rfl, rfl, rfl, rfl⟩
  · rintro JE hJE ρ wr ⟨i, d, b, hi, hd, hr, hap, hws, hxr, hlr, hlr', r46, r45, r44, r8, r6, r5⟩
    rw [r46, r45, X_lss, condS_bool]
    by_cases him : i = m
    · rw [if_neg (by simp; omega)]
      exact hJE _ _ ⟨hxr, r5⟩
    rw [if_pos (by simp; omega)]
    have hit : i < (l.take m).length := by omega
    have hmem : (l.take m)[i] ∈ l := List.mem_of_mem_take (List.getElem_mem hit)
    have hai := (hin _ hmem)
    have hblen := hbs _ (List.getElem_mem hit)
    rw [r44]
    refine X_takeAct (hrow.ext hxr) hit (hai.ext hxr) ?_
    intro u1 u2 q w4 hx4 hq hqb
    generalize (l.take m)[i] = A at hai hblen hqb hmem ⊢
    have hb_lt := hd.lt b (foot_self _ b)
    have hb'_lt := hr.lt b' (foot_self _ b')
    have hd4 := hd.ext hx4
    have hr4 := hr.ext hx4
    have ap4 := hap.ext hx4 hb_lt hb'_lt
    have hl4 : ∀ k, foot w4 b k → W.heap.size ≤ k := fun k hk => hlr k ((foot_ext hx4 hb_lt).1 hk)
    have hl4' : ∀ k, foot w4 b' k → W.heap.size ≤ k := fun k hk => hlr' k ((foot_ext hx4 hb'_lt).1 hk)
    have hx04 := hxr.trans hx4
    have hqn4 : ¬ foot w4 b q := fun hf => by have := hd.lt q ((foot_ext hx4 hb_lt).1 hf); omega
    have hqn4' : ¬ foot w4 b' q := fun hf => by have := hr.lt q ((foot_ext hx4 hb'_lt).1 hf); omega
    have hq4 := lt_of_blk hqb
    refine joinS_of (fun ρ' w' => ∃ b2, DiskAt w' b2 d ∧ RefAt w' b' d ∧ Apart w' b2 b' ∧ Ext W w' ∧ (∀ k, foot w' b2 k → W.heap.size ≤ k) ∧ (∀ k, foot w' b' k → W.heap.size ≤ k) ∧ w'.heap[q]? = some (.cells A.cs.toArray 86 (0, 0)) ∧ ¬ foot w' b2 q ∧ ¬ foot w' b' q ∧
      ρ' 46 = .int .i64 (i : Nat) ∧ ρ' 45 = .int .i64 (m : Nat) ∧ ρ' 44 = v3 ∧ ρ' 8 = ptr b' ∧ ρ' 6 = ptr b2 ∧ ρ' 5 = .bool true ∧ ρ' 11 = ptr q) ?_ ?_
    · rintro ρ' w' ⟨b2, hd', hr', hap', hx', hl', hl'', hqb', hn1, hn2, g46, g45, g44, g8, g6, g5, g11⟩
      rw [g6, g8, g11]
      have h2_lt := hd'.lt b2 (foot_self _ _)
      have h'_lt := hr'.lt b' (foot_self _ _)
      have hxd := Keep.drew (fun _ => False) w'
      have hdd := hd'.ext hxd
      have hrd := hr'.ext hxd
      refine ⟨Keep (fun k => foot w' b2 k ∨ foot w' b' k), Keep.frame _, ?_⟩
      have hqd : (drewW w').heap[q]? = some (.cells A.cs.toArray 86 (0, 0)) := hqb'
      have hqR : ¬ (foot w' b2 q ∨ foot w' b' q) := fun h => h.elim hn1 hn2
      have ld : ∀ x, Keep (fun k => foot w' b2 k ∨ foot w' b' k) (drewW w') x → (Instr.loadAt 86 (ptr q)).run Try.prog x = .ok (.agg A.cs.toArray) x := fun x k =>
        run_loadAgg Try.underlying86 agg_86 info_86 (k.get hqR hqd) (by rw [sz_86]; rfl) (by rw [sz_86]; rfl)
      simp only [XP_eql_nil_74, Option.isNone_some, GS]
      refine XR_ok (Keep.frame _) ld ?_
      refine XR_ok (Keep.frame _) ld ?_
      have hlx : ∀ k, foot (drewW w') b2 k → W.heap.size ≤ k := hl'
      have hx'd := hx'.trans hxd
      refine does_spec hdd (by omega) (hai.ext hx'd) (off_of hai hlx) (by omega) ?_
      intro w5 hd5 s5
      refine ⟨s5.keep.mono (fun k _ hf => .inl hf), ?_⟩
      have hx5 := s5.out hx'd hlx
      have hl5 := s5.low hx'd.size hlx
      have hr5 : RefAt w5 b' d := hrd.keep s5.keep (fun k hf hf2 => hap' k hf2 hf)
      have ap5 : Apart w5 b2 b' := s5.apart hap' hrd.lt
      have hf5' : ∀ k, foot w5 b' k ↔ foot w' b' k := fun k => foot_same (s5.other hap' h'_lt)
      have hl5' : ∀ k, foot w5 b' k → W.heap.size ≤ k := fun k hk => hl'' k ((hf5' k).1 hk)
      refine model_spec hr5 (by omega) (hai.ext hx5) (off_of hai hl5') ?_
      intro w6 hr6 s6
      refine ⟨s6.keep.mono (fun k _ hf => .inr ((hf5' k).1 hf)), ?_⟩
      have hx6 := s6.out hx5 hl5'
      have hl6' := s6.low hx5.size hl5'
      have hd6 : DiskAt w6 b2 (d.act A).1 := hd5.keep s6.keep (fun k hf hf2 => ap5 k hf hf2)
      have ap6 : Apart w6 b2 b' := (s6.apart ap5.symm hd5.lt).symm
      have hf6 : ∀ k, foot w6 b2 k ↔ foot w5 b2 k := fun k => foot_same (s6.other ap5.symm (hd5.lt b2 (foot_self _ _)))
      have hl6 : ∀ k, foot w6 b2 k → W.heap.size ≤ k := fun k hk => hl5 k ((hf6 k).1 hk)
      have en : decide ((d.act A).2 ≠ (d.act A).2) = false := by simp
      have hws6 : (d.act A).1.ws.length ≤ i + 1 := by have := Dk.act_ws d A; omega
      simp only [XP_neq, en, GS]
      refine alike_spec hd6 hr6 (by omega) ?_
      intro w7 hx7
      refine ⟨hx7.ext, ?_⟩
      simp only [XP_not, Bool.not_true, GS]
      rw [g46, X_add]
      show _ ∧ _
      refine ⟨⟨i + 1, _, b2, by omega, hd6.ext hx7, hr6.ext hx7, ap6.ext hx7 (hd6.lt _ (foot_self _ _)) (hr6.lt _ (foot_self _ _)), hws6, hx6.trans hx7, fun k hk => hl6 k ((foot_ext hx7 (hd6.lt _ (foot_self _ _))).1 hk), fun k hk => hl6' k ((foot_ext hx7 (hr6.lt _ (foot_self _ _))).1 hk), next64 (n := 100) (by decide) (by omega), g45, g44, g8, g6, g5⟩, ?_⟩
      show (_ - IntKind.i64.wrap _).toNat < _
      rw [w64 (by omega) (by omega)]
      first | omega | (show _ < (_ : Int).toNat; omega)
    intro J hJ
    simp only [X_field_86_0]
    refine X_loadL agg_5 hqb (v := .int .u8 (A.kind : Int)) rfl ?_
    refine X_of (kind5 5 _ _) ?_
    rw [X_eql, condS_bool]
    by_cases hk4 : A.kind % 5 = 4
    · rw [if_pos (by simp; omega), r6]
      refine Copy_spec hd4 (by omega) ?_
      intro b2 w5 hx5 hlow2 hd5
      have hlt4 := hd4.lt
      have hlt4' := hr4.lt
      have hb4 := hlt4 b (foot_self _ _)
      have hb4' := hlt4' b' (foot_self _ _)
      have hd5o := hd4.ext hx5
      have hr5 := hr4.ext hx5
      have ap52 : Apart w5 b b2 := Apart.new hx5 hlt4 hlow2
      have ap52' : Apart w5 b' b2 := Apart.new hx5 hlt4' hlow2
      have ap5 : Apart w5 b b' := ap4.ext hx5 hb4 hb4'
      have hl5 : ∀ k, foot w5 b k → W.heap.size ≤ k := fun k hk => hl4 k ((foot_ext hx5 hb4).1 hk)
      have hl5' : ∀ k, foot w5 b' k → W.heap.size ≤ k := fun k hk => hl4' k ((foot_ext hx5 hb4').1 hk)
      have hl52 : ∀ k, foot w5 b2 k → W.heap.size ≤ k := fun k hk => Nat.le_trans hx04.size (hlow2 k hk)
      have hx05 := hx04.trans hx5
      have hqn5 : ¬ foot w5 b q := fun hf => hqn4 ((foot_ext hx5 hb4).1 hf)
      have hqn5' : ¬ foot w5 b' q := fun hf => hqn4' ((foot_ext hx5 hb4').1 hf)
      have hqn52 : ¬ foot w5 b2 q := fun hf => by have := hlow2 q hf; omega
      refine Crash_spec hd5o (row_none _ _) (fun h => absurd h (by simp)) ?_
      intro w6 hd6 s6
      have hd62 : DiskAt w6 b2 d := hd5.keep s6.keep (fun k hf hf2 => ap52 k hf2 hf)
      have hr6 : RefAt w6 b' d := hr5.keep s6.keep (fun k hf hf2 => ap5 k hf2 hf)
      have f62 : ∀ k, foot w6 b2 k ↔ foot w5 b2 k := fun k => foot_same (s6.other ap52 (hd5.lt _ (foot_self _ _)))
      have f6' : ∀ k, foot w6 b' k ↔ foot w5 b' k := fun k => foot_same (s6.other ap5 (hr5.lt _ (foot_self _ _)))
      have hx6 := s6.out hx05 hl5
      have hl6 := s6.low hx05.size hl5
      have hq6 := s6.keep.get hqn5 (hx5.get hqb)
      have ap62 : Apart w6 b b2 := s6.apart ap52 hd5.lt
      have ap6 : Apart w6 b b' := s6.apart ap5 hr5.lt
      refine X_of (lit_gone _) ?_
      refine bts_conv [103, 111, 110, 101] 4 rfl (by decide) ?_
      intro v7 w7 hx7 hb7 hk7
      have hd7 := hd6.ext hx7
      have hb6_lt := hd6.lt b (foot_self _ _)
      have b2_lt := hd62.lt b2 (foot_self _ _)
      have b'_lt := hr6.lt b' (foot_self _ _)
      have out7 : ∀ k, v7.ownBlock = some k → ¬ foot w7 b k := fun k hk hf => by
        have := hd6.lt k ((foot_ext hx7 hb6_lt).1 hf)
        have := (hk7 k hk).1
        omega
      refine Write_spec hd7 (by show 0 ≤ 1000000; decide) hb7 (fun _ => out7) ?_
      intro w8 hd8 s8
      have hd72 := hd62.ext hx7
      have hr7 := hr6.ext hx7
      have ap72 := ap62.ext hx7 hb6_lt b2_lt
      have ap7 := ap6.ext hx7 hb6_lt b'_lt
      have hl7 : ∀ k, foot w7 b k → W.heap.size ≤ k := fun k hk => hl6 k ((foot_ext hx7 hb6_lt).1 hk)
      have f82 : ∀ k, foot w8 b2 k ↔ foot w7 b2 k := fun k => foot_same (s8.other ap72 (hd72.lt _ (foot_self _ _)))
      have f8' : ∀ k, foot w8 b' k ↔ foot w7 b' k := fun k => foot_same (s8.other ap7 (hr7.lt _ (foot_self _ _)))
      have F2 : ∀ k, foot w8 b2 k → foot w5 b2 k := fun k hk => (f62 k).1 ((foot_ext hx7 b2_lt).1 ((f82 k).1 hk))
      have F' : ∀ k, foot w8 b' k → foot w5 b' k := fun k hk => (f6' k).1 ((foot_ext hx7 b'_lt).1 ((f8' k).1 hk))
      have hqn7 : ¬ foot w7 b q := fun hf => by
        rcases s6.grow q ((foot_ext hx7 hb6_lt).1 hf) with h | h
        · exact hqn5 h
        · have := hx5.size; omega
      refine hJ _ _ ⟨b2, hd72.keep s8.keep (fun k hf hf2 => ap72 k hf2 hf), hr7.keep s8.keep (fun k hf hf2 => ap7 k hf2 hf), fun k h1 h2 => ap52' k (F' k h2) (F2 k h1), s8.out (hx6.trans hx7) hl7, fun k hk => hl52 k (F2 k hk), fun k hk => hl5' k (F' k hk), s8.keep.get hqn7 (hx7.get hq6), fun hf => hqn52 (F2 q hf), fun hf => hqn5' (F' q hf), r46, r45, r44, r8, rfl, r5, rfl⟩
    · rw [if_neg (by simp; omega)]
      exact hJ _ _ ⟨b, hd4, hr4, ap4, hx04, hl4, hl4', hqb, hqn4, hqn4', r46, r45, r44, r8, r6, r5, rfl⟩
  · rintro ρ wr ⟨hxr, r5⟩
    rw [r5]
    exact ⟨rfl, hxr⟩
theorem diskPlays_walk {H : Type} (enc : TypeId × Value → H) (W : World) (v0 v1 : Value) {base : Nat} (ok0 : Value.okWide Try.prog W .any base 3 v0) (ok1 : Value.okWide Try.prog W .any base 83 v1) (d0 : DataW H) (p0 : List MemPlace) (d1 : DataW H) (p1 : List MemPlace) (h0 : DataW.Trod enc Try.prog W 0 (fun _ => true) true 3 v0 d0 p0) (h1 : DataW.Trod enc Try.prog W 0 (fun _ => true) true 83 v1 d1 p1) (hsz : (DataW.weightsEach Try.prog [3, 83] [d0, d1]).all (· ≤ reachBytes) = true) :
    CALL Try.prog 24 #[v0, v1] W (fun v w' => v = .bool true ∧ Ext W w') := by
  obtain ⟨n, rfl, _, _⟩ := arg_i64 Try.underlying3 ok0 h0
  obtain ⟨l, hl, hin⟩ := arg_acts ok1 h1
  exact diskPlays_run W hl hin
end
set_option maxRecDepth 100000 in
theorem diskPlays_lifted (os : Os) (started : os.Started) (H : Type) (enc : TypeId × Value → H) :
    ReturnsInHanded {} Try.checked os 24 .any (Rows.diskPlaysSpec.pre6 enc Try.prog Try.f24 Rows.diskPlaysRow.domain false) (Rows.diskPlaysSpec.post enc Try.prog Try.f24 false true false false) := by
  refine returnsInHanded_of_change_sized (C := Try.checked) (by kernel_rfl) started (by kernel_rfl) Try.func24
    (ChangeSpec.witness6 (enc := enc) (C := Try.checked) false ⟨#[], #[(.int .i64 0), (.slice none 0 0)], []⟩ 8 (by kernel_rfl) (by kernel_rfl) (by kernel_rfl) (by kernel_rfl)) ?_
  intro W base args ds gs before hval0 hW hcnd hsz0 _
  have hval : ∀ (j : Nat) t v, Try.f24.params[j]? = some t → args[j]? = some v → Value.okWide Try.prog W .any base t v := hval0
  have hW' := hW
  obtain ⟨p, q, hA0, hV, rfl, hfz, hnd⟩ := hW
  have hA : DataW.TrodAll enc Try.prog W 0 (fun _ => true) true Try.f24.params.toList args.toList ds p := hA0
  rw [Try.params24] at hA hval
  obtain ⟨v0, vs0, d0, ds0, p0, q0, hargs, rfl, rfl, h0, r0⟩ := trodAll_cons hA
  obtain ⟨v1, vs1, d1, ds1, p1, q1, rfl, rfl, rfl, h1, r1⟩ := trodAll_cons r0
  obtain ⟨rfl, rfl, rfl⟩ := trodAll_nil r1
  obtain rfl : args = #[v0, v1] := by cases args; simp_all
  obtain ⟨rfl, rfl⟩ := trodVars_none hV
  have hsz : (DataW.weightsEach Try.prog [3, 83] [d0, d1]).all (· ≤ reachBytes) = true := hsz0
  have hw := diskPlays_walk enc W v0 v1 (hval 0 3 v0 rfl rfl) (hval 1 83 v1 rfl rfl) d0 p0 d1 p1 h0 h1 hsz
  refine (CALL_calls hw).mono fun e W' he => ?_
  cases e with
  | returned v =>
    obtain ⟨rfl, hx⟩ := he
    exact ⟨_, rfl, law_post (P := Try.prog) laidOut (by kernel_rfl) rfl rfl rfl Try.underlying4 hW' hx⟩
  | panicked c => exact he.elim
  | outgrown => exact he.elim

theorem diskPlays_closed : joinedFacts Try.prog 24 Try.f24 Rows.diskPlaysSpec Rows.diskPlaysRow = true := by
  unfold joinedFacts
  rw [mayEnter_is, liftsFinal_is, make_is]
  kernel_rfl
/-- For every input that the row lets in, cellarage/cellaragelaw08.DiskPlays returns true, and what was there stays as it was. -/
theorem diskPlays_holds : Rows.DiskPlaysSaid :=
  OpenClaim.holds_of_wide 24 Try.f24 rfl rfl rfl rfl rfl rfl rfl ⟨rfl, rfl, rfl, rfl, rfl⟩ rfl rfl rfl rfl rfl (by kernel_rfl) Try.func24 diskPlays_closed
    (of_decide_eq_true (by kernel_rfl)) (by unfold Func.isWrapper; first | (rw [if_pos (by decide +kernel)]; kernel_rfl) | (rw [if_neg (by decide +kernel)]; exact ⟨rfl, rfl⟩))
    (fun os started H enc _ => diskPlays_lifted os started H enc)
#print axioms diskPlays_holds
end Go.Proofs.Ytggggfcgnkllgaa
