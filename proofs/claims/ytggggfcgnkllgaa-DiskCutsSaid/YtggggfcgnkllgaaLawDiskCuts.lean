/- cellaragelaw08.DiskCuts: for every acts and every number, so many operations are OK behind a cut and no more. -/
import Derived.Test.YtggggfcgnkllgaaAlike
import Derived.Test.YtggggfcgnkllgaaT9
import Derived.Test.YtggggfcgnkllgaaFacts
import Derived.Test.YtggggfcgnkllgaaArgs
set_option linter.unusedVariables false
set_option linter.unusedSimpArgs false
set_option linter.constructorNameAsVariable false
namespace Go.Proofs.Ytggggfcgnkllgaa
open Go Go.Sh Go.RowKit Go.ChangeShapes Go.WideShapes Go.ChangeAt
open Go.Proofs.Ytggggfcgnkllgaa
section
attribute [local irreducible] X XU XP XR CALL loopS resC closS Value.okWide
def CutInv (d : Dk) (n : Nat) : Prop := (d.dead = false ∧ d.fuse = (n : Int) - d.done ∧ 0 ≤ d.done ∧ d.done ≤ n) ∨ (d.dead = true ∧ d.fuse = -1 ∧ d.done = n)
theorem cut_tick {d : Dk} {n : Nat} (hn : n < 256) (h : CutInv d n) (hd : d.trip.dead = false) : d.trip.tick.dead = false ∧ d.trip.tick.done = d.done + 1 ∧ d.trip.tick.fuse = (n : Int) - (d.done + 1) ∧ 0 ≤ d.done ∧ d.done + 1 ≤ n := by
  rcases h with ⟨h1, h2, h3, h4⟩ | ⟨h1, h2, h3⟩
  · have hf : d.fuse ≠ 0 := by
      intro e
      unfold Dk.trip at hd
      rw [if_pos e] at hd
      cases hd
    have et : d.trip = d := by unfold Dk.trip; rw [if_neg hf]
    rw [et]
    refine ⟨h1, ?_, ?_, h3, by omega⟩
    · show IntKind.i64.wrap (d.done + 1) = _
      rw [w64 (by omega) (by omega)]
    · show (if 0 < d.fuse then d.fuse - 1 else d.fuse) = _
      rw [if_pos (by omega)]
      omega
  · exfalso
    have et : d.trip.dead = true := by
      unfold Dk.trip
      rw [if_neg (by omega)]
      exact h1
    rw [et] at hd
    cases hd
theorem cut_trip {d : Dk} {n : Nat} (h : CutInv d n) (hd : d.trip.dead = true) : d.trip.done = n ∧ d.done = n ∧ CutInv d.trip n := by
  rcases h with ⟨h1, h2, h3, h4⟩ | ⟨h1, h2, h3⟩
  · by_cases hf : d.fuse = 0
    · refine ⟨by rw [Dk.trip_done]; omega, by omega, .inr ⟨hd, ?_, by rw [Dk.trip_done]; omega⟩⟩
      unfold Dk.trip
      rw [if_pos hf]
    · have et : d.trip = d := by unfold Dk.trip; rw [if_neg hf]
      rw [et, h1] at hd
      cases hd
  · have et : d.trip = d := by unfold Dk.trip; rw [if_neg (by omega)]
    rw [et]
    exact ⟨h3, h3, .inr ⟨h1, h2, h3⟩⟩
theorem cut_act {d : Dk} {n : Nat} (hn : n < 256) (h : CutInv d n) (a : DAct) (ha : ¬ 1 < a.kind % 5) :
    CutInv (d.act a).1 n ∧ (((d.act a).2 = 0 ∧ (d.act a).1.done = d.done + 1 ∧ (d.act a).1.done ≤ n) ∨ ((d.act a).2 = 1 ∧ (d.act a).1 = d) ∨ ((d.act a).2 = 6 ∧ (d.act a).1.done = n ∧ d.done = n ∧ (d.act a).1.dead = true ∧ (d.act a).1.ws = d.ws)) := by
  have hdn : 0 ≤ d.done := by rcases h with ⟨_, _, h, _⟩ | ⟨_, _, h⟩ <;> omega
  by_cases k0 : a.kind % 5 = 0
  · have e : d.act a = d.write a.pos a.bs := by unfold Dk.act; rw [if_pos k0]
    rw [e]
    unfold Dk.write
    split
    · exact ⟨h, .inr (.inl ⟨rfl, rfl⟩)⟩
    · split
      · rename_i hd
        obtain ⟨h1, h2, h3⟩ := cut_trip h hd
        exact ⟨h3, .inr (.inr ⟨rfl, h1, h2, hd, Dk.trip_ws d⟩)⟩
      · rename_i hd
        have hd' : d.trip.dead = false := by simpa using hd
        obtain ⟨h1, h2, h3, h4, h5⟩ := cut_tick hn h hd'
        exact ⟨.inl ⟨h1, by show d.trip.tick.fuse = (n : Int) - d.trip.tick.done; rw [h2, h3], by show 0 ≤ d.trip.tick.done; omega, by show d.trip.tick.done ≤ n; omega⟩, .inl ⟨rfl, h2, by show d.trip.tick.done ≤ n; omega⟩⟩
  · have e : d.act a = d.flush := by unfold Dk.act; rw [if_neg k0, if_pos (by omega)]
    rw [e]
    unfold Dk.flush
    split
    · rename_i hd
      obtain ⟨h1, h2, h3⟩ := cut_trip h hd
      exact ⟨h3, .inr (.inr ⟨rfl, h1, h2, hd, Dk.trip_ws d⟩)⟩
    · rename_i hd
      have hd' : d.trip.dead = false := by simpa using hd
      obtain ⟨h1, h2, h3, h4, h5⟩ := cut_tick hn h hd'
      exact ⟨.inl ⟨h1, by show d.trip.tick.fuse = (n : Int) - d.trip.tick.done; rw [h2, h3], by show 0 ≤ d.trip.tick.done; omega, by show d.trip.tick.done ≤ n; omega⟩, .inl ⟨rfl, h2, by show d.trip.tick.done ≤ n; omega⟩⟩
theorem diskCuts_run {v0 : Value} {l : List DAct} {n : Nat} (hn : n < 256) (W : World) (h0 : RowK 5 DAct.cs W v0 l) (hin : ∀ a ∈ l, a.In W) :
    CALL Try.prog 23 #[v0, .int .u8 (n : Int)] W (fun v w' => v = .bool true ∧ Ext W w') := by
  apply call_law08_DiskCuts
  unfold B_law08_DiskCuts
  refine shown08 ?_
  intro w1 hx1
  refine New_disk (fun h => absurd h (by omega)) ?_
  intro m hm _ b w2 hx2 hlow hd2
  obtain rfl : m = 20 := by omega
  have e0 : decide ((0 : Int) ≠ 0) = false := by decide
  have hx02 := hx1.trans hx2
  have low2 : ∀ k, foot w2 b k → W.heap.size ≤ k := fun k hk => Nat.le_trans hx1.size (hlow k hk)
  simp only [X_extract0, X_extract1, X_neq, e0, X_eql_nil_74, Option.isNone_some, GS, X_conv_5_3]
  rw [w64 (by omega) (by omega)]
  refine Cut_spec (by omega) hd2 ?_
  intro w3 hd3 s3
  have hx3 := s3.out hx02 low2
  have low3 := s3.low hx02.size low2
  have c3 : (Dk.new 20).cut (n : Int) = { Dk.new 20 with fuse := n } := by
    unfold Dk.cut
    rw [if_neg (by show ¬ false = true; decide)]
    have : max (n : Int) (-1) = n := by omega
    rw [this]
  rw [c3] at hd3
  refine few_spec (h0.ext hx3) (fun a ha => (hin a ha).ext hx3) ?_
  intro m v3 hm100 hml hr3' hbs
  have hr3 := hr3' W h0
  have hlen3 : (l.take m).length = m := by simp; omega
  obtain ⟨a3, c3', e3⟩ := hr3.slice
  rw [hlen3] at e3
  rw [e3, X_len_83, ← e3]
  refine loopE (fun ρ wr => ∃ (i : Nat) (d : Dk), i ≤ m ∧ DiskAt wr b d ∧ d.safe.length = 20 ∧ d.ws.length ≤ i ∧ CutInv d n ∧ Ext W wr ∧ (∀ k, foot wr b k → W.heap.size ≤ k) ∧
      ρ 31 = .int .i64 (i : Nat) ∧ ρ 30 = .int .i64 (m : Nat) ∧ ρ 29 = v3 ∧ ρ 6 = ptr b ∧ ρ 5 = .bool true ∧ ρ 1 = .int .u8 (n : Int))
    (fun ρ wr => match ρ 31 with | .int _ s => (m - s).toNat | _ => 0)
    (fun ρ wr => Ext W wr ∧ ρ 5 = .bool true) ?_ ?_ ?_
  · exact ⟨0, _, by omega, hd3, by simp [Dk.new], by simp [Dk.new], .inl ⟨rfl, by show (n : Int) = n - 0; omega, by show (0 : Int) ≤ 0; omega, by show (0 : Int) ≤ n; omega⟩, hx3, low3, rfl, rfl, rfl, rfl, rfl, rfl⟩
  · rintro JE hJE ρ wr ⟨i, d, hi, hd, hs20, hws, hci, hxr, hlr, r31, r30, r29, r6, r5, r1⟩
    rw [r31, r30, X_lss, condS_bool]
    by_cases him : i = m
    · rw [if_neg (by simp; omega)]
      exact hJE _ _ ⟨hxr, r5⟩
    rw [if_pos (by simp; omega)]
    have hit : i < (l.take m).length := by omega
    have hmem : (l.take m)[i] ∈ l := List.mem_of_mem_take (List.getElem_mem hit)
    have hai := (hin _ hmem)
    have hblen := hbs _ (List.getElem_mem hit)
    refine joinS_of (fun ρ' w' => ∃ (d' : Dk), DiskAt w' b d' ∧ d'.safe.length = 20 ∧ d'.ws.length ≤ i + 1 ∧ CutInv d' n ∧ Ext W w' ∧ (∀ k, foot w' b k → W.heap.size ≤ k) ∧
      ρ' 31 = .int .i64 (i : Nat) ∧ ρ' 30 = .int .i64 (m : Nat) ∧ ρ' 29 = v3 ∧ ρ' 6 = ptr b ∧ ρ' 5 = .bool true ∧ ρ' 1 = .int .u8 (n : Int)) ?_ ?_
    · rintro ρ' w' ⟨d', hd', hs', hw', hc', hx', hl', g31, g30, g29, g6, g5, g1⟩
      rw [g31, X_add]
      show _ ∧ _
      refine ⟨⟨i + 1, d', by omega, hd', hs', hw', hc', hx', hl', next64 (n := 100) (by decide) (by omega), g30, g29, g6, g5, g1⟩, ?_⟩
      show (_ - IntKind.i64.wrap _).toNat < _
      rw [w64 (by omega) (by omega)]
      first | omega | (show _ < (_ : Int).toNat; omega)
    intro J hJ
    rw [r29, r6]
    refine X_takeAct (hr3.ext hxr) hit (hai.ext hxr) ?_
    intro u1 u2 q w4 hx4 hq hqb
    generalize (l.take m)[i] = A at hai hblen hqb hmem ⊢
    have hd4 := hd.ext hx4
    have hf4 : ∀ k, foot w4 b k ↔ foot wr b k := fun k => foot_same (hx4.block b (hd.lt b (foot_self _ b)) (fun h => h))
    have hl4 : ∀ k, foot w4 b k → W.heap.size ≤ k := fun k hk => hlr k ((hf4 k).1 hk)
    have hx04 := hxr.trans hx4
    simp only [X_field_86_0]
    refine X_loadL agg_5 hqb (v := .int .u8 (A.kind : Int)) rfl ?_
    refine X_of (kind5 5 _ _) ?_
    rw [X_gtr, condS_bool]
    by_cases hk : 1 < A.kind % 5
    · rw [if_pos (by simp; omega)]
      exact hJ _ _ ⟨d, hd4, hs20, by omega, hci, hx04, hl4, r31, r30, r29, r6, r5, r1⟩
    rw [if_neg (by simp; omega)]
    refine Done_spec hd4 ?_
    refine Pending_spec hd4 ?_
    refine X_loadAgg Try.underlying86 agg_86 info_86 hqb (by rw [sz_86]; rfl) ?_
    refine does_spec hd4 (by omega) (hai.ext hx04) (off_of hai hl4) (by omega) ?_
    intro w5 hd5 s5
    have hx5 := s5.out hx04 hl4
    have low5 := s5.low hx04.size hl4
    obtain ⟨hci5, hcase⟩ := cut_act hn hci A hk
    have hws5 : (d.act A).1.ws.length ≤ i + 1 := by have := Dk.act_ws d A; omega
    have hs5 : (d.act A).1.safe.length = 20 := by rw [Dk.act_size]; exact hs20
    have hdn : 0 ≤ d.done ∧ d.done ≤ n := by rcases hci with ⟨_, _, h1, h2⟩ | ⟨_, _, h⟩ <;> omega
    have fin : ∀ ρ' : Env, ρ' 31 = .int .i64 (i : Nat) → ρ' 30 = .int .i64 (m : Nat) → ρ' 29 = v3 → ρ' 6 = ptr b → ρ' 5 = .bool true → ρ' 1 = .int .u8 (n : Int) → J ρ' w5 := fun ρ' q1 q2 q3 q4 q5 q6 =>
      hJ _ _ ⟨_, hd5, hs5, hws5, hci5, hx5, low5, q1, q2, q3, q4, q5, q6⟩
    rw [X_eql]
    refine Done_spec hd5 ?_
    rw [X_add, w64 (by omega) (by omega), X_eql]
    refine X_of (Go.Sh.run_neq_bool Try.underlying4 _ _ _ _ _) ?_
    rcases hcase with ⟨c1, c2, c3⟩ | ⟨c1, c2⟩ | ⟨c1, c2, c3, c4, c5⟩
    · have b1 : (decide ((d.act A).2 = 0) != decide ((d.act A).1.done = d.done + 1)) = false := by rw [c1, c2]; simp
      have b2 : decide ((d.act A).1.done > (n : Int)) = false := by simp; omega
      have b3 : decide ((d.act A).2 = 6) = false := by rw [c1]; decide
      have b4 : decide ((d.act A).2 ≠ 0) = false := by rw [c1]; decide
      rw [b1]
      simp only [GS]
      refine Done_spec hd5 ?_
      rw [r1, X_conv_5_3, w64 (by omega) (by omega)]
      simp only [X_gtr, b2, X_eql, b3, X_neq, b4, GS]
      exact fin _ r31 r30 r29 r6 r5 r1
    · have hdd : (d.act A).1.done = d.done := by rw [c2]
      have b1 : (decide ((d.act A).2 = 0) != decide ((d.act A).1.done = d.done + 1)) = false := by
        have h1 : decide ((d.act A).2 = 0) = false := by rw [c1]; decide
        have h2 : decide ((d.act A).1.done = d.done + 1) = false := by simp; omega
        rw [h1, h2]; rfl
      have b2 : decide ((d.act A).1.done > (n : Int)) = false := by simp; omega
      have b3 : decide ((d.act A).2 = 6) = false := by rw [c1]; decide
      have b4 : decide ((d.act A).2 ≠ 0) = true := by rw [c1]; decide
      have b5 : decide (((d.act A).1.ws.length : Int) ≠ (d.ws.length : Int)) = false := by rw [c2]; simp
      rw [b1]
      simp only [GS]
      refine Done_spec hd5 ?_
      rw [r1, X_conv_5_3, w64 (by omega) (by omega)]
      simp only [X_gtr, b2, X_eql, b3, X_neq, b4, GS]
      refine Pending_spec hd5 ?_
      simp only [X_neq, b5, GS]
      exact fin _ r31 r30 r29 r6 r5 r1
    · have b1 : (decide ((d.act A).2 = 0) != decide ((d.act A).1.done = d.done + 1)) = false := by
        have h1 : decide ((d.act A).2 = 0) = false := by rw [c1]; decide
        have h2 : decide ((d.act A).1.done = d.done + 1) = false := by simp; omega
        rw [h1, h2]; rfl
      have b2 : decide ((d.act A).1.done > (n : Int)) = false := by simp; omega
      have b3 : decide ((d.act A).2 = 6) = true := by rw [c1]; decide
      have b4 : decide ((d.act A).2 ≠ 0) = true := by rw [c1]; decide
      have b5 : decide (((d.act A).1.ws.length : Int) ≠ (d.ws.length : Int)) = false := by rw [c5]; simp
      have b6 : decide ((d.act A).1.done ≠ (n : Int)) = false := by simp; omega
      rw [b1]
      simp only [GS]
      refine Done_spec hd5 ?_
      rw [r1, X_conv_5_3, w64 (by omega) (by omega)]
      simp only [X_gtr, b2, X_eql, b3, GS]
      refine Done_spec hd5 ?_
      rw [X_conv_5_3, w64 (by omega) (by omega)]
      simp only [X_neq, b6, GS]
      refine Dead_spec hd5 ?_
      rw [c4]
      simp only [X_not, Bool.not_true, X_neq, b4, GS]
      refine Pending_spec hd5 ?_
      simp only [X_neq, b5, GS]
      exact fin _ r31 r30 r29 r6 r5 r1
  · rintro ρ wr ⟨hxr, r5⟩
    rw [r5]
    exact ⟨rfl, hxr⟩
theorem diskCuts_walk {H : Type} (enc : TypeId × Value → H) (W : World) (v0 v1 : Value) {base : Nat} (ok0 : Value.okWide Try.prog W .any base 83 v0) (ok1 : Value.okWide Try.prog W .any base 5 v1) (d0 : DataW H) (p0 : List MemPlace) (d1 : DataW H) (p1 : List MemPlace) (h0 : DataW.Trod enc Try.prog W 0 (fun _ => true) true 83 v0 d0 p0) (h1 : DataW.Trod enc Try.prog W 0 (fun _ => true) true 5 v1 d1 p1) (hsz : (DataW.weightsEach Try.prog [83, 5] [d0, d1]).all (· ≤ reachBytes) = true) :
    CALL Try.prog 23 #[v0, v1] W (fun v w' => v = .bool true ∧ Ext W w') := by
  obtain ⟨l, hl, hin⟩ := arg_acts ok0 h0
  obtain ⟨n, rfl, hn⟩ := arg_u8 Try.underlying5 ok1 h1
  exact diskCuts_run hn W hl hin
end
set_option maxRecDepth 100000 in
theorem diskCuts_lifted (os : Os) (started : os.Started) (H : Type) (enc : TypeId × Value → H) :
    ReturnsInHanded {} Try.checked os 23 .any (Rows.diskCutsSpec.pre6 enc Try.prog Try.f23 Rows.diskCutsRow.domain false) (Rows.diskCutsSpec.post enc Try.prog Try.f23 false true false false) := by
  refine returnsInHanded_of_change_sized (C := Try.checked) (by kernel_rfl) started (by kernel_rfl) Try.func23
    (ChangeSpec.witness6 (enc := enc) (C := Try.checked) false ⟨#[], #[(.slice none 0 0), (.int .u8 0)], []⟩ 8 (by kernel_rfl) (by kernel_rfl) (by kernel_rfl) (by kernel_rfl)) ?_
  intro W base args ds gs before hval0 hW hcnd hsz0 _
  have hval : ∀ (j : Nat) t v, Try.f23.params[j]? = some t → args[j]? = some v → Value.okWide Try.prog W .any base t v := hval0
  have hW' := hW
  obtain ⟨p, q, hA0, hV, rfl, hfz, hnd⟩ := hW
  have hA : DataW.TrodAll enc Try.prog W 0 (fun _ => true) true Try.f23.params.toList args.toList ds p := hA0
  rw [Try.params23] at hA hval
  obtain ⟨v0, vs0, d0, ds0, p0, q0, hargs, rfl, rfl, h0, r0⟩ := trodAll_cons hA
  obtain ⟨v1, vs1, d1, ds1, p1, q1, rfl, rfl, rfl, h1, r1⟩ := trodAll_cons r0
  obtain ⟨rfl, rfl, rfl⟩ := trodAll_nil r1
  obtain rfl : args = #[v0, v1] := by cases args; simp_all
  obtain ⟨rfl, rfl⟩ := trodVars_none hV
  have hsz : (DataW.weightsEach Try.prog [83, 5] [d0, d1]).all (· ≤ reachBytes) = true := hsz0
  have hw := diskCuts_walk enc W v0 v1 (hval 0 83 v0 rfl rfl) (hval 1 5 v1 rfl rfl) d0 p0 d1 p1 h0 h1 hsz
  refine (CALL_calls hw).mono fun e W' he => ?_
  cases e with
  | returned v =>
    obtain ⟨rfl, hx⟩ := he
    exact ⟨_, rfl, law_post (P := Try.prog) laidOut (by kernel_rfl) rfl rfl rfl Try.underlying4 hW' hx⟩
  | panicked c => exact he.elim
  | outgrown => exact he.elim

theorem diskCuts_closed : joinedFacts Try.prog 23 Try.f23 Rows.diskCutsSpec Rows.diskCutsRow = true := by
  unfold joinedFacts
  rw [mayEnter_is, liftsFinal_is, make_is]
  kernel_rfl
/-- For every input that the row lets in, cellarage/cellaragelaw08.DiskCuts returns true, and what was there stays as it was. -/
theorem diskCuts_holds : Rows.DiskCutsSaid :=
  OpenClaim.holds_of_wide 23 Try.f23 rfl rfl rfl rfl rfl rfl rfl ⟨rfl, rfl, rfl, rfl, rfl⟩ rfl rfl rfl rfl rfl (by kernel_rfl) Try.func23 diskCuts_closed
    (of_decide_eq_true (by kernel_rfl)) (by unfold Func.isWrapper; first | (rw [if_pos (by decide +kernel)]; kernel_rfl) | (rw [if_neg (by decide +kernel)]; exact ⟨rfl, rfl⟩))
    (fun os started H enc _ => diskCuts_lifted os started H enc)
#print axioms diskCuts_holds
end Go.Proofs.Ytggggfcgnkllgaa
