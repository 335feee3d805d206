/- cellaragelaw08.DiskTorn: for every two contents and every fate, a torn sector is a beginning of one and the rest of the other. -/
import Derived.Test.YtggggfcgnkllgaaAlike
import Derived.Test.YtggggfcgnkllgaaT9
import Derived.Test.YtggggfcgnkllgaaFacts
import Derived.Test.YtggggfcgnkllgaaArgs
set_option linter.unusedVariables false
set_option linter.unusedSimpArgs false
set_option linter.constructorNameAsVariable false
namespace Go.Proofs.Ytggggfcgnkllgaa
open Go Go.Sh Go.RowKit Go.ChangeShapes Go.WideShapes Go.ChangeAt
open Go.Proofs.Ytggggfcgnkllgaa
section
attribute [local irreducible] X XU XP XR CALL loopS resC closS Value.okWide
theorem diskTorn_run {xs ys : List UInt8} {f : Int} (hx : xs.length = 128) (hy : ys.length = 128) (W : World) : CALL Try.prog 20 #[.agg (B8 xs).toArray, .agg (B8 ys).toArray, .int .i64 f] W (fun v w' => v = .bool true ∧ Ext W w') := by
  apply call_law08_DiskTorn
  unfold B_law08_DiskTorn
  refine X_box ?_
  have hc1 : (Value.agg (B8 xs).toArray).cells = (B8 xs).toArray := rfl
  have hc2 : (Value.agg (B8 ys).toArray).cells = (B8 ys).toArray := rfl
  rw [hc1]
  have hq1 := newB_get W (B8 xs).toArray 73
  have hx1 := newB_ext W (B8 xs).toArray 73
  generalize newB W (B8 xs).toArray 73 = w1 at hq1 hx1 ⊢
  refine X_box ?_
  rw [hc2]
  have hq2 := newB_get w1 (B8 ys).toArray 73
  have hx2 := newB_ext w1 (B8 ys).toArray 73
  have hs2 := newB_size w1 (B8 ys).toArray 73
  generalize newB w1 (B8 ys).toArray 73 = w2 at hq2 hx2 hs2 ⊢
  have hq12 := Ext.get hx2 hq1
  refine shown08 ?_
  intro w3 hx3
  refine New_disk (fun h => absurd h (by omega)) ?_
  intro m hm _ b w4 hx4 hlow hd4
  obtain rfl : m = 3 := by omega
  have hx24 := hx3.trans hx4
  have e0 : decide ((0 : Int) ≠ 0) = false := by decide
  simp only [X_extract0, X_extract1, X_neq, e0, X_eql_nil_74, Option.isNone_some, decide_true, decide_false, GS]
  refine X_of (run_slice_arr_all Try.underlying73 info_5 _ _) ?_
  have arr : ∀ {w : World} {q : Nat} {l : List UInt8}, l.length = 128 → w.heap[q]? = some (.cells (B8 l).toArray 73 (0, 0)) → Bts w (.slice (some ⟨q, 0, none⟩) 128 128) l := fun {w q l} hl hq => by
    refine ⟨_, _, by rw [hl], by omega, by omega, fun _ => ⟨_, rfl, fun j u hj => ?_⟩⟩
    rw [add_plain, cell_blk hq, Nat.zero_add]
    simp [B8_getElem?, hj]
  have low4 : ∀ k, foot w4 b k → w2.heap.size ≤ k := fun k hk => Nat.le_trans hx3.size (hlow k hk)
  have wlt : ∀ {w : World}, (∀ k, foot w b k → w2.heap.size ≤ k) → Ext w2 w → (∀ k, (Value.slice (some ⟨W.heap.size, 0, none⟩) 128 128).ownBlock = some k → ¬ foot w b k) ∧ (∀ k, (Value.slice (some ⟨w1.heap.size, 0, none⟩) 128 128).ownBlock = some k → ¬ foot w b k) := fun {w} hl _ => by
    have hW := hx1.size
    have hl1 := lt_of_blk hq1
    refine ⟨fun k hk hf => ?_, fun k hk hf => ?_⟩
    · have e : W.heap.size = k := by injection hk
      have := hl k hf
      omega
    · have e : w1.heap.size = k := by injection hk
      have := hl k hf
      omega
  refine Write_spec hd4 (by decide) (arr hx (Ext.get hx24 hq12)) (fun _ => (wlt low4 hx24).1) ?_
  intro w5 hd5 s5
  have r5 : (Dk.new 3).write 1 xs = (⟨List.replicate 3 (List.replicate 128 0), [(1, padB xs)], false, -1, 1⟩, 0) := by
    unfold Dk.write Dk.trip
    rw [if_neg (by rw [hx]; decide)]
    rfl
  have x5 := s5.out hx24 low4
  have low5 := s5.low hx24.size low4
  rw [r5] at hd5
  simp only [r5, X_neq, e0, decide_true, decide_false, GS]
  refine Flush_spec hd5 ?_
  intro w6 hd6 s6
  have pa : padB xs = xs := by unfold padB; rw [hx]; simp
  have pb : padB ys = ys := by unfold padB; rw [hy]; simp
  have r6 : (⟨List.replicate 3 (List.replicate 128 0), [(1, padB xs)], false, -1, 1⟩ : Dk).flush = (⟨[List.replicate 128 0, padB xs, List.replicate 128 0], [], false, -1, 2⟩, 0) := by
    unfold Dk.flush Dk.trip
    rfl
  have x6 := s6.out x5 low5
  have low6 := s6.low x5.size low5
  rw [r6] at hd6
  simp only [r6, X_neq, e0, decide_true, decide_false, GS]
  refine X_of (run_slice_arr_all Try.underlying73 info_5 _ _) ?_
  refine Write_spec hd6 (by show 0 ≤ 1000000; decide) (arr hy (Ext.get x6 hq2)) (fun _ => (wlt low6 x6).2) ?_
  intro w7 hd7 s7
  have r7 : (⟨[List.replicate 128 0, padB xs, List.replicate 128 0], [], false, -1, 2⟩ : Dk).write 1 ys = (⟨[List.replicate 128 0, padB xs, List.replicate 128 0], [(1, padB ys)], false, -1, 3⟩, 0) := by
    unfold Dk.write Dk.trip
    rw [if_neg (by rw [hy]; show ¬ ((1 : Int) < 0 ∨ ((3 : Nat) : Int) ≤ 1 ∨ 128 < 128); decide)]
    rfl
  have x7 := s7.out x6 low6
  have low7 := s7.low x6.size low6
  rw [r7] at hd7
  simp only [r7, X_neq, e0, decide_true, decide_false, GS]
  refine X_of (run_lit79 _ _) ?_
  have hx8 := newB_ext w7 #[.int .i64 f] 3
  have hr8 := row_lit79 f w7
  have hlt7 := hd7.lt
  have hd8 := hd7.ext hx8
  have hb7 := hd7.lt b (foot_self _ b)
  have hf8 : ∀ k, foot (newB w7 #[.int .i64 f] 3) b k ↔ foot w7 b k := fun k => foot_same (hx8.block b hb7 (fun h => h))
  refine Crash_spec hd8 hr8 (fun _ k hk hf => ?_) ?_
  · have e1 : w7.heap.size = k := by injection hk
    have := hlt7 k ((hf8 k).1 hf)
    omega
  intro w9 hd9 s9
  have low8 : ∀ k, foot (newB w7 #[.int .i64 f] 3) b k → w2.heap.size ≤ k := fun k hk => low7 k ((hf8 k).1 hk)
  have x9 := s9.out (x7.trans hx8) low8
  refine Read_spec hd9 ?_
  intro v10 w10 hx10 ho10
  obtain ⟨n, hn⟩ : ∃ n : Nat, n = fateAt [f] 0 := ⟨_, rfl⟩
  have hn128 : n ≤ 128 := by rw [hn]; exact fateAt_le _ _
  have en : max 0 (min f 128) = (n : Int) := by
    rw [hn]
    show _ = (((max 0 (min f 128)).toNat : Nat) : Int)
    omega
  have r10 : ((⟨[List.replicate 128 0, padB xs, List.replicate 128 0], [(1, padB ys)], false, -1, 3⟩ : Dk).crash [f]).read 1 = (ys.take n ++ xs.drop n, 0) := by
    rw [pa, pb, hn]
    rfl
  rw [r10] at ho10
  have hl10 : (ys.take n ++ xs.drop n).length = 128 := by simp; omega
  rw [r10]
  obtain ⟨a10, c10, e10⟩ := own_sl ho10
  have hb10 := (own_bts ho10).1
  rw [hl10] at e10
  have e128 : decide (((128 : Nat) : Int) ≠ 128) = false := by decide
  simp only [X_extract0, X_extract1, X_neq, e0, decide_true, decide_false, GS]
  rw [e10, X_len_27, ← e10]
  simp only [X_neq, e128, X_min, X_max, decide_true, decide_false, GS]
  have x10 := x9.trans hx10
  have hxd : Ext w2 (drewW w10) := x10.trans (Keep.drew _ w10)
  refine ⟨Ext, Ext.frame, ?_⟩
  rw [en]
  refine XR_str Try.underlying27 Try.underlying5 Try.underlying9 hb10.drew ?_
  refine XP_of (fun w => run_slice_arr_hi Try.underlying73 info_5 _ .i64 n hn128 w) ?_
  have cutA : Bts (drewW w10) (.slice (some ⟨w1.heap.size, 0, none⟩) n 128) (ys.take n) := by
    have h := arr hy (Ext.get hxd hq2)
    refine ⟨_, _, by rw [show (ys.take n).length = n by simp; omega], by simp; omega, by omega, fun _ => ⟨_, rfl, fun j u hj => ?_⟩⟩
    rw [add_plain, cell_blk (Ext.get hxd hq2), Nat.zero_add]
    rw [List.getElem?_take] at hj
    split at hj
    · simp [B8_getElem?, hj]
    · cases hj
  refine XR_str Try.underlying27 Try.underlying5 Try.underlying9 cutA ?_
  refine XP_of (fun w => run_slice_arr_lo Try.underlying73 info_5 _ .i64 n hn128 w) ?_
  have cutB : Bts (drewW w10) (.slice (some (if 128 = n then ⟨W.heap.size, 0, none⟩ else (⟨W.heap.size, 0, none⟩ : Addr).add (n * szT Try.prog 5))) (128 - n) (128 - n)) (xs.drop n) := by
    have hl : (xs.drop n).length = 128 - n := by simp; omega
    refine ⟨_, _, by rw [hl], by omega, by omega, fun h0 => ⟨_, rfl, fun j u hj => ?_⟩⟩
    rw [hl] at h0
    rw [if_neg (by omega), sz_5, Nat.mul_one, add_plain, add_plain, cell_blk (Ext.get hxd hq12), Nat.zero_add]
    rw [List.getElem?_drop] at hj
    simp [B8_getElem?, hj]
  refine XR_str Try.underlying27 Try.underlying5 Try.underlying9 cutB ?_
  refine XP_of (fun w => run_string_add 9 _ _ (by rw [str_size, str_size]; simp; omega) w) ?_
  rw [str_append]
  simp only [XP_str_eql, str_toList, l8_beq, decide_true, decide_false, GS]
  exact ⟨trivial, hx1.trans (hx2.trans hxd)⟩
theorem diskTorn_walk {H : Type} (enc : TypeId × Value → H) (W : World) (v0 v1 v2 : Value) {base : Nat} (ok0 : Value.okWide Try.prog W .any base 73 v0) (ok1 : Value.okWide Try.prog W .any base 73 v1) (ok2 : Value.okWide Try.prog W .any base 3 v2) (d0 : DataW H) (p0 : List MemPlace) (d1 : DataW H) (p1 : List MemPlace) (d2 : DataW H) (p2 : List MemPlace) (h0 : DataW.Trod enc Try.prog W 0 (fun _ => true) true 73 v0 d0 p0) (h1 : DataW.Trod enc Try.prog W 0 (fun _ => true) true 73 v1 d1 p1) (h2 : DataW.Trod enc Try.prog W 0 (fun _ => true) true 3 v2 d2 p2) (hsz : (DataW.weightsEach Try.prog [73, 73, 3] [d0, d1, d2]).all (· ≤ reachBytes) = true) :
    CALL Try.prog 20 #[v0, v1, v2] W (fun v w' => v = .bool true ∧ Ext W w') := by
  obtain ⟨xs, rfl, hx⟩ := arg_arr Try.underlying73 (by kernel_rfl) Try.underlying5 (by kernel_rfl) ok0 h0
  obtain ⟨ys, rfl, hy⟩ := arg_arr Try.underlying73 (by kernel_rfl) Try.underlying5 (by kernel_rfl) ok1 h1
  obtain ⟨f, rfl, _, _⟩ := arg_i64 Try.underlying3 ok2 h2
  exact diskTorn_run hx hy W
end
set_option maxRecDepth 100000 in
theorem diskTorn_lifted (os : Os) (started : os.Started) (H : Type) (enc : TypeId × Value → H) :
    ReturnsInHanded {} Try.checked os 20 .any (Rows.diskTornSpec.pre6 enc Try.prog Try.f20 Rows.diskTornRow.domain false) (Rows.diskTornSpec.post enc Try.prog Try.f20 false true false false) := by
  refine returnsInHanded_of_change_sized (C := Try.checked) (by kernel_rfl) started (by kernel_rfl) Try.func20
    (ChangeSpec.witness6 (enc := enc) (C := Try.checked) false ⟨#[], #[(.agg (List.replicate 128 (Value.int .u8 0)).toArray), (.agg (List.replicate 128 (Value.int .u8 0)).toArray), (.int .i64 0)], []⟩ 8 (by kernel_rfl) (by kernel_rfl) (by kernel_rfl) (by kernel_rfl)) ?_
  intro W base args ds gs before hval0 hW hcnd hsz0 _
  have hval : ∀ (j : Nat) t v, Try.f20.params[j]? = some t → args[j]? = some v → Value.okWide Try.prog W .any base t v := hval0
  have hW' := hW
  obtain ⟨p, q, hA0, hV, rfl, hfz, hnd⟩ := hW
  have hA : DataW.TrodAll enc Try.prog W 0 (fun _ => true) true Try.f20.params.toList args.toList ds p := hA0
  rw [Try.params20] at hA hval
  obtain ⟨v0, vs0, d0, ds0, p0, q0, hargs, rfl, rfl, h0, r0⟩ := trodAll_cons hA
  obtain ⟨v1, vs1, d1, ds1, p1, q1, rfl, rfl, rfl, h1, r1⟩ := trodAll_cons r0
  obtain ⟨v2, vs2, d2, ds2, p2, q2, rfl, rfl, rfl, h2, r2⟩ := trodAll_cons r1
  obtain ⟨rfl, rfl, rfl⟩ := trodAll_nil r2
  obtain rfl : args = #[v0, v1, v2] := by cases args; simp_all
  obtain ⟨rfl, rfl⟩ := trodVars_none hV
  have hsz : (DataW.weightsEach Try.prog [73, 73, 3] [d0, d1, d2]).all (· ≤ reachBytes) = true := hsz0
  have hw := diskTorn_walk enc W v0 v1 v2 (hval 0 73 v0 rfl rfl) (hval 1 73 v1 rfl rfl) (hval 2 3 v2 rfl rfl) d0 p0 d1 p1 d2 p2 h0 h1 h2 hsz
  refine (CALL_calls hw).mono fun e W' he => ?_
  cases e with
  | returned v =>
    obtain ⟨rfl, hx⟩ := he
    exact ⟨_, rfl, law_post (P := Try.prog) laidOut (by kernel_rfl) rfl rfl rfl Try.underlying4 hW' hx⟩
  | panicked c => exact he.elim
  | outgrown => exact he.elim

theorem diskTorn_closed : joinedFacts Try.prog 20 Try.f20 Rows.diskTornSpec Rows.diskTornRow = true := by
  unfold joinedFacts
  rw [mayEnter_is, liftsFinal_is, make_is]
  kernel_rfl
/-- For every input that the row lets in, cellarage/cellaragelaw08.DiskTorn returns true, and what was there stays as it was. -/
theorem diskTorn_holds : Rows.DiskTornSaid :=
  OpenClaim.holds_of_wide 20 Try.f20 rfl rfl rfl rfl rfl rfl rfl ⟨rfl, rfl, rfl, rfl, rfl⟩ rfl rfl rfl rfl rfl (by kernel_rfl) Try.func20 diskTorn_closed
    (of_decide_eq_true (by kernel_rfl)) (by unfold Func.isWrapper; first | (rw [if_pos (by decide +kernel)]; kernel_rfl) | (rw [if_neg (by decide +kernel)]; exact ⟨rfl, rfl⟩))
    (fun os started H enc _ => diskTorn_lifted os started H enc)
#print axioms diskTorn_holds
end Go.Proofs.Ytggggfcgnkllgaa
