/- cellaragelaw08.DiskFlush: for every acts and every fates, what was flushed is there after the crash. -/
import Derived.Test.YtggggfcgnkllgaaAlike
import Derived.Test.YtggggfcgnkllgaaT9
import Derived.Test.YtggggfcgnkllgaaFacts
import Derived.Test.YtggggfcgnkllgaaArgs
set_option linter.unusedVariables false
set_option linter.unusedSimpArgs false
set_option linter.constructorNameAsVariable false
namespace Go.Proofs.Ytggggfcgnkllgaa
open Go Go.Sh Go.RowKit Go.ChangeShapes Go.WideShapes Go.ChangeAt
open Go.Proofs.Ytggggfcgnkllgaa
section
attribute [local irreducible] X XU XP XR CALL loopS resC closS Value.okWide
theorem flush_now (d : Dk) (h : d.flush.2 = 0) : d.flush.1.ws = [] ∧ d.flush.1.safe = d.now ∧ d.flush.1.dead = false := by
  unfold Dk.flush at h ⊢
  split at h
  · exact absurd h (by show (6 : Int) ≠ 0; decide)
  · rename_i hd
    rw [if_neg hd]
    exact ⟨rfl, rfl, by show d.trip.dead = false; simpa using hd⟩
theorem flush_res (d : Dk) : d.flush.2 = 0 ∨ (d.flush.2 = 6 ∧ d.flush.1.dead = true) := by
  unfold Dk.flush
  split
  · rename_i hd
    exact .inr ⟨rfl, hd⟩
  · exact .inl rfl
theorem read_ok {d : Dk} {i : Nat} (hi : i < d.safe.length) (hd : d.dead = false) : d.read (i : Int) = (d.now.getD i [], 0) := by
  unfold Dk.read
  rw [if_neg (by omega), if_neg (by rw [hd]; decide)]
  rfl
theorem zero_cells89 : (Value.agg (List.replicate 20 (Value.string { data := #[] })).toArray).cells = (strs (List.replicate 20 [])).toArray := by
  show (List.replicate 20 (Value.string { data := #[] })).toArray = _
  simp [strs, str]
theorem diskFlush_run {v0 v1 : Value} {l : List DAct} {fates : List Int} (W : World) (h0 : RowK 5 DAct.cs W v0 l) (hin : ∀ a ∈ l, a.In W) (h1 : Row fI W v1 fates) :
    CALL Try.prog 22 #[v0, v1] W (fun v w' => v = .bool true ∧ Ext W w') := by
  apply call_law08_DiskFlush
  unfold B_law08_DiskFlush
  refine shown08 ?_
  intro w1 hx1
  refine New_disk (fun h => absurd h (by omega)) ?_
  intro m hm _ b w2 hx2 hlow hd2
  obtain rfl : m = 20 := by omega
  have e0 : decide ((0 : Int) ≠ 0) = false := by decide
  have hx02 := hx1.trans hx2
  try simp only [X_extract0, X_extract1, X_neq, e0, X_eql_nil_74, Option.isNone_some, decide_true, decide_false, GS]
  refine few_spec (h0.ext hx02) (fun a ha => (hin a ha).ext hx02) ?_
  intro m v3 hm100 hml hr3' hbs
  have hr3 := hr3' W h0
  have hlen3 : (l.take m).length = m := by simp; omega
  obtain ⟨a3, c3, e3⟩ := hr3.slice
  rw [hlen3] at e3
  rw [e3, X_len_83, ← e3]
  have low2 : ∀ k, foot w2 b k → W.heap.size ≤ k := fun k hk => Nat.le_trans hx1.size (hlow k hk)
  refine loopE (fun ρ wr => ∃ (i : Nat) (d : Dk), i ≤ m ∧ DiskAt wr b d ∧ d.safe.length = 20 ∧ d.ws.length ≤ i ∧ Ext W wr ∧ (∀ k, foot wr b k → W.heap.size ≤ k) ∧
      ρ 33 = .int .i64 (i : Nat) ∧ ρ 32 = .int .i64 (m : Nat) ∧ ρ 31 = v3 ∧ ρ 6 = ptr b ∧ ρ 5 = .bool true ∧ ρ 1 = v1)
    (fun ρ wr => match ρ 33 with | .int _ s => (m - s).toNat | _ => 0)
    (fun ρ wr => ∃ (d : Dk), DiskAt wr b d ∧ d.safe.length = 20 ∧ d.ws.length ≤ 100 ∧ Ext W wr ∧ (∀ k, foot wr b k → W.heap.size ≤ k) ∧ ρ 6 = ptr b ∧ ρ 5 = .bool true ∧ ρ 1 = v1) ?_ ?_ ?_
  · exact ⟨0, Dk.new 20, by omega, hd2, by simp [Dk.new], by simp [Dk.new], hx02, low2, rfl, rfl, rfl, rfl, rfl, rfl⟩
  · rintro J hJ ρ wr ⟨i, d, hi, hd, hs20, hws, hxr, hlr, r33, r32, r31, r6, r5, r1⟩
    rw [r33, r32, X_lss, condS_bool]
    by_cases him : i = m
    · rw [if_neg (by simp; omega)]
      exact hJ _ _ ⟨d, hd, hs20, by omega, hxr, hlr, r6, r5, r1⟩
    rw [if_pos (by simp; omega)]
    have hit : i < (l.take m).length := by omega
    have hmem : (l.take m)[i] ∈ l := List.mem_of_mem_take (List.getElem_mem hit)
    have hai := (hin _ hmem)
    have hblen := hbs _ (List.getElem_mem hit)
    rw [r31, r6]
    refine X_takeAct (hr3.ext hxr) hit (hai.ext hxr) ?_
    intro u1 u2 q w4 hx4 hq hqb
    refine X_loadAgg Try.underlying86 agg_86 info_86 hqb (by rw [sz_86]; rfl) ?_
    have hd4 := hd.ext hx4
    have hf4 : ∀ k, foot w4 b k ↔ foot wr b k := fun k => foot_same (hx4.block b (hd.lt b (foot_self _ b)) (fun h => h))
    have hl4 : ∀ k, foot w4 b k → W.heap.size ≤ k := fun k hk => hlr k ((hf4 k).1 hk)
    have hx04 := hxr.trans hx4
    refine does_spec hd4 (by omega) (hai.ext hx04) (off_of hai hl4) (by omega) ?_
    intro w5 hd5 s5
    rw [X_add]
    show _ ∧ _
    have hx05 := s5.out hx04 hl4
    refine ⟨⟨i + 1, _, by omega, hd5, by rw [Dk.act_size]; exact hs20, by have := Dk.act_ws d (l.take m)[i]; omega, hx05, s5.low hx04.size hl4, next64 (n := 100) (by decide) (by omega), r32, r31, r6, r5, r1⟩, ?_⟩
    show (_ - IntKind.i64.wrap _).toNat < _
    rw [w64 (by omega) (by omega)]
    first | omega | (show _ < (_ : Int).toNat; omega)
  rintro ρ wr ⟨d, hd, hs20, hws, hxr, hlr, r6, r5, r1⟩
  rw [r6]
  refine Flush_spec hd ?_
  intro w3 hd3 s3
  have hx3 := s3.out hxr hlr
  have hl3 := s3.low hxr.size hlr
  rcases flush_res d with hz | ⟨hz, hdead⟩
  case inr =>
    have e1 : decide ((6 : Int) ≠ 0) = true := by decide
    have e2 : decide ((6 : Int) = 6) = true := by decide
    rw [hz, r5]
    try simp only [X_neq, e1, X_eql, e2, decide_true, decide_false, GS]
    refine Dead_spec hd3 ?_
    try simp only [GS]
    exact ⟨by rw [hdead], hx3⟩
  obtain ⟨hws3, hsf3, hdead3⟩ := flush_now d hz
  have hsz3 : d.flush.1.safe.length = 20 := by rw [Dk.flush_size]; exact hs20
  have hnow3 : d.flush.1.now = d.flush.1.safe := by unfold Dk.now; rw [hws3]; rfl
  generalize d.flush.1 = D at hd3 hws3 hsf3 hdead3 hsz3 hnow3
  rw [hz]
  try simp only [X_neq, e0, condS_bool, Bool.false_eq_true, if_false]
  refine X_alloc zero_89 ?_
  rw [zero_cells89]
  have hq := newB_get w3 (strs (List.replicate 20 [])).toArray 89
  have hxq := newB_ext w3 (strs (List.replicate 20 [])).toArray 89
  have hfq : ∀ k, foot (newB w3 (strs (List.replicate 20 [])).toArray 89) b k ↔ foot w3 b k := fun k => foot_same (hxq.block b (hd3.lt b (foot_self _ b)) (fun h => h))
  have hlt3 := hd3.lt
  have hdq := hd3.ext hxq
  generalize newB w3 (strs (List.replicate 20 [])).toArray 89 = w4 at hq hxq hfq hdq ⊢
  have hW3 : W.heap.size ≤ w3.heap.size := hx3.size
  generalize hqe : w3.heap.size = q at hq hW3 hlt3 ⊢
  have hqn : ¬ foot w4 b q := fun hf => by have := hlt3 q ((hfq q).1 hf); omega
  refine loopE (fun ρ' wr' => ∃ i : Nat, i ≤ 20 ∧ Ext W wr' ∧ Keep (· = q) w4 wr' ∧ wr'.heap[q]? = some (.cells (strs (D.safe.take i ++ List.replicate (20 - i) [])).toArray 89 (0, 0)) ∧
      ρ' 54 = .int .i64 (i : Nat) ∧ ρ' 6 = ptr b ∧ ρ' 5 = .bool true ∧ ρ' 1 = v1 ∧ ρ' 11 = ptr q)
    (fun ρ wr => match ρ 54 with | .int _ s => (20 - s).toNat | _ => 0)
    (fun ρ' wr' => Ext W wr' ∧ Keep (· = q) w4 wr' ∧ wr'.heap[q]? = some (.cells (strs D.safe).toArray 89 (0, 0)) ∧ ρ' 6 = ptr b ∧ ρ' 5 = .bool true ∧ ρ' 1 = v1 ∧ ρ' 11 = ptr q) ?_ ?_ ?_
  · exact ⟨0, by omega, hx3.trans hxq, Keep.refl _ _, hq, rfl, r6, r5, r1, rfl⟩
  · rintro J hJ ρ' wr' ⟨i, hi, hx', hk', hq', g54, g6, g5, g1, g11⟩
    rw [g54, X_lss, condS_bool]
    by_cases hin20 : i = 20
    · rw [if_neg (by simp; omega)]
      refine hJ _ _ ⟨hx', hk', ?_, g6, g5, g1, g11⟩
      rw [hin20, List.take_of_length_le (by omega), Nat.sub_self, List.replicate_zero, List.append_nil] at hq'
      exact hq'
    rw [if_pos (by simp; omega), g6]
    have hd' := hdq.keep hk' (fun k hf e => hqn (by rw [← e]; exact hf))
    refine Read_spec hd' ?_
    intro v5 w5 hx5 ho5
    have hr := read_ok (d := D) (i := i) (by omega) hdead3
    have hgi : D.now.getD i [] = D.safe[i]'(by omega) := by rw [hnow3, List.getD_eq_getElem?_getD, List.getElem?_eq_getElem (by omega)]; rfl
    rw [hgi] at hr
    rw [hr] at ho5
    rw [hr]
    try simp only [X_extract0, X_extract1, X_neq, e0, condS_bool, Bool.false_eq_true, if_false]
    refine X_str Try.underlying27 Try.underlying5 Try.underlying9 (own_bts ho5).1 ?_
    rw [g11]
    refine X_of (ix_arr Try.underlying89 info_9 i rfl (by omega) _) ?_
    rw [sz_9, Nat.mul_one, add_plain, Nat.zero_add]
    have hq5 := hx5.get hq'
    refine XU_store info_9 sz_9 rfl hq5 (by simp [strs]; omega) (by show ¬ ((0 : Nat) ≤ i ∧ i < 0); omega) ?_
    rw [X_add]
    show _ ∧ _
    refine ⟨⟨i + 1, by omega, Ext.seq (hx'.trans hx5) (setAt_keep _ _ _ _ _) (fun j hj => by omega), (hk'.trans hx5.ext).trans (setAt_keep _ _ _ _ _), ?_, next64 (n := 20) (by decide) (by omega), g6, g5, g1, g11⟩, ?_⟩
    · have e : (strs (D.safe.take i ++ List.replicate (20 - i) [])).toArray.setIfInBounds i (.string (str (D.safe[i]'(by omega)))) = (strs (D.safe.take (i + 1) ++ List.replicate (20 - (i + 1)) [])).toArray := by
        have e2 : (D.safe.take i ++ List.replicate (20 - i) []).set i (D.safe[i]'(by omega)) = D.safe.take (i + 1) ++ List.replicate (20 - (i + 1)) [] := by
          rw [show 20 - i = (20 - (i + 1)) + 1 by omega, List.replicate_succ (n := 20 - (i + 1)), List.set_append_right _ _ (by simp; omega), List.length_take, Nat.min_eq_left (by omega), Nat.sub_self, List.set_cons_zero, List.take_succ_eq_append_getElem (by omega), List.append_assoc]
          rfl
        rw [← e2]
        unfold strs
        rw [List.map_set]
        simp
      rw [← e]
      exact setAt_same (lt_of_blk hq5)
    · show (_ - IntKind.i64.wrap _).toNat < _
      rw [w64 (by omega) (by omega)]
      first | omega | (show _ < (_ : Int).toNat; omega)
  rintro ρ' wr' ⟨hx', hk', hq', g6, g5, g1, g11⟩
  have hd' := hdq.keep hk' (fun k hf e => hqn (by rw [← e]; exact hf))
  have hf' : ∀ k, foot wr' b k ↔ foot w4 b k := fun k => foot_same (hk'.block b (hdq.lt b (foot_self _ b)) (fun e => hqn (by rw [← e]; exact foot_self _ b)))
  rw [g6, g1]
  refine Pending_spec hd' ?_
  have low' : ∀ k, foot wr' b k → W.heap.size ≤ k := fun k hk => hl3 k ((hfq k).1 ((hf' k).1 hk))
  refine Crash_spec hd' (h1.ext hx') (fun h0 k hk hf => ?_) ?_
  · have := h1.blk_lt h0 k hk
    have := low' k hf
    omega
  intro w6 hd6 s6
  have hx6 := s6.out hx' low'
  have low6 := s6.low hx'.size low'
  have hq6 := s6.keep.get (fun hf => hqn ((hf' q).1 hf)) hq'
  have hDc : (D.crash fates).safe = D.safe := by
    unfold Dk.crash
    rw [hws3]
    rfl
  have hDn : (D.crash fates).now = D.safe := by
    unfold Dk.now
    rw [hDc]
    rfl
  refine loopE (fun ρ'' wr'' => ∃ i : Nat, i ≤ 20 ∧ Ext w6 wr'' ∧ ρ'' 75 = .int .i64 (i : Nat) ∧ ρ'' 6 = ptr b ∧ ρ'' 5 = .bool true ∧ ρ'' 11 = ptr q ∧ ρ'' 15 = i64v 0)
    (fun ρ wr => match ρ 75 with | .int _ s => (20 - s).toNat | _ => 0)
    (fun ρ'' wr'' => Ext w6 wr'' ∧ ρ'' 6 = ptr b ∧ ρ'' 5 = .bool true ∧ ρ'' 15 = i64v 0) ?_ ?_ ?_
  · refine ⟨0, by omega, Keep.refl _ _, rfl, g6, g5, g11, ?_⟩
    show Value.int .i64 (D.ws.length : Int) = _
    rw [hws3]; rfl
  · rintro J hJ ρ'' wr'' ⟨i, hi, hx'', g75, k6, k5, k11, k15⟩
    rw [g75, X_lss, condS_bool]
    by_cases hin20 : i = 20
    · rw [if_neg (by simp; omega)]
      exact hJ _ _ ⟨hx'', k6, k5, k15⟩
    rw [if_pos (by simp; omega), k6]
    refine Read_spec (hd6.ext hx'') ?_
    intro v7 w7 hx7 ho7
    have hr := read_ok (d := D.crash fates) (i := i) (by rw [hDc]; omega) rfl
    have hgi : (D.crash fates).now.getD i [] = D.safe[i]'(by omega) := by rw [hDn, List.getD_eq_getElem?_getD, List.getElem?_eq_getElem (by omega)]; rfl
    rw [hgi] at hr
    rw [hr] at ho7
    rw [hr]
    try simp only [X_extract0, X_extract1]
    refine ⟨Ext, Ext.frame, ?_⟩
    try simp only [XP_neq, e0, decide_true, decide_false, GS]
    refine XR_str Try.underlying27 Try.underlying5 Try.underlying9 ((own_bts ho7).1).drew ?_
    rw [k11]
    refine XP_of (fun w => ix_arr Try.underlying89 info_9 i rfl (by omega) w) ?_
    rw [sz_9, Nat.mul_one, add_plain, Nat.zero_add]
    have hq7 : (drewW w7).heap[q]? = some (.cells (strs D.safe).toArray 89 (0, 0)) := hx7.get (hx''.get hq6)
    refine XR_loadL agg_9 hq7 (v := .string (str (D.safe[i]'(by omega)))) (by simp [strs, List.getElem?_eq_getElem (show i < D.safe.length by omega)]) ?_
    have e1 : decide ((D.safe[i]'(by omega)) ≠ (D.safe[i]'(by omega))) = false := by simp
    try simp only [XP_str_neq, str_toList, l8_bne, e1, decide_true, decide_false, GS]
    rw [X_add]
    show _ ∧ _
    refine ⟨⟨i + 1, by omega, (hx''.trans hx7).trans (Keep.drew _ _), next64 (n := 20) (by decide) (by omega), k6, k5, k11, k15⟩, ?_⟩
    show (_ - IntKind.i64.wrap _).toNat < _
    rw [w64 (by omega) (by omega)]
    first | omega | (show _ < (_ : Int).toNat; omega)
  rintro ρ'' wr'' ⟨hx'', k6, k5, k15⟩
  have e00 : decide ((0 : Int) = 0) = true := by decide
  rw [k6, k5, k15]
  try simp only [X_eql, e00, decide_true, decide_false, GS]
  refine Pending_spec (hd6.ext hx'') ?_
  have ep : ((D.crash fates).ws.length : Int) = 0 := rfl
  try simp only [ep, X_eql, e00, decide_true, decide_false, GS]
  refine Dead_spec (hd6.ext hx'') ?_
  have ed : (D.crash fates).dead = false := rfl
  try simp only [ed, X_not, Bool.not_false, decide_true, decide_false, GS]
  exact ⟨trivial, hx6.trans hx''⟩
theorem diskFlush_walk {H : Type} (enc : TypeId × Value → H) (W : World) (v0 v1 : Value) {base : Nat} (ok0 : Value.okWide Try.prog W .any base 83 v0) (ok1 : Value.okWide Try.prog W .any base 79 v1) (d0 : DataW H) (p0 : List MemPlace) (d1 : DataW H) (p1 : List MemPlace) (h0 : DataW.Trod enc Try.prog W 0 (fun _ => true) true 83 v0 d0 p0) (h1 : DataW.Trod enc Try.prog W 0 (fun _ => true) true 79 v1 d1 p1) (hsz : (DataW.weightsEach Try.prog [83, 79] [d0, d1]).all (· ≤ reachBytes) = true) :
    CALL Try.prog 22 #[v0, v1] W (fun v w' => v = .bool true ∧ Ext W w') := by
  obtain ⟨l, hl, hin⟩ := arg_acts ok0 h0
  obtain ⟨fates, hf⟩ := arg_fates ok1 h1
  exact diskFlush_run W hl hin hf
end
set_option maxRecDepth 100000 in
theorem diskFlush_lifted (os : Os) (started : os.Started) (H : Type) (enc : TypeId × Value → H) :
    ReturnsInHanded {} Try.checked os 22 .any (Rows.diskFlushSpec.pre6 enc Try.prog Try.f22 Rows.diskFlushRow.domain false) (Rows.diskFlushSpec.post enc Try.prog Try.f22 false true false false) := by
  refine returnsInHanded_of_change_sized (C := Try.checked) (by kernel_rfl) started (by kernel_rfl) Try.func22
    (ChangeSpec.witness6 (enc := enc) (C := Try.checked) false ⟨#[], #[(.slice none 0 0), (.slice none 0 0)], []⟩ 8 (by kernel_rfl) (by kernel_rfl) (by kernel_rfl) (by kernel_rfl)) ?_
  intro W base args ds gs before hval0 hW hcnd hsz0 _
  have hval : ∀ (j : Nat) t v, Try.f22.params[j]? = some t → args[j]? = some v → Value.okWide Try.prog W .any base t v := hval0
  have hW' := hW
  obtain ⟨p, q, hA0, hV, rfl, hfz, hnd⟩ := hW
  have hA : DataW.TrodAll enc Try.prog W 0 (fun _ => true) true Try.f22.params.toList args.toList ds p := hA0
  rw [Try.params22] at hA hval
  obtain ⟨v0, vs0, d0, ds0, p0, q0, hargs, rfl, rfl, h0, r0⟩ := trodAll_cons hA
  obtain ⟨v1, vs1, d1, ds1, p1, q1, rfl, rfl, rfl, h1, r1⟩ := trodAll_cons r0
  obtain ⟨rfl, rfl, rfl⟩ := trodAll_nil r1
  obtain rfl : args = #[v0, v1] := by cases args; simp_all
  obtain ⟨rfl, rfl⟩ := trodVars_none hV
  have hsz : (DataW.weightsEach Try.prog [83, 79] [d0, d1]).all (· ≤ reachBytes) = true := hsz0
  have hw := diskFlush_walk enc W v0 v1 (hval 0 83 v0 rfl rfl) (hval 1 79 v1 rfl rfl) d0 p0 d1 p1 h0 h1 hsz
  refine (CALL_calls hw).mono fun e W' he => ?_
  cases e with
  | returned v =>
    obtain ⟨rfl, hx⟩ := he
    exact ⟨_, rfl, law_post (P := Try.prog) laidOut (by kernel_rfl) rfl rfl rfl Try.underlying4 hW' hx⟩
  | panicked c => exact he.elim
  | outgrown => exact he.elim

theorem diskFlush_closed : joinedFacts Try.prog 22 Try.f22 Rows.diskFlushSpec Rows.diskFlushRow = true := by
  unfold joinedFacts
  rw [mayEnter_is, liftsFinal_is, make_is]
  kernel_rfl
/-- For every input that the row lets in, cellarage/cellaragelaw08.DiskFlush returns true, and what was there stays as it was. -/
theorem diskFlush_holds : Rows.DiskFlushSaid :=
  OpenClaim.holds_of_wide 22 Try.f22 rfl rfl rfl rfl rfl rfl rfl ⟨rfl, rfl, rfl, rfl, rfl⟩ rfl rfl rfl rfl rfl (by kernel_rfl) Try.func22 diskFlush_closed
    (of_decide_eq_true (by kernel_rfl)) (by unfold Func.isWrapper; first | (rw [if_pos (by decide +kernel)]; kernel_rfl) | (rw [if_neg (by decide +kernel)]; exact ⟨rfl, rfl⟩))
    (fun os started H enc _ => diskFlush_lifted os started H enc)
#print axioms diskFlush_holds
end Go.Proofs.Ytggggfcgnkllgaa
