/- cellaragelaw12.VaultShelves: each shelf has what was put onto it last, whatever is put onto the others, and nothing else is written. -/
import Derived.Test.YtggggfcgnkllgaaQV8
set_option linter.unusedVariables false
set_option linter.unusedSimpArgs false
set_option linter.constructorNameAsVariable false
namespace Go.Proofs.Ytggggfcgnkllgaa
open Go Go.Sh Go.RowKit Go.ChangeShapes Go.WideShapes Go.ChangeAt
open Go.Proofs.Ytggggfcgnkllgaa
section
attribute [local irreducible] X XU XP XR CALL loopS resC closS Value.okWide
theorem vnewS {n : Nat} (h1 : 1 ≤ n) (h4 : n ≤ 4) : vnew (Dk.new (2 + 7 * n + 2)).safe.length 2 (n : Int) 7 = some ⟨2, n, 7⟩ := by
  have hs : (Dk.new (2 + 7 * n + 2)).safe.length = 2 + 7 * n + 2 := by simp [Dk.new]
  rw [hs]
  have : n = 1 ∨ n = 2 ∨ n = 3 ∨ n = 4 := by omega
  rcases this with rfl | rfl | rfl | rfl <;> (unfold vnew; rw [if_neg (by decide)]; rfl)
theorem put_facts {v : Vt} {d : Dk} (hd : d.ok) (ok : v.ok d.safe.length) (hl : Live d) {at_ : Nat} (ha : at_ < v.n) (bs : List UInt8) (h0 : 0 ≤ d.done) (h1 : d.done ≤ 1000000) :
    (bs.length ≤ v.room ∧ (vput v d (at_ : Int) bs).2 = 0 ∧ Live (vput v d (at_ : Int) bs).1 ∧ (vput v d (at_ : Int) bs).1.done = d.done + ((bs.length + 4 + 127) / 128 : Nat) ∧ vget v (vput v d (at_ : Int) bs).1 (at_ : Int) = (bs, 0) ∧
      (∀ k, k < v.n → k ≠ at_ → vget v (vput v d (at_ : Int) bs).1 (k : Int) = vget v d (k : Int)) ∧ (∀ s, s < v.fm ∨ v.fm + v.n * v.each ≤ s → (vput v d (at_ : Int) bs).1.now[s]? = d.now[s]?)) ∨ (v.room < bs.length ∧ vput v d (at_ : Int) bs = (d, 4)) := by
  rcases Nat.lt_or_ge v.room bs.length with h | h
  · exact .inr ⟨h, vput_long ha h⟩
  · exact .inl ⟨h, vput_good hd ok hl ha h h0 (by omega)⟩
structure Shv (n : Nat) (d : Dk) (last : List (List UInt8)) (i : Nat) : Prop where
  ok : d.ok
  size : d.safe.length = 2 + 7 * n + 2
  live : Live d
  seven : last.length = 7
  gets : ∀ k : Nat, k < 7 → vget ⟨2, n, 7⟩ d (k : Int) = (last.getD k [], 0)
  out : ∀ s, s < 2 ∨ 2 + 7 * n ≤ s → s < 2 + 7 * n + 2 → d.now[s]? = some (List.replicate 128 0)
  done : 0 ≤ d.done ∧ d.done ≤ 100 * i
  ws : d.ws.length ≤ 604 * i
theorem shv_new {n : Nat} (h1 : 1 ≤ n) (h4 : n ≤ 4) : Shv n (Dk.new (2 + 7 * n + 2)) [[], [], [], [], [], [], []] 0 := by
  have hs : (Dk.new (2 + 7 * n + 2)).safe.length = 2 + 7 * n + 2 := by simp [Dk.new]
  refine ⟨Dk.new_ok (by omega), hs, ⟨rfl, rfl⟩, rfl, fun k hk => ?_, fun s _ h => new_now _ s h, ⟨by show (0 : Int) ≤ 0; omega, by show (0 : Int) ≤ _; omega⟩, by show 0 ≤ _; omega⟩
  rw [new_get (by omega) ⟨h1, by show n ≤ 16384; omega, by show 2 + 7 * n ≤ _; omega, by omega⟩ hk]
  have : k = 0 ∨ k = 1 ∨ k = 2 ∨ k = 3 ∨ k = 4 ∨ k = 5 ∨ k = 6 := by omega
  rcases this with rfl | rfl | rfl | rfl | rfl | rfl | rfl <;> rfl
theorem shv_put {n : Nat} {d : Dk} {last : List (List UInt8)} {i : Nat} (h1 : 1 ≤ n) (h4 : n ≤ 4) (h : Shv n d last i) (hi : i < 60) {at_ : Nat} (ha : at_ < 7) {bs : List UInt8} (hb : bs.length ≤ 600) :
    (vput ⟨2, n, 7⟩ d (at_ : Int) bs).2 = (if bs.length ≤ n * 128 - 4 then 0 else 4) ∧ Shv n (vput ⟨2, n, 7⟩ d (at_ : Int) bs).1 (if bs.length ≤ n * 128 - 4 then last.set at_ bs else last) (i + 1) := by
  obtain ⟨ok, size, live, seven, gets, out, done, ws⟩ := h
  have okv : (⟨2, n, 7⟩ : Vt).ok d.safe.length := by rw [size]; exact ⟨h1, by show n ≤ 16384; omega, by show 2 + 7 * n ≤ _; omega, by omega⟩
  have hsz := vput_size ⟨2, n, 7⟩ d (at_ : Int) bs
  have hok := vput_ok (v := ⟨2, n, 7⟩) ok (at_ : Int) bs
  have hws := vput_ws ⟨2, n, 7⟩ d (at_ : Int) bs
  rcases put_facts ok okv live (at_ := at_) ha bs done.1 (by omega) with ⟨f1, f2, f3, f4, f5, f6, f7⟩ | ⟨f1, f2⟩
  · have f1' : bs.length ≤ n * 128 - 4 := f1
    rw [if_pos f1', if_pos f1']
    refine ⟨f2, hok, by rw [hsz, size], f3, by simp [seven], fun k hk => ?_, fun s hs hs2 => (f7 s hs).trans (out s hs hs2), by rw [f4]; omega, by omega⟩
    by_cases hka : k = at_
    · subst hka
      rw [f5, List.getD_eq_getElem?_getD, List.getElem?_set_self (by omega)]
      rfl
    · rw [f6 k hk hka, gets k hk, List.getD_eq_getElem?_getD, List.getD_eq_getElem?_getD, List.getElem?_set_ne (Ne.symm hka)]
  · have f1' : ¬ bs.length ≤ n * 128 - 4 := by
      have : n * 128 - 4 < bs.length := f1
      omega
    rw [if_neg f1', if_neg f1', f2]
    exact ⟨rfl, ok, size, live, seven, gets, out, by show 0 ≤ d.done ∧ d.done ≤ _; omega, by show d.ws.length ≤ _; omega⟩
theorem shelves_read {n : Nat} {d : Dk} {last : List (List UInt8)} {i : Nat} (h : Shv n d last i) {s : Nat} (hs : s < 2 ∨ 2 + 7 * n ≤ s) (hs2 : s < 2 + 7 * n + 2) : d.read (s : Int) = (List.replicate 128 0, 0) := by
  rw [read_at (d := d) (i := s) (by rw [h.size]; exact hs2), if_neg (by rw [h.live.1]; decide), List.getD_eq_getElem?_getD, h.out s hs hs2]
  rfl
set_option maxHeartbeats 1000000 in
set_option maxRecDepth 8000 in
theorem vaultShelves_run {e : Nat} (he : e < 256) {l : List PAct} {v1 : Value} (W : World) (hl : RowK 2 PAct.cs W v1 l) (hin : ∀ a ∈ l, a.In W) :
    CALL Try.prog 33 #[.int .u8 (e : Int), v1] W (fun v w' => v = .bool true ∧ Ext W w') := by
  obtain ⟨a1, c1', ev1⟩ := hl.slice
  have hn64 : l.length ≤ 9223372036854775807 := by
    obtain ⟨_, c, _, h1, h2, _⟩ := hl
    omega
  apply call_law12_VaultShelves
  unfold B_law12_VaultShelves
  refine shown12 ?_
  intro w1 hx1
  refine X_of (run_rem 5 .u8 _ 4 (by decide) _) ?_
  obtain ⟨n, hn⟩ : ∃ n, n = e % 4 + 1 := ⟨_, rfl⟩
  have er : ((e : Nat) : Int).tmod 4 = ((e % 4 : Nat) : Int) := rfl
  have en : ((e % 4 : Nat) : Int) + 1 = (n : Int) := by omega
  rw [er]
  (repeat (first | with_reducible (first | refine Eq.mpr (B_law12_VaultShelves_c9.eq_1 ..) ?_ | refine Eq.mpr (B_law12_VaultShelves_c8.eq_1 ..) ?_ | refine Eq.mpr (B_law12_VaultShelves_c7.eq_1 ..) ?_ | refine Eq.mpr (B_law12_VaultShelves_c6.eq_1 ..) ?_ | refine Eq.mpr (B_law12_VaultShelves_c5.eq_1 ..) ?_ | refine Eq.mpr (B_law12_VaultShelves_c4.eq_1 ..) ?_ | refine Eq.mpr (B_law12_VaultShelves_c3.eq_1 ..) ?_ | refine Eq.mpr (B_law12_VaultShelves_c2.eq_1 ..) ?_ | refine Eq.mpr (B_law12_VaultShelves_c1.eq_1 ..) ?_) | simp only [X_extract0, X_extract1, X_extract2, X_extract3, X_nilS, X_eql_nil_74, X_neq_nil_74, X_eql_nil_124, X_neq_nil_124, X_eql, X_neq, X_lss, X_leq, X_gtr, X_geq, X_not, X_min, X_max, X_len_27, X_len_9, X_len_79, XP_nilS, XP_eql, XP_neq, XP_lss, XP_leq, XP_gtr, XP_geq, XP_not, XP_min, XP_max, XP_len_27, XP_len_9, XP_eql_nil_74, X_str_eql, X_str_neq, XP_str_eql, XP_str_neq, GS, gs_u, decide_true, decide_false, Option.isNone_some, Option.isSome_some, Option.isNone_none, Option.isSome_none, eq_self, Bool.not_true, Bool.not_false, Int.reduceEq, Int.reduceNe, Int.reduceLT, Int.reduceLE, Int.reduceGT, Int.reduceGE]))
  rw [X_conv_5_3, w64 (by omega) (by omega)]
  (repeat (first | with_reducible (first | refine Eq.mpr (B_law12_VaultShelves_c9.eq_1 ..) ?_ | refine Eq.mpr (B_law12_VaultShelves_c8.eq_1 ..) ?_ | refine Eq.mpr (B_law12_VaultShelves_c7.eq_1 ..) ?_ | refine Eq.mpr (B_law12_VaultShelves_c6.eq_1 ..) ?_ | refine Eq.mpr (B_law12_VaultShelves_c5.eq_1 ..) ?_ | refine Eq.mpr (B_law12_VaultShelves_c4.eq_1 ..) ?_ | refine Eq.mpr (B_law12_VaultShelves_c3.eq_1 ..) ?_ | refine Eq.mpr (B_law12_VaultShelves_c2.eq_1 ..) ?_ | refine Eq.mpr (B_law12_VaultShelves_c1.eq_1 ..) ?_) | simp only [X_extract0, X_extract1, X_extract2, X_extract3, X_nilS, X_eql_nil_74, X_neq_nil_74, X_eql_nil_124, X_neq_nil_124, X_eql, X_neq, X_lss, X_leq, X_gtr, X_geq, X_not, X_min, X_max, X_len_27, X_len_9, X_len_79, XP_nilS, XP_eql, XP_neq, XP_lss, XP_leq, XP_gtr, XP_geq, XP_not, XP_min, XP_max, XP_len_27, XP_len_9, XP_eql_nil_74, X_str_eql, X_str_neq, XP_str_eql, XP_str_neq, GS, gs_u, decide_true, decide_false, Option.isNone_some, Option.isSome_some, Option.isNone_none, Option.isSome_none, eq_self, Bool.not_true, Bool.not_false, Int.reduceEq, Int.reduceNe, Int.reduceLT, Int.reduceLE, Int.reduceGT, Int.reduceGE]))
  rw [X_add, w64 (by omega) (by omega), en, X_mul, w64 (by omega) (by omega), X_add, w64 (by omega) (by omega), X_add, w64 (by omega) (by omega)]
  have eN : (2 : Int) + 7 * (n : Int) + 2 = ((2 + 7 * n + 2 : Nat) : Int) := by omega
  rw [eN]
  refine New_disk (fun h => absurd h (by omega)) ?_
  intro m hm _ b w2 hx2 hlow hd2
  obtain rfl : m = 2 + 7 * n + 2 := by omega
  have e0 : decide ((0 : Int) ≠ 0) = false := by decide
  (repeat (first | with_reducible (first | refine Eq.mpr (B_law12_VaultShelves_c9.eq_1 ..) ?_ | refine Eq.mpr (B_law12_VaultShelves_c8.eq_1 ..) ?_ | refine Eq.mpr (B_law12_VaultShelves_c7.eq_1 ..) ?_ | refine Eq.mpr (B_law12_VaultShelves_c6.eq_1 ..) ?_ | refine Eq.mpr (B_law12_VaultShelves_c5.eq_1 ..) ?_ | refine Eq.mpr (B_law12_VaultShelves_c4.eq_1 ..) ?_ | refine Eq.mpr (B_law12_VaultShelves_c3.eq_1 ..) ?_ | refine Eq.mpr (B_law12_VaultShelves_c2.eq_1 ..) ?_ | refine Eq.mpr (B_law12_VaultShelves_c1.eq_1 ..) ?_) | simp only [X_extract0, X_extract1, X_extract2, X_extract3, X_nilS, X_eql_nil_74, X_neq_nil_74, X_eql_nil_124, X_neq_nil_124, X_eql, X_neq, X_lss, X_leq, X_gtr, X_geq, X_not, X_min, X_max, X_len_27, X_len_9, X_len_79, XP_nilS, XP_eql, XP_neq, XP_lss, XP_leq, XP_gtr, XP_geq, XP_not, XP_min, XP_max, XP_len_27, XP_len_9, XP_eql_nil_74, X_str_eql, X_str_neq, XP_str_eql, XP_str_neq, GS, gs_u, decide_true, decide_false, Option.isNone_some, Option.isSome_some, Option.isNone_none, Option.isSome_none, eq_self, Bool.not_true, Bool.not_false, Int.reduceEq, Int.reduceNe, Int.reduceLT, Int.reduceLE, Int.reduceGT, Int.reduceGE]))
  have hv0 := vnewS (n := n) (by omega) (by omega)
  refine VNew_spec hd2 (by omega) (fun h => by rw [hv0] at h; cases h) ?_
  intro V hV bv w3 hx3 hbv hv3
  rw [hv0] at hV
  have eV := Option.some.inj hV
  subst eV
  (repeat (first | with_reducible (first | refine Eq.mpr (B_law12_VaultShelves_c9.eq_1 ..) ?_ | refine Eq.mpr (B_law12_VaultShelves_c8.eq_1 ..) ?_ | refine Eq.mpr (B_law12_VaultShelves_c7.eq_1 ..) ?_ | refine Eq.mpr (B_law12_VaultShelves_c6.eq_1 ..) ?_ | refine Eq.mpr (B_law12_VaultShelves_c5.eq_1 ..) ?_ | refine Eq.mpr (B_law12_VaultShelves_c4.eq_1 ..) ?_ | refine Eq.mpr (B_law12_VaultShelves_c3.eq_1 ..) ?_ | refine Eq.mpr (B_law12_VaultShelves_c2.eq_1 ..) ?_ | refine Eq.mpr (B_law12_VaultShelves_c1.eq_1 ..) ?_) | simp only [X_extract0, X_extract1, X_extract2, X_extract3, X_nilS, X_eql_nil_74, X_neq_nil_74, X_eql_nil_124, X_neq_nil_124, X_eql, X_neq, X_lss, X_leq, X_gtr, X_geq, X_not, X_min, X_max, X_len_27, X_len_9, X_len_79, XP_nilS, XP_eql, XP_neq, XP_lss, XP_leq, XP_gtr, XP_geq, XP_not, XP_min, XP_max, XP_len_27, XP_len_9, XP_eql_nil_74, X_str_eql, X_str_neq, XP_str_eql, XP_str_neq, GS, gs_u, decide_true, decide_false, Option.isNone_some, Option.isSome_some, Option.isNone_none, Option.isSome_none, eq_self, Bool.not_true, Bool.not_false, Int.reduceEq, Int.reduceNe, Int.reduceLT, Int.reduceLE, Int.reduceGT, Int.reduceGE]))
  have hx03 := (hx1.trans hx2).trans hx3
  have hd3 := hd2.ext hx3
  have hb_lt := hd2.lt b (foot_self _ _)
  have low3 : ∀ k, foot w3 b k → W.heap.size ≤ k := fun k hk => Nat.le_trans hx1.size (hlow k ((foot_extV hx3 hb_lt).1 hk))
  refine X_alloc zero_129 ?_
  have hq := newB_get w3 (Strs [[], [], [], [], [], [], []]) 129
  have hxq := newB_ext w3 (Strs [[], [], [], [], [], [], []]) 129
  show X _ _ (newB w3 (Strs [[], [], [], [], [], [], []]) 129) _
  have hd4 := hd3.ext hxq
  have hv4 : VaultAt _ bv b ⟨2, n, 7⟩ := hxq.get hv3
  have low4 : ∀ k, foot (newB w3 (Strs [[], [], [], [], [], [], []]) 129) b k → W.heap.size ≤ k := fun k hk => low3 k ((foot_extV hxq (hd3.lt b (foot_self _ _))).1 hk)
  have hx04 := hx03.trans hxq
  have hqlow : W.heap.size ≤ w3.heap.size := hx03.size
  generalize newB w3 (Strs [[], [], [], [], [], [], []]) 129 = w4 at hq hd4 hv4 low4 hx04 ⊢
  generalize hqe : w3.heap.size = q at hq hqlow ⊢
  rw [ev1]
  (repeat (first | with_reducible (first | refine Eq.mpr (B_law12_VaultShelves_c9.eq_1 ..) ?_ | refine Eq.mpr (B_law12_VaultShelves_c8.eq_1 ..) ?_ | refine Eq.mpr (B_law12_VaultShelves_c7.eq_1 ..) ?_ | refine Eq.mpr (B_law12_VaultShelves_c6.eq_1 ..) ?_ | refine Eq.mpr (B_law12_VaultShelves_c5.eq_1 ..) ?_ | refine Eq.mpr (B_law12_VaultShelves_c4.eq_1 ..) ?_ | refine Eq.mpr (B_law12_VaultShelves_c3.eq_1 ..) ?_ | refine Eq.mpr (B_law12_VaultShelves_c2.eq_1 ..) ?_ | refine Eq.mpr (B_law12_VaultShelves_c1.eq_1 ..) ?_) | simp only [X_extract0, X_extract1, X_extract2, X_extract3, X_nilS, X_eql_nil_74, X_neq_nil_74, X_eql_nil_124, X_neq_nil_124, X_eql, X_neq, X_lss, X_leq, X_gtr, X_geq, X_not, X_min, X_max, X_len_27, X_len_9, X_len_79, XP_nilS, XP_eql, XP_neq, XP_lss, XP_leq, XP_gtr, XP_geq, XP_not, XP_min, XP_max, XP_len_27, XP_len_9, XP_eql_nil_74, X_str_eql, X_str_neq, XP_str_eql, XP_str_neq, GS, gs_u, decide_true, decide_false, Option.isNone_some, Option.isSome_some, Option.isNone_none, Option.isSome_none, eq_self, Bool.not_true, Bool.not_false, Int.reduceEq, Int.reduceNe, Int.reduceLT, Int.reduceLE, Int.reduceGT, Int.reduceGE]))
  rw [X_len_128, ← ev1]
  have hsh0 := shv_new (n := n) (by omega) (by omega)
  generalize Dk.new (2 + 7 * n + 2) = d0 at hd4 hsh0
  refine loopG 0 (fun ρ wr => ∃ (i : Nat) (d : Dk) (last : List (List UInt8)), i ≤ l.length ∧ i ≤ 60 ∧ DiskAt wr b d ∧ VaultAt wr bv b ⟨2, n, 7⟩ ∧ Shv n d last i ∧ wr.heap[q]? = some (.cells (Strs last) 129 (0, 0)) ∧ Ext W wr ∧ (∀ k, foot wr b k → W.heap.size ≤ k) ∧
      ρ 50 = .int .i64 (i : Int) ∧ ρ 49 = .int .i64 (l.length : Int) ∧ ρ 48 = v1 ∧ ρ 9 = ptr bv ∧ ρ 11 = ptr q ∧ ρ 7 = ptr b ∧ ρ 5 = .bool true)
    (fun ρ wr => match ρ 50 with | .int _ s => (l.length - s).toNat | _ => 0)
    (fun ρ wr => ∃ (i : Nat) (d : Dk) (last : List (List UInt8)), DiskAt wr b d ∧ Shv n d last i ∧ Ext W wr ∧ ρ 7 = ptr b ∧ ρ 5 = .bool true) ?_ ?_ ?_
  · exact ⟨0, _, _, by omega, by omega, hd4, hv4, hsh0, hq, hx04, low4, rfl, rfl, rfl, rfl, rfl, rfl, rfl⟩
  · rintro J hJ ρ wr ⟨i, d, last, hi, hi60, hd, hv, hsh, hq, hx, low, r50, r49, r48, r9, r11, r7, r5⟩
    (first | with_reducible (first | refine Eq.mpr (B_law12_VaultShelves_c9.eq_1 ..) ?_ | refine Eq.mpr (B_law12_VaultShelves_c8.eq_1 ..) ?_ | refine Eq.mpr (B_law12_VaultShelves_c7.eq_1 ..) ?_ | refine Eq.mpr (B_law12_VaultShelves_c6.eq_1 ..) ?_ | refine Eq.mpr (B_law12_VaultShelves_c5.eq_1 ..) ?_ | refine Eq.mpr (B_law12_VaultShelves_c4.eq_1 ..) ?_ | refine Eq.mpr (B_law12_VaultShelves_c3.eq_1 ..) ?_ | refine Eq.mpr (B_law12_VaultShelves_c2.eq_1 ..) ?_ | refine Eq.mpr (B_law12_VaultShelves_c1.eq_1 ..) ?_))
    rw [r50, r49, r48]
    (repeat (first | with_reducible (first | refine Eq.mpr (B_law12_VaultShelves_c9.eq_1 ..) ?_ | refine Eq.mpr (B_law12_VaultShelves_c8.eq_1 ..) ?_ | refine Eq.mpr (B_law12_VaultShelves_c7.eq_1 ..) ?_ | refine Eq.mpr (B_law12_VaultShelves_c6.eq_1 ..) ?_ | refine Eq.mpr (B_law12_VaultShelves_c5.eq_1 ..) ?_ | refine Eq.mpr (B_law12_VaultShelves_c4.eq_1 ..) ?_ | refine Eq.mpr (B_law12_VaultShelves_c3.eq_1 ..) ?_ | refine Eq.mpr (B_law12_VaultShelves_c2.eq_1 ..) ?_ | refine Eq.mpr (B_law12_VaultShelves_c1.eq_1 ..) ?_) | simp only [X_extract0, X_extract1, X_extract2, X_extract3, X_nilS, X_eql_nil_74, X_neq_nil_74, X_eql_nil_124, X_neq_nil_124, X_eql, X_neq, X_lss, X_leq, X_gtr, X_geq, X_not, X_min, X_max, X_len_27, X_len_9, X_len_79, XP_nilS, XP_eql, XP_neq, XP_lss, XP_leq, XP_gtr, XP_geq, XP_not, XP_min, XP_max, XP_len_27, XP_len_9, XP_eql_nil_74, X_str_eql, X_str_neq, XP_str_eql, XP_str_neq, GS, gs_u, decide_true, decide_false, Option.isNone_some, Option.isSome_some, Option.isNone_none, Option.isSome_none, eq_self, Bool.not_true, Bool.not_false, Int.reduceEq, Int.reduceNe, Int.reduceLT, Int.reduceLE, Int.reduceGT, Int.reduceGE]))
    by_cases hil : i = l.length
    · have c : decide ((i : Int) < (l.length : Int)) = false := by simp; omega
      (repeat (first | with_reducible (first | refine Eq.mpr (B_law12_VaultShelves_c9.eq_1 ..) ?_ | refine Eq.mpr (B_law12_VaultShelves_c8.eq_1 ..) ?_ | refine Eq.mpr (B_law12_VaultShelves_c7.eq_1 ..) ?_ | refine Eq.mpr (B_law12_VaultShelves_c6.eq_1 ..) ?_ | refine Eq.mpr (B_law12_VaultShelves_c5.eq_1 ..) ?_ | refine Eq.mpr (B_law12_VaultShelves_c4.eq_1 ..) ?_ | refine Eq.mpr (B_law12_VaultShelves_c3.eq_1 ..) ?_ | refine Eq.mpr (B_law12_VaultShelves_c2.eq_1 ..) ?_ | refine Eq.mpr (B_law12_VaultShelves_c1.eq_1 ..) ?_) | simp only [X_extract0, X_extract1, X_extract2, X_extract3, X_nilS, X_eql_nil_74, X_neq_nil_74, X_eql_nil_124, X_neq_nil_124, X_eql, X_neq, X_lss, X_leq, X_gtr, X_geq, X_not, X_min, X_max, X_len_27, X_len_9, X_len_79, XP_nilS, XP_eql, XP_neq, XP_lss, XP_leq, XP_gtr, XP_geq, XP_not, XP_min, XP_max, XP_len_27, XP_len_9, XP_eql_nil_74, X_str_eql, X_str_neq, XP_str_eql, XP_str_neq, GS, gs_u, decide_true, decide_false, Option.isNone_some, Option.isSome_some, Option.isNone_none, Option.isSome_none, eq_self, Bool.not_true, Bool.not_false, Int.reduceEq, Int.reduceNe, Int.reduceLT, Int.reduceLE, Int.reduceGT, Int.reduceGE, c]))
      exact hJ _ _ ⟨i, d, last, hd, hsh, hx, r7, r5⟩
    have hlt : i < l.length := by omega
    have c : decide ((i : Int) < (l.length : Int)) = true := by simp; omega
    (repeat (first | with_reducible (first | refine Eq.mpr (B_law12_VaultShelves_c9.eq_1 ..) ?_ | refine Eq.mpr (B_law12_VaultShelves_c8.eq_1 ..) ?_ | refine Eq.mpr (B_law12_VaultShelves_c7.eq_1 ..) ?_ | refine Eq.mpr (B_law12_VaultShelves_c6.eq_1 ..) ?_ | refine Eq.mpr (B_law12_VaultShelves_c5.eq_1 ..) ?_ | refine Eq.mpr (B_law12_VaultShelves_c4.eq_1 ..) ?_ | refine Eq.mpr (B_law12_VaultShelves_c3.eq_1 ..) ?_ | refine Eq.mpr (B_law12_VaultShelves_c2.eq_1 ..) ?_ | refine Eq.mpr (B_law12_VaultShelves_c1.eq_1 ..) ?_) | simp only [X_extract0, X_extract1, X_extract2, X_extract3, X_nilS, X_eql_nil_74, X_neq_nil_74, X_eql_nil_124, X_neq_nil_124, X_eql, X_neq, X_lss, X_leq, X_gtr, X_geq, X_not, X_min, X_max, X_len_27, X_len_9, X_len_79, XP_nilS, XP_eql, XP_neq, XP_lss, XP_leq, XP_gtr, XP_geq, XP_not, XP_min, XP_max, XP_len_27, XP_len_9, XP_eql_nil_74, X_str_eql, X_str_neq, XP_str_eql, XP_str_neq, GS, gs_u, decide_true, decide_false, Option.isNone_some, Option.isSome_some, Option.isNone_none, Option.isSome_none, eq_self, Bool.not_true, Bool.not_false, Int.reduceEq, Int.reduceNe, Int.reduceLT, Int.reduceLE, Int.reduceGT, Int.reduceGE, c]))
    refine X_takePut (hl.ext hx) hlt ((hin _ (List.getElem_mem hlt)).ext hx) ?_
    intro u1 u2 qa w5 hx5 _ hqa
    have hinW := hin _ (List.getElem_mem hlt)
    have hin5 := (hinW.ext hx).ext hx5
    generalize l[i] = a at hqa hin5 hinW
    obtain ⟨ab, cb, eb⟩ := Bts.slice hin5.bts
    have hd5 := hd.ext hx5
    have hv5 : VaultAt w5 bv b ⟨2, n, 7⟩ := hx5.get hv
    have hq5 := hx5.get hq
    have low5 : ∀ k, foot w5 b k → W.heap.size ≤ k := fun k hk => low k ((foot_extV hx5 (hd.lt b (foot_self _ _))).1 hk)
    have hx05 := hx.trans hx5
    (repeat (first | with_reducible (first | refine Eq.mpr (B_law12_VaultShelves_c9.eq_1 ..) ?_ | refine Eq.mpr (B_law12_VaultShelves_c8.eq_1 ..) ?_ | refine Eq.mpr (B_law12_VaultShelves_c7.eq_1 ..) ?_ | refine Eq.mpr (B_law12_VaultShelves_c6.eq_1 ..) ?_ | refine Eq.mpr (B_law12_VaultShelves_c5.eq_1 ..) ?_ | refine Eq.mpr (B_law12_VaultShelves_c4.eq_1 ..) ?_ | refine Eq.mpr (B_law12_VaultShelves_c3.eq_1 ..) ?_ | refine Eq.mpr (B_law12_VaultShelves_c2.eq_1 ..) ?_ | refine Eq.mpr (B_law12_VaultShelves_c1.eq_1 ..) ?_) | simp only [X_extract0, X_extract1, X_extract2, X_extract3, X_nilS, X_eql_nil_74, X_neq_nil_74, X_eql_nil_124, X_neq_nil_124, X_eql, X_neq, X_lss, X_leq, X_gtr, X_geq, X_not, X_min, X_max, X_len_27, X_len_9, X_len_79, XP_nilS, XP_eql, XP_neq, XP_lss, XP_leq, XP_gtr, XP_geq, XP_not, XP_min, XP_max, XP_len_27, XP_len_9, XP_eql_nil_74, X_str_eql, X_str_neq, XP_str_eql, XP_str_neq, GS, gs_u, decide_true, decide_false, Option.isNone_some, Option.isSome_some, Option.isNone_none, Option.isSome_none, eq_self, Bool.not_true, Bool.not_false, Int.reduceEq, Int.reduceNe, Int.reduceLT, Int.reduceLE, Int.reduceGT, Int.reduceGE]))
    by_cases h60 : i = 60
    · have c : decide ((i : Int) ≥ 60) = true := by simp; omega
      (repeat (first | with_reducible (first | refine Eq.mpr (B_law12_VaultShelves_c9.eq_1 ..) ?_ | refine Eq.mpr (B_law12_VaultShelves_c8.eq_1 ..) ?_ | refine Eq.mpr (B_law12_VaultShelves_c7.eq_1 ..) ?_ | refine Eq.mpr (B_law12_VaultShelves_c6.eq_1 ..) ?_ | refine Eq.mpr (B_law12_VaultShelves_c5.eq_1 ..) ?_ | refine Eq.mpr (B_law12_VaultShelves_c4.eq_1 ..) ?_ | refine Eq.mpr (B_law12_VaultShelves_c3.eq_1 ..) ?_ | refine Eq.mpr (B_law12_VaultShelves_c2.eq_1 ..) ?_ | refine Eq.mpr (B_law12_VaultShelves_c1.eq_1 ..) ?_) | simp only [X_extract0, X_extract1, X_extract2, X_extract3, X_nilS, X_eql_nil_74, X_neq_nil_74, X_eql_nil_124, X_neq_nil_124, X_eql, X_neq, X_lss, X_leq, X_gtr, X_geq, X_not, X_min, X_max, X_len_27, X_len_9, X_len_79, XP_nilS, XP_eql, XP_neq, XP_lss, XP_leq, XP_gtr, XP_geq, XP_not, XP_min, XP_max, XP_len_27, XP_len_9, XP_eql_nil_74, X_str_eql, X_str_neq, XP_str_eql, XP_str_neq, GS, gs_u, decide_true, decide_false, Option.isNone_some, Option.isSome_some, Option.isNone_none, Option.isSome_none, eq_self, Bool.not_true, Bool.not_false, Int.reduceEq, Int.reduceNe, Int.reduceLT, Int.reduceLE, Int.reduceGT, Int.reduceGE, c]))
      exact hJ _ _ ⟨i, d, last, hd5, hsh, hx05, r7, r5⟩
    have c : decide ((i : Int) ≥ 60) = false := by simp; omega
    (repeat (first | with_reducible (first | refine Eq.mpr (B_law12_VaultShelves_c9.eq_1 ..) ?_ | refine Eq.mpr (B_law12_VaultShelves_c8.eq_1 ..) ?_ | refine Eq.mpr (B_law12_VaultShelves_c7.eq_1 ..) ?_ | refine Eq.mpr (B_law12_VaultShelves_c6.eq_1 ..) ?_ | refine Eq.mpr (B_law12_VaultShelves_c5.eq_1 ..) ?_ | refine Eq.mpr (B_law12_VaultShelves_c4.eq_1 ..) ?_ | refine Eq.mpr (B_law12_VaultShelves_c3.eq_1 ..) ?_ | refine Eq.mpr (B_law12_VaultShelves_c2.eq_1 ..) ?_ | refine Eq.mpr (B_law12_VaultShelves_c1.eq_1 ..) ?_) | simp only [X_extract0, X_extract1, X_extract2, X_extract3, X_nilS, X_eql_nil_74, X_neq_nil_74, X_eql_nil_124, X_neq_nil_124, X_eql, X_neq, X_lss, X_leq, X_gtr, X_geq, X_not, X_min, X_max, X_len_27, X_len_9, X_len_79, XP_nilS, XP_eql, XP_neq, XP_lss, XP_leq, XP_gtr, XP_geq, XP_not, XP_min, XP_max, XP_len_27, XP_len_9, XP_eql_nil_74, X_str_eql, X_str_neq, XP_str_eql, XP_str_neq, GS, gs_u, decide_true, decide_false, Option.isNone_some, Option.isSome_some, Option.isNone_none, Option.isSome_none, eq_self, Bool.not_true, Bool.not_false, Int.reduceEq, Int.reduceNe, Int.reduceLT, Int.reduceLE, Int.reduceGT, Int.reduceGE, c]))
    rw [X_field_131_1]
    refine X_loadL agg_27 hqa (v := a.bv) rfl ?_
    rw [eb]
    (repeat (first | with_reducible (first | refine Eq.mpr (B_law12_VaultShelves_c9.eq_1 ..) ?_ | refine Eq.mpr (B_law12_VaultShelves_c8.eq_1 ..) ?_ | refine Eq.mpr (B_law12_VaultShelves_c7.eq_1 ..) ?_ | refine Eq.mpr (B_law12_VaultShelves_c6.eq_1 ..) ?_ | refine Eq.mpr (B_law12_VaultShelves_c5.eq_1 ..) ?_ | refine Eq.mpr (B_law12_VaultShelves_c4.eq_1 ..) ?_ | refine Eq.mpr (B_law12_VaultShelves_c3.eq_1 ..) ?_ | refine Eq.mpr (B_law12_VaultShelves_c2.eq_1 ..) ?_ | refine Eq.mpr (B_law12_VaultShelves_c1.eq_1 ..) ?_) | simp only [X_extract0, X_extract1, X_extract2, X_extract3, X_nilS, X_eql_nil_74, X_neq_nil_74, X_eql_nil_124, X_neq_nil_124, X_eql, X_neq, X_lss, X_leq, X_gtr, X_geq, X_not, X_min, X_max, X_len_27, X_len_9, X_len_79, XP_nilS, XP_eql, XP_neq, XP_lss, XP_leq, XP_gtr, XP_geq, XP_not, XP_min, XP_max, XP_len_27, XP_len_9, XP_eql_nil_74, X_str_eql, X_str_neq, XP_str_eql, XP_str_neq, GS, gs_u, decide_true, decide_false, Option.isNone_some, Option.isSome_some, Option.isNone_none, Option.isSome_none, eq_self, Bool.not_true, Bool.not_false, Int.reduceEq, Int.reduceNe, Int.reduceLT, Int.reduceLE, Int.reduceGT, Int.reduceGE]))
    by_cases h6 : 600 < a.bs.length
    · have c : decide ((a.bs.length : Int) > 600) = true := by simp; omega
      (repeat (first | with_reducible (first | refine Eq.mpr (B_law12_VaultShelves_c9.eq_1 ..) ?_ | refine Eq.mpr (B_law12_VaultShelves_c8.eq_1 ..) ?_ | refine Eq.mpr (B_law12_VaultShelves_c7.eq_1 ..) ?_ | refine Eq.mpr (B_law12_VaultShelves_c6.eq_1 ..) ?_ | refine Eq.mpr (B_law12_VaultShelves_c5.eq_1 ..) ?_ | refine Eq.mpr (B_law12_VaultShelves_c4.eq_1 ..) ?_ | refine Eq.mpr (B_law12_VaultShelves_c3.eq_1 ..) ?_ | refine Eq.mpr (B_law12_VaultShelves_c2.eq_1 ..) ?_ | refine Eq.mpr (B_law12_VaultShelves_c1.eq_1 ..) ?_) | simp only [X_extract0, X_extract1, X_extract2, X_extract3, X_nilS, X_eql_nil_74, X_neq_nil_74, X_eql_nil_124, X_neq_nil_124, X_eql, X_neq, X_lss, X_leq, X_gtr, X_geq, X_not, X_min, X_max, X_len_27, X_len_9, X_len_79, XP_nilS, XP_eql, XP_neq, XP_lss, XP_leq, XP_gtr, XP_geq, XP_not, XP_min, XP_max, XP_len_27, XP_len_9, XP_eql_nil_74, X_str_eql, X_str_neq, XP_str_eql, XP_str_neq, GS, gs_u, decide_true, decide_false, Option.isNone_some, Option.isSome_some, Option.isNone_none, Option.isSome_none, eq_self, Bool.not_true, Bool.not_false, Int.reduceEq, Int.reduceNe, Int.reduceLT, Int.reduceLE, Int.reduceGT, Int.reduceGE, c]))
      exact hJ _ _ ⟨i, d, last, hd5, hsh, hx05, r7, r5⟩
    have c : decide ((a.bs.length : Int) > 600) = false := by simp; omega
    (repeat (first | with_reducible (first | refine Eq.mpr (B_law12_VaultShelves_c9.eq_1 ..) ?_ | refine Eq.mpr (B_law12_VaultShelves_c8.eq_1 ..) ?_ | refine Eq.mpr (B_law12_VaultShelves_c7.eq_1 ..) ?_ | refine Eq.mpr (B_law12_VaultShelves_c6.eq_1 ..) ?_ | refine Eq.mpr (B_law12_VaultShelves_c5.eq_1 ..) ?_ | refine Eq.mpr (B_law12_VaultShelves_c4.eq_1 ..) ?_ | refine Eq.mpr (B_law12_VaultShelves_c3.eq_1 ..) ?_ | refine Eq.mpr (B_law12_VaultShelves_c2.eq_1 ..) ?_ | refine Eq.mpr (B_law12_VaultShelves_c1.eq_1 ..) ?_) | simp only [X_extract0, X_extract1, X_extract2, X_extract3, X_nilS, X_eql_nil_74, X_neq_nil_74, X_eql_nil_124, X_neq_nil_124, X_eql, X_neq, X_lss, X_leq, X_gtr, X_geq, X_not, X_min, X_max, X_len_27, X_len_9, X_len_79, XP_nilS, XP_eql, XP_neq, XP_lss, XP_leq, XP_gtr, XP_geq, XP_not, XP_min, XP_max, XP_len_27, XP_len_9, XP_eql_nil_74, X_str_eql, X_str_neq, XP_str_eql, XP_str_neq, GS, gs_u, decide_true, decide_false, Option.isNone_some, Option.isSome_some, Option.isNone_none, Option.isSome_none, eq_self, Bool.not_true, Bool.not_false, Int.reduceEq, Int.reduceNe, Int.reduceLT, Int.reduceLE, Int.reduceGT, Int.reduceGE, c]))
    rw [X_field_131_0]
    refine X_loadL agg_5 hqa (v := .int .u8 (a.pos : Int)) rfl ?_
    refine X_of (run_rem 5 .u8 _ 7 (by decide) _) ?_
    have ea : ((a.pos : Nat) : Int).tmod 7 = ((a.pos % 7 : Nat) : Int) := rfl
    rw [ea, X_conv_5_3, w64 (by omega) (by omega)]
    obtain ⟨t, ht⟩ : ∃ t, t = a.pos % 7 := ⟨_, rfl⟩
    have ht7 : t < 7 := by omega
    rw [← ht]
    (repeat (first | with_reducible (first | refine Eq.mpr (B_law12_VaultShelves_c9.eq_1 ..) ?_ | refine Eq.mpr (B_law12_VaultShelves_c8.eq_1 ..) ?_ | refine Eq.mpr (B_law12_VaultShelves_c7.eq_1 ..) ?_ | refine Eq.mpr (B_law12_VaultShelves_c6.eq_1 ..) ?_ | refine Eq.mpr (B_law12_VaultShelves_c5.eq_1 ..) ?_ | refine Eq.mpr (B_law12_VaultShelves_c4.eq_1 ..) ?_ | refine Eq.mpr (B_law12_VaultShelves_c3.eq_1 ..) ?_ | refine Eq.mpr (B_law12_VaultShelves_c2.eq_1 ..) ?_ | refine Eq.mpr (B_law12_VaultShelves_c1.eq_1 ..) ?_) | simp only [X_extract0, X_extract1, X_extract2, X_extract3, X_nilS, X_eql_nil_74, X_neq_nil_74, X_eql_nil_124, X_neq_nil_124, X_eql, X_neq, X_lss, X_leq, X_gtr, X_geq, X_not, X_min, X_max, X_len_27, X_len_9, X_len_79, XP_nilS, XP_eql, XP_neq, XP_lss, XP_leq, XP_gtr, XP_geq, XP_not, XP_min, XP_max, XP_len_27, XP_len_9, XP_eql_nil_74, X_str_eql, X_str_neq, XP_str_eql, XP_str_neq, GS, gs_u, decide_true, decide_false, Option.isNone_some, Option.isSome_some, Option.isNone_none, Option.isSome_none, eq_self, Bool.not_true, Bool.not_false, Int.reduceEq, Int.reduceNe, Int.reduceLT, Int.reduceLE, Int.reduceGT, Int.reduceGE]))
    rw [X_field_131_1]
    refine X_loadL agg_27 hqa (v := a.bv) rfl ?_
    (repeat (first | with_reducible (first | refine Eq.mpr (B_law12_VaultShelves_c9.eq_1 ..) ?_ | refine Eq.mpr (B_law12_VaultShelves_c8.eq_1 ..) ?_ | refine Eq.mpr (B_law12_VaultShelves_c7.eq_1 ..) ?_ | refine Eq.mpr (B_law12_VaultShelves_c6.eq_1 ..) ?_ | refine Eq.mpr (B_law12_VaultShelves_c5.eq_1 ..) ?_ | refine Eq.mpr (B_law12_VaultShelves_c4.eq_1 ..) ?_ | refine Eq.mpr (B_law12_VaultShelves_c3.eq_1 ..) ?_ | refine Eq.mpr (B_law12_VaultShelves_c2.eq_1 ..) ?_ | refine Eq.mpr (B_law12_VaultShelves_c1.eq_1 ..) ?_) | simp only [X_extract0, X_extract1, X_extract2, X_extract3, X_nilS, X_eql_nil_74, X_neq_nil_74, X_eql_nil_124, X_neq_nil_124, X_eql, X_neq, X_lss, X_leq, X_gtr, X_geq, X_not, X_min, X_max, X_len_27, X_len_9, X_len_79, XP_nilS, XP_eql, XP_neq, XP_lss, XP_leq, XP_gtr, XP_geq, XP_not, XP_min, XP_max, XP_len_27, XP_len_9, XP_eql_nil_74, X_str_eql, X_str_neq, XP_str_eql, XP_str_neq, GS, gs_u, decide_true, decide_false, Option.isNone_some, Option.isSome_some, Option.isNone_none, Option.isSome_none, eq_self, Bool.not_true, Bool.not_false, Int.reduceEq, Int.reduceNe, Int.reduceLT, Int.reduceLE, Int.reduceGT, Int.reduceGE]))
    rw [r9]
    have okv : (⟨2, n, 7⟩ : Vt).ok d.safe.length := by rw [hsh.size]; exact ⟨by show 1 ≤ n; omega, by show n ≤ 16384; omega, by show 2 + 7 * n ≤ _; omega, by omega⟩
    refine VPut_spec hv5 hd5 okv (by have := hsh.ws; omega) hin5.bts ?_
    intro w6 hd6 s6
    obtain ⟨p1, p2⟩ := shv_put (n := n) (by omega) (by omega) hsh (by omega) ht7 (bs := a.bs) (by omega)
    generalize vput ⟨2, n, 7⟩ d (t : Int) a.bs = r at hd6 p1 p2 ⊢
    have hx06 := s6.out hx05 low5
    have low6 := s6.low hx05.size low5
    have hv6 : VaultAt w6 bv b ⟨2, n, 7⟩ := s6.keep.get (hd5.notin hv5 (by decide) (by decide) (by decide)) hv5
    have hq6 := s6.keep.get (hd5.notin hq5 (by decide) (by decide) (by decide)) hq5
    have hqa6 := s6.keep.get (hd5.notin hqa (by decide) (by decide) (by decide)) hqa
    have hb6 : Bts w6 a.bv a.bs := (hinW.ext hx06).bts
    obtain ⟨last', hlast⟩ : ∃ x, x = (if a.bs.length ≤ n * 128 - 4 then last.set t a.bs else last) := ⟨_, rfl⟩
    rw [← hlast] at p2
    have okv6 : (⟨2, n, 7⟩ : Vt).ok r.1.safe.length := by rw [p2.size, ← hsh.size]; exact okv
    have hqad : (drewW w6).heap[qa]? = some (.cells a.cs.toArray 131 (0, 0)) := hqa6
    have hvd : VaultAt (drewW w6) bv b ⟨2, n, 7⟩ := hv6
    have hdd := hd6.ext (Keep.drew (fun _ => False) w6)
    (first | with_reducible (first | refine Eq.mpr (B_law12_VaultShelves_c9.eq_1 ..) ?_ | refine Eq.mpr (B_law12_VaultShelves_c8.eq_1 ..) ?_ | refine Eq.mpr (B_law12_VaultShelves_c7.eq_1 ..) ?_ | refine Eq.mpr (B_law12_VaultShelves_c6.eq_1 ..) ?_ | refine Eq.mpr (B_law12_VaultShelves_c5.eq_1 ..) ?_ | refine Eq.mpr (B_law12_VaultShelves_c4.eq_1 ..) ?_ | refine Eq.mpr (B_law12_VaultShelves_c3.eq_1 ..) ?_ | refine Eq.mpr (B_law12_VaultShelves_c2.eq_1 ..) ?_ | refine Eq.mpr (B_law12_VaultShelves_c1.eq_1 ..) ?_))
    refine ⟨Ext, Ext.frame, ?_⟩
    (repeat (first | with_reducible (first | refine Eq.mpr (B_law12_VaultShelves_c9.eq_1 ..) ?_ | refine Eq.mpr (B_law12_VaultShelves_c8.eq_1 ..) ?_ | refine Eq.mpr (B_law12_VaultShelves_c7.eq_1 ..) ?_ | refine Eq.mpr (B_law12_VaultShelves_c6.eq_1 ..) ?_ | refine Eq.mpr (B_law12_VaultShelves_c5.eq_1 ..) ?_ | refine Eq.mpr (B_law12_VaultShelves_c4.eq_1 ..) ?_ | refine Eq.mpr (B_law12_VaultShelves_c3.eq_1 ..) ?_ | refine Eq.mpr (B_law12_VaultShelves_c2.eq_1 ..) ?_ | refine Eq.mpr (B_law12_VaultShelves_c1.eq_1 ..) ?_) | simp only [X_extract0, X_extract1, X_extract2, X_extract3, X_nilS, X_eql_nil_74, X_neq_nil_74, X_eql_nil_124, X_neq_nil_124, X_eql, X_neq, X_lss, X_leq, X_gtr, X_geq, X_not, X_min, X_max, X_len_27, X_len_9, X_len_79, XP_nilS, XP_eql, XP_neq, XP_lss, XP_leq, XP_gtr, XP_geq, XP_not, XP_min, XP_max, XP_len_27, XP_len_9, XP_eql_nil_74, X_str_eql, X_str_neq, XP_str_eql, XP_str_neq, GS, gs_u, decide_true, decide_false, Option.isNone_some, Option.isSome_some, Option.isNone_none, Option.isSome_none, eq_self, Bool.not_true, Bool.not_false, Int.reduceEq, Int.reduceNe, Int.reduceLT, Int.reduceLE, Int.reduceGT, Int.reduceGE]))
    rw [XP_field_131_1]
    refine XR_ok Ext.frame (fun w' k => run_loadAt agg_27 (blk_get (k.get hqad) (v := a.bv) rfl)) ?_
    rw [eb]
    (repeat (first | with_reducible (first | refine Eq.mpr (B_law12_VaultShelves_c9.eq_1 ..) ?_ | refine Eq.mpr (B_law12_VaultShelves_c8.eq_1 ..) ?_ | refine Eq.mpr (B_law12_VaultShelves_c7.eq_1 ..) ?_ | refine Eq.mpr (B_law12_VaultShelves_c6.eq_1 ..) ?_ | refine Eq.mpr (B_law12_VaultShelves_c5.eq_1 ..) ?_ | refine Eq.mpr (B_law12_VaultShelves_c4.eq_1 ..) ?_ | refine Eq.mpr (B_law12_VaultShelves_c3.eq_1 ..) ?_ | refine Eq.mpr (B_law12_VaultShelves_c2.eq_1 ..) ?_ | refine Eq.mpr (B_law12_VaultShelves_c1.eq_1 ..) ?_) | simp only [X_extract0, X_extract1, X_extract2, X_extract3, X_nilS, X_eql_nil_74, X_neq_nil_74, X_eql_nil_124, X_neq_nil_124, X_eql, X_neq, X_lss, X_leq, X_gtr, X_geq, X_not, X_min, X_max, X_len_27, X_len_9, X_len_79, XP_nilS, XP_eql, XP_neq, XP_lss, XP_leq, XP_gtr, XP_geq, XP_not, XP_min, XP_max, XP_len_27, XP_len_9, XP_eql_nil_74, X_str_eql, X_str_neq, XP_str_eql, XP_str_neq, GS, gs_u, decide_true, decide_false, Option.isNone_some, Option.isSome_some, Option.isNone_none, Option.isSome_none, eq_self, Bool.not_true, Bool.not_false, Int.reduceEq, Int.reduceNe, Int.reduceLT, Int.reduceLE, Int.reduceGT, Int.reduceGE]))
    rw [← eb, r9]
    refine VRoom_spec hvd okv6 ?_
    refine ⟨Keep.refl _ _, ?_⟩
    have eroom : (((⟨2, n, 7⟩ : Vt).room : Nat) : Int) = ((n * 128 - 4 : Nat) : Int) := rfl
    rw [eroom]
    (repeat (first | with_reducible (first | refine Eq.mpr (B_law12_VaultShelves_c9.eq_1 ..) ?_ | refine Eq.mpr (B_law12_VaultShelves_c8.eq_1 ..) ?_ | refine Eq.mpr (B_law12_VaultShelves_c7.eq_1 ..) ?_ | refine Eq.mpr (B_law12_VaultShelves_c6.eq_1 ..) ?_ | refine Eq.mpr (B_law12_VaultShelves_c5.eq_1 ..) ?_ | refine Eq.mpr (B_law12_VaultShelves_c4.eq_1 ..) ?_ | refine Eq.mpr (B_law12_VaultShelves_c3.eq_1 ..) ?_ | refine Eq.mpr (B_law12_VaultShelves_c2.eq_1 ..) ?_ | refine Eq.mpr (B_law12_VaultShelves_c1.eq_1 ..) ?_) | simp only [X_extract0, X_extract1, X_extract2, X_extract3, X_nilS, X_eql_nil_74, X_neq_nil_74, X_eql_nil_124, X_neq_nil_124, X_eql, X_neq, X_lss, X_leq, X_gtr, X_geq, X_not, X_min, X_max, X_len_27, X_len_9, X_len_79, XP_nilS, XP_eql, XP_neq, XP_lss, XP_leq, XP_gtr, XP_geq, XP_not, XP_min, XP_max, XP_len_27, XP_len_9, XP_eql_nil_74, X_str_eql, X_str_neq, XP_str_eql, XP_str_neq, GS, gs_u, decide_true, decide_false, Option.isNone_some, Option.isSome_some, Option.isNone_none, Option.isSome_none, eq_self, Bool.not_true, Bool.not_false, Int.reduceEq, Int.reduceNe, Int.reduceLT, Int.reduceLE, Int.reduceGT, Int.reduceGE]))
    refine XP_of (fun w => Go.Sh.run_neq_bool Try.underlying4 _ _ _ _ w) ?_
    have bF : decide (r.2 = 0) = decide ((a.bs.length : Int) ≤ ((n * 128 - 4 : Nat) : Int)) := by
      rw [p1]
      by_cases h : a.bs.length ≤ n * 128 - 4
      · rw [if_pos h]; simp; omega
      · rw [if_neg h]; simp; omega
    have nb : ∀ x : Bool, (x != x) = false := fun x => by cases x <;> rfl
    rw [← bF, nb]
    (repeat (first | with_reducible (first | refine Eq.mpr (B_law12_VaultShelves_c9.eq_1 ..) ?_ | refine Eq.mpr (B_law12_VaultShelves_c8.eq_1 ..) ?_ | refine Eq.mpr (B_law12_VaultShelves_c7.eq_1 ..) ?_ | refine Eq.mpr (B_law12_VaultShelves_c6.eq_1 ..) ?_ | refine Eq.mpr (B_law12_VaultShelves_c5.eq_1 ..) ?_ | refine Eq.mpr (B_law12_VaultShelves_c4.eq_1 ..) ?_ | refine Eq.mpr (B_law12_VaultShelves_c3.eq_1 ..) ?_ | refine Eq.mpr (B_law12_VaultShelves_c2.eq_1 ..) ?_ | refine Eq.mpr (B_law12_VaultShelves_c1.eq_1 ..) ?_) | simp only [X_extract0, X_extract1, X_extract2, X_extract3, X_nilS, X_eql_nil_74, X_neq_nil_74, X_eql_nil_124, X_neq_nil_124, X_eql, X_neq, X_lss, X_leq, X_gtr, X_geq, X_not, X_min, X_max, X_len_27, X_len_9, X_len_79, XP_nilS, XP_eql, XP_neq, XP_lss, XP_leq, XP_gtr, XP_geq, XP_not, XP_min, XP_max, XP_len_27, XP_len_9, XP_eql_nil_74, X_str_eql, X_str_neq, XP_str_eql, XP_str_neq, GS, gs_u, decide_true, decide_false, Option.isNone_some, Option.isSome_some, Option.isNone_none, Option.isSome_none, eq_self, Bool.not_true, Bool.not_false, Int.reduceEq, Int.reduceNe, Int.reduceLT, Int.reduceLE, Int.reduceGT, Int.reduceGE]))
    have hx6d := hx06.trans (Keep.drew (fun _ => False) w6)
    have lowd : ∀ k, foot (drewW w6) b k → W.heap.size ≤ k := low6
    have hqd : (drewW w6).heap[q]? = some (.cells (Strs last) 129 (0, 0)) := hq6
    have hbd : Bts (drewW w6) a.bv a.bs := hb6.drew
    generalize drewW w6 = w7 at hx6d lowd hqd hbd hdd hvd hqad ⊢
    refine joinS_of (fun ρ2 wr => DiskAt wr b r.1 ∧ VaultAt wr bv b ⟨2, n, 7⟩ ∧ wr.heap[q]? = some (.cells (Strs last') 129 (0, 0)) ∧ Ext W wr ∧ (∀ k, foot wr b k → W.heap.size ≤ k) ∧ ρ2 50 = .int .i64 (i : Int) ∧ ρ2 49 = .int .i64 (l.length : Int) ∧ ρ2 48 = v1 ∧ ρ2 9 = ptr bv ∧ ρ2 11 = ptr q ∧ ρ2 7 = ptr b ∧ ρ2 5 = .bool true) ?_ ?_
    · rintro ρ2 w8 ⟨hd8, hv8, hq8, hx8, low8, s50, s49, s48, s9, s11, s7, s5⟩
      refine loopG 2 (fun ρ3 wr => ∃ k : Nat, k ≤ 7 ∧ Ext w8 wr ∧ ρ3 88 = .int .i64 (k : Int) ∧ ρ3 50 = .int .i64 (i : Int) ∧ ρ3 49 = .int .i64 (l.length : Int) ∧ ρ3 48 = v1 ∧ ρ3 9 = ptr bv ∧ ρ3 11 = ptr q ∧ ρ3 7 = ptr b ∧ ρ3 5 = .bool true)
        (fun ρ3 wr => match ρ3 88 with | .int _ s => (7 - s).toNat | _ => 0)
        (fun ρ3 wr => Ext w8 wr ∧ ρ3 50 = .int .i64 (i : Int) ∧ ρ3 49 = .int .i64 (l.length : Int) ∧ ρ3 48 = v1 ∧ ρ3 9 = ptr bv ∧ ρ3 11 = ptr q ∧ ρ3 7 = ptr b ∧ ρ3 5 = .bool true) ?_ ?_ ?_
      · exact ⟨0, by omega, Keep.refl _ _, rfl, s50, s49, s48, s9, s11, s7, s5⟩
      · rintro J3 hJ3 ρ3 wr ⟨k, hk, hxr, t88, t50, t49, t48, t9, t11, t7, t5⟩
        rw [t88, t9, X_lss, condS_bool]
        by_cases hk7 : k = 7
        · rw [if_neg (by simp; omega)]
          exact hJ3 _ _ ⟨hxr, t50, t49, t48, t9, t11, t7, t5⟩
        rw [if_pos (by simp; omega)]
        have hk' : k < 7 := by omega
        refine VGet_spec (hxr.get hv8) (hd8.ext hxr) okv6 ?_
        intro u w9 hx9 hb9
        rw [p2.gets k hk'] at hb9 ⊢
        (repeat (first | with_reducible (first | refine Eq.mpr (B_law12_VaultShelves_c9.eq_1 ..) ?_ | refine Eq.mpr (B_law12_VaultShelves_c8.eq_1 ..) ?_ | refine Eq.mpr (B_law12_VaultShelves_c7.eq_1 ..) ?_ | refine Eq.mpr (B_law12_VaultShelves_c6.eq_1 ..) ?_ | refine Eq.mpr (B_law12_VaultShelves_c5.eq_1 ..) ?_ | refine Eq.mpr (B_law12_VaultShelves_c4.eq_1 ..) ?_ | refine Eq.mpr (B_law12_VaultShelves_c3.eq_1 ..) ?_ | refine Eq.mpr (B_law12_VaultShelves_c2.eq_1 ..) ?_ | refine Eq.mpr (B_law12_VaultShelves_c1.eq_1 ..) ?_) | simp only [X_extract0, X_extract1, X_extract2, X_extract3, X_nilS, X_eql_nil_74, X_neq_nil_74, X_eql_nil_124, X_neq_nil_124, X_eql, X_neq, X_lss, X_leq, X_gtr, X_geq, X_not, X_min, X_max, X_len_27, X_len_9, X_len_79, XP_nilS, XP_eql, XP_neq, XP_lss, XP_leq, XP_gtr, XP_geq, XP_not, XP_min, XP_max, XP_len_27, XP_len_9, XP_eql_nil_74, X_str_eql, X_str_neq, XP_str_eql, XP_str_neq, GS, gs_u, decide_true, decide_false, Option.isNone_some, Option.isSome_some, Option.isNone_none, Option.isSome_none, eq_self, Bool.not_true, Bool.not_false, Int.reduceEq, Int.reduceNe, Int.reduceLT, Int.reduceLE, Int.reduceGT, Int.reduceGE]))
        refine ⟨Ext, Ext.frame, ?_⟩
        (repeat (first | with_reducible (first | refine Eq.mpr (B_law12_VaultShelves_c9.eq_1 ..) ?_ | refine Eq.mpr (B_law12_VaultShelves_c8.eq_1 ..) ?_ | refine Eq.mpr (B_law12_VaultShelves_c7.eq_1 ..) ?_ | refine Eq.mpr (B_law12_VaultShelves_c6.eq_1 ..) ?_ | refine Eq.mpr (B_law12_VaultShelves_c5.eq_1 ..) ?_ | refine Eq.mpr (B_law12_VaultShelves_c4.eq_1 ..) ?_ | refine Eq.mpr (B_law12_VaultShelves_c3.eq_1 ..) ?_ | refine Eq.mpr (B_law12_VaultShelves_c2.eq_1 ..) ?_ | refine Eq.mpr (B_law12_VaultShelves_c1.eq_1 ..) ?_) | simp only [X_extract0, X_extract1, X_extract2, X_extract3, X_nilS, X_eql_nil_74, X_neq_nil_74, X_eql_nil_124, X_neq_nil_124, X_eql, X_neq, X_lss, X_leq, X_gtr, X_geq, X_not, X_min, X_max, X_len_27, X_len_9, X_len_79, XP_nilS, XP_eql, XP_neq, XP_lss, XP_leq, XP_gtr, XP_geq, XP_not, XP_min, XP_max, XP_len_27, XP_len_9, XP_eql_nil_74, X_str_eql, X_str_neq, XP_str_eql, XP_str_neq, GS, gs_u, decide_true, decide_false, Option.isNone_some, Option.isSome_some, Option.isNone_none, Option.isSome_none, eq_self, Bool.not_true, Bool.not_false, Int.reduceEq, Int.reduceNe, Int.reduceLT, Int.reduceLE, Int.reduceGT, Int.reduceGE]))
        refine XR_str Try.underlying27 Try.underlying5 Try.underlying9 hb9.drew ?_
        (repeat (first | with_reducible (first | refine Eq.mpr (B_law12_VaultShelves_c9.eq_1 ..) ?_ | refine Eq.mpr (B_law12_VaultShelves_c8.eq_1 ..) ?_ | refine Eq.mpr (B_law12_VaultShelves_c7.eq_1 ..) ?_ | refine Eq.mpr (B_law12_VaultShelves_c6.eq_1 ..) ?_ | refine Eq.mpr (B_law12_VaultShelves_c5.eq_1 ..) ?_ | refine Eq.mpr (B_law12_VaultShelves_c4.eq_1 ..) ?_ | refine Eq.mpr (B_law12_VaultShelves_c3.eq_1 ..) ?_ | refine Eq.mpr (B_law12_VaultShelves_c2.eq_1 ..) ?_ | refine Eq.mpr (B_law12_VaultShelves_c1.eq_1 ..) ?_) | simp only [X_extract0, X_extract1, X_extract2, X_extract3, X_nilS, X_eql_nil_74, X_neq_nil_74, X_eql_nil_124, X_neq_nil_124, X_eql, X_neq, X_lss, X_leq, X_gtr, X_geq, X_not, X_min, X_max, X_len_27, X_len_9, X_len_79, XP_nilS, XP_eql, XP_neq, XP_lss, XP_leq, XP_gtr, XP_geq, XP_not, XP_min, XP_max, XP_len_27, XP_len_9, XP_eql_nil_74, X_str_eql, X_str_neq, XP_str_eql, XP_str_neq, GS, gs_u, decide_true, decide_false, Option.isNone_some, Option.isSome_some, Option.isNone_none, Option.isSome_none, eq_self, Bool.not_true, Bool.not_false, Int.reduceEq, Int.reduceNe, Int.reduceLT, Int.reduceLE, Int.reduceGT, Int.reduceGE]))
        rw [t88, t11]
        refine XP_of (fun w => run_ix129 q k hk' w) ?_
        have hq9 : (drewW w9).heap[q]? = some (.cells (Strs last') 129 (0, 0)) := hx9.get (hxr.get hq8)
        refine XR_ok Ext.frame (fun w' k9 => run_loadAt agg_9 (blk_get (k9.get hq9) (Strs_get last' k (by rw [p2.seven]; exact hk')))) ?_
        have cz : ((str (last'.getD k [])).toList != (str (last'.getD k [])).toList) = false := by simp
        (repeat (first | with_reducible (first | refine Eq.mpr (B_law12_VaultShelves_c9.eq_1 ..) ?_ | refine Eq.mpr (B_law12_VaultShelves_c8.eq_1 ..) ?_ | refine Eq.mpr (B_law12_VaultShelves_c7.eq_1 ..) ?_ | refine Eq.mpr (B_law12_VaultShelves_c6.eq_1 ..) ?_ | refine Eq.mpr (B_law12_VaultShelves_c5.eq_1 ..) ?_ | refine Eq.mpr (B_law12_VaultShelves_c4.eq_1 ..) ?_ | refine Eq.mpr (B_law12_VaultShelves_c3.eq_1 ..) ?_ | refine Eq.mpr (B_law12_VaultShelves_c2.eq_1 ..) ?_ | refine Eq.mpr (B_law12_VaultShelves_c1.eq_1 ..) ?_) | simp only [X_extract0, X_extract1, X_extract2, X_extract3, X_nilS, X_eql_nil_74, X_neq_nil_74, X_eql_nil_124, X_neq_nil_124, X_eql, X_neq, X_lss, X_leq, X_gtr, X_geq, X_not, X_min, X_max, X_len_27, X_len_9, X_len_79, XP_nilS, XP_eql, XP_neq, XP_lss, XP_leq, XP_gtr, XP_geq, XP_not, XP_min, XP_max, XP_len_27, XP_len_9, XP_eql_nil_74, X_str_eql, X_str_neq, XP_str_eql, XP_str_neq, GS, gs_u, decide_true, decide_false, Option.isNone_some, Option.isSome_some, Option.isNone_none, Option.isSome_none, eq_self, Bool.not_true, Bool.not_false, Int.reduceEq, Int.reduceNe, Int.reduceLT, Int.reduceLE, Int.reduceGT, Int.reduceGE, cz]))
        rw [X_add]
        show _ ∧ _
        refine ⟨⟨k + 1, by omega, (hxr.trans hx9).trans (Keep.drew _ _), next64 (n := 7) (by decide) (by omega), t50, t49, t48, t9, t11, t7, t5⟩, ?_⟩
        show (_ - IntKind.i64.wrap _).toNat < _
        rw [w64 (by omega) (by omega)]
        first | omega | (show _ < (_ : Int).toNat; omega)
      · rintro ρ4 wr ⟨hxr, t50, t49, t48, t9, t11, t7, t5⟩
        show X _ _ _ _
        rw [t50, X_add]
        show _ ∧ _
        refine ⟨⟨i + 1, r.1, last', by omega, by omega, hd8.ext hxr, hxr.get hv8, p2, hxr.get hq8, hx8.trans hxr, fun k hk => low8 k ((foot_extV hxr (hd8.lt b (foot_self _ _))).1 hk), next64 (n := 60) (by decide) (by omega), t49, t48, t9, t11, t7, t5⟩, ?_⟩
        show (_ - IntKind.i64.wrap _).toNat < _
        rw [w64 (by omega) (by omega)]
        first | omega | (show _ < (_ : Int).toNat; omega)
    · intro J2 hJ2
      (repeat (first | with_reducible (first | refine Eq.mpr (B_law12_VaultShelves_c9.eq_1 ..) ?_ | refine Eq.mpr (B_law12_VaultShelves_c8.eq_1 ..) ?_ | refine Eq.mpr (B_law12_VaultShelves_c7.eq_1 ..) ?_ | refine Eq.mpr (B_law12_VaultShelves_c6.eq_1 ..) ?_ | refine Eq.mpr (B_law12_VaultShelves_c5.eq_1 ..) ?_ | refine Eq.mpr (B_law12_VaultShelves_c4.eq_1 ..) ?_ | refine Eq.mpr (B_law12_VaultShelves_c3.eq_1 ..) ?_ | refine Eq.mpr (B_law12_VaultShelves_c2.eq_1 ..) ?_ | refine Eq.mpr (B_law12_VaultShelves_c1.eq_1 ..) ?_) | simp only [X_extract0, X_extract1, X_extract2, X_extract3, X_nilS, X_eql_nil_74, X_neq_nil_74, X_eql_nil_124, X_neq_nil_124, X_eql, X_neq, X_lss, X_leq, X_gtr, X_geq, X_not, X_min, X_max, X_len_27, X_len_9, X_len_79, XP_nilS, XP_eql, XP_neq, XP_lss, XP_leq, XP_gtr, XP_geq, XP_not, XP_min, XP_max, XP_len_27, XP_len_9, XP_eql_nil_74, X_str_eql, X_str_neq, XP_str_eql, XP_str_neq, GS, gs_u, decide_true, decide_false, Option.isNone_some, Option.isSome_some, Option.isNone_none, Option.isSome_none, eq_self, Bool.not_true, Bool.not_false, Int.reduceEq, Int.reduceNe, Int.reduceLT, Int.reduceLE, Int.reduceGT, Int.reduceGE]))
      by_cases hroom : a.bs.length ≤ n * 128 - 4
      · rw [if_pos hroom] at p1 hlast
        have c : decide (r.2 = 0) = true := by simp [p1]
        (repeat (first | with_reducible (first | refine Eq.mpr (B_law12_VaultShelves_c9.eq_1 ..) ?_ | refine Eq.mpr (B_law12_VaultShelves_c8.eq_1 ..) ?_ | refine Eq.mpr (B_law12_VaultShelves_c7.eq_1 ..) ?_ | refine Eq.mpr (B_law12_VaultShelves_c6.eq_1 ..) ?_ | refine Eq.mpr (B_law12_VaultShelves_c5.eq_1 ..) ?_ | refine Eq.mpr (B_law12_VaultShelves_c4.eq_1 ..) ?_ | refine Eq.mpr (B_law12_VaultShelves_c3.eq_1 ..) ?_ | refine Eq.mpr (B_law12_VaultShelves_c2.eq_1 ..) ?_ | refine Eq.mpr (B_law12_VaultShelves_c1.eq_1 ..) ?_) | simp only [X_extract0, X_extract1, X_extract2, X_extract3, X_nilS, X_eql_nil_74, X_neq_nil_74, X_eql_nil_124, X_neq_nil_124, X_eql, X_neq, X_lss, X_leq, X_gtr, X_geq, X_not, X_min, X_max, X_len_27, X_len_9, X_len_79, XP_nilS, XP_eql, XP_neq, XP_lss, XP_leq, XP_gtr, XP_geq, XP_not, XP_min, XP_max, XP_len_27, XP_len_9, XP_eql_nil_74, X_str_eql, X_str_neq, XP_str_eql, XP_str_neq, GS, gs_u, decide_true, decide_false, Option.isNone_some, Option.isSome_some, Option.isNone_none, Option.isSome_none, eq_self, Bool.not_true, Bool.not_false, Int.reduceEq, Int.reduceNe, Int.reduceLT, Int.reduceLE, Int.reduceGT, Int.reduceGE, c]))
        rw [X_field_131_1]
        refine X_loadL agg_27 hqad (v := a.bv) rfl ?_
        refine X_str Try.underlying27 Try.underlying5 Try.underlying9 hbd ?_
        rw [r11]
        refine X_of (run_ix129 q t ht7 _) ?_
        refine XU_store info_9 sz_9 rfl hqd (by simp [Strs, hsh.seven]; omega) (by simp) ?_
        rw [Strs_set, ← hlast]
        have hqn : ¬ foot w7 b q := hdd.notin hqd (by decide) (by decide) (by decide)
        have kp := setAt_keep w7 q (Strs last') 129 (0, 0)
        have hsame := setAt_same (w := w7) (b := q) (cs := Strs last') (T := 129) (fr := (0, 0)) (lt_of_blk hqd)
        have hbq : bv ≠ q := by
          intro h
          rw [h] at hvd
          have hvd' := hvd
          unfold VaultAt at hvd'
          rw [hqd] at hvd'
          injection hvd' with hvd'
          injection hvd' with _ hvd'
          exact absurd hvd' (by decide)
        refine hJ2 _ _ ⟨hdd.keep kp (fun k hk h => hqn (h ▸ hk)), kp.get hbq hvd, hsame, Ext.seq hx6d kp (fun j hj => by omega), fun k hk => ?_, r50, r49, r48, r9, r11, r7, r5⟩
        exact lowd k ((foot_same (kp.block b (hdd.lt b (foot_self _ _)) (fun h => hqn (h ▸ foot_self _ _)))).1 hk)
      · rw [if_neg hroom] at p1 hlast
        have c : decide (r.2 = 0) = false := by simp [p1]
        (repeat (first | with_reducible (first | refine Eq.mpr (B_law12_VaultShelves_c9.eq_1 ..) ?_ | refine Eq.mpr (B_law12_VaultShelves_c8.eq_1 ..) ?_ | refine Eq.mpr (B_law12_VaultShelves_c7.eq_1 ..) ?_ | refine Eq.mpr (B_law12_VaultShelves_c6.eq_1 ..) ?_ | refine Eq.mpr (B_law12_VaultShelves_c5.eq_1 ..) ?_ | refine Eq.mpr (B_law12_VaultShelves_c4.eq_1 ..) ?_ | refine Eq.mpr (B_law12_VaultShelves_c3.eq_1 ..) ?_ | refine Eq.mpr (B_law12_VaultShelves_c2.eq_1 ..) ?_ | refine Eq.mpr (B_law12_VaultShelves_c1.eq_1 ..) ?_) | simp only [X_extract0, X_extract1, X_extract2, X_extract3, X_nilS, X_eql_nil_74, X_neq_nil_74, X_eql_nil_124, X_neq_nil_124, X_eql, X_neq, X_lss, X_leq, X_gtr, X_geq, X_not, X_min, X_max, X_len_27, X_len_9, X_len_79, XP_nilS, XP_eql, XP_neq, XP_lss, XP_leq, XP_gtr, XP_geq, XP_not, XP_min, XP_max, XP_len_27, XP_len_9, XP_eql_nil_74, X_str_eql, X_str_neq, XP_str_eql, XP_str_neq, GS, gs_u, decide_true, decide_false, Option.isNone_some, Option.isSome_some, Option.isNone_none, Option.isSome_none, eq_self, Bool.not_true, Bool.not_false, Int.reduceEq, Int.reduceNe, Int.reduceLT, Int.reduceLE, Int.reduceGT, Int.reduceGE, c]))
        rw [← hlast] at hqd
        exact hJ2 _ _ ⟨hdd, hvd, hqd, hx6d, lowd, r50, r49, r48, r9, r11, r7, r5⟩
  · rintro ρ wr ⟨i, d, last, hd, hsh, hx, r7, r5⟩
    show CALL _ _ _ _ _
    rw [r7]
    refine Size_spec hd ?_
    rw [hsh.size, X_sub, w64 (by omega) (by omega)]
    refine Size_spec hd ?_
    rw [hsh.size, X_sub, w64 (by omega) (by omega)]
    refine X_of (run_four79 _ _ _ _ _) ?_
    have hrow := row_four79 0 1 (((2 + 7 * n + 2 : Nat) : Int) - 2) (((2 + 7 * n + 2 : Nat) : Int) - 1) wr
    have hxr := newB_ext wr #[.int .i64 0, .int .i64 1, .int .i64 (((2 + 7 * n + 2 : Nat) : Int) - 2), .int .i64 (((2 + 7 * n + 2 : Nat) : Int) - 1)] 3
    have hd' := hd.ext hxr
    have hxW := hx.trans hxr
    obtain ⟨sv, hsv⟩ : ∃ x, x = Value.slice (some ⟨wr.heap.size, 0, none⟩) 4 4 := ⟨_, rfl⟩
    (repeat (first | with_reducible (first | refine Eq.mpr (B_law12_VaultShelves_c9.eq_1 ..) ?_ | refine Eq.mpr (B_law12_VaultShelves_c8.eq_1 ..) ?_ | refine Eq.mpr (B_law12_VaultShelves_c7.eq_1 ..) ?_ | refine Eq.mpr (B_law12_VaultShelves_c6.eq_1 ..) ?_ | refine Eq.mpr (B_law12_VaultShelves_c5.eq_1 ..) ?_ | refine Eq.mpr (B_law12_VaultShelves_c4.eq_1 ..) ?_ | refine Eq.mpr (B_law12_VaultShelves_c3.eq_1 ..) ?_ | refine Eq.mpr (B_law12_VaultShelves_c2.eq_1 ..) ?_ | refine Eq.mpr (B_law12_VaultShelves_c1.eq_1 ..) ?_) | simp only [X_extract0, X_extract1, X_extract2, X_extract3, X_nilS, X_eql_nil_74, X_neq_nil_74, X_eql_nil_124, X_neq_nil_124, X_eql, X_neq, X_lss, X_leq, X_gtr, X_geq, X_not, X_min, X_max, X_len_27, X_len_9, X_len_79, XP_nilS, XP_eql, XP_neq, XP_lss, XP_leq, XP_gtr, XP_geq, XP_not, XP_min, XP_max, XP_len_27, XP_len_9, XP_eql_nil_74, X_str_eql, X_str_neq, XP_str_eql, XP_str_neq, GS, gs_u, decide_true, decide_false, Option.isNone_some, Option.isSome_some, Option.isNone_none, Option.isSome_none, eq_self, Bool.not_true, Bool.not_false, Int.reduceEq, Int.reduceNe, Int.reduceLT, Int.reduceLE, Int.reduceGT, Int.reduceGE]))
    rw [← hsv] at hrow ⊢
    generalize newB wr #[.int .i64 0, .int .i64 1, .int .i64 (((2 + 7 * n + 2 : Nat) : Int) - 2), .int .i64 (((2 + 7 * n + 2 : Nat) : Int) - 1)] 3 = wl at hrow hd' hxW ⊢
    refine loopG 4 (fun ρ6 wr => ∃ j : Nat, j ≤ 4 ∧ Ext wl wr ∧ ρ6 117 = .int .i64 (j : Int) ∧ ρ6 116 = .int .i64 4 ∧ ρ6 115 = sv ∧ ρ6 7 = ptr b ∧ ρ6 5 = .bool true)
      (fun ρ6 wr => match ρ6 117 with | .int _ s => (4 - s).toNat | _ => 0)
      (fun ρ6 wr => Ext wl wr ∧ ρ6 5 = .bool true) ?_ ?_ ?_
    · exact ⟨0, by omega, Keep.refl _ _, rfl, rfl, rfl, r7, r5⟩
    · rintro J hJ ρ6 w6 ⟨j, hj, hx6, t117, t116, t115, t7, t5⟩
      rw [t117, t116, t115, t7, X_lss, condS_bool]
      by_cases hj4 : j = 4
      · rw [if_neg (by simp; omega)]
        exact hJ _ _ ⟨hx6, t5⟩
      rw [if_pos (by simp; omega)]
      have hj' : j < 4 := by omega
      obtain ⟨ad, hix, hcell⟩ := (hrow.ext hx6).at Try.underlying79 info_3 sz_3 (k := .i64) (ii := (j : Int)) j rfl hj'
      obtain ⟨sc, hsc, hs1, hs2⟩ : ∃ sc : Nat, ([0, 1, ((2 + 7 * n + 2 : Nat) : Int) - 2, ((2 + 7 * n + 2 : Nat) : Int) - 1] : List Int)[j] = (sc : Int) ∧ (sc < 2 ∨ 2 + 7 * n ≤ sc) ∧ sc < 2 + 7 * n + 2 := by
        have : j = 0 ∨ j = 1 ∨ j = 2 ∨ j = 3 := by omega
        rcases this with rfl | rfl | rfl | rfl
        · exact ⟨0, rfl, by omega, by omega⟩
        · exact ⟨1, rfl, by omega, by omega⟩
        · exact ⟨2 + 7 * n, by show ((2 + 7 * n + 2 : Nat) : Int) - 2 = _; omega, by omega, by omega⟩
        · exact ⟨2 + 7 * n + 1, by show ((2 + 7 * n + 2 : Nat) : Int) - 1 = _; omega, by omega, by omega⟩
      rw [hsc] at hcell
      refine X_of (hix _) ?_
      refine X_of (run_loadAt agg_3 hcell) ?_
      refine Read_spec (hd'.ext hx6) ?_
      intro v8 w8 hx8 ho8
      rw [shelves_read hsh hs1 hs2] at ho8 ⊢
      (repeat (first | with_reducible (first | refine Eq.mpr (B_law12_VaultShelves_c9.eq_1 ..) ?_ | refine Eq.mpr (B_law12_VaultShelves_c8.eq_1 ..) ?_ | refine Eq.mpr (B_law12_VaultShelves_c7.eq_1 ..) ?_ | refine Eq.mpr (B_law12_VaultShelves_c6.eq_1 ..) ?_ | refine Eq.mpr (B_law12_VaultShelves_c5.eq_1 ..) ?_ | refine Eq.mpr (B_law12_VaultShelves_c4.eq_1 ..) ?_ | refine Eq.mpr (B_law12_VaultShelves_c3.eq_1 ..) ?_ | refine Eq.mpr (B_law12_VaultShelves_c2.eq_1 ..) ?_ | refine Eq.mpr (B_law12_VaultShelves_c1.eq_1 ..) ?_) | simp only [X_extract0, X_extract1, X_extract2, X_extract3, X_nilS, X_eql_nil_74, X_neq_nil_74, X_eql_nil_124, X_neq_nil_124, X_eql, X_neq, X_lss, X_leq, X_gtr, X_geq, X_not, X_min, X_max, X_len_27, X_len_9, X_len_79, XP_nilS, XP_eql, XP_neq, XP_lss, XP_leq, XP_gtr, XP_geq, XP_not, XP_min, XP_max, XP_len_27, XP_len_9, XP_eql_nil_74, X_str_eql, X_str_neq, XP_str_eql, XP_str_neq, GS, gs_u, decide_true, decide_false, Option.isNone_some, Option.isSome_some, Option.isNone_none, Option.isSome_none, eq_self, Bool.not_true, Bool.not_false, Int.reduceEq, Int.reduceNe, Int.reduceLT, Int.reduceLE, Int.reduceGT, Int.reduceGE]))
      refine ⟨Ext, Ext.frame, ?_⟩
      (repeat (first | with_reducible (first | refine Eq.mpr (B_law12_VaultShelves_c9.eq_1 ..) ?_ | refine Eq.mpr (B_law12_VaultShelves_c8.eq_1 ..) ?_ | refine Eq.mpr (B_law12_VaultShelves_c7.eq_1 ..) ?_ | refine Eq.mpr (B_law12_VaultShelves_c6.eq_1 ..) ?_ | refine Eq.mpr (B_law12_VaultShelves_c5.eq_1 ..) ?_ | refine Eq.mpr (B_law12_VaultShelves_c4.eq_1 ..) ?_ | refine Eq.mpr (B_law12_VaultShelves_c3.eq_1 ..) ?_ | refine Eq.mpr (B_law12_VaultShelves_c2.eq_1 ..) ?_ | refine Eq.mpr (B_law12_VaultShelves_c1.eq_1 ..) ?_) | simp only [X_extract0, X_extract1, X_extract2, X_extract3, X_nilS, X_eql_nil_74, X_neq_nil_74, X_eql_nil_124, X_neq_nil_124, X_eql, X_neq, X_lss, X_leq, X_gtr, X_geq, X_not, X_min, X_max, X_len_27, X_len_9, X_len_79, XP_nilS, XP_eql, XP_neq, XP_lss, XP_leq, XP_gtr, XP_geq, XP_not, XP_min, XP_max, XP_len_27, XP_len_9, XP_eql_nil_74, X_str_eql, X_str_neq, XP_str_eql, XP_str_neq, GS, gs_u, decide_true, decide_false, Option.isNone_some, Option.isSome_some, Option.isNone_none, Option.isSome_none, eq_self, Bool.not_true, Bool.not_false, Int.reduceEq, Int.reduceNe, Int.reduceLT, Int.reduceLE, Int.reduceGT, Int.reduceGE]))
      refine XR_str Try.underlying27 Try.underlying5 Try.underlying9 ((own_bts ho8).1).drew ?_
      (repeat (first | with_reducible (first | refine Eq.mpr (B_law12_VaultShelves_c9.eq_1 ..) ?_ | refine Eq.mpr (B_law12_VaultShelves_c8.eq_1 ..) ?_ | refine Eq.mpr (B_law12_VaultShelves_c7.eq_1 ..) ?_ | refine Eq.mpr (B_law12_VaultShelves_c6.eq_1 ..) ?_ | refine Eq.mpr (B_law12_VaultShelves_c5.eq_1 ..) ?_ | refine Eq.mpr (B_law12_VaultShelves_c4.eq_1 ..) ?_ | refine Eq.mpr (B_law12_VaultShelves_c3.eq_1 ..) ?_ | refine Eq.mpr (B_law12_VaultShelves_c2.eq_1 ..) ?_ | refine Eq.mpr (B_law12_VaultShelves_c1.eq_1 ..) ?_) | simp only [X_extract0, X_extract1, X_extract2, X_extract3, X_nilS, X_eql_nil_74, X_neq_nil_74, X_eql_nil_124, X_neq_nil_124, X_eql, X_neq, X_lss, X_leq, X_gtr, X_geq, X_not, X_min, X_max, X_len_27, X_len_9, X_len_79, XP_nilS, XP_eql, XP_neq, XP_lss, XP_leq, XP_gtr, XP_geq, XP_not, XP_min, XP_max, XP_len_27, XP_len_9, XP_eql_nil_74, X_str_eql, X_str_neq, XP_str_eql, XP_str_neq, GS, gs_u, decide_true, decide_false, Option.isNone_some, Option.isSome_some, Option.isNone_none, Option.isSome_none, eq_self, Bool.not_true, Bool.not_false, Int.reduceEq, Int.reduceNe, Int.reduceLT, Int.reduceLE, Int.reduceGT, Int.reduceGE]))
      refine X_make Try.underlying27 el_5 128 128 rfl rfl (Nat.le_refl _) (by decide) (by decide) ?_
      rw [zeros128]
      have hx9 := newB_ext (drewW w8) (B8 (List.replicate 128 0)).toArray 5
      have hb9 := lit_bts (w := drewW w8) (List.replicate 128 0) (by simp) 5
      have hl128 : (List.replicate 128 (0 : UInt8)).length = 128 := List.length_replicate
      rw [hl128] at hb9
      refine ⟨hx9, ?_⟩
      (repeat (first | with_reducible (first | refine Eq.mpr (B_law12_VaultShelves_c9.eq_1 ..) ?_ | refine Eq.mpr (B_law12_VaultShelves_c8.eq_1 ..) ?_ | refine Eq.mpr (B_law12_VaultShelves_c7.eq_1 ..) ?_ | refine Eq.mpr (B_law12_VaultShelves_c6.eq_1 ..) ?_ | refine Eq.mpr (B_law12_VaultShelves_c5.eq_1 ..) ?_ | refine Eq.mpr (B_law12_VaultShelves_c4.eq_1 ..) ?_ | refine Eq.mpr (B_law12_VaultShelves_c3.eq_1 ..) ?_ | refine Eq.mpr (B_law12_VaultShelves_c2.eq_1 ..) ?_ | refine Eq.mpr (B_law12_VaultShelves_c1.eq_1 ..) ?_) | simp only [X_extract0, X_extract1, X_extract2, X_extract3, X_nilS, X_eql_nil_74, X_neq_nil_74, X_eql_nil_124, X_neq_nil_124, X_eql, X_neq, X_lss, X_leq, X_gtr, X_geq, X_not, X_min, X_max, X_len_27, X_len_9, X_len_79, XP_nilS, XP_eql, XP_neq, XP_lss, XP_leq, XP_gtr, XP_geq, XP_not, XP_min, XP_max, XP_len_27, XP_len_9, XP_eql_nil_74, X_str_eql, X_str_neq, XP_str_eql, XP_str_neq, GS, gs_u, decide_true, decide_false, Option.isNone_some, Option.isSome_some, Option.isNone_none, Option.isSome_none, eq_self, Bool.not_true, Bool.not_false, Int.reduceEq, Int.reduceNe, Int.reduceLT, Int.reduceLE, Int.reduceGT, Int.reduceGE]))
      refine XR_str Try.underlying27 Try.underlying5 Try.underlying9 hb9 ?_
      have cz : ((str (List.replicate 128 (0 : UInt8))).toList != (str (List.replicate 128 (0 : UInt8))).toList) = false := by simp
      (repeat (first | with_reducible (first | refine Eq.mpr (B_law12_VaultShelves_c9.eq_1 ..) ?_ | refine Eq.mpr (B_law12_VaultShelves_c8.eq_1 ..) ?_ | refine Eq.mpr (B_law12_VaultShelves_c7.eq_1 ..) ?_ | refine Eq.mpr (B_law12_VaultShelves_c6.eq_1 ..) ?_ | refine Eq.mpr (B_law12_VaultShelves_c5.eq_1 ..) ?_ | refine Eq.mpr (B_law12_VaultShelves_c4.eq_1 ..) ?_ | refine Eq.mpr (B_law12_VaultShelves_c3.eq_1 ..) ?_ | refine Eq.mpr (B_law12_VaultShelves_c2.eq_1 ..) ?_ | refine Eq.mpr (B_law12_VaultShelves_c1.eq_1 ..) ?_) | simp only [X_extract0, X_extract1, X_extract2, X_extract3, X_nilS, X_eql_nil_74, X_neq_nil_74, X_eql_nil_124, X_neq_nil_124, X_eql, X_neq, X_lss, X_leq, X_gtr, X_geq, X_not, X_min, X_max, X_len_27, X_len_9, X_len_79, XP_nilS, XP_eql, XP_neq, XP_lss, XP_leq, XP_gtr, XP_geq, XP_not, XP_min, XP_max, XP_len_27, XP_len_9, XP_eql_nil_74, X_str_eql, X_str_neq, XP_str_eql, XP_str_neq, GS, gs_u, decide_true, decide_false, Option.isNone_some, Option.isSome_some, Option.isNone_none, Option.isSome_none, eq_self, Bool.not_true, Bool.not_false, Int.reduceEq, Int.reduceNe, Int.reduceLT, Int.reduceLE, Int.reduceGT, Int.reduceGE, cz]))
      rw [t117, X_add]
      show _ ∧ _
      refine ⟨⟨j + 1, by omega, (hx6.trans hx8).trans ((Keep.drew _ _).trans hx9), next64 (n := 4) (by decide) (by omega), t116, t115, t7, t5⟩, ?_⟩
      show (_ - IntKind.i64.wrap _).toNat < _
      rw [w64 (by omega) (by omega)]
      first | omega | (show _ < (_ : Int).toNat; omega)
    · rintro ρ7 wr ⟨hx7, t5⟩
      show (ρ7 5 = _ ∧ _)
      exact ⟨t5, hxW.trans hx7⟩
theorem vaultShelves_walk {H : Type} (enc : TypeId × Value → H) (W : World) (v0 v1 : Value) {base : Nat} (ok0 : Value.okWide Try.prog W .any base 5 v0) (ok1 : Value.okWide Try.prog W .any base 128 v1) (d0 : DataW H) (p0 : List MemPlace) (d1 : DataW H) (p1 : List MemPlace) (h0 : DataW.Trod enc Try.prog W 0 (fun _ => true) true 5 v0 d0 p0) (h1 : DataW.Trod enc Try.prog W 0 (fun _ => true) true 128 v1 d1 p1) (hsz : (DataW.weightsEach Try.prog [5, 128] [d0, d1]).all (· ≤ reachBytes) = true) :
    CALL Try.prog 33 #[v0, v1] W (fun v w' => v = .bool true ∧ Ext W w') := by
  obtain ⟨e, rfl, he⟩ := arg_u8 Try.underlying5 ok0 h0
  obtain ⟨l, hl, hin⟩ := arg_puts ok1 h1
  exact vaultShelves_run he W hl hin
end
set_option maxRecDepth 100000 in
theorem vaultShelves_lifted (os : Os) (started : os.Started) (H : Type) (enc : TypeId × Value → H) :
    ReturnsInHanded {} Try.checked os 33 .any (Rows.vaultShelvesSpec.pre6 enc Try.prog Try.f33 Rows.vaultShelvesRow.domain false) (Rows.vaultShelvesSpec.post enc Try.prog Try.f33 false true false false) := by
  refine returnsInHanded_of_change_sized (C := Try.checked) (by kernel_rfl) started (by kernel_rfl) Try.func33
    (ChangeSpec.witness6 (enc := enc) (C := Try.checked) false ⟨#[], #[(.int .u8 0), (.slice none 0 0)], []⟩ 8 (by kernel_rfl) (by kernel_rfl) (by kernel_rfl) (by kernel_rfl)) ?_
  intro W base args ds gs before hval0 hW hcnd hsz0 _
  have hval : ∀ (j : Nat) t v, Try.f33.params[j]? = some t → args[j]? = some v → Value.okWide Try.prog W .any base t v := hval0
  have hW' := hW
  obtain ⟨p, q, hA0, hV, rfl, hfz, hnd⟩ := hW
  have hA : DataW.TrodAll enc Try.prog W 0 (fun _ => true) true Try.f33.params.toList args.toList ds p := hA0
  rw [Try.params33] at hA hval
  obtain ⟨v0, vs0, d0, ds0, p0, q0, hargs, rfl, rfl, h0, r0⟩ := trodAll_cons hA
  obtain ⟨v1, vs1, d1, ds1, p1, q1, rfl, rfl, rfl, h1, r1⟩ := trodAll_cons r0
  obtain ⟨rfl, rfl, rfl⟩ := trodAll_nil r1
  obtain rfl : args = #[v0, v1] := by cases args; simp_all
  obtain ⟨rfl, rfl⟩ := trodVars_none hV
  have hsz : (DataW.weightsEach Try.prog [5, 128] [d0, d1]).all (· ≤ reachBytes) = true := hsz0
  have hw := vaultShelves_walk enc W v0 v1 (hval 0 5 v0 rfl rfl) (hval 1 128 v1 rfl rfl) d0 p0 d1 p1 h0 h1 hsz
  refine (CALL_calls hw).mono fun e W' he => ?_
  cases e with
  | returned v =>
    obtain ⟨rfl, hx⟩ := he
    exact ⟨_, rfl, law_post (P := Try.prog) laidOut (by kernel_rfl) rfl rfl rfl Try.underlying4 hW' hx⟩
  | panicked c => exact he.elim
  | outgrown => exact he.elim

theorem vaultShelves_closed : joinedFacts Try.prog 33 Try.f33 Rows.vaultShelvesSpec Rows.vaultShelvesRow = true := by
  unfold joinedFacts
  rw [mayEnter_is, liftsFinal_is, make_is]
  kernel_rfl
/-- For every input that the row lets in, cellarage/cellaragelaw12.VaultShelves returns true, and what was there stays as it was. -/
theorem vaultShelves_holds : Rows.VaultShelvesSaid :=
  OpenClaim.holds_of_wide 33 Try.f33 rfl rfl rfl rfl rfl rfl rfl ⟨rfl, rfl, rfl, rfl, rfl⟩ rfl rfl rfl rfl rfl (by kernel_rfl) Try.func33 vaultShelves_closed
    (of_decide_eq_true (by kernel_rfl)) (by unfold Func.isWrapper; first | (rw [if_pos (by decide +kernel)]; kernel_rfl) | (rw [if_neg (by decide +kernel)]; exact ⟨rfl, rfl⟩))
    (fun os started H enc _ => vaultShelves_lifted os started H enc)
#print axioms vaultShelves_holds
end Go.Proofs.Ytggggfcgnkllgaa
