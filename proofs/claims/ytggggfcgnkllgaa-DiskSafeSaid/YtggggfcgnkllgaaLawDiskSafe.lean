/- cellaragelaw08.DiskSafe: for every acts and every sector, what was not written since the last flush is as it was after a crash. -/
import Derived.Test.YtggggfcgnkllgaaAlike
import Derived.Test.YtggggfcgnkllgaaT9
import Derived.Test.YtggggfcgnkllgaaFacts
import Derived.Test.YtggggfcgnkllgaaArgs
set_option linter.unusedVariables false
set_option linter.unusedSimpArgs false
set_option linter.constructorNameAsVariable false
namespace Go.Proofs.Ytggggfcgnkllgaa
open Go Go.Sh Go.RowKit Go.ChangeShapes Go.WideShapes Go.ChangeAt
open Go.Proofs.Ytggggfcgnkllgaa
section
attribute [local irreducible] X XU XP XR CALL loopS resC closS Value.okWide
theorem tears_none (fates : List Int) (i : Nat) (l : List (List UInt8)) (ws : List (Nat × List UInt8)) (k : Nat) (h : ∀ p ∈ ws, p.1 ≠ k) : (tears fates i l ws)[k]? = l[k]? := by
  induction ws generalizing i l with
  | nil => rfl
  | cons p ws ih =>
    show (tears fates (i + 1) (tearAt l p (fateAt fates i)) ws)[k]? = _
    rw [ih (i + 1) _ (fun q hq => h q (by simp [hq]))]
    unfold tearAt
    rw [List.getElem?_set_ne (h p (by simp))]
theorem read_res (d : Dk) {k : Nat} (hk : k < d.safe.length) : d.read (k : Int) = if d.dead = true then ([], 6) else (d.now.getD k [], 0) := by
  unfold Dk.read
  rw [if_neg (by omega)]
  rfl
def Clean (d : Dk) (k : Nat) : Prop := ∀ p ∈ d.ws, p.1 ≠ k
/-- What an act leaves of a sector that is not written. -/
theorem safe_act (d : Dk) (a : DAct) (k : Nat) (t : Bool) (h : t = false → Clean d k) :
    (((d.act a).2 = 0 ∧ a.kind % 5 = 1 ∨ a.kind % 5 = 3) → Clean (d.act a).1 k) ∧ ((t || (decide (a.kind % 5 = 0) && decide (a.pos = (k : Int)))) = false → Clean (d.act a).1 k) := by
  constructor
  · rintro (⟨h1, h2⟩ | h2)
    · have e : d.act a = d.flush := by unfold Dk.act; rw [if_neg (by omega), if_pos h2]
      rw [e] at h1 ⊢
      unfold Dk.flush at h1 ⊢
      split at h1
      · exact absurd h1 (by show (6 : Int) ≠ 0; decide)
      · rename_i hd
        rw [if_neg hd]
        intro p hp
        exact absurd hp (by simp)
    · have e : d.act a = (d.crash a.fates, 0) := by unfold Dk.act; rw [if_neg (by omega), if_neg (by omega), if_neg (by omega), if_pos h2]
      rw [e]
      intro p hp
      exact absurd hp (by simp [Dk.crash])
  · intro ht
    simp only [Bool.or_eq_false_iff, Bool.and_eq_false_iff, decide_eq_false_iff_not] at ht
    have hc := h ht.1
    unfold Dk.act
    split
    · rename_i k0
      have hpk : ¬ a.pos = (k : Int) := ht.2.resolve_left (fun h => h k0)
      unfold Dk.write
      split
      · exact hc
      · rename_i hg
        split
        · show Clean d.trip k
          unfold Clean
          rw [Dk.trip_ws]
          exact hc
        · intro p hp
          rcases List.mem_append.1 hp with hp | hp
          · exact hc p hp
          · rw [List.mem_singleton.1 hp]
            show a.pos.toNat ≠ k
            omega
    · split
      · unfold Dk.flush
        split
        · show Clean d.trip k
          unfold Clean
          rw [Dk.trip_ws]
          exact hc
        · intro p hp
          exact absurd hp (by simp)
      · split
        · show Clean (d.cut a.num) k
          unfold Dk.cut
          split <;> exact hc
        · split
          · intro p hp
            exact absurd hp (by simp [Dk.crash])
          · exact hc
/-- A crash leaves such a sector as it was. -/
theorem safe_crash (d : Dk) (a : DAct) (k : Nat) (hk : k < d.safe.length) (h3 : a.kind % 5 = 3) (hc : Clean d k) (hr : (d.read (k : Int)).2 = 0) : (d.act a).1.read (k : Int) = d.read (k : Int) := by
  have e : d.act a = (d.crash a.fates, 0) := by unfold Dk.act; rw [if_neg (by omega), if_neg (by omega), if_neg (by omega), if_pos h3]
  rw [e, read_res d hk, read_res _ (by show k < (tears a.fates 0 d.safe d.ws).length; rw [tears_length]; exact hk)]
  rw [read_res d hk] at hr
  by_cases hd : d.dead = true
  · rw [if_pos hd] at hr
    exact absurd hr (by show (6 : Int) ≠ 0; decide)
  · rw [if_neg hd, if_neg (by show ¬ false = true; decide)]
    congr 1
    rw [List.getD_eq_getElem?_getD, List.getD_eq_getElem?_getD]
    show ((putAll (tears a.fates 0 d.safe d.ws) [])[k]?).getD [] = ((putAll d.safe d.ws)[k]?).getD []
    rw [putAll_none hc]
    show ((tears a.fates 0 d.safe d.ws)[k]?).getD [] = _
    rw [tears_none _ _ _ _ _ hc]
theorem diskSafe_run {v0 : Value} {l : List DAct} {n : Nat} (hn : n < 256) (W : World) (h0 : RowK 5 DAct.cs W v0 l) (hin : ∀ a ∈ l, a.In W) :
    CALL Try.prog 21 #[v0, .int .u8 (n : Int)] W (fun v w' => v = .bool true ∧ Ext W w') := by
  apply call_law08_DiskSafe
  unfold B_law08_DiskSafe
  refine shown08 ?_
  intro w1 hx1
  refine New_disk (fun h => absurd h (by omega)) ?_
  intro m hm _ b w2 hx2 hlow hd2
  obtain rfl : m = 20 := by omega
  have e0 : decide ((0 : Int) ≠ 0) = false := by decide
  have hx02 := hx1.trans hx2
  have low2 : ∀ k, foot w2 b k → W.heap.size ≤ k := fun k hk => Nat.le_trans hx1.size (hlow k hk)
  simp only [X_extract0, X_extract1, X_neq, e0, X_eql_nil_74, Option.isNone_some, GS, X_conv_5_3]
  rw [w64 (by omega) (by omega)]
  refine X_of (run_rem 3 .i64 _ 20 (by decide) _) ?_
  obtain ⟨k, hk⟩ : ∃ k, k = n % 20 := ⟨_, rfl⟩
  have ek : ((n : Nat) : Int).tmod 20 = (k : Int) := by rw [hk]; rfl
  have hk20 : k < 20 := by omega
  rw [ek]
  refine few_spec (h0.ext hx02) (fun a ha => (hin a ha).ext hx02) ?_
  intro m v3 hm100 hml hr3' hbs
  have hr3 := hr3' W h0
  have hlen3 : (l.take m).length = m := by simp; omega
  obtain ⟨a3, c3', e3⟩ := hr3.slice
  rw [hlen3] at e3
  rw [e3, X_len_83, ← e3]
  refine loopE (fun ρ wr => ∃ (i : Nat) (d : Dk) (t : Bool), i ≤ m ∧ DiskAt wr b d ∧ d.safe.length = 20 ∧ d.ws.length ≤ i ∧ (t = false → Clean d k) ∧ Ext W wr ∧ (∀ k, foot wr b k → W.heap.size ≤ k) ∧
      ρ 33 = .int .i64 (i : Nat) ∧ ρ 32 = .int .i64 (m : Nat) ∧ ρ 31 = v3 ∧ ρ 9 = .bool t ∧ ρ 8 = .int .i64 (k : Int) ∧ ρ 6 = ptr b ∧ ρ 5 = .bool true)
    (fun ρ wr => match ρ 33 with | .int _ s => (m - s).toNat | _ => 0)
    (fun ρ wr => Ext W wr ∧ ρ 5 = .bool true) ?_ ?_ ?_
  · exact ⟨0, _, false, by omega, hd2, by simp [Dk.new], by simp [Dk.new], fun _ p hp => absurd hp (by simp [Dk.new]), hx02, low2, rfl, rfl, rfl, rfl, rfl, rfl, rfl⟩
  · rintro JE hJE ρ wr ⟨i, d, t, hi, hd, hs20, hws, hcl, hxr, hlr, r33, r32, r31, r9, r8, r6, r5⟩
    rw [r33, r32, X_lss, condS_bool]
    by_cases him : i = m
    · rw [if_neg (by simp; omega)]
      exact hJE _ _ ⟨hxr, r5⟩
    rw [if_pos (by simp; omega)]
    have hit : i < (l.take m).length := by omega
    have hmem : (l.take m)[i] ∈ l := List.mem_of_mem_take (List.getElem_mem hit)
    have hai := (hin _ hmem)
    have hblen := hbs _ (List.getElem_mem hit)
    refine joinS_of (fun ρ' w' => ∃ (d' : Dk) (t' : Bool), DiskAt w' b d' ∧ d'.safe.length = 20 ∧ d'.ws.length ≤ i + 1 ∧ (t' = false → Clean d' k) ∧ Ext W w' ∧ (∀ k, foot w' b k → W.heap.size ≤ k) ∧
      ρ' 33 = .int .i64 (i : Nat) ∧ ρ' 32 = .int .i64 (m : Nat) ∧ ρ' 31 = v3 ∧ ρ' 9 = .bool t' ∧ ρ' 8 = .int .i64 (k : Int) ∧ ρ' 6 = ptr b ∧ ρ' 5 = .bool true) ?_ ?_
    · rintro ρ' w' ⟨d', t', hd', hs', hw', hc', hx', hl', g33, g32, g31, g9, g8, g6, g5⟩
      rw [g33, X_add]
      show _ ∧ _
      refine ⟨⟨i + 1, d', t', by omega, hd', hs', hw', hc', hx', hl', next64 (n := 100) (by decide) (by omega), g32, g31, g9, g8, g6, g5⟩, ?_⟩
      show (_ - IntKind.i64.wrap _).toNat < _
      rw [w64 (by omega) (by omega)]
      first | omega | (show _ < (_ : Int).toNat; omega)
    intro J2 hJ2
    rw [r31]
    refine X_takeAct (hr3.ext hxr) hit (hai.ext hxr) ?_
    intro u1 u2 q w4 hx4 hq hqb
    generalize (l.take m)[i] = A at hai hblen hqb hmem ⊢
    have hd4 := hd.ext hx4
    have hf4 : ∀ k, foot w4 b k ↔ foot wr b k := fun k => foot_same (hx4.block b (hd.lt b (foot_self _ b)) (fun h => h))
    have hl4 : ∀ k, foot w4 b k → W.heap.size ≤ k := fun k hk => hlr k ((hf4 k).1 hk)
    have hx04 := hxr.trans hx4
    have hqn4 : ¬ foot w4 b q := fun hf => by have := hd.lt q ((hf4 q).1 hf); omega
    have hq4 := lt_of_blk hqb
    obtain ⟨T, hT⟩ : ∃ T : Bool, T = (t || (decide (A.kind % 5 = 0) && decide (A.pos = (k : Int)))) := ⟨_, rfl⟩
    refine joinS_of (fun ρ' w' => w' = w4 ∧ ρ' 33 = .int .i64 (i : Nat) ∧ ρ' 32 = .int .i64 (m : Nat) ∧ ρ' 31 = v3 ∧ ρ' 9 = .bool T ∧ ρ' 8 = .int .i64 (k : Int) ∧ ρ' 6 = ptr b ∧ ρ' 5 = .bool true ∧ ρ' 11 = ptr q) ?_ ?_
    · rintro ρ' w' ⟨rfl, g33, g32, g31, g9, g8, g6, g5, g11⟩
      rw [g6, g8, g11]
      refine Read_spec hd4 ?_
      intro v5 w5 hx5 ho5
      simp only [X_extract0, X_extract1]
      have hd5 := hd4.ext hx5
      have hb5 := (own_bts ho5).1
      have out5 : Outs w5 b v5 := outs_own ho5 hx5 hd4.lt (Nat.le_refl _)
      have hqb5 := hx5.get hqb
      have hf5 : ∀ k, foot w5 b k ↔ foot w' b k := fun k => foot_same (hx5.block b (hd4.lt b (foot_self _ b)) (fun h => h))
      have hl5 : ∀ k, foot w5 b k → W.heap.size ≤ k := fun k hk => hl4 k ((hf5 k).1 hk)
      have hx05 := hx04.trans hx5
      obtain ⟨sA, sB⟩ := safe_act d A k t hcl
      have hws6 : (d.act A).1.ws.length ≤ i + 1 := by have := Dk.act_ws d A; omega
      have hs6 : (d.act A).1.safe.length = 20 := by rw [Dk.act_size]; exact hs20
      obtain ⟨T4, hT4⟩ : ∃ T4 : Bool, T4 = (if (d.act A).2 = 0 ∧ A.kind % 5 = 1 then false else T) := ⟨_, rfl⟩
      have hcl4 : T4 = false → Clean (d.act A).1 k := by
        intro h
        rw [hT4] at h
        split at h
        · rename_i h'
          exact sA (.inl h')
        · exact sB (by rw [← hT]; exact h)
      refine joinS_of (fun ρ4 w6 => DiskAt w6 b (d.act A).1 ∧ Ext W w6 ∧ (∀ k, foot w6 b k → W.heap.size ≤ k) ∧ w6.heap[q]? = some (.cells A.cs.toArray 86 (0, 0)) ∧ Bts w6 v5 (d.read (k : Int)).1 ∧
        ρ4 33 = .int .i64 (i : Nat) ∧ ρ4 32 = .int .i64 (m : Nat) ∧ ρ4 31 = v3 ∧ ρ4 9 = .bool T4 ∧ ρ4 8 = .int .i64 (k : Int) ∧ ρ4 6 = ptr b ∧ ρ4 5 = .bool true ∧ ρ4 11 = ptr q ∧ ρ4 12 = v5 ∧ ρ4 13 = .int .i64 (d.read (k : Int)).2) ?_ ?_
      · rintro ρ4 w6 ⟨hd6, hx6, hl6, hqb6, hb6, k33, k32, k31, k9, k8, k6, k5, k11, k12, k13⟩
        rw [k6, k8, k11, k9, k12, k13]
        refine Read_spec hd6 ?_
        intro v7 w7 hx7 ho7
        have hqb7 := hx7.get hqb6
        have hd7 := hd6.ext hx7
        have hb7 := (own_bts ho7).1
        have hf7 : ∀ k, foot w7 b k ↔ foot w6 b k := fun k => foot_same (hx7.block b (hd6.lt b (foot_self _ b)) (fun h => h))
        have hl7 : ∀ k, foot w7 b k → W.heap.size ≤ k := fun k hk => hl6 k ((hf7 k).1 hk)
        have hx07 := hx6.trans hx7
        simp only [X_extract0, X_extract1, X_field_86_0]
        refine X_loadL agg_5 hqb7 (v := .int .u8 (A.kind : Int)) rfl ?_
        refine X_of (kind5 5 _ _) ?_
        rw [X_eql]
        have fin : ∀ (ρ' : Env) (t' : Bool), (t' = false → Clean (d.act A).1 k) → ρ' 33 = ρ4 33 → ρ' 32 = ρ4 32 → ρ' 31 = ρ4 31 → ρ' 9 = .bool t' → ρ' 8 = ρ4 8 → ρ' 6 = ρ4 6 → ρ' 5 = ρ4 5 → J2 ρ' w7 := fun ρ' t' ht' q1 q2 q3 q4 q5 q6 q7 =>
          hJ2 _ _ ⟨_, t', hd7, hs6, hws6, ht', hx07, hl7, q1.trans k33, q2.trans k32, q3.trans k31, q4, q5.trans k8, q6.trans k6, q7.trans k5⟩
        by_cases h3 : A.kind % 5 = 3
        · have b1 : decide (((A.kind % 5 : Nat) : Int) = 3) = true := by simp; omega
          have done : ∀ (ρ' : Env), ρ' 33 = ρ4 33 → ρ' 32 = ρ4 32 → ρ' 31 = ρ4 31 → ρ' 9 = .bool false → ρ' 8 = ρ4 8 → ρ' 6 = ρ4 6 → ρ' 5 = ρ4 5 → J2 ρ' w7 := fun ρ' => fin ρ' false (fun _ => sA (.inr h3))
          rw [b1]
          simp only [GS, X_not]
          cases hT4v : T4 with
          | true =>
            simp only [Bool.not_true, GS, X_field_86_0]
            refine X_loadL agg_5 hqb7 (v := .int .u8 (A.kind : Int)) rfl ?_
            refine X_of (kind5 5 _ _) ?_
            rw [X_eql, b1, cs_t]
            exact done _ rfl rfl rfl rfl rfl rfl rfl
          | false =>
            simp only [Bool.not_false, GS, X_eql]
            by_cases hr : (d.read (k : Int)).2 = 0
            · have b2 : decide ((d.read (k : Int)).2 = 0) = true := by simpa using hr
              have hclean : Clean d k := by
                have hTf : T = false := by
                  rw [hT4] at hT4v
                  rw [if_neg (by omega)] at hT4v
                  exact hT4v
                rw [hT] at hTf
                exact hcl (Bool.or_eq_false_iff.1 hTf).1
              have hsame := safe_crash d A k (by omega) h3 hclean hr
              rw [hsame] at hb7 ⊢
              have b3 : decide ((d.read (k : Int)).2 ≠ 0) = false := by simpa using hr
              have b4 : decide ((d.read (k : Int)).1 ≠ (d.read (k : Int)).1) = false := by simp
              simp only [b2, X_neq, b3, GS]
              refine X_str Try.underlying27 Try.underlying5 Try.underlying9 (hb6.ext hx7) ?_
              refine X_str Try.underlying27 Try.underlying5 Try.underlying9 hb7 ?_
              simp only [X_str_neq, str_toList, l8_bne, b4, GS, X_field_86_0]
              refine X_loadL agg_5 hqb7 (v := .int .u8 (A.kind : Int)) rfl ?_
              refine X_of (kind5 5 _ _) ?_
              rw [X_eql, b1, cs_t]
              exact done _ rfl rfl rfl rfl rfl rfl rfl
            · have b2 : decide ((d.read (k : Int)).2 = 0) = false := by simpa using hr
              simp only [b2, GS, X_field_86_0]
              refine X_loadL agg_5 hqb7 (v := .int .u8 (A.kind : Int)) rfl ?_
              refine X_of (kind5 5 _ _) ?_
              rw [X_eql, b1, cs_t]
              exact done _ rfl rfl rfl rfl rfl rfl rfl
        · have b1 : decide (((A.kind % 5 : Nat) : Int) = 3) = false := by simp; omega
          rw [b1]
          simp only [GS, X_field_86_0]
          refine X_loadL agg_5 hqb7 (v := .int .u8 (A.kind : Int)) rfl ?_
          refine X_of (kind5 5 _ _) ?_
          rw [X_eql, b1, cs_f]
          exact fin _ T4 hcl4 rfl rfl rfl k9 rfl rfl rfl
      · intro J4 hJ4
        refine X_loadAgg Try.underlying86 agg_86 info_86 hqb5 (by rw [sz_86]; rfl) ?_
        refine does_spec hd5 (by omega) (hai.ext hx05) (off_of hai hl5) (by omega) ?_
        intro w6 hd6 s6
        have hx6 := s6.out hx05 hl5
        have hl6 := s6.low hx05.size hl5
        have hqb6 := s6.keep.get (fun hf => hqn4 ((hf5 q).1 hf)) hqb5
        have hb6 := hb5.step out5 s6
        have fin : ∀ (ρ' : Env), ρ' 33 = ρ' 33 → True := fun _ _ => trivial
        have go : ∀ (ρ4 : Env), ρ4 33 = .int .i64 (i : Nat) → ρ4 32 = .int .i64 (m : Nat) → ρ4 31 = v3 → ρ4 9 = .bool T4 → ρ4 8 = .int .i64 (k : Int) → ρ4 6 = ptr b → ρ4 5 = .bool true → ρ4 11 = ptr q → ρ4 12 = v5 → ρ4 13 = .int .i64 (d.read (k : Int)).2 → J4 ρ4 w6 :=
          fun ρ4 q1 q2 q3 q4 q5 q6 q7 q8 q9 q10 => hJ4 _ _ ⟨hd6, hx6, hl6, hqb6, hb6, q1, q2, q3, q4, q5, q6, q7, q8, q9, q10⟩
        rw [X_eql]
        by_cases hz : (d.act A).2 = 0
        · have b1 : decide ((d.act A).2 = 0) = true := by simpa using hz
          simp only [b1, GS, X_field_86_0]
          refine X_loadL agg_5 hqb6 (v := .int .u8 (A.kind : Int)) rfl ?_
          refine X_of (kind5 5 _ _) ?_
          rw [X_eql, condS_bool]
          by_cases h1 : A.kind % 5 = 1
          · rw [if_pos (by simp; omega)]
            exact go _ g33 g32 g31 (by rw [hT4, if_pos ⟨hz, h1⟩]; rfl) g8 g6 g5 g11 rfl rfl
          · rw [if_neg (by simp; omega)]
            exact go _ g33 g32 g31 (by rw [hT4, if_neg (fun h => h1 h.2)]; exact g9) g8 g6 g5 g11 rfl rfl
        · have b1 : decide ((d.act A).2 = 0) = false := by simpa using hz
          simp only [b1, GS]
          exact go _ g33 g32 g31 (by rw [hT4, if_neg (fun h => hz h.1)]; exact g9) g8 g6 g5 g11 rfl rfl
    · intro J3 hJ3
      simp only [X_field_86_0]
      refine X_loadL agg_5 hqb (v := .int .u8 (A.kind : Int)) rfl ?_
      refine X_of (kind5 5 _ _) ?_
      rw [X_eql]
      by_cases hk0 : A.kind % 5 = 0
      · have b1 : decide (((A.kind % 5 : Nat) : Int) = 0) = true := by simp; omega
        simp only [b1, GS, X_field_86_1]
        refine X_loadL agg_3 hqb (v := .int .i64 A.pos) rfl ?_
        rw [r8, X_eql, condS_bool]
        by_cases hp : A.pos = (k : Int)
        · rw [if_pos (by simpa using hp)]
          exact hJ3 _ _ ⟨rfl, r33, r32, r31, by rw [hT, hk0, hp]; simp; rfl, r8, r6, r5, rfl⟩
        · rw [if_neg (by simpa using hp)]
          exact hJ3 _ _ ⟨rfl, r33, r32, r31, by rw [hT, show decide (A.pos = (k : Int)) = false by simpa using hp]; simp; exact r9, r8, r6, r5, rfl⟩
      · have b1 : decide (((A.kind % 5 : Nat) : Int) = 0) = false := by simp; omega
        simp only [b1, GS]
        exact hJ3 _ _ ⟨rfl, r33, r32, r31, by rw [hT, show decide (A.kind % 5 = 0) = false by simpa using hk0]; simp; exact r9, r8, r6, r5, rfl⟩
  · rintro ρ wr ⟨hxr, r5⟩
    rw [r5]
    exact ⟨rfl, hxr⟩
theorem diskSafe_walk {H : Type} (enc : TypeId × Value → H) (W : World) (v0 v1 : Value) {base : Nat} (ok0 : Value.okWide Try.prog W .any base 83 v0) (ok1 : Value.okWide Try.prog W .any base 5 v1) (d0 : DataW H) (p0 : List MemPlace) (d1 : DataW H) (p1 : List MemPlace) (h0 : DataW.Trod enc Try.prog W 0 (fun _ => true) true 83 v0 d0 p0) (h1 : DataW.Trod enc Try.prog W 0 (fun _ => true) true 5 v1 d1 p1) (hsz : (DataW.weightsEach Try.prog [83, 5] [d0, d1]).all (· ≤ reachBytes) = true) :
    CALL Try.prog 21 #[v0, v1] W (fun v w' => v = .bool true ∧ Ext W w') := by
  obtain ⟨l, hl, hin⟩ := arg_acts ok0 h0
  obtain ⟨n, rfl, hn⟩ := arg_u8 Try.underlying5 ok1 h1
  exact diskSafe_run hn W hl hin
end
set_option maxRecDepth 100000 in
theorem diskSafe_lifted (os : Os) (started : os.Started) (H : Type) (enc : TypeId × Value → H) :
    ReturnsInHanded {} Try.checked os 21 .any (Rows.diskSafeSpec.pre6 enc Try.prog Try.f21 Rows.diskSafeRow.domain false) (Rows.diskSafeSpec.post enc Try.prog Try.f21 false true false false) := by
  refine returnsInHanded_of_change_sized (C := Try.checked) (by kernel_rfl) started (by kernel_rfl) Try.func21
    (ChangeSpec.witness6 (enc := enc) (C := Try.checked) false ⟨#[], #[(.slice none 0 0), (.int .u8 0)], []⟩ 8 (by kernel_rfl) (by kernel_rfl) (by kernel_rfl) (by kernel_rfl)) ?_
  intro W base args ds gs before hval0 hW hcnd hsz0 _
  have hval : ∀ (j : Nat) t v, Try.f21.params[j]? = some t → args[j]? = some v → Value.okWide Try.prog W .any base t v := hval0
  have hW' := hW
  obtain ⟨p, q, hA0, hV, rfl, hfz, hnd⟩ := hW
  have hA : DataW.TrodAll enc Try.prog W 0 (fun _ => true) true Try.f21.params.toList args.toList ds p := hA0
  rw [Try.params21] at hA hval
  obtain ⟨v0, vs0, d0, ds0, p0, q0, hargs, rfl, rfl, h0, r0⟩ := trodAll_cons hA
  obtain ⟨v1, vs1, d1, ds1, p1, q1, rfl, rfl, rfl, h1, r1⟩ := trodAll_cons r0
  obtain ⟨rfl, rfl, rfl⟩ := trodAll_nil r1
  obtain rfl : args = #[v0, v1] := by cases args; simp_all
  obtain ⟨rfl, rfl⟩ := trodVars_none hV
  have hsz : (DataW.weightsEach Try.prog [83, 5] [d0, d1]).all (· ≤ reachBytes) = true := hsz0
  have hw := diskSafe_walk enc W v0 v1 (hval 0 83 v0 rfl rfl) (hval 1 5 v1 rfl rfl) d0 p0 d1 p1 h0 h1 hsz
  refine (CALL_calls hw).mono fun e W' he => ?_
  cases e with
  | returned v =>
    obtain ⟨rfl, hx⟩ := he
    exact ⟨_, rfl, law_post (P := Try.prog) laidOut (by kernel_rfl) rfl rfl rfl Try.underlying4 hW' hx⟩
  | panicked c => exact he.elim
  | outgrown => exact he.elim

theorem diskSafe_closed : joinedFacts Try.prog 21 Try.f21 Rows.diskSafeSpec Rows.diskSafeRow = true := by
  unfold joinedFacts
  rw [mayEnter_is, liftsFinal_is, make_is]
  kernel_rfl
/-- For every input that the row lets in, cellarage/cellaragelaw08.DiskSafe returns true, and what was there stays as it was. -/
theorem diskSafe_holds : Rows.DiskSafeSaid :=
  OpenClaim.holds_of_wide 21 Try.f21 rfl rfl rfl rfl rfl rfl rfl ⟨rfl, rfl, rfl, rfl, rfl⟩ rfl rfl rfl rfl rfl (by kernel_rfl) Try.func21 diskSafe_closed
    (of_decide_eq_true (by kernel_rfl)) (by unfold Func.isWrapper; first | (rw [if_pos (by decide +kernel)]; kernel_rfl) | (rw [if_neg (by decide +kernel)]; exact ⟨rfl, rfl⟩))
    (fun os started H enc _ => diskSafe_lifted os started H enc)
#print axioms diskSafe_holds
end Go.Proofs.Ytggggfcgnkllgaa
