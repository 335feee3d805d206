/- cellarage/disk, function by function: what each computes on the plain disk. First those that write no sector. -/
import Derived.Test.YtggggfcgnkllgaaDisk1
set_option linter.unusedSimpArgs false
set_option linter.unusedVariables false
namespace Go.Proofs.Ytggggfcgnkllgaa
open Go Go.Sh Go.RowKit
attribute [local irreducible] X XU XP XR CALL loopS resC closS

abbrev ptr (b : Nat) : Value := .pointer (some ⟨b, 0, none⟩)
abbrev i64v (n : Int) : Value := .int .i64 n
theorem run_eql_nilsl {P : Program} {T e : TypeId} (hT : P.underlying T = some (.slice e)) (a b : Operand) (p : Option Addr) (n c : Nat) (w : World) : (binOpG .eql T a b (.slice p n c) (.slice none 0 0)).run P w = .ok (.bool p.isNone) w := by
  have e1 : binOpG .eql T a b (.slice p n c) (.slice none 0 0) = (do eqGuard .eql T a b (.slice p n c) (.slice none 0 0); let r ← Op.equal T (.slice p n c) (.slice none 0 0); pure (.bool r) : Sem Value) := by cases p <;> rfl
  have e2 : (Op.equal T (.slice p n c) (.slice none 0 0)).run P w = .ok p.isNone w := by
    rw [equal_succ]
    unfold Op.equalIn
    rw [Sem.run_bind, run_underlying hT]
    cases p <;> rfl
  rw [e1, eqGuard_at_slice]
  simp only [Sem.run_bind, Sem.run_pure, Result.andThen_ok, e2]
theorem run_empty27 (w : World) : (Instr.buildSlice 27 0 #[]).run Try.prog w = .ok (.slice (some ⟨w.heap.size, 0, none⟩) 0 0) (newB w #[] 5) := by kernel_rfl
theorem own_emptyT (w : World) (e size : Nat) : (newB w #[] e).ownsRow w.heap.size e size (.slice (some ⟨w.heap.size, 0, none⟩) 0 0) 0 [] :=
  ⟨by simp, .inr ⟨w.heap.size, 0, #[], rfl, Nat.le_refl _, newB_get _ _ _, Nat.le_refl _, by simp [maxLen], by simp, by simp⟩⟩
theorem own_nilB (w : World) : w.ownsRow w.heap.size 5 1 (.slice none 0 0) ([] : List UInt8).length (B8 []) := World.ownsRow_nil w _ 5 1
/-- slices.Clone of bytes. -/
theorem Clone_spec {v : Value} {bs : List UInt8} {w : World} {K : Value → World → Prop} (hb : Bts w v bs) (hl : bs.length ≤ 140737488355328)
    (h : ∀ v' w1, Ext w w1 → w1.ownsRow w.heap.size 5 1 v' bs.length (B8 bs) → K v' w1) : CALL Try.prog 132 #[v] w K := by
  obtain ⟨a, c, e⟩ := Bts.slice hb
  apply call_slices_Clone_byte
  unfold B_slices_Clone_byte
  rw [e]
  refine X_of (run_eql_nilsl Try.underlying27 _ _ _ _ _ _) ?_
  rw [condS_bool]
  cases a with
  | none =>
    have h0 : bs = [] := by
      obtain ⟨a', c', e', _, _, hc⟩ := hb
      rw [e] at e'
      injection e' with e1 _ _
      subst e1
      apply List.eq_nil_of_length_eq_zero
      rcases Nat.eq_zero_or_pos bs.length with h' | h'
      · exact h'
      · obtain ⟨ad, h'', _⟩ := hc h'
        cases h''
    subst h0
    show K _ _
    exact h _ _ (Keep.refl _ _) (own_nilB w)
  | some ad =>
    rw [if_neg (by simp)]
    refine X_of (run_empty27 _) ?_
    have hx := newB_ext w #[] 5
    have ho := own_emptyT w 5 1
    rw [← e]
    refine X_append_bts (base := w.heap.size) Try.underlying27 el_5 (xs := []) ho (hb.ext hx) (by omega) hx.size ?_
    intro v' w1 ho' hk
    rw [Nat.zero_add, List.nil_append] at ho'
    refine h v' w1 (Ext.seq hx hk (fun i hi => ?_)) ho'
    injection hi with hi
    exact Nat.le_of_eq hi.symm
/-- slices.Clone of cells, elements of any size. -/
theorem clone_run {w : World} {K : Value → World → Prop} {t e size bytes n m : Nat} {z : Value} {v : Value} {xs : List Value} (ht : Try.prog.underlying t = some (.slice e)) (hE : El Try.prog e size z bytes) (h0 : 0 < size) (hb0 : 0 < bytes)
    (ho : w.ownsRow m e size v n xs) (h1 : ∀ u ∈ xs, u.oneCell' = true) (hb : n * bytes ≤ 140737488355328) (he : ∀ w', (Instr.buildSlice t 0 #[]).run Try.prog w' = .ok (.slice (some ⟨w'.heap.size, 0, none⟩) 0 0) (newB w' #[] e))
    (h : ∀ v' w1, Ext w w1 → w1.ownsRow w.heap.size e size v' n xs → K v' w1) :
    X Try.prog (binOpG .eql t (.tmp 3) (.const (.slice none 0 0)) v (.slice none 0 0)) w fun v1 w1 => condS v1 (K (.slice none 0 0) w1) (X Try.prog (Instr.buildSlice t 0 #[]) w1 fun v2 w2 => X Try.prog (Builtin.append_ #[t, t] t #[v2, v]) w2 fun v3 w3 => K v3 w3) := by
  rcases id ho.2 with ⟨rfl, rfl⟩ | ⟨g, cap, cur, rfl, hg, hh, hn, hm, hs, htk⟩
  · refine X_of (run_eql_nilsl ht _ _ _ _ _ _) ?_
    rw [condS_bool]
    show K _ _
    have hx : xs = [] := List.eq_nil_of_length_eq_zero (by simpa using ho.1)
    subst hx
    exact h _ _ (Keep.refl _ _) (World.ownsRow_nil w _ e size)
  · refine X_of (run_eql_nilsl ht _ _ _ _ _ _) ?_
    rw [condS_bool, if_neg (by simp)]
    refine X_of (he _) ?_
    have hx := newB_ext w #[] e
    have hoE := own_emptyT w e size
    have hox := own_extD ho hx
    refine X_append (base := w.heap.size) ht hE h0 hoE (news := xs) ho.1 (hox.cells rfl) h1 (by rw [Nat.zero_add]; exact hb) hb0 hx.size ?_
    intro v' w1 ho' hk
    rw [Nat.zero_add, List.nil_append] at ho'
    refine h v' w1 (Ext.seq hx hk (fun i hi => ?_)) ho'
    injection hi with hi
    exact Nat.le_of_eq hi.symm
theorem own_sl {w : World} {base e size n : Nat} {v : Value} {xs : List Value} (h : w.ownsRow base e size v n xs) : ∃ a c, v = .slice a n c := by
  rcases h.2 with ⟨rfl, rfl⟩ | ⟨g, cap, _, rfl, _⟩
  · exact ⟨_, _, rfl⟩
  · exact ⟨_, _, rfl⟩

/-! ### What is told of a disk -/
section
variable {w : World} {b : Nat} {d : Dk} {K : Value → World → Prop}
theorem Dead_spec (h : DiskAt w b d) (hK : K (.bool d.dead) w) : CALL Try.prog 76 #[ptr b] w K := by
  obtain ⟨ok, nv, sv, wv, h⟩ := h
  apply call_disk_Disk_Dead
  unfold B_disk_Disk_Dead
  simp only [X_neq_nil_74, Option.isSome_some, gstep_bool, if_true, X_nilS, X_field_183_3]
  refine X_loadL agg_4 h.blk rfl ?_
  simp only [X_pick, if_true]
  exact hK
theorem Pending_spec (h : DiskAt w b d) (hK : K (i64v d.ws.length) w) : CALL Try.prog 77 #[ptr b] w K := by
  obtain ⟨ok, nv, sv, wv, h⟩ := h
  apply call_disk_Disk_Pending
  unfold B_disk_Disk_Pending
  simp only [X_eql_nil_74, Option.isNone_some, condS_bool, Bool.false_eq_true, if_false, X_nilS, X_field_183_2]
  refine X_loadL agg_181 h.blk rfl ?_
  obtain ⟨a, c, e⟩ := own_sl h.ws
  rw [e, X_len_181]
  exact hK
theorem Size_spec (h : DiskAt w b d) (hK : K (i64v d.safe.length) w) : CALL Try.prog 84 #[ptr b] w K := by
  obtain ⟨ok, nv, sv, wv, h⟩ := h
  apply call_disk_Disk_Size
  unfold B_disk_Disk_Size
  simp only [X_eql_nil_74, Option.isNone_some, condS_bool, Bool.false_eq_true, if_false, X_nilS, X_field_183_0]
  refine X_loadL agg_180 h.blk rfl ?_
  obtain ⟨a, c, e⟩ := own_sl h.now
  rw [e, X_len_180, show (Dk.raw d).now.length = d.safe.length from Dk.now_length d]
  exact hK
theorem Done_spec (h : DiskAt w b d) (hK : K (i64v d.done) w) : CALL Try.prog 79 #[ptr b] w K := by
  obtain ⟨ok, nv, sv, wv, h⟩ := h
  apply call_disk_Disk_Done
  unfold B_disk_Disk_Done
  simp only [X_eql_nil_74, Option.isNone_some, condS_bool, Bool.false_eq_true, if_false, X_nilS, X_field_183_5]
  exact X_loadL agg_3 h.blk rfl hK
/-! A nil disk. -/
theorem Dead_nil (hK : K (.bool false) w) : CALL Try.prog 76 #[.pointer none] w K := by
  apply call_disk_Disk_Dead
  unfold B_disk_Disk_Dead
  simp only [X_neq_nil_74, Option.isSome_none, gstep_bool, Bool.false_eq_true, if_false, X_pick]
  exact hK
theorem Pending_nil (hK : K (i64v 0) w) : CALL Try.prog 77 #[.pointer none] w K := by
  apply call_disk_Disk_Pending
  unfold B_disk_Disk_Pending
  simp only [X_eql_nil_74, Option.isNone_none, condS_bool, if_true]
  exact hK
theorem Size_nil (hK : K (i64v 0) w) : CALL Try.prog 84 #[.pointer none] w K := by
  apply call_disk_Disk_Size
  unfold B_disk_Disk_Size
  simp only [X_eql_nil_74, Option.isNone_none, condS_bool, if_true]
  exact hK
theorem Done_nil (hK : K (i64v 0) w) : CALL Try.prog 79 #[.pointer none] w K := by
  apply call_disk_Disk_Done
  unfold B_disk_Disk_Done
  simp only [X_eql_nil_74, Option.isNone_none, condS_bool, if_true]
  exact hK
theorem Copy_nil (hK : K (.pointer none) w) : CALL Try.prog 81 #[.pointer none] w K := by
  apply call_disk_Disk_Copy
  unfold B_disk_Disk_Copy
  simp only [X_eql_nil_74, Option.isNone_none, condS_bool, if_true]
  exact hK
theorem Cut_nil {v : Value} (hK : K (.tuple #[]) w) : CALL Try.prog 78 #[.pointer none, v] w K := by
  apply call_disk_Disk_Cut
  unfold B_disk_Disk_Cut
  simp only [X_neq_nil_74, Option.isSome_none, gstep_bool, Bool.false_eq_true, if_false, X_pick, condS_bool]
  exact hK
theorem Crash_nil {v : Value} (hK : K (.tuple #[]) w) : CALL Try.prog 72 #[.pointer none, v] w K := by
  apply call_disk_Disk_Crash
  unfold B_disk_Disk_Crash
  simp only [X_eql_nil_74, Option.isNone_none, condS_bool, if_true]
  exact hK
theorem Read_nil {v : Value} (hK : K (.tuple #[.slice none 0 0, i64v 2]) w) : CALL Try.prog 73 #[.pointer none, v] w K := by
  apply call_disk_Disk_Read
  unfold B_disk_Disk_Read
  simp only [X_eql_nil_74, Option.isNone_none, condS_bool, if_true]
  exact hK
theorem Write_nil {v v1 : Value} (hK : K (i64v 2) w) : CALL Try.prog 70 #[.pointer none, v, v1] w K := by
  apply call_disk_Disk_Write
  unfold B_disk_Disk_Write
  simp only [X_eql_nil_74, Option.isNone_none, condS_bool, if_true]
  exact hK
theorem Flush_nil (hK : K (i64v 2) w) : CALL Try.prog 71 #[.pointer none] w K := by
  apply call_disk_Disk_Flush
  unfold B_disk_Disk_Flush
  simp only [X_eql_nil_74, Option.isNone_none, condS_bool, if_true]
  exact hK

/-! ### The power -/
theorem powered_spec {r : Raw} {nv sv wv : Value} (h : RawAt w b r nv sv wv)
    (hK : ∀ (p : Raw) w1, p.now = r.now → p.safe = r.safe → p.ws = r.ws → p.dead = (if r.fuse = 0 then true else r.dead) → p.fuse = (if r.fuse = 0 then -1 else if p.dead = false ∧ 0 < r.fuse then IntKind.i64.wrap (r.fuse - 1) else r.fuse) →
      p.done = (if p.dead = true then r.done else IntKind.i64.wrap (r.done + 1)) → RawAt w1 b p nv sv wv → Step b w w1 → K (i64v (if p.dead = true then 6 else 0)) w1) : CALL Try.prog 131 #[ptr b] w K := by
  apply call_disk_Disk_powered
  unfold B_disk_Disk_powered
  simp only [X_nilS, X_field_183_3, X_field_183_4, X_field_183_5]
  refine joinS_of (fun ρ w1 => ρ 0 = ptr b ∧ RawAt w1 b { r with dead := if r.fuse = 0 then true else r.dead, fuse := if r.fuse = 0 then -1 else r.fuse } nv sv wv ∧ Step b w w1) ?_ ?_
  · rintro ρ w1 ⟨e0, h1, s1⟩
    rw [e0]
    simp only [X_nilS, X_field_183_3, X_field_183_4, X_field_183_5]
    refine X_loadL agg_4 h1.blk rfl ?_
    rw [condS_bool]
    by_cases hd : (if r.fuse = 0 then true else r.dead) = true
    · rw [if_pos hd]
      have := hK { r with dead := if r.fuse = 0 then true else r.dead, fuse := if r.fuse = 0 then -1 else r.fuse } w1 rfl rfl rfl rfl (by
        show (if r.fuse = 0 then (-1 : Int) else r.fuse) = (if r.fuse = 0 then -1 else if (if r.fuse = 0 then true else r.dead) = false ∧ 0 < r.fuse then IntKind.i64.wrap (r.fuse - 1) else r.fuse)
        rw [hd]
        simp) (by
        show r.done = (if (if r.fuse = 0 then true else r.dead) = true then r.done else IntKind.i64.wrap (r.done + 1))
        rw [if_pos hd]) h1 s1
      rw [if_pos hd] at this
      exact this
    · rw [if_neg hd]
      have hf0 : r.fuse ≠ 0 := fun e => hd (by rw [if_pos e])
      have hd' : r.dead = false := by
        rw [if_neg hf0] at hd
        simpa using hd
      refine X_loadL agg_3 h1.blk rfl ?_
      rw [X_add]
      refine XU_store info_3 sz_3 rfl h1.blk (Nat.le_of_ble_eq_true rfl) (by show ¬ ((0 : Nat) ≤ 5 ∧ 5 < 0); omega) ?_
      obtain ⟨h2, s2⟩ := h1.put (cs' := (#[nv, sv, wv, .bool (if r.fuse = 0 then true else r.dead), .int .i64 (if r.fuse = 0 then -1 else r.fuse), .int .i64 r.done] : Array Value).setIfInBounds (0 + 5) (.int .i64 (IntKind.i64.wrap (r.done + 1))))
        { r with dead := if r.fuse = 0 then true else r.dead, fuse := if r.fuse = 0 then -1 else r.fuse, done := IntKind.i64.wrap (r.done + 1) } rfl rfl rfl rfl
      refine joinS_of (fun _ w2 => RawAt w2 b { r with dead := if r.fuse = 0 then true else r.dead, fuse := if r.fuse = 0 then -1 else if 0 < r.fuse then IntKind.i64.wrap (r.fuse - 1) else r.fuse, done := IntKind.i64.wrap (r.done + 1) } nv sv wv ∧ Step b w w2) ?_ ?_
      · rintro ρ' w2 ⟨h3, s3⟩
        have := hK { r with dead := if r.fuse = 0 then true else r.dead, fuse := if r.fuse = 0 then -1 else if 0 < r.fuse then IntKind.i64.wrap (r.fuse - 1) else r.fuse, done := IntKind.i64.wrap (r.done + 1) } w2 rfl rfl rfl rfl (by
          show (if r.fuse = 0 then (-1 : Int) else if 0 < r.fuse then IntKind.i64.wrap (r.fuse - 1) else r.fuse) = (if r.fuse = 0 then -1 else if (if r.fuse = 0 then true else r.dead) = false ∧ 0 < r.fuse then IntKind.i64.wrap (r.fuse - 1) else r.fuse)
          rw [if_neg hf0, if_neg hf0, if_neg hf0, hd']
          simp) (by
          show IntKind.i64.wrap (r.done + 1) = (if (if r.fuse = 0 then true else r.dead) = true then r.done else IntKind.i64.wrap (r.done + 1))
          rw [if_neg hd]) h3 s3
        rw [if_neg hd] at this
        exact this
      · intro J hJ
        generalize setAt w1 b _ 183 (0, 0) = w2 at h2 s2 ⊢
        refine X_loadL agg_3 h2.blk rfl ?_
        simp only [hf0, if_false, X_gtr, condS_bool]
        simp only [hf0, if_false] at h2
        by_cases hp : 0 < r.fuse
        · rw [if_pos (by simpa using hp)]
          refine X_loadL agg_3 h2.blk rfl ?_
          rw [X_sub]
          refine XU_store info_3 sz_3 rfl h2.blk (Nat.le_of_ble_eq_true rfl) (by show ¬ ((0 : Nat) ≤ 4 ∧ 4 < 0); omega) ?_
          obtain ⟨h3, s3⟩ := h2.put (cs' := (#[nv, sv, wv, .bool r.dead, .int .i64 r.fuse, .int .i64 (IntKind.i64.wrap (r.done + 1))] : Array Value).setIfInBounds (0 + 4) (.int .i64 (IntKind.i64.wrap (r.fuse - 1))))
            { r with fuse := IntKind.i64.wrap (r.fuse - 1), done := IntKind.i64.wrap (r.done + 1) } rfl rfl rfl rfl
          refine hJ _ _ ⟨?_, s1.trans (s2.trans s3)⟩
          simp only [hf0, if_false, hp, if_true]
          exact h3
        · rw [if_neg (by simpa using hp)]
          refine hJ _ _ ⟨?_, s1.trans s2⟩
          simp only [hf0, if_false, hp, if_false]
          exact h2
  · intro J hJ
    refine X_loadL agg_3 h.blk rfl ?_
    rw [X_eql, condS_bool]
    by_cases hf : r.fuse = 0
    · rw [if_pos (by simpa using hf)]
      refine XU_store info_4 sz_4 rfl h.blk (Nat.le_of_ble_eq_true rfl) (by show ¬ ((0 : Nat) ≤ 3 ∧ 3 < 0); omega) ?_
      obtain ⟨h1, s1⟩ := h.put (cs' := (#[nv, sv, wv, .bool r.dead, .int .i64 r.fuse, .int .i64 r.done] : Array Value).setIfInBounds (0 + 3) (.bool true)) { r with dead := true } rfl rfl rfl rfl
      generalize setAt w b _ 183 (0, 0) = w1 at h1 s1 ⊢
      refine XU_store info_3 sz_3 rfl h1.blk (Nat.le_of_ble_eq_true rfl) (by show ¬ ((0 : Nat) ≤ 4 ∧ 4 < 0); omega) ?_
      obtain ⟨h2, s2⟩ := h1.put (cs' := (#[nv, sv, wv, .bool true, .int .i64 r.fuse, .int .i64 r.done] : Array Value).setIfInBounds (0 + 4) (.int .i64 (-1))) { r with dead := true, fuse := -1 } rfl rfl rfl rfl
      refine hJ _ _ ⟨rfl, ?_, s1.trans s2⟩
      simp only [hf, if_true]
      exact h2
    · rw [if_neg (by simpa using hf)]
      refine hJ _ _ ⟨rfl, ?_, Step.refl⟩
      simp only [hf, if_false]
      exact h
/-- The same, of the plain disk. -/
theorem powered_spec' {nv sv wv : Value} (hok : d.ok) (h : RawAt w b (Dk.raw d) nv sv wv)
    (h0 : d.trip.dead = true → ∀ w1, RawAt w1 b (Dk.raw d.trip) nv sv wv → Step b w w1 → K (i64v 6) w1)
    (h1 : d.trip.dead = false → ∀ w1, RawAt w1 b (Dk.raw d.trip.tick) nv sv wv → Step b w w1 → K (i64v 0) w1) : CALL Try.prog 131 #[ptr b] w K := by
  refine powered_spec h ?_
  rintro ⟨pn, ps, pw, pd, pf, pdn⟩ w1 e1 e2 e3 e4 e5 e6 hr hs
  simp only at e1 e2 e3 e4 e5 e6
  have et : d.trip.dead = pd := by
    rw [e4]
    show (Dk.trip d).dead = (if d.fuse = 0 then true else d.dead)
    unfold Dk.trip
    split <;> rfl
  have ef : (Dk.trip d).fuse = if d.fuse = 0 then -1 else d.fuse := by unfold Dk.trip; split <;> rfl
  by_cases hd : pd = true
  · rw [if_pos hd]
    refine h0 (by rw [et, hd]) w1 ?_ hs
    have er : Dk.raw d.trip = ⟨pn, ps, pw, pd, pf, pdn⟩ := by
      unfold Dk.raw Dk.now
      rw [Dk.trip_safe, Dk.trip_ws, Dk.trip_done, et, ef, e1, e2, e3, e5, e6, if_pos hd, hd]
      simp [Dk.raw, Dk.now]
    rw [er]; exact hr
  · have hd' : pd = false := by simpa using hd
    rw [if_neg hd]
    refine h1 (by rw [et, hd']) w1 ?_ hs
    have hf0 : d.fuse ≠ 0 := by
      intro e
      rw [hd'] at e4
      have : (Dk.raw d).fuse = 0 := e
      rw [if_pos this] at e4
      cases e4
    have hr0 : (Dk.raw d).fuse = d.fuse := rfl
    have er : Dk.raw d.trip.tick = ⟨pn, ps, pw, pd, pf, pdn⟩ := by
      have t1 : d.trip.tick.safe = d.safe := Dk.trip_safe d
      have t2 : d.trip.tick.ws = d.ws := Dk.trip_ws d
      have t3 : d.trip.tick.dead = d.trip.dead := rfl
      have t4 : d.trip.tick.done = IntKind.i64.wrap (d.done + 1) := by show IntKind.i64.wrap (d.trip.done + 1) = _; rw [Dk.trip_done]
      have t5 : d.trip.tick.fuse = if 0 < d.fuse then d.fuse - 1 else d.fuse := by
        show (if 0 < d.trip.fuse then d.trip.fuse - 1 else d.trip.fuse) = _
        rw [ef, if_neg hf0]
      unfold Dk.raw Dk.now
      rw [t1, t2, t3, t4, t5, et, e1, e2, e3, e5, e6, hd', hr0, if_neg hf0]
      have hw : 0 < d.fuse → IntKind.i64.wrap (d.fuse - 1) = d.fuse - 1 := fun hp => w64 (by omega) (by have := hok.2.2.2.2; omega)
      by_cases hp : 0 < d.fuse
      · rw [if_pos hp, if_pos ⟨rfl, hp⟩, hw hp]
        simp [Dk.raw, Dk.now]
      · rw [if_neg hp, if_neg (fun h => hp h.2)]
        simp [Dk.raw, Dk.now]
    rw [er]; exact hr
/-- Cut. -/
theorem Cut_spec {n : Int} (hn : n ≤ 9223372036854775807) (h : DiskAt w b d) (hK : ∀ w1, DiskAt w1 b (d.cut n) → Step b w w1 → K (.tuple #[]) w1) : CALL Try.prog 78 #[ptr b, i64v n] w K := by
  obtain ⟨ok, nv, sv, wv, h⟩ := h
  apply call_disk_Disk_Cut
  unfold B_disk_Disk_Cut
  simp only [X_neq_nil_74, Option.isSome_some, gstep_bool, if_true, X_nilS, X_field_183_3, X_field_183_4, X_not]
  refine X_loadL agg_4 h.blk rfl ?_
  simp only [X_not, X_pick, if_true, condS_bool]
  have ok' := Dk.cut_ok ok hn
  by_cases hd : d.dead = true
  · have e : (!(Dk.raw d).dead) = false := by show (!d.dead) = false; rw [hd]; rfl
    simp only [e, Bool.false_eq_true, if_false]
    refine hK w ⟨ok', nv, sv, wv, ?_⟩ Step.refl
    unfold Dk.cut
    rw [if_pos hd]
    exact h
  · have e : (!(Dk.raw d).dead) = true := by show (!d.dead) = true; simpa using hd
    simp only [e, if_true, X_max]
    refine XU_store info_3 sz_3 rfl h.blk (Nat.le_of_ble_eq_true rfl) (by show ¬ ((0 : Nat) ≤ 4 ∧ 4 < 0); omega) ?_
    obtain ⟨h1, s1⟩ := h.put (cs' := (#[nv, sv, wv, .bool (Dk.raw d).dead, .int .i64 (Dk.raw d).fuse, .int .i64 (Dk.raw d).done] : Array Value).setIfInBounds (0 + 4) (.int .i64 (max n (-1)))) { Dk.raw d with fuse := max n (-1) } rfl rfl rfl rfl
    refine hK _ ⟨ok', nv, sv, wv, ?_⟩ s1
    have : Dk.raw (d.cut n) = { Dk.raw d with fuse := max n (-1) } := by
      unfold Dk.cut
      rw [if_neg hd]
      rfl
    rw [this]; exact h1
end
end Go.Proofs.Ytggggfcgnkllgaa
