/- Part 4 of what the law is proved with: Kit1 Foot OwnK KeyEq ArgSl DiskNum T7 Disk1 Disk2 Disk3 Disk4. -/
import Derived.Maps.Own
import Derived.DeepKeys4
import Derived.Test.YtggggfcgnkllgaaQCU3
section
/- Words that many laws share: joins, loops with their end told, bytes of the call's own that are written. -/
set_option linter.unusedSimpArgs false
set_option linter.unusedVariables false
namespace Go.Sh
open Go Go.RowKit
theorem joinS_of {C : Env → World → Prop} {F : (Env → World → Prop) → Prop} (I : Env → World → Prop) (h1 : ∀ ρ w, I ρ w → C ρ w) (h2 : ∀ J : Env → World → Prop, (∀ ρ w, I ρ w → J ρ w) → F J) : joinS C F := h2 C h1
/-- A loop with its end told: E holds where it is left. -/
theorem loopE {B : (Exit → Env → World → Prop) → Env → World → Prop} {C : Env → World → Prop} {Q : Exit → Env → World → Prop} {ρ : Env} {w : World} {id : Nat} (I : Env → World → Prop) (μ : Env → World → Nat) (E : Env → World → Prop) (h0 : I ρ w)
    (h : ∀ J : Env → World → Prop, (∀ ρ w, E ρ w → J ρ w) → ∀ ρ w, I ρ w → B (thenS (fun ρ' w' => I ρ' w' ∧ μ ρ' w' < μ ρ w) (inBlockS id (thenS J Q))) ρ w) (hE : ∀ ρ w, E ρ w → C ρ w) : loopS B (inBlockS id (thenS C Q)) ρ w :=
  ⟨I, μ, h0, h C hE⟩
/-- The same, whatever stands around; left by one exit alone. -/
theorem loopG {B : (Exit → Env → World → Prop) → Env → World → Prop} {Q : Exit → Env → World → Prop} {ρ : Env} {w : World} (id : Nat) (I : Env → World → Prop) (μ : Env → World → Nat) (E : Env → World → Prop) (h0 : I ρ w)
    (h : ∀ J : Exit → Env → World → Prop, (∀ ρ w, E ρ w → J (.exit id) ρ w) → ∀ ρ w, I ρ w → B (thenS (fun ρ' w' => I ρ' w' ∧ μ ρ' w' < μ ρ w) J) ρ w) (hE : ∀ ρ w, E ρ w → Q (.exit id) ρ w) : loopS B Q ρ w :=
  ⟨I, μ, h0, h Q hE⟩
theorem gs_t (S : World → (Value → World → Prop) → Prop) (w : World) (K : Value → World → Prop) : gstep (.bool true) true S w K = S w K := rfl
theorem gs_f (S : World → (Value → World → Prop) → Prop) (w : World) (K : Value → World → Prop) : gstep (.bool false) false S w K = S w K := rfl
theorem gs_tf (S : World → (Value → World → Prop) → Prop) (w : World) (K : Value → World → Prop) : gstep (.bool true) false S w K = K undef w := rfl
theorem gs_ft (S : World → (Value → World → Prop) → Prop) (w : World) (K : Value → World → Prop) : gstep (.bool false) true S w K = K undef w := rfl
theorem cs_t (A B : Prop) : condS (.bool true) A B = A := rfl
theorem cs_f (A B : Prop) : condS (.bool false) A B = B := rfl
theorem pk_t {P : Program} (a b : Value) (w : World) (K : Value → World → Prop) : X P (pickS (.bool true) a b) w K = K a w := X_ok (run_pick true a b w)
theorem pk_f {P : Program} (a b : Value) (w : World) (K : Value → World → Prop) : X P (pickS (.bool false) a b) w K = K b w := X_ok (run_pick false a b w)
theorem pp_t {P : Program} (a b : Value) (w : World) (K : Value → World → Prop) : XP P (pickS (.bool true) a b) w K = K a w := XP_ok (fun w' => run_pick true a b w')
theorem pp_f {P : Program} (a b : Value) (w : World) (K : Value → World → Prop) : XP P (pickS (.bool false) a b) w K = K b w := XP_ok (fun w' => run_pick false a b w')
theorem g_ff {c : Bool} {S : World → (Value → World → Prop) → Prop} {w : World} {K : Value → World → Prop} (hc : c = false) (h : S w K) : gstep (.bool c) false S w K := by subst hc; exact h
theorem g_tt {c : Bool} {S : World → (Value → World → Prop) → Prop} {w : World} {K : Value → World → Prop} (hc : c = true) (h : S w K) : gstep (.bool c) true S w K := by subst hc; exact h
theorem g_tf {c : Bool} {S : World → (Value → World → Prop) → Prop} {w : World} {K : Value → World → Prop} (hc : c = true) (h : K undef w) : gstep (.bool c) false S w K := by subst hc; exact h
theorem g_ft {c : Bool} {S : World → (Value → World → Prop) → Prop} {w : World} {K : Value → World → Prop} (hc : c = false) (h : K undef w) : gstep (.bool c) true S w K := by subst hc; exact h
theorem c_t {c : Bool} {A B : Prop} (hc : c = true) (h : A) : condS (.bool c) A B := by subst hc; exact h
theorem c_f {c : Bool} {A B : Prop} (hc : c = false) (h : B) : condS (.bool c) A B := by subst hc; exact h
theorem p_t {P : Program} {c : Bool} {a b : Value} {w : World} {K : Value → World → Prop} (hc : c = true) (h : K a w) : X P (pickS (.bool c) a b) w K := by subst hc; rw [pk_t]; exact h
theorem p_f {P : Program} {c : Bool} {a b : Value} {w : World} {K : Value → World → Prop} (hc : c = false) (h : K b w) : X P (pickS (.bool c) a b) w K := by subst hc; rw [pk_f]; exact h
theorem q_t {P : Program} {c : Bool} {a b : Value} {w : World} {K : Value → World → Prop} (hc : c = true) (h : K a w) : XP P (pickS (.bool c) a b) w K := by subst hc; rw [pp_t]; exact h
theorem q_f {P : Program} {c : Bool} {a b : Value} {w : World} {K : Value → World → Prop} (hc : c = false) (h : K b w) : XP P (pickS (.bool c) a b) w K := by subst hc; rw [pp_f]; exact h
set_option linter.defProp false in
/-- Steps whose condition is known. -/
def GS := And.intro @gs_t (And.intro @gs_f (And.intro @gs_tf (And.intro @gs_ft (And.intro @cs_t (And.intro @cs_f (And.intro @pk_t (And.intro @pk_f (And.intro @pp_t @pp_f))))))))
theorem B8_set (l : List UInt8) (i : Nat) (u : UInt8) : (B8 l).set i (.int .u8 (u.toNat : Int)) = B8 (l.set i u) := by
  unfold B8
  rw [List.map_set]
/-- One byte of the call's own is written. -/
theorem own_put {w : World} {base n e : Nat} {v : Value} {l : List UInt8} (ho : w.ownsRow base e 1 v n (B8 l)) {j : Nat} (hj : j < l.length) (u : UInt8) :
    ∃ g cap cur, v = .slice (some ⟨g, 0, none⟩) n cap ∧ base ≤ g ∧ w.heap[g]? = some (.cells cur e (0, 0)) ∧ j < cur.size ∧ cur[j]? = some (.int .u8 ((l[j].toNat : Nat) : Int)) ∧ j < n ∧
      (setAt w g (cur.setIfInBounds j (.int .u8 ((u.toNat : Nat) : Int))) e (0, 0)).ownsRow base e 1 v n (B8 (l.set j u)) := by
  have hl : l.length = n := by have := ho.1; simpa using this
  rcases id ho.2 with ⟨_, h0⟩ | ⟨g, cap, cur, hv, hg, hh, hn, hm, hs, ht⟩
  · omega
  · have hjc : j < cur.size := by omega
    refine ⟨g, cap, cur, hv, hg, hh, hjc, ?_, by omega, ?_⟩
    · have := congrArg (fun x => x[j]?) ht
      simp only [List.getElem?_take, show j < n * 1 by omega, if_true, B8_getElem?, List.getElem?_eq_getElem hj, Option.map_some] at this
      simpa using this
    · refine ⟨by simp [hl], .inr ⟨g, cap, _, hv, hg, setAt_same (lt_of_blk hh), hn, hm, by simpa using hs, ?_⟩⟩
      rw [← B8_set, ← ht]
      simp [List.take_set]
end Go.Sh
namespace Go.Proofs.Ytggggfcgnkllgaa
open Go Go.Sh Go.RowKit
theorem xp_add {P : Program} (T : TypeId) (x y z : Nat) (e : x + y = z) (hz : z ≤ 9223372036854775807) (w : World) : (binOp .add T (.int .i64 (x : Int)) (.int .i64 (y : Int))).run P w = .ok (.int .i64 (z : Int)) w := by
  rw [run_add, w64 (by omega) (by omega)]
  congr 2
  omega
end Go.Proofs.Ytggggfcgnkllgaa
end
section
/- Objects and what they hold: the block of a struct and the blocks of its slices. -/
set_option linter.unusedSimpArgs false
set_option linter.unusedVariables false
namespace Go.Sh
open Go Go.RowKit
/-- The block b, and those its cells are slices of. -/
def foot (w : World) (b k : Nat) : Prop := k = b ∨ ∃ cs T fr, w.heap[b]? = some (.cells cs T fr) ∧ ∃ v ∈ cs.toList, v.ownBlock = some k
theorem foot_self (w : World) (b : Nat) : foot w b b := .inl rfl
theorem foot_same {w w' : World} {b k : Nat} (h : w'.heap[b]? = w.heap[b]?) : foot w' b k ↔ foot w b k := by unfold foot; rw [h]
theorem foot_cells {w : World} {b k : Nat} {cs : Array Value} {T : TypeId} {fr : Nat × Nat} (hb : w.heap[b]? = some (.cells cs T fr)) : foot w b k ↔ k = b ∨ ∃ v ∈ cs.toList, v.ownBlock = some k := by
  unfold foot
  constructor
  · rintro (h | ⟨cs', T', fr', e, h⟩)
    · exact .inl h
    · rw [hb] at e
      injection e with e
      injection e with e1 e2 e3
      subst e1
      exact .inr h
  · rintro (h | h)
    · exact .inl h
    · exact .inr ⟨cs, T, fr, hb, h⟩
/-- What is done to the object b: its own blocks may change, and it may get new ones. -/
structure Step (b : Nat) (w w1 : World) : Prop where
  keep : Keep (foot w b) w w1
  grow : ∀ k, foot w1 b k → foot w b k ∨ w.heap.size ≤ k
theorem Step.size {b : Nat} {w w1 : World} (h : Step b w w1) : w.heap.size ≤ w1.heap.size := h.keep.size
theorem Step.trans {b : Nat} {x y z : World} (h : Step b x y) (k : Step b y z) : Step b x z :=
  ⟨Keep.seq h.keep k.keep (fun i hi hf => (h.grow i hf).resolve_right (by omega)), fun i hf => by
    rcases k.grow i hf with h1 | h1
    · exact h.grow i h1
    · have := h.size
      exact .inr (by omega)⟩
theorem Step.ext {b : Nat} {w w1 : World} (h : Ext w w1) (hb : b < w.heap.size) : Step b w w1 :=
  ⟨h.ext, fun k hf => .inl ((foot_same (h.block b hb (fun h => h))).1 hf)⟩
theorem Step.refl {b : Nat} {w : World} : Step b w w := ⟨Keep.refl _ _, fun _ h => .inl h⟩
theorem Step.out {b : Nat} {W w w1 : World} (h : Step b w w1) (hx : Ext W w) (hl : ∀ k, foot w b k → W.heap.size ≤ k) : Ext W w1 := Ext.seq hx h.keep hl
theorem Step.low {b n : Nat} {w w1 : World} (h : Step b w w1) (hn : n ≤ w.heap.size) (hl : ∀ k, foot w b k → n ≤ k) : ∀ k, foot w1 b k → n ≤ k := fun k hk => by
  rcases h.grow k hk with h1 | h1
  · exact hl k h1
  · omega
/-- What stands apart stays apart. -/
def Apart (w : World) (b b' : Nat) : Prop := ∀ k, foot w b k → ¬ foot w b' k
theorem Apart.symm {w : World} {b b' : Nat} (h : Apart w b b') : Apart w b' b := fun k h1 h2 => h k h2 h1
theorem Step.other {b b' : Nat} {w w1 : World} (h : Step b w w1) (ha : Apart w b b') (hl : b' < w.heap.size) : w1.heap[b']? = w.heap[b']? := h.keep.block b' hl (fun hf => ha b' hf (foot_self w b'))
theorem Step.apart {b b' : Nat} {w w1 : World} (h : Step b w w1) (ha : Apart w b b') (hl : ∀ k, foot w b' k → k < w.heap.size) : Apart w1 b b' := fun k h1 h2 => by
  have h2' := (foot_same (h.other ha (hl b' (foot_self w b')))).1 h2
  rcases h.grow k h1 with h3 | h3
  · exact ha k h3 h2'
  · have := hl k h2'
    omega
theorem Apart.new {w w1 : World} {b b' : Nat} (h : Ext w w1) (hl : ∀ k, foot w b k → k < w.heap.size) (hn : ∀ k, foot w1 b' k → w.heap.size ≤ k) : Apart w1 b b' := fun k h1 h2 => by
  have h1' := (foot_same (h.block b (hl b (foot_self w b)) (fun h => h))).1 h1
  have := hl k h1'
  have := hn k h2
  omega
theorem Apart.ext {w w1 : World} {b b' : Nat} (h : Apart w b b') (x : Ext w w1) (h1 : b < w.heap.size) (h2 : b' < w.heap.size) : Apart w1 b b' := fun k f1 f2 =>
  h k ((foot_same (x.block b h1 (fun h => h))).1 f1) ((foot_same (x.block b' h2 (fun h => h))).1 f2)
/-- Rows of the call's own stay where their block is kept. -/
theorem own_keepD {w w' : World} {base e size n : Nat} {v : Value} {xs : List Value} {D : Nat → Prop} (h : w.ownsRow base e size v n xs) (k : Keep D w w') (hd : ∀ g, v.ownBlock = some g → ¬ D g) : w'.ownsRow base e size v n xs := by
  refine ⟨h.1, h.2.imp id ?_⟩
  rintro ⟨g, cap, cur, rfl, hg, hh, rest⟩
  exact ⟨g, cap, cur, rfl, hg, k.get (hd g rfl) hh, rest⟩
theorem own_extD {w w' : World} {base e size n : Nat} {v : Value} {xs : List Value} (h : w.ownsRow base e size v n xs) (k : Ext w w') : w'.ownsRow base e size v n xs := own_keepD h k (fun _ _ h => h)
theorem own_neT {w : World} {base e size n : Nat} {v : Value} {xs : List Value} (ho : w.ownsRow base e size v n xs) {b : Nat} {cs : Array Value} {T : TypeId} {fr : Nat × Nat} (hb : w.heap[b]? = some (.cells cs T fr)) (hT : T ≠ e) : v.ownBlock ≠ some b := by
  intro h
  rcases ho.2 with ⟨rfl, _⟩ | ⟨g, cap, cur, rfl, _, hg, _⟩
  · cases h
  · have : g = b := by simpa [Value.ownBlock] using h
    subst this
    rw [hb] at hg
    injection hg with hg
    injection hg with _ h2
    exact hT h2
theorem own_neO {w : World} {base base' e e' size size' n n' : Nat} {v v' : Value} {xs xs' : List Value} (ho : w.ownsRow base e size v n xs) (ho' : w.ownsRow base' e' size' v' n' xs') (hT : e ≠ e') {g : Nat} (hg : v.ownBlock = some g) : v'.ownBlock ≠ some g := by
  rcases ho.2 with ⟨rfl, _⟩ | ⟨g', cap, cur, rfl, _, hh, _⟩
  · cases hg
  · have : g' = g := by simpa [Value.ownBlock] using hg
    subst this
    exact own_neT ho' hh hT
theorem own_max {w : World} {base e size n : Nat} {v : Value} {xs : List Value} (ho : w.ownsRow base e size v n xs) : n ≤ 9223372036854775807 := by
  rcases ho.2 with ⟨_, h⟩ | ⟨_, _, _, _, _, _, h, h', _⟩
  · omega
  · simp only [maxLen] at h'
    omega
theorem own_base0 {w : World} {base e size n : Nat} {v : Value} {xs : List Value} (ho : w.ownsRow base e size v n xs) : w.ownsRow 0 e size v n xs := own_mono ho (Nat.zero_le _)
/-- v lies apart from the object b. -/
def Outs (w : World) (b : Nat) (v : Value) : Prop := ∀ k, v.ownBlock = some k → ¬ foot w b k ∧ k < w.heap.size
theorem Outs.step {w w1 : World} {b : Nat} {v : Value} (h : Outs w b v) (s : Step b w w1) : Outs w1 b v := fun k hk => by
  obtain ⟨h1, h2⟩ := h k hk
  refine ⟨fun hf => ?_, Nat.lt_of_lt_of_le h2 s.size⟩
  rcases s.grow k hf with h3 | h3
  · exact h1 h3
  · omega
theorem Outs.ext {w w1 : World} {b : Nat} {v : Value} (h : Outs w b v) (hb : b < w.heap.size) (x : Ext w w1) : Outs w1 b v := h.step (Step.ext x hb)
theorem Bts.step {w w1 : World} {b : Nat} {v : Value} {l : List UInt8} (h : Bts w v l) (o : Outs w b v) (s : Step b w w1) : Bts w1 v l := h.keep s.keep (fun k hk => (o k hk).1)
theorem outs_own {w w1 : World} {b base e size n : Nat} {v : Value} {xs : List Value} (ho : w1.ownsRow base e size v n xs) (x : Ext w w1) (hl : ∀ k, foot w b k → k < w.heap.size) (hb : w.heap.size ≤ base) : Outs w1 b v := fun k hk => by
  obtain ⟨h1, h2⟩ := ho.lt k hk
  refine ⟨fun hf => ?_, h2⟩
  have := hl k ((foot_same (x.block b (hl b (foot_self w b)) (fun h => h))).1 hf)
  omega
/-- An aggregate is written into a block, anywhere. -/
theorem XU_storeAggAt {P : Program} {t : TypeId} (hi : infoB P t = true) {b o : Nat} {cs : Array Value} {l : List Value} {T : TypeId} {w : World} {K : World → Prop} (hb : w.heap[b]? = some (.cells cs T (0, 0))) (hc : o + l.length ≤ cs.size) (hn : l.length = szT P t)
    (h1 : ∀ v ∈ l, v.oneCell' = true) (h : K (setAt w b (cs.toList.take o ++ l ++ cs.toList.drop (o + l.length)).toArray T (0, 0))) : XU P (Instr.storeAt t (.pointer (some ⟨b, o, none⟩)) (.agg l.toArray)) w K := by
  have hst := run_storeCells_at P b o T l 0 cs w hb (by omega) h1
  have e : w.setRow b ((cs.toList.take (o + 0) ++ l ++ cs.toList.drop (o + 0 + l.length)).toArray) = setAt w b (cs.toList.take o ++ l ++ cs.toList.drop (o + l.length)).toArray T (0, 0) := by
    rw [Nat.add_zero]
    unfold World.setRow setAt
    congr 1
    apply Array.ext_getElem?
    intro i
    have hl := lt_of_blk hb
    by_cases hi : i = b
    · subst hi
      rw [Array.getElem?_modify, if_pos rfl, hb]
      simp [hl]
    · rw [Array.getElem?_setIfInBounds_ne (Ne.symm hi), Array.getElem?_modify]
      simp [Ne.symm hi]
  rw [e] at hst
  have hv : (Value.agg l.toArray).cells = l.toArray := rfl
  have hr : (Instr.storeAt t (.pointer (some ⟨b, o, none⟩)) (.agg l.toArray)).run P w = .ok () (setAt w b (cs.toList.take o ++ l ++ cs.toList.drop (o + l.length)).toArray T (0, 0)) := by
    simp [Instr.storeAt, Instr.sureAddr, storeVar, sizeOf_run hi, hv, ← hn, hst]
  unfold XU; rw [hr]; exact h
theorem splice_len (l m : List Value) (o : Nat) (h : o + m.length ≤ l.length) : (l.take o ++ m ++ l.drop (o + m.length)).length = l.length := by
  simp; omega
/-- copy of cells into a block, elements of any size. -/
theorem X_copy_cells {P : Program} {t u U e size : Nat} {w : World} {K : Value → World → Prop} (ht : P.underlying t = some (.slice e)) (hi : infoB P e = true) (hs : szT P e = size) {g o n c : Nat} {cur : Array Value} {T : TypeId} (hg : w.heap[g]? = some (.cells cur T (0, 0)))
    {a : Addr} {m c' : Nat} {l : List Value} (hl : l.length = min m n * size) (hc : ∀ j v, l[j]? = some v → w.cell? (a.add j) = some v) (h1 : ∀ v ∈ l, v.oneCell' = true) (hfit : o + l.length ≤ cur.size)
    (h : K (.int .i64 (min m n : Nat)) (setAt w g (cur.toList.take o ++ l ++ cur.toList.drop (o + l.length)).toArray T (0, 0))) : X P (Builtin.copy_ #[t, u] U #[.slice (some ⟨g, o, none⟩) n c, .slice (some a) m c']) w K := by
  have hld := run_loadCells_list (P := P) w a l hc
  have hst := run_storeCells_at P g o T l 0 cur w hg (by omega) h1
  have e : w.setRow g ((cur.toList.take (o + 0) ++ l ++ cur.toList.drop (o + 0 + l.length)).toArray) = setAt w g (cur.toList.take o ++ l ++ cur.toList.drop (o + l.length)).toArray T (0, 0) := by
    rw [Nat.add_zero]
    unfold World.setRow setAt
    congr 1
    apply Array.ext_getElem?
    intro i
    have hl := lt_of_blk hg
    by_cases hi : i = g
    · subst hi
      rw [Array.getElem?_modify, if_pos rfl, hg]
      simp [hl]
    · rw [Array.getElem?_setIfInBounds_ne (Ne.symm hi), Array.getElem?_modify]
      simp [Ne.symm hi]
  rw [e] at hst
  rw [hl] at hld
  refine X_of (w1 := setAt w g (cur.toList.take o ++ l ++ cur.toList.drop (o + l.length)).toArray T (0, 0)) (v := .int .i64 (min m n : Nat)) ?_ h
  have hm : Nat.min m n = min m n := rfl
  simp [Builtin.copy_, run_underlying ht, Builtin.lenOf, Builtin.firstCells, sizeOf_run hi, hs, hm, hld, hst, goInt]
/-- append to a row of the call's own, and where the new row lies. -/
theorem X_appendW {P : Program} {w : World} {K : Value → World → Prop} {base : Nat} {t U e : TypeId} {size bytes : Nat} {z : Value} (ht : P.underlying t = some (.slice e)) (hE : El P e size z bytes) (h0 : 0 < size) {v : Value} {n : Nat} {xs : List Value} (hown : w.ownsRow base e size v n xs)
    {a : Addr} {m c : Nat} {news : List Value} (hl : news.length = m * size) (hnews : ∀ j u, news[j]? = some u → w.cell? (a.add j) = some u) (h1 : ∀ u ∈ news, u.oneCell' = true)
    (hb : (n + m) * bytes ≤ 140737488355328) (hb0 : 0 < bytes) (hbase : base ≤ w.heap.size)
    (h : ∀ v' w1, w1.ownsRow base e size v' (n + m) (xs ++ news) → Keep (fun k => some k = v.ownBlock) w w1 → (∀ g, v'.ownBlock = some g → v.ownBlock = some g ∨ w.heap.size ≤ g) → K v' w1) : X P (Builtin.append_ #[t, t] U #[v, .slice (some a) m c]) w K := by
  obtain ⟨⟨i, hi, hs, hz, hby⟩, hzc⟩ := hE
  have hm : n + m ≤ 140737488355328 := Nat.le_trans (Nat.le_mul_of_pos_right _ hb0) hb
  have h63 : n + m ≤ maxLen := by simp only [maxLen]; omega
  obtain ⟨v', w1, hr, h2, h3, h4⟩ := run_append_own (P := P) w base t U e i z size bytes ht hi hz hs hby hzc h0 v n xs hown a m c news hl hnews h1 h63 hb hbase
  rw [X_ok hr]
  refine h v' w1 h2 (keep_grown h3) ?_
  intro g hg
  rcases id hown.2 with ⟨rfl, rfl⟩ | ⟨g0, cap, cur, rfl, hbg, hh, hnc, hcm, hcs, htake⟩
  · have hx : xs = [] := List.eq_nil_of_length_eq_zero (by simpa using hown.1)
    subst hx
    obtain ⟨v2, w2, hr2, h22, _, _⟩ := run_append_own (P := P) w w.heap.size t U e i z size bytes ht hi hz hs hby hzc h0 (.slice none 0 0) 0 [] (World.ownsRow_nil w _ e size) a m c news hl hnews h1 h63 hb (Nat.le_refl _)
    rw [hr] at hr2
    injection hr2 with e1 e2
    subst e1
    exact .inr (h22.lt g hg).1
  · subst hs
    subst hby
    by_cases hroom : n + m ≤ cap
    · have hfit : n * i.size + news.length ≤ cur.size := by rw [hl, hcs, ← Nat.add_mul]; exact Nat.mul_le_mul_right _ hroom
      have hr2 := run_append_room (P := P) w t U e i ht hi g0 n cap cur hh a m c news hl hnews h1 hroom hfit
      rw [hr] at hr2
      injection hr2 with e1 e2
      subst e1
      exact .inl hg
    · have holds : ∀ j u, xs[j]? = some u → w.cell? ((⟨g0, 0, none⟩ : Addr).add j) = some u := hown.cells (g := g0) rfl
      simp only [maxLen] at h63 hcm
      have hr2 := run_append_grow (P := P) w t U e i z ht hi hz ⟨g0, 0, none⟩ n cap xs hown.1 holds a m c news hl hnews (by omega) (by omega) (growslice_fits (by omega) hb)
      rw [hr] at hr2
      injection hr2 with e1 e2
      subst e1
      refine .inr ?_
      injection hg with hg
      exact Nat.le_of_eq hg
/-- A literal of one struct. -/
theorem foldl_put (l : List Value) : ∀ (k : Nat) (cs : Array Value), k + l.length ≤ cs.size → ((l.zipIdx k).foldl (fun (cs : Array Value) (x : Value × Nat) => cs.setIfInBounds (0 + x.2) x.1) cs).toList = cs.toList.take k ++ l ++ cs.toList.drop (k + l.length) := by
  induction l with
  | nil => intro k cs h; simp
  | cons v l ih =>
    intro k cs h
    simp only [List.length_cons] at h
    rw [List.zipIdx_cons, List.foldl_cons, ih (k + 1) _ (by rw [Array.size_setIfInBounds]; omega)]
    simp only [Array.toList_setIfInBounds, Nat.zero_add]
    have hs := list_seg_step cs.toList k v l (by rw [Array.length_toList]; omega)
    rw [hs]
    simp
theorem X_buildSliceAgg {P : Program} {w : World} {K : Value → World → Prop} {T e size bytes : Nat} {z : Value} (hT : P.underlying T = some (.slice e)) (hE : El P e size z bytes) (h0 : 0 < size) (hsz : size ≤ 16777216) {l : List Value} (hl : l.length = size)
    (h : K (.slice (some ⟨w.heap.size, 0, none⟩) 1 1) (newB w l.toArray e)) : X P (Instr.buildSlice T 1 #[(0, .agg l.toArray)]) w K := by
  obtain ⟨⟨i, hi, hs, hz, _⟩, hzc⟩ := hE
  subst hs
  have hv : (Value.agg l.toArray).cells = l.toArray := rfl
  have hnz : ¬ i.size = 0 := by omega
  have hfill : Instr.fill (fun i_1 => some (i_1 * i.size, i.size)) ((Array.range (1 * i.size)).map (z.cells[· % z.cells.size]!)) [(0, Value.agg l.toArray)] = some l.toArray := by
    simp only [Instr.fill, hv, List.size_toArray, hl, Nat.zero_mul, Nat.zero_add, Array.size_map, Array.size_range, Nat.one_mul]
    rw [if_neg (by simp)]
    congr 1
    apply Array.ext'
    have hf := foldl_put l 0 ((Array.range i.size).map (z.cells[· % z.cells.size]!)) (by simp [hl])
    rw [List.take_zero, List.nil_append, List.drop_eq_nil_of_le (by simp [hl]), List.append_nil] at hf
    rw [Array.zipIdx_toArray, List.foldl_toArray]
    simpa only [Nat.zero_add] using hf
  refine X_of (v := .slice (some ⟨w.heap.size, 0, none⟩) 1 1) (w1 := newB w l.toArray e) ?_ h
  have hle : ¬ (1 * i.size > 2 ^ 24) := by omega
  have hne : ¬ (1 * i.size = 0) := by omega
  have hle' : ¬ 16777216 < i.size := by omega
  rw [Nat.one_mul] at hfill
  simp [Instr.buildSlice, run_underlying hT, sizeOf, typeInfo, hi, hle', hnz, zeroValue, hz, hfill, newRow, newB]
end Go.Sh
end
section
/- Rows of the call's own whose items are structs, and what is appended to them. -/
set_option linter.unusedVariables false
set_option linter.unusedSimpArgs false
namespace Go.Sh
open Go Go.RowKit
theorem add_add (a : Addr) (x y : Nat) : (a.add x).add y = a.add (x + y) := by
  unfold Addr.add
  by_cases hx : x = 0
  · subst hx; simp
  · by_cases hy : y = 0
    · subst hy; simp
    · simp [hx, hy]; try omega
theorem flatten_get {α : Type} {k : Nat} (hk : 0 < k) : ∀ (l : List (List α)), (∀ s ∈ l, s.length = k) → ∀ p, l.flatten[p]? = (l[p / k]?).bind (fun s => s[p % k]?) := by
  intro l
  induction l with
  | nil => intro _ p; simp
  | cons s l ih =>
    intro h p
    have hs : s.length = k := h s (by simp)
    rw [List.flatten_cons]
    by_cases hp : p < k
    · rw [List.getElem?_append_left (by omega), Nat.div_eq_of_lt hp, Nat.mod_eq_of_lt hp]
      rfl
    · rw [List.getElem?_append_right (by omega), hs, ih (fun t ht => h t (by simp [ht]))]
      have e1 : p / k = (p - k) / k + 1 := by
        have : p = (p - k) + k := by omega
        conv => lhs; rw [this]
        rw [Nat.add_div_right _ hk]
      have e2 : p % k = (p - k) % k := by
        have : p = (p - k) + k := by omega
        conv => lhs; rw [this]
        rw [Nat.add_mod_right]
      rw [e1, e2]
      rfl
def cellsK {α : Type} (f : α → List Value) (xs : List α) : List Value := (xs.map f).flatten
theorem cellsK_append {α : Type} (f : α → List Value) (xs ys : List α) : cellsK f (xs ++ ys) = cellsK f xs ++ cellsK f ys := by simp [cellsK]
theorem cellsK_len {α : Type} {k : Nat} {f : α → List Value} (hf : ∀ x, (f x).length = k) (xs : List α) : (cellsK f xs).length = xs.length * k := by
  unfold cellsK
  induction xs with
  | nil => simp
  | cons x xs ih => simp only [List.map_cons, List.flatten_cons, List.length_append, ih, hf, List.length_cons, Nat.succ_mul]; omega
theorem cellsK_get {α : Type} {k : Nat} {f : α → List Value} (hk : 0 < k) (hf : ∀ x, (f x).length = k) (xs : List α) (p : Nat) : (cellsK f xs)[p]? = (xs[p / k]?).bind (fun x => (f x)[p % k]?) := by
  unfold cellsK
  rw [flatten_get hk _ (fun s hs => by obtain ⟨x, _, rfl⟩ := List.mem_map.1 hs; exact hf x)]
  rw [List.getElem?_map]
  cases xs[p / k]? <;> rfl
theorem cellsK_at {α : Type} {k : Nat} {f : α → List Value} (hk : 0 < k) (hf : ∀ x, (f x).length = k) {xs : List α} {j i : Nat} {x : α} {u : Value} (hx : xs[j]? = some x) (hu : (f x)[i]? = some u) : (cellsK f xs)[j * k + i]? = some u := by
  have hi : i < k := by
    have := (List.getElem?_eq_some_iff.1 hu).1
    rw [hf] at this; exact this
  rw [cellsK_get hk hf]
  have e1 : (j * k + i) / k = j := by rw [Nat.add_comm, Nat.add_mul_div_right _ _ hk, Nat.div_eq_of_lt hi, Nat.zero_add]
  have e2 : (j * k + i) % k = i := by rw [Nat.add_comm, Nat.add_mul_mod_self_right, Nat.mod_eq_of_lt hi]
  rw [e1, e2, hx]
  exact hu
/-- A row of the call's own. -/
def OwnK {α : Type} (k e : Nat) (f : α → List Value) (w : World) (base : Nat) (v : Value) (xs : List α) : Prop := w.ownsRow base e k v xs.length (cellsK f xs)
section
variable {α : Type} {k e : Nat} {f : α → List Value} {w w' : World} {base : Nat} {v : Value} {xs ys : List α}
theorem OwnK.rowK (hk : 0 < k) (hf : ∀ x, (f x).length = k) (h : OwnK k e f w base v xs) : RowK k f w v xs := by
  rcases id h.2 with ⟨rfl, h0⟩ | ⟨g, cap, cur, rfl, hg, hh, hm, hmx, hs, ht⟩
  · have : xs = [] := List.eq_nil_of_length_eq_zero h0
    subst this
    exact ⟨none, 0, rfl, Nat.le_refl _, by omega, fun h => absurd h (by simp)⟩
  · refine ⟨_, cap, rfl, hm, by simpa [maxLen] using hmx, fun _ => ⟨_, rfl, fun j x hx i u hu => ?_⟩⟩
    have hc := cellsK_at hk hf hx hu
    have hi : i < k := by
      have := (List.getElem?_eq_some_iff.1 hu).1
      rw [hf] at this; exact this
    have hj := (List.getElem?_eq_some_iff.1 hx).1
    have hlt : j * k + i < xs.length * k := by
      have := Nat.mul_le_mul_right k (Nat.succ_le_of_lt hj)
      rw [Nat.succ_mul] at this
      omega
    rw [← ht, List.getElem?_take, if_pos hlt] at hc
    rw [add_add, Go.Proofs.Ytggggfcgnkllgaa.add_plain, Nat.zero_add, cell_blk hh]
    simpa using hc
theorem RowK.cells (hk : 0 < k) (hf : ∀ x, (f x).length = k) (h : RowK k f w v xs) : ∃ a c, v = .slice a xs.length c ∧ (0 < xs.length → ∃ ad, a = some ad ∧ ∀ j u, (cellsK f xs)[j]? = some u → w.cell? (ad.add j) = some u) := by
  obtain ⟨a, c, rfl, h1, h2, h3⟩ := h
  refine ⟨a, c, rfl, fun h0 => ?_⟩
  obtain ⟨ad, rfl, hc⟩ := h3 h0
  refine ⟨ad, rfl, fun j u hu => ?_⟩
  rw [cellsK_get hk hf] at hu
  obtain ⟨x, hx, hu⟩ := Option.bind_eq_some_iff.1 hu
  have := hc _ _ hx _ _ hu
  rw [add_add] at this
  rw [show j = j / k * k + j % k by rw [Nat.mul_comm]; exact (Nat.div_add_mod j k).symm]
  exact this
theorem RowK.ofK (hk : 0 < k) (hf : ∀ x, (f x).length = k) {g : Nat} {T : TypeId} {fr : Nat × Nat} (hg : w.heap[g]? = some (.cells (cellsK f xs).toArray T fr)) {n : Nat} (hn : xs.length = n) (hmx : n ≤ 9223372036854775807) : RowK k f w (.slice (some ⟨g, 0, none⟩) n n) xs := by
  subst hn
  refine ⟨_, _, rfl, Nat.le_refl _, hmx, fun _ => ⟨_, rfl, fun j x hx i u hu => ?_⟩⟩
  have hc := cellsK_at hk hf hx hu
  rw [add_add, Go.Proofs.Ytggggfcgnkllgaa.add_plain, Nat.zero_add, cell_blk hg]
  simpa using hc
theorem X_appendK {P : Program} {t U : TypeId} {bytes : Nat} {z : Value} {K : Value → World → Prop} (ht : P.underlying t = some (.slice e)) (hE : El P e k z bytes) (hk : 0 < k) (hf : ∀ x, (f x).length = k) (h1 : ∀ x ∈ ys, ∀ u ∈ f x, u.oneCell' = true)
    (hown : OwnK k e f w base v xs) {y : Value} (hy : RowK k f w y ys) (hb : (xs.length + ys.length) * bytes ≤ 140737488355328) (hb0 : 0 < bytes) (hbase : base ≤ w.heap.size)
    (h : ∀ v' w1, OwnK k e f w1 base v' (xs ++ ys) → Keep (fun q => some q = v.ownBlock) w w1 → K v' w1) : X P (Builtin.append_ #[t, t] U #[v, y]) w K := by
  obtain ⟨a, c, rfl, h3⟩ := hy.cells hk hf
  have fin : ∀ v' w1, w1.ownsRow base e k v' (xs.length + ys.length) (cellsK f xs ++ cellsK f ys) → Keep (fun q => some q = v.ownBlock) w w1 → K v' w1 := fun v' w1 ho hk' => h v' w1 (by
    unfold OwnK
    rw [List.length_append, cellsK_append]
    exact ho) hk'
  have hone : ∀ u ∈ cellsK f ys, u.oneCell' = true := by
    intro u hu
    unfold cellsK at hu
    obtain ⟨s, hs, hu⟩ := List.mem_flatten.1 hu
    obtain ⟨x, hx, rfl⟩ := List.mem_map.1 hs
    exact h1 x hx u hu
  by_cases h0 : 0 < ys.length
  · obtain ⟨ad, rfl, hc⟩ := h3 h0
    exact X_append ht hE hk hown (news := cellsK f ys) (cellsK_len hf ys) hc hone hb hb0 hbase fin
  · have hnil : ys = [] := List.eq_nil_of_length_eq_zero (by omega)
    subst hnil
    have fin0 : K v w := by
      refine fin v w ?_ (Keep.refl _ _)
      have e : cellsK f ([] : List α) = [] := rfl
      rw [e, List.append_nil, List.length_nil, Nat.add_zero]
      exact hown
    cases a with
    | none => exact X_append_none ht hE hown fin0
    | some ad => exact X_append ht hE hk hown (news := []) (m := 0) (by simp) (by simp) (by simp) (by simpa using hb) hb0 hbase (fun v' w1 ho hk' => fin v' w1 (by
        have e : cellsK f ([] : List α) = [] := rfl
        rw [e]
        exact ho) hk')
theorem OwnK.keep {D : Nat → Prop} (h : OwnK k e f w base v xs) (kp : Keep D w w') (hd : ∀ g, v.ownBlock = some g → ¬ D g) : OwnK k e f w' base v xs := own_keepD h kp hd
theorem OwnK.ext (h : OwnK k e f w base v xs) (kp : Ext w w') : OwnK k e f w' base v xs := own_extD h kp
theorem ownK_nil (w : World) (base : Nat) : OwnK k e f w base (.slice none 0 0) ([] : List α) := World.ownsRow_nil w base e k
theorem ownK_empty (w : World) : OwnK k e f (newB w #[] e) w.heap.size (.slice (some ⟨w.heap.size, 0, none⟩) 0 0) ([] : List α) :=
  ⟨by simp [cellsK], .inr ⟨w.heap.size, 0, #[], rfl, Nat.le_refl _, newB_get _ _ _, Nat.le_refl _, by simp [maxLen], by simp, by simp [cellsK]⟩⟩
end
end Go.Sh
end
section
/- Keys: compared, and as keys of maps. -/
set_option linter.unusedVariables false
set_option linter.unusedSimpArgs false
namespace Go.Sh
open Go Go.RowKit
/-- A part that is an aggregate. -/
theorem part_agg {P : Program} {e : TypeId} {d : TypeDesc} (hu : P.underlying e = some d) (ha : aggB P e = true) (hi : infoB P e = true) (cs : Array Value) (i : Nat) (w : World) : (part e cs i).run P w = .ok (.agg (cs.extract i (i + szT P e))) w := by
  simp [part, isAgg_run' hu ha, sizeOf_run hi]
theorem mapM_all {β γ : Type} (g : β → Option γ) : ∀ (l : List β), (∀ x ∈ l, ∃ y, g x = some y) → ∃ r, l.mapM g = some r
  | [], _ => ⟨[], rfl⟩
  | a :: l, h => by
    obtain ⟨y, hy⟩ := h a (by simp)
    obtain ⟨r, hr⟩ := mapM_all g l (fun x hx => h x (by simp [hx]))
    exact ⟨y :: r, by rw [List.mapM_cons, hy]; simp [hr]⟩
/-- A map of the call's own: its entries, in their order. -/
def MapAt (w : World) (mb : Nat) (l : List (Value × Value)) : Prop := ∃ es clock, w.heap[mb]? = some (.map es clock) ∧ es.toList.map (fun e => (e.key, e.val)) = l
theorem MapAt.keep {D : Nat → Prop} {w w' : World} {mb : Nat} {l : List (Value × Value)} (h : MapAt w mb l) (k : Keep D w w') (hd : ¬ D mb) : MapAt w' mb l := by
  obtain ⟨es, c, h1, h2⟩ := h
  exact ⟨es, c, k.get hd h1, h2⟩
theorem MapAt.ext {w w' : World} {mb : Nat} {l : List (Value × Value)} (h : MapAt w mb l) (k : Ext w w') : MapAt w' mb l := h.keep k (fun h => h)
theorem MapAt.lt {w : World} {mb : Nat} {l : List (Value × Value)} (h : MapAt w mb l) : mb < w.heap.size := by
  obtain ⟨es, c, h1, h2⟩ := h
  exact lt_of_blk h1
def newM (w : World) : World := { w with heap := w.heap.push (.map #[] 0) }
theorem newM_ext (w : World) : Ext w (newM w) :=
  ⟨rfl, rfl, rfl, by show _ ≤ (w.heap.push _).size; rw [Array.size_push]; omega, fun i hi _ => by
    show (w.heap.push _)[i]? = _
    exact Array.getElem?_push_lt hi |>.trans (Array.getElem?_eq_getElem hi).symm⟩
theorem newM_at (w : World) : MapAt (newM w) w.heap.size [] := ⟨#[], 0, by show (w.heap.push _)[w.heap.size]? = _; exact Array.getElem?_push_size, rfl⟩
theorem X_makeMap {P : Program} {t k e : TypeId} (ht : P.underlying t = some (.map k e)) (n : Int) {w : World} {K : Value → World → Prop} (h : K (.map (some w.heap.size)) (newM w)) : X P (Instr.makeMap t (some (.int .i64 n))) w K := by
  have hr : (Instr.makeMap t (some (.int .i64 n))).run P w = .ok (.map (some w.heap.size)) (newM w) := by
    simp [Instr.makeMap, run_underlying ht, asInt, run_newObj]
    rfl
  exact X_of hr h
theorem X_makeMap0 {P : Program} {t : TypeId} {w : World} {K : Value → World → Prop} (h : K (.map (some w.heap.size)) (newM w)) : X P (Instr.makeMap t none) w K := by
  have hr : (Instr.makeMap t none).run P w = .ok (.map (some w.heap.size)) (newM w) := by
    simp [Instr.makeMap, run_newObj]
    rfl
  exact X_of hr h
section
variable {P : Program} {t k e : TypeId} {w : World} {mb : Nat} {l : List (Value × Value)}
/-- A key is looked up: it is not there, or the entry is the first of that key. -/
theorem run_lookupM (K : Maps.Keyed P k) (ht : P.underlying t = some (.map k e)) {z : Value} (hz : zeroT P e = some z) (hm : MapAt w mb l) (hl : ∀ p ∈ l, ∃ x, keyOf P k p.1 = some x) {key : Value} {kl : Lit} (hkey : keyOf P k key = some kl) (c : Bool) :
    ((∀ p ∈ l, p.1 ≠ key) ∧ (Instr.lookup t (.map (some mb)) key c).run P w = .ok (if c then .tuple #[z, .bool false] else z) w) ∨
    ∃ p ∈ l, p.1 = key ∧ (Instr.lookup t (.map (some mb)) key c).run P w = .ok (if c then .tuple #[p.2, .bool true] else p.2) w := by
  obtain ⟨es, clock, hb, rfl⟩ := hm
  have hes : ∀ x ∈ es.toList, ∃ y, keyOf P k x.key = some y := fun x hx => hl (x.key, x.val) (List.mem_map.2 ⟨x, hx, rfl⟩)
  rcases K.find w hkey es.toList hes with ⟨h1, h2⟩ | ⟨j, e0, h1, h2, h3⟩
  · refine .inl ⟨fun p hp => ?_, ?_⟩
    · obtain ⟨x, hx, rfl⟩ := List.mem_map.1 hp
      exact h2 x hx
    · cases c <;> simp [Instr.lookup, run_underlying ht, MapKept.run_getObj_map hb, K.check w _ hkey, h1, zeroValue_run hz, Result.andThen]
  · refine .inr ⟨(e0.key, e0.val), List.mem_map.2 ⟨e0, List.mem_of_getElem? h2, rfl⟩, h3, ?_⟩
    cases c <;> simp [Instr.lookup, run_underlying ht, MapKept.run_getObj_map hb, K.check w _ hkey, h1, Result.andThen]
/-- A new key is laid. -/
theorem XU_updateNew (K : Maps.Keyed P k) (ht : P.underlying t = some (.map k e)) (hm : MapAt w mb l) (hl : ∀ p ∈ l, ∃ x, keyOf P k p.1 = some x) {key v : Value} {kl : Lit} (hkey : keyOf P k key = some kl) (hnew : ∀ p ∈ l, p.1 ≠ key) {Q : World → Prop}
    (h : ∀ w1, MapAt w1 mb (l ++ [(key, v)]) → Keep (· = mb) w w1 → Q w1) : XU P (Instr.mapUpdate t (.map (some mb)) key v) w Q := by
  obtain ⟨es, clock, hb, rfl⟩ := hm
  have hes : ∀ x ∈ es.toList, ∃ y, keyOf P k x.key = some y := fun x hx => hl (x.key, x.val) (List.mem_map.2 ⟨x, hx, rfl⟩)
  rcases K.find w hkey es.toList hes with ⟨h1, h2⟩ | ⟨j, e0, h1, h2, h3⟩
  · have hr : (Instr.mapUpdate t (.map (some mb)) key v).run P w = .ok () { w with heap := w.heap.setIfInBounds mb (.map (es.push { key, val := v, born := clock }) (clock + 1)) } := by
      simp [Instr.mapUpdate, run_underlying ht, MapKept.run_getObj_map hb, K.check w _ hkey, h1, Result.andThen, MapKept.run_setObj_map _ hb]
    unfold XU
    rw [hr]
    have hlt := lt_of_blk hb
    refine h _ ⟨_, _, by show (w.heap.setIfInBounds mb _)[mb]? = _; simp [hlt]; exact ⟨rfl, rfl⟩, by simp⟩ ⟨rfl, rfl, rfl, by show _ ≤ (w.heap.setIfInBounds mb _).size; simp, fun i _ hi => by show (w.heap.setIfInBounds mb _)[i]? = _; rw [Array.getElem?_setIfInBounds_ne (Ne.symm hi)]⟩
  · exact absurd h3 (hnew (e0.key, e0.val) (List.mem_map.2 ⟨e0, List.mem_of_getElem? h2, rfl⟩))
end
theorem eqFields_two {P : Program} {d : Nat} {xs ys : Array Value} {f0 f1 : Field} {w : World} {x0 y0 x1 y1 : Value} {r0 r1 : Bool} (n0 : f0.name ≠ "_") (n1 : f1.name ≠ "_")
    (hx0 : (part f0.type xs f0.offset).run P w = .ok x0 w) (hy0 : (part f0.type ys f0.offset).run P w = .ok y0 w) (hx1 : (part f1.type xs f1.offset).run P w = .ok x1 w) (hy1 : (part f1.type ys f1.offset).run P w = .ok y1 w)
    (q0 : (Op.equalIn d f0.type x0 y0).run P w = .ok r0 w) (q1 : (Op.equalIn d f1.type x1 y1).run P w = .ok r1 w) : (Op.eqFields d xs ys [f0, f1]).run P w = .ok (r0 && r1) w := by
  cases r0 <;> cases r1 <;> simp [Op.eqFields, n0, n1, hx0, hy0, hx1, hy1, q0, q1]
end Go.Sh
end
section
/- A slot as an argument. -/
set_option linter.unusedVariables false
set_option linter.unusedSimpArgs false
namespace Go.Sh
open Go Go.RowKit Go.ChangeShapes Go.WideShapes Go.ChangeAt
section
variable {P : Program} {H : Type} {enc : TypeId × Value → H} {W : World} {base : Nat} {v : Value} {d : DataW H} {p : List MemPlace} {t : TypeId}
theorem wf_nat {k : IntKind} {n : Int} {m : Nat} (hk : k.signed = false) (hm : (2 : Int) ^ k.bits = (m : Int)) (h : (Lit.int k n).wf = true) : ∃ x : Nat, n = (x : Int) ∧ x < m := by
  simp only [Lit.wf, IntKind.min, IntKind.max, hk, Bool.false_eq_true, if_false, Bool.and_eq_true, decide_eq_true_eq] at h
  refine ⟨n.toNat, ?_, ?_⟩ <;> omega
theorem arg_slot {f0 f1 f2 f3 : Field} (ht : P.underlying t = some (.struct #[f0, f1, f2, f3])) (hc : P.cellsOf t = 4) (o0 : f0.offset = 0) (o1 : f1.offset = 1) (o2 : f2.offset = 2) (o3 : f3.offset = 3)
    (t0 : P.underlying f0.type = some (.int .u64)) (t1 : P.underlying f1.type = some (.int .u8)) (t2 : P.underlying f2.type = some (.int .u32)) (t3 : P.underlying f3.type = some (.int .u32))
    (c0 : P.cellsOf f0.type = 1) (c1 : P.cellsOf f1.type = 1) (c2 : P.cellsOf f2.type = 1) (c3 : P.cellsOf f3.type = 1)
    (ok : Value.okWide P W .any base t v) (h : DataW.Trod enc P W 0 (fun _ => true) true t v d p) :
    ∃ a b c e : Nat, v = .agg #[.int .u64 (a : Int), .int .u8 (b : Int), .int .u32 (c : Int), .int .u32 (e : Int)] ∧ a < 18446744073709551616 ∧ b < 256 ∧ c < 4294967296 ∧ e < 4294967296 := by
  obtain ⟨cs, rfl, hcs⟩ := okWide_struct ht ok
  rw [hc] at hcs
  obtain ⟨hl, hf⟩ := (TrC.of h).struct ht
  match cs, hcs with
  | ⟨[x0, x1, x2, x3]⟩, _ =>
    have g0 := hf f0 (by simp)
    have g1 := hf f1 (by simp)
    have g2 := hf f2 (by simp)
    have g3 := hf f3 (by simp)
    rw [o0, c0] at g0
    rw [o1, c1] at g1
    rw [o2, c2] at g2
    rw [o3, c3] at g3
    obtain ⟨n0, e0, w0⟩ := TrC.int t0 g0
    obtain ⟨n1, e1, w1⟩ := TrC.int t1 g1
    obtain ⟨n2, e2, w2⟩ := TrC.int t2 g2
    obtain ⟨n3, e3, w3⟩ := TrC.int t3 g3
    simp [Value.cells] at e0 e1 e2 e3
    subst e0; subst e1; subst e2; subst e3
    obtain ⟨a, rfl, ha⟩ := wf_nat rfl (m := 18446744073709551616) (by decide) w0
    obtain ⟨b, rfl, hb⟩ := wf_nat rfl (m := 256) (by decide) w1
    obtain ⟨c, rfl, hc⟩ := wf_nat rfl (m := 4294967296) (by decide) w2
    obtain ⟨e, rfl, he⟩ := wf_nat rfl (m := 4294967296) (by decide) w3
    exact ⟨a, b, c, e, rfl, ha, hb, hc, he⟩
end
end Go.Sh
end
section
/- What a disk is, plain Lean: sectors that are safe, writes that are not. -/
set_option linter.unusedSimpArgs false
set_option linter.unusedVariables false
namespace Go.Sh
structure Dk where
  safe : List (List UInt8)
  ws : List (Nat × List UInt8)
  dead : Bool
  fuse : Int
  done : Int
def putAll (l : List (List UInt8)) (ws : List (Nat × List UInt8)) : List (List UInt8) := ws.foldl (fun l p => l.set p.1 p.2) l
def Dk.now (d : Dk) : List (List UInt8) := putAll d.safe d.ws
def Dk.ok (d : Dk) : Prop := (∀ s ∈ d.safe, s.length = 128) ∧ (∀ p ∈ d.ws, p.1 < d.safe.length ∧ p.2.length = 128) ∧ d.safe.length ≤ 16384 ∧ -1 ≤ d.fuse ∧ d.fuse ≤ 9223372036854775807
theorem putAll_length (l : List (List UInt8)) (ws : List (Nat × List UInt8)) : (putAll l ws).length = l.length := by
  induction ws generalizing l with
  | nil => rfl
  | cons p ws ih =>
    show (putAll (l.set p.1 p.2) ws).length = _
    rw [ih, List.length_set]
theorem putAll_append (l : List (List UInt8)) (a b : List (Nat × List UInt8)) : putAll l (a ++ b) = putAll (putAll l a) b := List.foldl_append
theorem set_all128 {l : List (List UInt8)} (h : ∀ s ∈ l, s.length = 128) (i : Nat) {x : List UInt8} (hx : x.length = 128) : ∀ s ∈ l.set i x, s.length = 128 := by
  intro s hs
  rcases List.mem_or_eq_of_mem_set hs with h1 | h1
  · exact h s h1
  · rw [h1]; exact hx
theorem putAll_128 {l : List (List UInt8)} {ws : List (Nat × List UInt8)} (h : ∀ s ∈ l, s.length = 128) (hw : ∀ p ∈ ws, p.2.length = 128) : ∀ s ∈ putAll l ws, s.length = 128 := by
  induction ws generalizing l with
  | nil => exact h
  | cons p ws ih => exact ih (set_all128 h p.1 (hw p (by simp))) (fun q hq => hw q (by simp [hq]))
theorem Dk.now_length (d : Dk) : d.now.length = d.safe.length := putAll_length _ _
theorem Dk.now_128 {d : Dk} (h : d.ok) : ∀ s ∈ d.now, s.length = 128 := putAll_128 h.1 (fun p hp => (h.2.1 p hp).2)
/-- Bytes of a sector. -/
def padB (b : List UInt8) : List UInt8 := b ++ List.replicate (128 - b.length) 0
theorem padB_len {b : List UInt8} (h : b.length ≤ 128) : (padB b).length = 128 := by simp [padB]; omega
/-- The power goes off, if it is about to. -/
def Dk.trip (d : Dk) : Dk := if d.fuse = 0 then { d with dead := true, fuse := -1 } else d
/-- An operation is OK. -/
def Dk.tick (d : Dk) : Dk := { d with done := Go.IntKind.i64.wrap (d.done + 1), fuse := if 0 < d.fuse then d.fuse - 1 else d.fuse }
def Dk.write (d : Dk) (at_ : Int) (b : List UInt8) : Dk × Int :=
  if at_ < 0 ∨ (d.safe.length : Int) ≤ at_ ∨ 128 < b.length then (d, 1)
  else if d.trip.dead = true then (d.trip, 6)
  else ({ d.trip.tick with ws := d.ws ++ [(at_.toNat, padB b)] }, 0)
def Dk.flush (d : Dk) : Dk × Int :=
  if d.trip.dead = true then (d.trip, 6)
  else ({ d.trip.tick with safe := d.now, ws := [] }, 0)
def Dk.cut (d : Dk) (n : Int) : Dk := if d.dead = true then d else { d with fuse := max n (-1) }
/-- So many bytes of a write are there. -/
def fateAt (fates : List Int) (i : Nat) : Nat := match fates[i]? with | some f => (max 0 (min f 128)).toNat | none => 0
theorem fateAt_le (fates : List Int) (i : Nat) : fateAt fates i ≤ 128 := by
  unfold fateAt
  split
  · omega
  · omega
/-- One sector of l, its first n bytes those of b. -/
def tearAt (l : List (List UInt8)) (p : Nat × List UInt8) (n : Nat) : List (List UInt8) := l.set p.1 (p.2.take n ++ (l.getD p.1 []).drop n)
def tears (fates : List Int) : Nat → List (List UInt8) → List (Nat × List UInt8) → List (List UInt8)
  | _, l, [] => l
  | i, l, p :: ws => tears fates (i + 1) (tearAt l p (fateAt fates i)) ws
def Dk.crash (d : Dk) (fates : List Int) : Dk := { d with safe := tears fates 0 d.safe d.ws, ws := [], dead := false, fuse := -1 }
def Dk.read (d : Dk) (at_ : Int) : List UInt8 × Int :=
  if at_ < 0 ∨ (d.safe.length : Int) ≤ at_ then ([], 1)
  else if d.dead = true then ([], 6)
  else (d.now.getD at_.toNat [], 0)
def Dk.new (n : Nat) : Dk := ⟨List.replicate n (List.replicate 128 0), [], false, -1, 0⟩
theorem tearAt_length (l : List (List UInt8)) (p : Nat × List UInt8) (n : Nat) : (tearAt l p n).length = l.length := by simp [tearAt]
theorem tears_length (fates : List Int) (i : Nat) (l : List (List UInt8)) (ws : List (Nat × List UInt8)) : (tears fates i l ws).length = l.length := by
  induction ws generalizing i l with
  | nil => rfl
  | cons p ws ih =>
    show (tears fates (i + 1) (tearAt l p (fateAt fates i)) ws).length = _
    rw [ih, tearAt_length]
theorem tearAt_128 {l : List (List UInt8)} (h : ∀ s ∈ l, s.length = 128) {p : Nat × List UInt8} (hp : p.1 < l.length ∧ p.2.length = 128) (n : Nat) (hn : n ≤ 128) : ∀ s ∈ tearAt l p n, s.length = 128 := by
  have hx : (l.getD p.1 []).length = 128 := by
    rw [List.getD_eq_getElem?_getD, List.getElem?_eq_getElem hp.1]
    exact h _ (List.getElem_mem hp.1)
  refine set_all128 h _ ?_
  rw [List.length_append, List.length_take, List.length_drop, hx, hp.2]
  omega
theorem tears_128 (fates : List Int) (i : Nat) {l : List (List UInt8)} {ws : List (Nat × List UInt8)} (h : ∀ s ∈ l, s.length = 128) (hw : ∀ p ∈ ws, p.1 < l.length ∧ p.2.length = 128) : ∀ s ∈ tears fates i l ws, s.length = 128 := by
  induction ws generalizing i l with
  | nil => exact h
  | cons p ws ih =>
    refine ih (i + 1) (tearAt_128 h (hw p (by simp)) _ (fateAt_le _ _)) (fun q hq => ?_)
    rw [tearAt_length]
    exact hw q (by simp [hq])
theorem tears_append (fates : List Int) (i : Nat) (l : List (List UInt8)) (a b : List (Nat × List UInt8)) : tears fates i l (a ++ b) = tears fates (i + a.length) (tears fates i l a) b := by
  induction a generalizing i l with
  | nil => rfl
  | cons p a ih =>
    show tears fates (i + 1) (tearAt l p (fateAt fates i)) (a ++ b) = tears fates (i + (a.length + 1)) (tears fates (i + 1) (tearAt l p (fateAt fates i)) a) b
    rw [ih]
    congr 1
    omega
/-! What is OK stays OK. -/
theorem Dk.new_ok {n : Nat} (h : n ≤ 16384) : (Dk.new n).ok := by
  refine ⟨?_, ?_, ?_, by show (-1 : Int) ≤ -1; decide, by show (-1 : Int) ≤ _; decide⟩
  · intro s hs
    simp only [Dk.new, List.mem_replicate] at hs
    rw [hs.2]; simp
  · intro p hp; simp [Dk.new] at hp
  · simpa [Dk.new] using h
theorem Dk.trip_ok {d : Dk} (h : d.ok) : d.trip.ok := by
  unfold Dk.trip
  split
  · exact ⟨h.1, h.2.1, h.2.2.1, by show (-1 : Int) ≤ -1; decide, by show (-1 : Int) ≤ _; decide⟩
  · exact h
theorem Dk.trip_safe (d : Dk) : d.trip.safe = d.safe := by unfold Dk.trip; split <;> rfl
theorem Dk.trip_ws (d : Dk) : d.trip.ws = d.ws := by unfold Dk.trip; split <;> rfl
theorem Dk.trip_done (d : Dk) : d.trip.done = d.done := by unfold Dk.trip; split <;> rfl
theorem Dk.trip_fuse {d : Dk} (h : d.ok) : d.trip.fuse ≠ 0 := by
  unfold Dk.trip
  split
  · show (-1 : Int) ≠ 0; decide
  · assumption
theorem Dk.tick_ok {d : Dk} (h : d.ok) : d.tick.ok := by
  obtain ⟨h1, h2, h3, h4, h5⟩ := h
  refine ⟨h1, h2, h3, ?_, ?_⟩
  · show -1 ≤ (if 0 < d.fuse then d.fuse - 1 else d.fuse)
    split <;> omega
  · show (if 0 < d.fuse then d.fuse - 1 else d.fuse) ≤ _
    split <;> omega
theorem Dk.write_ok {d : Dk} (h : d.ok) (at_ : Int) (b : List UInt8) : (d.write at_ b).1.ok := by
  unfold Dk.write
  split
  · exact h
  · rename_i hn
    split
    · exact Dk.trip_ok h
    · have ht := Dk.tick_ok (Dk.trip_ok h)
      obtain ⟨h1, h2, h3, h4, h5⟩ := ht
      have es : d.trip.tick.safe = d.safe := Dk.trip_safe d
      rw [es] at h1 h3
      refine ⟨?_, ?_, ?_, h4, h5⟩
      · show ∀ s ∈ d.trip.safe, _
        rw [Dk.trip_safe]; exact h1
      · intro p hp
        show p.1 < d.trip.safe.length ∧ _
        rw [Dk.trip_safe]
        rcases List.mem_append.1 hp with hp | hp
        · exact h.2.1 p hp
        · rw [List.mem_singleton.1 hp]
          exact ⟨by show at_.toNat < _; omega, padB_len (by omega)⟩
      · show d.trip.safe.length ≤ _
        rw [Dk.trip_safe]; exact h3
theorem Dk.flush_ok {d : Dk} (h : d.ok) : d.flush.1.ok := by
  unfold Dk.flush
  split
  · exact Dk.trip_ok h
  · have ht := Dk.tick_ok (Dk.trip_ok h)
    refine ⟨Dk.now_128 h, by intro p hp; exact absurd hp (by simp), ?_, ht.2.2.2.1, ht.2.2.2.2⟩
    show d.now.length ≤ _
    rw [Dk.now_length]; exact h.2.2.1
theorem Dk.cut_ok {d : Dk} (h : d.ok) {n : Int} (hn : n ≤ 9223372036854775807) : (d.cut n).ok := by
  unfold Dk.cut
  split
  · exact h
  · exact ⟨h.1, h.2.1, h.2.2.1, by show -1 ≤ max n (-1); omega, by show max n (-1) ≤ _; omega⟩
theorem Dk.crash_ok {d : Dk} (h : d.ok) (fates : List Int) : (d.crash fates).ok := by
  refine ⟨tears_128 fates 0 h.1 h.2.1, by intro p hp; exact absurd hp (by simp [Dk.crash]), ?_, by show (-1 : Int) ≤ -1; decide, by show (-1 : Int) ≤ _; decide⟩
  show (tears fates 0 d.safe d.ws).length ≤ _
  rw [tears_length]; exact h.2.2.1
/-! How many sectors. -/
theorem Dk.write_size (d : Dk) (at_ : Int) (b : List UInt8) : (d.write at_ b).1.safe.length = d.safe.length := by
  unfold Dk.write
  split
  · rfl
  · split
    · rw [Dk.trip_safe]
    · show d.trip.safe.length = _; rw [Dk.trip_safe]
theorem Dk.flush_size (d : Dk) : d.flush.1.safe.length = d.safe.length := by
  unfold Dk.flush
  split
  · rw [Dk.trip_safe]
  · exact Dk.now_length d
theorem Dk.cut_size (d : Dk) (n : Int) : (d.cut n).safe.length = d.safe.length := by unfold Dk.cut; split <;> rfl
theorem Dk.crash_size (d : Dk) (fates : List Int) : (d.crash fates).safe.length = d.safe.length := tears_length _ _ _ _
theorem Dk.write_ws (d : Dk) (at_ : Int) (b : List UInt8) : (d.write at_ b).1.ws.length ≤ d.ws.length + 1 := by
  unfold Dk.write
  split
  · exact Nat.le_succ _
  · split
    · show d.trip.ws.length ≤ _; rw [Dk.trip_ws]; exact Nat.le_succ _
    · simp
theorem Dk.flush_ws (d : Dk) : d.flush.1.ws.length ≤ d.ws.length := by
  unfold Dk.flush
  split
  · rw [Dk.trip_ws]; exact Nat.le_refl _
  · simp
/-! Rows of one length, laid together. -/
theorem flat_len {α : Type} {n : Nat} {l : List (List α)} (h : ∀ s ∈ l, s.length = n) : l.flatten.length = l.length * n := by
  induction l with
  | nil => simp
  | cons x l ih =>
    rw [List.flatten_cons, List.length_append, h x (by simp), ih (fun s hs => h s (by simp [hs])), List.length_cons, Nat.succ_mul]
    omega
theorem flat_take {α : Type} {n : Nat} {l : List (List α)} (h : ∀ s ∈ l, s.length = n) (i : Nat) : l.flatten.take (i * n) = (l.take i).flatten := by
  induction l generalizing i with
  | nil => simp
  | cons x l ih =>
    cases i with
    | zero => simp
    | succ i =>
      have hx := h x (by simp)
      have e : (i + 1) * n = n + i * n := by rw [Nat.succ_mul]; omega
      rw [List.flatten_cons, List.take_succ_cons, List.flatten_cons, e, List.take_append, List.take_of_length_le (by omega), hx, show n + i * n - n = i * n by omega, ih (fun s hs => h s (by simp [hs]))]
theorem flat_drop {α : Type} {n : Nat} {l : List (List α)} (h : ∀ s ∈ l, s.length = n) (i : Nat) : l.flatten.drop (i * n) = (l.drop i).flatten := by
  induction l generalizing i with
  | nil => simp
  | cons x l ih =>
    cases i with
    | zero => simp
    | succ i =>
      have hx := h x (by simp)
      have e : (i + 1) * n = n + i * n := by rw [Nat.succ_mul]; omega
      rw [List.flatten_cons, List.drop_succ_cons, e, List.drop_append, List.drop_eq_nil_of_le (by omega), hx, show n + i * n - n = i * n by omega, List.nil_append, ih (fun s hs => h s (by simp [hs]))]
theorem flat_at {α : Type} {n : Nat} {l : List (List α)} (h : ∀ s ∈ l, s.length = n) {i : Nat} (hi : i < l.length) : (l.flatten.drop (i * n)).take n = l[i] := by
  have hx := h _ (List.getElem_mem hi)
  rw [flat_drop h, List.drop_eq_getElem_cons hi, List.flatten_cons, List.take_append_of_le_length (by omega), List.take_of_length_le (by omega)]
/-- A row's first cells are others. -/
theorem flat_put {α : Type} {n : Nat} {l : List (List α)} (h : ∀ s ∈ l, s.length = n) {i : Nat} (hi : i < l.length) (x : List α) (hx : x.length ≤ n) : (l.set i (x ++ l[i].drop x.length)).flatten = l.flatten.take (i * n) ++ x ++ l.flatten.drop (i * n + x.length) := by
  have hl := h _ (List.getElem_mem hi)
  have e : l.flatten.drop (i * n + x.length) = l[i].drop x.length ++ (l.drop (i + 1)).flatten := by
    rw [← List.drop_drop, flat_drop h, List.drop_eq_getElem_cons hi, List.flatten_cons, List.drop_append_of_le_length (by omega)]
  rw [e, flat_take h, List.set_eq_take_append_cons_drop, if_pos hi]
  simp
end Go.Sh
end
section
set_option linter.unusedVariables false
namespace Go.Proofs.Ytggggfcgnkllgaa
open Go Go.Sh
attribute [local irreducible] X XU XP XR CALL loopS resC closS
/-- cellarage/disk.New -/
def B_disk_New (x0 : Value) (w : World) (K : Value → World → Prop) : Prop :=
  X Try.prog (binOp .lss 3 x0 (.int .i64 0)) w fun v1_5 w1 =>
  gstep v1_5 false (fun w2 K => K x0 w2) w1 fun v2_7 w3 =>
  gstep v1_5 false (fun w4 K => X Try.prog (binOp .gtr 3 v2_7 (.int .i64 16384)) w4 K) w3 fun v3_8 w5 =>
  X Try.prog (pickS v1_5 (.bool true) v3_8) w5 fun v4_9 w6 =>
  condS v4_9 (
  K (.tuple #[(.pointer none), (.int .i64 1)]) w6) (
  ∃ R, Frame? R ∧
  (X Try.prog (Instr.makeSlice 180 x0 x0) (drewW w6) fun v5_11 w7 =>
  X Try.prog (Instr.makeSlice 180 x0 x0) w7 fun v6_13 w8 =>
  XP Try.prog (Instr.build 183 #[(0, v5_11), (1, v6_13), (4, (.int .i64 (-1)))]) w8 fun v7_14 w9 =>
  X Try.prog (Instr.box 183 v7_14) w9 fun v8_15 w10 =>
  K (.tuple #[v8_15, (.int .i64 0)]) w10) ∧
  (X Try.prog (Instr.makeSlice 180 x0 x0) (drewW w6) fun v9_13 w11 =>
  X Try.prog (Instr.makeSlice 180 x0 x0) w11 fun v10_11 w12 =>
  XP Try.prog (Instr.build 183 #[(0, v10_11), (1, v9_13), (4, (.int .i64 (-1)))]) w12 fun v11_14 w13 =>
  X Try.prog (Instr.box 183 v11_14) w13 fun v12_15 w14 =>
  K (.tuple #[v12_15, (.int .i64 0)]) w14))

theorem eq_disk_New (x0 : Value) (w : World) (K : Value → World → Prop) :
    sh Try.prog (Try.f69.body.getD .skip) (retS Try.prog Try.f69.results K) (env0 #[x0]) w = B_disk_New x0 w K := by kernel_rfl

theorem call_disk_New (x0 : Value) (w : World) (K : Value → World → Prop) (h : B_disk_New x0 w K) : CALL Try.prog 69 #[x0] w K :=
  call_of_eq (c := Try.f69.body.getD .skip) mixed Try.func69 (by kernel_rfl) (by kernel_rfl) (by kernel_rfl) (Nat.le_of_ble_eq_true (by kernel_rfl)) (eq_disk_New x0 w K) h

/-- (*cellarage/disk.Disk).Write -/
def B_disk_Disk_Write (x0 x1 x2 : Value) (w : World) (K : Value → World → Prop) : Prop :=
  X Try.prog (binOpG .eql 74 (.tmp 10) (.const (.pointer none)) x0 (.pointer none)) w fun v1_11 w1 =>
  condS v1_11 (
  K (.int .i64 2) w1) (
  X Try.prog (binOp .lss 3 x1 (.int .i64 0)) w1 fun v2_14 w2 =>
  gstep v2_14 false (fun w3 K => K x1 w3) w2 fun v3_16 w4 =>
  gstep v2_14 false (fun w5 K => K x0 w5) w4 fun v4_17 w6 =>
  gstep v2_14 false (fun w7 K => X Try.prog (nilS v4_17) w7 K) w6 fun v5_18 w8 =>
  gstep v2_14 false (fun w9 K => X Try.prog (Instr.fieldAt 183 v5_18 0) w9 K) w8 fun v6_19 w10 =>
  gstep v2_14 false (fun w11 K => X Try.prog (Instr.loadAt 180 v6_19) w11 K) w10 fun v7_20 w12 =>
  gstep v2_14 false (fun w13 K => X Try.prog (Builtin.len_ #[180] 3 #[v7_20]) w13 K) w12 fun v8_21 w14 =>
  gstep v2_14 false (fun w15 K => X Try.prog (binOp .geq 3 v3_16 v8_21) w15 K) w14 fun v9_22 w16 =>
  X Try.prog (pickS v2_14 (.bool true) v9_22) w16 fun v10_23 w17 =>
  gstep v10_23 false (fun w18 K => K x2 w18) w17 fun v11_25 w19 =>
  gstep v10_23 false (fun w20 K => X Try.prog (Builtin.len_ #[27] 3 #[v11_25]) w20 K) w19 fun v12_26 w21 =>
  gstep v10_23 false (fun w22 K => X Try.prog (binOp .gtr 3 v12_26 (.int .i64 128)) w22 K) w21 fun v13_27 w23 =>
  X Try.prog (pickS v10_23 (.bool true) v13_27) w23 fun v14_28 w24 =>
  condS v14_28 (
  K (.int .i64 1) w24) (
  CALL Try.prog 131 #[x0] w24 fun v15_30 w25 =>
  X Try.prog (binOpG .neq 30 (.tmp 31) (.const (.int .i64 0)) v15_30 (.int .i64 0)) w25 fun v16_32 w26 =>
  condS v16_32 (
  K v15_30 w26) (
  X Try.prog (Instr.build 186 #[(0, x1)]) w26 fun v17_35 w27 =>
  X Try.prog (Instr.alloc 186 true (.tuple #[])) w27 fun v18_8 w28 =>
  XU Try.prog (Instr.storeAt 186 v18_8 v17_35) w28 fun w29 =>
  X Try.prog (Instr.fieldAt 186 v18_8 1) w29 fun v19_36 w30 =>
  X Try.prog (Instr.sliceAt 184 v19_36 none none none) w30 fun v20_37 w31 =>
  X Try.prog (Builtin.copy_ #[27, 27] 3 #[v20_37, x2]) w31 fun v21_39 w32 =>
  ∃ R, Frame? R ∧
  XP Try.prog (nilS x0) (drewW w32) fun v22_42 w33 =>
  XP Try.prog (Instr.fieldAt 183 v22_42 2) w33 fun v23_43 w34 =>
  XR Try.prog R (Instr.loadAt 181 v23_43) w34 fun v24_44 w35 =>
  XR Try.prog R (Instr.loadAt 186 v18_8) w35 fun v25_45 w36 =>
  X Try.prog (Instr.buildSlice 181 1 #[(0, v25_45)]) w36 fun v26_46 w37 =>
  R w36 w37 ∧
  X Try.prog (Builtin.append_ #[181, 181] 181 #[v24_44, v26_46]) w37 fun v27_47 w38 =>
  R w37 w38 ∧
  XP Try.prog (nilS x0) w38 fun v28_48 w39 =>
  XP Try.prog (Instr.fieldAt 183 v28_48 2) w39 fun v29_49 w40 =>
  XU Try.prog (Instr.storeAt 181 v29_49 v27_47) w40 fun w41 =>
  ∃ R, Frame? R ∧
  XP Try.prog (nilS x0) (drewW w41) fun v30_51 w42 =>
  XP Try.prog (Instr.fieldAt 183 v30_51 0) w42 fun v31_52 w43 =>
  XR Try.prog R (Instr.loadAt 180 v31_52) w43 fun v32_53 w44 =>
  XP Try.prog (Instr.fieldAt 186 v18_8 1) w44 fun v33_55 w45 =>
  XR Try.prog R (Instr.loadAt 184 v33_55) w45 fun v34_56 w46 =>
  XP Try.prog (Instr.indexAt 180 v32_53 x1) w46 fun v35_57 w47 =>
  XU Try.prog (Instr.storeAt 184 v35_57 v34_56) w47 fun w48 =>
  K (.int .i64 0) w48)))

theorem eq_disk_Disk_Write (x0 x1 x2 : Value) (w : World) (K : Value → World → Prop) :
    sh Try.prog (Try.f70.body.getD .skip) (retS Try.prog Try.f70.results K) (env0 #[x0, x1, x2]) w = B_disk_Disk_Write x0 x1 x2 w K := by kernel_rfl

theorem call_disk_Disk_Write (x0 x1 x2 : Value) (w : World) (K : Value → World → Prop) (h : B_disk_Disk_Write x0 x1 x2 w K) : CALL Try.prog 70 #[x0, x1, x2] w K :=
  call_of_eq (c := Try.f70.body.getD .skip) mixed Try.func70 (by kernel_rfl) (by kernel_rfl) (by kernel_rfl) (Nat.le_of_ble_eq_true (by kernel_rfl)) (eq_disk_Disk_Write x0 x1 x2 w K) h

/-- (*cellarage/disk.Disk).Flush -/
def B_disk_Disk_Flush (x0 : Value) (w : World) (K : Value → World → Prop) : Prop :=
  X Try.prog (binOpG .eql 74 (.tmp 6) (.const (.pointer none)) x0 (.pointer none)) w fun v1_7 w1 =>
  condS v1_7 (
  K (.int .i64 2) w1) (
  CALL Try.prog 131 #[x0] w1 fun v2_9 w2 =>
  X Try.prog (binOpG .neq 30 (.tmp 10) (.const (.int .i64 0)) v2_9 (.int .i64 0)) w2 fun v3_11 w3 =>
  condS v3_11 (
  K v2_9 w3) (
  X Try.prog (nilS x0) w3 fun v4_14 w4 =>
  X Try.prog (Instr.fieldAt 183 v4_14 2) w4 fun v5_15 w5 =>
  X Try.prog (Instr.loadAt 181 v5_15) w5 fun v6_16 w6 =>
  X Try.prog (Builtin.len_ #[181] 3 #[v6_16]) w6 fun v7_17 w7 =>
  loopS (fun Q1 ρ1 w8 =>
  X Try.prog (binOp .lss 3 (ρ1 18) (ρ1 17)) w8 fun v8_19 w9 =>
  condS v8_19 (
  X Try.prog (Instr.indexAt 181 (ρ1 16) (ρ1 18)) w9 fun v9_20 w10 =>
  X Try.prog (Instr.loadAt 186 v9_20) w10 fun v10_21 w11 =>
  X Try.prog (Instr.alloc 186 true (.tuple #[])) w11 fun v11_5 w12 =>
  XU Try.prog (Instr.storeAt 186 v11_5 v10_21) w12 fun w13 =>
  ∃ R, Frame? R ∧
  XP Try.prog (nilS (ρ1 0)) (drewW w13) fun v12_23 w14 =>
  XP Try.prog (Instr.fieldAt 183 v12_23 1) w14 fun v13_24 w15 =>
  XR Try.prog R (Instr.loadAt 180 v13_24) w15 fun v14_25 w16 =>
  XP Try.prog (Instr.fieldAt 186 v11_5 0) w16 fun v15_26 w17 =>
  XR Try.prog R (Instr.loadAt 3 v15_26) w17 fun v16_27 w18 =>
  XP Try.prog (Instr.fieldAt 186 v11_5 1) w18 fun v17_28 w19 =>
  XR Try.prog R (Instr.loadAt 184 v17_28) w19 fun v18_29 w20 =>
  XP Try.prog (Instr.indexAt 180 v14_25 v16_27) w20 fun v19_30 w21 =>
  XU Try.prog (Instr.storeAt 184 v19_30 v18_29) w21 fun w22 =>
  X Try.prog (binOp .add 3 (ρ1 18) (.int .i64 1)) w22 fun v20_31 w23 =>
  Q1 .normal (upds ρ1 [(18, v20_31), (31, v20_31), (30, v19_30), (29, v18_29), (28, v17_28), (27, v16_27), (26, v15_26), (25, v14_25), (24, v13_24), (23, v12_23), (22, (ρ1 0)), (5, v11_5), (21, v10_21), (20, v9_20), (19, v8_19)]) w23) (
  Q1 (.exit 0) (upds ρ1 [(19, v8_19)]) w9)) (inBlockS 0 (thenS (fun ρ2 w24 =>
  X Try.prog (nilS (ρ2 0)) w24 fun v21_33 w25 =>
  X Try.prog (Instr.fieldAt 183 v21_33 2) w25 fun v22_34 w26 =>
  XU Try.prog (Instr.storeAt 181 v22_34 (.slice none 0 0)) w26 fun w27 =>
  K (.int .i64 0) w27) (retS Try.prog (Try.f71).results K))) (upds (env0 #[x0]) [(18, (.int .i64 0)), (17, v7_17), (16, v6_16), (15, v5_15), (14, v4_14), (13, x0), (11, v3_11), (10, v2_9), (3, v2_9), (9, v2_9), (8, x0), (7, v1_7), (6, x0), (2, (.int .i64 0))]) w7))

theorem eq_disk_Disk_Flush (x0 : Value) (w : World) (K : Value → World → Prop) :
    sh Try.prog (Try.f71.body.getD .skip) (retS Try.prog Try.f71.results K) (env0 #[x0]) w = B_disk_Disk_Flush x0 w K := by kernel_rfl

theorem call_disk_Disk_Flush (x0 : Value) (w : World) (K : Value → World → Prop) (h : B_disk_Disk_Flush x0 w K) : CALL Try.prog 71 #[x0] w K :=
  call_of_eq (c := Try.f71.body.getD .skip) mixed Try.func71 (by kernel_rfl) (by kernel_rfl) (by kernel_rfl) (Nat.le_of_ble_eq_true (by kernel_rfl)) (eq_disk_Disk_Flush x0 w K) h

/-- (*cellarage/disk.Disk).Crash -/
def B_disk_Disk_Crash (x0 x1 : Value) (w : World) (K : Value → World → Prop) : Prop :=
  X Try.prog (binOpG .eql 74 (.tmp 7) (.const (.pointer none)) x0 (.pointer none)) w fun v1_8 w1 =>
  condS v1_8 (
  K (.tuple #[]) w1) (
  X Try.prog (nilS x0) w1 fun v2_10 w2 =>
  X Try.prog (Instr.fieldAt 183 v2_10 2) w2 fun v3_11 w3 =>
  X Try.prog (Instr.loadAt 181 v3_11) w3 fun v4_12 w4 =>
  X Try.prog (Builtin.len_ #[181] 3 #[v4_12]) w4 fun v5_13 w5 =>
  loopS (fun Q1 ρ1 w6 =>
  X Try.prog (binOp .lss 3 (ρ1 14) (ρ1 13)) w6 fun v6_15 w7 =>
  condS v6_15 (
  joinS (fun ρ2 w8 =>
  X Try.prog (binOp .add 3 (ρ2 14) (.int .i64 1)) w8 fun v7_42 w9 =>
  Q1 .normal (upds ρ2 [(14, v7_42), (42, v7_42)]) w9) fun J2 =>
  X Try.prog (Instr.indexAt 181 (ρ1 12) (ρ1 14)) w7 fun v8_17 w10 =>
  X Try.prog (Instr.loadAt 186 v8_17) w10 fun v9_18 w11 =>
  X Try.prog (Instr.alloc 186 true (.tuple #[])) w11 fun v10_5 w12 =>
  XU Try.prog (Instr.storeAt 186 v10_5 v9_18) w12 fun w13 =>
  X Try.prog (Builtin.len_ #[79] 3 #[(ρ1 1)]) w13 fun v11_21 w14 =>
  X Try.prog (binOp .lss 3 (ρ1 14) v11_21) w14 fun v12_22 w15 =>
  condS v12_22 (
  X Try.prog (Instr.indexAt 79 (ρ1 1) (ρ1 14)) w15 fun v13_25 w16 =>
  X Try.prog (Instr.loadAt 3 v13_25) w16 fun v14_26 w17 =>
  X Try.prog (Builtin.min_ #[3, 3] 3 #[v14_26, (.int .i64 128)]) w17 fun v15_27 w18 =>
  X Try.prog (Builtin.max_ #[3, 3] 3 #[(.int .i64 0), v15_27]) w18 fun v16_28 w19 =>
  ∃ R, Frame? R ∧
  XP Try.prog (nilS (ρ1 0)) (drewW w19) fun v17_30 w20 =>
  XP Try.prog (Instr.fieldAt 183 v17_30 1) w20 fun v18_31 w21 =>
  XR Try.prog R (Instr.loadAt 180 v18_31) w21 fun v19_32 w22 =>
  XP Try.prog (Instr.fieldAt 186 v10_5 0) w22 fun v20_33 w23 =>
  XR Try.prog R (Instr.loadAt 3 v20_33) w23 fun v21_34 w24 =>
  XP Try.prog (Instr.indexAt 180 v19_32 v21_34) w24 fun v22_35 w25 =>
  XP Try.prog (Instr.sliceAt 184 v22_35 none (some v16_28) none) w25 fun v23_37 w26 =>
  XP Try.prog (Instr.fieldAt 186 v10_5 1) w26 fun v24_38 w27 =>
  XP Try.prog (Instr.sliceAt 184 v24_38 none (some v16_28) none) w27 fun v25_40 w28 =>
  X Try.prog (Builtin.copy_ #[27, 27] 3 #[v23_37, v25_40]) w28 fun v26_41 w29 =>
  R w28 w29 ∧
  J2 (upds ρ1 [(41, v26_41), (40, v25_40), (39, v16_28), (38, v24_38), (37, v23_37), (36, v16_28), (35, v22_35), (34, v21_34), (33, v20_33), (32, v19_32), (31, v18_31), (30, v17_30), (29, (ρ1 0)), (6, v16_28), (28, v16_28), (27, v15_27), (26, v14_26), (25, v13_25), (24, (ρ1 14)), (23, (ρ1 1)), (22, v12_22), (21, v11_21), (20, (ρ1 1)), (19, (ρ1 14)), (4, (ρ1 14)), (5, v10_5), (18, v9_18), (17, v8_17), (16, (ρ1 14)), (15, v6_15)]) w29) (
  J2 (upds ρ1 [(22, v12_22), (21, v11_21), (20, (ρ1 1)), (19, (ρ1 14)), (4, (ρ1 14)), (5, v10_5), (18, v9_18), (17, v8_17), (16, (ρ1 14)), (15, v6_15)]) w15)) (
  Q1 (.exit 0) (upds ρ1 [(15, v6_15)]) w7)) (inBlockS 0 (thenS (fun ρ3 w30 =>
  ∃ R, Frame? R ∧
  XP Try.prog (nilS (ρ3 0)) (drewW w30) fun v27_44 w31 =>
  XP Try.prog (Instr.fieldAt 183 v27_44 0) w31 fun v28_45 w32 =>
  XR Try.prog R (Instr.loadAt 180 v28_45) w32 fun v29_46 w33 =>
  XP Try.prog (nilS (ρ3 0)) w33 fun v30_48 w34 =>
  XP Try.prog (Instr.fieldAt 183 v30_48 1) w34 fun v31_49 w35 =>
  XR Try.prog R (Instr.loadAt 180 v31_49) w35 fun v32_50 w36 =>
  X Try.prog (Builtin.copy_ #[180, 180] 3 #[v29_46, v32_50]) w36 fun v33_51 w37 =>
  X Try.prog (nilS (ρ3 0)) w37 fun v34_55 w38 =>
  X Try.prog (Instr.fieldAt 183 v34_55 2) w38 fun v35_56 w39 =>
  XU Try.prog (Instr.storeAt 181 v35_56 (.slice none 0 0)) w39 fun w40 =>
  X Try.prog (nilS (ρ3 0)) w40 fun v36_57 w41 =>
  X Try.prog (Instr.fieldAt 183 v36_57 3) w41 fun v37_58 w42 =>
  XU Try.prog (Instr.storeAt 4 v37_58 (.bool false)) w42 fun w43 =>
  X Try.prog (nilS (ρ3 0)) w43 fun v38_59 w44 =>
  X Try.prog (Instr.fieldAt 183 v38_59 4) w44 fun v39_60 w45 =>
  XU Try.prog (Instr.storeAt 3 v39_60 (.int .i64 (-1))) w45 fun w46 =>
  K (.tuple #[]) w46) (retS Try.prog (Try.f72).results K))) (upds (env0 #[x0, x1]) [(14, (.int .i64 0)), (13, v5_13), (12, v4_12), (11, v3_11), (10, v2_10), (9, x0), (8, v1_8), (7, x0)]) w5)

theorem eq_disk_Disk_Crash (x0 x1 : Value) (w : World) (K : Value → World → Prop) :
    sh Try.prog (Try.f72.body.getD .skip) (retS Try.prog Try.f72.results K) (env0 #[x0, x1]) w = B_disk_Disk_Crash x0 x1 w K := by kernel_rfl

theorem call_disk_Disk_Crash (x0 x1 : Value) (w : World) (K : Value → World → Prop) (h : B_disk_Disk_Crash x0 x1 w K) : CALL Try.prog 72 #[x0, x1] w K :=
  call_of_eq (c := Try.f72.body.getD .skip) mixed Try.func72 (by kernel_rfl) (by kernel_rfl) (by kernel_rfl) (Nat.le_of_ble_eq_true (by kernel_rfl)) (eq_disk_Disk_Crash x0 x1 w K) h

/-- (*cellarage/disk.Disk).Read -/
def B_disk_Disk_Read (x0 x1 : Value) (w : World) (K : Value → World → Prop) : Prop :=
  X Try.prog (binOpG .eql 74 (.tmp 7) (.const (.pointer none)) x0 (.pointer none)) w fun v1_8 w1 =>
  condS v1_8 (
  K (.tuple #[(.slice none 0 0), (.int .i64 2)]) w1) (
  X Try.prog (binOp .lss 3 x1 (.int .i64 0)) w1 fun v2_11 w2 =>
  gstep v2_11 false (fun w3 K => K x1 w3) w2 fun v3_13 w4 =>
  gstep v2_11 false (fun w5 K => K x0 w5) w4 fun v4_14 w6 =>
  gstep v2_11 false (fun w7 K => X Try.prog (nilS v4_14) w7 K) w6 fun v5_15 w8 =>
  gstep v2_11 false (fun w9 K => X Try.prog (Instr.fieldAt 183 v5_15 0) w9 K) w8 fun v6_16 w10 =>
  gstep v2_11 false (fun w11 K => X Try.prog (Instr.loadAt 180 v6_16) w11 K) w10 fun v7_17 w12 =>
  gstep v2_11 false (fun w13 K => X Try.prog (Builtin.len_ #[180] 3 #[v7_17]) w13 K) w12 fun v8_18 w14 =>
  gstep v2_11 false (fun w15 K => X Try.prog (binOp .geq 3 v3_13 v8_18) w15 K) w14 fun v9_19 w16 =>
  X Try.prog (pickS v2_11 (.bool true) v9_19) w16 fun v10_20 w17 =>
  condS v10_20 (
  K (.tuple #[(.slice none 0 0), (.int .i64 1)]) w17) (
  X Try.prog (nilS x0) w17 fun v11_23 w18 =>
  X Try.prog (Instr.fieldAt 183 v11_23 3) w18 fun v12_24 w19 =>
  X Try.prog (Instr.loadAt 4 v12_24) w19 fun v13_25 w20 =>
  condS v13_25 (
  K (.tuple #[(.slice none 0 0), (.int .i64 6)]) w20) (
  X Try.prog (nilS x0) w20 fun v14_27 w21 =>
  X Try.prog (Instr.fieldAt 183 v14_27 0) w21 fun v15_28 w22 =>
  X Try.prog (Instr.loadAt 180 v15_28) w22 fun v16_29 w23 =>
  X Try.prog (Instr.indexAt 180 v16_29 x1) w23 fun v17_31 w24 =>
  X Try.prog (Instr.sliceAt 184 v17_31 none none none) w24 fun v18_32 w25 =>
  CALL Try.prog 132 #[v18_32] w25 fun v19_33 w26 =>
  K (.tuple #[v19_33, (.int .i64 0)]) w26)))

theorem eq_disk_Disk_Read (x0 x1 : Value) (w : World) (K : Value → World → Prop) :
    sh Try.prog (Try.f73.body.getD .skip) (retS Try.prog Try.f73.results K) (env0 #[x0, x1]) w = B_disk_Disk_Read x0 x1 w K := by kernel_rfl

theorem call_disk_Disk_Read (x0 x1 : Value) (w : World) (K : Value → World → Prop) (h : B_disk_Disk_Read x0 x1 w K) : CALL Try.prog 73 #[x0, x1] w K :=
  call_of_eq (c := Try.f73.body.getD .skip) mixed Try.func73 (by kernel_rfl) (by kernel_rfl) (by kernel_rfl) (Nat.le_of_ble_eq_true (by kernel_rfl)) (eq_disk_Disk_Read x0 x1 w K) h

/-- (*cellarage/disk.Disk).Dead -/
def B_disk_Disk_Dead (x0 : Value) (w : World) (K : Value → World → Prop) : Prop :=
  X Try.prog (binOpG .neq 74 (.tmp 3) (.const (.pointer none)) x0 (.pointer none)) w fun v1_4 w1 =>
  gstep v1_4 true (fun w2 K => K x0 w2) w1 fun v2_6 w3 =>
  gstep v1_4 true (fun w4 K => X Try.prog (nilS v2_6) w4 K) w3 fun v3_7 w5 =>
  gstep v1_4 true (fun w6 K => X Try.prog (Instr.fieldAt 183 v3_7 3) w6 K) w5 fun v4_8 w7 =>
  gstep v1_4 true (fun w8 K => X Try.prog (Instr.loadAt 4 v4_8) w8 K) w7 fun v5_9 w9 =>
  X Try.prog (pickS v1_4 v5_9 (.bool false)) w9 fun v6_10 w10 =>
  K v6_10 w10

theorem eq_disk_Disk_Dead (x0 : Value) (w : World) (K : Value → World → Prop) :
    sh Try.prog (Try.f76.body.getD .skip) (retS Try.prog Try.f76.results K) (env0 #[x0]) w = B_disk_Disk_Dead x0 w K := by kernel_rfl

theorem call_disk_Disk_Dead (x0 : Value) (w : World) (K : Value → World → Prop) (h : B_disk_Disk_Dead x0 w K) : CALL Try.prog 76 #[x0] w K :=
  call_of_eq (c := Try.f76.body.getD .skip) mixed Try.func76 (by kernel_rfl) (by kernel_rfl) (by kernel_rfl) (Nat.le_of_ble_eq_true (by kernel_rfl)) (eq_disk_Disk_Dead x0 w K) h

/-- (*cellarage/disk.Disk).Pending -/
def B_disk_Disk_Pending (x0 : Value) (w : World) (K : Value → World → Prop) : Prop :=
  X Try.prog (binOpG .eql 74 (.tmp 3) (.const (.pointer none)) x0 (.pointer none)) w fun v1_4 w1 =>
  condS v1_4 (
  K (.int .i64 0) w1) (
  X Try.prog (nilS x0) w1 fun v2_6 w2 =>
  X Try.prog (Instr.fieldAt 183 v2_6 2) w2 fun v3_7 w3 =>
  X Try.prog (Instr.loadAt 181 v3_7) w3 fun v4_8 w4 =>
  X Try.prog (Builtin.len_ #[181] 3 #[v4_8]) w4 fun v5_9 w5 =>
  K v5_9 w5)

theorem eq_disk_Disk_Pending (x0 : Value) (w : World) (K : Value → World → Prop) :
    sh Try.prog (Try.f77.body.getD .skip) (retS Try.prog Try.f77.results K) (env0 #[x0]) w = B_disk_Disk_Pending x0 w K := by kernel_rfl

theorem call_disk_Disk_Pending (x0 : Value) (w : World) (K : Value → World → Prop) (h : B_disk_Disk_Pending x0 w K) : CALL Try.prog 77 #[x0] w K :=
  call_of_eq (c := Try.f77.body.getD .skip) mixed Try.func77 (by kernel_rfl) (by kernel_rfl) (by kernel_rfl) (Nat.le_of_ble_eq_true (by kernel_rfl)) (eq_disk_Disk_Pending x0 w K) h

/-- (*cellarage/disk.Disk).Cut -/
def B_disk_Disk_Cut (x0 x1 : Value) (w : World) (K : Value → World → Prop) : Prop :=
  X Try.prog (binOpG .neq 74 (.tmp 4) (.const (.pointer none)) x0 (.pointer none)) w fun v1_5 w1 =>
  gstep v1_5 true (fun w2 K => K x0 w2) w1 fun v2_7 w3 =>
  gstep v1_5 true (fun w4 K => X Try.prog (nilS v2_7) w4 K) w3 fun v3_8 w5 =>
  gstep v1_5 true (fun w6 K => X Try.prog (Instr.fieldAt 183 v3_8 3) w6 K) w5 fun v4_9 w7 =>
  gstep v1_5 true (fun w8 K => X Try.prog (Instr.loadAt 4 v4_9) w8 K) w7 fun v5_10 w9 =>
  gstep v1_5 true (fun w10 K => X Try.prog (Op.unary .not v5_10) w10 K) w9 fun v6_11 w11 =>
  X Try.prog (pickS v1_5 v6_11 (.bool false)) w11 fun v7_12 w12 =>
  condS v7_12 (
  X Try.prog (Builtin.max_ #[3, 3] 3 #[x1, (.int .i64 (-1))]) w12 fun v8_15 w13 =>
  X Try.prog (nilS x0) w13 fun v9_16 w14 =>
  X Try.prog (Instr.fieldAt 183 v9_16 4) w14 fun v10_17 w15 =>
  XU Try.prog (Instr.storeAt 3 v10_17 v8_15) w15 fun w16 =>
  K (.tuple #[]) w16) (
  K (.tuple #[]) w12)

theorem eq_disk_Disk_Cut (x0 x1 : Value) (w : World) (K : Value → World → Prop) :
    sh Try.prog (Try.f78.body.getD .skip) (retS Try.prog Try.f78.results K) (env0 #[x0, x1]) w = B_disk_Disk_Cut x0 x1 w K := by kernel_rfl

theorem call_disk_Disk_Cut (x0 x1 : Value) (w : World) (K : Value → World → Prop) (h : B_disk_Disk_Cut x0 x1 w K) : CALL Try.prog 78 #[x0, x1] w K :=
  call_of_eq (c := Try.f78.body.getD .skip) mixed Try.func78 (by kernel_rfl) (by kernel_rfl) (by kernel_rfl) (Nat.le_of_ble_eq_true (by kernel_rfl)) (eq_disk_Disk_Cut x0 x1 w K) h

/-- (*cellarage/disk.Disk).Done -/
def B_disk_Disk_Done (x0 : Value) (w : World) (K : Value → World → Prop) : Prop :=
  X Try.prog (binOpG .eql 74 (.tmp 3) (.const (.pointer none)) x0 (.pointer none)) w fun v1_4 w1 =>
  condS v1_4 (
  K (.int .i64 0) w1) (
  X Try.prog (nilS x0) w1 fun v2_6 w2 =>
  X Try.prog (Instr.fieldAt 183 v2_6 5) w2 fun v3_7 w3 =>
  X Try.prog (Instr.loadAt 3 v3_7) w3 fun v4_8 w4 =>
  K v4_8 w4)

theorem eq_disk_Disk_Done (x0 : Value) (w : World) (K : Value → World → Prop) :
    sh Try.prog (Try.f79.body.getD .skip) (retS Try.prog Try.f79.results K) (env0 #[x0]) w = B_disk_Disk_Done x0 w K := by kernel_rfl

theorem call_disk_Disk_Done (x0 : Value) (w : World) (K : Value → World → Prop) (h : B_disk_Disk_Done x0 w K) : CALL Try.prog 79 #[x0] w K :=
  call_of_eq (c := Try.f79.body.getD .skip) mixed Try.func79 (by kernel_rfl) (by kernel_rfl) (by kernel_rfl) (Nat.le_of_ble_eq_true (by kernel_rfl)) (eq_disk_Disk_Done x0 w K) h

/-- (*cellarage/disk.Disk).Copy -/
def B_disk_Disk_Copy (x0 : Value) (w : World) (K : Value → World → Prop) : Prop :=
  X Try.prog (binOpG .eql 74 (.tmp 4) (.const (.pointer none)) x0 (.pointer none)) w fun v1_5 w1 =>
  condS v1_5 (
  K (.pointer none) w1) (
  X Try.prog (nilS x0) w1 fun v2_7 w2 =>
  X Try.prog (Instr.loadAt 183 v2_7) w2 fun v3_8 w3 =>
  X Try.prog (Instr.alloc 183 true (.tuple #[])) w3 fun v4_3 w4 =>
  XU Try.prog (Instr.storeAt 183 v4_3 v3_8) w4 fun w5 =>
  ∃ R, Frame? R ∧
  XP Try.prog (nilS x0) (drewW w5) fun v5_10 w6 =>
  XP Try.prog (Instr.fieldAt 183 v5_10 0) w6 fun v6_11 w7 =>
  XR Try.prog R (Instr.loadAt 180 v6_11) w7 fun v7_12 w8 =>
  XP Try.prog (nilS x0) w8 fun v8_15 w9 =>
  XP Try.prog (Instr.fieldAt 183 v8_15 1) w9 fun v9_16 w10 =>
  XR Try.prog R (Instr.loadAt 180 v9_16) w10 fun v10_17 w11 =>
  XP Try.prog (nilS x0) w11 fun v11_20 w12 =>
  XP Try.prog (Instr.fieldAt 183 v11_20 2) w12 fun v12_21 w13 =>
  XR Try.prog R (Instr.loadAt 181 v12_21) w13 fun v13_22 w14 =>
  CALL Try.prog 134 #[v7_12] w14 fun v14_13 w15 =>
  R w14 w15 ∧
  CALL Try.prog 134 #[v10_17] w15 fun v15_18 w16 =>
  R w15 w16 ∧
  CALL Try.prog 135 #[v13_22] w16 fun v16_23 w17 =>
  R w16 w17 ∧
  XP Try.prog (Instr.fieldAt 183 v4_3 0) w17 fun v17_24 w18 =>
  XU Try.prog (Instr.storeAt 180 v17_24 v14_13) w18 fun w19 =>
  XP Try.prog (Instr.fieldAt 183 v4_3 1) w19 fun v18_25 w20 =>
  XU Try.prog (Instr.storeAt 180 v18_25 v15_18) w20 fun w21 =>
  XP Try.prog (Instr.fieldAt 183 v4_3 2) w21 fun v19_26 w22 =>
  XU Try.prog (Instr.storeAt 181 v19_26 v16_23) w22 fun w23 =>
  K v4_3 w23)

theorem eq_disk_Disk_Copy (x0 : Value) (w : World) (K : Value → World → Prop) :
    sh Try.prog (Try.f81.body.getD .skip) (retS Try.prog Try.f81.results K) (env0 #[x0]) w = B_disk_Disk_Copy x0 w K := by kernel_rfl

theorem call_disk_Disk_Copy (x0 : Value) (w : World) (K : Value → World → Prop) (h : B_disk_Disk_Copy x0 w K) : CALL Try.prog 81 #[x0] w K :=
  call_of_eq (c := Try.f81.body.getD .skip) mixed Try.func81 (by kernel_rfl) (by kernel_rfl) (by kernel_rfl) (Nat.le_of_ble_eq_true (by kernel_rfl)) (eq_disk_Disk_Copy x0 w K) h

/-- (*cellarage/disk.Disk).Size -/
def B_disk_Disk_Size (x0 : Value) (w : World) (K : Value → World → Prop) : Prop :=
  X Try.prog (binOpG .eql 74 (.tmp 3) (.const (.pointer none)) x0 (.pointer none)) w fun v1_4 w1 =>
  condS v1_4 (
  K (.int .i64 0) w1) (
  X Try.prog (nilS x0) w1 fun v2_6 w2 =>
  X Try.prog (Instr.fieldAt 183 v2_6 0) w2 fun v3_7 w3 =>
  X Try.prog (Instr.loadAt 180 v3_7) w3 fun v4_8 w4 =>
  X Try.prog (Builtin.len_ #[180] 3 #[v4_8]) w4 fun v5_9 w5 =>
  K v5_9 w5)

theorem eq_disk_Disk_Size (x0 : Value) (w : World) (K : Value → World → Prop) :
    sh Try.prog (Try.f84.body.getD .skip) (retS Try.prog Try.f84.results K) (env0 #[x0]) w = B_disk_Disk_Size x0 w K := by kernel_rfl

theorem call_disk_Disk_Size (x0 : Value) (w : World) (K : Value → World → Prop) (h : B_disk_Disk_Size x0 w K) : CALL Try.prog 84 #[x0] w K :=
  call_of_eq (c := Try.f84.body.getD .skip) mixed Try.func84 (by kernel_rfl) (by kernel_rfl) (by kernel_rfl) (Nat.le_of_ble_eq_true (by kernel_rfl)) (eq_disk_Disk_Size x0 w K) h

/-- (*cellarage/disk.Disk).powered -/
def B_disk_Disk_powered (x0 : Value) (w : World) (K : Value → World → Prop) : Prop :=
  joinS (fun ρ1 w1 =>
  X Try.prog (nilS (ρ1 0)) w1 fun v1_15 w2 =>
  X Try.prog (Instr.fieldAt 183 v1_15 3) w2 fun v2_16 w3 =>
  X Try.prog (Instr.loadAt 4 v2_16) w3 fun v3_17 w4 =>
  condS v3_17 (
  K (.int .i64 6) w4) (
  X Try.prog (nilS (ρ1 0)) w4 fun v4_19 w5 =>
  X Try.prog (Instr.fieldAt 183 v4_19 5) w5 fun v5_20 w6 =>
  X Try.prog (Instr.loadAt 3 v5_20) w6 fun v6_21 w7 =>
  X Try.prog (binOp .add 3 v6_21 (.int .i64 1)) w7 fun v7_22 w8 =>
  X Try.prog (nilS (ρ1 0)) w8 fun v8_23 w9 =>
  X Try.prog (Instr.fieldAt 183 v8_23 5) w9 fun v9_24 w10 =>
  XU Try.prog (Instr.storeAt 3 v9_24 v7_22) w10 fun w11 =>
  joinS (fun ρ2 w12 =>
  K (.int .i64 0) w12) fun J2 =>
  X Try.prog (nilS (ρ1 0)) w11 fun v10_26 w13 =>
  X Try.prog (Instr.fieldAt 183 v10_26 4) w13 fun v11_27 w14 =>
  X Try.prog (Instr.loadAt 3 v11_27) w14 fun v12_28 w15 =>
  X Try.prog (binOp .gtr 3 v12_28 (.int .i64 0)) w15 fun v13_29 w16 =>
  condS v13_29 (
  X Try.prog (nilS (ρ1 0)) w16 fun v14_31 w17 =>
  X Try.prog (Instr.fieldAt 183 v14_31 4) w17 fun v15_32 w18 =>
  X Try.prog (Instr.loadAt 3 v15_32) w18 fun v16_33 w19 =>
  X Try.prog (binOp .sub 3 v16_33 (.int .i64 1)) w19 fun v17_34 w20 =>
  X Try.prog (nilS (ρ1 0)) w20 fun v18_35 w21 =>
  X Try.prog (Instr.fieldAt 183 v18_35 4) w21 fun v19_36 w22 =>
  XU Try.prog (Instr.storeAt 3 v19_36 v17_34) w22 fun w23 =>
  J2 (upds ρ1 [(36, v19_36), (35, v18_35), (34, v17_34), (33, v16_33), (32, v15_32), (31, v14_31), (30, (ρ1 0)), (29, v13_29), (28, v12_28), (27, v11_27), (26, v10_26), (25, (ρ1 0)), (24, v9_24), (23, v8_23), (22, v7_22), (21, v6_21), (20, v5_20), (19, v4_19), (18, (ρ1 0)), (17, v3_17), (16, v2_16), (15, v1_15), (14, (ρ1 0))]) w23) (
  J2 (upds ρ1 [(29, v13_29), (28, v12_28), (27, v11_27), (26, v10_26), (25, (ρ1 0)), (24, v9_24), (23, v8_23), (22, v7_22), (21, v6_21), (20, v5_20), (19, v4_19), (18, (ρ1 0)), (17, v3_17), (16, v2_16), (15, v1_15), (14, (ρ1 0))]) w16))) fun J1 =>
  X Try.prog (nilS x0) w fun v20_4 w24 =>
  X Try.prog (Instr.fieldAt 183 v20_4 4) w24 fun v21_5 w25 =>
  X Try.prog (Instr.loadAt 3 v21_5) w25 fun v22_6 w26 =>
  X Try.prog (binOpG .eql 3 (.tmp 6) (.const (.int .i64 0)) v22_6 (.int .i64 0)) w26 fun v23_7 w27 =>
  condS v23_7 (
  X Try.prog (nilS x0) w27 fun v24_10 w28 =>
  X Try.prog (Instr.fieldAt 183 v24_10 3) w28 fun v25_11 w29 =>
  XU Try.prog (Instr.storeAt 4 v25_11 (.bool true)) w29 fun w30 =>
  X Try.prog (nilS x0) w30 fun v26_12 w31 =>
  X Try.prog (Instr.fieldAt 183 v26_12 4) w31 fun v27_13 w32 =>
  XU Try.prog (Instr.storeAt 3 v27_13 (.int .i64 (-1))) w32 fun w33 =>
  J1 (upds (env0 #[x0]) [(13, v27_13), (12, v26_12), (11, v25_11), (10, v24_10), (9, x0), (8, x0), (7, v23_7), (6, v22_6), (5, v21_5), (4, v20_4), (3, x0), (2, (.int .i64 0))]) w33) (
  J1 (upds (env0 #[x0]) [(7, v23_7), (6, v22_6), (5, v21_5), (4, v20_4), (3, x0), (2, (.int .i64 0))]) w27)

theorem eq_disk_Disk_powered (x0 : Value) (w : World) (K : Value → World → Prop) :
    sh Try.prog (Try.f131.body.getD .skip) (retS Try.prog Try.f131.results K) (env0 #[x0]) w = B_disk_Disk_powered x0 w K := by kernel_rfl

theorem call_disk_Disk_powered (x0 : Value) (w : World) (K : Value → World → Prop) (h : B_disk_Disk_powered x0 w K) : CALL Try.prog 131 #[x0] w K :=
  call_of_eq (c := Try.f131.body.getD .skip) mixed Try.func131 (by kernel_rfl) (by kernel_rfl) (by kernel_rfl) (Nat.le_of_ble_eq_true (by kernel_rfl)) (eq_disk_Disk_powered x0 w K) h

/-- slices.Clone[[]byte,byte] -/
def B_slices_Clone_byte (x0 : Value) (w : World) (K : Value → World → Prop) : Prop :=
  X Try.prog (binOpG .eql 27 (.tmp 3) (.const (.slice none 0 0)) x0 (.slice none 0 0)) w fun v1_4 w1 =>
  condS v1_4 (
  K (.slice none 0 0) w1) (
  X Try.prog (Instr.buildSlice 27 0 #[]) w1 fun v2_5 w2 =>
  X Try.prog (Builtin.append_ #[27, 27] 27 #[v2_5, x0]) w2 fun v3_7 w3 =>
  K v3_7 w3)

theorem eq_slices_Clone_byte (x0 : Value) (w : World) (K : Value → World → Prop) :
    sh Try.prog (Try.f132.body.getD .skip) (retS Try.prog Try.f132.results K) (env0 #[x0]) w = B_slices_Clone_byte x0 w K := by kernel_rfl

theorem call_slices_Clone_byte (x0 : Value) (w : World) (K : Value → World → Prop) (h : B_slices_Clone_byte x0 w K) : CALL Try.prog 132 #[x0] w K :=
  call_of_eq (c := Try.f132.body.getD .skip) mixed Try.func132 (by kernel_rfl) (by kernel_rfl) (by kernel_rfl) (Nat.le_of_ble_eq_true (by kernel_rfl)) (eq_slices_Clone_byte x0 w K) h

/-- slices.Clone[[]cellarage/disk.sector,cellarage/disk.sector] -/
def B_slices_Clone_disk_sector (x0 : Value) (w : World) (K : Value → World → Prop) : Prop :=
  X Try.prog (binOpG .eql 180 (.tmp 3) (.const (.slice none 0 0)) x0 (.slice none 0 0)) w fun v1_4 w1 =>
  condS v1_4 (
  K (.slice none 0 0) w1) (
  X Try.prog (Instr.buildSlice 180 0 #[]) w1 fun v2_5 w2 =>
  X Try.prog (Builtin.append_ #[180, 180] 180 #[v2_5, x0]) w2 fun v3_7 w3 =>
  K v3_7 w3)

theorem eq_slices_Clone_disk_sector (x0 : Value) (w : World) (K : Value → World → Prop) :
    sh Try.prog (Try.f134.body.getD .skip) (retS Try.prog Try.f134.results K) (env0 #[x0]) w = B_slices_Clone_disk_sector x0 w K := by kernel_rfl

theorem call_slices_Clone_disk_sector (x0 : Value) (w : World) (K : Value → World → Prop) (h : B_slices_Clone_disk_sector x0 w K) : CALL Try.prog 134 #[x0] w K :=
  call_of_eq (c := Try.f134.body.getD .skip) mixed Try.func134 (by kernel_rfl) (by kernel_rfl) (by kernel_rfl) (Nat.le_of_ble_eq_true (by kernel_rfl)) (eq_slices_Clone_disk_sector x0 w K) h

/-- slices.Clone[[]cellarage/disk.write,cellarage/disk.write] -/
def B_slices_Clone_disk_write (x0 : Value) (w : World) (K : Value → World → Prop) : Prop :=
  X Try.prog (binOpG .eql 181 (.tmp 3) (.const (.slice none 0 0)) x0 (.slice none 0 0)) w fun v1_4 w1 =>
  condS v1_4 (
  K (.slice none 0 0) w1) (
  X Try.prog (Instr.buildSlice 181 0 #[]) w1 fun v2_5 w2 =>
  X Try.prog (Builtin.append_ #[181, 181] 181 #[v2_5, x0]) w2 fun v3_7 w3 =>
  K v3_7 w3)

theorem eq_slices_Clone_disk_write (x0 : Value) (w : World) (K : Value → World → Prop) :
    sh Try.prog (Try.f135.body.getD .skip) (retS Try.prog Try.f135.results K) (env0 #[x0]) w = B_slices_Clone_disk_write x0 w K := by kernel_rfl

theorem call_slices_Clone_disk_write (x0 : Value) (w : World) (K : Value → World → Prop) (h : B_slices_Clone_disk_write x0 w K) : CALL Try.prog 135 #[x0] w K :=
  call_of_eq (c := Try.f135.body.getD .skip) mixed Try.func135 (by kernel_rfl) (by kernel_rfl) (by kernel_rfl) (Nat.le_of_ble_eq_true (by kernel_rfl)) (eq_slices_Clone_disk_write x0 w K) h

end Go.Proofs.Ytggggfcgnkllgaa
end
section
/- A disk in memory: its blocks, and the steps that change them. -/
set_option linter.unusedSimpArgs false
set_option linter.unusedVariables false
namespace Go.Proofs.Ytggggfcgnkllgaa
open Go Go.Sh Go.RowKit
attribute [local irreducible] X XU XP XR CALL loopS resC closS

def wcs (p : Nat × List UInt8) : List Value := .int .i64 (p.1 : Int) :: B8 p.2
def wsL (ws : List (Nat × List UInt8)) : List Value := (ws.map wcs).flatten
theorem wcs_all {ws : List (Nat × List UInt8)} (h : ∀ p ∈ ws, p.2.length = 128) : ∀ s ∈ ws.map wcs, s.length = 129 := by
  intro s hs
  obtain ⟨p, hp, rfl⟩ := List.mem_map.1 hs
  simp [wcs, h p hp]
theorem wsL_len {ws : List (Nat × List UInt8)} (h : ∀ p ∈ ws, p.2.length = 128) : (wsL ws).length = ws.length * 129 := by
  unfold wsL
  rw [flat_len (wcs_all h), List.length_map]
theorem wsL_at {ws : List (Nat × List UInt8)} (h : ∀ p ∈ ws, p.2.length = 128) {i : Nat} (hi : i < ws.length) : ((wsL ws).drop (i * 129)).take 129 = wcs ws[i] := by
  unfold wsL
  rw [flat_at (wcs_all h) (by simpa using hi), List.getElem_map]
theorem wsL_append (a b : List (Nat × List UInt8)) : wsL (a ++ b) = wsL a ++ wsL b := by simp [wsL]
theorem wcs_one (p : Nat × List UInt8) : ∀ v ∈ wcs p, v.oneCell' = true := by
  intro v hv
  simp only [wcs, List.mem_cons] at hv
  rcases hv with rfl | hv
  · rfl
  · exact B8_one v hv
/-- A disk's parts, however they go together. -/
structure Raw where
  now : List (List UInt8)
  safe : List (List UInt8)
  ws : List (Nat × List UInt8)
  dead : Bool
  fuse : Int
  done : Int
structure RawAt (w : World) (b : Nat) (r : Raw) (nv sv wv : Value) : Prop where
  blk : w.heap[b]? = some (.cells #[nv, sv, wv, .bool r.dead, .int .i64 r.fuse, .int .i64 r.done] 183 (0, 0))
  now : w.ownsRow 0 184 128 nv r.now.length (B8 r.now.flatten)
  safe : w.ownsRow 0 184 128 sv r.safe.length (B8 r.safe.flatten)
  ws : w.ownsRow 0 186 129 wv r.ws.length (wsL r.ws)
  ne : ∀ g, nv.ownBlock = some g → sv.ownBlock ≠ some g
  n128 : ∀ s ∈ r.now, s.length = 128
  s128 : ∀ s ∈ r.safe, s.length = 128
  w128 : ∀ p ∈ r.ws, p.2.length = 128
def Dk.raw (d : Dk) : Raw := ⟨d.now, d.safe, d.ws, d.dead, d.fuse, d.done⟩
def DiskAt (w : World) (b : Nat) (d : Dk) : Prop := d.ok ∧ ∃ nv sv wv, RawAt w b (Dk.raw d) nv sv wv

theorem RawAt.foot {w : World} {b : Nat} {r : Raw} {nv sv wv : Value} (h : RawAt w b r nv sv wv) {k : Nat} : foot w b k ↔ k = b ∨ nv.ownBlock = some k ∨ sv.ownBlock = some k ∨ wv.ownBlock = some k := by
  rw [foot_cells h.blk]
  simp [Value.ownBlock]
theorem RawAt.lt {w : World} {b : Nat} {r : Raw} {nv sv wv : Value} (h : RawAt w b r nv sv wv) {k : Nat} (hk : Go.Sh.foot w b k) : k < w.heap.size := by
  rcases h.foot.1 hk with rfl | h1 | h1 | h1
  · exact lt_of_blk h.blk
  · exact (h.now.lt k h1).2
  · exact (h.safe.lt k h1).2
  · exact (h.ws.lt k h1).2
theorem RawAt.keep {w w' : World} {b : Nat} {r : Raw} {nv sv wv : Value} {D : Nat → Prop} (h : RawAt w b r nv sv wv) (k : Keep D w w') (hd : ∀ k, Go.Sh.foot w b k → ¬ D k) : RawAt w' b r nv sv wv :=
  ⟨k.get (hd b (foot_self w b)) h.blk, own_keepD h.now k (fun g hg => hd g (h.foot.2 (.inr (.inl hg)))), own_keepD h.safe k (fun g hg => hd g (h.foot.2 (.inr (.inr (.inl hg))))),
    own_keepD h.ws k (fun g hg => hd g (h.foot.2 (.inr (.inr (.inr hg))))), h.ne, h.n128, h.s128, h.w128⟩
theorem RawAt.ext {w w' : World} {b : Nat} {r : Raw} {nv sv wv : Value} (h : RawAt w b r nv sv wv) (k : Ext w w') : RawAt w' b r nv sv wv := h.keep k (fun _ _ h => h)
theorem RawAt.b_ne {w : World} {b : Nat} {r : Raw} {nv sv wv : Value} (h : RawAt w b r nv sv wv) : nv.ownBlock ≠ some b ∧ sv.ownBlock ≠ some b ∧ wv.ownBlock ≠ some b :=
  ⟨own_neT h.now h.blk (by decide), own_neT h.safe h.blk (by decide), own_neT h.ws h.blk (by decide)⟩
theorem DiskAt.lt {w : World} {b : Nat} {d : Dk} (h : DiskAt w b d) : ∀ k, Go.Sh.foot w b k → k < w.heap.size := fun k hk => by
  obtain ⟨_, nv, sv, wv, h⟩ := h
  exact h.lt hk
theorem DiskAt.keep {w w' : World} {b : Nat} {d : Dk} {D : Nat → Prop} (h : DiskAt w b d) (k : Keep D w w') (hd : ∀ k, Go.Sh.foot w b k → ¬ D k) : DiskAt w' b d := by
  obtain ⟨ho, nv, sv, wv, h⟩ := h
  exact ⟨ho, nv, sv, wv, h.keep k hd⟩
theorem DiskAt.ext {w w' : World} {b : Nat} {d : Dk} (h : DiskAt w b d) (k : Ext w w') : DiskAt w' b d := h.keep k (fun _ _ h => h)

/-- The struct's own cells are written. -/
theorem RawAt.put {w : World} {b : Nat} {r : Raw} {nv sv wv : Value} (h : RawAt w b r nv sv wv) {cs' : Array Value} (r' : Raw) (e1 : r'.now = r.now) (e2 : r'.safe = r.safe) (e3 : r'.ws = r.ws)
    (e : cs' = #[nv, sv, wv, .bool r'.dead, .int .i64 r'.fuse, .int .i64 r'.done]) : RawAt (setAt w b cs' 183 (0, 0)) b r' nv sv wv ∧ Step b w (setAt w b cs' 183 (0, 0)) := by
  have k := setAt_keep w b cs' 183 (0, 0)
  have hb := setAt_same (cs := cs') (T := 183) (fr := (0, 0)) (lt_of_blk h.blk)
  obtain ⟨n1, n2, n3⟩ := h.b_ne
  have hr : RawAt (setAt w b cs' 183 (0, 0)) b r' nv sv wv := by
    refine ⟨by rw [hb, e], ?_, ?_, ?_, h.ne, by rw [e1]; exact h.n128, by rw [e2]; exact h.s128, by rw [e3]; exact h.w128⟩
    · rw [e1]; exact own_keepD h.now k (fun g hg hgb => n1 (by rw [hg, hgb]))
    · rw [e2]; exact own_keepD h.safe k (fun g hg hgb => n2 (by rw [hg, hgb]))
    · rw [e3]; exact own_keepD h.ws k (fun g hg hgb => n3 (by rw [hg, hgb]))
  refine ⟨hr, k.mono (fun i _ hi => by subst hi; exact foot_self w i), fun k' hk' => .inl ?_⟩
  exact h.foot.2 (hr.foot.1 hk')
/-- A sector of the call's own: where it lies, and what writing its first bytes does. -/
theorem own_sec {w : World} {base : Nat} {v : Value} {l : List (List UInt8)} (ho : w.ownsRow base 184 128 v l.length (B8 l.flatten)) (h : ∀ s ∈ l, s.length = 128) {i : Nat} (hi : i < l.length) :
    ∃ g cap cur, v = .slice (some ⟨g, 0, none⟩) l.length cap ∧ w.heap[g]? = some (.cells cur 184 (0, 0)) ∧ i * 128 + 128 ≤ cur.size ∧ (cur.toList.drop (i * 128)).take 128 = B8 l[i] ∧
      ∀ x : List UInt8, x.length ≤ 128 → (setAt w g (cur.toList.take (i * 128) ++ B8 x ++ cur.toList.drop (i * 128 + (B8 x).length)).toArray 184 (0, 0)).ownsRow base 184 128 v (l.set i (x ++ l[i].drop x.length)).length (B8 (l.set i (x ++ l[i].drop x.length)).flatten) := by
  have hfl := flat_len h
  rcases id ho.2 with ⟨_, h0⟩ | ⟨g, cap, cur, hv, hg, hh, hn, hm, hs, ht⟩
  · omega
  · have hcur : l.length * 128 ≤ cur.size := by omega
    have hti : cur.toList.take (l.length * 128) = B8 l.flatten := ht
    have hat : (cur.toList.drop (i * 128)).take 128 = B8 l[i] := by
      have e := congrArg (fun x => (x.drop (i * 128)).take 128) hti
      rw [List.drop_take, List.take_take, show min 128 (l.length * 128 - i * 128) = 128 by omega] at e
      rw [e]
      unfold B8
      rw [← List.map_drop, ← List.map_take, flat_at h hi]
    refine ⟨g, cap, cur, hv, hh, by omega, hat, fun x hx => ?_⟩
    have hlen : (l.set i (x ++ l[i].drop x.length)).length = l.length := List.length_set
    have hli := h _ (List.getElem_mem hi)
    have h' : ∀ s ∈ l.set i (x ++ l[i].drop x.length), s.length = 128 := by
      refine set_all128 h i ?_
      rw [List.length_append, List.length_drop]
      omega
    refine ⟨?_, .inr ⟨g, cap, _, by rw [hlen]; exact hv, hg, setAt_same (lt_of_blk hh), by rw [hlen]; exact hn, hm, ?_, ?_⟩⟩
    · rw [B8_length, flat_len h', hlen]
    · rw [List.size_toArray, splice_len _ _ _ (by simp; omega)]
      simpa using hs
    · rw [hlen, flat_put h hi x hx, B8_append, B8_append]
      have t1 : B8 (l.flatten.take (i * 128)) = cur.toList.take (i * 128) := by
        have e := congrArg (fun x => x.take (i * 128)) hti
        rw [List.take_take, show min (i * 128) (l.length * 128) = i * 128 by omega] at e
        rw [e]; unfold B8; rw [List.map_take]
      have t2 : B8 (l.flatten.drop (i * 128 + x.length)) = (cur.toList.take (l.length * 128)).drop (i * 128 + x.length) := by
        rw [hti]; unfold B8; rw [List.map_drop]
      rw [t1, t2, B8_length]
      have e1 : (cur.toList.take (i * 128) ++ B8 x).length = i * 128 + x.length := by
        rw [List.length_append, List.length_take, B8_length, Array.length_toList]; omega
      show ((cur.toList.take (i * 128) ++ B8 x ++ cur.toList.drop (i * 128 + x.length))).take (l.length * 128) = _
      rw [List.take_append, List.take_of_length_le (by omega), e1, List.drop_take]
/-- A sector as it is now. -/
theorem RawAt.now_at {w : World} {b : Nat} {r : Raw} {nv sv wv : Value} (h : RawAt w b r nv sv wv) {i : Nat} (hi : i < r.now.length) :
    ∃ g cap cur, nv = .slice (some ⟨g, 0, none⟩) r.now.length cap ∧ w.heap[g]? = some (.cells cur 184 (0, 0)) ∧ i * 128 + 128 ≤ cur.size ∧ (cur.toList.drop (i * 128)).take 128 = B8 r.now[i] ∧
      ∀ x : List UInt8, x.length ≤ 128 → RawAt (setAt w g (cur.toList.take (i * 128) ++ B8 x ++ cur.toList.drop (i * 128 + (B8 x).length)).toArray 184 (0, 0)) b { r with now := r.now.set i (x ++ r.now[i].drop x.length) } nv sv wv ∧
        Step b w (setAt w g (cur.toList.take (i * 128) ++ B8 x ++ cur.toList.drop (i * 128 + (B8 x).length)).toArray 184 (0, 0)) := by
  obtain ⟨g, cap, cur, hv, hh, h1, h2, h3⟩ := own_sec h.now h.n128 hi
  refine ⟨g, cap, cur, hv, hh, h1, h2, fun x hx => ?_⟩
  have hown := h3 x hx
  have hnb : nv.ownBlock = some g := by rw [hv]; rfl
  generalize (cur.toList.take (i * 128) ++ B8 x ++ cur.toList.drop (i * 128 + (B8 x).length)).toArray = cs' at hown ⊢
  have k := setAt_keep w g cs' 184 (0, 0)
  obtain ⟨n1, n2, n3⟩ := h.b_ne
  have hgb : ¬ b = g := fun e => n1 (by rw [hnb, e])
  have hr : RawAt (setAt w g cs' 184 (0, 0)) b { r with now := r.now.set i (x ++ r.now[i].drop x.length) } nv sv wv := by
    refine ⟨k.get hgb h.blk, hown, own_keepD h.safe k (fun g' hg' e => h.ne g hnb (by rw [hg', e])), own_keepD h.ws k (fun g' hg' e => own_neO h.now h.ws (by decide) hnb (by rw [hg', e])), h.ne, ?_, h.s128, h.w128⟩
    refine set_all128 h.n128 i ?_
    have hli := h.n128 _ (List.getElem_mem hi)
    rw [List.length_append, List.length_drop]
    omega
  refine ⟨hr, k.mono (fun j _ hj => by rw [hj]; exact h.foot.2 (.inr (.inl hnb))), fun k' hk' => .inl ?_⟩
  exact h.foot.2 (hr.foot.1 hk')
/-- A sector as it was safe last. -/
theorem RawAt.safe_at {w : World} {b : Nat} {r : Raw} {nv sv wv : Value} (h : RawAt w b r nv sv wv) {i : Nat} (hi : i < r.safe.length) :
    ∃ g cap cur, sv = .slice (some ⟨g, 0, none⟩) r.safe.length cap ∧ w.heap[g]? = some (.cells cur 184 (0, 0)) ∧ i * 128 + 128 ≤ cur.size ∧ (cur.toList.drop (i * 128)).take 128 = B8 r.safe[i] ∧
      ∀ x : List UInt8, x.length ≤ 128 → RawAt (setAt w g (cur.toList.take (i * 128) ++ B8 x ++ cur.toList.drop (i * 128 + (B8 x).length)).toArray 184 (0, 0)) b { r with safe := r.safe.set i (x ++ r.safe[i].drop x.length) } nv sv wv ∧
        Step b w (setAt w g (cur.toList.take (i * 128) ++ B8 x ++ cur.toList.drop (i * 128 + (B8 x).length)).toArray 184 (0, 0)) := by
  obtain ⟨g, cap, cur, hv, hh, h1, h2, h3⟩ := own_sec h.safe h.s128 hi
  refine ⟨g, cap, cur, hv, hh, h1, h2, fun x hx => ?_⟩
  have hown := h3 x hx
  have hnb : sv.ownBlock = some g := by rw [hv]; rfl
  generalize (cur.toList.take (i * 128) ++ B8 x ++ cur.toList.drop (i * 128 + (B8 x).length)).toArray = cs' at hown ⊢
  have k := setAt_keep w g cs' 184 (0, 0)
  obtain ⟨n1, n2, n3⟩ := h.b_ne
  have hgb : ¬ b = g := fun e => n2 (by rw [hnb, e])
  have hr : RawAt (setAt w g cs' 184 (0, 0)) b { r with safe := r.safe.set i (x ++ r.safe[i].drop x.length) } nv sv wv := by
    refine ⟨k.get hgb h.blk, own_keepD h.now k (fun g' hg' e => h.ne g' hg' (by rw [hnb, e])), hown, own_keepD h.ws k (fun g' hg' e => own_neO h.safe h.ws (by decide) hnb (by rw [hg', e])), h.ne, h.n128, ?_, h.w128⟩
    refine set_all128 h.s128 i ?_
    have hli := h.s128 _ (List.getElem_mem hi)
    rw [List.length_append, List.length_drop]
    omega
  refine ⟨hr, k.mono (fun j _ hj => by rw [hj]; exact h.foot.2 (.inr (.inr (.inl hnb)))), fun k' hk' => .inl ?_⟩
  exact h.foot.2 (hr.foot.1 hk')
/-- A write that is not safe. -/
theorem RawAt.ws_at {w : World} {b : Nat} {r : Raw} {nv sv wv : Value} (h : RawAt w b r nv sv wv) {i : Nat} (hi : i < r.ws.length) :
    ∃ g cap cur, wv = .slice (some ⟨g, 0, none⟩) r.ws.length cap ∧ w.heap[g]? = some (.cells cur 186 (0, 0)) ∧ (cur.toList.drop (i * 129)).take 129 = wcs r.ws[i] := by
  rcases id h.ws.2 with ⟨_, h0⟩ | ⟨g, cap, cur, hv, hg, hh, hn, hm, hs, ht⟩
  · omega
  · refine ⟨g, cap, cur, hv, hh, ?_⟩
    have e := congrArg (fun x => (x.drop (i * 129)).take 129) ht
    rw [List.drop_take, List.take_take, show min 129 (r.ws.length * 129 - i * 129) = 129 by omega, wsL_at h.w128 hi] at e
    exact e
/-- One more write, once it is appended. -/
theorem RawAt.append {w w1 : World} {b : Nat} {r : Raw} {nv sv wv v' : Value} (h : RawAt w b r nv sv wv) (p : Nat × List UInt8) (hp : p.2.length = 128) (k : Keep (fun k => some k = wv.ownBlock) w w1)
    (ho : ∃ base, w1.ownsRow base 186 129 v' (r.ws.length + 1) (wsL r.ws ++ wcs p)) (hn : ∀ g, v'.ownBlock = some g → wv.ownBlock = some g ∨ w.heap.size ≤ g) :
    w1.heap[b]? = some (.cells #[nv, sv, wv, .bool r.dead, .int .i64 r.fuse, .int .i64 r.done] 183 (0, 0)) ∧
    RawAt (setAt w1 b #[nv, sv, v', .bool r.dead, .int .i64 r.fuse, .int .i64 r.done] 183 (0, 0)) b { r with ws := r.ws ++ [p] } nv sv v' ∧ Step b w (setAt w1 b #[nv, sv, v', .bool r.dead, .int .i64 r.fuse, .int .i64 r.done] 183 (0, 0)) := by
  obtain ⟨n1, n2, n3⟩ := h.b_ne
  have hb1 : w1.heap[b]? = some (.cells #[nv, sv, wv, .bool r.dead, .int .i64 r.fuse, .int .i64 r.done] 183 (0, 0)) := k.get (fun e => n3 e.symm) h.blk
  obtain ⟨base, ho⟩ := ho
  have ho0 := own_base0 ho
  have k2 := setAt_keep w1 b #[nv, sv, v', .bool r.dead, .int .i64 r.fuse, .int .i64 r.done] 183 (0, 0)
  have hnow1 := own_keepD h.now k (fun g hg e => own_neO h.now h.ws (by decide) hg e.symm)
  have hsafe1 := own_keepD h.safe k (fun g hg e => own_neO h.safe h.ws (by decide) hg e.symm)
  have hr : RawAt (setAt w1 b #[nv, sv, v', .bool r.dead, .int .i64 r.fuse, .int .i64 r.done] 183 (0, 0)) b { r with ws := r.ws ++ [p] } nv sv v' := by
    refine ⟨setAt_same (lt_of_blk hb1), own_keepD hnow1 k2 (fun g hg e => n1 (by rw [hg, e])), own_keepD hsafe1 k2 (fun g hg e => n2 (by rw [hg, e])), ?_, h.ne, h.n128, h.s128, ?_⟩
    · have e1 : (r.ws ++ [p]).length = r.ws.length + 1 := by simp
      have e2 : wsL (r.ws ++ [p]) = wsL r.ws ++ wcs p := by rw [wsL_append]; simp [wsL]
      show World.ownsRow _ 0 186 129 v' (r.ws ++ [p]).length (wsL (r.ws ++ [p]))
      rw [e1, e2]
      exact own_keepD ho0 k2 (fun g hg e => own_neT ho0 hb1 (by decide) (by rw [hg, e]))
    · intro q hq
      rcases List.mem_append.1 hq with hq | hq
      · exact h.w128 q hq
      · rw [List.mem_singleton.1 hq]; exact hp
  refine ⟨hb1, hr, ?_, fun k' hk' => ?_⟩
  · refine Keep.seq (k.mono (fun i _ hi => h.foot.2 (.inr (.inr (.inr hi.symm))))) k2 (fun i _ hi => ?_)
    rw [hi]; exact foot_self w b
  · rcases hr.foot.1 hk' with h1 | h1 | h1 | h1
    · exact .inl (h.foot.2 (.inl h1))
    · exact .inl (h.foot.2 (.inr (.inl h1)))
    · exact .inl (h.foot.2 (.inr (.inr (.inl h1))))
    · rcases hn _ h1 with h2 | h2
      · exact .inl (h.foot.2 (.inr (.inr (.inr h2))))
      · exact .inr h2
/-- No write is left. -/
theorem RawAt.clear {w : World} {b : Nat} {r : Raw} {nv sv wv : Value} (h : RawAt w b r nv sv wv) :
    RawAt (setAt w b #[nv, sv, .slice none 0 0, .bool r.dead, .int .i64 r.fuse, .int .i64 r.done] 183 (0, 0)) b { r with ws := [] } nv sv (.slice none 0 0) ∧ Step b w (setAt w b #[nv, sv, .slice none 0 0, .bool r.dead, .int .i64 r.fuse, .int .i64 r.done] 183 (0, 0)) := by
  obtain ⟨n1, n2, n3⟩ := h.b_ne
  have k := setAt_keep w b #[nv, sv, .slice none 0 0, .bool r.dead, .int .i64 r.fuse, .int .i64 r.done] 183 (0, 0)
  have hr : RawAt (setAt w b #[nv, sv, .slice none 0 0, .bool r.dead, .int .i64 r.fuse, .int .i64 r.done] 183 (0, 0)) b { r with ws := [] } nv sv (.slice none 0 0) :=
    ⟨setAt_same (lt_of_blk h.blk), own_keepD h.now k (fun g hg e => n1 (by rw [hg, e])), own_keepD h.safe k (fun g hg e => n2 (by rw [hg, e])), ⟨rfl, .inl ⟨rfl, rfl⟩⟩, h.ne, h.n128, h.s128, by intro p hp; exact absurd hp (by simp)⟩
  refine ⟨hr, k.mono (fun i _ hi => by rw [hi]; exact foot_self w b), fun k' hk' => .inl ?_⟩
  rcases hr.foot.1 hk' with h1 | h1 | h1 | h1
  · exact h.foot.2 (.inl h1)
  · exact h.foot.2 (.inr (.inl h1))
  · exact h.foot.2 (.inr (.inr (.inl h1)))
  · cases h1
end Go.Proofs.Ytggggfcgnkllgaa
end
section
/- cellarage/disk, function by function: what each computes on the plain disk. First those that write no sector. -/
set_option linter.unusedSimpArgs false
set_option linter.unusedVariables false
namespace Go.Proofs.Ytggggfcgnkllgaa
open Go Go.Sh Go.RowKit
attribute [local irreducible] X XU XP XR CALL loopS resC closS

abbrev ptr (b : Nat) : Value := .pointer (some ⟨b, 0, none⟩)
abbrev i64v (n : Int) : Value := .int .i64 n
theorem run_eql_nilsl {P : Program} {T e : TypeId} (hT : P.underlying T = some (.slice e)) (a b : Operand) (p : Option Addr) (n c : Nat) (w : World) : (binOpG .eql T a b (.slice p n c) (.slice none 0 0)).run P w = .ok (.bool p.isNone) w := by
  have e1 : binOpG .eql T a b (.slice p n c) (.slice none 0 0) = (do eqGuard .eql T a b (.slice p n c) (.slice none 0 0); let r ← Op.equal T (.slice p n c) (.slice none 0 0); pure (.bool r) : Sem Value) := by cases p <;> rfl
  have e2 : (Op.equal T (.slice p n c) (.slice none 0 0)).run P w = .ok p.isNone w := by
    rw [equal_succ]
    unfold Op.equalIn
    rw [Sem.run_bind, run_underlying hT]
    cases p <;> rfl
  rw [e1, eqGuard_at_slice]
  simp only [Sem.run_bind, Sem.run_pure, Result.andThen_ok, e2]
theorem run_empty27 (w : World) : (Instr.buildSlice 27 0 #[]).run Try.prog w = .ok (.slice (some ⟨w.heap.size, 0, none⟩) 0 0) (newB w #[] 5) := by kernel_rfl
theorem own_emptyT (w : World) (e size : Nat) : (newB w #[] e).ownsRow w.heap.size e size (.slice (some ⟨w.heap.size, 0, none⟩) 0 0) 0 [] :=
  ⟨by simp, .inr ⟨w.heap.size, 0, #[], rfl, Nat.le_refl _, newB_get _ _ _, Nat.le_refl _, by simp [maxLen], by simp, by simp⟩⟩
theorem own_nilB (w : World) : w.ownsRow w.heap.size 5 1 (.slice none 0 0) ([] : List UInt8).length (B8 []) := World.ownsRow_nil w _ 5 1
/-- slices.Clone of bytes. -/
theorem Clone_spec {v : Value} {bs : List UInt8} {w : World} {K : Value → World → Prop} (hb : Bts w v bs) (hl : bs.length ≤ 140737488355328)
    (h : ∀ v' w1, Ext w w1 → w1.ownsRow w.heap.size 5 1 v' bs.length (B8 bs) → K v' w1) : CALL Try.prog 132 #[v] w K := by
  obtain ⟨a, c, e⟩ := Bts.slice hb
  apply call_slices_Clone_byte
  unfold B_slices_Clone_byte
  rw [e]
  refine X_of (run_eql_nilsl Try.underlying27 _ _ _ _ _ _) ?_
  rw [condS_bool]
  cases a with
  | none =>
    have h0 : bs = [] := by
      obtain ⟨a', c', e', _, _, hc⟩ := hb
      rw [e] at e'
      injection e' with e1 _ _
      subst e1
      apply List.eq_nil_of_length_eq_zero
      rcases Nat.eq_zero_or_pos bs.length with h' | h'
      · exact h'
      · obtain ⟨ad, h'', _⟩ := hc h'
        cases h''
    subst h0
    show K _ _
    exact h _ _ (Keep.refl _ _) (own_nilB w)
  | some ad =>
    rw [if_neg (by simp)]
    refine X_of (run_empty27 _) ?_
    have hx := newB_ext w #[] 5
    have ho := own_emptyT w 5 1
    rw [← e]
    refine X_append_bts (base := w.heap.size) Try.underlying27 el_5 (xs := []) ho (hb.ext hx) (by omega) hx.size ?_
    intro v' w1 ho' hk
    rw [Nat.zero_add, List.nil_append] at ho'
    refine h v' w1 (Ext.seq hx hk (fun i hi => ?_)) ho'
    injection hi with hi
    exact Nat.le_of_eq hi.symm
/-- slices.Clone of cells, elements of any size. -/
theorem clone_run {w : World} {K : Value → World → Prop} {t e size bytes n m : Nat} {z : Value} {v : Value} {xs : List Value} (ht : Try.prog.underlying t = some (.slice e)) (hE : El Try.prog e size z bytes) (h0 : 0 < size) (hb0 : 0 < bytes)
    (ho : w.ownsRow m e size v n xs) (h1 : ∀ u ∈ xs, u.oneCell' = true) (hb : n * bytes ≤ 140737488355328) (he : ∀ w', (Instr.buildSlice t 0 #[]).run Try.prog w' = .ok (.slice (some ⟨w'.heap.size, 0, none⟩) 0 0) (newB w' #[] e))
    (h : ∀ v' w1, Ext w w1 → w1.ownsRow w.heap.size e size v' n xs → K v' w1) :
    X Try.prog (binOpG .eql t (.tmp 3) (.const (.slice none 0 0)) v (.slice none 0 0)) w fun v1 w1 => condS v1 (K (.slice none 0 0) w1) (X Try.prog (Instr.buildSlice t 0 #[]) w1 fun v2 w2 => X Try.prog (Builtin.append_ #[t, t] t #[v2, v]) w2 fun v3 w3 => K v3 w3) := by
  rcases id ho.2 with ⟨rfl, rfl⟩ | ⟨g, cap, cur, rfl, hg, hh, hn, hm, hs, htk⟩
  · refine X_of (run_eql_nilsl ht _ _ _ _ _ _) ?_
    rw [condS_bool]
    show K _ _
    have hx : xs = [] := List.eq_nil_of_length_eq_zero (by simpa using ho.1)
    subst hx
    exact h _ _ (Keep.refl _ _) (World.ownsRow_nil w _ e size)
  · refine X_of (run_eql_nilsl ht _ _ _ _ _ _) ?_
    rw [condS_bool, if_neg (by simp)]
    refine X_of (he _) ?_
    have hx := newB_ext w #[] e
    have hoE := own_emptyT w e size
    have hox := own_extD ho hx
    refine X_append (base := w.heap.size) ht hE h0 hoE (news := xs) ho.1 (hox.cells rfl) h1 (by rw [Nat.zero_add]; exact hb) hb0 hx.size ?_
    intro v' w1 ho' hk
    rw [Nat.zero_add, List.nil_append] at ho'
    refine h v' w1 (Ext.seq hx hk (fun i hi => ?_)) ho'
    injection hi with hi
    exact Nat.le_of_eq hi.symm
theorem own_sl {w : World} {base e size n : Nat} {v : Value} {xs : List Value} (h : w.ownsRow base e size v n xs) : ∃ a c, v = .slice a n c := by
  rcases h.2 with ⟨rfl, rfl⟩ | ⟨g, cap, _, rfl, _⟩
  · exact ⟨_, _, rfl⟩
  · exact ⟨_, _, rfl⟩

/-! ### What is told of a disk -/
section
variable {w : World} {b : Nat} {d : Dk} {K : Value → World → Prop}
theorem Dead_spec (h : DiskAt w b d) (hK : K (.bool d.dead) w) : CALL Try.prog 76 #[ptr b] w K := by
  obtain ⟨ok, nv, sv, wv, h⟩ := h
  apply call_disk_Disk_Dead
  unfold B_disk_Disk_Dead
  simp only [X_neq_nil_74, Option.isSome_some, gstep_bool, if_true, X_nilS, X_field_183_3]
  refine X_loadL agg_4 h.blk rfl ?_
  simp only [X_pick, if_true]
  exact hK
theorem Pending_spec (h : DiskAt w b d) (hK : K (i64v d.ws.length) w) : CALL Try.prog 77 #[ptr b] w K := by
  obtain ⟨ok, nv, sv, wv, h⟩ := h
  apply call_disk_Disk_Pending
  unfold B_disk_Disk_Pending
  simp only [X_eql_nil_74, Option.isNone_some, condS_bool, Bool.false_eq_true, if_false, X_nilS, X_field_183_2]
  refine X_loadL agg_181 h.blk rfl ?_
  obtain ⟨a, c, e⟩ := own_sl h.ws
  rw [e, X_len_181]
  exact hK
theorem Size_spec (h : DiskAt w b d) (hK : K (i64v d.safe.length) w) : CALL Try.prog 84 #[ptr b] w K := by
  obtain ⟨ok, nv, sv, wv, h⟩ := h
  apply call_disk_Disk_Size
  unfold B_disk_Disk_Size
  simp only [X_eql_nil_74, Option.isNone_some, condS_bool, Bool.false_eq_true, if_false, X_nilS, X_field_183_0]
  refine X_loadL agg_180 h.blk rfl ?_
  obtain ⟨a, c, e⟩ := own_sl h.now
  rw [e, X_len_180, show (Dk.raw d).now.length = d.safe.length from Dk.now_length d]
  exact hK
theorem Done_spec (h : DiskAt w b d) (hK : K (i64v d.done) w) : CALL Try.prog 79 #[ptr b] w K := by
  obtain ⟨ok, nv, sv, wv, h⟩ := h
  apply call_disk_Disk_Done
  unfold B_disk_Disk_Done
  simp only [X_eql_nil_74, Option.isNone_some, condS_bool, Bool.false_eq_true, if_false, X_nilS, X_field_183_5]
  exact X_loadL agg_3 h.blk rfl hK
/-! A nil disk. -/
theorem Dead_nil (hK : K (.bool false) w) : CALL Try.prog 76 #[.pointer none] w K := by
  apply call_disk_Disk_Dead
  unfold B_disk_Disk_Dead
  simp only [X_neq_nil_74, Option.isSome_none, gstep_bool, Bool.false_eq_true, if_false, X_pick]
  exact hK
theorem Pending_nil (hK : K (i64v 0) w) : CALL Try.prog 77 #[.pointer none] w K := by
  apply call_disk_Disk_Pending
  unfold B_disk_Disk_Pending
  simp only [X_eql_nil_74, Option.isNone_none, condS_bool, if_true]
  exact hK
theorem Size_nil (hK : K (i64v 0) w) : CALL Try.prog 84 #[.pointer none] w K := by
  apply call_disk_Disk_Size
  unfold B_disk_Disk_Size
  simp only [X_eql_nil_74, Option.isNone_none, condS_bool, if_true]
  exact hK
theorem Done_nil (hK : K (i64v 0) w) : CALL Try.prog 79 #[.pointer none] w K := by
  apply call_disk_Disk_Done
  unfold B_disk_Disk_Done
  simp only [X_eql_nil_74, Option.isNone_none, condS_bool, if_true]
  exact hK
theorem Copy_nil (hK : K (.pointer none) w) : CALL Try.prog 81 #[.pointer none] w K := by
  apply call_disk_Disk_Copy
  unfold B_disk_Disk_Copy
  simp only [X_eql_nil_74, Option.isNone_none, condS_bool, if_true]
  exact hK
theorem Cut_nil {v : Value} (hK : K (.tuple #[]) w) : CALL Try.prog 78 #[.pointer none, v] w K := by
  apply call_disk_Disk_Cut
  unfold B_disk_Disk_Cut
  simp only [X_neq_nil_74, Option.isSome_none, gstep_bool, Bool.false_eq_true, if_false, X_pick, condS_bool]
  exact hK
theorem Crash_nil {v : Value} (hK : K (.tuple #[]) w) : CALL Try.prog 72 #[.pointer none, v] w K := by
  apply call_disk_Disk_Crash
  unfold B_disk_Disk_Crash
  simp only [X_eql_nil_74, Option.isNone_none, condS_bool, if_true]
  exact hK
theorem Read_nil {v : Value} (hK : K (.tuple #[.slice none 0 0, i64v 2]) w) : CALL Try.prog 73 #[.pointer none, v] w K := by
  apply call_disk_Disk_Read
  unfold B_disk_Disk_Read
  simp only [X_eql_nil_74, Option.isNone_none, condS_bool, if_true]
  exact hK
theorem Write_nil {v v1 : Value} (hK : K (i64v 2) w) : CALL Try.prog 70 #[.pointer none, v, v1] w K := by
  apply call_disk_Disk_Write
  unfold B_disk_Disk_Write
  simp only [X_eql_nil_74, Option.isNone_none, condS_bool, if_true]
  exact hK
theorem Flush_nil (hK : K (i64v 2) w) : CALL Try.prog 71 #[.pointer none] w K := by
  apply call_disk_Disk_Flush
  unfold B_disk_Disk_Flush
  simp only [X_eql_nil_74, Option.isNone_none, condS_bool, if_true]
  exact hK

/-! ### The power -/
theorem powered_spec {r : Raw} {nv sv wv : Value} (h : RawAt w b r nv sv wv)
    (hK : ∀ (p : Raw) w1, p.now = r.now → p.safe = r.safe → p.ws = r.ws → p.dead = (if r.fuse = 0 then true else r.dead) → p.fuse = (if r.fuse = 0 then -1 else if p.dead = false ∧ 0 < r.fuse then IntKind.i64.wrap (r.fuse - 1) else r.fuse) →
      p.done = (if p.dead = true then r.done else IntKind.i64.wrap (r.done + 1)) → RawAt w1 b p nv sv wv → Step b w w1 → K (i64v (if p.dead = true then 6 else 0)) w1) : CALL Try.prog 131 #[ptr b] w K := by
  apply call_disk_Disk_powered
  unfold B_disk_Disk_powered
  simp only [X_nilS, X_field_183_3, X_field_183_4, X_field_183_5]
  refine joinS_of (fun ρ w1 => ρ 0 = ptr b ∧ RawAt w1 b { r with dead := if r.fuse = 0 then true else r.dead, fuse := if r.fuse = 0 then -1 else r.fuse } nv sv wv ∧ Step b w w1) ?_ ?_
  · rintro ρ w1 ⟨e0, h1, s1⟩
    rw [e0]
    simp only [X_nilS, X_field_183_3, X_field_183_4, X_field_183_5]
    refine X_loadL agg_4 h1.blk rfl ?_
    rw [condS_bool]
    by_cases hd : (if r.fuse = 0 then true else r.dead) = true
    · rw [if_pos hd]
      have := hK { r with dead := if r.fuse = 0 then true else r.dead, fuse := if r.fuse = 0 then -1 else r.fuse } w1 rfl rfl rfl rfl (by
        show (if r.fuse = 0 then (-1 : Int) else r.fuse) = (if r.fuse = 0 then -1 else if (if r.fuse = 0 then true else r.dead) = false ∧ 0 < r.fuse then IntKind.i64.wrap (r.fuse - 1) else r.fuse)
        rw [hd]
        simp) (by
        show r.done = (if (if r.fuse = 0 then true else r.dead) = true then r.done else IntKind.i64.wrap (r.done + 1))
        rw [if_pos hd]) h1 s1
      rw [if_pos hd] at this
      exact this
    · rw [if_neg hd]
      have hf0 : r.fuse ≠ 0 := fun e => hd (by rw [if_pos e])
      have hd' : r.dead = false := by
        rw [if_neg hf0] at hd
        simpa using hd
      refine X_loadL agg_3 h1.blk rfl ?_
      rw [X_add]
      refine XU_store info_3 sz_3 rfl h1.blk (Nat.le_of_ble_eq_true rfl) (by show ¬ ((0 : Nat) ≤ 5 ∧ 5 < 0); omega) ?_
      obtain ⟨h2, s2⟩ := h1.put (cs' := (#[nv, sv, wv, .bool (if r.fuse = 0 then true else r.dead), .int .i64 (if r.fuse = 0 then -1 else r.fuse), .int .i64 r.done] : Array Value).setIfInBounds (0 + 5) (.int .i64 (IntKind.i64.wrap (r.done + 1))))
        { r with dead := if r.fuse = 0 then true else r.dead, fuse := if r.fuse = 0 then -1 else r.fuse, done := IntKind.i64.wrap (r.done + 1) } rfl rfl rfl rfl
      refine joinS_of (fun _ w2 => RawAt w2 b { r with dead := if r.fuse = 0 then true else r.dead, fuse := if r.fuse = 0 then -1 else if 0 < r.fuse then IntKind.i64.wrap (r.fuse - 1) else r.fuse, done := IntKind.i64.wrap (r.done + 1) } nv sv wv ∧ Step b w w2) ?_ ?_
      · rintro ρ' w2 ⟨h3, s3⟩
        have := hK { r with dead := if r.fuse = 0 then true else r.dead, fuse := if r.fuse = 0 then -1 else if 0 < r.fuse then IntKind.i64.wrap (r.fuse - 1) else r.fuse, done := IntKind.i64.wrap (r.done + 1) } w2 rfl rfl rfl rfl (by
          show (if r.fuse = 0 then (-1 : Int) else if 0 < r.fuse then IntKind.i64.wrap (r.fuse - 1) else r.fuse) = (if r.fuse = 0 then -1 else if (if r.fuse = 0 then true else r.dead) = false ∧ 0 < r.fuse then IntKind.i64.wrap (r.fuse - 1) else r.fuse)
          rw [if_neg hf0, if_neg hf0, if_neg hf0, hd']
          simp) (by
          show IntKind.i64.wrap (r.done + 1) = (if (if r.fuse = 0 then true else r.dead) = true then r.done else IntKind.i64.wrap (r.done + 1))
          rw [if_neg hd]) h3 s3
        rw [if_neg hd] at this
        exact this
      · intro J hJ
        generalize setAt w1 b _ 183 (0, 0) = w2 at h2 s2 ⊢
        refine X_loadL agg_3 h2.blk rfl ?_
        simp only [hf0, if_false, X_gtr, condS_bool]
        simp only [hf0, if_false] at h2
        by_cases hp : 0 < r.fuse
        · rw [if_pos (by simpa using hp)]
          refine X_loadL agg_3 h2.blk rfl ?_
          rw [X_sub]
          refine XU_store info_3 sz_3 rfl h2.blk (Nat.le_of_ble_eq_true rfl) (by show ¬ ((0 : Nat) ≤ 4 ∧ 4 < 0); omega) ?_
          obtain ⟨h3, s3⟩ := h2.put (cs' := (#[nv, sv, wv, .bool r.dead, .int .i64 r.fuse, .int .i64 (IntKind.i64.wrap (r.done + 1))] : Array Value).setIfInBounds (0 + 4) (.int .i64 (IntKind.i64.wrap (r.fuse - 1))))
            { r with fuse := IntKind.i64.wrap (r.fuse - 1), done := IntKind.i64.wrap (r.done + 1) } rfl rfl rfl rfl
          refine hJ _ _ ⟨?_, s1.trans (s2.trans s3)⟩
          simp only [hf0, if_false, hp, if_true]
          exact h3
        · rw [if_neg (by simpa using hp)]
          refine hJ _ _ ⟨?_, s1.trans s2⟩
          simp only [hf0, if_false, hp, if_false]
          exact h2
  · intro J hJ
    refine X_loadL agg_3 h.blk rfl ?_
    rw [X_eql, condS_bool]
    by_cases hf : r.fuse = 0
    · rw [if_pos (by simpa using hf)]
      refine XU_store info_4 sz_4 rfl h.blk (Nat.le_of_ble_eq_true rfl) (by show ¬ ((0 : Nat) ≤ 3 ∧ 3 < 0); omega) ?_
      obtain ⟨h1, s1⟩ := h.put (cs' := (#[nv, sv, wv, .bool r.dead, .int .i64 r.fuse, .int .i64 r.done] : Array Value).setIfInBounds (0 + 3) (.bool true)) { r with dead := true } rfl rfl rfl rfl
      generalize setAt w b _ 183 (0, 0) = w1 at h1 s1 ⊢
      refine XU_store info_3 sz_3 rfl h1.blk (Nat.le_of_ble_eq_true rfl) (by show ¬ ((0 : Nat) ≤ 4 ∧ 4 < 0); omega) ?_
      obtain ⟨h2, s2⟩ := h1.put (cs' := (#[nv, sv, wv, .bool true, .int .i64 r.fuse, .int .i64 r.done] : Array Value).setIfInBounds (0 + 4) (.int .i64 (-1))) { r with dead := true, fuse := -1 } rfl rfl rfl rfl
      refine hJ _ _ ⟨rfl, ?_, s1.trans s2⟩
      simp only [hf, if_true]
      exact h2
    · rw [if_neg (by simpa using hf)]
      refine hJ _ _ ⟨rfl, ?_, Step.refl⟩
      simp only [hf, if_false]
      exact h
/-- The same, of the plain disk. -/
theorem powered_spec' {nv sv wv : Value} (hok : d.ok) (h : RawAt w b (Dk.raw d) nv sv wv)
    (h0 : d.trip.dead = true → ∀ w1, RawAt w1 b (Dk.raw d.trip) nv sv wv → Step b w w1 → K (i64v 6) w1)
    (h1 : d.trip.dead = false → ∀ w1, RawAt w1 b (Dk.raw d.trip.tick) nv sv wv → Step b w w1 → K (i64v 0) w1) : CALL Try.prog 131 #[ptr b] w K := by
  refine powered_spec h ?_
  rintro ⟨pn, ps, pw, pd, pf, pdn⟩ w1 e1 e2 e3 e4 e5 e6 hr hs
  simp only at e1 e2 e3 e4 e5 e6
  have et : d.trip.dead = pd := by
    rw [e4]
    show (Dk.trip d).dead = (if d.fuse = 0 then true else d.dead)
    unfold Dk.trip
    split <;> rfl
  have ef : (Dk.trip d).fuse = if d.fuse = 0 then -1 else d.fuse := by unfold Dk.trip; split <;> rfl
  by_cases hd : pd = true
  · rw [if_pos hd]
    refine h0 (by rw [et, hd]) w1 ?_ hs
    have er : Dk.raw d.trip = ⟨pn, ps, pw, pd, pf, pdn⟩ := by
      unfold Dk.raw Dk.now
      rw [Dk.trip_safe, Dk.trip_ws, Dk.trip_done, et, ef, e1, e2, e3, e5, e6, if_pos hd, hd]
      simp [Dk.raw, Dk.now]
    rw [er]; exact hr
  · have hd' : pd = false := by simpa using hd
    rw [if_neg hd]
    refine h1 (by rw [et, hd']) w1 ?_ hs
    have hf0 : d.fuse ≠ 0 := by
      intro e
      rw [hd'] at e4
      have : (Dk.raw d).fuse = 0 := e
      rw [if_pos this] at e4
      cases e4
    have hr0 : (Dk.raw d).fuse = d.fuse := rfl
    have er : Dk.raw d.trip.tick = ⟨pn, ps, pw, pd, pf, pdn⟩ := by
      have t1 : d.trip.tick.safe = d.safe := Dk.trip_safe d
      have t2 : d.trip.tick.ws = d.ws := Dk.trip_ws d
      have t3 : d.trip.tick.dead = d.trip.dead := rfl
      have t4 : d.trip.tick.done = IntKind.i64.wrap (d.done + 1) := by show IntKind.i64.wrap (d.trip.done + 1) = _; rw [Dk.trip_done]
      have t5 : d.trip.tick.fuse = if 0 < d.fuse then d.fuse - 1 else d.fuse := by
        show (if 0 < d.trip.fuse then d.trip.fuse - 1 else d.trip.fuse) = _
        rw [ef, if_neg hf0]
      unfold Dk.raw Dk.now
      rw [t1, t2, t3, t4, t5, et, e1, e2, e3, e5, e6, hd', hr0, if_neg hf0]
      have hw : 0 < d.fuse → IntKind.i64.wrap (d.fuse - 1) = d.fuse - 1 := fun hp => w64 (by omega) (by have := hok.2.2.2.2; omega)
      by_cases hp : 0 < d.fuse
      · rw [if_pos hp, if_pos ⟨rfl, hp⟩, hw hp]
        simp [Dk.raw, Dk.now]
      · rw [if_neg hp, if_neg (fun h => hp h.2)]
        simp [Dk.raw, Dk.now]
    rw [er]; exact hr
/-- Cut. -/
theorem Cut_spec {n : Int} (hn : n ≤ 9223372036854775807) (h : DiskAt w b d) (hK : ∀ w1, DiskAt w1 b (d.cut n) → Step b w w1 → K (.tuple #[]) w1) : CALL Try.prog 78 #[ptr b, i64v n] w K := by
  obtain ⟨ok, nv, sv, wv, h⟩ := h
  apply call_disk_Disk_Cut
  unfold B_disk_Disk_Cut
  simp only [X_neq_nil_74, Option.isSome_some, gstep_bool, if_true, X_nilS, X_field_183_3, X_field_183_4, X_not]
  refine X_loadL agg_4 h.blk rfl ?_
  simp only [X_not, X_pick, if_true, condS_bool]
  have ok' := Dk.cut_ok ok hn
  by_cases hd : d.dead = true
  · have e : (!(Dk.raw d).dead) = false := by show (!d.dead) = false; rw [hd]; rfl
    simp only [e, Bool.false_eq_true, if_false]
    refine hK w ⟨ok', nv, sv, wv, ?_⟩ Step.refl
    unfold Dk.cut
    rw [if_pos hd]
    exact h
  · have e : (!(Dk.raw d).dead) = true := by show (!d.dead) = true; simpa using hd
    simp only [e, if_true, X_max]
    refine XU_store info_3 sz_3 rfl h.blk (Nat.le_of_ble_eq_true rfl) (by show ¬ ((0 : Nat) ≤ 4 ∧ 4 < 0); omega) ?_
    obtain ⟨h1, s1⟩ := h.put (cs' := (#[nv, sv, wv, .bool (Dk.raw d).dead, .int .i64 (Dk.raw d).fuse, .int .i64 (Dk.raw d).done] : Array Value).setIfInBounds (0 + 4) (.int .i64 (max n (-1)))) { Dk.raw d with fuse := max n (-1) } rfl rfl rfl rfl
    refine hK _ ⟨ok', nv, sv, wv, ?_⟩ s1
    have : Dk.raw (d.cut n) = { Dk.raw d with fuse := max n (-1) } := by
      unfold Dk.cut
      rw [if_neg hd]
      rfl
    rw [this]; exact h1
end
end Go.Proofs.Ytggggfcgnkllgaa
end
section
/- cellarage/disk, function by function: those that write sectors. -/
set_option linter.unusedSimpArgs false
set_option linter.unusedVariables false
namespace Go.Proofs.Ytggggfcgnkllgaa
open Go Go.Sh Go.RowKit
attribute [local irreducible] X XU XP XR CALL loopS resC closS

theorem run_build_186 (n : Int) (w : World) : (Instr.build 186 #[(0, .int .i64 n)]).run Try.prog w = .ok (.agg (.int .i64 n :: List.replicate 128 (Value.int .u8 0)).toArray) w := by kernel_rfl
theorem B8_zeros (n : Nat) : B8 (List.replicate n 0) = List.replicate n (Value.int .u8 0) := by simp [B8]
theorem szm_5 : (Try.prog.info? 5).map (·.size) = some 1 := by kernel_rfl
theorem blk_get {w : World} {b o : Nat} {cs : Array Value} {T : TypeId} {fr : Nat × Nat} {v : Value} (hb : w.heap[b]? = some (.cells cs T fr)) (hv : cs[o]? = some v) : w.cell? ⟨b, o, none⟩ = some v := (cell_blk hb).trans hv
theorem padB_cells (a : Int) (bs : List UInt8) (h : bs.length ≤ 128) :
    ((Value.int .i64 a :: List.replicate 128 (Value.int .u8 0)).take 1 ++ B8 (bs.take 128) ++ (Value.int .i64 a :: List.replicate 128 (Value.int .u8 0)).drop (1 + min bs.length 128)) = .int .i64 a :: B8 (padB bs) := by
  have e1 : bs.take 128 = bs := List.take_of_length_le h
  have e2 : 1 + min bs.length 128 = bs.length + 1 := by omega
  rw [e1, e2, List.drop_succ_cons, List.drop_replicate]
  unfold padB
  rw [B8_append, B8_zeros]
  rfl
section
variable {w : World} {b : Nat} {d : Dk} {K : Value → World → Prop}
theorem Write_spec {at_ : Int} {v : Value} {bs : List UInt8} (h : DiskAt w b d) (hw : d.ws.length ≤ 1000000) (hb : Bts w v bs) (hnb : 0 < bs.length → ∀ k, v.ownBlock = some k → ¬ foot w b k)
    (hK : ∀ w1, DiskAt w1 b (d.write at_ bs).1 → Step b w w1 → K (i64v (d.write at_ bs).2) w1) : CALL Try.prog 70 #[ptr b, i64v at_, v] w K := by
  have hd0 := h
  obtain ⟨ok, nv, sv, wv, h⟩ := h
  obtain ⟨av, cv, ev⟩ := Bts.slice hb
  subst ev
  obtain ⟨an, cn, en⟩ := own_sl h.now
  have enl : (Dk.raw d).now.length = d.safe.length := Dk.now_length d
  apply call_disk_Disk_Write
  unfold B_disk_Disk_Write
  simp only [X_eql_nil_74, Option.isNone_some, condS_bool, Bool.false_eq_true, if_false, X_lss, gstep_bool]
  have bad : at_ < 0 ∨ (d.safe.length : Int) ≤ at_ ∨ 128 < bs.length → K (i64v 1) w := by
    intro hbad
    have e : d.write at_ bs = (d, 1) := by unfold Dk.write; rw [if_pos hbad]
    have := hK w (by rw [e]; exact hd0) Step.refl
    rw [e] at this
    exact this
  by_cases hneg : at_ < 0
  · have e1 : decide (at_ < 0) = true := by simpa using hneg
    simp only [e1, Bool.true_eq_false, if_false, X_pick, if_true, gstep_bool, condS_bool]
    exact bad (.inl hneg)
  have e1 : decide (at_ < 0) = false := by simpa using hneg
  simp only [e1, if_true, X_nilS, X_field_183_0]
  refine X_loadL agg_180 h.blk rfl ?_
  rw [en, enl]
  simp only [X_len_180, X_geq, X_pick, gstep_bool, Bool.false_eq_true, if_false]
  by_cases hge : (d.safe.length : Int) ≤ at_
  · have e2 : decide (at_ ≥ (d.safe.length : Int)) = true := by simpa using hge
    simp only [e2, Bool.true_eq_false, if_false, X_pick, if_true, gstep_bool, condS_bool]
    exact bad (.inr (.inl hge))
  have e2 : decide (at_ ≥ (d.safe.length : Int)) = false := by simpa using hge
  simp only [e2, if_true, X_len_27, X_gtr, X_pick, Bool.false_eq_true, if_false, condS_bool]
  by_cases hlen : 128 < bs.length
  · rw [if_pos (by simp; omega)]
    exact bad (.inr (.inr hlen))
  rw [if_neg (by simp; omega)]
  have hgood : ¬ (at_ < 0 ∨ (d.safe.length : Int) ≤ at_ ∨ 128 < bs.length) := by omega
  obtain ⟨i, rfl⟩ : ∃ i : Nat, at_ = (i : Int) := ⟨at_.toNat, by omega⟩
  have hi : i < d.safe.length := by omega
  refine powered_spec' ok h (fun hd w1 h1 s1 => ?_) (fun hd w1 h1 s1 => ?_)
  · have e6 : decide ((6 : Int) ≠ 0) = true := by decide
    simp only [X_neq, e6, condS_bool, if_true]
    have e : d.write (i : Int) bs = (d.trip, 6) := by unfold Dk.write; rw [if_neg hgood, if_pos hd]
    have := hK w1 (by rw [e]; exact ⟨Dk.trip_ok ok, nv, sv, wv, h1⟩) s1
    rw [e] at this
    exact this
  have e6 : decide ((0 : Int) ≠ 0) = false := by decide
  simp only [X_neq, e6, condS_bool, Bool.false_eq_true, if_false]
  have hdf : ¬ d.trip.dead = true := by rw [hd]; decide
  have ew : d.write (i : Int) bs = ({ d.trip.tick with ws := d.ws ++ [(i, padB bs)] }, 0) := by unfold Dk.write; rw [if_neg hgood, if_neg hdf]; simp
  have hpl : (padB bs).length = 128 := padB_len (by omega)
  -- the record
  refine X_of (run_build_186 _ _) ?_
  refine X_alloc zero_186 ?_
  have hq := newB_get w1 ([Value.int .i64 0] ++ List.replicate 128 (Value.int .u8 0)).toArray 186
  have hxq := newB_ext w1 ([Value.int .i64 0] ++ List.replicate 128 (Value.int .u8 0)).toArray 186
  show XU _ _ (newB w1 ([Value.int .i64 0] ++ List.replicate 128 (Value.int .u8 0)).toArray 186) _
  generalize newB w1 ([Value.int .i64 0] ++ List.replicate 128 (Value.int .u8 0)).toArray 186 = w2 at hq hxq ⊢
  have hqn : ∀ k, foot w1 b k → k ≠ w1.heap.size := fun k hk => by have := h1.lt hk; omega
  generalize hqe : w1.heap.size = q at hq hqn ⊢
  refine XU_storeAgg info_186 hq (by rw [sz_186]; simp) (by rw [sz_186]; simp) (by
    intro u hu
    simp only [List.mem_cons, List.mem_replicate] at hu
    rcases hu with rfl | ⟨_, rfl⟩ <;> rfl) ?_
  have hq2 := setAt_same (cs := (Value.int .i64 (i : Int) :: List.replicate 128 (Value.int .u8 0)).toArray) (T := 186) (fr := (0, 0)) (lt_of_blk hq)
  have hx2 : Ext w1 (setAt w2 q (Value.int .i64 (i : Int) :: List.replicate 128 (Value.int .u8 0)).toArray 186 (0, 0)) := Ext.seq hxq (setAt_keep _ _ _ _ _) (fun j hj => by omega)
  generalize setAt w2 q (Value.int .i64 (i : Int) :: List.replicate 128 (Value.int .u8 0)).toArray 186 (0, 0) = w3 at hq2 hx2 ⊢
  simp only [X_field_186_1, Nat.zero_add]
  refine X_of (run_slice_arr_all Try.underlying184 info_5 _ _) ?_
  have hb3 : Bts w3 (.slice av bs.length cv) bs := (hb.keep' s1.keep hnb).ext hx2
  refine X_copy_bts Try.underlying27 szm_5 hq2 hb3 (by simp; omega) ?_
  intro w4 hq4 hz4 hk4
  have hcs : ((Value.int .i64 (i : Int) :: List.replicate 128 (Value.int .u8 0)).toArray.toList.take 1 ++ B8 (bs.take 128) ++ (Value.int .i64 (i : Int) :: List.replicate 128 (Value.int .u8 0)).toArray.toList.drop (1 + min bs.length 128)) = wcs (i, padB bs) := padB_cells _ _ (by omega)
  rw [hcs] at hq4
  have hx4 : Ext w1 w4 := Ext.seq hx2 hk4 (fun j hj => by omega)
  have h4 := h1.ext hx4
  have hwl : (wcs (i, padB bs)).length = 129 := by simp [wcs, hpl]
  refine ⟨Keep (fun k => some k = wv.ownBlock), Keep.frame _, ?_⟩
  try simp only [XP_nilS, XP_field_183_2]
  have h4d : RawAt (drewW w4) b (Dk.raw d.trip.tick) nv sv wv := h4.ext (Keep.drew _ _)
  have hq4d : (drewW w4).heap[q]? = some (.cells (wcs (i, padB bs)).toArray 186 (0, 0)) := hq4
  obtain ⟨n1, n2, n3⟩ := h4d.b_ne
  have hqw : ¬ some q = wv.ownBlock := fun e => hqn q (h1.foot.2 (.inr (.inr (.inr e.symm)))) rfl
  refine XR_ok (Keep.frame _) (fun w' k => run_loadAt agg_181 (blk_get (k.get (fun e => n3 e.symm) h4d.blk) (v := wv) rfl)) ?_
  have hld : ((wcs (i, padB bs)).toArray.toList.drop 0).take (szT Try.prog 186) = wcs (i, padB bs) := by
    rw [sz_186]
    exact List.take_of_length_le (by simp [hwl])
  refine XR_ok (Keep.frame _) (fun w' k => run_loadAgg Try.underlying186 agg_186 info_186 (k.get hqw hq4d) hld (by rw [sz_186, hwl])) ?_
  refine X_buildSliceAgg Try.underlying181 el_186 (by decide) (by decide) hwl ?_
  have hx5 := newB_ext (drewW w4) (wcs (i, padB bs)).toArray 186
  have hg5 := newB_get (drewW w4) (wcs (i, padB bs)).toArray 186
  refine ⟨hx5.ext, ?_⟩
  generalize hne : newB (drewW w4) (wcs (i, padB bs)).toArray 186 = w5 at hx5 hg5 ⊢
  have h5 := h4d.ext hx5
  have et : (Dk.raw d.trip.tick).ws = d.ws := Dk.trip_ws d
  refine X_appendW (base := 0) Try.underlying181 el_186 (by decide) h5.ws (news := wcs (i, padB bs)) (by rw [hwl]) ?_ (wcs_one _) (by rw [et]; omega) (by decide) (Nat.zero_le _) ?_
  · intro j u hj
    rw [add_plain, Nat.zero_add, cell_blk hg5]
    simpa using hj
  intro v' w6 ho6 hk6 hn6
  refine ⟨hk6, ?_⟩
  try simp only [XP_nilS, XP_field_183_2]
  obtain ⟨hb6, h7, s7⟩ := h5.append (i, padB bs) hpl hk6 ⟨0, ho6⟩ hn6
  refine XU_store info_181 sz_181 (by obtain ⟨_, _, e⟩ := own_sl ho6; rw [e]; rfl) hb6 (Nat.le_of_ble_eq_true rfl) (by show ¬ ((0 : Nat) ≤ 0 + 2 ∧ 0 + 2 < 0); omega) ?_
  have hq7 : (setAt w6 b #[nv, sv, v', .bool (Dk.raw d.trip.tick).dead, .int .i64 (Dk.raw d.trip.tick).fuse, .int .i64 (Dk.raw d.trip.tick).done] 183 (0, 0)).heap[q]? = some (.cells (wcs (i, padB bs)).toArray 186 (0, 0)) :=
    (setAt_other (fun e => hqn q (h1.foot.2 (.inl e)) rfl)).trans (hk6.get hqw (hx5.get hq4d))
  show ∃ R, Frame? R ∧ XP _ _ (drewW (setAt w6 b #[nv, sv, v', .bool (Dk.raw d.trip.tick).dead, .int .i64 (Dk.raw d.trip.tick).fuse, .int .i64 (Dk.raw d.trip.tick).done] 183 (0, 0))) _
  generalize setAt w6 b #[nv, sv, v', .bool (Dk.raw d.trip.tick).dead, .int .i64 (Dk.raw d.trip.tick).fuse, .int .i64 (Dk.raw d.trip.tick).done] 183 (0, 0) = w7 at h7 s7 hq7 ⊢
  refine ⟨Ext, Ext.frame, ?_⟩
  try simp only [XP_nilS, XP_field_183_0, XP_field_186_1, Nat.zero_add]
  have h7d : RawAt (drewW w7) b { Dk.raw d.trip.tick with ws := (Dk.raw d.trip.tick).ws ++ [(i, padB bs)] } nv sv v' := h7.ext (Keep.drew _ _)
  have hq7d : (drewW w7).heap[q]? = some (.cells (wcs (i, padB bs)).toArray 186 (0, 0)) := hq7
  refine XR_ok Ext.frame (fun w' k => run_loadAt agg_180 (blk_get (k.get h7d.blk) (v := nv) rfl)) ?_
  have hld2 : ((wcs (i, padB bs)).toArray.toList.drop 1).take (szT Try.prog 184) = B8 (padB bs) := by
    rw [sz_184]
    show (B8 (padB bs)).take 128 = _
    exact List.take_of_length_le (by simp [hpl])
  refine XR_ok Ext.frame (fun w' k => run_loadAgg Try.underlying184 agg_184 info_184 (k.get hq7d) hld2 (by rw [sz_184, B8_length, hpl])) ?_
  have enow : (Dk.raw d.trip.tick).now = d.now := by
    show putAll d.trip.safe d.trip.ws = _
    rw [Dk.trip_safe, Dk.trip_ws]; rfl
  have hin : i < ({ Dk.raw d.trip.tick with ws := (Dk.raw d.trip.tick).ws ++ [(i, padB bs)] } : Raw).now.length := by
    show i < (Dk.raw d.trip.tick).now.length
    rw [enow, Dk.now_length]; exact hi
  obtain ⟨g, cap, cur, hnv, hg, hfit, hold, hput⟩ := h7d.now_at hin
  obtain ⟨h8, s8⟩ := hput (padB bs) (by omega)
  rw [hnv]
  refine XP_of (fun w => ix Try.underlying180 info_184 i rfl hin w) ?_
  rw [sz_184, add_plain, Nat.zero_add]
  refine XU_storeAggAt info_184 hg (by rw [B8_length, hpl]; exact hfit) (by rw [sz_184, B8_length, hpl]) B8_one ?_
  have hs : Step b w (setAt (drewW w7) g (cur.toList.take (i * 128) ++ B8 (padB bs) ++ cur.toList.drop (i * 128 + (B8 (padB bs)).length)).toArray 184 (0, 0)) := by
    have hbw : ∀ {x : World}, RawAt x b (Dk.raw d.trip.tick) nv sv wv → b < x.heap.size := fun h => lt_of_blk h.blk
    refine s1.trans ((Step.ext hx4 (hbw h1)).trans ((Step.ext (Keep.drew _ _) (hbw h4)).trans ((Step.ext hx5 (hbw h4d)).trans (s7.trans ((Step.ext (Keep.drew _ _) (lt_of_blk h7.blk)).trans s8)))))
  have := hK _ (by
    refine ⟨Dk.write_ok ok _ _, nv, sv, v', ?_⟩
    have er : Dk.raw (d.write (i : Int) bs).1 = { ({ Dk.raw d.trip.tick with ws := (Dk.raw d.trip.tick).ws ++ [(i, padB bs)] } : Raw) with now := ({ Dk.raw d.trip.tick with ws := (Dk.raw d.trip.tick).ws ++ [(i, padB bs)] } : Raw).now.set i (padB bs ++ (({ Dk.raw d.trip.tick with ws := (Dk.raw d.trip.tick).ws ++ [(i, padB bs)] } : Raw).now[i]'hin).drop (padB bs).length) } := by
      rw [ew]
      have ed : (({ Dk.raw d.trip.tick with ws := (Dk.raw d.trip.tick).ws ++ [(i, padB bs)] } : Raw).now[i]'hin).drop (padB bs).length = [] := by
        apply List.drop_eq_nil_of_le
        have := h7d.n128 _ (List.getElem_mem hin)
        omega
      rw [ed, List.append_nil]
      have e1 : (Dk.now { d.trip.tick with ws := d.ws ++ [(i, padB bs)] }) = (Dk.raw d.trip.tick).now.set i (padB bs) := by
        rw [enow]
        show putAll d.trip.safe (d.ws ++ [(i, padB bs)]) = _
        rw [Dk.trip_safe, putAll_append]
        rfl
      show Raw.mk (Dk.now { d.trip.tick with ws := d.ws ++ [(i, padB bs)] }) _ _ _ _ _ = Raw.mk _ _ _ _ _ _
      rw [e1, et]
      rfl
    rw [er]
    exact h8) hs
  rw [ew] at this
  exact this
end
end Go.Proofs.Ytggggfcgnkllgaa
end
section
/- cellarage/disk: flush, crash, read, new, copy. -/
set_option linter.unusedSimpArgs false
set_option linter.unusedVariables false
namespace Go.Proofs.Ytggggfcgnkllgaa
open Go Go.Sh Go.RowKit
attribute [local irreducible] X XU XP XR CALL loopS resC closS

theorem wcs_load {w : World} {g i : Nat} {cur : Array Value} {p : Nat × List UInt8} (hh : w.heap[g]? = some (.cells cur 186 (0, 0))) (hc : (cur.toList.drop (i * 129)).take 129 = wcs p) (hp : p.2.length = 128) :
    (Instr.loadAt 186 (.pointer (some ⟨g, i * 129, none⟩))).run Try.prog w = .ok (.agg (wcs p).toArray) w :=
  run_loadAgg Try.underlying186 agg_186 info_186 hh (by rw [sz_186]; exact hc) (by rw [sz_186]; simp [wcs, hp])
theorem set_get (l : List (List UInt8)) (i : Nat) (x : List UInt8) (h : ∀ s ∈ l, s.length = 128) (hi : i < l.length) (hx : x.length = 128) : l.set i (x ++ l[i].drop x.length) = l.set i x := by
  rw [List.drop_eq_nil_of_le (by rw [h _ (List.getElem_mem hi), hx]; exact Nat.le_refl _), List.append_nil]
section
variable {w : World} {b : Nat} {d : Dk} {K : Value → World → Prop}
theorem Flush_spec (h : DiskAt w b d) (hK : ∀ w1, DiskAt w1 b d.flush.1 → Step b w w1 → K (i64v d.flush.2) w1) : CALL Try.prog 71 #[ptr b] w K := by
  have hd0 := h
  obtain ⟨ok, nv, sv, wv, h⟩ := h
  apply call_disk_Disk_Flush
  unfold B_disk_Disk_Flush
  simp only [X_eql_nil_74, Option.isNone_some, condS_bool, Bool.false_eq_true, if_false]
  refine powered_spec' ok h (fun hd w1 h1 s1 => ?_) (fun hd w1 h1 s1 => ?_)
  · have e6 : decide ((6 : Int) ≠ 0) = true := by decide
    simp only [X_neq, e6, condS_bool, if_true]
    have e : d.flush = (d.trip, 6) := by unfold Dk.flush; rw [if_pos hd]
    have := hK w1 (by rw [e]; exact ⟨Dk.trip_ok ok, nv, sv, wv, h1⟩) s1
    rw [e] at this
    exact this
  have e6 : decide ((0 : Int) ≠ 0) = false := by decide
  have hdf : ¬ d.trip.dead = true := by rw [hd]; decide
  have ef : d.flush = ({ d.trip.tick with safe := d.now, ws := [] }, 0) := by unfold Dk.flush; rw [if_neg hdf]
  have esf : (Dk.raw d.trip.tick).safe = d.safe := Dk.trip_safe d
  have ews : (Dk.raw d.trip.tick).ws = d.ws := Dk.trip_ws d
  have enow : (Dk.raw d.trip.tick).now = d.now := by
    show putAll d.trip.safe d.trip.ws = _
    rw [Dk.trip_safe, Dk.trip_ws]; rfl
  simp only [X_neq, e6, condS_bool, Bool.false_eq_true, if_false, X_nilS, X_field_183_2]
  refine X_loadL agg_181 h1.blk rfl ?_
  obtain ⟨aw, cw, ewv⟩ := own_sl h1.ws
  rw [ews] at ewv
  rw [ewv, X_len_181, ← ewv]
  have hw128 : ∀ p ∈ d.ws, p.2.length = 128 := fun p hp => (ok.2.1 p hp).2
  have hbd : d.ws.length ≤ 9223372036854775807 := own_max h.ws
  refine loopE (fun ρ wr => ∃ i : Nat, i ≤ d.ws.length ∧ RawAt wr b { Dk.raw d.trip.tick with safe := putAll d.safe (d.ws.take i) } nv sv wv ∧ Step b w wr ∧
      ρ 18 = .int .i64 (i : Nat) ∧ ρ 17 = .int .i64 (d.ws.length : Nat) ∧ ρ 16 = wv ∧ ρ 0 = ptr b)
    (fun ρ wr => match ρ 18 with | .int _ s => (d.ws.length - s).toNat | _ => 0)
    (fun ρ wr => RawAt wr b { Dk.raw d.trip.tick with safe := d.now } nv sv wv ∧ Step b w wr ∧ ρ 0 = ptr b) ?_ ?_ ?_
  · refine ⟨0, Nat.zero_le _, ?_, s1, rfl, rfl, rfl, rfl⟩
    have : ({ Dk.raw d.trip.tick with safe := putAll d.safe (d.ws.take 0) } : Raw) = Dk.raw d.trip.tick := by
      rw [List.take_zero]
      show ({ Dk.raw d.trip.tick with safe := d.safe } : Raw) = _
      rw [← esf]
    rw [this]; exact h1
  · rintro J hJ ρ wr ⟨i, hi, hr, hs, h18, h17, h16, h0⟩
    rw [h18, h17, X_lss, condS_bool]
    by_cases hin : i = d.ws.length
    · rw [if_neg (by simp; omega)]
      refine hJ _ _ ⟨?_, hs, h0⟩
      rw [hin, List.take_length] at hr
      exact hr
    rw [if_pos (by simp; omega)]
    have hlt : i < d.ws.length := by omega
    have hltr : i < ({ Dk.raw d.trip.tick with safe := putAll d.safe (d.ws.take i) } : Raw).ws.length := by show i < (Dk.raw d.trip.tick).ws.length; rw [ews]; exact hlt
    obtain ⟨g, cap, cur, hwv, hg, hc⟩ := hr.ws_at hltr
    have ewi : ({ Dk.raw d.trip.tick with safe := putAll d.safe (d.ws.take i) } : Raw).ws[i]'hltr = d.ws[i] := by
      show (Dk.raw d.trip.tick).ws[i]'_ = _
      congr 1
    rw [ewi] at hc
    have hp128 := hw128 _ (List.getElem_mem hlt)
    have hpi := (ok.2.1 _ (List.getElem_mem hlt)).1
    rw [h16]
    have hixw : ∀ w, (Instr.indexAt 181 wv (.int .i64 (i : Int))).run Try.prog w = .ok (.pointer (some ⟨g, i * 129, none⟩)) w := fun w => by
      rw [hwv, ix Try.underlying181 info_186 i rfl hltr w, sz_186, add_plain, Nat.zero_add]
    refine X_of (hixw _) ?_
    refine X_of (wcs_load hg hc hp128) ?_
    refine X_alloc zero_186 ?_
    have hq := newB_get wr ([Value.int .i64 0] ++ List.replicate 128 (Value.int .u8 0)).toArray 186
    have hxq := newB_ext wr ([Value.int .i64 0] ++ List.replicate 128 (Value.int .u8 0)).toArray 186
    show XU _ _ (newB wr ([Value.int .i64 0] ++ List.replicate 128 (Value.int .u8 0)).toArray 186) _
    generalize newB wr ([Value.int .i64 0] ++ List.replicate 128 (Value.int .u8 0)).toArray 186 = w2 at hq hxq ⊢
    have hwl : (wcs d.ws[i]).length = 129 := by simp [wcs, hp128]
    refine XU_storeAgg info_186 hq (by rw [sz_186]; simp) (by rw [sz_186, hwl]) (wcs_one _) ?_
    have hq2 := setAt_same (cs := (wcs d.ws[i]).toArray) (T := 186) (fr := (0, 0)) (lt_of_blk hq)
    have hx2 : Ext wr (setAt w2 wr.heap.size (wcs d.ws[i]).toArray 186 (0, 0)) := Ext.seq hxq (setAt_keep _ _ _ _ _) (fun j hj => by omega)
    generalize setAt w2 wr.heap.size (wcs d.ws[i]).toArray 186 (0, 0) = w3 at hq2 hx2 ⊢
    refine ⟨Ext, Ext.frame, ?_⟩
    have hxd : Ext wr (drewW w3) := hx2.trans (Keep.drew _ _)
    have hrd := hr.ext hxd
    have hqd : (drewW w3).heap[wr.heap.size]? = some (.cells (wcs d.ws[i]).toArray 186 (0, 0)) := hq2
    rw [h0]
    try simp only [XP_nilS, XP_field_183_1, XP_field_186_0, XP_field_186_1, Nat.zero_add]
    refine XR_ok Ext.frame (fun w' k => run_loadAt agg_180 (blk_get (k.get hrd.blk) (v := sv) rfl)) ?_
    refine XR_ok Ext.frame (fun w' k => run_loadAt agg_3 (blk_get (k.get hqd) (v := .int .i64 (d.ws[i].1 : Int)) rfl)) ?_
    have hld2 : ((wcs d.ws[i]).toArray.toList.drop 1).take (szT Try.prog 184) = B8 d.ws[i].2 := by
      rw [sz_184]
      show (B8 d.ws[i].2).take 128 = _
      exact List.take_of_length_le (by simp [hp128])
    refine XR_ok Ext.frame (fun w' k => run_loadAgg Try.underlying184 agg_184 info_184 (k.get hqd) hld2 (by rw [sz_184, B8_length, hp128])) ?_
    have hlen : ({ Dk.raw d.trip.tick with safe := putAll d.safe (d.ws.take i) } : Raw).safe.length = d.safe.length := putAll_length _ _
    have hsi : d.ws[i].1 < ({ Dk.raw d.trip.tick with safe := putAll d.safe (d.ws.take i) } : Raw).safe.length := by rw [hlen]; exact hpi
    obtain ⟨g2, cap2, cur2, hsv, hg2, hfit, hold, hput⟩ := hrd.safe_at hsi
    obtain ⟨h8, s8⟩ := hput d.ws[i].2 (by omega)
    have hixs : ∀ w, (Instr.indexAt 180 sv (.int .i64 (d.ws[i].1 : Int))).run Try.prog w = .ok (.pointer (some ⟨g2, d.ws[i].1 * 128, none⟩)) w := fun w => by
      rw [hsv, ix Try.underlying180 info_184 d.ws[i].1 rfl hsi w, sz_184, add_plain, Nat.zero_add]
    refine XP_of hixs ?_
    refine XU_storeAggAt info_184 hg2 (by rw [B8_length, hp128]; exact hfit) (by rw [sz_184, B8_length, hp128]) B8_one ?_
    rw [X_add]
    show _ ∧ _
    refine ⟨⟨i + 1, by omega, ?_, hs.trans ((Step.ext hxd (lt_of_blk hr.blk)).trans s8), next64 (n := d.ws.length - 1) (by omega) (by omega), h17, h16, h0⟩, ?_⟩
    · have e : putAll d.safe (d.ws.take (i + 1)) = (putAll d.safe (d.ws.take i)).set d.ws[i].1 d.ws[i].2 := by
        rw [List.take_succ_eq_append_getElem hlt, putAll_append]
        rfl
      rw [e]
      rw [set_get _ _ _ hrd.s128 hsi hp128] at h8
      exact h8
    · show (_ - IntKind.i64.wrap _).toNat < _
      rw [w64 (by omega) (by omega)]
      omega
  · rintro ρ wr ⟨hr, hs, h0⟩
    rw [h0]
    simp only [X_nilS, X_field_183_2]
    refine XU_store info_181 sz_181 rfl hr.blk (Nat.le_of_ble_eq_true rfl) (by show ¬ ((0 : Nat) ≤ 0 + 2 ∧ 0 + 2 < 0); omega) ?_
    obtain ⟨h2, s2⟩ := hr.clear
    have := hK _ (by
      refine ⟨Dk.flush_ok ok, nv, sv, .slice none 0 0, ?_⟩
      have er : Dk.raw d.flush.1 = { ({ Dk.raw d.trip.tick with safe := d.now } : Raw) with ws := [] } := by
        rw [ef]
        show Raw.mk (putAll d.now []) d.now [] _ _ _ = Raw.mk (Dk.raw d.trip.tick).now d.now [] _ _ _
        rw [enow]
        rfl
      rw [er]
      exact h2) (hs.trans s2)
    rw [ef] at this
    exact this
/-- copy(d.now, d.safe). -/
theorem X_copy_zero {P : Program} {t u U e size : Nat} {w : World} {K : Value → World → Prop} (ht : P.underlying t = some (.slice e)) (hi : infoB P e = true) {a a' : Option Addr} {c c' : Nat} (h : K (.int .i64 (0 : Nat)) w) : X P (Builtin.copy_ #[t, u] U #[.slice a 0 c, .slice a' 0 c']) w K := by
  refine X_of (w1 := w) (v := .int .i64 (0 : Nat)) ?_ h
  have hm : Nat.min 0 0 = 0 := rfl
  cases a <;> cases a' <;> simp [Builtin.copy_, run_underlying ht, Builtin.lenOf, Builtin.firstCells, sizeOf_run hi, hm, goInt, loadCells, loadCellsFrom, storeCells]
theorem copy_now {U : Nat} {r : Raw} {nv sv wv : Value} (h : RawAt w b r nv sv wv) (he : r.now.length = r.safe.length) (hK : ∀ v w1, RawAt w1 b { r with now := r.safe } nv sv wv → Step b w w1 → K v w1) : X Try.prog (Builtin.copy_ #[180, 180] U #[nv, sv]) w K := by
  rcases Nat.eq_zero_or_pos r.now.length with h0 | h0
  · obtain ⟨a1, c1, e1⟩ := own_sl h.now
    obtain ⟨a2, c2, e2⟩ := own_sl h.safe
    have n0 : r.now = [] := List.eq_nil_of_length_eq_zero h0
    have s0 : r.safe = [] := List.eq_nil_of_length_eq_zero (by omega)
    rw [e1, e2, ← he, h0]
    refine X_copy_zero (size := 128) Try.underlying180 info_184 ?_
    refine hK _ _ ?_ Step.refl
    have : ({ r with now := r.safe } : Raw) = r := by
      cases r
      simp only at n0 s0
      subst n0
      subst s0
      rfl
    rw [this]; exact h
  · rcases id h.now.2 with ⟨_, h1⟩ | ⟨g, cap, cur, hnv, _, hh, hn, hm, hs, htk⟩
    · omega
    rcases id h.safe.2 with ⟨_, h1⟩ | ⟨g2, cap2, cur2, hsv, _, hh2, hn2, hm2, hs2, htk2⟩
    · omega
    have hfl : (B8 r.safe.flatten).length = r.now.length * 128 := by rw [B8_length, flat_len h.s128, he]
    have hc := h.safe.cells (g := g2) (by rw [hsv]; rfl)
    have hnb : nv.ownBlock = some g := by rw [hnv]; rfl
    rw [hnv, hsv]
    refine X_copy_cells (size := 128) Try.underlying180 info_184 sz_184 hh (l := B8 r.safe.flatten) (by rw [hfl, ← he, Nat.min_self]) hc B8_one (by omega) ?_
    have k := setAt_keep w g (cur.toList.take 0 ++ B8 r.safe.flatten ++ cur.toList.drop (0 + (B8 r.safe.flatten).length)).toArray 184 (0, 0)
    have hsame := setAt_same (cs := (cur.toList.take 0 ++ B8 r.safe.flatten ++ cur.toList.drop (0 + (B8 r.safe.flatten).length)).toArray) (T := 184) (fr := (0, 0)) (lt_of_blk hh)
    have hsize : (cur.toList.take 0 ++ B8 r.safe.flatten ++ cur.toList.drop (0 + (B8 r.safe.flatten).length)).toArray.size = cap * 128 := by
      rw [List.size_toArray, splice_len _ _ _ (by simp only [Array.length_toList]; omega)]
      simpa using hs
    have htake : (cur.toList.take 0 ++ B8 r.safe.flatten ++ cur.toList.drop (0 + (B8 r.safe.flatten).length)).toArray.toList.take (r.safe.length * 128) = B8 r.safe.flatten := by
      show List.take _ (cur.toList.take 0 ++ B8 r.safe.flatten ++ _) = _
      rw [List.take_zero, List.nil_append, List.take_append_of_le_length (by rw [hfl, he]; exact Nat.le_refl _), List.take_of_length_le (by rw [hfl, he]; exact Nat.le_refl _)]
    generalize (cur.toList.take 0 ++ B8 r.safe.flatten ++ cur.toList.drop (0 + (B8 r.safe.flatten).length)).toArray = cs' at k hsame hsize htake ⊢
    obtain ⟨n1, n2, n3⟩ := h.b_ne
    have hgb : ¬ b = g := fun e => n1 (by rw [hnb, e])
    have hr : RawAt (setAt w g cs' 184 (0, 0)) b { r with now := r.safe } nv sv wv := by
      refine ⟨k.get hgb h.blk, ⟨by rw [hfl, he], .inr ⟨g, cap, cs', by rw [← he]; exact hnv, Nat.zero_le _, hsame, by rw [← he]; exact hn, hm, hsize, htake⟩⟩, own_keepD h.safe k (fun g' hg' e => h.ne g hnb (by rw [hg', e])), own_keepD h.ws k (fun g' hg' e => own_neO h.now h.ws (by decide) hnb (by rw [hg', e])), h.ne, h.s128, h.s128, h.w128⟩
    refine hK _ _ hr ⟨k.mono (fun j _ hj => by rw [hj]; exact h.foot.2 (.inr (.inl hnb))), fun k' hk' => .inl ?_⟩
    exact h.foot.2 (hr.foot.1 hk')
end
end Go.Proofs.Ytggggfcgnkllgaa
end
