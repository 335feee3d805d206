/- Objects and what they hold: the block of a struct and the blocks of its slices. -/
import Derived.Test.YtggggfcgnkllgaaKit1
set_option linter.unusedSimpArgs false
set_option linter.unusedVariables false
namespace Go.Sh
open Go Go.RowKit
/-- The block b, and those its cells are slices of. -/
def foot (w : World) (b k : Nat) : Prop := k = b ∨ ∃ cs T fr, w.heap[b]? = some (.cells cs T fr) ∧ ∃ v ∈ cs.toList, v.ownBlock = some k
theorem foot_self (w : World) (b : Nat) : foot w b b := .inl rfl
theorem foot_same {w w' : World} {b k : Nat} (h : w'.heap[b]? = w.heap[b]?) : foot w' b k ↔ foot w b k := by unfold foot; rw [h]
theorem foot_cells {w : World} {b k : Nat} {cs : Array Value} {T : TypeId} {fr : Nat × Nat} (hb : w.heap[b]? = some (.cells cs T fr)) : foot w b k ↔ k = b ∨ ∃ v ∈ cs.toList, v.ownBlock = some k := by
  unfold foot
  constructor
  · rintro (h | ⟨cs', T', fr', e, h⟩)
    · exact .inl h
    · rw [hb] at e
      injection e with e
      injection e with e1 e2 e3
      subst e1
      exact .inr h
  · rintro (h | h)
    · exact .inl h
    · exact .inr ⟨cs, T, fr, hb, h⟩
/-- What is done to the object b: its own blocks may change, and it may get new ones. -/
structure Step (b : Nat) (w w1 : World) : Prop where
  keep : Keep (foot w b) w w1
  grow : ∀ k, foot w1 b k → foot w b k ∨ w.heap.size ≤ k
theorem Step.size {b : Nat} {w w1 : World} (h : Step b w w1) : w.heap.size ≤ w1.heap.size := h.keep.size
theorem Step.trans {b : Nat} {x y z : World} (h : Step b x y) (k : Step b y z) : Step b x z :=
  ⟨Keep.seq h.keep k.keep (fun i hi hf => (h.grow i hf).resolve_right (by omega)), fun i hf => by
    rcases k.grow i hf with h1 | h1
    · exact h.grow i h1
    · have := h.size
      exact .inr (by omega)⟩
theorem Step.ext {b : Nat} {w w1 : World} (h : Ext w w1) (hb : b < w.heap.size) : Step b w w1 :=
  ⟨h.ext, fun k hf => .inl ((foot_same (h.block b hb (fun h => h))).1 hf)⟩
theorem Step.refl {b : Nat} {w : World} : Step b w w := ⟨Keep.refl _ _, fun _ h => .inl h⟩
theorem Step.out {b : Nat} {W w w1 : World} (h : Step b w w1) (hx : Ext W w) (hl : ∀ k, foot w b k → W.heap.size ≤ k) : Ext W w1 := Ext.seq hx h.keep hl
theorem Step.low {b n : Nat} {w w1 : World} (h : Step b w w1) (hn : n ≤ w.heap.size) (hl : ∀ k, foot w b k → n ≤ k) : ∀ k, foot w1 b k → n ≤ k := fun k hk => by
  rcases h.grow k hk with h1 | h1
  · exact hl k h1
  · omega
/-- What stands apart stays apart. -/
def Apart (w : World) (b b' : Nat) : Prop := ∀ k, foot w b k → ¬ foot w b' k
theorem Apart.symm {w : World} {b b' : Nat} (h : Apart w b b') : Apart w b' b := fun k h1 h2 => h k h2 h1
theorem Step.other {b b' : Nat} {w w1 : World} (h : Step b w w1) (ha : Apart w b b') (hl : b' < w.heap.size) : w1.heap[b']? = w.heap[b']? := h.keep.block b' hl (fun hf => ha b' hf (foot_self w b'))
theorem Step.apart {b b' : Nat} {w w1 : World} (h : Step b w w1) (ha : Apart w b b') (hl : ∀ k, foot w b' k → k < w.heap.size) : Apart w1 b b' := fun k h1 h2 => by
  have h2' := (foot_same (h.other ha (hl b' (foot_self w b')))).1 h2
  rcases h.grow k h1 with h3 | h3
  · exact ha k h3 h2'
  · have := hl k h2'
    omega
theorem Apart.new {w w1 : World} {b b' : Nat} (h : Ext w w1) (hl : ∀ k, foot w b k → k < w.heap.size) (hn : ∀ k, foot w1 b' k → w.heap.size ≤ k) : Apart w1 b b' := fun k h1 h2 => by
  have h1' := (foot_same (h.block b (hl b (foot_self w b)) (fun h => h))).1 h1
  have := hl k h1'
  have := hn k h2
  omega
theorem Apart.ext {w w1 : World} {b b' : Nat} (h : Apart w b b') (x : Ext w w1) (h1 : b < w.heap.size) (h2 : b' < w.heap.size) : Apart w1 b b' := fun k f1 f2 =>
  h k ((foot_same (x.block b h1 (fun h => h))).1 f1) ((foot_same (x.block b' h2 (fun h => h))).1 f2)
/-- Rows of the call's own stay where their block is kept. -/
theorem own_keepD {w w' : World} {base e size n : Nat} {v : Value} {xs : List Value} {D : Nat → Prop} (h : w.ownsRow base e size v n xs) (k : Keep D w w') (hd : ∀ g, v.ownBlock = some g → ¬ D g) : w'.ownsRow base e size v n xs := by
  refine ⟨h.1, h.2.imp id ?_⟩
  rintro ⟨g, cap, cur, rfl, hg, hh, rest⟩
  exact ⟨g, cap, cur, rfl, hg, k.get (hd g rfl) hh, rest⟩
theorem own_extD {w w' : World} {base e size n : Nat} {v : Value} {xs : List Value} (h : w.ownsRow base e size v n xs) (k : Ext w w') : w'.ownsRow base e size v n xs := own_keepD h k (fun _ _ h => h)
theorem own_neT {w : World} {base e size n : Nat} {v : Value} {xs : List Value} (ho : w.ownsRow base e size v n xs) {b : Nat} {cs : Array Value} {T : TypeId} {fr : Nat × Nat} (hb : w.heap[b]? = some (.cells cs T fr)) (hT : T ≠ e) : v.ownBlock ≠ some b := by
  intro h
  rcases ho.2 with ⟨rfl, _⟩ | ⟨g, cap, cur, rfl, _, hg, _⟩
  · cases h
  · have : g = b := by simpa [Value.ownBlock] using h
    subst this
    rw [hb] at hg
    injection hg with hg
    injection hg with _ h2
    exact hT h2
theorem own_neO {w : World} {base base' e e' size size' n n' : Nat} {v v' : Value} {xs xs' : List Value} (ho : w.ownsRow base e size v n xs) (ho' : w.ownsRow base' e' size' v' n' xs') (hT : e ≠ e') {g : Nat} (hg : v.ownBlock = some g) : v'.ownBlock ≠ some g := by
  rcases ho.2 with ⟨rfl, _⟩ | ⟨g', cap, cur, rfl, _, hh, _⟩
  · cases hg
  · have : g' = g := by simpa [Value.ownBlock] using hg
    subst this
    exact own_neT ho' hh hT
theorem own_max {w : World} {base e size n : Nat} {v : Value} {xs : List Value} (ho : w.ownsRow base e size v n xs) : n ≤ 9223372036854775807 := by
  rcases ho.2 with ⟨_, h⟩ | ⟨_, _, _, _, _, _, h, h', _⟩
  · omega
  · simp only [maxLen] at h'
    omega
theorem own_base0 {w : World} {base e size n : Nat} {v : Value} {xs : List Value} (ho : w.ownsRow base e size v n xs) : w.ownsRow 0 e size v n xs := own_mono ho (Nat.zero_le _)
/-- v lies apart from the object b. -/
def Outs (w : World) (b : Nat) (v : Value) : Prop := ∀ k, v.ownBlock = some k → ¬ foot w b k ∧ k < w.heap.size
theorem Outs.step {w w1 : World} {b : Nat} {v : Value} (h : Outs w b v) (s : Step b w w1) : Outs w1 b v := fun k hk => by
  obtain ⟨h1, h2⟩ := h k hk
  refine ⟨fun hf => ?_, Nat.lt_of_lt_of_le h2 s.size⟩
  rcases s.grow k hf with h3 | h3
  · exact h1 h3
  · omega
theorem Outs.ext {w w1 : World} {b : Nat} {v : Value} (h : Outs w b v) (hb : b < w.heap.size) (x : Ext w w1) : Outs w1 b v := h.step (Step.ext x hb)
theorem Bts.step {w w1 : World} {b : Nat} {v : Value} {l : List UInt8} (h : Bts w v l) (o : Outs w b v) (s : Step b w w1) : Bts w1 v l := h.keep s.keep (fun k hk => (o k hk).1)
theorem outs_own {w w1 : World} {b base e size n : Nat} {v : Value} {xs : List Value} (ho : w1.ownsRow base e size v n xs) (x : Ext w w1) (hl : ∀ k, foot w b k → k < w.heap.size) (hb : w.heap.size ≤ base) : Outs w1 b v := fun k hk => by
  obtain ⟨h1, h2⟩ := ho.lt k hk
  refine ⟨fun hf => ?_, h2⟩
  have := hl k ((foot_same (x.block b (hl b (foot_self w b)) (fun h => h))).1 hf)
  omega
/-- An aggregate is written into a block, anywhere. -/
theorem XU_storeAggAt {P : Program} {t : TypeId} (hi : infoB P t = true) {b o : Nat} {cs : Array Value} {l : List Value} {T : TypeId} {w : World} {K : World → Prop} (hb : w.heap[b]? = some (.cells cs T (0, 0))) (hc : o + l.length ≤ cs.size) (hn : l.length = szT P t)
    (h1 : ∀ v ∈ l, v.oneCell' = true) (h : K (setAt w b (cs.toList.take o ++ l ++ cs.toList.drop (o + l.length)).toArray T (0, 0))) : XU P (Instr.storeAt t (.pointer (some ⟨b, o, none⟩)) (.agg l.toArray)) w K := by
  have hst := run_storeCells_at P b o T l 0 cs w hb (by omega) h1
  have e : w.setRow b ((cs.toList.take (o + 0) ++ l ++ cs.toList.drop (o + 0 + l.length)).toArray) = setAt w b (cs.toList.take o ++ l ++ cs.toList.drop (o + l.length)).toArray T (0, 0) := by
    rw [Nat.add_zero]
    unfold World.setRow setAt
    congr 1
    apply Array.ext_getElem?
    intro i
    have hl := lt_of_blk hb
    by_cases hi : i = b
    · subst hi
      rw [Array.getElem?_modify, if_pos rfl, hb]
      simp [hl]
    · rw [Array.getElem?_setIfInBounds_ne (Ne.symm hi), Array.getElem?_modify]
      simp [Ne.symm hi]
  rw [e] at hst
  have hv : (Value.agg l.toArray).cells = l.toArray := rfl
  have hr : (Instr.storeAt t (.pointer (some ⟨b, o, none⟩)) (.agg l.toArray)).run P w = .ok () (setAt w b (cs.toList.take o ++ l ++ cs.toList.drop (o + l.length)).toArray T (0, 0)) := by
    simp [Instr.storeAt, Instr.sureAddr, storeVar, sizeOf_run hi, hv, ← hn, hst]
  unfold XU; rw [hr]; exact h
theorem splice_len (l m : List Value) (o : Nat) (h : o + m.length ≤ l.length) : (l.take o ++ m ++ l.drop (o + m.length)).length = l.length := by
  simp; omega
/-- copy of cells into a block, elements of any size. -/
theorem X_copy_cells {P : Program} {t u U e size : Nat} {w : World} {K : Value → World → Prop} (ht : P.underlying t = some (.slice e)) (hi : infoB P e = true) (hs : szT P e = size) {g o n c : Nat} {cur : Array Value} {T : TypeId} (hg : w.heap[g]? = some (.cells cur T (0, 0)))
    {a : Addr} {m c' : Nat} {l : List Value} (hl : l.length = min m n * size) (hc : ∀ j v, l[j]? = some v → w.cell? (a.add j) = some v) (h1 : ∀ v ∈ l, v.oneCell' = true) (hfit : o + l.length ≤ cur.size)
    (h : K (.int .i64 (min m n : Nat)) (setAt w g (cur.toList.take o ++ l ++ cur.toList.drop (o + l.length)).toArray T (0, 0))) : X P (Builtin.copy_ #[t, u] U #[.slice (some ⟨g, o, none⟩) n c, .slice (some a) m c']) w K := by
  have hld := run_loadCells_list (P := P) w a l hc
  have hst := run_storeCells_at P g o T l 0 cur w hg (by omega) h1
  have e : w.setRow g ((cur.toList.take (o + 0) ++ l ++ cur.toList.drop (o + 0 + l.length)).toArray) = setAt w g (cur.toList.take o ++ l ++ cur.toList.drop (o + l.length)).toArray T (0, 0) := by
    rw [Nat.add_zero]
    unfold World.setRow setAt
    congr 1
    apply Array.ext_getElem?
    intro i
    have hl := lt_of_blk hg
    by_cases hi : i = g
    · subst hi
      rw [Array.getElem?_modify, if_pos rfl, hg]
      simp [hl]
    · rw [Array.getElem?_setIfInBounds_ne (Ne.symm hi), Array.getElem?_modify]
      simp [Ne.symm hi]
  rw [e] at hst
  rw [hl] at hld
  refine X_of (w1 := setAt w g (cur.toList.take o ++ l ++ cur.toList.drop (o + l.length)).toArray T (0, 0)) (v := .int .i64 (min m n : Nat)) ?_ h
  have hm : Nat.min m n = min m n := rfl
  simp [Builtin.copy_, run_underlying ht, Builtin.lenOf, Builtin.firstCells, sizeOf_run hi, hs, hm, hld, hst, goInt]
/-- append to a row of the call's own, and where the new row lies. -/
theorem X_appendW {P : Program} {w : World} {K : Value → World → Prop} {base : Nat} {t U e : TypeId} {size bytes : Nat} {z : Value} (ht : P.underlying t = some (.slice e)) (hE : El P e size z bytes) (h0 : 0 < size) {v : Value} {n : Nat} {xs : List Value} (hown : w.ownsRow base e size v n xs)
    {a : Addr} {m c : Nat} {news : List Value} (hl : news.length = m * size) (hnews : ∀ j u, news[j]? = some u → w.cell? (a.add j) = some u) (h1 : ∀ u ∈ news, u.oneCell' = true)
    (hb : (n + m) * bytes ≤ 140737488355328) (hb0 : 0 < bytes) (hbase : base ≤ w.heap.size)
    (h : ∀ v' w1, w1.ownsRow base e size v' (n + m) (xs ++ news) → Keep (fun k => some k = v.ownBlock) w w1 → (∀ g, v'.ownBlock = some g → v.ownBlock = some g ∨ w.heap.size ≤ g) → K v' w1) : X P (Builtin.append_ #[t, t] U #[v, .slice (some a) m c]) w K := by
  obtain ⟨⟨i, hi, hs, hz, hby⟩, hzc⟩ := hE
  have hm : n + m ≤ 140737488355328 := Nat.le_trans (Nat.le_mul_of_pos_right _ hb0) hb
  have h63 : n + m ≤ maxLen := by simp only [maxLen]; omega
  obtain ⟨v', w1, hr, h2, h3, h4⟩ := run_append_own (P := P) w base t U e i z size bytes ht hi hz hs hby hzc h0 v n xs hown a m c news hl hnews h1 h63 hb hbase
  rw [X_ok hr]
  refine h v' w1 h2 (keep_grown h3) ?_
  intro g hg
  rcases id hown.2 with ⟨rfl, rfl⟩ | ⟨g0, cap, cur, rfl, hbg, hh, hnc, hcm, hcs, htake⟩
  · have hx : xs = [] := List.eq_nil_of_length_eq_zero (by simpa using hown.1)
    subst hx
    obtain ⟨v2, w2, hr2, h22, _, _⟩ := run_append_own (P := P) w w.heap.size t U e i z size bytes ht hi hz hs hby hzc h0 (.slice none 0 0) 0 [] (World.ownsRow_nil w _ e size) a m c news hl hnews h1 h63 hb (Nat.le_refl _)
    rw [hr] at hr2
    injection hr2 with e1 e2
    subst e1
    exact .inr (h22.lt g hg).1
  · subst hs
    subst hby
    by_cases hroom : n + m ≤ cap
    · have hfit : n * i.size + news.length ≤ cur.size := by rw [hl, hcs, ← Nat.add_mul]; exact Nat.mul_le_mul_right _ hroom
      have hr2 := run_append_room (P := P) w t U e i ht hi g0 n cap cur hh a m c news hl hnews h1 hroom hfit
      rw [hr] at hr2
      injection hr2 with e1 e2
      subst e1
      exact .inl hg
    · have holds : ∀ j u, xs[j]? = some u → w.cell? ((⟨g0, 0, none⟩ : Addr).add j) = some u := hown.cells (g := g0) rfl
      simp only [maxLen] at h63 hcm
      have hr2 := run_append_grow (P := P) w t U e i z ht hi hz ⟨g0, 0, none⟩ n cap xs hown.1 holds a m c news hl hnews (by omega) (by omega) (growslice_fits (by omega) hb)
      rw [hr] at hr2
      injection hr2 with e1 e2
      subst e1
      refine .inr ?_
      injection hg with hg
      exact Nat.le_of_eq hg
/-- A literal of one struct. -/
theorem foldl_put (l : List Value) : ∀ (k : Nat) (cs : Array Value), k + l.length ≤ cs.size → ((l.zipIdx k).foldl (fun (cs : Array Value) (x : Value × Nat) => cs.setIfInBounds (0 + x.2) x.1) cs).toList = cs.toList.take k ++ l ++ cs.toList.drop (k + l.length) := by
  induction l with
  | nil => intro k cs h; simp
  | cons v l ih =>
    intro k cs h
    simp only [List.length_cons] at h
    rw [List.zipIdx_cons, List.foldl_cons, ih (k + 1) _ (by rw [Array.size_setIfInBounds]; omega)]
    simp only [Array.toList_setIfInBounds, Nat.zero_add]
    have hs := list_seg_step cs.toList k v l (by rw [Array.length_toList]; omega)
    rw [hs]
    simp
theorem X_buildSliceAgg {P : Program} {w : World} {K : Value → World → Prop} {T e size bytes : Nat} {z : Value} (hT : P.underlying T = some (.slice e)) (hE : El P e size z bytes) (h0 : 0 < size) (hsz : size ≤ 16777216) {l : List Value} (hl : l.length = size)
    (h : K (.slice (some ⟨w.heap.size, 0, none⟩) 1 1) (newB w l.toArray e)) : X P (Instr.buildSlice T 1 #[(0, .agg l.toArray)]) w K := by
  obtain ⟨⟨i, hi, hs, hz, _⟩, hzc⟩ := hE
  subst hs
  have hv : (Value.agg l.toArray).cells = l.toArray := rfl
  have hnz : ¬ i.size = 0 := by omega
  have hfill : Instr.fill (fun i_1 => some (i_1 * i.size, i.size)) ((Array.range (1 * i.size)).map (z.cells[· % z.cells.size]!)) [(0, Value.agg l.toArray)] = some l.toArray := by
    simp only [Instr.fill, hv, List.size_toArray, hl, Nat.zero_mul, Nat.zero_add, Array.size_map, Array.size_range, Nat.one_mul]
    rw [if_neg (by simp)]
    congr 1
    apply Array.ext'
    have hf := foldl_put l 0 ((Array.range i.size).map (z.cells[· % z.cells.size]!)) (by simp [hl])
    rw [List.take_zero, List.nil_append, List.drop_eq_nil_of_le (by simp [hl]), List.append_nil] at hf
    rw [Array.zipIdx_toArray, List.foldl_toArray]
    simpa only [Nat.zero_add] using hf
  refine X_of (v := .slice (some ⟨w.heap.size, 0, none⟩) 1 1) (w1 := newB w l.toArray e) ?_ h
  have hle : ¬ (1 * i.size > 2 ^ 24) := by omega
  have hne : ¬ (1 * i.size = 0) := by omega
  have hle' : ¬ 16777216 < i.size := by omega
  rw [Nat.one_mul] at hfill
  simp [Instr.buildSlice, run_underlying hT, sizeOf, typeInfo, hi, hle', hnz, zeroValue, hz, hfill, newRow, newB]
end Go.Sh
