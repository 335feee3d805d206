/- Part 4 of what the law is proved with: OwnK KeyEq Kit2 Law Cont1 Build1 T30 Ext1 T31. -/
import Derived.Maps.Own
import Derived.DeepKeys4
import Derived.Test.YtlnkdphecinnnaaRows
import Derived.Great.FillDense
import Derived.Test.YtlnkdphecinnnaaQPC3
section
/- Rows of the call's own whose items are structs, and what is appended to them. -/
set_option linter.unusedVariables false
set_option linter.unusedSimpArgs false
namespace Go.Sh
open Go Go.RowKit
theorem add_add (a : Addr) (x y : Nat) : (a.add x).add y = a.add (x + y) := by
  unfold Addr.add
  by_cases hx : x = 0
  · subst hx; simp
  · by_cases hy : y = 0
    · subst hy; simp
    · simp [hx, hy]; try omega
theorem flatten_get {α : Type} {k : Nat} (hk : 0 < k) : ∀ (l : List (List α)), (∀ s ∈ l, s.length = k) → ∀ p, l.flatten[p]? = (l[p / k]?).bind (fun s => s[p % k]?) := by
  intro l
  induction l with
  | nil => intro _ p; simp
  | cons s l ih =>
    intro h p
    have hs : s.length = k := h s (by simp)
    rw [List.flatten_cons]
    by_cases hp : p < k
    · rw [List.getElem?_append_left (by omega), Nat.div_eq_of_lt hp, Nat.mod_eq_of_lt hp]
      rfl
    · rw [List.getElem?_append_right (by omega), hs, ih (fun t ht => h t (by simp [ht]))]
      have e1 : p / k = (p - k) / k + 1 := by
        have : p = (p - k) + k := by omega
        conv => lhs; rw [this]
        rw [Nat.add_div_right _ hk]
      have e2 : p % k = (p - k) % k := by
        have : p = (p - k) + k := by omega
        conv => lhs; rw [this]
        rw [Nat.add_mod_right]
      rw [e1, e2]
      rfl
def cellsK {α : Type} (f : α → List Value) (xs : List α) : List Value := (xs.map f).flatten
theorem cellsK_append {α : Type} (f : α → List Value) (xs ys : List α) : cellsK f (xs ++ ys) = cellsK f xs ++ cellsK f ys := by simp [cellsK]
theorem cellsK_len {α : Type} {k : Nat} {f : α → List Value} (hf : ∀ x, (f x).length = k) (xs : List α) : (cellsK f xs).length = xs.length * k := by
  unfold cellsK
  induction xs with
  | nil => simp
  | cons x xs ih => simp only [List.map_cons, List.flatten_cons, List.length_append, ih, hf, List.length_cons, Nat.succ_mul]; omega
theorem cellsK_get {α : Type} {k : Nat} {f : α → List Value} (hk : 0 < k) (hf : ∀ x, (f x).length = k) (xs : List α) (p : Nat) : (cellsK f xs)[p]? = (xs[p / k]?).bind (fun x => (f x)[p % k]?) := by
  unfold cellsK
  rw [flatten_get hk _ (fun s hs => by obtain ⟨x, _, rfl⟩ := List.mem_map.1 hs; exact hf x)]
  rw [List.getElem?_map]
  cases xs[p / k]? <;> rfl
theorem cellsK_at {α : Type} {k : Nat} {f : α → List Value} (hk : 0 < k) (hf : ∀ x, (f x).length = k) {xs : List α} {j i : Nat} {x : α} {u : Value} (hx : xs[j]? = some x) (hu : (f x)[i]? = some u) : (cellsK f xs)[j * k + i]? = some u := by
  have hi : i < k := by
    have := (List.getElem?_eq_some_iff.1 hu).1
    rw [hf] at this; exact this
  rw [cellsK_get hk hf]
  have e1 : (j * k + i) / k = j := by rw [Nat.add_comm, Nat.add_mul_div_right _ _ hk, Nat.div_eq_of_lt hi, Nat.zero_add]
  have e2 : (j * k + i) % k = i := by rw [Nat.add_comm, Nat.add_mul_mod_self_right, Nat.mod_eq_of_lt hi]
  rw [e1, e2, hx]
  exact hu
/-- A row of the call's own. -/
def OwnK {α : Type} (k e : Nat) (f : α → List Value) (w : World) (base : Nat) (v : Value) (xs : List α) : Prop := w.ownsRow base e k v xs.length (cellsK f xs)
section
variable {α : Type} {k e : Nat} {f : α → List Value} {w w' : World} {base : Nat} {v : Value} {xs ys : List α}
theorem OwnK.rowK (hk : 0 < k) (hf : ∀ x, (f x).length = k) (h : OwnK k e f w base v xs) : RowK k f w v xs := by
  rcases id h.2 with ⟨rfl, h0⟩ | ⟨g, cap, cur, rfl, hg, hh, hm, hmx, hs, ht⟩
  · have : xs = [] := List.eq_nil_of_length_eq_zero h0
    subst this
    exact ⟨none, 0, rfl, Nat.le_refl _, by omega, fun h => absurd h (by simp)⟩
  · refine ⟨_, cap, rfl, hm, by simpa [maxLen] using hmx, fun _ => ⟨_, rfl, fun j x hx i u hu => ?_⟩⟩
    have hc := cellsK_at hk hf hx hu
    have hi : i < k := by
      have := (List.getElem?_eq_some_iff.1 hu).1
      rw [hf] at this; exact this
    have hj := (List.getElem?_eq_some_iff.1 hx).1
    have hlt : j * k + i < xs.length * k := by
      have := Nat.mul_le_mul_right k (Nat.succ_le_of_lt hj)
      rw [Nat.succ_mul] at this
      omega
    rw [← ht, List.getElem?_take, if_pos hlt] at hc
    rw [add_add, Go.Proofs.Ytlnkdphecinnnaa.add_plain, Nat.zero_add, cell_blk hh]
    simpa using hc
theorem RowK.cells (hk : 0 < k) (hf : ∀ x, (f x).length = k) (h : RowK k f w v xs) : ∃ a c, v = .slice a xs.length c ∧ (0 < xs.length → ∃ ad, a = some ad ∧ ∀ j u, (cellsK f xs)[j]? = some u → w.cell? (ad.add j) = some u) := by
  obtain ⟨a, c, rfl, h1, h2, h3⟩ := h
  refine ⟨a, c, rfl, fun h0 => ?_⟩
  obtain ⟨ad, rfl, hc⟩ := h3 h0
  refine ⟨ad, rfl, fun j u hu => ?_⟩
  rw [cellsK_get hk hf] at hu
  obtain ⟨x, hx, hu⟩ := Option.bind_eq_some_iff.1 hu
  have := hc _ _ hx _ _ hu
  rw [add_add] at this
  rw [show j = j / k * k + j % k by rw [Nat.mul_comm]; exact (Nat.div_add_mod j k).symm]
  exact this
theorem RowK.ofK (hk : 0 < k) (hf : ∀ x, (f x).length = k) {g : Nat} {T : TypeId} {fr : Nat × Nat} (hg : w.heap[g]? = some (.cells (cellsK f xs).toArray T fr)) {n : Nat} (hn : xs.length = n) (hmx : n ≤ 9223372036854775807) : RowK k f w (.slice (some ⟨g, 0, none⟩) n n) xs := by
  subst hn
  refine ⟨_, _, rfl, Nat.le_refl _, hmx, fun _ => ⟨_, rfl, fun j x hx i u hu => ?_⟩⟩
  have hc := cellsK_at hk hf hx hu
  rw [add_add, Go.Proofs.Ytlnkdphecinnnaa.add_plain, Nat.zero_add, cell_blk hg]
  simpa using hc
theorem X_appendK {P : Program} {t U : TypeId} {bytes : Nat} {z : Value} {K : Value → World → Prop} (ht : P.underlying t = some (.slice e)) (hE : El P e k z bytes) (hk : 0 < k) (hf : ∀ x, (f x).length = k) (h1 : ∀ x ∈ ys, ∀ u ∈ f x, u.oneCell' = true)
    (hown : OwnK k e f w base v xs) {y : Value} (hy : RowK k f w y ys) (hb : (xs.length + ys.length) * bytes ≤ 140737488355328) (hb0 : 0 < bytes) (hbase : base ≤ w.heap.size)
    (h : ∀ v' w1, OwnK k e f w1 base v' (xs ++ ys) → Keep (fun q => some q = v.ownBlock) w w1 → K v' w1) : X P (Builtin.append_ #[t, t] U #[v, y]) w K := by
  obtain ⟨a, c, rfl, h3⟩ := hy.cells hk hf
  have fin : ∀ v' w1, w1.ownsRow base e k v' (xs.length + ys.length) (cellsK f xs ++ cellsK f ys) → Keep (fun q => some q = v.ownBlock) w w1 → K v' w1 := fun v' w1 ho hk' => h v' w1 (by
    unfold OwnK
    rw [List.length_append, cellsK_append]
    exact ho) hk'
  have hone : ∀ u ∈ cellsK f ys, u.oneCell' = true := by
    intro u hu
    unfold cellsK at hu
    obtain ⟨s, hs, hu⟩ := List.mem_flatten.1 hu
    obtain ⟨x, hx, rfl⟩ := List.mem_map.1 hs
    exact h1 x hx u hu
  by_cases h0 : 0 < ys.length
  · obtain ⟨ad, rfl, hc⟩ := h3 h0
    exact X_append ht hE hk hown (news := cellsK f ys) (cellsK_len hf ys) hc hone hb hb0 hbase fin
  · have hnil : ys = [] := List.eq_nil_of_length_eq_zero (by omega)
    subst hnil
    have fin0 : K v w := by
      refine fin v w ?_ (Keep.refl _ _)
      have e : cellsK f ([] : List α) = [] := rfl
      rw [e, List.append_nil, List.length_nil, Nat.add_zero]
      exact hown
    cases a with
    | none => exact X_append_none ht hE hown fin0
    | some ad => exact X_append ht hE hk hown (news := []) (m := 0) (by simp) (by simp) (by simp) (by simpa using hb) hb0 hbase (fun v' w1 ho hk' => fin v' w1 (by
        have e : cellsK f ([] : List α) = [] := rfl
        rw [e]
        exact ho) hk')
theorem OwnK.keep {D : Nat → Prop} (h : OwnK k e f w base v xs) (kp : Keep D w w') (hd : ∀ g, v.ownBlock = some g → ¬ D g) : OwnK k e f w' base v xs := own_keepD h kp hd
theorem OwnK.ext (h : OwnK k e f w base v xs) (kp : Ext w w') : OwnK k e f w' base v xs := own_extD h kp
theorem ownK_nil (w : World) (base : Nat) : OwnK k e f w base (.slice none 0 0) ([] : List α) := World.ownsRow_nil w base e k
theorem ownK_empty (w : World) : OwnK k e f (newB w #[] e) w.heap.size (.slice (some ⟨w.heap.size, 0, none⟩) 0 0) ([] : List α) :=
  ⟨by simp [cellsK], .inr ⟨w.heap.size, 0, #[], rfl, Nat.le_refl _, newB_get _ _ _, Nat.le_refl _, by simp [maxLen], by simp, by simp [cellsK]⟩⟩
end
end Go.Sh
end
section
/- Keys: compared, and as keys of maps. -/
set_option linter.unusedVariables false
set_option linter.unusedSimpArgs false
namespace Go.Sh
open Go Go.RowKit
/-- A part that is an aggregate. -/
theorem part_agg {P : Program} {e : TypeId} {d : TypeDesc} (hu : P.underlying e = some d) (ha : aggB P e = true) (hi : infoB P e = true) (cs : Array Value) (i : Nat) (w : World) : (part e cs i).run P w = .ok (.agg (cs.extract i (i + szT P e))) w := by
  simp [part, isAgg_run' hu ha, sizeOf_run hi]
theorem mapM_all {β γ : Type} (g : β → Option γ) : ∀ (l : List β), (∀ x ∈ l, ∃ y, g x = some y) → ∃ r, l.mapM g = some r
  | [], _ => ⟨[], rfl⟩
  | a :: l, h => by
    obtain ⟨y, hy⟩ := h a (by simp)
    obtain ⟨r, hr⟩ := mapM_all g l (fun x hx => h x (by simp [hx]))
    exact ⟨y :: r, by rw [List.mapM_cons, hy]; simp [hr]⟩
/-- A map of the call's own: its entries, in their order. -/
def MapAt (w : World) (mb : Nat) (l : List (Value × Value)) : Prop := ∃ es clock, w.heap[mb]? = some (.map es clock) ∧ es.toList.map (fun e => (e.key, e.val)) = l
theorem MapAt.keep {D : Nat → Prop} {w w' : World} {mb : Nat} {l : List (Value × Value)} (h : MapAt w mb l) (k : Keep D w w') (hd : ¬ D mb) : MapAt w' mb l := by
  obtain ⟨es, c, h1, h2⟩ := h
  exact ⟨es, c, k.get hd h1, h2⟩
theorem MapAt.ext {w w' : World} {mb : Nat} {l : List (Value × Value)} (h : MapAt w mb l) (k : Ext w w') : MapAt w' mb l := h.keep k (fun h => h)
theorem MapAt.lt {w : World} {mb : Nat} {l : List (Value × Value)} (h : MapAt w mb l) : mb < w.heap.size := by
  obtain ⟨es, c, h1, h2⟩ := h
  exact lt_of_blk h1
def newM (w : World) : World := { w with heap := w.heap.push (.map #[] 0) }
theorem newM_ext (w : World) : Ext w (newM w) :=
  ⟨rfl, rfl, rfl, by show _ ≤ (w.heap.push _).size; rw [Array.size_push]; omega, fun i hi _ => by
    show (w.heap.push _)[i]? = _
    exact Array.getElem?_push_lt hi |>.trans (Array.getElem?_eq_getElem hi).symm⟩
theorem newM_at (w : World) : MapAt (newM w) w.heap.size [] := ⟨#[], 0, by show (w.heap.push _)[w.heap.size]? = _; exact Array.getElem?_push_size, rfl⟩
theorem X_makeMap {P : Program} {t k e : TypeId} (ht : P.underlying t = some (.map k e)) (n : Int) {w : World} {K : Value → World → Prop} (h : K (.map (some w.heap.size)) (newM w)) : X P (Instr.makeMap t (some (.int .i64 n))) w K := by
  have hr : (Instr.makeMap t (some (.int .i64 n))).run P w = .ok (.map (some w.heap.size)) (newM w) := by
    simp [Instr.makeMap, run_underlying ht, asInt, run_newObj]
    rfl
  exact X_of hr h
theorem X_makeMap0 {P : Program} {t : TypeId} {w : World} {K : Value → World → Prop} (h : K (.map (some w.heap.size)) (newM w)) : X P (Instr.makeMap t none) w K := by
  have hr : (Instr.makeMap t none).run P w = .ok (.map (some w.heap.size)) (newM w) := by
    simp [Instr.makeMap, run_newObj]
    rfl
  exact X_of hr h
section
variable {P : Program} {t k e : TypeId} {w : World} {mb : Nat} {l : List (Value × Value)}
/-- A key is looked up: it is not there, or the entry is the first of that key. -/
theorem run_lookupM (K : Maps.Keyed P k) (ht : P.underlying t = some (.map k e)) {z : Value} (hz : zeroT P e = some z) (hm : MapAt w mb l) (hl : ∀ p ∈ l, ∃ x, keyOf P k p.1 = some x) {key : Value} {kl : Lit} (hkey : keyOf P k key = some kl) (c : Bool) :
    ((∀ p ∈ l, p.1 ≠ key) ∧ (Instr.lookup t (.map (some mb)) key c).run P w = .ok (if c then .tuple #[z, .bool false] else z) w) ∨
    ∃ p ∈ l, p.1 = key ∧ (Instr.lookup t (.map (some mb)) key c).run P w = .ok (if c then .tuple #[p.2, .bool true] else p.2) w := by
  obtain ⟨es, clock, hb, rfl⟩ := hm
  have hes : ∀ x ∈ es.toList, ∃ y, keyOf P k x.key = some y := fun x hx => hl (x.key, x.val) (List.mem_map.2 ⟨x, hx, rfl⟩)
  rcases K.find w hkey es.toList hes with ⟨h1, h2⟩ | ⟨j, e0, h1, h2, h3⟩
  · refine .inl ⟨fun p hp => ?_, ?_⟩
    · obtain ⟨x, hx, rfl⟩ := List.mem_map.1 hp
      exact h2 x hx
    · cases c <;> simp [Instr.lookup, run_underlying ht, MapKept.run_getObj_map hb, K.check w _ hkey, h1, zeroValue_run hz, Result.andThen]
  · refine .inr ⟨(e0.key, e0.val), List.mem_map.2 ⟨e0, List.mem_of_getElem? h2, rfl⟩, h3, ?_⟩
    cases c <;> simp [Instr.lookup, run_underlying ht, MapKept.run_getObj_map hb, K.check w _ hkey, h1, Result.andThen]
/-- A new key is laid. -/
theorem XU_updateNew (K : Maps.Keyed P k) (ht : P.underlying t = some (.map k e)) (hm : MapAt w mb l) (hl : ∀ p ∈ l, ∃ x, keyOf P k p.1 = some x) {key v : Value} {kl : Lit} (hkey : keyOf P k key = some kl) (hnew : ∀ p ∈ l, p.1 ≠ key) {Q : World → Prop}
    (h : ∀ w1, MapAt w1 mb (l ++ [(key, v)]) → Keep (· = mb) w w1 → Q w1) : XU P (Instr.mapUpdate t (.map (some mb)) key v) w Q := by
  obtain ⟨es, clock, hb, rfl⟩ := hm
  have hes : ∀ x ∈ es.toList, ∃ y, keyOf P k x.key = some y := fun x hx => hl (x.key, x.val) (List.mem_map.2 ⟨x, hx, rfl⟩)
  rcases K.find w hkey es.toList hes with ⟨h1, h2⟩ | ⟨j, e0, h1, h2, h3⟩
  · have hr : (Instr.mapUpdate t (.map (some mb)) key v).run P w = .ok () { w with heap := w.heap.setIfInBounds mb (.map (es.push { key, val := v, born := clock }) (clock + 1)) } := by
      simp [Instr.mapUpdate, run_underlying ht, MapKept.run_getObj_map hb, K.check w _ hkey, h1, Result.andThen, MapKept.run_setObj_map _ hb]
    unfold XU
    rw [hr]
    have hlt := lt_of_blk hb
    refine h _ ⟨_, _, by show (w.heap.setIfInBounds mb _)[mb]? = _; simp [hlt]; exact ⟨rfl, rfl⟩, by simp⟩ ⟨rfl, rfl, rfl, by show _ ≤ (w.heap.setIfInBounds mb _).size; simp, fun i _ hi => by show (w.heap.setIfInBounds mb _)[i]? = _; rw [Array.getElem?_setIfInBounds_ne (Ne.symm hi)]⟩
  · exact absurd h3 (hnew (e0.key, e0.val) (List.mem_map.2 ⟨e0, List.mem_of_getElem? h2, rfl⟩))
end
theorem eqFields_two {P : Program} {d : Nat} {xs ys : Array Value} {f0 f1 : Field} {w : World} {x0 y0 x1 y1 : Value} {r0 r1 : Bool} (n0 : f0.name ≠ "_") (n1 : f1.name ≠ "_")
    (hx0 : (part f0.type xs f0.offset).run P w = .ok x0 w) (hy0 : (part f0.type ys f0.offset).run P w = .ok y0 w) (hx1 : (part f1.type xs f1.offset).run P w = .ok x1 w) (hy1 : (part f1.type ys f1.offset).run P w = .ok y1 w)
    (q0 : (Op.equalIn d f0.type x0 y0).run P w = .ok r0 w) (q1 : (Op.equalIn d f1.type x1 y1).run P w = .ok r1 w) : (Op.eqFields d xs ys [f0, f1]).run P w = .ok (r0 && r1) w := by
  cases r0 <;> cases r1 <;> simp [Op.eqFields, n0, n1, hx0, hy0, hx1, hy1, q0, q1]
end Go.Sh
end
section
/- More words that laws share. -/
namespace Go.Sh
open Go
theorem gs_u (b : Bool) (S : World → (Value → World → Prop) → Prop) (w : World) (K : Value → World → Prop) : gstep undef b S w K = K undef w := (And.intro rfl trivial : _ ∧ True).1
end Go.Sh
end
section
/- From a call's contract to a law's row: the last two facts. -/
namespace Go.Proofs.Ytlnkdphecinnnaa
open Go Go.Sh
theorem CALL_calls {P : Program} {f : FuncId} {args : Array Value} {w : World} {K : Value → World → Prop} (h : CALL P f args w K) :
    Calls P f args w (fun | .returned v, w' => K v w' | _, _ => False) := h.2
theorem laidOut : laidOutB Try.prog = true := by kernel_rfl
end Go.Proofs.Ytlnkdphecinnnaa
end
section
/- Keys and pieces. -/
set_option linter.unusedVariables false
set_option linter.unusedSimpArgs false
namespace Go.Proofs.Ytlnkdphecinnnaa
open Go Go.Sh Go.RowKit Go.ChangeShapes Go.WideShapes Go.ChangeAt
attribute [local irreducible] X XU XP XR CALL loopS resC closS Value.okWide
structure Ky where
  sum : List UInt8
  num : Nat
  len : sum.length = 32
  lt : num < 4294967296
theorem Ky.ext' {a b : Ky} (h1 : a.sum = b.sum) (h2 : a.num = b.num) : a = b := by
  cases a; cases b; simp at h1 h2; subst h1; subst h2; rfl
instance : DecidableEq Ky := fun a b => if h1 : a.sum = b.sum then if h2 : a.num = b.num then isTrue (Ky.ext' h1 h2) else isFalse (fun h => h2 (by rw [h])) else isFalse (fun h => h1 (by rw [h]))
def Ky.cs (k : Ky) : List Value := B8 k.sum ++ [.int .u32 (k.num : Int)]
abbrev Ky.v (k : Ky) : Value := .agg k.cs.toArray
theorem Ky.cs_len (k : Ky) : k.cs.length = 33 := by simp [Ky.cs, k.len]
theorem Ky.one (k : Ky) : ∀ x ∈ k.cs, x.oneCell' = true := by
  intro x hx
  rcases List.mem_append.1 hx with h | h
  · exact B8_one x h
  · rw [List.mem_singleton.1 h]; rfl
theorem Ky.v_inj {a b : Ky} (h : a.v = b.v) : a = b := by
  have h1 : a.cs = b.cs := by
    injection h with h
    exact congrArg Array.toList h
  unfold Ky.cs at h1
  obtain ⟨h2, h3⟩ := List.append_inj h1 (by simp [a.len, b.len])
  refine Ky.ext' (B8_inj h2) ?_
  injection h3 with h3 _
  injection h3 with _ h3
  omega
def nilKy : Ky := ⟨List.replicate 32 0, 0, List.length_replicate, by decide⟩
theorem Ky.cs_take (k : Ky) : k.cs.take 32 = B8 k.sum := by
  unfold Ky.cs
  rw [List.take_append_of_le_length (by simp [k.len]), List.take_of_length_le (by simp [k.len])]
theorem Ky.cs_num (k : Ky) : k.cs.toArray[32]? = some (.int .u32 (k.num : Int)) := by
  have hl : (B8 k.sum).length = 32 := by simp [k.len]
  show (B8 k.sum ++ [Value.int .u32 (k.num : Int)]).toArray[32]? = _
  rw [List.getElem?_toArray, List.getElem?_append_right (by omega), hl]
  rfl
theorem fields44 : (Try.prog.fieldsOf 44).toList = [{ name := "Sum", type := 41, offset := 0, embedded := false, tag := "", pkgPath := "", byteOffset := 0 }, { name := "N", type := 42, offset := 32, embedded := false, tag := "", pkgPath := "", byteOffset := 32 }] := by kernel_rfl
theorem struct44 : Try.prog.underlying 44 = some (.struct (Try.prog.fieldsOf 44)) := by kernel_rfl
theorem held44 : Try.prog.stoodInHeld 44 = false := by kernel_rfl
theorem guard44 : Try.prog.eqGuardType Try.prog.depth 44 = false := by kernel_rfl
theorem inf5 : Try.prog.info? 5 = some Try.t5 := by kernel_rfl
theorem cel5 : Try.prog.cellsOf 5 = 1 := by kernel_rfl
theorem cel42 : Try.prog.cellsOf 42 = 1 := by kernel_rfl
theorem cel79 : Try.prog.cellsOf 79 = 1 := by kernel_rfl
theorem cel41 : Try.prog.cellsOf 41 = 32 := by kernel_rfl
theorem cel44 : Try.prog.cellsOf 44 = 33 := by kernel_rfl
theorem sum_equal (x y : List UInt8) (hx : x.length = 32) (hy : y.length = 32) (w : World) : (Op.equalIn 9999 41 (.agg (B8 x).toArray) (.agg (B8 y).toArray)).run Try.prog w = .ok (decide (x = y)) w := by
  rw [show (9999 : Nat) = 9998 + 1 from rfl, run_equalIn_array w 9998 _ _ Try.underlying41 inf5, cel5, List.range_eq_range']
  have := eqItems_bytes (P := Try.prog) 9997 Try.underlying5 agg_5 x y (by rw [hx, hy]) w 32 0 (by rw [hx])
  simpa using this
theorem part_sum (k : Ky) (w : World) : (part 41 k.cs.toArray 0).run Try.prog w = .ok (.agg (B8 k.sum).toArray) w := by
  rw [part_agg Try.underlying41 agg_41 info_41, sz_41]
  have : k.cs.toArray.extract 0 (0 + 32) = (B8 k.sum).toArray := by
    apply Array.ext'
    simp [Ky.cs_take]
  rw [this]
theorem part_num (k : Ky) (w : World) : (part 42 k.cs.toArray 32).run Try.prog w = .ok (.int .u32 (k.num : Int)) w := part_cell agg_42 k.cs_num w
theorem num_equal (a b : Ky) (w : World) : (Op.equalIn 9999 42 (.int .u32 (a.num : Int)) (.int .u32 (b.num : Int))).run Try.prog w = .ok (decide (a.num = b.num)) w := by
  have bz : ((a.num : Int) == (b.num : Int)) = decide (a.num = b.num) := by
    rw [Bool.eq_iff_iff]; simp; omega
  have := run_equalIn_int (P := Try.prog) w 9998 42 .u32 .u32 (a.num : Int) (b.num : Int) Try.underlying42
  rw [bz] at this
  exact this
theorem ky_dec (a b : Ky) : decide (a = b) = (decide (a.sum = b.sum) && decide (a.num = b.num)) := by
  rw [← Bool.decide_and]
  exact decide_eq_decide.2 ⟨fun h => by rw [h]; exact ⟨rfl, rfl⟩, fun h => Ky.ext' h.1 h.2⟩
theorem ke1 (a b : Ky) (w : World) : (Op.equalIn (9999 + 1) 44 a.v b.v).run Try.prog w = (Op.eqFields 9999 a.cs.toArray b.cs.toArray (Try.prog.fieldsOf 44).toList).run Try.prog w := run_equalIn_struct w 9999 44 _ _ struct44 held44
theorem ke2 (a b : Ky) (w : World) : (Op.equalIn 10000 44 a.v b.v).run Try.prog w = (Op.eqFields 9999 a.cs.toArray b.cs.toArray (Try.prog.fieldsOf 44).toList).run Try.prog w := ke1 a b w
theorem key_equal (a b : Ky) (w : World) : (Op.equalIn 10000 44 a.v b.v).run Try.prog w = .ok (decide (a = b)) w := by
  rw [ke2, fields44, ky_dec]
  exact eqFields_two (by decide) (by decide) (part_sum a w) (part_sum b w) (part_num a w) (part_num b w) (sum_equal a.sum b.sum a.len b.len w) (num_equal a b w)
theorem run_key_neq (a b : Ky) (o1 o2 : Operand) (w : World) : (binOpG .neq 44 o1 o2 a.v b.v).run Try.prog w = .ok (.bool (decide (a ≠ b))) w := by
  rw [agg_neq guard44 o1 o2 (key_equal a b w)]
  simp
theorem run_key_eql (a b : Ky) (o1 o2 : Operand) (w : World) : (binOpG .eql 44 o1 o2 a.v b.v).run Try.prog w = .ok (.bool (decide (a = b))) w := agg_eql guard44 o1 o2 (key_equal a b w)
theorem size44 : 44 < Try.prog.types.size := Nat.lt_of_lt_of_le (Nat.lt_succ_self 44) (Nat.le_of_ble_eq_true (by kernel_rfl))
theorem keyAt44 : Try.prog.keyTypeAt 5 44 = true := by kernel_rfl
theorem keyTy44 : Try.prog.keyType 44 = true := by kernel_rfl
theorem keyed44 : Maps.Keyed Try.prog 44 := Maps.Keyed.of_law (deep_law_laid laidOut (m := 5) (Nat.le_of_ble_eq_true rfl) size44 keyAt44 (by rw [Try.underlying44]))
theorem keyOf_ky (k : Ky) : ∃ l, keyOf Try.prog 44 k.v = some l := by
  have hkt := keyTy44
  have hfm : k.v.formed Try.prog 44 = true := by
    unfold Value.formed
    rw [Try.underlying44]
    show decide (k.cs.toArray.size = Try.prog.cellsOf 44) = true
    rw [cel44]
    simp [k.cs_len]
  unfold keyOf
  rw [Try.underlying44]
  simp only [hkt, hfm, Bool.and_self, if_true]
  have hk : ∃ ls, Try.prog.keyLits (Try.prog.types.size + 1) 44 k.v.cells.toList = some ls := by
    obtain ⟨n, hn⟩ : ∃ n, Try.prog.types.size + 1 = n + 3 := ⟨Try.prog.types.size - 2, by
      have h2 : 2 ≤ Try.prog.types.size := Nat.le_of_ble_eq_true (by kernel_rfl)
      omega⟩
    rw [hn]
    have hsum : ∃ ls, Try.prog.keyLits (n + 2) 41 (B8 k.sum) = some ls := by
      unfold Program.keyLits
      rw [Try.underlying41]
      simp only [cel41, cel5, B8_length, k.len, if_true]
      obtain ⟨r, hr⟩ := mapM_all (fun i => Try.prog.keyLits (n + 1) 5 ((List.drop (i * 1) (B8 k.sum)).take 1)) (List.range 32) (fun i hi => by
        have hi' : i < 32 := List.mem_range.1 hi
        have hd : (List.drop (i * 1) (B8 k.sum)).take 1 = [.int .u8 ((k.sum[i]'(by rw [k.len]; exact hi')).toNat : Int)] := by
          have hl : i < (B8 k.sum).length := by simp [k.len]; exact hi'
          rw [Nat.mul_one, List.drop_eq_getElem_cons hl]
          simp [B8]
        rw [hd]
        unfold Program.keyLits
        rw [Try.underlying5]
        refine ⟨_, if_pos ⟨rfl, ?_⟩⟩
        have := (k.sum[i]'(by rw [k.len]; exact hi')).toNat_lt
        simp [Lit.wf, IntKind.min, IntKind.max, IntKind.signed, IntKind.bits]
        omega)
      rw [hr]
      exact ⟨_, rfl⟩
    obtain ⟨l1, h1⟩ := hsum
    have hnum : Try.prog.keyLits (n + 2) 42 [.int .u32 (k.num : Int)] = some [.int .u32 (k.num : Int)] := by
      unfold Program.keyLits
      rw [Try.underlying42]
      refine if_pos ⟨rfl, ?_⟩
      have := k.lt
      simp [Lit.wf, IntKind.min, IntKind.max, IntKind.signed, IntKind.bits]
      omega
    have ecs : k.v.cells.toList = k.cs := rfl
    rw [ecs]
    unfold Program.keyLits
    rw [Try.underlying44]
    have e1 : (k.cs.drop 0).take 32 = B8 k.sum := by rw [List.drop_zero]; exact k.cs_take
    have e2 : (k.cs.drop 32).take 1 = [.int .u32 (k.num : Int)] := by
      unfold Ky.cs
      rw [List.drop_append_of_le_length (by simp [k.len]), List.drop_eq_nil_of_le (by simp [k.len])]
      rfl
    simp only [cel44, k.cs_len]
    have e1' : List.take 32 k.cs = B8 k.sum := k.cs_take
    simp [cel41, cel42, e1', e2, h1, hnum]
  obtain ⟨ls, hls⟩ := hk
  rw [hls]
  exact ⟨_, rfl⟩
end Go.Proofs.Ytlnkdphecinnnaa
end
section
/- A literal of one struct; a struct of two parts. -/
set_option linter.unusedVariables false
set_option linter.unusedSimpArgs false
namespace Go.Sh
open Go Go.RowKit
/-- A loop that is left by one exit, or by a return. -/
theorem loopGR {B : (Exit → Env → World → Prop) → Env → World → Prop} {Q : Exit → Env → World → Prop} {ρ : Env} {w : World} (id : Nat) (I : Env → World → Prop) (μ : Env → World → Nat) (E R : Env → World → Prop) (h0 : I ρ w)
    (h : ∀ J : Exit → Env → World → Prop, (∀ ρ w, E ρ w → J (.exit id) ρ w) → (∀ ρ w, R ρ w → J .ret ρ w) → ∀ ρ w, I ρ w → B (thenS (fun ρ' w' => I ρ' w' ∧ μ ρ' w' < μ ρ w) J) ρ w) (hE : ∀ ρ w, E ρ w → Q (.exit id) ρ w) (hR : ∀ ρ w, R ρ w → Q .ret ρ w) : loopS B Q ρ w :=
  ⟨I, μ, h0, h Q hE hR⟩
theorem closS_of {P : Program} {f : FuncId} {first captured args : Array Value} {w : World} {K : Value → World → Prop} (h : CALL P f (first ++ args ++ captured) w K) : closS P (.func (.func f) first captured) args w K := h
theorem X_buildSliceK {P : Program} {w : World} {K : Value → World → Prop} {T e k bytes : Nat} {z : Value} (hT : P.underlying T = some (.slice e)) (hE : El P e k z bytes) (hk : 0 < k) (hk2 : k ≤ 16777216) {cs : List Value} (hc : cs.length = k)
    (h : K (.slice (some ⟨w.heap.size, 0, none⟩) 1 1) (newB w cs.toArray e)) : X P (Instr.buildSlice T 1 #[(0, .agg cs.toArray)]) w K := by
  obtain ⟨⟨i, hi, hs, hz, _⟩, hzc⟩ := hE
  refine X_of (v := .slice (some ⟨w.heap.size, 0, none⟩) 1 1) (w1 := newB w cs.toArray e) ?_ h
  have h1 : ¬ (1 * k > 2 ^ 24) := by omega
  have h2 : ¬ (1 * k = 0) := by omega
  have hf : ∀ cells : Array Value, cells.size = k → Instr.fill (fun i => some (i * k, k)) cells [(0, .agg cs.toArray)] = some cs.toArray := by
    intro cells hcs
    have := Great.fill_whole hk [Value.agg cs.toArray] cells (by intro v hv; rw [List.mem_singleton.1 hv]; simpa [Value.cells] using hc) (by rw [List.length_singleton, Nat.one_mul, hcs])
    simpa [Value.cells] using this
  have hf' := hf ((Array.range (1 * k)).map fun x => (z.cells)[x % z.cells.size]!) (by simp)
  have q1 : infoB P e = true := by unfold infoB; rw [hi]; rfl
  have q2 : szT P e = k := by unfold szT; rw [hi]; exact hs
  have q3 : zeroT P e = some z := by unfold zeroT; rw [hi]; exact hz
  simp only [Instr.buildSlice, Sem.run_bind, run_underlying hT, Result.andThen_ok, sizeOf_run q1, q2, if_neg h1, if_neg h2, zeroValue_run q3, Sem.run_pure, hf', newRow, run_newObj]
  rfl
theorem fill_app {place : Nat → Option (Nat × Nat)} {i off a : Nat} (hp : place i = some (off, a)) {v : Value} (hv : v.cells.size = a) {cells : Array Value} (hle : off + a ≤ cells.size) (rest : List (Nat × Value)) :
    Instr.fill place cells ((i, v) :: rest) = Instr.fill place (cells.toList.take off ++ v.cells.toList ++ cells.toList.drop (off + a)).toArray rest := by
  rw [Instr.fill, hp]
  simp only [hv]
  rw [if_neg (by simp; omega)]
  congr 1
  apply Array.ext_getElem?
  intro k
  obtain ⟨g1, g2⟩ := Great.foldl_set off v.cells.toList 0 cells
  have e : (v.cells.zipIdx.foldl (fun cs (x : Value × Nat) => cs.setIfInBounds (off + x.2) x.1) cells) = ((v.cells.toList.zipIdx 0).foldl (fun cs (x : Value × Nat) => cs.setIfInBounds (off + x.2) x.1) cells) := by
    rw [← Array.foldl_toList]
    simp
  have g := g2 k
  rw [← e] at g
  refine Eq.trans g ?_
  have hvl : v.cells.toList.length = a := by simpa using hv
  refine Eq.trans ?_ (List.getElem?_toArray).symm
  rw [List.append_assoc]
  have htl : (cells.toList.take off).length = off := by rw [List.length_take]; simp; omega
  by_cases h1 : k < off
  · rw [if_neg (by omega), List.getElem?_append_left (by omega), List.getElem?_take, if_pos h1]
    simp
  · by_cases h2 : k < off + a
    · rw [if_pos (by rw [hvl]; omega), List.getElem?_append_right (by omega), htl, List.getElem?_append_left (by omega), Nat.add_zero]
    · rw [if_neg (by rw [hvl]; omega), List.getElem?_append_right (by omega), htl, List.getElem?_append_right (by omega), hvl, List.getElem?_drop]
      rw [show off + a + (k - off - a) = k by omega]
      simp
theorem run_build2 {P : Program} {t : TypeId} {f0 f1 : Field} {a b : Nat} {z : List Value} (ht : P.underlying t = some (.struct #[f0, f1])) (hz : zeroT P t = some (.agg z.toArray)) (o0 : f0.offset = 0) (o1 : f1.offset = a) (s0 : szT P f0.type = a) (s1 : szT P f1.type = b) (i0 : infoB P f0.type = true) (i1 : infoB P f1.type = true)
    {parts : Array (Nat × Value)} {cells : Array Value} (hf : Instr.fill (fun i => (#[(0, a), (a, b)] : Array (Nat × Nat))[i]?) z.toArray parts.toList = some cells) (w : World) : (Instr.build t parts).run P w = .ok (.agg cells) w := by
  have hm : ((#[f0, f1] : Array Field).mapM fun f => do pure (f.offset, ← sizeOf f.type) : Sem (Array (Nat × Nat))).run P w = .ok #[(0, a), (a, b)] w := by
    rw [Array.mapM_eq_mapM_toList]
    simp [sizeOf_run i0, sizeOf_run i1, s0, s1, o0, o1, List.mapM_cons, List.mapM_nil]
  simp only [Instr.build, Sem.run_bind, zeroValue_run hz, Result.andThen_ok, run_underlying ht, hm]
  have hc : (Value.agg z.toArray).cells = z.toArray := rfl
  rw [hc, hf]
  rfl
theorem fill_both {a b : Nat} {v0 v1 : Value} (h0 : v0.cells.size = a) (h1 : v1.cells.size = b) {z : List Value} (hz : z.length = a + b) :
    Instr.fill (fun i => (#[(0, a), (a, b)] : Array (Nat × Nat))[i]?) z.toArray [(0, v0), (1, v1)] = some (v0.cells.toList ++ v1.cells.toList).toArray := by
  have l0 : v0.cells.toList.length = a := by simpa using h0
  rw [fill_app (a := a) (off := 0) rfl h0 (by simp; omega), fill_app (a := b) (off := a) rfl h1 (by simp; omega)]
  unfold Instr.fill
  congr 2
  simp only [List.take_zero, List.nil_append, Nat.zero_add]
  rw [List.take_append_of_le_length (by simp; omega), List.take_of_length_le (by simp; omega), List.drop_eq_nil_of_le (by simp; omega), List.append_nil]
theorem fill_left {a b : Nat} {v0 : Value} (h0 : v0.cells.size = a) {z : List Value} (hz : z.length = a + b) :
    Instr.fill (fun i => (#[(0, a), (a, b)] : Array (Nat × Nat))[i]?) z.toArray [(0, v0)] = some (v0.cells.toList ++ z.drop a).toArray := by
  rw [fill_app (a := a) (off := 0) rfl h0 (by simp; omega)]
  unfold Instr.fill
  congr 2
  simp
theorem fill_right {a b : Nat} {v1 : Value} (h1 : v1.cells.size = b) {z : List Value} (hz : z.length = a + b) :
    Instr.fill (fun i => (#[(0, a), (a, b)] : Array (Nat × Nat))[i]?) z.toArray [(1, v1)] = some (z.take a ++ v1.cells.toList).toArray := by
  rw [fill_app (a := b) (off := a) rfl h1 (by simp; omega)]
  unfold Instr.fill
  congr 2
  simp only [List.toList_toArray]
  rw [List.drop_eq_nil_of_le (by omega), List.append_nil]
end Go.Sh
end
section
set_option linter.unusedVariables false
namespace Go.Proofs.Ytlnkdphecinnnaa
open Go Go.Sh
attribute [local irreducible] X XU XP XR CALL loopS resC closS
/-- cellarage/cellarageref16.Same -/
def B_ref16_Same (x0 x1 : Value) (w : World) (K : Value → World → Prop) : Prop :=
  X Try.prog (Builtin.len_ #[59] 3 #[x0]) w fun v1_7 w1 =>
  X Try.prog (Builtin.len_ #[59] 3 #[x1]) w1 fun v2_9 w2 =>
  X Try.prog (binOpG .neq 3 (.tmp 7) (.tmp 9) v1_7 v2_9) w2 fun v3_10 w3 =>
  condS v3_10 (
  K (.bool false) w3) (
  loopS (fun Q1 ρ1 w4 =>
  X Try.prog (Builtin.len_ #[59] 3 #[(ρ1 0)]) w4 fun v4_13 w5 =>
  X Try.prog (binOp .lss 3 (ρ1 5) v4_13) w5 fun v5_14 w6 =>
  condS v5_14 (
  ∃ R, Frame? R ∧
  XP Try.prog (Instr.indexAt 59 (ρ1 0) (ρ1 5)) (drewW w6) fun v6_19 w7 =>
  XR Try.prog R (Instr.loadAt 72 v6_19) w7 fun v7_20 w8 =>
  XP Try.prog (Instr.indexAt 59 (ρ1 1) (ρ1 5)) w8 fun v8_23 w9 =>
  XR Try.prog R (Instr.loadAt 72 v8_23) w9 fun v9_24 w10 =>
  XP Try.prog (binOpG .neq 72 (.tmp 20) (.tmp 24) v7_20 v9_24) w10 fun v10_25 w11 =>
  condS v10_25 (
  Q1 .ret (upds ρ1 [(4, (.bool false)), (25, v10_25), (24, v9_24), (23, v8_23), (22, (ρ1 5)), (21, (ρ1 1)), (20, v7_20), (19, v6_19), (18, (ρ1 5)), (17, (ρ1 0)), (14, v5_14), (13, v4_13), (12, (ρ1 0)), (11, (ρ1 5))]) w11) (
  X Try.prog (binOp .add 3 (ρ1 5) (.int .i64 1)) w11 fun v11_16 w12 =>
  Q1 .normal (upds ρ1 [(5, v11_16), (16, v11_16), (15, (ρ1 5)), (25, v10_25), (24, v9_24), (23, v8_23), (22, (ρ1 5)), (21, (ρ1 1)), (20, v7_20), (19, v6_19), (18, (ρ1 5)), (17, (ρ1 0)), (14, v5_14), (13, v4_13), (12, (ρ1 0)), (11, (ρ1 5))]) w12)) (
  Q1 (.exit 0) (upds ρ1 [(14, v5_14), (13, v4_13), (12, (ρ1 0)), (11, (ρ1 5))]) w6)) (inBlockS 0 (thenS (fun ρ2 w13 =>
  K (.bool true) w13) (retS Try.prog (Try.f29).results K))) (upds (env0 #[x0, x1]) [(5, (.int .i64 0)), (10, v3_10), (9, v2_9), (8, x1), (7, v1_7), (6, x0), (4, (.bool false))]) w3)

theorem eq_ref16_Same (x0 x1 : Value) (w : World) (K : Value → World → Prop) :
    sh Try.prog (Try.f29.body.getD .skip) (retS Try.prog Try.f29.results K) (env0 #[x0, x1]) w = B_ref16_Same x0 x1 w K := by kernel_rfl

theorem call_ref16_Same (x0 x1 : Value) (w : World) (K : Value → World → Prop) (h : B_ref16_Same x0 x1 w K) : CALL Try.prog 29 #[x0, x1] w K :=
  call_of_eq (c := Try.f29.body.getD .skip) mixed Try.func29 (by kernel_rfl) (by kernel_rfl) (by kernel_rfl) (Nat.le_of_ble_eq_true (by kernel_rfl)) (eq_ref16_Same x0 x1 w K) h

/-- cellarage/extent.Slice -/
def B_extent_Slice (x0 x1 x2 : Value) (w : World) (K : Value → World → Prop) : Prop :=
  X Try.prog (binOp .leq 3 x2 (.int .i64 0)) w fun v1_11 w1 =>
  gstep v1_11 false (fun w2 K => K x0 w2) w1 fun v2_13 w3 =>
  gstep v1_11 false (fun w4 K => CALL Try.prog 35 #[v2_13] w4 K) w3 fun v3_14 w5 =>
  gstep v1_11 false (fun w6 K => X Try.prog (Op.unary .not v3_14) w6 K) w5 fun v4_15 w7 =>
  X Try.prog (pickS v1_11 (.bool true) v4_15) w7 fun v5_16 w8 =>
  condS v5_16 (
  K (.slice none 0 0) w8) (
  joinS (fun ρ1 w9 =>
  X Try.prog (Builtin.len_ #[59] 3 #[(ρ1 0)]) w9 fun v6_23 w10 =>
  loopS (fun Q2 ρ2 w11 =>
  X Try.prog (binOp .lss 3 (ρ2 24) (ρ2 23)) w11 fun v7_25 w12 =>
  condS v7_25 (
  joinS (fun ρ3 w13 =>
  X Try.prog (binOp .add 3 (ρ3 24) (.int .i64 1)) w13 fun v8_58 w14 =>
  Q2 .normal (upds ρ3 [(24, v8_58), (58, v8_58)]) w14) fun J3 =>
  X Try.prog (Instr.indexAt 59 (ρ2 22) (ρ2 24)) w12 fun v9_26 w15 =>
  X Try.prog (Instr.loadAt 72 v9_26) w15 fun v10_27 w16 =>
  X Try.prog (Instr.alloc 72 true (.tuple #[])) w16 fun v11_9 w17 =>
  XU Try.prog (Instr.storeAt 72 v11_9 v10_27) w17 fun w18 =>
  X Try.prog (binOp .leq 3 (ρ2 2) (.int .i64 0)) w18 fun v12_29 w19 =>
  condS v12_29 (
  Q2 (.exit 0) (upds ρ2 [(29, v12_29), (28, (ρ2 2)), (9, v11_9), (27, v10_27), (26, v9_26), (25, v7_25)]) w19) (
  X Try.prog (Instr.fieldAt 72 v11_9 2) w19 fun v13_31 w20 =>
  X Try.prog (Instr.loadAt 3 v13_31) w20 fun v14_32 w21 =>
  X Try.prog (binOp .geq 3 (ρ2 1) v14_32) w21 fun v15_33 w22 =>
  condS v15_33 (
  X Try.prog (Instr.fieldAt 72 v11_9 2) w22 fun v16_35 w23 =>
  X Try.prog (Instr.loadAt 3 v16_35) w23 fun v17_36 w24 =>
  X Try.prog (binOp .sub 3 (ρ2 1) v17_36) w24 fun v18_37 w25 =>
  J3 (upds ρ2 [(1, v18_37), (37, v18_37), (36, v17_36), (35, v16_35), (34, (ρ2 1)), (33, v15_33), (32, v14_32), (31, v13_31), (30, (ρ2 1)), (29, v12_29), (28, (ρ2 2)), (9, v11_9), (27, v10_27), (26, v9_26), (25, v7_25)]) w25) (
  X Try.prog (Instr.fieldAt 72 v11_9 1) w22 fun v19_38 w26 =>
  X Try.prog (Instr.loadAt 3 v19_38) w26 fun v20_39 w27 =>
  X Try.prog (binOp .add 3 v20_39 (ρ2 1)) w27 fun v21_41 w28 =>
  X Try.prog (Instr.fieldAt 72 v11_9 1) w28 fun v22_42 w29 =>
  XU Try.prog (Instr.storeAt 3 v22_42 v21_41) w29 fun w30 =>
  X Try.prog (Instr.fieldAt 72 v11_9 2) w30 fun v23_43 w31 =>
  X Try.prog (Instr.loadAt 3 v23_43) w31 fun v24_44 w32 =>
  X Try.prog (binOp .sub 3 v24_44 (ρ2 1)) w32 fun v25_46 w33 =>
  X Try.prog (Builtin.min_ #[3, 3] 3 #[v25_46, (ρ2 2)]) w33 fun v26_48 w34 =>
  X Try.prog (Instr.fieldAt 72 v11_9 2) w34 fun v27_49 w35 =>
  XU Try.prog (Instr.storeAt 3 v27_49 v26_48) w35 fun w36 =>
  ∃ R, Frame? R ∧
  XP Try.prog (Instr.fieldAt 72 v11_9 2) (drewW w36) fun v28_51 w37 =>
  XR Try.prog R (Instr.loadAt 3 v28_51) w37 fun v29_52 w38 =>
  XP Try.prog (binOp .sub 3 (ρ2 2) v29_52) w38 fun v30_53 w39 =>
  X Try.prog (Instr.loadAt 72 v11_9) w39 fun v31_55 w40 =>
  X Try.prog (Instr.buildSlice 59 1 #[(0, v31_55)]) w40 fun v32_56 w41 =>
  X Try.prog (Builtin.append_ #[59, 59] 59 #[(ρ2 7), v32_56]) w41 fun v33_57 w42 =>
  J3 (upds ρ2 [(7, v33_57), (57, v33_57), (56, v32_56), (55, v31_55), (54, (ρ2 7)), (2, v30_53), (1, (.int .i64 0)), (53, v30_53), (52, v29_52), (51, v28_51), (50, (ρ2 2)), (49, v27_49), (48, v26_48), (47, (ρ2 2)), (46, v25_46), (45, (ρ2 1)), (44, v24_44), (43, v23_43), (42, v22_42), (41, v21_41), (40, (ρ2 1)), (39, v20_39), (38, v19_38), (33, v15_33), (32, v14_32), (31, v13_31), (30, (ρ2 1)), (29, v12_29), (28, (ρ2 2)), (9, v11_9), (27, v10_27), (26, v9_26), (25, v7_25)]) w42))) (
  Q2 (.exit 0) (upds ρ2 [(25, v7_25)]) w12)) (inBlockS 0 (thenS (fun ρ4 w43 =>
  K (ρ4 7) w43) (retS Try.prog (Try.f30).results K))) (upds ρ1 [(24, (.int .i64 0)), (23, v6_23), (22, (ρ1 0)), (7, (.slice none 0 0))]) w10) fun J1 =>
  X Try.prog (binOp .lss 3 x1 (.int .i64 0)) w8 fun v34_18 w44 =>
  condS v34_18 (
  X Try.prog (binOp .add 3 x2 x1) w44 fun v35_21 w45 =>
  J1 (upds (env0 #[x0, x1, x2]) [(2, v35_21), (1, (.int .i64 0)), (21, v35_21), (20, x1), (19, x2), (18, v34_18), (17, x1), (16, v5_16), (15, v4_15), (14, v3_14), (13, v2_13), (12, v1_11), (11, v1_11), (10, x2), (6, (.slice none 0 0))]) w45) (
  J1 (upds (env0 #[x0, x1, x2]) [(18, v34_18), (17, x1), (16, v5_16), (15, v4_15), (14, v3_14), (13, v2_13), (12, v1_11), (11, v1_11), (10, x2), (6, (.slice none 0 0))]) w44))

theorem eq_extent_Slice (x0 x1 x2 : Value) (w : World) (K : Value → World → Prop) :
    sh Try.prog (Try.f30.body.getD .skip) (retS Try.prog Try.f30.results K) (env0 #[x0, x1, x2]) w = B_extent_Slice x0 x1 x2 w K := by kernel_rfl

theorem call_extent_Slice (x0 x1 x2 : Value) (w : World) (K : Value → World → Prop) (h : B_extent_Slice x0 x1 x2 w K) : CALL Try.prog 30 #[x0, x1, x2] w K :=
  call_of_eq (c := Try.f30.body.getD .skip) mixed Try.func30 (by kernel_rfl) (by kernel_rfl) (by kernel_rfl) (Nat.le_of_ble_eq_true (by kernel_rfl)) (eq_extent_Slice x0 x1 x2 w K) h

/-- cellarage/cellarageref16.Slice -/
def B_ref16_Slice (x0 x1 x2 : Value) (w : World) (K : Value → World → Prop) : Prop :=
  X Try.prog (binOp .leq 3 x2 (.int .i64 0)) w fun v1_16 w1 =>
  gstep v1_16 false (fun w2 K => K x0 w2) w1 fun v2_18 w3 =>
  gstep v1_16 false (fun w4 K => CALL Try.prog 37 #[v2_18] w4 K) w3 fun v3_19 w5 =>
  gstep v1_16 false (fun w6 K => X Try.prog (Op.unary .not v3_19) w6 K) w5 fun v4_20 w7 =>
  X Try.prog (pickS v1_16 (.bool true) v4_20) w7 fun v5_21 w8 =>
  condS v5_21 (
  K (.slice none 0 0) w8) (
  joinS (fun ρ1 w9 =>
  CALL Try.prog 38 #[(ρ1 0)] w9 fun v6_28 w10 =>
  X Try.prog (binOp .leq 3 (ρ1 2) (.int .i64 0)) w10 fun v7_30 w11 =>
  gstep v7_30 false (fun w12 K => K (ρ1 1) w12) w11 fun v8_32 w13 =>
  gstep v7_30 false (fun w14 K => K v6_28 w14) w13 fun v9_33 w15 =>
  gstep v7_30 false (fun w16 K => X Try.prog (binOp .geq 3 v8_32 v9_33) w16 K) w15 fun v10_34 w17 =>
  X Try.prog (pickS v7_30 (.bool true) v10_34) w17 fun v11_35 w18 =>
  condS v11_35 (
  K (.slice none 0 0) w18) (
  joinS (fun ρ2 w19 =>
  loopS (fun Q3 ρ3 w20 =>
  X Try.prog (Builtin.len_ #[59] 3 #[(ρ3 0)]) w20 fun v12_48 w21 =>
  X Try.prog (binOp .lss 3 (ρ3 12) v12_48) w21 fun v13_49 w22 =>
  condS v13_49 (
  X Try.prog (Builtin.max_ #[3, 3] 3 #[(ρ3 8), (ρ3 11)]) w22 fun v14_54 w23 =>
  X Try.prog (Instr.indexAt 59 (ρ3 0) (ρ3 12)) w23 fun v15_59 w24 =>
  X Try.prog (Instr.fieldAt 72 v15_59 2) w24 fun v16_60 w25 =>
  X Try.prog (Instr.loadAt 3 v16_60) w25 fun v17_61 w26 =>
  X Try.prog (binOp .add 3 (ρ3 11) v17_61) w26 fun v18_62 w27 =>
  X Try.prog (Builtin.min_ #[3, 3] 3 #[(ρ3 9), v18_62]) w27 fun v19_63 w28 =>
  joinS (fun ρ4 w29 =>
  X Try.prog (Instr.indexAt 59 (ρ4 0) (ρ4 12)) w29 fun v20_91 w30 =>
  X Try.prog (Instr.fieldAt 72 v20_91 2) w30 fun v21_92 w31 =>
  X Try.prog (Instr.loadAt 3 v21_92) w31 fun v22_93 w32 =>
  X Try.prog (binOp .add 3 (ρ4 11) v22_93) w32 fun v23_94 w33 =>
  X Try.prog (binOp .add 3 (ρ4 12) (.int .i64 1)) w33 fun v24_51 w34 =>
  Q3 .normal (upds ρ4 [(12, v24_51), (51, v24_51), (50, (ρ4 12)), (11, v23_94), (94, v23_94), (93, v22_93), (92, v21_92), (91, v20_91), (90, (ρ4 12)), (89, (ρ4 0)), (88, (ρ4 11))]) w34) fun J4 =>
  X Try.prog (binOp .lss 3 v14_54 v19_63) w28 fun v25_66 w35 =>
  condS v25_66 (
  ∃ R, Frame? R ∧
  XP Try.prog (Instr.indexAt 59 (ρ3 0) (ρ3 12)) (drewW w35) fun v26_70 w36 =>
  XP Try.prog (Instr.fieldAt 72 v26_70 0) w36 fun v27_71 w37 =>
  XR Try.prog R (Instr.loadAt 44 v27_71) w37 fun v28_72 w38 =>
  XP Try.prog (Instr.indexAt 59 (ρ3 0) (ρ3 12)) w38 fun v29_75 w39 =>
  XP Try.prog (Instr.fieldAt 72 v29_75 1) w39 fun v30_76 w40 =>
  XR Try.prog R (Instr.loadAt 3 v30_76) w40 fun v31_77 w41 =>
  XP Try.prog (binOp .add 3 v31_77 v14_54) w41 fun v32_79 w42 =>
  XP Try.prog (binOp .sub 3 v32_79 (ρ3 11)) w42 fun v33_81 w43 =>
  XP Try.prog (binOp .sub 3 v19_63 v14_54) w43 fun v34_84 w44 =>
  XP Try.prog (Instr.build 72 #[(0, v28_72), (1, v33_81), (2, v34_84)]) w44 fun v35_85 w45 =>
  X Try.prog (Instr.buildSlice 59 1 #[(0, v35_85)]) w45 fun v36_86 w46 =>
  R w45 w46 ∧
  X Try.prog (Builtin.append_ #[59, 59] 59 #[(ρ3 10), v36_86]) w46 fun v37_87 w47 =>
  R w46 w47 ∧
  J4 (upds ρ3 [(10, v37_87), (87, v37_87), (86, v36_86), (85, v35_85), (84, v34_84), (83, v14_54), (82, v19_63), (81, v33_81), (80, (ρ3 11)), (79, v32_79), (78, v14_54), (77, v31_77), (76, v30_76), (75, v29_75), (74, (ρ3 12)), (73, (ρ3 0)), (72, v28_72), (71, v27_71), (70, v26_70), (69, (ρ3 12)), (68, (ρ3 0)), (67, (ρ3 10)), (66, v25_66), (65, v19_63), (64, v14_54), (14, v19_63), (63, v19_63), (62, v18_62), (61, v17_61), (60, v16_60), (59, v15_59), (58, (ρ3 12)), (57, (ρ3 0)), (56, (ρ3 11)), (55, (ρ3 9)), (13, v14_54), (54, v14_54), (53, (ρ3 11)), (52, (ρ3 8)), (49, v13_49), (48, v12_48), (47, (ρ3 0)), (46, (ρ3 12))]) w47) (
  J4 (upds ρ3 [(66, v25_66), (65, v19_63), (64, v14_54), (14, v19_63), (63, v19_63), (62, v18_62), (61, v17_61), (60, v16_60), (59, v15_59), (58, (ρ3 12)), (57, (ρ3 0)), (56, (ρ3 11)), (55, (ρ3 9)), (13, v14_54), (54, v14_54), (53, (ρ3 11)), (52, (ρ3 8)), (49, v13_49), (48, v12_48), (47, (ρ3 0)), (46, (ρ3 12))]) w35)) (
  Q3 (.exit 0) (upds ρ3 [(49, v13_49), (48, v12_48), (47, (ρ3 0)), (46, (ρ3 12))]) w22)) (inBlockS 0 (thenS (fun ρ5 w48 =>
  K (ρ5 10) w48) (retS Try.prog (Try.f32).results K))) (upds ρ2 [(12, (.int .i64 0)), (11, (.int .i64 0)), (10, (.slice none 0 0))]) w19) fun J2 =>
  X Try.prog (binOp .sub 3 v6_28 (ρ1 1)) w18 fun v38_41 w49 =>
  X Try.prog (binOp .lss 3 (ρ1 2) v38_41) w49 fun v39_42 w50 =>
  condS v39_42 (
  X Try.prog (binOp .add 3 (ρ1 1) (ρ1 2)) w50 fun v40_45 w51 =>
  J2 (upds ρ1 [(9, v40_45), (45, v40_45), (44, (ρ1 2)), (43, (ρ1 1)), (42, v39_42), (41, v38_41), (40, (ρ1 1)), (39, v6_28), (38, (ρ1 2)), (9, v6_28), (37, v6_28), (8, (ρ1 1)), (36, (ρ1 1)), (35, v11_35), (34, v10_34), (33, v9_33), (32, v8_32), (31, v7_30), (30, v7_30), (29, (ρ1 2)), (7, v6_28), (28, v6_28), (27, (ρ1 0))]) w51) (
  J2 (upds ρ1 [(42, v39_42), (41, v38_41), (40, (ρ1 1)), (39, v6_28), (38, (ρ1 2)), (9, v6_28), (37, v6_28), (8, (ρ1 1)), (36, (ρ1 1)), (35, v11_35), (34, v10_34), (33, v9_33), (32, v8_32), (31, v7_30), (30, v7_30), (29, (ρ1 2)), (7, v6_28), (28, v6_28), (27, (ρ1 0))]) w50))) fun J1 =>
  X Try.prog (binOp .lss 3 x1 (.int .i64 0)) w8 fun v41_23 w52 =>
  condS v41_23 (
  X Try.prog (binOp .add 3 x2 x1) w52 fun v42_26 w53 =>
  J1 (upds (env0 #[x0, x1, x2]) [(1, (.int .i64 0)), (2, v42_26), (26, v42_26), (25, x1), (24, x2), (23, v41_23), (22, x1), (21, v5_21), (20, v4_20), (19, v3_19), (18, v2_18), (17, v1_16), (16, v1_16), (15, x2), (6, (.slice none 0 0))]) w53) (
  J1 (upds (env0 #[x0, x1, x2]) [(23, v41_23), (22, x1), (21, v5_21), (20, v4_20), (19, v3_19), (18, v2_18), (17, v1_16), (16, v1_16), (15, x2), (6, (.slice none 0 0))]) w52))

theorem eq_ref16_Slice (x0 x1 x2 : Value) (w : World) (K : Value → World → Prop) :
    sh Try.prog (Try.f32.body.getD .skip) (retS Try.prog Try.f32.results K) (env0 #[x0, x1, x2]) w = B_ref16_Slice x0 x1 x2 w K := by kernel_rfl

theorem call_ref16_Slice (x0 x1 x2 : Value) (w : World) (K : Value → World → Prop) (h : B_ref16_Slice x0 x1 x2 w K) : CALL Try.prog 32 #[x0, x1, x2] w K :=
  call_of_eq (c := Try.f32.body.getD .skip) mixed Try.func32 (by kernel_rfl) (by kernel_rfl) (by kernel_rfl) (Nat.le_of_ble_eq_true (by kernel_rfl)) (eq_ref16_Slice x0 x1 x2 w K) h

/-- cellarage/extent.Join -/
def B_extent_Join (x0 : Value) (w : World) (K : Value → World → Prop) : Prop :=
  X Try.prog (Builtin.len_ #[64] 3 #[x0]) w fun v1_10 w1 =>
  loopS (fun Q1 ρ1 w2 =>
  X Try.prog (binOp .lss 3 (ρ1 11) (ρ1 10)) w2 fun v2_12 w3 =>
  condS v2_12 (
  X Try.prog (Instr.indexAt 64 (ρ1 9) (ρ1 11)) w3 fun v3_13 w4 =>
  X Try.prog (Instr.loadAt 59 v3_13) w4 fun v4_14 w5 =>
  CALL Try.prog 35 #[v4_14] w5 fun v5_16 w6 =>
  X Try.prog (Op.unary .not v5_16) w6 fun v6_17 w7 =>
  condS v6_17 (
  Q1 .ret (upds ρ1 [(2, (.slice none 0 0)), (17, v6_17), (16, v5_16), (15, v4_14), (5, v4_14), (14, v4_14), (13, v3_13), (12, v2_12)]) w7) (
  X Try.prog (Builtin.len_ #[59] 3 #[v4_14]) w7 fun v7_19 w8 =>
  loopS (fun Q2 ρ2 w9 =>
  X Try.prog (binOp .lss 3 (ρ2 20) (ρ2 19)) w9 fun v8_21 w10 =>
  condS v8_21 (
  joinS (fun ρ3 w11 =>
  X Try.prog (binOp .add 3 (ρ3 20) (.int .i64 1)) w11 fun v9_66 w12 =>
  Q2 .normal (upds ρ3 [(20, v9_66), (66, v9_66)]) w12) fun J3 =>
  X Try.prog (Instr.indexAt 59 (ρ2 18) (ρ2 20)) w10 fun v10_22 w13 =>
  X Try.prog (Instr.loadAt 72 v10_22) w13 fun v11_23 w14 =>
  X Try.prog (Instr.alloc 72 true (.tuple #[])) w14 fun v12_7 w15 =>
  XU Try.prog (Instr.storeAt 72 v12_7 v11_23) w15 fun w16 =>
  joinS (fun ρ4 w17 =>
  X Try.prog (Instr.loadAt 72 (ρ4 7)) w17 fun v13_63 w18 =>
  X Try.prog (Instr.buildSlice 59 1 #[(0, v13_63)]) w18 fun v14_64 w19 =>
  X Try.prog (Builtin.append_ #[59, 59] 59 #[(ρ4 3), v14_64]) w19 fun v15_65 w20 =>
  J3 (upds ρ4 [(3, v15_65), (65, v15_65), (64, v14_64), (63, v13_63), (62, (ρ4 3))]) w20) fun J4 =>
  X Try.prog (Builtin.len_ #[59] 3 #[(ρ2 3)]) w16 fun v16_25 w21 =>
  X Try.prog (binOp .gtr 3 v16_25 (.int .i64 0)) w21 fun v17_26 w22 =>
  condS v17_26 (
  X Try.prog (Builtin.len_ #[59] 3 #[(ρ2 3)]) w22 fun v18_29 w23 =>
  X Try.prog (binOp .sub 3 v18_29 (.int .i64 1)) w23 fun v19_30 w24 =>
  X Try.prog (Instr.indexAt 59 (ρ2 3) v19_30) w24 fun v20_31 w25 =>
  ∃ R, Frame? R ∧
  XP Try.prog (nilS v20_31) (drewW w25) fun v21_33 w26 =>
  XP Try.prog (Instr.fieldAt 72 v21_33 0) w26 fun v22_34 w27 =>
  XR Try.prog R (Instr.loadAt 44 v22_34) w27 fun v23_35 w28 =>
  XP Try.prog (Instr.fieldAt 72 v12_7 0) w28 fun v24_36 w29 =>
  XR Try.prog R (Instr.loadAt 44 v24_36) w29 fun v25_37 w30 =>
  XP Try.prog (binOpG .eql 44 (.tmp 35) (.tmp 37) v23_35 v25_37) w30 fun v26_38 w31 =>
  gstep v26_38 true (fun w32 K => K v20_31 w32) w31 fun v27_40 w33 =>
  gstep v26_38 true (fun w34 K => XP Try.prog (nilS v27_40) w34 K) w33 fun v28_41 w35 =>
  gstep v26_38 true (fun w36 K => XP Try.prog (Instr.fieldAt 72 v28_41 1) w36 K) w35 fun v29_42 w37 =>
  gstep v26_38 true (fun w38 K => XR Try.prog R (Instr.loadAt 3 v29_42) w38 K) w37 fun v30_43 w39 =>
  gstep v26_38 true (fun w40 K => K v20_31 w40) w39 fun v31_44 w41 =>
  gstep v26_38 true (fun w42 K => XP Try.prog (nilS v31_44) w42 K) w41 fun v32_45 w43 =>
  gstep v26_38 true (fun w44 K => XP Try.prog (Instr.fieldAt 72 v32_45 2) w44 K) w43 fun v33_46 w45 =>
  gstep v26_38 true (fun w46 K => XR Try.prog R (Instr.loadAt 3 v33_46) w46 K) w45 fun v34_47 w47 =>
  gstep v26_38 true (fun w48 K => XP Try.prog (binOp .add 3 v30_43 v34_47) w48 K) w47 fun v35_48 w49 =>
  gstep v26_38 true (fun w50 K => XP Try.prog (Instr.fieldAt 72 v12_7 1) w50 K) w49 fun v36_49 w51 =>
  gstep v26_38 true (fun w52 K => XR Try.prog R (Instr.loadAt 3 v36_49) w52 K) w51 fun v37_50 w53 =>
  gstep v26_38 true (fun w54 K => XP Try.prog (binOpG .eql 3 (.tmp 48) (.tmp 50) v35_48 v37_50) w54 K) w53 fun v38_51 w55 =>
  XP Try.prog (pickS v26_38 v38_51 (.bool false)) w55 fun v39_52 w56 =>
  condS v39_52 (
  ∃ R, Frame? R ∧
  XP Try.prog (nilS v20_31) (drewW w56) fun v40_54 w57 =>
  XP Try.prog (Instr.fieldAt 72 v40_54 2) w57 fun v41_55 w58 =>
  XR Try.prog R (Instr.loadAt 3 v41_55) w58 fun v42_56 w59 =>
  XP Try.prog (Instr.fieldAt 72 v12_7 2) w59 fun v43_57 w60 =>
  XR Try.prog R (Instr.loadAt 3 v43_57) w60 fun v44_58 w61 =>
  XP Try.prog (binOp .add 3 v42_56 v44_58) w61 fun v45_59 w62 =>
  XP Try.prog (nilS v20_31) w62 fun v46_60 w63 =>
  XP Try.prog (Instr.fieldAt 72 v46_60 2) w63 fun v47_61 w64 =>
  XU Try.prog (Instr.storeAt 3 v47_61 v45_59) w64 fun w65 =>
  J3 (upds ρ2 [(61, v47_61), (60, v46_60), (59, v45_59), (58, v44_58), (57, v43_57), (56, v42_56), (55, v41_55), (54, v40_54), (53, v20_31), (52, v39_52), (51, v38_51), (50, v37_50), (49, v36_49), (48, v35_48), (47, v34_47), (46, v33_46), (45, v32_45), (44, v31_44), (43, v30_43), (42, v29_42), (41, v28_41), (40, v27_40), (39, v26_38), (38, v26_38), (37, v25_37), (36, v24_36), (35, v23_35), (34, v22_34), (33, v21_33), (32, v20_31), (8, v20_31), (31, v20_31), (30, v19_30), (29, v18_29), (28, (ρ2 3)), (27, (ρ2 3)), (26, v17_26), (25, v16_25), (24, (ρ2 3)), (7, v12_7), (23, v11_23), (22, v10_22), (21, v8_21)]) w65) (
  J4 (upds ρ2 [(52, v39_52), (51, v38_51), (50, v37_50), (49, v36_49), (48, v35_48), (47, v34_47), (46, v33_46), (45, v32_45), (44, v31_44), (43, v30_43), (42, v29_42), (41, v28_41), (40, v27_40), (39, v26_38), (38, v26_38), (37, v25_37), (36, v24_36), (35, v23_35), (34, v22_34), (33, v21_33), (32, v20_31), (8, v20_31), (31, v20_31), (30, v19_30), (29, v18_29), (28, (ρ2 3)), (27, (ρ2 3)), (26, v17_26), (25, v16_25), (24, (ρ2 3)), (7, v12_7), (23, v11_23), (22, v10_22), (21, v8_21)]) w56)) (
  J4 (upds ρ2 [(26, v17_26), (25, v16_25), (24, (ρ2 3)), (7, v12_7), (23, v11_23), (22, v10_22), (21, v8_21)]) w22)) (
  Q2 (.exit 2) (upds ρ2 [(21, v8_21)]) w10)) (inBlockS 2 (inBlockS 1 (thenS (fun ρ5 w66 =>
  X Try.prog (binOp .add 3 (ρ5 11) (.int .i64 1)) w66 fun v48_67 w67 =>
  Q1 .normal (upds ρ5 [(11, v48_67), (67, v48_67)]) w67) Q1))) (upds ρ1 [(20, (.int .i64 0)), (19, v7_19), (18, v4_14), (17, v6_17), (16, v5_16), (15, v4_14), (5, v4_14), (14, v4_14), (13, v3_13), (12, v2_12)]) w8)) (
  Q1 (.exit 0) (upds ρ1 [(12, v2_12)]) w3)) (inBlockS 0 (thenS (fun ρ6 w68 =>
  CALL Try.prog 35 #[(ρ6 3)] w68 fun v49_69 w69 =>
  X Try.prog (Op.unary .not v49_69) w69 fun v50_70 w70 =>
  condS v50_70 (
  K (.slice none 0 0) w70) (
  K (ρ6 3) w70)) (retS Try.prog (Try.f33).results K))) (upds (env0 #[x0]) [(11, (.int .i64 0)), (10, v1_10), (9, x0), (3, (.slice none 0 0)), (2, (.slice none 0 0))]) w1

theorem eq_extent_Join (x0 : Value) (w : World) (K : Value → World → Prop) :
    sh Try.prog (Try.f33.body.getD .skip) (retS Try.prog Try.f33.results K) (env0 #[x0]) w = B_extent_Join x0 w K := by kernel_rfl

theorem call_extent_Join (x0 : Value) (w : World) (K : Value → World → Prop) (h : B_extent_Join x0 w K) : CALL Try.prog 33 #[x0] w K :=
  call_of_eq (c := Try.f33.body.getD .skip) mixed Try.func33 (by kernel_rfl) (by kernel_rfl) (by kernel_rfl) (Nat.le_of_ble_eq_true (by kernel_rfl)) (eq_extent_Join x0 w K) h

/-- cellarage/cellarageref16.Join -/
def B_ref16_Join (x0 : Value) (w : World) (K : Value → World → Prop) : Prop :=
  loopS (fun Q1 ρ1 w1 =>
  X Try.prog (Builtin.len_ #[64] 3 #[(ρ1 0)]) w1 fun v1_10 w2 =>
  X Try.prog (binOp .lss 3 (ρ1 4) v1_10) w2 fun v2_11 w3 =>
  condS v2_11 (
  X Try.prog (Instr.indexAt 64 (ρ1 0) (ρ1 4)) w3 fun v3_16 w4 =>
  X Try.prog (Instr.loadAt 59 v3_16) w4 fun v4_17 w5 =>
  CALL Try.prog 37 #[v4_17] w5 fun v5_18 w6 =>
  X Try.prog (Op.unary .not v5_18) w6 fun v6_19 w7 =>
  condS v6_19 (
  Q1 .ret (upds ρ1 [(2, (.slice none 0 0)), (19, v6_19), (18, v5_18), (17, v4_17), (16, v3_16), (15, (ρ1 4)), (14, (ρ1 0)), (11, v2_11), (10, v1_10), (9, (ρ1 0)), (8, (ρ1 4))]) w7) (
  loopS (fun Q2 ρ2 w8 =>
  X Try.prog (Instr.indexAt 64 (ρ2 0) (ρ2 4)) w8 fun v7_23 w9 =>
  X Try.prog (Instr.loadAt 59 v7_23) w9 fun v8_24 w10 =>
  X Try.prog (Builtin.len_ #[59] 3 #[v8_24]) w10 fun v9_25 w11 =>
  X Try.prog (binOp .lss 3 (ρ2 5) v9_25) w11 fun v10_26 w12 =>
  condS v10_26 (
  X Try.prog (Instr.indexAt 64 (ρ2 0) (ρ2 4)) w12 fun v11_31 w13 =>
  X Try.prog (Instr.loadAt 59 v11_31) w13 fun v12_32 w14 =>
  X Try.prog (Instr.indexAt 59 v12_32 (ρ2 5)) w14 fun v13_34 w15 =>
  X Try.prog (Instr.loadAt 72 v13_34) w15 fun v14_35 w16 =>
  X Try.prog (Instr.alloc 72 true (.tuple #[])) w16 fun v15_6 w17 =>
  XU Try.prog (Instr.storeAt 72 v15_6 v14_35) w17 fun w18 =>
  X Try.prog (Builtin.len_ #[59] 3 #[(ρ2 3)]) w18 fun v16_37 w19 =>
  joinS (fun ρ3 w20 =>
  X Try.prog (Instr.loadAt 72 (ρ3 6)) w20 fun v17_91 w21 =>
  X Try.prog (Instr.buildSlice 59 1 #[(0, v17_91)]) w21 fun v18_92 w22 =>
  X Try.prog (Builtin.append_ #[59, 59] 59 #[(ρ3 3), v18_92]) w22 fun v19_93 w23 =>
  X Try.prog (binOp .add 3 (ρ3 5) (.int .i64 1)) w23 fun v20_28 w24 =>
  Q2 .normal (upds ρ3 [(5, v20_28), (28, v20_28), (27, (ρ3 5)), (3, v19_93), (93, v19_93), (92, v18_92), (91, v17_91), (90, (ρ3 3))]) w24) fun J3 =>
  ∃ R, Frame? R ∧
  XP Try.prog (binOp .gtr 3 v16_37 (.int .i64 0)) (drewW w19) fun v21_39 w25 =>
  gstep v21_39 true (fun w26 K => K (ρ2 3) w26) w25 fun v22_41 w27 =>
  gstep v21_39 true (fun w28 K => K v16_37 w28) w27 fun v23_42 w29 =>
  gstep v21_39 true (fun w30 K => XP Try.prog (binOp .sub 3 v23_42 (.int .i64 1)) w30 K) w29 fun v24_43 w31 =>
  gstep v21_39 true (fun w32 K => XP Try.prog (Instr.indexAt 59 v22_41 v24_43) w32 K) w31 fun v25_44 w33 =>
  gstep v21_39 true (fun w34 K => XP Try.prog (Instr.fieldAt 72 v25_44 0) w34 K) w33 fun v26_45 w35 =>
  gstep v21_39 true (fun w36 K => XR Try.prog R (Instr.loadAt 44 v26_45) w36 K) w35 fun v27_46 w37 =>
  gstep v21_39 true (fun w38 K => XP Try.prog (Instr.fieldAt 72 v15_6 0) w38 K) w37 fun v28_47 w39 =>
  gstep v21_39 true (fun w40 K => XR Try.prog R (Instr.loadAt 44 v28_47) w40 K) w39 fun v29_48 w41 =>
  gstep v21_39 true (fun w42 K => XP Try.prog (binOpG .eql 44 (.tmp 46) (.tmp 48) v27_46 v29_48) w42 K) w41 fun v30_49 w43 =>
  XP Try.prog (pickS v21_39 v30_49 (.bool false)) w43 fun v31_50 w44 =>
  gstep v31_50 true (fun w45 K => K (ρ2 3) w45) w44 fun v32_52 w46 =>
  gstep v31_50 true (fun w47 K => K v16_37 w47) w46 fun v33_53 w48 =>
  gstep v31_50 true (fun w49 K => XP Try.prog (binOp .sub 3 v33_53 (.int .i64 1)) w49 K) w48 fun v34_54 w50 =>
  gstep v31_50 true (fun w51 K => XP Try.prog (Instr.indexAt 59 v32_52 v34_54) w51 K) w50 fun v35_55 w52 =>
  gstep v31_50 true (fun w53 K => XP Try.prog (Instr.fieldAt 72 v35_55 1) w53 K) w52 fun v36_56 w54 =>
  gstep v31_50 true (fun w55 K => XR Try.prog R (Instr.loadAt 3 v36_56) w55 K) w54 fun v37_57 w56 =>
  gstep v31_50 true (fun w57 K => K (ρ2 3) w57) w56 fun v38_58 w58 =>
  gstep v31_50 true (fun w59 K => K v16_37 w59) w58 fun v39_59 w60 =>
  gstep v31_50 true (fun w61 K => XP Try.prog (binOp .sub 3 v39_59 (.int .i64 1)) w61 K) w60 fun v40_60 w62 =>
  gstep v31_50 true (fun w63 K => XP Try.prog (Instr.indexAt 59 v38_58 v40_60) w63 K) w62 fun v41_61 w64 =>
  gstep v31_50 true (fun w65 K => XP Try.prog (Instr.fieldAt 72 v41_61 2) w65 K) w64 fun v42_62 w66 =>
  gstep v31_50 true (fun w67 K => XR Try.prog R (Instr.loadAt 3 v42_62) w67 K) w66 fun v43_63 w68 =>
  gstep v31_50 true (fun w69 K => XP Try.prog (binOp .add 3 v37_57 v43_63) w69 K) w68 fun v44_64 w70 =>
  gstep v31_50 true (fun w71 K => XP Try.prog (Instr.fieldAt 72 v15_6 1) w71 K) w70 fun v45_65 w72 =>
  gstep v31_50 true (fun w73 K => XR Try.prog R (Instr.loadAt 3 v45_65) w73 K) w72 fun v46_66 w74 =>
  gstep v31_50 true (fun w75 K => XP Try.prog (binOpG .eql 3 (.tmp 64) (.tmp 66) v44_64 v46_66) w75 K) w74 fun v47_67 w76 =>
  XP Try.prog (pickS v31_50 v47_67 (.bool false)) w76 fun v48_68 w77 =>
  condS v48_68 (
  ∃ R, Frame? R ∧
  XP Try.prog (Instr.fieldAt 72 v15_6 2) (drewW w77) fun v49_69 w78 =>
  XR Try.prog R (Instr.loadAt 3 v49_69) w78 fun v50_70 w79 =>
  XP Try.prog (binOp .sub 3 v16_37 (.int .i64 1)) w79 fun v51_73 w80 =>
  XP Try.prog (Instr.indexAt 59 (ρ2 3) v51_73) w80 fun v52_74 w81 =>
  XP Try.prog (Instr.fieldAt 72 v52_74 2) w81 fun v53_75 w82 =>
  XR Try.prog R (Instr.loadAt 3 v53_75) w82 fun v54_76 w83 =>
  XP Try.prog (binOp .add 3 v50_70 v54_76) w83 fun v55_77 w84 =>
  XP Try.prog (Instr.fieldAt 72 v15_6 2) w84 fun v56_78 w85 =>
  XU Try.prog (Instr.storeAt 3 v56_78 v55_77) w85 fun w86 =>
  X Try.prog (binOp .sub 3 v16_37 (.int .i64 1)) w86 fun v57_81 w87 =>
  X Try.prog (Instr.indexAt 59 (ρ2 3) v57_81) w87 fun v58_82 w88 =>
  X Try.prog (Instr.fieldAt 72 v58_82 1) w88 fun v59_83 w89 =>
  X Try.prog (Instr.loadAt 3 v59_83) w89 fun v60_84 w90 =>
  X Try.prog (Instr.fieldAt 72 v15_6 1) w90 fun v61_85 w91 =>
  XU Try.prog (Instr.storeAt 3 v61_85 v60_84) w91 fun w92 =>
  X Try.prog (binOp .sub 3 v16_37 (.int .i64 1)) w92 fun v62_88 w93 =>
  X Try.prog (Instr.sliceAt 59 (ρ2 3) none (some v62_88) none) w93 fun v63_89 w94 =>
  J3 (upds ρ2 [(3, v63_89), (89, v63_89), (88, v62_88), (87, v16_37), (86, (ρ2 3)), (85, v61_85), (84, v60_84), (83, v59_83), (82, v58_82), (81, v57_81), (80, v16_37), (79, (ρ2 3)), (78, v56_78), (77, v55_77), (76, v54_76), (75, v53_75), (74, v52_74), (73, v51_73), (72, v16_37), (71, (ρ2 3)), (70, v50_70), (69, v49_69), (68, v48_68), (67, v47_67), (66, v46_66), (65, v45_65), (64, v44_64), (63, v43_63), (62, v42_62), (61, v41_61), (60, v40_60), (59, v39_59), (58, v38_58), (57, v37_57), (56, v36_56), (55, v35_55), (54, v34_54), (53, v33_53), (52, v32_52), (51, v31_50), (50, v31_50), (49, v30_49), (48, v29_48), (47, v28_47), (46, v27_46), (45, v26_45), (44, v25_44), (43, v24_43), (42, v23_42), (41, v22_41), (40, v21_39), (39, v21_39), (38, v16_37), (7, v16_37), (37, v16_37), (36, (ρ2 3)), (6, v15_6), (35, v14_35), (34, v13_34), (33, (ρ2 5)), (32, v12_32), (31, v11_31), (30, (ρ2 4)), (29, (ρ2 0)), (26, v10_26), (25, v9_25), (24, v8_24), (23, v7_23), (22, (ρ2 4)), (21, (ρ2 0)), (20, (ρ2 5))]) w94) (
  J3 (upds ρ2 [(68, v48_68), (67, v47_67), (66, v46_66), (65, v45_65), (64, v44_64), (63, v43_63), (62, v42_62), (61, v41_61), (60, v40_60), (59, v39_59), (58, v38_58), (57, v37_57), (56, v36_56), (55, v35_55), (54, v34_54), (53, v33_53), (52, v32_52), (51, v31_50), (50, v31_50), (49, v30_49), (48, v29_48), (47, v28_47), (46, v27_46), (45, v26_45), (44, v25_44), (43, v24_43), (42, v23_42), (41, v22_41), (40, v21_39), (39, v21_39), (38, v16_37), (7, v16_37), (37, v16_37), (36, (ρ2 3)), (6, v15_6), (35, v14_35), (34, v13_34), (33, (ρ2 5)), (32, v12_32), (31, v11_31), (30, (ρ2 4)), (29, (ρ2 0)), (26, v10_26), (25, v9_25), (24, v8_24), (23, v7_23), (22, (ρ2 4)), (21, (ρ2 0)), (20, (ρ2 5))]) w77)) (
  Q2 (.exit 2) (upds ρ2 [(26, v10_26), (25, v9_25), (24, v8_24), (23, v7_23), (22, (ρ2 4)), (21, (ρ2 0)), (20, (ρ2 5))]) w12)) (inBlockS 2 (inBlockS 1 (thenS (fun ρ4 w95 =>
  X Try.prog (binOp .add 3 (ρ4 4) (.int .i64 1)) w95 fun v64_13 w96 =>
  Q1 .normal (upds ρ4 [(4, v64_13), (13, v64_13), (12, (ρ4 4))]) w96) Q1))) (upds ρ1 [(5, (.int .i64 0)), (19, v6_19), (18, v5_18), (17, v4_17), (16, v3_16), (15, (ρ1 4)), (14, (ρ1 0)), (11, v2_11), (10, v1_10), (9, (ρ1 0)), (8, (ρ1 4))]) w7)) (
  Q1 (.exit 0) (upds ρ1 [(11, v2_11), (10, v1_10), (9, (ρ1 0)), (8, (ρ1 4))]) w3)) (inBlockS 0 (thenS (fun ρ5 w97 =>
  CALL Try.prog 37 #[(ρ5 3)] w97 fun v65_95 w98 =>
  X Try.prog (Op.unary .not v65_95) w98 fun v66_96 w99 =>
  condS v66_96 (
  K (.slice none 0 0) w99) (
  K (ρ5 3) w99)) (retS Try.prog (Try.f34).results K))) (upds (env0 #[x0]) [(4, (.int .i64 0)), (3, (.slice none 0 0)), (2, (.slice none 0 0))]) w

theorem eq_ref16_Join (x0 : Value) (w : World) (K : Value → World → Prop) :
    sh Try.prog (Try.f34.body.getD .skip) (retS Try.prog Try.f34.results K) (env0 #[x0]) w = B_ref16_Join x0 w K := by kernel_rfl

theorem call_ref16_Join (x0 : Value) (w : World) (K : Value → World → Prop) (h : B_ref16_Join x0 w K) : CALL Try.prog 34 #[x0] w K :=
  call_of_eq (c := Try.f34.body.getD .skip) mixed Try.func34 (by kernel_rfl) (by kernel_rfl) (by kernel_rfl) (Nat.le_of_ble_eq_true (by kernel_rfl)) (eq_ref16_Join x0 w K) h

/-- cellarage/extent.Right -/
def B_extent_Right (x0 : Value) (w : World) (K : Value → World → Prop) : Prop :=
  X Try.prog (Builtin.len_ #[59] 3 #[x0]) w fun v1_4 w1 =>
  X Try.prog (binOp .leq 3 v1_4 (.int .i64 16384)) w1 fun v2_5 w2 =>
  gstep v2_5 true (fun w3 K => K x0 w3) w2 fun v3_7 w4 =>
  gstep v2_5 true (fun w5 K => CALL Try.prog 51 #[v3_7, (.func (.func 52) #[] #[])] w5 K) w4 fun v4_8 w6 =>
  gstep v2_5 true (fun w7 K => X Try.prog (Op.unary .not v4_8) w7 K) w6 fun v5_9 w8 =>
  X Try.prog (pickS v2_5 v5_9 (.bool false)) w8 fun v6_10 w9 =>
  K v6_10 w9

theorem eq_extent_Right (x0 : Value) (w : World) (K : Value → World → Prop) :
    sh Try.prog (Try.f35.body.getD .skip) (retS Try.prog Try.f35.results K) (env0 #[x0]) w = B_extent_Right x0 w K := by kernel_rfl

theorem call_extent_Right (x0 : Value) (w : World) (K : Value → World → Prop) (h : B_extent_Right x0 w K) : CALL Try.prog 35 #[x0] w K :=
  call_of_eq (c := Try.f35.body.getD .skip) mixed Try.func35 (by kernel_rfl) (by kernel_rfl) (by kernel_rfl) (Nat.le_of_ble_eq_true (by kernel_rfl)) (eq_extent_Right x0 w K) h

/-- cellarage/extent.Total -/
def B_extent_Total (x0 : Value) (w : World) (K : Value → World → Prop) : Prop :=
  CALL Try.prog 35 #[x0] w fun v1_7 w1 =>
  X Try.prog (Op.unary .not v1_7) w1 fun v2_8 w2 =>
  condS v2_8 (
  K (.int .i64 0) w2) (
  X Try.prog (Builtin.len_ #[59] 3 #[x0]) w2 fun v3_10 w3 =>
  loopS (fun Q1 ρ1 w4 =>
  X Try.prog (binOp .lss 3 (ρ1 11) (ρ1 10)) w4 fun v4_12 w5 =>
  condS v4_12 (
  X Try.prog (Instr.indexAt 59 (ρ1 9) (ρ1 11)) w5 fun v5_13 w6 =>
  X Try.prog (Instr.loadAt 72 v5_13) w6 fun v6_14 w7 =>
  X Try.prog (Instr.alloc 72 true (.tuple #[])) w7 fun v7_5 w8 =>
  XU Try.prog (Instr.storeAt 72 v7_5 v6_14) w8 fun w9 =>
  X Try.prog (Instr.fieldAt 72 v7_5 2) w9 fun v8_16 w10 =>
  X Try.prog (Instr.loadAt 3 v8_16) w10 fun v9_17 w11 =>
  X Try.prog (binOp .add 3 (ρ1 3) v9_17) w11 fun v10_18 w12 =>
  X Try.prog (binOp .add 3 (ρ1 11) (.int .i64 1)) w12 fun v11_19 w13 =>
  Q1 .normal (upds ρ1 [(11, v11_19), (19, v11_19), (3, v10_18), (18, v10_18), (17, v9_17), (16, v8_16), (15, (ρ1 3)), (5, v7_5), (14, v6_14), (13, v5_13), (12, v4_12)]) w13) (
  Q1 (.exit 0) (upds ρ1 [(12, v4_12)]) w5)) (inBlockS 0 (thenS (fun ρ2 w14 =>
  K (ρ2 3) w14) (retS Try.prog (Try.f36).results K))) (upds (env0 #[x0]) [(11, (.int .i64 0)), (10, v3_10), (9, x0), (3, (.int .i64 0)), (8, v2_8), (7, v1_7), (6, x0), (2, (.int .i64 0))]) w3)

theorem eq_extent_Total (x0 : Value) (w : World) (K : Value → World → Prop) :
    sh Try.prog (Try.f36.body.getD .skip) (retS Try.prog Try.f36.results K) (env0 #[x0]) w = B_extent_Total x0 w K := by kernel_rfl

theorem call_extent_Total (x0 : Value) (w : World) (K : Value → World → Prop) (h : B_extent_Total x0 w K) : CALL Try.prog 36 #[x0] w K :=
  call_of_eq (c := Try.f36.body.getD .skip) mixed Try.func36 (by kernel_rfl) (by kernel_rfl) (by kernel_rfl) (Nat.le_of_ble_eq_true (by kernel_rfl)) (eq_extent_Total x0 w K) h

/-- cellarage/cellarageref16.Right -/
def B_ref16_Right (x0 : Value) (w : World) (K : Value → World → Prop) : Prop :=
  X Try.prog (Builtin.len_ #[59] 3 #[x0]) w fun v1_5 w1 =>
  X Try.prog (binOp .gtr 3 v1_5 (.int .i64 16384)) w1 fun v2_6 w2 =>
  condS v2_6 (
  K (.bool false) w2) (
  loopS (fun Q1 ρ1 w3 =>
  X Try.prog (Builtin.len_ #[59] 3 #[(ρ1 0)]) w3 fun v3_9 w4 =>
  X Try.prog (binOp .lss 3 (ρ1 3) v3_9) w4 fun v4_10 w5 =>
  condS v4_10 (
  ∃ R, Frame? R ∧
  XP Try.prog (Instr.indexAt 59 (ρ1 0) (ρ1 3)) (drewW w5) fun v5_15 w6 =>
  XP Try.prog (Instr.fieldAt 72 v5_15 1) w6 fun v6_16 w7 =>
  XR Try.prog R (Instr.loadAt 3 v6_16) w7 fun v7_17 w8 =>
  XP Try.prog (binOp .lss 3 v7_17 (.int .i64 0)) w8 fun v8_18 w9 =>
  gstep v8_18 false (fun w10 K => K (ρ1 0) w10) w9 fun v9_20 w11 =>
  gstep v8_18 false (fun w12 K => K (ρ1 3) w12) w11 fun v10_21 w13 =>
  gstep v8_18 false (fun w14 K => XP Try.prog (Instr.indexAt 59 v9_20 v10_21) w14 K) w13 fun v11_22 w15 =>
  gstep v8_18 false (fun w16 K => XP Try.prog (Instr.fieldAt 72 v11_22 2) w16 K) w15 fun v12_23 w17 =>
  gstep v8_18 false (fun w18 K => XR Try.prog R (Instr.loadAt 3 v12_23) w18 K) w17 fun v13_24 w19 =>
  gstep v8_18 false (fun w20 K => XP Try.prog (binOp .lss 3 v13_24 (.int .i64 1)) w20 K) w19 fun v14_25 w21 =>
  XP Try.prog (pickS v8_18 (.bool true) v14_25) w21 fun v15_26 w22 =>
  gstep v15_26 false (fun w23 K => K (ρ1 0) w23) w22 fun v16_28 w24 =>
  gstep v15_26 false (fun w25 K => K (ρ1 3) w25) w24 fun v17_29 w26 =>
  gstep v15_26 false (fun w27 K => XP Try.prog (Instr.indexAt 59 v16_28 v17_29) w27 K) w26 fun v18_30 w28 =>
  gstep v15_26 false (fun w29 K => XP Try.prog (Instr.fieldAt 72 v18_30 2) w29 K) w28 fun v19_31 w30 =>
  gstep v15_26 false (fun w31 K => XR Try.prog R (Instr.loadAt 3 v19_31) w31 K) w30 fun v20_32 w32 =>
  gstep v15_26 false (fun w33 K => XP Try.prog (binOp .gtr 3 v20_32 (.int .i64 4096)) w33 K) w32 fun v21_33 w34 =>
  XP Try.prog (pickS v15_26 (.bool true) v21_33) w34 fun v22_34 w35 =>
  gstep v22_34 false (fun w36 K => K (ρ1 0) w36) w35 fun v23_36 w37 =>
  gstep v22_34 false (fun w38 K => K (ρ1 3) w38) w37 fun v24_37 w39 =>
  gstep v22_34 false (fun w40 K => XP Try.prog (Instr.indexAt 59 v23_36 v24_37) w40 K) w39 fun v25_38 w41 =>
  gstep v22_34 false (fun w42 K => XP Try.prog (Instr.fieldAt 72 v25_38 1) w42 K) w41 fun v26_39 w43 =>
  gstep v22_34 false (fun w44 K => XR Try.prog R (Instr.loadAt 3 v26_39) w44 K) w43 fun v27_40 w45 =>
  gstep v22_34 false (fun w46 K => K (ρ1 0) w46) w45 fun v28_41 w47 =>
  gstep v22_34 false (fun w48 K => K (ρ1 3) w48) w47 fun v29_42 w49 =>
  gstep v22_34 false (fun w50 K => XP Try.prog (Instr.indexAt 59 v28_41 v29_42) w50 K) w49 fun v30_43 w51 =>
  gstep v22_34 false (fun w52 K => XP Try.prog (Instr.fieldAt 72 v30_43 2) w52 K) w51 fun v31_44 w53 =>
  gstep v22_34 false (fun w54 K => XR Try.prog R (Instr.loadAt 3 v31_44) w54 K) w53 fun v32_45 w55 =>
  gstep v22_34 false (fun w56 K => XP Try.prog (binOp .sub 3 (.int .i64 4096) v32_45) w56 K) w55 fun v33_46 w57 =>
  gstep v22_34 false (fun w58 K => XP Try.prog (binOp .gtr 3 v27_40 v33_46) w58 K) w57 fun v34_47 w59 =>
  XP Try.prog (pickS v22_34 (.bool true) v34_47) w59 fun v35_48 w60 =>
  condS v35_48 (
  Q1 .ret (upds ρ1 [(2, (.bool false)), (48, v35_48), (47, v34_47), (46, v33_46), (45, v32_45), (44, v31_44), (43, v30_43), (42, v29_42), (41, v28_41), (40, v27_40), (39, v26_39), (38, v25_38), (37, v24_37), (36, v23_36), (35, v22_34), (34, v22_34), (33, v21_33), (32, v20_32), (31, v19_31), (30, v18_30), (29, v17_29), (28, v16_28), (27, v15_26), (26, v15_26), (25, v14_25), (24, v13_24), (23, v12_23), (22, v11_22), (21, v10_21), (20, v9_20), (19, v8_18), (18, v8_18), (17, v7_17), (16, v6_16), (15, v5_15), (14, (ρ1 3)), (13, (ρ1 0)), (10, v4_10), (9, v3_9), (8, (ρ1 0)), (7, (ρ1 3))]) w60) (
  X Try.prog (binOp .add 3 (ρ1 3) (.int .i64 1)) w60 fun v36_12 w61 =>
  Q1 .normal (upds ρ1 [(3, v36_12), (12, v36_12), (11, (ρ1 3)), (48, v35_48), (47, v34_47), (46, v33_46), (45, v32_45), (44, v31_44), (43, v30_43), (42, v29_42), (41, v28_41), (40, v27_40), (39, v26_39), (38, v25_38), (37, v24_37), (36, v23_36), (35, v22_34), (34, v22_34), (33, v21_33), (32, v20_32), (31, v19_31), (30, v18_30), (29, v17_29), (28, v16_28), (27, v15_26), (26, v15_26), (25, v14_25), (24, v13_24), (23, v12_23), (22, v11_22), (21, v10_21), (20, v9_20), (19, v8_18), (18, v8_18), (17, v7_17), (16, v6_16), (15, v5_15), (14, (ρ1 3)), (13, (ρ1 0)), (10, v4_10), (9, v3_9), (8, (ρ1 0)), (7, (ρ1 3))]) w61)) (
  Q1 (.exit 0) (upds ρ1 [(10, v4_10), (9, v3_9), (8, (ρ1 0)), (7, (ρ1 3))]) w5)) (inBlockS 0 (thenS (fun ρ2 w62 =>
  K (.bool true) w62) (retS Try.prog (Try.f37).results K))) (upds (env0 #[x0]) [(3, (.int .i64 0)), (6, v2_6), (5, v1_5), (4, x0), (2, (.bool false))]) w2)

theorem eq_ref16_Right (x0 : Value) (w : World) (K : Value → World → Prop) :
    sh Try.prog (Try.f37.body.getD .skip) (retS Try.prog Try.f37.results K) (env0 #[x0]) w = B_ref16_Right x0 w K := by kernel_rfl

theorem call_ref16_Right (x0 : Value) (w : World) (K : Value → World → Prop) (h : B_ref16_Right x0 w K) : CALL Try.prog 37 #[x0] w K :=
  call_of_eq (c := Try.f37.body.getD .skip) mixed Try.func37 (by kernel_rfl) (by kernel_rfl) (by kernel_rfl) (Nat.le_of_ble_eq_true (by kernel_rfl)) (eq_ref16_Right x0 w K) h

/-- cellarage/cellarageref16.Total -/
def B_ref16_Total (x0 : Value) (w : World) (K : Value → World → Prop) : Prop :=
  CALL Try.prog 37 #[x0] w fun v1_6 w1 =>
  condS v1_6 (
  loopS (fun Q1 ρ1 w2 =>
  X Try.prog (Builtin.len_ #[59] 3 #[(ρ1 0)]) w2 fun v2_9 w3 =>
  X Try.prog (binOp .lss 3 (ρ1 4) v2_9) w3 fun v3_10 w4 =>
  condS v3_10 (
  X Try.prog (Instr.indexAt 59 (ρ1 0) (ρ1 4)) w4 fun v4_16 w5 =>
  X Try.prog (Instr.fieldAt 72 v4_16 2) w5 fun v5_17 w6 =>
  X Try.prog (Instr.loadAt 3 v5_17) w6 fun v6_18 w7 =>
  X Try.prog (binOp .add 3 (ρ1 3) v6_18) w7 fun v7_19 w8 =>
  X Try.prog (binOp .add 3 (ρ1 4) (.int .i64 1)) w8 fun v8_12 w9 =>
  Q1 .normal (upds ρ1 [(4, v8_12), (12, v8_12), (11, (ρ1 4)), (3, v7_19), (19, v7_19), (18, v6_18), (17, v5_17), (16, v4_16), (15, (ρ1 4)), (14, (ρ1 0)), (13, (ρ1 3)), (10, v3_10), (9, v2_9), (8, (ρ1 0)), (7, (ρ1 4))]) w9) (
  Q1 (.exit 0) (upds ρ1 [(10, v3_10), (9, v2_9), (8, (ρ1 0)), (7, (ρ1 4))]) w4)) (inBlockS 0 (thenS (fun ρ2 w10 =>
  K (ρ2 3) w10) (retS Try.prog (Try.f38).results K))) (upds (env0 #[x0]) [(4, (.int .i64 0)), (6, v1_6), (5, x0), (3, (.int .i64 0)), (2, (.int .i64 0))]) w1) (
  K (.int .i64 0) w1)

theorem eq_ref16_Total (x0 : Value) (w : World) (K : Value → World → Prop) :
    sh Try.prog (Try.f38.body.getD .skip) (retS Try.prog Try.f38.results K) (env0 #[x0]) w = B_ref16_Total x0 w K := by kernel_rfl

theorem call_ref16_Total (x0 : Value) (w : World) (K : Value → World → Prop) (h : B_ref16_Total x0 w K) : CALL Try.prog 38 #[x0] w K :=
  call_of_eq (c := Try.f38.body.getD .skip) mixed Try.func38 (by kernel_rfl) (by kernel_rfl) (by kernel_rfl) (Nat.le_of_ble_eq_true (by kernel_rfl)) (eq_ref16_Total x0 w K) h

/-- cellarage/cellarageref11.SameKeys -/
def B_ref11_SameKeys (x0 x1 : Value) (w : World) (K : Value → World → Prop) : Prop :=
  X Try.prog (Builtin.len_ #[77] 3 #[x0]) w fun v1_7 w1 =>
  X Try.prog (Builtin.len_ #[77] 3 #[x1]) w1 fun v2_9 w2 =>
  X Try.prog (binOpG .neq 3 (.tmp 7) (.tmp 9) v1_7 v2_9) w2 fun v3_10 w3 =>
  condS v3_10 (
  K (.bool false) w3) (
  loopS (fun Q1 ρ1 w4 =>
  X Try.prog (Builtin.len_ #[77] 3 #[(ρ1 0)]) w4 fun v4_13 w5 =>
  X Try.prog (binOp .lss 3 (ρ1 5) v4_13) w5 fun v5_14 w6 =>
  condS v5_14 (
  ∃ R, Frame? R ∧
  XP Try.prog (Instr.indexAt 77 (ρ1 0) (ρ1 5)) (drewW w6) fun v6_19 w7 =>
  XR Try.prog R (Instr.loadAt 44 v6_19) w7 fun v7_20 w8 =>
  XP Try.prog (Instr.indexAt 77 (ρ1 1) (ρ1 5)) w8 fun v8_23 w9 =>
  XR Try.prog R (Instr.loadAt 44 v8_23) w9 fun v9_24 w10 =>
  XP Try.prog (binOpG .neq 44 (.tmp 20) (.tmp 24) v7_20 v9_24) w10 fun v10_25 w11 =>
  condS v10_25 (
  Q1 .ret (upds ρ1 [(4, (.bool false)), (25, v10_25), (24, v9_24), (23, v8_23), (22, (ρ1 5)), (21, (ρ1 1)), (20, v7_20), (19, v6_19), (18, (ρ1 5)), (17, (ρ1 0)), (14, v5_14), (13, v4_13), (12, (ρ1 0)), (11, (ρ1 5))]) w11) (
  X Try.prog (binOp .add 3 (ρ1 5) (.int .i64 1)) w11 fun v11_16 w12 =>
  Q1 .normal (upds ρ1 [(5, v11_16), (16, v11_16), (15, (ρ1 5)), (25, v10_25), (24, v9_24), (23, v8_23), (22, (ρ1 5)), (21, (ρ1 1)), (20, v7_20), (19, v6_19), (18, (ρ1 5)), (17, (ρ1 0)), (14, v5_14), (13, v4_13), (12, (ρ1 0)), (11, (ρ1 5))]) w12)) (
  Q1 (.exit 0) (upds ρ1 [(14, v5_14), (13, v4_13), (12, (ρ1 0)), (11, (ρ1 5))]) w6)) (inBlockS 0 (thenS (fun ρ2 w13 =>
  K (.bool true) w13) (retS Try.prog (Try.f39).results K))) (upds (env0 #[x0, x1]) [(5, (.int .i64 0)), (10, v3_10), (9, v2_9), (8, x1), (7, v1_7), (6, x0), (4, (.bool false))]) w3)

theorem eq_ref11_SameKeys (x0 x1 : Value) (w : World) (K : Value → World → Prop) :
    sh Try.prog (Try.f39.body.getD .skip) (retS Try.prog Try.f39.results K) (env0 #[x0, x1]) w = B_ref11_SameKeys x0 x1 w K := by kernel_rfl

theorem call_ref11_SameKeys (x0 x1 : Value) (w : World) (K : Value → World → Prop) (h : B_ref11_SameKeys x0 x1 w K) : CALL Try.prog 39 #[x0, x1] w K :=
  call_of_eq (c := Try.f39.body.getD .skip) mixed Try.func39 (by kernel_rfl) (by kernel_rfl) (by kernel_rfl) (Nat.le_of_ble_eq_true (by kernel_rfl)) (eq_ref11_SameKeys x0 x1 w K) h

/-- cellarage/extent.Keys -/
def B_extent_Keys (x0 : Value) (w : World) (K : Value → World → Prop) : Prop :=
  X Try.prog (Instr.makeMap 100 none) w fun v1_7 w1 =>
  X Try.prog (Builtin.len_ #[59] 3 #[x0]) w1 fun v2_9 w2 =>
  loopS (fun Q1 ρ1 w3 =>
  X Try.prog (binOp .lss 3 (ρ1 10) (ρ1 9)) w3 fun v3_11 w4 =>
  condS v3_11 (
  joinS (fun ρ2 w5 =>
  X Try.prog (binOp .add 3 (ρ2 10) (.int .i64 1)) w5 fun v4_27 w6 =>
  Q1 .normal (upds ρ2 [(10, v4_27), (27, v4_27)]) w6) fun J2 =>
  X Try.prog (Instr.indexAt 59 (ρ1 8) (ρ1 10)) w4 fun v5_12 w7 =>
  X Try.prog (Instr.loadAt 72 v5_12) w7 fun v6_13 w8 =>
  X Try.prog (Instr.alloc 72 true (.tuple #[])) w8 fun v7_6 w9 =>
  XU Try.prog (Instr.storeAt 72 v7_6 v6_13) w9 fun w10 =>
  X Try.prog (Instr.fieldAt 72 v7_6 0) w10 fun v8_15 w11 =>
  X Try.prog (Instr.loadAt 44 v8_15) w11 fun v9_16 w12 =>
  X Try.prog (Instr.lookup 100 (ρ1 3) v9_16 false) w12 fun v10_17 w13 =>
  X Try.prog (Op.unary .not v10_17) w13 fun v11_18 w14 =>
  condS v11_18 (
  X Try.prog (Instr.fieldAt 72 v7_6 0) w14 fun v12_20 w15 =>
  X Try.prog (Instr.loadAt 44 v12_20) w15 fun v13_21 w16 =>
  XU Try.prog (Instr.mapUpdate 100 (ρ1 3) v13_21 (.bool true)) w16 fun w17 =>
  X Try.prog (Instr.fieldAt 72 v7_6 0) w17 fun v14_23 w18 =>
  X Try.prog (Instr.loadAt 44 v14_23) w18 fun v15_24 w19 =>
  X Try.prog (Instr.buildSlice 77 1 #[(0, v15_24)]) w19 fun v16_25 w20 =>
  X Try.prog (Builtin.append_ #[77, 77] 77 #[(ρ1 4), v16_25]) w20 fun v17_26 w21 =>
  J2 (upds ρ1 [(4, v17_26), (26, v17_26), (25, v16_25), (24, v15_24), (23, v14_23), (22, (ρ1 4)), (21, v13_21), (20, v12_20), (19, (ρ1 3)), (18, v11_18), (17, v10_17), (16, v9_16), (15, v8_15), (14, (ρ1 3)), (6, v7_6), (13, v6_13), (12, v5_12), (11, v3_11)]) w21) (
  J2 (upds ρ1 [(18, v11_18), (17, v10_17), (16, v9_16), (15, v8_15), (14, (ρ1 3)), (6, v7_6), (13, v6_13), (12, v5_12), (11, v3_11)]) w14)) (
  Q1 (.exit 0) (upds ρ1 [(11, v3_11)]) w4)) (inBlockS 0 (thenS (fun ρ3 w22 =>
  K (ρ3 4) w22) (retS Try.prog (Try.f40).results K))) (upds (env0 #[x0]) [(10, (.int .i64 0)), (9, v2_9), (8, x0), (4, (.slice none 0 0)), (3, v1_7), (7, v1_7), (2, (.slice none 0 0))]) w2

theorem eq_extent_Keys (x0 : Value) (w : World) (K : Value → World → Prop) :
    sh Try.prog (Try.f40.body.getD .skip) (retS Try.prog Try.f40.results K) (env0 #[x0]) w = B_extent_Keys x0 w K := by kernel_rfl

theorem call_extent_Keys (x0 : Value) (w : World) (K : Value → World → Prop) (h : B_extent_Keys x0 w K) : CALL Try.prog 40 #[x0] w K :=
  call_of_eq (c := Try.f40.body.getD .skip) mixed Try.func40 (by kernel_rfl) (by kernel_rfl) (by kernel_rfl) (Nat.le_of_ble_eq_true (by kernel_rfl)) (eq_extent_Keys x0 w K) h

/-- cellarage/cellarageref16.Keys -/
def B_ref16_Keys (x0 : Value) (w : World) (K : Value → World → Prop) : Prop :=
  loopS (fun Q1 ρ1 w1 =>
  X Try.prog (Builtin.len_ #[59] 3 #[(ρ1 0)]) w1 fun v1_9 w2 =>
  X Try.prog (binOp .lss 3 (ρ1 4) v1_9) w2 fun v2_10 w3 =>
  condS v2_10 (
  joinS (fun ρ2 w4 =>
  X Try.prog (binOp .add 3 (ρ2 4) (.int .i64 1)) w4 fun v3_12 w5 =>
  Q1 .normal (upds ρ2 [(4, v3_12), (12, v3_12), (11, (ρ2 4))]) w5) fun J2 =>
  loopS (fun Q3 ρ3 w6 =>
  X Try.prog (binOp .lss 3 (ρ3 6) (ρ3 4)) w6 fun v4_15 w7 =>
  condS v4_15 (
  ∃ R, Frame? R ∧
  gstep (ρ3 5) false (fun w8 K => K (ρ3 0) w8) (drewW w7) fun v5_20 w9 =>
  gstep (ρ3 5) false (fun w10 K => K (ρ3 6) w10) w9 fun v6_21 w11 =>
  gstep (ρ3 5) false (fun w12 K => XP Try.prog (Instr.indexAt 59 v5_20 v6_21) w12 K) w11 fun v7_22 w13 =>
  gstep (ρ3 5) false (fun w14 K => XP Try.prog (Instr.fieldAt 72 v7_22 0) w14 K) w13 fun v8_23 w15 =>
  gstep (ρ3 5) false (fun w16 K => XR Try.prog R (Instr.loadAt 44 v8_23) w16 K) w15 fun v9_24 w17 =>
  gstep (ρ3 5) false (fun w18 K => K (ρ3 0) w18) w17 fun v10_25 w19 =>
  gstep (ρ3 5) false (fun w20 K => K (ρ3 4) w20) w19 fun v11_26 w21 =>
  gstep (ρ3 5) false (fun w22 K => XP Try.prog (Instr.indexAt 59 v10_25 v11_26) w22 K) w21 fun v12_27 w23 =>
  gstep (ρ3 5) false (fun w24 K => XP Try.prog (Instr.fieldAt 72 v12_27 0) w24 K) w23 fun v13_28 w25 =>
  gstep (ρ3 5) false (fun w26 K => XR Try.prog R (Instr.loadAt 44 v13_28) w26 K) w25 fun v14_29 w27 =>
  gstep (ρ3 5) false (fun w28 K => XP Try.prog (binOpG .eql 44 (.tmp 24) (.tmp 29) v9_24 v14_29) w28 K) w27 fun v15_30 w29 =>
  XP Try.prog (pickS (ρ3 5) (.bool true) v15_30) w29 fun v16_31 w30 =>
  X Try.prog (binOp .add 3 (ρ3 6) (.int .i64 1)) w30 fun v17_17 w31 =>
  Q3 .normal (upds ρ3 [(6, v17_17), (17, v17_17), (16, (ρ3 6)), (5, v16_31), (31, v16_31), (30, v15_30), (29, v14_29), (28, v13_28), (27, v12_27), (26, v11_26), (25, v10_25), (24, v9_24), (23, v8_23), (22, v7_22), (21, v6_21), (20, v5_20), (19, (ρ3 5)), (18, (ρ3 5)), (15, v4_15), (14, (ρ3 4)), (13, (ρ3 6))]) w31) (
  Q3 (.exit 2) (upds ρ3 [(15, v4_15), (14, (ρ3 4)), (13, (ρ3 6))]) w7)) (inBlockS 2 (thenS (fun ρ4 w32 =>
  X Try.prog (Op.unary .not (ρ4 5)) w32 fun v18_33 w33 =>
  condS v18_33 (
  X Try.prog (Instr.indexAt 59 (ρ4 0) (ρ4 4)) w33 fun v19_37 w34 =>
  X Try.prog (Instr.fieldAt 72 v19_37 0) w34 fun v20_38 w35 =>
  X Try.prog (Instr.loadAt 44 v20_38) w35 fun v21_39 w36 =>
  X Try.prog (Instr.buildSlice 77 1 #[(0, v21_39)]) w36 fun v22_40 w37 =>
  X Try.prog (Builtin.append_ #[77, 77] 77 #[(ρ4 3), v22_40]) w37 fun v23_41 w38 =>
  J2 (upds ρ4 [(3, v23_41), (41, v23_41), (40, v22_40), (39, v21_39), (38, v20_38), (37, v19_37), (36, (ρ4 4)), (35, (ρ4 0)), (34, (ρ4 3)), (33, v18_33), (32, (ρ4 5))]) w38) (
  J2 (upds ρ4 [(33, v18_33), (32, (ρ4 5))]) w33)) (inBlockS 1 (thenS J2 Q1)))) (upds ρ1 [(6, (.int .i64 0)), (5, (.bool false)), (10, v2_10), (9, v1_9), (8, (ρ1 0)), (7, (ρ1 4))]) w3) (
  Q1 (.exit 0) (upds ρ1 [(10, v2_10), (9, v1_9), (8, (ρ1 0)), (7, (ρ1 4))]) w3)) (inBlockS 0 (thenS (fun ρ5 w39 =>
  K (ρ5 3) w39) (retS Try.prog (Try.f41).results K))) (upds (env0 #[x0]) [(4, (.int .i64 0)), (3, (.slice none 0 0)), (2, (.slice none 0 0))]) w

theorem eq_ref16_Keys (x0 : Value) (w : World) (K : Value → World → Prop) :
    sh Try.prog (Try.f41.body.getD .skip) (retS Try.prog Try.f41.results K) (env0 #[x0]) w = B_ref16_Keys x0 w K := by kernel_rfl

theorem call_ref16_Keys (x0 : Value) (w : World) (K : Value → World → Prop) (h : B_ref16_Keys x0 w K) : CALL Try.prog 41 #[x0] w K :=
  call_of_eq (c := Try.f41.body.getD .skip) mixed Try.func41 (by kernel_rfl) (by kernel_rfl) (by kernel_rfl) (Nat.le_of_ble_eq_true (by kernel_rfl)) (eq_ref16_Keys x0 w K) h

/-- cellarage/extent.Lay -/
def B_extent_Lay (x0 : Value) (w : World) (K : Value → World → Prop) : Prop :=
  CALL Try.prog 35 #[x0] w fun v1_8 w1 =>
  X Try.prog (Op.unary .not v1_8) w1 fun v2_9 w2 =>
  condS v2_9 (
  K (.tuple #[(.slice none 0 0), (.int .i64 1)]) w2) (
  X Try.prog (Builtin.len_ #[59] 3 #[x0]) w2 fun v3_11 w3 =>
  X Try.prog (binOp .mul 3 (.int .i64 40) v3_11) w3 fun v4_12 w4 =>
  X Try.prog (binOp .add 3 (.int .i64 4) v4_12) w4 fun v5_13 w5 =>
  X Try.prog (Instr.makeSlice 79 (.int .i64 0) v5_13) w5 fun v6_14 w6 =>
  X Try.prog (Builtin.len_ #[59] 3 #[x0]) w6 fun v7_17 w7 =>
  X Try.prog (convert 3 30 v7_17) w7 fun v8_18 w8 =>
  CALL Try.prog 53 #[(.slice none 0 0), v8_18, (.int .i64 4)] w8 fun v9_19 w9 =>
  X Try.prog (Builtin.append_ #[79, 79] 79 #[v6_14, v9_19]) w9 fun v10_20 w10 =>
  X Try.prog (Builtin.len_ #[59] 3 #[x0]) w10 fun v11_22 w11 =>
  loopS (fun Q1 ρ1 w12 =>
  X Try.prog (binOp .lss 3 (ρ1 23) (ρ1 22)) w12 fun v12_24 w13 =>
  condS v12_24 (
  X Try.prog (Instr.indexAt 59 (ρ1 21) (ρ1 23)) w13 fun v13_25 w14 =>
  X Try.prog (Instr.loadAt 72 v13_25) w14 fun v14_26 w15 =>
  X Try.prog (Instr.alloc 72 true (.tuple #[])) w15 fun v15_6 w16 =>
  XU Try.prog (Instr.storeAt 72 v15_6 v14_26) w16 fun w17 =>
  X Try.prog (Instr.fieldAt 72 v15_6 0) w17 fun v16_28 w18 =>
  X Try.prog (Instr.fieldAt 44 v16_28 0) w18 fun v17_29 w19 =>
  X Try.prog (Instr.sliceAt 41 v17_29 none none none) w19 fun v18_30 w20 =>
  X Try.prog (Builtin.append_ #[79, 79] 79 #[(ρ1 4), v18_30]) w20 fun v19_31 w21 =>
  ∃ R, Frame? R ∧
  XP Try.prog (Instr.fieldAt 72 v15_6 0) (drewW w21) fun v20_33 w22 =>
  XP Try.prog (Instr.fieldAt 44 v20_33 1) w22 fun v21_34 w23 =>
  XR Try.prog R (Instr.loadAt 42 v21_34) w23 fun v22_35 w24 =>
  XR Try.prog R (convert 42 30 v22_35) w24 fun v23_36 w25 =>
  XP Try.prog (Instr.fieldAt 72 v15_6 1) w25 fun v24_38 w26 =>
  XR Try.prog R (Instr.loadAt 3 v24_38) w26 fun v25_39 w27 =>
  XR Try.prog R (convert 3 30 v25_39) w27 fun v26_40 w28 =>
  XP Try.prog (Instr.fieldAt 72 v15_6 2) w28 fun v27_42 w29 =>
  XR Try.prog R (Instr.loadAt 3 v27_42) w29 fun v28_43 w30 =>
  XR Try.prog R (convert 3 30 v28_43) w30 fun v29_44 w31 =>
  CALL Try.prog 53 #[(.slice none 0 0), v23_36, (.int .i64 4)] w31 fun v30_37 w32 =>
  R w31 w32 ∧
  CALL Try.prog 53 #[v30_37, v26_40, (.int .i64 2)] w32 fun v31_41 w33 =>
  R w32 w33 ∧
  CALL Try.prog 53 #[v31_41, v29_44, (.int .i64 2)] w33 fun v32_45 w34 =>
  R w33 w34 ∧
  X Try.prog (Builtin.append_ #[79, 79] 79 #[v19_31, v32_45]) w34 fun v33_46 w35 =>
  R w34 w35 ∧
  X Try.prog (binOp .add 3 (ρ1 23) (.int .i64 1)) w35 fun v34_47 w36 =>
  Q1 .normal (upds ρ1 [(23, v34_47), (47, v34_47), (4, v33_46), (46, v33_46), (45, v32_45), (41, v31_41), (37, v30_37), (44, v29_44), (43, v28_43), (42, v27_42), (40, v26_40), (39, v25_39), (38, v24_38), (36, v23_36), (35, v22_35), (34, v21_34), (33, v20_33), (32, v19_31), (4, v19_31), (31, v19_31), (30, v18_30), (29, v17_29), (28, v16_28), (27, (ρ1 4)), (6, v15_6), (26, v14_26), (25, v13_25), (24, v12_24)]) w36) (
  Q1 (.exit 0) (upds ρ1 [(24, v12_24)]) w13)) (inBlockS 0 (thenS (fun ρ2 w37 =>
  K (.tuple #[(ρ2 4), (.int .i64 0)]) w37) (retS Try.prog (Try.f42).results K))) (upds (env0 #[x0]) [(23, (.int .i64 0)), (22, v11_22), (21, x0), (4, v10_20), (20, v10_20), (19, v9_19), (18, v8_18), (17, v7_17), (16, x0), (15, v6_14), (4, v6_14), (14, v6_14), (13, v5_13), (12, v4_12), (11, v3_11), (10, x0), (9, v2_9), (8, v1_8), (7, x0), (3, (.int .i64 0)), (2, (.slice none 0 0))]) w11)

theorem eq_extent_Lay (x0 : Value) (w : World) (K : Value → World → Prop) :
    sh Try.prog (Try.f42.body.getD .skip) (retS Try.prog Try.f42.results K) (env0 #[x0]) w = B_extent_Lay x0 w K := by kernel_rfl

theorem call_extent_Lay (x0 : Value) (w : World) (K : Value → World → Prop) (h : B_extent_Lay x0 w K) : CALL Try.prog 42 #[x0] w K :=
  call_of_eq (c := Try.f42.body.getD .skip) mixed Try.func42 (by kernel_rfl) (by kernel_rfl) (by kernel_rfl) (Nat.le_of_ble_eq_true (by kernel_rfl)) (eq_extent_Lay x0 w K) h

/-- cellarage/cellarageref16.Lay -/
def B_ref16_Lay (x0 : Value) (w : World) (K : Value → World → Prop) : Prop :=
  CALL Try.prog 37 #[x0] w fun v1_7 w1 =>
  X Try.prog (Op.unary .not v1_7) w1 fun v2_8 w2 =>
  condS v2_8 (
  K (.tuple #[(.slice none 0 0), (.int .i64 1)]) w2) (
  X Try.prog (Builtin.len_ #[59] 3 #[x0]) w2 fun v3_10 w3 =>
  X Try.prog (convert 3 30 v3_10) w3 fun v4_11 w4 =>
  CALL Try.prog 54 #[v4_11, (.int .i64 4)] w4 fun v5_12 w5 =>
  loopS (fun Q1 ρ1 w6 =>
  X Try.prog (Builtin.len_ #[59] 3 #[(ρ1 0)]) w6 fun v6_15 w7 =>
  X Try.prog (binOp .lss 3 (ρ1 5) v6_15) w7 fun v7_16 w8 =>
  condS v7_16 (
  X Try.prog (Instr.indexAt 59 (ρ1 0) (ρ1 5)) w8 fun v8_22 w9 =>
  X Try.prog (Instr.fieldAt 72 v8_22 0) w9 fun v9_23 w10 =>
  X Try.prog (Instr.fieldAt 44 v9_23 0) w10 fun v10_24 w11 =>
  X Try.prog (Instr.sliceAt 41 v10_24 none none none) w11 fun v11_25 w12 =>
  X Try.prog (Builtin.append_ #[79, 79] 79 #[(ρ1 4), v11_25]) w12 fun v12_26 w13 =>
  X Try.prog (Instr.indexAt 59 (ρ1 0) (ρ1 5)) w13 fun v13_30 w14 =>
  X Try.prog (Instr.fieldAt 72 v13_30 0) w14 fun v14_31 w15 =>
  X Try.prog (Instr.fieldAt 44 v14_31 1) w15 fun v15_32 w16 =>
  X Try.prog (Instr.loadAt 42 v15_32) w16 fun v16_33 w17 =>
  X Try.prog (convert 42 30 v16_33) w17 fun v17_34 w18 =>
  CALL Try.prog 54 #[v17_34, (.int .i64 4)] w18 fun v18_35 w19 =>
  X Try.prog (Builtin.append_ #[79, 79] 79 #[v12_26, v18_35]) w19 fun v19_36 w20 =>
  X Try.prog (Instr.indexAt 59 (ρ1 0) (ρ1 5)) w20 fun v20_40 w21 =>
  X Try.prog (Instr.fieldAt 72 v20_40 1) w21 fun v21_41 w22 =>
  X Try.prog (Instr.loadAt 3 v21_41) w22 fun v22_42 w23 =>
  X Try.prog (convert 3 30 v22_42) w23 fun v23_43 w24 =>
  CALL Try.prog 54 #[v23_43, (.int .i64 2)] w24 fun v24_44 w25 =>
  X Try.prog (Builtin.append_ #[79, 79] 79 #[v19_36, v24_44]) w25 fun v25_45 w26 =>
  X Try.prog (Instr.indexAt 59 (ρ1 0) (ρ1 5)) w26 fun v26_49 w27 =>
  X Try.prog (Instr.fieldAt 72 v26_49 2) w27 fun v27_50 w28 =>
  X Try.prog (Instr.loadAt 3 v27_50) w28 fun v28_51 w29 =>
  X Try.prog (convert 3 30 v28_51) w29 fun v29_52 w30 =>
  CALL Try.prog 54 #[v29_52, (.int .i64 2)] w30 fun v30_53 w31 =>
  X Try.prog (Builtin.append_ #[79, 79] 79 #[v25_45, v30_53]) w31 fun v31_54 w32 =>
  X Try.prog (binOp .add 3 (ρ1 5) (.int .i64 1)) w32 fun v32_18 w33 =>
  Q1 .normal (upds ρ1 [(5, v32_18), (18, v32_18), (17, (ρ1 5)), (4, v31_54), (54, v31_54), (53, v30_53), (52, v29_52), (51, v28_51), (50, v27_50), (49, v26_49), (48, (ρ1 5)), (47, (ρ1 0)), (46, v25_45), (4, v25_45), (45, v25_45), (44, v24_44), (43, v23_43), (42, v22_42), (41, v21_41), (40, v20_40), (39, (ρ1 5)), (38, (ρ1 0)), (37, v19_36), (4, v19_36), (36, v19_36), (35, v18_35), (34, v17_34), (33, v16_33), (32, v15_32), (31, v14_31), (30, v13_30), (29, (ρ1 5)), (28, (ρ1 0)), (27, v12_26), (4, v12_26), (26, v12_26), (25, v11_25), (24, v10_24), (23, v9_23), (22, v8_22), (21, (ρ1 5)), (20, (ρ1 0)), (19, (ρ1 4)), (16, v7_16), (15, v6_15), (14, (ρ1 0)), (13, (ρ1 5))]) w33) (
  Q1 (.exit 0) (upds ρ1 [(16, v7_16), (15, v6_15), (14, (ρ1 0)), (13, (ρ1 5))]) w8)) (inBlockS 0 (thenS (fun ρ2 w34 =>
  K (.tuple #[(ρ2 4), (.int .i64 0)]) w34) (retS Try.prog (Try.f43).results K))) (upds (env0 #[x0]) [(5, (.int .i64 0)), (4, v5_12), (12, v5_12), (11, v4_11), (10, v3_10), (9, x0), (8, v2_8), (7, v1_7), (6, x0), (3, (.int .i64 0)), (2, (.slice none 0 0))]) w5)

theorem eq_ref16_Lay (x0 : Value) (w : World) (K : Value → World → Prop) :
    sh Try.prog (Try.f43.body.getD .skip) (retS Try.prog Try.f43.results K) (env0 #[x0]) w = B_ref16_Lay x0 w K := by kernel_rfl

theorem call_ref16_Lay (x0 : Value) (w : World) (K : Value → World → Prop) (h : B_ref16_Lay x0 w K) : CALL Try.prog 43 #[x0] w K :=
  call_of_eq (c := Try.f43.body.getD .skip) mixed Try.func43 (by kernel_rfl) (by kernel_rfl) (by kernel_rfl) (Nat.le_of_ble_eq_true (by kernel_rfl)) (eq_ref16_Lay x0 w K) h

/-- cellarage/extent.Take -/
def B_extent_Take (x0 : Value) (w : World) (K : Value → World → Prop) : Prop :=
  X Try.prog (Builtin.len_ #[79] 3 #[x0]) w fun v1_8 w1 =>
  X Try.prog (binOp .lss 3 v1_8 (.int .i64 4)) w1 fun v2_9 w2 =>
  gstep v2_9 false (fun w3 K => K x0 w3) w2 fun v3_11 w4 =>
  gstep v2_9 false (fun w5 K => X Try.prog (Builtin.len_ #[79] 3 #[v3_11]) w5 K) w4 fun v4_12 w6 =>
  gstep v2_9 false (fun w7 K => X Try.prog (binOp .sub 3 v4_12 (.int .i64 4)) w7 K) w6 fun v5_13 w8 =>
  gstep v2_9 false (fun w9 K => X Try.prog (binOp .rem 3 v5_13 (.int .i64 40)) w9 K) w8 fun v6_14 w10 =>
  gstep v2_9 false (fun w11 K => X Try.prog (binOp .gtr 3 v6_14 (.int .i64 0)) w11 K) w10 fun v7_15 w12 =>
  X Try.prog (pickS v2_9 (.bool true) v7_15) w12 fun v8_16 w13 =>
  gstep v8_16 false (fun w14 K => K x0 w14) w13 fun v9_18 w15 =>
  gstep v8_16 false (fun w16 K => X Try.prog (Instr.sliceAt 79 v9_18 none (some (.int .i64 4)) none) w16 K) w15 fun v10_19 w17 =>
  gstep v8_16 false (fun w18 K => CALL Try.prog 55 #[v10_19] w18 K) w17 fun v11_20 w19 =>
  gstep v8_16 false (fun w20 K => CALL Try.prog 56 #[v11_20, (.int .i64 4)] w20 K) w19 fun v12_21 w21 =>
  gstep v8_16 false (fun w22 K => K x0 w22) w21 fun v13_22 w23 =>
  gstep v8_16 false (fun w24 K => X Try.prog (Builtin.len_ #[79] 3 #[v13_22]) w24 K) w23 fun v14_23 w25 =>
  gstep v8_16 false (fun w26 K => X Try.prog (binOp .sub 3 v14_23 (.int .i64 4)) w26 K) w25 fun v15_24 w27 =>
  gstep v8_16 false (fun w28 K => X Try.prog (binOp .quo 3 v15_24 (.int .i64 40)) w28 K) w27 fun v16_25 w29 =>
  gstep v8_16 false (fun w30 K => X Try.prog (convert 3 30 v16_25) w30 K) w29 fun v17_26 w31 =>
  gstep v8_16 false (fun w32 K => X Try.prog (binOpG .neq 30 (.tmp 21) (.tmp 26) v12_21 v17_26) w32 K) w31 fun v18_27 w33 =>
  X Try.prog (pickS v8_16 (.bool true) v18_27) w33 fun v19_28 w34 =>
  condS v19_28 (
  K (.tuple #[(.slice none 0 0), (.int .i64 160)]) w34) (
  X Try.prog (Instr.sliceAt 79 x0 (some (.int .i64 4)) none none) w34 fun v20_30 w35 =>
  loopS (fun Q1 ρ1 w36 =>
  X Try.prog (Builtin.len_ #[79] 3 #[(ρ1 0)]) w36 fun v21_32 w37 =>
  X Try.prog (binOp .gtr 3 v21_32 (.int .i64 0)) w37 fun v22_33 w38 =>
  condS v22_33 (
  X Try.prog (Instr.sliceAt 79 (ρ1 0) (some (.int .i64 32)) (some (.int .i64 40)) none) w38 fun v23_37 w39 =>
  CALL Try.prog 55 #[v23_37] w39 fun v24_38 w40 =>
  joinS (fun ρ2 w41 =>
  CALL Try.prog 56 #[(ρ2 5), (.int .i64 2)] w41 fun v25_49 w42 =>
  X Try.prog (convert 30 3 v25_49) w42 fun v26_50 w43 =>
  X Try.prog (Instr.fieldAt 72 (ρ2 6) 1) w43 fun v27_51 w44 =>
  XU Try.prog (Instr.storeAt 3 v27_51 v26_50) w44 fun w45 =>
  CALL Try.prog 56 #[(ρ2 5), (.int .i64 2)] w45 fun v28_53 w46 =>
  X Try.prog (convert 30 3 v28_53) w46 fun v29_54 w47 =>
  X Try.prog (Instr.fieldAt 72 (ρ2 6) 2) w47 fun v30_55 w48 =>
  XU Try.prog (Instr.storeAt 3 v30_55 v29_54) w48 fun w49 =>
  X Try.prog (Instr.loadAt 72 (ρ2 6)) w49 fun v31_57 w50 =>
  X Try.prog (Instr.buildSlice 59 1 #[(0, v31_57)]) w50 fun v32_58 w51 =>
  X Try.prog (Builtin.append_ #[59, 59] 59 #[(ρ2 4), v32_58]) w51 fun v33_59 w52 =>
  X Try.prog (Instr.sliceAt 79 (ρ2 0) (some (.int .i64 40)) none none) w52 fun v34_35 w53 =>
  Q1 .normal (upds ρ2 [(0, v34_35), (35, v34_35), (34, (ρ2 0)), (4, v33_59), (59, v33_59), (58, v32_58), (57, v31_57), (56, (ρ2 4)), (55, v30_55), (54, v29_54), (53, v28_53), (52, (ρ2 5)), (51, v27_51), (50, v26_50), (49, v25_49), (48, (ρ2 5))]) w53) fun J2 =>
  ∃ R, Frame? R ∧
  XP Try.prog (Instr.sliceAt 79 (ρ1 0) none (some (.int .i64 32)) none) (drewW w40) fun v35_40 w54 =>
  XP Try.prog (Instr.arrayAt 41 v35_40) w54 fun v36_41 w55 =>
  XR Try.prog R (Instr.loadAt 41 v36_41) w55 fun v37_42 w56 =>
  (CALL Try.prog 56 #[v24_38, (.int .i64 4)] w56 fun v38_44 w57 =>
  R w56 w57 ∧
  XR Try.prog R (convert 30 42 v38_44) w57 fun v39_45 w58 =>
  XP Try.prog (Instr.build 44 #[(0, v37_42), (1, v39_45)]) w58 fun v40_46 w59 =>
  XP Try.prog (Instr.build 72 #[(0, v40_46)]) w59 fun v41_47 w60 =>
  X Try.prog (Instr.alloc 72 true (.tuple #[])) w60 fun v42_6 w61 =>
  R w60 w61 ∧
  XU Try.prog (Instr.storeAt 72 v42_6 v41_47) w61 fun w62 =>
  J2 (upds ρ1 [(6, v42_6), (47, v41_47), (46, v40_46), (45, v39_45), (44, v38_44), (43, v24_38), (42, v37_42), (41, v36_41), (40, v35_40), (39, (ρ1 0)), (5, v24_38), (38, v24_38), (37, v23_37), (36, (ρ1 0)), (33, v22_33), (32, v21_32), (31, (ρ1 0))]) w62) ∧
  (X Try.prog (Instr.alloc 72 true (.tuple #[])) w56 fun v43_6 w63 =>
  R w56 w63 ∧
  CALL Try.prog 56 #[v24_38, (.int .i64 4)] w63 fun v44_44 w64 =>
  R w63 w64 ∧
  XR Try.prog R (convert 30 42 v44_44) w64 fun v45_45 w65 =>
  XP Try.prog (Instr.build 44 #[(0, v37_42), (1, v45_45)]) w65 fun v46_46 w66 =>
  XP Try.prog (Instr.build 72 #[(0, v46_46)]) w66 fun v47_47 w67 =>
  XU Try.prog (Instr.storeAt 72 v43_6 v47_47) w67 fun w68 =>
  J2 (upds ρ1 [(47, v47_47), (46, v46_46), (45, v45_45), (44, v44_44), (6, v43_6), (43, v24_38), (42, v37_42), (41, v36_41), (40, v35_40), (39, (ρ1 0)), (5, v24_38), (38, v24_38), (37, v23_37), (36, (ρ1 0)), (33, v22_33), (32, v21_32), (31, (ρ1 0))]) w68)) (
  Q1 (.exit 0) (upds ρ1 [(33, v22_33), (32, v21_32), (31, (ρ1 0))]) w38)) (inBlockS 0 (thenS (fun ρ3 w69 =>
  CALL Try.prog 35 #[(ρ3 4)] w69 fun v48_61 w70 =>
  X Try.prog (Op.unary .not v48_61) w70 fun v49_62 w71 =>
  condS v49_62 (
  K (.tuple #[(.slice none 0 0), (.int .i64 160)]) w71) (
  K (.tuple #[(ρ3 4), (.int .i64 0)]) w71)) (retS Try.prog (Try.f44).results K))) (upds (env0 #[x0]) [(0, v20_30), (30, v20_30), (29, x0), (4, (.slice none 0 0)), (28, v19_28), (27, v18_27), (26, v17_26), (25, v16_25), (24, v15_24), (23, v14_23), (22, v13_22), (21, v12_21), (20, v11_20), (19, v10_19), (18, v9_18), (17, v8_16), (16, v8_16), (15, v7_15), (14, v6_14), (13, v5_13), (12, v4_12), (11, v3_11), (10, v2_9), (9, v2_9), (8, v1_8), (7, x0), (3, (.int .i64 0)), (2, (.slice none 0 0))]) w35)

theorem eq_extent_Take (x0 : Value) (w : World) (K : Value → World → Prop) :
    sh Try.prog (Try.f44.body.getD .skip) (retS Try.prog Try.f44.results K) (env0 #[x0]) w = B_extent_Take x0 w K := by kernel_rfl

theorem call_extent_Take (x0 : Value) (w : World) (K : Value → World → Prop) (h : B_extent_Take x0 w K) : CALL Try.prog 44 #[x0] w K :=
  call_of_eq (c := Try.f44.body.getD .skip) mixed Try.func44 (by kernel_rfl) (by kernel_rfl) (by kernel_rfl) (Nat.le_of_ble_eq_true (by kernel_rfl)) (eq_extent_Take x0 w K) h

/-- cellarage/cellarageref16.Take -/
def B_ref16_Take (x0 : Value) (w : World) (K : Value → World → Prop) : Prop :=
  X Try.prog (Instr.build 108 #[(0, x0)]) w fun v1_10 w1 =>
  X Try.prog (Instr.box 108 v1_10) w1 fun v2_11 w2 =>
  CALL Try.prog 57 #[v2_11, (.int .i64 4)] w2 fun v3_13 w3 =>
  loopS (fun Q1 ρ1 w4 =>
  X Try.prog (binOp .gtr 30 (ρ1 5) (.int .u64 0)) w4 fun v4_15 w5 =>
  gstep v4_15 true (fun w6 K => K (ρ1 4) w6) w5 fun v5_17 w7 =>
  gstep v4_15 true (fun w8 K => X Try.prog (nilS v5_17) w8 K) w7 fun v6_18 w9 =>
  gstep v4_15 true (fun w10 K => X Try.prog (Instr.fieldAt 108 v6_18 2) w10 K) w9 fun v7_19 w11 =>
  gstep v4_15 true (fun w12 K => X Try.prog (Instr.loadAt 25 v7_19) w12 K) w11 fun v8_20 w13 =>
  gstep v4_15 true (fun w14 K => X Try.prog (binOpG .eql 25 (.tmp 20) (.const (.int .i64 0)) v8_20 (.int .i64 0)) w14 K) w13 fun v9_21 w15 =>
  X Try.prog (pickS v4_15 v9_21 (.bool false)) w15 fun v10_22 w16 =>
  condS v10_22 (
  X Try.prog (Instr.alloc 72 true (.tuple #[])) w16 fun v11_7 w17 =>
  loopS (fun Q2 ρ2 w18 =>
  X Try.prog (binOp .lss 3 (ρ2 8) (.int .i64 32)) w18 fun v12_26 w19 =>
  condS v12_26 (
  CALL Try.prog 57 #[(ρ2 4), (.int .i64 1)] w19 fun v13_31 w20 =>
  X Try.prog (convert 30 5 v13_31) w20 fun v14_32 w21 =>
  X Try.prog (Instr.fieldAt 72 (ρ2 7) 0) w21 fun v15_33 w22 =>
  X Try.prog (Instr.fieldAt 44 v15_33 0) w22 fun v16_34 w23 =>
  X Try.prog (Instr.indexAt 41 v16_34 (ρ2 8)) w23 fun v17_35 w24 =>
  XU Try.prog (Instr.storeAt 5 v17_35 v14_32) w24 fun w25 =>
  X Try.prog (binOp .add 3 (ρ2 8) (.int .i64 1)) w25 fun v18_28 w26 =>
  Q2 .normal (upds ρ2 [(8, v18_28), (28, v18_28), (27, (ρ2 8)), (35, v17_35), (34, v16_34), (33, v15_33), (32, v14_32), (31, v13_31), (30, (ρ2 4)), (29, (ρ2 8)), (26, v12_26), (25, (ρ2 8))]) w26) (
  Q2 (.exit 2) (upds ρ2 [(26, v12_26), (25, (ρ2 8))]) w19)) (inBlockS 2 (thenS (fun ρ3 w27 =>
  CALL Try.prog 57 #[(ρ3 4), (.int .i64 4)] w27 fun v19_37 w28 =>
  X Try.prog (convert 30 42 v19_37) w28 fun v20_38 w29 =>
  X Try.prog (Instr.fieldAt 72 (ρ3 7) 0) w29 fun v21_39 w30 =>
  X Try.prog (Instr.fieldAt 44 v21_39 1) w30 fun v22_40 w31 =>
  XU Try.prog (Instr.storeAt 42 v22_40 v20_38) w31 fun w32 =>
  CALL Try.prog 57 #[(ρ3 4), (.int .i64 2)] w32 fun v23_42 w33 =>
  X Try.prog (convert 30 3 v23_42) w33 fun v24_43 w34 =>
  X Try.prog (Instr.fieldAt 72 (ρ3 7) 1) w34 fun v25_44 w35 =>
  XU Try.prog (Instr.storeAt 3 v25_44 v24_43) w35 fun w36 =>
  CALL Try.prog 57 #[(ρ3 4), (.int .i64 2)] w36 fun v26_46 w37 =>
  X Try.prog (convert 30 3 v26_46) w37 fun v27_47 w38 =>
  X Try.prog (Instr.fieldAt 72 (ρ3 7) 2) w38 fun v28_48 w39 =>
  XU Try.prog (Instr.storeAt 3 v28_48 v27_47) w39 fun w40 =>
  X Try.prog (Instr.loadAt 72 (ρ3 7)) w40 fun v29_50 w41 =>
  X Try.prog (Instr.buildSlice 59 1 #[(0, v29_50)]) w41 fun v30_51 w42 =>
  X Try.prog (Builtin.append_ #[59, 59] 59 #[(ρ3 6), v30_51]) w42 fun v31_52 w43 =>
  X Try.prog (binOp .sub 30 (ρ3 5) (.int .u64 1)) w43 fun v32_24 w44 =>
  Q1 .normal (upds ρ3 [(5, v32_24), (24, v32_24), (23, (ρ3 5)), (6, v31_52), (52, v31_52), (51, v30_51), (50, v29_50), (49, (ρ3 6)), (48, v28_48), (47, v27_47), (46, v26_46), (45, (ρ3 4)), (44, v25_44), (43, v24_43), (42, v23_42), (41, (ρ3 4)), (40, v22_40), (39, v21_39), (38, v20_38), (37, v19_37), (36, (ρ3 4))]) w44) (inBlockS 1 (thenS (fun ρ4 w45 =>
  X Try.prog (binOp .sub 30 (ρ4 5) (.int .u64 1)) w45 fun v33_24 w46 =>
  Q1 .normal (upds ρ4 [(5, v33_24), (24, v33_24), (23, (ρ4 5))]) w46) Q1)))) (upds ρ1 [(8, (.int .i64 0)), (7, v11_7), (22, v10_22), (21, v9_21), (20, v8_20), (19, v7_19), (18, v6_18), (17, v5_17), (16, v4_15), (15, v4_15), (14, (ρ1 5))]) w17) (
  Q1 (.exit 0) (upds ρ1 [(22, v10_22), (21, v9_21), (20, v8_20), (19, v7_19), (18, v6_18), (17, v5_17), (16, v4_15), (15, v4_15), (14, (ρ1 5))]) w16)) (inBlockS 0 (thenS (fun ρ5 w47 =>
  CALL Try.prog 58 #[(ρ5 4)] w47 fun v34_54 w48 =>
  X Try.prog (binOpG .neq 25 (.tmp 54) (.const (.int .i64 0)) v34_54 (.int .i64 0)) w48 fun v35_55 w49 =>
  gstep v35_55 false (fun w50 K => K (ρ5 6) w50) w49 fun v36_57 w51 =>
  gstep v35_55 false (fun w52 K => CALL Try.prog 37 #[v36_57] w52 K) w51 fun v37_58 w53 =>
  gstep v35_55 false (fun w54 K => X Try.prog (Op.unary .not v37_58) w54 K) w53 fun v38_59 w55 =>
  X Try.prog (pickS v35_55 (.bool true) v38_59) w55 fun v39_60 w56 =>
  condS v39_60 (
  K (.tuple #[(.slice none 0 0), (.int .i64 160)]) w56) (
  K (.tuple #[(ρ5 6), (.int .i64 0)]) w56)) (retS Try.prog (Try.f45).results K))) (upds (env0 #[x0]) [(6, (.slice none 0 0)), (5, v3_13), (13, v3_13), (12, v2_11), (4, v2_11), (11, v2_11), (10, v1_10), (9, x0), (3, (.int .i64 0)), (2, (.slice none 0 0))]) w3

theorem eq_ref16_Take (x0 : Value) (w : World) (K : Value → World → Prop) :
    sh Try.prog (Try.f45.body.getD .skip) (retS Try.prog Try.f45.results K) (env0 #[x0]) w = B_ref16_Take x0 w K := by kernel_rfl

theorem call_ref16_Take (x0 : Value) (w : World) (K : Value → World → Prop) (h : B_ref16_Take x0 w K) : CALL Try.prog 45 #[x0] w K :=
  call_of_eq (c := Try.f45.body.getD .skip) mixed Try.func45 (by kernel_rfl) (by kernel_rfl) (by kernel_rfl) (Nat.le_of_ble_eq_true (by kernel_rfl)) (eq_ref16_Take x0 w K) h

/-- slices.ContainsFunc[[]cellarage/api.Extent,cellarage/api.Extent] -/
def B_slices_ContainsFunc_api_Extent (x0 x1 : Value) (w : World) (K : Value → World → Prop) : Prop :=
  CALL Try.prog 59 #[x0, x1] w fun v1_7 w1 =>
  X Try.prog (binOp .geq 3 v1_7 (.int .i64 0)) w1 fun v2_8 w2 =>
  K v2_8 w2

theorem eq_slices_ContainsFunc_api_Extent (x0 x1 : Value) (w : World) (K : Value → World → Prop) :
    sh Try.prog (Try.f51.body.getD .skip) (retS Try.prog Try.f51.results K) (env0 #[x0, x1]) w = B_slices_ContainsFunc_api_Extent x0 x1 w K := by kernel_rfl

theorem call_slices_ContainsFunc_api_Extent (x0 x1 : Value) (w : World) (K : Value → World → Prop) (h : B_slices_ContainsFunc_api_Extent x0 x1 w K) : CALL Try.prog 51 #[x0, x1] w K :=
  call_of_eq (c := Try.f51.body.getD .skip) mixed Try.func51 (by kernel_rfl) (by kernel_rfl) (by kernel_rfl) (Nat.le_of_ble_eq_true (by kernel_rfl)) (eq_slices_ContainsFunc_api_Extent x0 x1 w K) h

/-- cellarage/extent.wrong -/
def B_extent_wrong (x0 : Value) (w : World) (K : Value → World → Prop) : Prop :=
  X Try.prog (Instr.box 72 x0) w fun v1_1 w1 =>
  X Try.prog (Instr.fieldAt 72 v1_1 1) w1 fun v2_3 w2 =>
  X Try.prog (Instr.loadAt 3 v2_3) w2 fun v3_4 w3 =>
  X Try.prog (binOp .lss 3 v3_4 (.int .i64 0)) w3 fun v4_5 w4 =>
  gstep v4_5 false (fun w5 K => X Try.prog (Instr.fieldAt 72 v1_1 2) w5 K) w4 fun v5_7 w6 =>
  gstep v4_5 false (fun w7 K => X Try.prog (Instr.loadAt 3 v5_7) w7 K) w6 fun v6_8 w8 =>
  gstep v4_5 false (fun w9 K => X Try.prog (binOp .lss 3 v6_8 (.int .i64 1)) w9 K) w8 fun v7_9 w10 =>
  X Try.prog (pickS v4_5 (.bool true) v7_9) w10 fun v8_10 w11 =>
  gstep v8_10 false (fun w12 K => X Try.prog (Instr.fieldAt 72 v1_1 1) w12 K) w11 fun v9_12 w13 =>
  gstep v8_10 false (fun w14 K => X Try.prog (Instr.loadAt 3 v9_12) w14 K) w13 fun v10_13 w15 =>
  gstep v8_10 false (fun w16 K => X Try.prog (binOp .gtr 3 v10_13 (.int .i64 4096)) w16 K) w15 fun v11_14 w17 =>
  X Try.prog (pickS v8_10 (.bool true) v11_14) w17 fun v12_15 w18 =>
  gstep v12_15 false (fun w19 K => X Try.prog (Instr.fieldAt 72 v1_1 2) w19 K) w18 fun v13_17 w20 =>
  gstep v12_15 false (fun w21 K => X Try.prog (Instr.loadAt 3 v13_17) w21 K) w20 fun v14_18 w22 =>
  gstep v12_15 false (fun w23 K => X Try.prog (Instr.fieldAt 72 v1_1 1) w23 K) w22 fun v15_19 w24 =>
  gstep v12_15 false (fun w25 K => X Try.prog (Instr.loadAt 3 v15_19) w25 K) w24 fun v16_20 w26 =>
  gstep v12_15 false (fun w27 K => X Try.prog (binOp .sub 3 (.int .i64 4096) v16_20) w27 K) w26 fun v17_21 w28 =>
  gstep v12_15 false (fun w29 K => X Try.prog (binOp .gtr 3 v14_18 v17_21) w29 K) w28 fun v18_22 w30 =>
  X Try.prog (pickS v12_15 (.bool true) v18_22) w30 fun v19_23 w31 =>
  K v19_23 w31

theorem eq_extent_wrong (x0 : Value) (w : World) (K : Value → World → Prop) :
    sh Try.prog (Try.f52.body.getD .skip) (retS Try.prog Try.f52.results K) (env0 #[x0]) w = B_extent_wrong x0 w K := by kernel_rfl

theorem call_extent_wrong (x0 : Value) (w : World) (K : Value → World → Prop) (h : B_extent_wrong x0 w K) : CALL Try.prog 52 #[x0] w K :=
  call_of_eq (c := Try.f52.body.getD .skip) mixed Try.func52 (by kernel_rfl) (by kernel_rfl) (by kernel_rfl) (Nat.le_of_ble_eq_true (by kernel_rfl)) (eq_extent_wrong x0 w K) h

/-- slices.IndexFunc[[]cellarage/api.Extent,cellarage/api.Extent] -/
def B_slices_IndexFunc_api_Extent (x0 x1 : Value) (w : World) (K : Value → World → Prop) : Prop :=
  X Try.prog (Builtin.len_ #[59] 3 #[x0]) w fun v1_7 w1 =>
  loopS (fun Q1 ρ1 w2 =>
  X Try.prog (binOp .lss 3 (ρ1 8) (ρ1 7)) w2 fun v2_9 w3 =>
  condS v2_9 (
  X Try.prog (Instr.indexAt 59 (ρ1 0) (ρ1 8)) w3 fun v3_14 w4 =>
  X Try.prog (Instr.loadAt 72 v3_14) w4 fun v4_15 w5 =>
  closS Try.prog (ρ1 1) #[v4_15] w5 fun v5_16 w6 =>
  condS v5_16 (
  Q1 .ret (upds ρ1 [(4, (ρ1 8)), (17, (ρ1 8)), (16, v5_16), (15, v4_15), (14, v3_14), (13, (ρ1 8)), (12, (ρ1 0)), (11, (ρ1 1)), (5, (ρ1 8)), (10, (ρ1 8)), (9, v2_9)]) w6) (
  X Try.prog (binOp .add 3 (ρ1 8) (.int .i64 1)) w6 fun v6_18 w7 =>
  Q1 .normal (upds ρ1 [(8, v6_18), (18, v6_18), (16, v5_16), (15, v4_15), (14, v3_14), (13, (ρ1 8)), (12, (ρ1 0)), (11, (ρ1 1)), (5, (ρ1 8)), (10, (ρ1 8)), (9, v2_9)]) w7)) (
  Q1 (.exit 0) (upds ρ1 [(9, v2_9)]) w3)) (inBlockS 0 (thenS (fun ρ2 w8 =>
  K (.int .i64 (-1)) w8) (retS Try.prog (Try.f59).results K))) (upds (env0 #[x0, x1]) [(8, (.int .i64 0)), (7, v1_7), (6, x0), (4, (.int .i64 0))]) w1

theorem eq_slices_IndexFunc_api_Extent (x0 x1 : Value) (w : World) (K : Value → World → Prop) :
    sh Try.prog (Try.f59.body.getD .skip) (retS Try.prog Try.f59.results K) (env0 #[x0, x1]) w = B_slices_IndexFunc_api_Extent x0 x1 w K := by kernel_rfl

theorem call_slices_IndexFunc_api_Extent (x0 x1 : Value) (w : World) (K : Value → World → Prop) (h : B_slices_IndexFunc_api_Extent x0 x1 w K) : CALL Try.prog 59 #[x0, x1] w K :=
  call_of_eq (c := Try.f59.body.getD .skip) mixed Try.func59 (by kernel_rfl) (by kernel_rfl) (by kernel_rfl) (Nat.le_of_ble_eq_true (by kernel_rfl)) (eq_slices_IndexFunc_api_Extent x0 x1 w K) h

end Go.Proofs.Ytlnkdphecinnnaa
end
section
/- Extents: what they are, which are right. -/
set_option linter.unusedVariables false
set_option linter.unusedSimpArgs false
namespace Go.Proofs.Ytlnkdphecinnnaa
open Go Go.Sh Go.RowKit Go.ChangeShapes Go.WideShapes Go.ChangeAt
attribute [local irreducible] X XU XP XR CALL loopS resC closS Value.okWide
abbrev ptr (b : Nat) : Value := .pointer (some ⟨b, 0, none⟩)
abbrev i64v (n : Int) : Value := .int .i64 n
structure Ex where
  k : Ky
  off : Int
  len : Int
  o1 : -9223372036854775808 ≤ off
  o2 : off ≤ 9223372036854775807
  l1 : -9223372036854775808 ≤ len
  l2 : len ≤ 9223372036854775807
def Ex.cs (e : Ex) : List Value := e.k.cs ++ [.int .i64 e.off, .int .i64 e.len]
theorem Ex.cs_len (e : Ex) : e.cs.length = 35 := by simp [Ex.cs, Ky.cs_len]
theorem Ex.one (e : Ex) : ∀ v ∈ e.cs, v.oneCell' = true := by
  intro v hv
  rcases List.mem_append.1 hv with hv | hv
  · exact Ky.one _ _ hv
  · simp only [List.mem_cons, List.not_mem_nil, or_false] at hv
    rcases hv with rfl | rfl <;> rfl
theorem Ex.offAt (e : Ex) : e.cs[33]? = some (.int .i64 e.off) := by
  unfold Ex.cs
  rw [List.getElem?_append_right (by rw [Ky.cs_len]; omega), Ky.cs_len]
  rfl
theorem Ex.lenAt (e : Ex) : e.cs[34]? = some (.int .i64 e.len) := by
  unfold Ex.cs
  rw [List.getElem?_append_right (by rw [Ky.cs_len]; omega), Ky.cs_len]
  rfl
theorem Ex.keyAt (e : Ex) {j : Nat} {u : Value} (h : e.k.cs[j]? = some u) : e.cs[j]? = some u := by
  unfold Ex.cs
  rw [List.getElem?_append_left (List.getElem?_eq_some_iff.1 h).1]
  exact h
def right1 (e : Ex) : Prop := 0 ≤ e.off ∧ 1 ≤ e.len ∧ e.off ≤ 4096 ∧ e.len ≤ 4096 - e.off
instance (e : Ex) : Decidable (right1 e) := inferInstanceAs (Decidable (_ ∧ _ ∧ _ ∧ _))
def RightP (l : List Ex) : Prop := l.length ≤ 16384 ∧ ∀ e ∈ l, right1 e
instance (l : List Ex) : Decidable (RightP l) := inferInstanceAs (Decidable (_ ∧ _))
section
variable {w : World} {K : Value → World → Prop}
theorem wrong_spec (e : Ex) (hK : ∀ w1, Ext w w1 → K (.bool (decide (¬ right1 e))) w1) : CALL Try.prog 52 #[.agg e.cs.toArray] w K := by
  apply call_extent_wrong
  unfold B_extent_wrong
  refine X_box ?_
  have hx := newB_ext w e.cs.toArray 72
  have hg := newB_get w e.cs.toArray 72
  show X _ _ (newB w e.cs.toArray 72) _
  generalize newB w e.cs.toArray 72 = w1 at hx hg ⊢
  have ho : w1.cell? ⟨w.heap.size, 0 + 33, none⟩ = some (.int .i64 e.off) := (cell_blk hg).trans (by simpa using e.offAt)
  have hl : w1.cell? ⟨w.heap.size, 0 + 34, none⟩ = some (.int .i64 e.len) := (cell_blk hg).trans (by simpa using e.lenAt)
  have no : ¬ right1 e → K (.bool true) w1 := fun h => by have := hK w1 hx; rwa [decide_eq_true h] at this
  have b1 := e.o1
  have b2 := e.o2
  rw [X_field_72_1]
  refine X_of (run_loadAt agg_3 ho) ?_
  rw [X_lss]
  by_cases h1 : e.off < 0
  · have c : decide (e.off < 0) = true := by simpa using h1
    (repeat (simp only [XP_extract0, XP_extract1, XP_extract2, XP_extract3, X_extract0, X_extract1, X_extract2, X_extract3, X_nilS, X_eql_nil_24, X_neq_nil_24, X_eql_nil_103, X_neq_nil_103, X_eql, X_neq, X_lss, X_leq, X_gtr, X_geq, X_not, X_min, X_max, X_len_79, X_len_35, XP_nilS, XP_eql, XP_neq, XP_lss, XP_leq, XP_gtr, XP_geq, XP_not, XP_min, XP_max, XP_len_79, XP_eql_nil_24, X_str_eql, X_str_neq, XP_str_eql, XP_str_neq, GS, gs_u, decide_true, decide_false, Option.isNone_some, Option.isSome_some, Option.isNone_none, Option.isSome_none, eq_self, Bool.not_true, Bool.not_false, Int.reduceEq, Int.reduceNe, Int.reduceLT, Int.reduceLE, Int.reduceGT, Int.reduceGE, c]))
    exact no (fun h => by have := h.1; omega)
  have c : decide (e.off < 0) = false := by simpa using h1
  (repeat (simp only [XP_extract0, XP_extract1, XP_extract2, XP_extract3, X_extract0, X_extract1, X_extract2, X_extract3, X_nilS, X_eql_nil_24, X_neq_nil_24, X_eql_nil_103, X_neq_nil_103, X_eql, X_neq, X_lss, X_leq, X_gtr, X_geq, X_not, X_min, X_max, X_len_79, X_len_35, XP_nilS, XP_eql, XP_neq, XP_lss, XP_leq, XP_gtr, XP_geq, XP_not, XP_min, XP_max, XP_len_79, XP_eql_nil_24, X_str_eql, X_str_neq, XP_str_eql, XP_str_neq, GS, gs_u, decide_true, decide_false, Option.isNone_some, Option.isSome_some, Option.isNone_none, Option.isSome_none, eq_self, Bool.not_true, Bool.not_false, Int.reduceEq, Int.reduceNe, Int.reduceLT, Int.reduceLE, Int.reduceGT, Int.reduceGE, c, X_field_72_2]))
  refine X_of (run_loadAt agg_3 hl) ?_
  rw [X_lss]
  by_cases h2 : e.len < 1
  · have c : decide (e.len < 1) = true := by simpa using h2
    (repeat (simp only [XP_extract0, XP_extract1, XP_extract2, XP_extract3, X_extract0, X_extract1, X_extract2, X_extract3, X_nilS, X_eql_nil_24, X_neq_nil_24, X_eql_nil_103, X_neq_nil_103, X_eql, X_neq, X_lss, X_leq, X_gtr, X_geq, X_not, X_min, X_max, X_len_79, X_len_35, XP_nilS, XP_eql, XP_neq, XP_lss, XP_leq, XP_gtr, XP_geq, XP_not, XP_min, XP_max, XP_len_79, XP_eql_nil_24, X_str_eql, X_str_neq, XP_str_eql, XP_str_neq, GS, gs_u, decide_true, decide_false, Option.isNone_some, Option.isSome_some, Option.isNone_none, Option.isSome_none, eq_self, Bool.not_true, Bool.not_false, Int.reduceEq, Int.reduceNe, Int.reduceLT, Int.reduceLE, Int.reduceGT, Int.reduceGE, c]))
    exact no (fun h => by have := h.2.1; omega)
  have c : decide (e.len < 1) = false := by simpa using h2
  (repeat (simp only [XP_extract0, XP_extract1, XP_extract2, XP_extract3, X_extract0, X_extract1, X_extract2, X_extract3, X_nilS, X_eql_nil_24, X_neq_nil_24, X_eql_nil_103, X_neq_nil_103, X_eql, X_neq, X_lss, X_leq, X_gtr, X_geq, X_not, X_min, X_max, X_len_79, X_len_35, XP_nilS, XP_eql, XP_neq, XP_lss, XP_leq, XP_gtr, XP_geq, XP_not, XP_min, XP_max, XP_len_79, XP_eql_nil_24, X_str_eql, X_str_neq, XP_str_eql, XP_str_neq, GS, gs_u, decide_true, decide_false, Option.isNone_some, Option.isSome_some, Option.isNone_none, Option.isSome_none, eq_self, Bool.not_true, Bool.not_false, Int.reduceEq, Int.reduceNe, Int.reduceLT, Int.reduceLE, Int.reduceGT, Int.reduceGE, c, X_field_72_1]))
  refine X_of (run_loadAt agg_3 ho) ?_
  rw [X_gtr]
  by_cases h3 : e.off > 4096
  · have c : decide (e.off > 4096) = true := by simpa using h3
    (repeat (simp only [XP_extract0, XP_extract1, XP_extract2, XP_extract3, X_extract0, X_extract1, X_extract2, X_extract3, X_nilS, X_eql_nil_24, X_neq_nil_24, X_eql_nil_103, X_neq_nil_103, X_eql, X_neq, X_lss, X_leq, X_gtr, X_geq, X_not, X_min, X_max, X_len_79, X_len_35, XP_nilS, XP_eql, XP_neq, XP_lss, XP_leq, XP_gtr, XP_geq, XP_not, XP_min, XP_max, XP_len_79, XP_eql_nil_24, X_str_eql, X_str_neq, XP_str_eql, XP_str_neq, GS, gs_u, decide_true, decide_false, Option.isNone_some, Option.isSome_some, Option.isNone_none, Option.isSome_none, eq_self, Bool.not_true, Bool.not_false, Int.reduceEq, Int.reduceNe, Int.reduceLT, Int.reduceLE, Int.reduceGT, Int.reduceGE, c]))
    exact no (fun h => by have := h.2.2.1; omega)
  have c : decide (e.off > 4096) = false := by simpa using h3
  (repeat (simp only [XP_extract0, XP_extract1, XP_extract2, XP_extract3, X_extract0, X_extract1, X_extract2, X_extract3, X_nilS, X_eql_nil_24, X_neq_nil_24, X_eql_nil_103, X_neq_nil_103, X_eql, X_neq, X_lss, X_leq, X_gtr, X_geq, X_not, X_min, X_max, X_len_79, X_len_35, XP_nilS, XP_eql, XP_neq, XP_lss, XP_leq, XP_gtr, XP_geq, XP_not, XP_min, XP_max, XP_len_79, XP_eql_nil_24, X_str_eql, X_str_neq, XP_str_eql, XP_str_neq, GS, gs_u, decide_true, decide_false, Option.isNone_some, Option.isSome_some, Option.isNone_none, Option.isSome_none, eq_self, Bool.not_true, Bool.not_false, Int.reduceEq, Int.reduceNe, Int.reduceLT, Int.reduceLE, Int.reduceGT, Int.reduceGE, c, X_field_72_2]))
  refine X_of (run_loadAt agg_3 hl) ?_
  (repeat (simp only [XP_extract0, XP_extract1, XP_extract2, XP_extract3, X_extract0, X_extract1, X_extract2, X_extract3, X_nilS, X_eql_nil_24, X_neq_nil_24, X_eql_nil_103, X_neq_nil_103, X_eql, X_neq, X_lss, X_leq, X_gtr, X_geq, X_not, X_min, X_max, X_len_79, X_len_35, XP_nilS, XP_eql, XP_neq, XP_lss, XP_leq, XP_gtr, XP_geq, XP_not, XP_min, XP_max, XP_len_79, XP_eql_nil_24, X_str_eql, X_str_neq, XP_str_eql, XP_str_neq, GS, gs_u, decide_true, decide_false, Option.isNone_some, Option.isSome_some, Option.isNone_none, Option.isSome_none, eq_self, Bool.not_true, Bool.not_false, Int.reduceEq, Int.reduceNe, Int.reduceLT, Int.reduceLE, Int.reduceGT, Int.reduceGE, X_field_72_1]))
  refine X_of (run_loadAt agg_3 ho) ?_
  rw [X_sub, w64 (by omega) (by omega), X_gtr]
  have := hK w1 hx
  have ed : decide (¬ right1 e) = decide (e.len > 4096 - e.off) := by
    apply decide_eq_decide.2
    unfold right1
    omega
  rw [ed] at this
  by_cases h4 : e.len > 4096 - e.off
  · have c : decide (e.len > 4096 - e.off) = true := by simpa using h4
    rw [c] at this
    (repeat (simp only [XP_extract0, XP_extract1, XP_extract2, XP_extract3, X_extract0, X_extract1, X_extract2, X_extract3, X_nilS, X_eql_nil_24, X_neq_nil_24, X_eql_nil_103, X_neq_nil_103, X_eql, X_neq, X_lss, X_leq, X_gtr, X_geq, X_not, X_min, X_max, X_len_79, X_len_35, XP_nilS, XP_eql, XP_neq, XP_lss, XP_leq, XP_gtr, XP_geq, XP_not, XP_min, XP_max, XP_len_79, XP_eql_nil_24, X_str_eql, X_str_neq, XP_str_eql, XP_str_neq, GS, gs_u, decide_true, decide_false, Option.isNone_some, Option.isSome_some, Option.isNone_none, Option.isSome_none, eq_self, Bool.not_true, Bool.not_false, Int.reduceEq, Int.reduceNe, Int.reduceLT, Int.reduceLE, Int.reduceGT, Int.reduceGE, c]))
    exact this
  · have c : decide (e.len > 4096 - e.off) = false := by simpa using h4
    rw [c] at this
    (repeat (simp only [XP_extract0, XP_extract1, XP_extract2, XP_extract3, X_extract0, X_extract1, X_extract2, X_extract3, X_nilS, X_eql_nil_24, X_neq_nil_24, X_eql_nil_103, X_neq_nil_103, X_eql, X_neq, X_lss, X_leq, X_gtr, X_geq, X_not, X_min, X_max, X_len_79, X_len_35, XP_nilS, XP_eql, XP_neq, XP_lss, XP_leq, XP_gtr, XP_geq, XP_not, XP_min, XP_max, XP_len_79, XP_eql_nil_24, X_str_eql, X_str_neq, XP_str_eql, XP_str_neq, GS, gs_u, decide_true, decide_false, Option.isNone_some, Option.isSome_some, Option.isNone_none, Option.isSome_none, eq_self, Bool.not_true, Bool.not_false, Int.reduceEq, Int.reduceNe, Int.reduceLT, Int.reduceLE, Int.reduceGT, Int.reduceGE, c]))
    exact this
theorem ext_at {v : Value} {l : List Ex} {i : Nat} (hl : RowK 35 Ex.cs w v l) (hi : i < l.length) :
    ∃ g o, (∀ w', (Instr.indexAt 59 v (.int .i64 (i : Int))).run Try.prog w' = .ok (.pointer (some ⟨g, o, none⟩)) w') ∧ (∀ j u, l[i].cs[j]? = some u → w.cell? ⟨g, o + j, none⟩ = some u) := by
  obtain ⟨ad, hix, hcs⟩ := hl.at Try.underlying59 info_72 sz_72 (kd := .i64) (ii := (i : Int)) i rfl hi
  obtain ⟨g, o, sp⟩ := ad
  have h0 := hcs 0 _ (List.getElem?_eq_getElem (by rw [Ex.cs_len]; omega))
  have : sp = none := by simpa [Addr.add] using World.cell?_spot h0
  subst this
  exact ⟨g, o, hix, fun j u hu => by have := hcs j u hu; rw [add_plain] at this; exact this⟩
theorem run_ext {e : Ex} {g o : Nat} {w0 : World} (hc : ∀ j u, e.cs[j]? = some u → w0.cell? ⟨g, o + j, none⟩ = some u) : (Instr.loadAt 72 (.pointer (some ⟨g, o, none⟩))).run Try.prog w0 = .ok (.agg e.cs.toArray) w0 := by
  refine load_cells Try.underlying72 agg_72 info_72 (l := e.cs) (by rw [sz_72, Ex.cs_len]) (fun j u hj => ?_)
  rw [add_plain]
  exact hc j u hj
/-- An item, taken into a variable of its own. -/
theorem X_takeExt {v : Value} {l : List Ex} {i : Nat} {K : Value → Value → Value → World → Prop} (hl : RowK 35 Ex.cs w v l) (hi : i < l.length)
    (hK : ∀ v1 v2 q w1, Ext w w1 → w.heap.size ≤ q → w1.heap[q]? = some (.cells l[i].cs.toArray 72 (0, 0)) → K v1 v2 (ptr q) w1) :
    X Try.prog (Instr.indexAt 59 v (.int .i64 (i : Int))) w fun v1 w1 => X Try.prog (Instr.loadAt 72 v1) w1 fun v2 w2 => X Try.prog (Instr.alloc 72 true (.tuple #[])) w2 fun v3 w3 => XU Try.prog (Instr.storeAt 72 v3 v2) w3 fun w4 => K v1 v2 v3 w4 := by
  obtain ⟨g, o, hix, hc⟩ := ext_at hl hi
  refine X_of (hix _) ?_
  refine X_of (run_ext hc) ?_
  refine X_alloc zero_72 ?_
  have hq := newB_get w (List.replicate 32 (Value.int .u8 0) ++ [Value.int .u32 0] ++ [Value.int .i64 0, Value.int .i64 0]).toArray 72
  have hxq := newB_ext w (List.replicate 32 (Value.int .u8 0) ++ [Value.int .u32 0] ++ [Value.int .i64 0, Value.int .i64 0]).toArray 72
  show XU _ _ (newB w (List.replicate 32 (Value.int .u8 0) ++ [Value.int .u32 0] ++ [Value.int .i64 0, Value.int .i64 0]).toArray 72) _
  generalize newB w (List.replicate 32 (Value.int .u8 0) ++ [Value.int .u32 0] ++ [Value.int .i64 0, Value.int .i64 0]).toArray 72 = w2 at hq hxq ⊢
  refine XU_storeAgg info_72 hq (by rw [sz_72]; simp) (by rw [sz_72, Ex.cs_len]) (Ex.one _) ?_
  exact hK _ _ _ _ (Ext.seq hxq (setAt_keep _ _ _ _ _) (fun j hj => by omega)) (Nat.le_refl _) (setAt_same (lt_of_blk hq))
theorem ext_len {v : Value} {l : List Ex} (h : RowK 35 Ex.cs w v l) : l.length ≤ 9223372036854775807 := by
  obtain ⟨_, c, _, h1, h2, _⟩ := h
  omega
/-- Is one of them wrong? -/
theorem Any_spec {v : Value} {l : List Ex} (hl : RowK 35 Ex.cs w v l) (hn : l.length ≤ 1000000000) (hK : ∀ w1, Ext w w1 → K (.bool (decide (¬ ∀ e ∈ l, right1 e))) w1) : CALL Try.prog 51 #[v, .func (.func 52) #[] #[]] w K := by
  obtain ⟨a, c, ev⟩ := hl.slice
  have yes : (∃ e ∈ l, ¬ right1 e) → ∀ w1, Ext w w1 → K (.bool true) w1 := by
    intro h w1 hx
    have := hK w1 hx
    have e : decide (¬ ∀ e ∈ l, right1 e) = true := by
      refine decide_eq_true ?_
      intro h'
      obtain ⟨e, he, hr⟩ := h
      exact hr (h' e he)
    rwa [e] at this
  apply call_slices_ContainsFunc_api_Extent
  unfold B_slices_ContainsFunc_api_Extent
  apply call_slices_IndexFunc_api_Extent
  unfold B_slices_IndexFunc_api_Extent
  rw [ev, X_len_59, ← ev]
  refine loopE (fun ρ wr => ∃ i : Nat, i ≤ l.length ∧ Ext w wr ∧ (∀ e ∈ l.take i, right1 e) ∧ ρ 8 = .int .i64 (i : Int) ∧ ρ 7 = .int .i64 (l.length : Int) ∧ ρ 0 = v ∧ ρ 1 = .func (.func 52) #[] #[])
    (fun ρ wr => match ρ 8 with | .int _ s => (l.length - s).toNat | _ => 0)
    (fun ρ wr => Ext w wr ∧ ∀ e ∈ l, right1 e) ?_ ?_ ?_
  · exact ⟨0, by omega, Keep.refl _ _, by simp, rfl, rfl, rfl, rfl⟩
  · rintro J hJ ρ wr ⟨i, hi, hx, hr, r8, r7, r0, r1⟩
    rw [r8, r7, r0, r1, X_lss, condS_bool]
    by_cases hie : i = l.length
    · rw [if_neg (by simp; omega)]
      rw [hie, List.take_of_length_le (Nat.le_refl _)] at hr
      exact hJ _ _ ⟨hx, hr⟩
    rw [if_pos (by simp; omega)]
    have hlt : i < l.length := by omega
    obtain ⟨g, o, hix, hc⟩ := ext_at (hl.ext hx) hlt
    refine X_of (hix _) ?_
    refine X_of (run_ext hc) ?_
    refine closS_of ?_
    refine wrong_spec l[i] ?_
    intro w1 hx1
    have hx01 := hx.trans hx1
    rw [condS_bool]
    by_cases hw : right1 l[i]
    · rw [if_neg (by simpa using hw), X_add]
      show _ ∧ _
      refine ⟨⟨i + 1, by omega, hx01, ?_, next64 (n := 1000000000) (by decide) (by omega), r7, r0, r1⟩, ?_⟩
      · rw [List.take_succ_eq_append_getElem hlt]
        intro e he
        rcases List.mem_append.1 he with he | he
        · exact hr e he
        · rw [List.mem_singleton.1 he]; exact hw
      · show (_ - IntKind.i64.wrap _).toNat < _
        rw [w64 (by omega) (by omega)]
        first | omega | (show _ < (_ : Int).toNat; omega)
    · rw [if_pos (by simpa using hw)]
      show X _ (binOp .geq 3 (.int .i64 (i : Int)) (.int .i64 0)) _ _
      rw [X_geq]
      have c0 : decide ((i : Int) ≥ 0) = true := by simp
      rw [c0]
      exact yes ⟨_, List.getElem_mem hlt, hw⟩ w1 hx01
  · rintro ρ wr ⟨hx, hr⟩
    show X _ (binOp .geq 3 (.int .i64 (-1)) (.int .i64 0)) _ _
    rw [X_geq]
    have := hK wr hx
    have e : decide (¬ ∀ e ∈ l, right1 e) = false := by simpa using hr
    rw [e] at this
    have c0 : decide ((-1 : Int) ≥ 0) = false := by decide
    rw [c0]
    exact this
theorem Right_spec {v : Value} {l : List Ex} (hl : RowK 35 Ex.cs w v l) (hK : ∀ w1, Ext w w1 → K (.bool (decide (RightP l))) w1) : CALL Try.prog 35 #[v] w K := by
  obtain ⟨a, c, ev⟩ := hl.slice
  have hn := ext_len hl
  apply call_extent_Right
  unfold B_extent_Right
  rw [ev, X_len_59, X_leq, ← ev]
  by_cases h : l.length ≤ 16384
  · have c : decide ((l.length : Int) ≤ 16384) = true := by simp; omega
    (repeat (simp only [XP_extract0, XP_extract1, XP_extract2, XP_extract3, X_extract0, X_extract1, X_extract2, X_extract3, X_nilS, X_eql_nil_24, X_neq_nil_24, X_eql_nil_103, X_neq_nil_103, X_eql, X_neq, X_lss, X_leq, X_gtr, X_geq, X_not, X_min, X_max, X_len_79, X_len_35, XP_nilS, XP_eql, XP_neq, XP_lss, XP_leq, XP_gtr, XP_geq, XP_not, XP_min, XP_max, XP_len_79, XP_eql_nil_24, X_str_eql, X_str_neq, XP_str_eql, XP_str_neq, GS, gs_u, decide_true, decide_false, Option.isNone_some, Option.isSome_some, Option.isNone_none, Option.isSome_none, eq_self, Bool.not_true, Bool.not_false, Int.reduceEq, Int.reduceNe, Int.reduceLT, Int.reduceLE, Int.reduceGT, Int.reduceGE, c]))
    refine Any_spec hl (by omega) ?_
    intro w1 hx1
    have := hK w1 hx1
    by_cases hr : ∀ e ∈ l, right1 e
    · have e1 : decide (¬ ∀ e ∈ l, right1 e) = false := by simpa using hr
      have e2 : decide (RightP l) = true := decide_eq_true ⟨h, hr⟩
      rw [e2] at this
      (repeat (simp only [XP_extract0, XP_extract1, XP_extract2, XP_extract3, X_extract0, X_extract1, X_extract2, X_extract3, X_nilS, X_eql_nil_24, X_neq_nil_24, X_eql_nil_103, X_neq_nil_103, X_eql, X_neq, X_lss, X_leq, X_gtr, X_geq, X_not, X_min, X_max, X_len_79, X_len_35, XP_nilS, XP_eql, XP_neq, XP_lss, XP_leq, XP_gtr, XP_geq, XP_not, XP_min, XP_max, XP_len_79, XP_eql_nil_24, X_str_eql, X_str_neq, XP_str_eql, XP_str_neq, GS, gs_u, decide_true, decide_false, Option.isNone_some, Option.isSome_some, Option.isNone_none, Option.isSome_none, eq_self, Bool.not_true, Bool.not_false, Int.reduceEq, Int.reduceNe, Int.reduceLT, Int.reduceLE, Int.reduceGT, Int.reduceGE, e1]))
      exact this
    · have e1 : decide (¬ ∀ e ∈ l, right1 e) = true := decide_eq_true hr
      have e2 : decide (RightP l) = false := decide_eq_false (fun h => hr h.2)
      rw [e2] at this
      (repeat (simp only [XP_extract0, XP_extract1, XP_extract2, XP_extract3, X_extract0, X_extract1, X_extract2, X_extract3, X_nilS, X_eql_nil_24, X_neq_nil_24, X_eql_nil_103, X_neq_nil_103, X_eql, X_neq, X_lss, X_leq, X_gtr, X_geq, X_not, X_min, X_max, X_len_79, X_len_35, XP_nilS, XP_eql, XP_neq, XP_lss, XP_leq, XP_gtr, XP_geq, XP_not, XP_min, XP_max, XP_len_79, XP_eql_nil_24, X_str_eql, X_str_neq, XP_str_eql, XP_str_neq, GS, gs_u, decide_true, decide_false, Option.isNone_some, Option.isSome_some, Option.isNone_none, Option.isSome_none, eq_self, Bool.not_true, Bool.not_false, Int.reduceEq, Int.reduceNe, Int.reduceLT, Int.reduceLE, Int.reduceGT, Int.reduceGE, e1]))
      exact this
  · have c : decide ((l.length : Int) ≤ 16384) = false := by simp; omega
    have e2 : decide (RightP l) = false := decide_eq_false (fun h' => h h'.1)
    have := hK w (Keep.refl _ _)
    rw [e2] at this
    (repeat (simp only [XP_extract0, XP_extract1, XP_extract2, XP_extract3, X_extract0, X_extract1, X_extract2, X_extract3, X_nilS, X_eql_nil_24, X_neq_nil_24, X_eql_nil_103, X_neq_nil_103, X_eql, X_neq, X_lss, X_leq, X_gtr, X_geq, X_not, X_min, X_max, X_len_79, X_len_35, XP_nilS, XP_eql, XP_neq, XP_lss, XP_leq, XP_gtr, XP_geq, XP_not, XP_min, XP_max, XP_len_79, XP_eql_nil_24, X_str_eql, X_str_neq, XP_str_eql, XP_str_neq, GS, gs_u, decide_true, decide_false, Option.isNone_some, Option.isSome_some, Option.isNone_none, Option.isSome_none, eq_self, Bool.not_true, Bool.not_false, Int.reduceEq, Int.reduceNe, Int.reduceLT, Int.reduceLE, Int.reduceGT, Int.reduceGE, c]))
    exact this
def totE (l : List Ex) : Int := (l.map Ex.len).sum
theorem totE_succ (l : List Ex) (i : Nat) (h : i < l.length) : totE (l.take (i + 1)) = totE (l.take i) + l[i].len := by
  unfold totE
  rw [List.take_succ_eq_append_getElem h, List.map_append, List.sum_append]
  simp
theorem totE_bound {l : List Ex} (h : ∀ e ∈ l, right1 e) (i : Nat) : 0 ≤ totE (l.take i) ∧ totE (l.take i) ≤ 4096 * (l.take i).length := by
  unfold totE
  induction l generalizing i with
  | nil => simp
  | cons e l ih =>
    cases i with
    | zero => simp
    | succ i =>
      have := ih (fun e he => h e (by simp [he])) i
      have h1 := h e (by simp)
      unfold right1 at h1
      simp only [List.take_succ_cons, List.map_cons, List.sum_cons, List.length_cons]
      omega
def totalE (l : List Ex) : Int := if RightP l then totE l else 0
theorem Total_spec {v : Value} {l : List Ex} (hl : RowK 35 Ex.cs w v l) (hK : ∀ w1, Ext w w1 → K (i64v (totalE l)) w1) : CALL Try.prog 36 #[v] w K := by
  obtain ⟨a, c, ev⟩ := hl.slice
  apply call_extent_Total
  unfold B_extent_Total
  refine Right_spec hl ?_
  intro w1 hx1
  by_cases hr : RightP l
  case neg =>
    have c : decide (RightP l) = false := decide_eq_false hr
    (repeat (simp only [XP_extract0, XP_extract1, XP_extract2, XP_extract3, X_extract0, X_extract1, X_extract2, X_extract3, X_nilS, X_eql_nil_24, X_neq_nil_24, X_eql_nil_103, X_neq_nil_103, X_eql, X_neq, X_lss, X_leq, X_gtr, X_geq, X_not, X_min, X_max, X_len_79, X_len_35, XP_nilS, XP_eql, XP_neq, XP_lss, XP_leq, XP_gtr, XP_geq, XP_not, XP_min, XP_max, XP_len_79, XP_eql_nil_24, X_str_eql, X_str_neq, XP_str_eql, XP_str_neq, GS, gs_u, decide_true, decide_false, Option.isNone_some, Option.isSome_some, Option.isNone_none, Option.isSome_none, eq_self, Bool.not_true, Bool.not_false, Int.reduceEq, Int.reduceNe, Int.reduceLT, Int.reduceLE, Int.reduceGT, Int.reduceGE, c]))
    have := hK w1 hx1
    unfold totalE at this
    rw [if_neg hr] at this
    exact this
  have c : decide (RightP l) = true := decide_eq_true hr
  (repeat (simp only [XP_extract0, XP_extract1, XP_extract2, XP_extract3, X_extract0, X_extract1, X_extract2, X_extract3, X_nilS, X_eql_nil_24, X_neq_nil_24, X_eql_nil_103, X_neq_nil_103, X_eql, X_neq, X_lss, X_leq, X_gtr, X_geq, X_not, X_min, X_max, X_len_79, X_len_35, XP_nilS, XP_eql, XP_neq, XP_lss, XP_leq, XP_gtr, XP_geq, XP_not, XP_min, XP_max, XP_len_79, XP_eql_nil_24, X_str_eql, X_str_neq, XP_str_eql, XP_str_neq, GS, gs_u, decide_true, decide_false, Option.isNone_some, Option.isSome_some, Option.isNone_none, Option.isSome_none, eq_self, Bool.not_true, Bool.not_false, Int.reduceEq, Int.reduceNe, Int.reduceLT, Int.reduceLE, Int.reduceGT, Int.reduceGE, c]))
  have hn := hr.1
  rw [ev, X_len_59, ← ev]
  refine loopE (fun ρ wr => ∃ i : Nat, i ≤ l.length ∧ Ext w wr ∧ ρ 11 = .int .i64 (i : Int) ∧ ρ 10 = .int .i64 (l.length : Int) ∧ ρ 9 = v ∧ ρ 3 = .int .i64 (totE (l.take i)))
    (fun ρ wr => match ρ 11 with | .int _ s => (l.length - s).toNat | _ => 0)
    (fun ρ wr => Ext w wr ∧ ρ 3 = .int .i64 (totE l)) ?_ ?_ ?_
  · exact ⟨0, by omega, hx1, rfl, rfl, rfl, rfl⟩
  · rintro J hJ ρ wr ⟨i, hi, hx, r11, r10, r9, r3⟩
    rw [r11, r10, r9, r3, X_lss, condS_bool]
    by_cases hie : i = l.length
    · rw [if_neg (by simp; omega)]
      refine hJ _ _ ⟨hx, ?_⟩
      show ρ 3 = _
      rw [r3, hie, List.take_of_length_le (Nat.le_refl _)]
    rw [if_pos (by simp; omega)]
    have hlt : i < l.length := by omega
    refine X_takeExt (hl.ext hx) hlt ?_
    intro u1 u2 q w4 hx4 hq hqb
    have hs := totE_succ l i hlt
    obtain ⟨b1, b2⟩ := totE_bound hr.2 (i + 1)
    obtain ⟨b3, b4⟩ := totE_bound hr.2 i
    rw [List.length_take] at b2 b4
    rw [X_field_72_2]
    refine X_of (run_loadAt agg_3 ((cell_blk hqb).trans (by simpa using l[i].lenAt))) ?_
    rw [X_add, w64 (by omega) (by omega), ← hs, X_add]
    show _ ∧ _
    refine ⟨⟨i + 1, by omega, hx.trans hx4, next64 (n := 1000000) (by decide) (by omega), r10, r9, rfl⟩, ?_⟩
    show (_ - IntKind.i64.wrap _).toNat < _
    rw [w64 (by omega) (by omega)]
    first | omega | (show _ < (_ : Int).toNat; omega)
  · rintro ρ wr ⟨hx, r3⟩
    rw [r3]
    have := hK wr hx
    unfold totalE at this
    rw [if_pos hr] at this
    exact this
end
end Go.Proofs.Ytlnkdphecinnnaa
end
section
set_option linter.unusedVariables false
namespace Go.Proofs.Ytlnkdphecinnnaa
open Go Go.Sh
attribute [local irreducible] X XU XP XR CALL loopS resC closS
/-- cellarage/cellaragelaw16.few -/
def B_law16_few (x0 : Value) (w : World) (K : Value → World → Prop) : Prop :=
  X Try.prog (Builtin.len_ #[59] 3 #[x0]) w fun v1_5 w1 =>
  X Try.prog (Builtin.min_ #[3, 3] 3 #[v1_5, (.int .i64 500)]) w1 fun v2_6 w2 =>
  X Try.prog (Instr.sliceAt 59 x0 none (some v2_6) none) w2 fun v3_7 w3 =>
  K v3_7 w3

theorem eq_law16_few (x0 : Value) (w : World) (K : Value → World → Prop) :
    sh Try.prog (Try.f31.body.getD .skip) (retS Try.prog Try.f31.results K) (env0 #[x0]) w = B_law16_few x0 w K := by kernel_rfl

theorem call_law16_few (x0 : Value) (w : World) (K : Value → World → Prop) (h : B_law16_few x0 w K) : CALL Try.prog 31 #[x0] w K :=
  call_of_eq (c := Try.f31.body.getD .skip) mixed Try.func31 (by kernel_rfl) (by kernel_rfl) (by kernel_rfl) (Nat.le_of_ble_eq_true (by kernel_rfl)) (eq_law16_few x0 w K) h

/-- cellarage/cellaragelaw16.ExtentSlices -/
def B_law16_ExtentSlices (x0 x1 x2 : Value) (w : World) (K : Value → World → Prop) : Prop :=
  CALL Try.prog 28 #[] w fun v1_7 w1 =>
  gstep v1_7 true (fun w2 K => K x0 w2) w1 fun v2_9 w3 =>
  gstep v1_7 true (fun w4 K => CALL Try.prog 31 #[v2_9] w4 K) w3 fun v3_10 w5 =>
  gstep v1_7 true (fun w6 K => K x1 w6) w5 fun v4_11 w7 =>
  gstep v1_7 true (fun w8 K => K x2 w8) w7 fun v5_12 w9 =>
  gstep v1_7 true (fun w10 K => CALL Try.prog 30 #[v3_10, v4_11, v5_12] w10 K) w9 fun v6_13 w11 =>
  gstep v1_7 true (fun w12 K => K x0 w12) w11 fun v7_14 w13 =>
  gstep v1_7 true (fun w14 K => CALL Try.prog 31 #[v7_14] w14 K) w13 fun v8_15 w15 =>
  gstep v1_7 true (fun w16 K => K x1 w16) w15 fun v9_16 w17 =>
  gstep v1_7 true (fun w18 K => K x2 w18) w17 fun v10_17 w19 =>
  gstep v1_7 true (fun w20 K => CALL Try.prog 32 #[v8_15, v9_16, v10_17] w20 K) w19 fun v11_18 w21 =>
  gstep v1_7 true (fun w22 K => CALL Try.prog 29 #[v6_13, v11_18] w22 K) w21 fun v12_19 w23 =>
  X Try.prog (pickS v1_7 v12_19 (.bool false)) w23 fun v13_20 w24 =>
  K v13_20 w24

theorem eq_law16_ExtentSlices (x0 x1 x2 : Value) (w : World) (K : Value → World → Prop) :
    sh Try.prog (Try.f8.body.getD .skip) (retS Try.prog Try.f8.results K) (env0 #[x0, x1, x2]) w = B_law16_ExtentSlices x0 x1 x2 w K := by kernel_rfl

theorem call_law16_ExtentSlices (x0 x1 x2 : Value) (w : World) (K : Value → World → Prop) (h : B_law16_ExtentSlices x0 x1 x2 w K) : CALL Try.prog 8 #[x0, x1, x2] w K :=
  call_of_eq (c := Try.f8.body.getD .skip) mixed Try.func8 (by kernel_rfl) (by kernel_rfl) (by kernel_rfl) (Nat.le_of_ble_eq_true (by kernel_rfl)) (eq_law16_ExtentSlices x0 x1 x2 w K) h

/-- cellarage/cellaragelaw16.ExtentJoins -/
def B_law16_ExtentJoins (x0 : Value) (w : World) (K : Value → World → Prop) : Prop :=
  X Try.prog (Builtin.len_ #[64] 3 #[x0]) w fun v1_6 w1 =>
  loopS (fun Q1 ρ1 w2 =>
  X Try.prog (binOp .lss 3 (ρ1 7) (ρ1 6)) w2 fun v2_8 w3 =>
  condS v2_8 (
  joinS (fun ρ2 w4 =>
  X Try.prog (binOp .add 3 (ρ2 7) (.int .i64 1)) w4 fun v3_20 w5 =>
  Q1 .normal (upds ρ2 [(7, v3_20), (20, v3_20)]) w5) fun J2 =>
  X Try.prog (binOp .lss 3 (ρ1 7) (.int .i64 10)) w3 fun v4_11 w6 =>
  condS v4_11 (
  X Try.prog (Instr.indexAt 64 (ρ1 0) (ρ1 7)) w6 fun v5_15 w7 =>
  X Try.prog (Instr.loadAt 59 v5_15) w7 fun v6_16 w8 =>
  CALL Try.prog 31 #[v6_16] w8 fun v7_17 w9 =>
  X Try.prog (Instr.buildSlice 64 1 #[(0, v7_17)]) w9 fun v8_18 w10 =>
  X Try.prog (Builtin.append_ #[64, 64] 64 #[(ρ1 3), v8_18]) w10 fun v9_19 w11 =>
  J2 (upds ρ1 [(3, v9_19), (19, v9_19), (18, v8_18), (17, v7_17), (16, v6_16), (15, v5_15), (14, (ρ1 7)), (13, (ρ1 0)), (12, (ρ1 3)), (11, v4_11), (10, (ρ1 7)), (4, (ρ1 7)), (9, (ρ1 7)), (8, v2_8)]) w11) (
  J2 (upds ρ1 [(11, v4_11), (10, (ρ1 7)), (4, (ρ1 7)), (9, (ρ1 7)), (8, v2_8)]) w6)) (
  Q1 (.exit 0) (upds ρ1 [(8, v2_8)]) w3)) (inBlockS 0 (thenS (fun ρ3 w12 =>
  CALL Try.prog 28 #[] w12 fun v10_21 w13 =>
  gstep v10_21 true (fun w14 K => K (ρ3 3) w14) w13 fun v11_23 w15 =>
  gstep v10_21 true (fun w16 K => CALL Try.prog 33 #[v11_23] w16 K) w15 fun v12_24 w17 =>
  gstep v10_21 true (fun w18 K => K (ρ3 3) w18) w17 fun v13_25 w19 =>
  gstep v10_21 true (fun w20 K => CALL Try.prog 34 #[v13_25] w20 K) w19 fun v14_26 w21 =>
  gstep v10_21 true (fun w22 K => CALL Try.prog 29 #[v12_24, v14_26] w22 K) w21 fun v15_27 w23 =>
  X Try.prog (pickS v10_21 v15_27 (.bool false)) w23 fun v16_28 w24 =>
  K v16_28 w24) (retS Try.prog (Try.f9).results K))) (upds (env0 #[x0]) [(7, (.int .i64 0)), (6, v1_6), (5, x0), (3, (.slice none 0 0)), (2, (.bool false))]) w1

theorem eq_law16_ExtentJoins (x0 : Value) (w : World) (K : Value → World → Prop) :
    sh Try.prog (Try.f9.body.getD .skip) (retS Try.prog Try.f9.results K) (env0 #[x0]) w = B_law16_ExtentJoins x0 w K := by kernel_rfl

theorem call_law16_ExtentJoins (x0 : Value) (w : World) (K : Value → World → Prop) (h : B_law16_ExtentJoins x0 w K) : CALL Try.prog 9 #[x0] w K :=
  call_of_eq (c := Try.f9.body.getD .skip) mixed Try.func9 (by kernel_rfl) (by kernel_rfl) (by kernel_rfl) (Nat.le_of_ble_eq_true (by kernel_rfl)) (eq_law16_ExtentJoins x0 w K) h

def B_law16_ExtentCuts_c1 (ρ1 : Env) (w27 : World) (K : Value → World → Prop) (Q1 : Exit → Env → World → Prop) (v17_34 : Value) (v16_33 : Value) : Prop :=
  ∃ R, Frame? R ∧
  XP Try.prog (Instr.indexAt 59 (ρ1 6) (ρ1 7)) (drewW w27) fun v18_39 w28 =>
  XP Try.prog (Instr.fieldAt 72 v18_39 0) w28 fun v19_40 w29 =>
  XR Try.prog R (Instr.loadAt 44 v19_40) w29 fun v20_41 w30 =>
  XP Try.prog (binOp .sub 3 (ρ1 7) (.int .i64 1)) w30 fun v21_44 w31 =>
  XP Try.prog (Instr.indexAt 59 (ρ1 6) v21_44) w31 fun v22_45 w32 =>
  XP Try.prog (Instr.fieldAt 72 v22_45 0) w32 fun v23_46 w33 =>
  XR Try.prog R (Instr.loadAt 44 v23_46) w33 fun v24_47 w34 =>
  XP Try.prog (binOpG .eql 44 (.tmp 41) (.tmp 47) v20_41 v24_47) w34 fun v25_48 w35 =>
  gstep v25_48 true (fun w36 K => K (ρ1 6) w36) w35 fun v26_50 w37 =>
  gstep v25_48 true (fun w38 K => K (ρ1 7) w38) w37 fun v27_51 w39 =>
  gstep v25_48 true (fun w40 K => XP Try.prog (Instr.indexAt 59 v26_50 v27_51) w40 K) w39 fun v28_52 w41 =>
  gstep v25_48 true (fun w42 K => XP Try.prog (Instr.fieldAt 72 v28_52 1) w42 K) w41 fun v29_53 w43 =>
  gstep v25_48 true (fun w44 K => XR Try.prog R (Instr.loadAt 3 v29_53) w44 K) w43 fun v30_54 w45 =>
  gstep v25_48 true (fun w46 K => K (ρ1 6) w46) w45 fun v31_55 w47 =>
  gstep v25_48 true (fun w48 K => K (ρ1 7) w48) w47 fun v32_56 w49 =>
  gstep v25_48 true (fun w50 K => XP Try.prog (binOp .sub 3 v32_56 (.int .i64 1)) w50 K) w49 fun v33_57 w51 =>
  gstep v25_48 true (fun w52 K => XP Try.prog (Instr.indexAt 59 v31_55 v33_57) w52 K) w51 fun v34_58 w53 =>
  gstep v25_48 true (fun w54 K => XP Try.prog (Instr.fieldAt 72 v34_58 1) w54 K) w53 fun v35_59 w55 =>
  gstep v25_48 true (fun w56 K => XR Try.prog R (Instr.loadAt 3 v35_59) w56 K) w55 fun v36_60 w57 =>
  gstep v25_48 true (fun w58 K => K (ρ1 6) w58) w57 fun v37_61 w59 =>
  gstep v25_48 true (fun w60 K => K (ρ1 7) w60) w59 fun v38_62 w61 =>
  gstep v25_48 true (fun w62 K => XP Try.prog (binOp .sub 3 v38_62 (.int .i64 1)) w62 K) w61 fun v39_63 w63 =>
  gstep v25_48 true (fun w64 K => XP Try.prog (Instr.indexAt 59 v37_61 v39_63) w64 K) w63 fun v40_64 w65 =>
  gstep v25_48 true (fun w66 K => XP Try.prog (Instr.fieldAt 72 v40_64 2) w66 K) w65 fun v41_65 w67 =>
  gstep v25_48 true (fun w68 K => XR Try.prog R (Instr.loadAt 3 v41_65) w68 K) w67 fun v42_66 w69 =>
  gstep v25_48 true (fun w70 K => XP Try.prog (binOp .add 3 v36_60 v42_66) w70 K) w69 fun v43_67 w71 =>
  gstep v25_48 true (fun w72 K => XP Try.prog (binOpG .eql 3 (.tmp 54) (.tmp 67) v30_54 v43_67) w72 K) w71 fun v44_68 w73 =>
  XP Try.prog (pickS v25_48 v44_68 (.bool false)) w73 fun v45_69 w74 =>
  condS v45_69 (
  Q1 .ret (upds ρ1 [(4, (ρ1 5)), (70, (ρ1 5)), (69, v45_69), (68, v44_68), (67, v43_67), (66, v42_66), (65, v41_65), (64, v40_64), (63, v39_63), (62, v38_62), (61, v37_61), (60, v36_60), (59, v35_59), (58, v34_58), (57, v33_57), (56, v32_56), (55, v31_55), (54, v30_54), (53, v29_53), (52, v28_52), (51, v27_51), (50, v26_50), (49, v25_48), (48, v25_48), (47, v24_47), (46, v23_46), (45, v22_45), (44, v21_44), (43, (ρ1 7)), (42, (ρ1 6)), (41, v20_41), (40, v19_40), (39, v18_39), (38, (ρ1 7)), (37, (ρ1 6)), (34, v17_34), (33, v16_33), (32, (ρ1 6)), (31, (ρ1 7))]) w74) (
  X Try.prog (binOp .add 3 (ρ1 7) (.int .i64 1)) w74 fun v46_36 w75 =>
  Q1 .normal (upds ρ1 [(7, v46_36), (36, v46_36), (35, (ρ1 7)), (69, v45_69), (68, v44_68), (67, v43_67), (66, v42_66), (65, v41_65), (64, v40_64), (63, v39_63), (62, v38_62), (61, v37_61), (60, v36_60), (59, v35_59), (58, v34_58), (57, v33_57), (56, v32_56), (55, v31_55), (54, v30_54), (53, v29_53), (52, v28_52), (51, v27_51), (50, v26_50), (49, v25_48), (48, v25_48), (47, v24_47), (46, v23_46), (45, v22_45), (44, v21_44), (43, (ρ1 7)), (42, (ρ1 6)), (41, v20_41), (40, v19_40), (39, v18_39), (38, (ρ1 7)), (37, (ρ1 6)), (34, v17_34), (33, v16_33), (32, (ρ1 6)), (31, (ρ1 7))]) w75)

def B_law16_ExtentCuts_c2 (K : Value → World → Prop) (x0 : Value) (x1 : Value) (v4_16 : Value) (v3_15 : Value) (v2_13 : Value) (v1_11 : Value) (w4 : World) : Prop :=
  loopS (fun Q1 ρ1 w25 =>
  X Try.prog (Builtin.len_ #[59] 3 #[(ρ1 6)]) w25 fun v16_33 w26 =>
  X Try.prog (binOp .lss 3 (ρ1 7) v16_33) w26 fun v17_34 w27 =>
  condS v17_34 (
  B_law16_ExtentCuts_c1 ρ1 w27 K Q1 v17_34 v16_33) (
  Q1 (.exit 0) (upds ρ1 [(34, v17_34), (33, v16_33), (32, (ρ1 6)), (31, (ρ1 7))]) w27)) (inBlockS 0 (thenS (fun ρ2 w76 =>
  X Try.prog (convert 68 3 (ρ2 1)) w76 fun v47_72 w77 =>
  CALL Try.prog 36 #[(ρ2 6)] w77 fun v48_74 w78 =>
  X Try.prog (binOp .add 3 v48_74 (.int .i64 1)) w78 fun v49_75 w79 =>
  X Try.prog (binOp .rem 3 v47_72 v49_75) w79 fun v50_76 w80 =>
  CALL Try.prog 30 #[(ρ2 6), (.int .i64 0), v50_76] w80 fun v51_79 w81 =>
  CALL Try.prog 30 #[(ρ2 6), v50_76, (.int .i64 4611686018427387904)] w81 fun v52_82 w82 =>
  gstep (ρ2 5) true (fun w83 K => K v51_79 w83) w82 fun v53_85 w84 =>
  gstep (ρ2 5) true (fun w85 K => CALL Try.prog 36 #[v53_85] w85 K) w84 fun v54_86 w86 =>
  gstep (ρ2 5) true (fun w87 K => K v50_76 w87) w86 fun v55_87 w88 =>
  gstep (ρ2 5) true (fun w89 K => X Try.prog (binOpG .eql 3 (.tmp 86) (.tmp 87) v54_86 v55_87) w89 K) w88 fun v56_88 w90 =>
  X Try.prog (pickS (ρ2 5) v56_88 (.bool false)) w90 fun v57_89 w91 =>
  gstep v57_89 true (fun w92 K => K v52_82 w92) w91 fun v58_91 w93 =>
  gstep v57_89 true (fun w94 K => CALL Try.prog 36 #[v58_91] w94 K) w93 fun v59_92 w95 =>
  gstep v57_89 true (fun w96 K => K (ρ2 6) w96) w95 fun v60_93 w97 =>
  gstep v57_89 true (fun w98 K => CALL Try.prog 36 #[v60_93] w98 K) w97 fun v61_94 w99 =>
  gstep v57_89 true (fun w100 K => K v50_76 w100) w99 fun v62_95 w101 =>
  gstep v57_89 true (fun w102 K => X Try.prog (binOp .sub 3 v61_94 v62_95) w102 K) w101 fun v63_96 w103 =>
  gstep v57_89 true (fun w104 K => X Try.prog (binOpG .eql 3 (.tmp 92) (.tmp 96) v59_92 v63_96) w104 K) w103 fun v64_97 w105 =>
  X Try.prog (pickS v57_89 v64_97 (.bool false)) w105 fun v65_98 w106 =>
  gstep v65_98 true (fun w107 K => K v51_79 w107) w106 fun v66_100 w108 =>
  gstep v65_98 true (fun w109 K => K v52_82 w109) w108 fun v67_101 w110 =>
  gstep v65_98 true (fun w111 K => X Try.prog (Instr.buildSlice 64 2 #[(0, v66_100), (1, v67_101)]) w111 K) w110 fun v68_102 w112 =>
  gstep v65_98 true (fun w113 K => CALL Try.prog 33 #[v68_102] w113 K) w112 fun v69_103 w114 =>
  gstep v65_98 true (fun w115 K => K (ρ2 6) w115) w114 fun v70_104 w116 =>
  gstep v65_98 true (fun w117 K => CALL Try.prog 29 #[v69_103, v70_104] w117 K) w116 fun v71_105 w118 =>
  X Try.prog (pickS v65_98 v71_105 (.bool false)) w118 fun v72_106 w119 =>
  K v72_106 w119) (retS Try.prog (Try.f10).results K))) (upds (env0 #[x0, x1]) [(7, (.int .i64 1)), (16, v4_16), (15, v3_15), (14, v2_13), (6, v2_13), (13, v2_13), (12, x0), (5, v1_11), (11, v1_11), (4, (.bool false))]) w4

/-- cellarage/cellaragelaw16.ExtentCuts -/
def B_law16_ExtentCuts (x0 x1 : Value) (w : World) (K : Value → World → Prop) : Prop :=
  CALL Try.prog 28 #[] w fun v1_11 w1 =>
  CALL Try.prog 31 #[x0] w1 fun v2_13 w2 =>
  CALL Try.prog 35 #[v2_13] w2 fun v3_15 w3 =>
  X Try.prog (Op.unary .not v3_15) w3 fun v4_16 w4 =>
  condS v4_16 (
  gstep v1_11 true (fun w5 K => K v2_13 w5) w4 fun v5_19 w6 =>
  gstep v1_11 true (fun w7 K => K x1 w7) w6 fun v6_20 w8 =>
  gstep v1_11 true (fun w9 K => X Try.prog (convert 68 3 v6_20) w9 K) w8 fun v7_21 w10 =>
  gstep v1_11 true (fun w11 K => CALL Try.prog 30 #[v5_19, (.int .i64 0), v7_21] w11 K) w10 fun v8_22 w12 =>
  gstep v1_11 true (fun w13 K => X Try.prog (Builtin.len_ #[59] 3 #[v8_22]) w13 K) w12 fun v9_23 w14 =>
  gstep v1_11 true (fun w15 K => X Try.prog (binOpG .eql 3 (.tmp 23) (.const (.int .i64 0)) v9_23 (.int .i64 0)) w15 K) w14 fun v10_24 w16 =>
  X Try.prog (pickS v1_11 v10_24 (.bool false)) w16 fun v11_25 w17 =>
  gstep v11_25 true (fun w18 K => K v2_13 w18) w17 fun v12_27 w19 =>
  gstep v11_25 true (fun w20 K => CALL Try.prog 36 #[v12_27] w20 K) w19 fun v13_28 w21 =>
  gstep v11_25 true (fun w22 K => X Try.prog (binOpG .eql 3 (.tmp 28) (.const (.int .i64 0)) v13_28 (.int .i64 0)) w22 K) w21 fun v14_29 w23 =>
  X Try.prog (pickS v11_25 v14_29 (.bool false)) w23 fun v15_30 w24 =>
  K v15_30 w24) (
  B_law16_ExtentCuts_c2 K x0 x1 v4_16 v3_15 v2_13 v1_11 w4)

theorem eq_law16_ExtentCuts (x0 x1 : Value) (w : World) (K : Value → World → Prop) :
    sh Try.prog (Try.f10.body.getD .skip) (retS Try.prog Try.f10.results K) (env0 #[x0, x1]) w = B_law16_ExtentCuts x0 x1 w K := by kernel_rfl

theorem call_law16_ExtentCuts (x0 x1 : Value) (w : World) (K : Value → World → Prop) (h : B_law16_ExtentCuts x0 x1 w K) : CALL Try.prog 10 #[x0, x1] w K :=
  call_of_eq (c := Try.f10.body.getD .skip) mixed Try.func10 (by kernel_rfl) (by kernel_rfl) (by kernel_rfl) (Nat.le_of_ble_eq_true (by kernel_rfl)) (eq_law16_ExtentCuts x0 x1 w K) h

def B_law16_ExtentTwice_c1 (v1_3 : Value) (w3 : World) (v3_15 : Value) (v2_13 : Value) (K : Value → World → Prop) : Prop :=
  ∃ R, Frame? R ∧
  XP Try.prog (Instr.indexAt 74 v1_3 (.int .i64 0)) (drewW w3) fun v4_16 w4 =>
  XR Try.prog R (Instr.loadAt 68 v4_16) w4 fun v5_17 w5 =>
  XR Try.prog R (convert 68 3 v5_17) w5 fun v6_18 w6 =>
  XP Try.prog (Instr.indexAt 74 v1_3 (.int .i64 1)) w6 fun v7_19 w7 =>
  XR Try.prog R (Instr.loadAt 68 v7_19) w7 fun v8_20 w8 =>
  XR Try.prog R (convert 68 3 v8_20) w8 fun v9_21 w9 =>
  XP Try.prog (Instr.indexAt 74 v1_3 (.int .i64 2)) w9 fun v10_22 w10 =>
  XR Try.prog R (Instr.loadAt 68 v10_22) w10 fun v11_23 w11 =>
  XR Try.prog R (convert 68 3 v11_23) w11 fun v12_24 w12 =>
  XP Try.prog (Instr.indexAt 74 v1_3 (.int .i64 3)) w12 fun v13_25 w13 =>
  XR Try.prog R (Instr.loadAt 68 v13_25) w13 fun v14_26 w14 =>
  XR Try.prog R (convert 68 3 v14_26) w14 fun v15_27 w15 =>
  CALL Try.prog 30 #[v3_15, v6_18, v9_21] w15 fun v16_31 w16 =>
  CALL Try.prog 30 #[v16_31, v12_24, v15_27] w16 fun v17_35 w17 =>
  gstep v2_13 true (fun w18 K => K v17_35 w18) w17 fun v18_38 w19 =>
  gstep v2_13 true (fun w20 K => K v3_15 w20) w19 fun v19_39 w21 =>
  gstep v2_13 true (fun w22 K => K v6_18 w22) w21 fun v20_40 w23 =>
  gstep v2_13 true (fun w24 K => K v12_24 w24) w23 fun v21_41 w25 =>
  gstep v2_13 true (fun w26 K => X Try.prog (binOp .add 3 v20_40 v21_41) w26 K) w25 fun v22_42 w27 =>
  gstep v2_13 true (fun w28 K => K v15_27 w28) w27 fun v23_43 w29 =>
  gstep v2_13 true (fun w30 K => K v9_21 w30) w29 fun v24_44 w31 =>
  gstep v2_13 true (fun w32 K => K v12_24 w32) w31 fun v25_45 w33 =>
  gstep v2_13 true (fun w34 K => X Try.prog (binOp .sub 3 v24_44 v25_45) w34 K) w33 fun v26_46 w35 =>
  gstep v2_13 true (fun w36 K => X Try.prog (Builtin.min_ #[3, 3] 3 #[v23_43, v26_46]) w36 K) w35 fun v27_47 w37 =>
  gstep v2_13 true (fun w38 K => CALL Try.prog 30 #[v19_39, v22_42, v27_47] w38 K) w37 fun v28_48 w39 =>
  gstep v2_13 true (fun w40 K => CALL Try.prog 29 #[v18_38, v28_48] w40 K) w39 fun v29_49 w41 =>
  X Try.prog (pickS v2_13 v29_49 (.bool false)) w41 fun v30_50 w42 =>
  gstep v30_50 true (fun w43 K => K v16_31 w43) w42 fun v31_52 w44 =>
  gstep v30_50 true (fun w45 K => CALL Try.prog 36 #[v31_52] w45 K) w44 fun v32_53 w46 =>
  gstep v30_50 true (fun w47 K => K v9_21 w47) w46 fun v33_54 w48 =>
  gstep v30_50 true (fun w49 K => K v3_15 w49) w48 fun v34_55 w50 =>
  gstep v30_50 true (fun w51 K => CALL Try.prog 36 #[v34_55] w51 K) w50 fun v35_56 w52 =>
  gstep v30_50 true (fun w53 K => K v6_18 w53) w52 fun v36_57 w54 =>
  gstep v30_50 true (fun w55 K => X Try.prog (binOp .sub 3 v35_56 v36_57) w55 K) w54 fun v37_58 w56 =>
  gstep v30_50 true (fun w57 K => X Try.prog (Builtin.min_ #[3, 3] 3 #[v33_54, v37_58]) w57 K) w56 fun v38_59 w58 =>
  gstep v30_50 true (fun w59 K => X Try.prog (Builtin.max_ #[3, 3] 3 #[(.int .i64 0), v38_59]) w59 K) w58 fun v39_60 w60 =>
  gstep v30_50 true (fun w61 K => X Try.prog (binOpG .eql 3 (.tmp 53) (.tmp 60) v32_53 v39_60) w61 K) w60 fun v40_61 w62 =>
  X Try.prog (pickS v30_50 v40_61 (.bool false)) w62 fun v41_62 w63 =>
  K v41_62 w63

/-- cellarage/cellaragelaw16.ExtentTwice -/
def B_law16_ExtentTwice (x0 x1 : Value) (w : World) (K : Value → World → Prop) : Prop :=
  X Try.prog (Instr.box 74 x1) w fun v1_3 w1 =>
  CALL Try.prog 28 #[] w1 fun v2_13 w2 =>
  CALL Try.prog 31 #[x0] w2 fun v3_15 w3 =>
  B_law16_ExtentTwice_c1 v1_3 w3 v3_15 v2_13 K

theorem eq_law16_ExtentTwice (x0 x1 : Value) (w : World) (K : Value → World → Prop) :
    sh Try.prog (Try.f11.body.getD .skip) (retS Try.prog Try.f11.results K) (env0 #[x0, x1]) w = B_law16_ExtentTwice x0 x1 w K := by kernel_rfl

theorem call_law16_ExtentTwice (x0 x1 : Value) (w : World) (K : Value → World → Prop) (h : B_law16_ExtentTwice x0 x1 w K) : CALL Try.prog 11 #[x0, x1] w K :=
  call_of_eq (c := Try.f11.body.getD .skip) mixed Try.func11 (by kernel_rfl) (by kernel_rfl) (by kernel_rfl) (Nat.le_of_ble_eq_true (by kernel_rfl)) (eq_law16_ExtentTwice x0 x1 w K) h

/-- cellarage/cellaragelaw16.ExtentRights -/
def B_law16_ExtentRights (x0 : Value) (w : World) (K : Value → World → Prop) : Prop :=
  CALL Try.prog 31 #[x0] w fun v1_5 w1 =>
  CALL Try.prog 28 #[] w1 fun v2_6 w2 =>
  gstep v2_6 true (fun w3 K => K v1_5 w3) w2 fun v3_8 w4 =>
  gstep v2_6 true (fun w5 K => CALL Try.prog 35 #[v3_8] w5 K) w4 fun v4_9 w6 =>
  gstep v2_6 true (fun w7 K => K v1_5 w7) w6 fun v5_10 w8 =>
  gstep v2_6 true (fun w9 K => CALL Try.prog 37 #[v5_10] w9 K) w8 fun v6_11 w10 =>
  gstep v2_6 true (fun w11 K => X Try.prog (binOpG .eql 4 (.tmp 9) (.tmp 11) v4_9 v6_11) w11 K) w10 fun v7_12 w12 =>
  X Try.prog (pickS v2_6 v7_12 (.bool false)) w12 fun v8_13 w13 =>
  gstep v8_13 true (fun w14 K => K v1_5 w14) w13 fun v9_15 w15 =>
  gstep v8_13 true (fun w16 K => CALL Try.prog 36 #[v9_15] w16 K) w15 fun v10_16 w17 =>
  gstep v8_13 true (fun w18 K => K v1_5 w18) w17 fun v11_17 w19 =>
  gstep v8_13 true (fun w20 K => CALL Try.prog 38 #[v11_17] w20 K) w19 fun v12_18 w21 =>
  gstep v8_13 true (fun w22 K => X Try.prog (binOpG .eql 3 (.tmp 16) (.tmp 18) v10_16 v12_18) w22 K) w21 fun v13_19 w23 =>
  X Try.prog (pickS v8_13 v13_19 (.bool false)) w23 fun v14_20 w24 =>
  gstep v14_20 true (fun w25 K => K v1_5 w25) w24 fun v15_22 w26 =>
  gstep v14_20 true (fun w27 K => CALL Try.prog 40 #[v15_22] w27 K) w26 fun v16_23 w28 =>
  gstep v14_20 true (fun w29 K => K v1_5 w29) w28 fun v17_24 w30 =>
  gstep v14_20 true (fun w31 K => CALL Try.prog 41 #[v17_24] w31 K) w30 fun v18_25 w32 =>
  gstep v14_20 true (fun w33 K => CALL Try.prog 39 #[v16_23, v18_25] w33 K) w32 fun v19_26 w34 =>
  X Try.prog (pickS v14_20 v19_26 (.bool false)) w34 fun v20_27 w35 =>
  K v20_27 w35

theorem eq_law16_ExtentRights (x0 : Value) (w : World) (K : Value → World → Prop) :
    sh Try.prog (Try.f12.body.getD .skip) (retS Try.prog Try.f12.results K) (env0 #[x0]) w = B_law16_ExtentRights x0 w K := by kernel_rfl

theorem call_law16_ExtentRights (x0 : Value) (w : World) (K : Value → World → Prop) (h : B_law16_ExtentRights x0 w K) : CALL Try.prog 12 #[x0] w K :=
  call_of_eq (c := Try.f12.body.getD .skip) mixed Try.func12 (by kernel_rfl) (by kernel_rfl) (by kernel_rfl) (Nat.le_of_ble_eq_true (by kernel_rfl)) (eq_law16_ExtentRights x0 w K) h

def B_law16_ExtentBytes_c1 (v5_22 : Value) (w5 : World) (x0 : Value) (x1 : Value) (v1_14 : Value) (K : Value → World → Prop) : Prop :=
  X Try.prog (Instr.extract v5_22 0) w5 fun v6_23 w6 =>
  X Try.prog (Instr.extract v5_22 1) w6 fun v7_24 w7 =>
  CALL Try.prog 31 #[x0] w7 fun v8_27 w8 =>
  CALL Try.prog 43 #[v8_27] w8 fun v9_28 w9 =>
  X Try.prog (Instr.extract v9_28 0) w9 fun v10_29 w10 =>
  X Try.prog (Instr.extract v9_28 1) w10 fun v11_30 w11 =>
  CALL Try.prog 44 #[x1] w11 fun v12_33 w12 =>
  X Try.prog (Instr.extract v12_33 0) w12 fun v13_34 w13 =>
  X Try.prog (Instr.extract v12_33 1) w13 fun v14_35 w14 =>
  CALL Try.prog 45 #[x1] w14 fun v15_38 w15 =>
  X Try.prog (Instr.extract v15_38 0) w15 fun v16_39 w16 =>
  X Try.prog (Instr.extract v15_38 1) w16 fun v17_40 w17 =>
  gstep v1_14 true (fun w18 K => K v6_23 w18) w17 fun v18_43 w19 =>
  gstep v1_14 true (fun w20 K => X Try.prog (convert 79 9 v18_43) w20 K) w19 fun v19_44 w21 =>
  gstep v1_14 true (fun w22 K => K v10_29 w22) w21 fun v20_45 w23 =>
  gstep v1_14 true (fun w24 K => X Try.prog (convert 79 9 v20_45) w24 K) w23 fun v21_46 w25 =>
  gstep v1_14 true (fun w26 K => X Try.prog (binOpG .eql 9 (.tmp 44) (.tmp 46) v19_44 v21_46) w26 K) w25 fun v22_47 w27 =>
  X Try.prog (pickS v1_14 v22_47 (.bool false)) w27 fun v23_48 w28 =>
  gstep v23_48 true (fun w29 K => K v7_24 w29) w28 fun v24_50 w30 =>
  gstep v23_48 true (fun w31 K => K v11_30 w31) w30 fun v25_51 w32 =>
  gstep v23_48 true (fun w33 K => X Try.prog (binOpG .eql 25 (.tmp 50) (.tmp 51) v24_50 v25_51) w33 K) w32 fun v26_52 w34 =>
  X Try.prog (pickS v23_48 v26_52 (.bool false)) w34 fun v27_53 w35 =>
  gstep v27_53 true (fun w36 K => K v13_34 w36) w35 fun v28_55 w37 =>
  gstep v27_53 true (fun w38 K => K v16_39 w38) w37 fun v29_56 w39 =>
  gstep v27_53 true (fun w40 K => CALL Try.prog 29 #[v28_55, v29_56] w40 K) w39 fun v30_57 w41 =>
  X Try.prog (pickS v27_53 v30_57 (.bool false)) w41 fun v31_58 w42 =>
  gstep v31_58 true (fun w43 K => K v14_35 w43) w42 fun v32_60 w44 =>
  gstep v31_58 true (fun w45 K => K v17_40 w45) w44 fun v33_61 w46 =>
  gstep v31_58 true (fun w47 K => X Try.prog (binOpG .eql 25 (.tmp 60) (.tmp 61) v32_60 v33_61) w47 K) w46 fun v34_62 w48 =>
  X Try.prog (pickS v31_58 v34_62 (.bool false)) w48 fun v35_63 w49 =>
  K v35_63 w49

/-- cellarage/cellaragelaw16.ExtentBytes -/
def B_law16_ExtentBytes (x0 x1 : Value) (w : World) (K : Value → World → Prop) : Prop :=
  CALL Try.prog 28 #[] w fun v1_14 w1 =>
  X Try.prog (Builtin.len_ #[79] 3 #[x1]) w1 fun v2_16 w2 =>
  X Try.prog (binOp .gtr 3 v2_16 (.int .i64 50000)) w2 fun v3_17 w3 =>
  condS v3_17 (
  K v1_14 w3) (
  CALL Try.prog 31 #[x0] w3 fun v4_21 w4 =>
  CALL Try.prog 42 #[v4_21] w4 fun v5_22 w5 =>
  B_law16_ExtentBytes_c1 v5_22 w5 x0 x1 v1_14 K)

theorem eq_law16_ExtentBytes (x0 x1 : Value) (w : World) (K : Value → World → Prop) :
    sh Try.prog (Try.f13.body.getD .skip) (retS Try.prog Try.f13.results K) (env0 #[x0, x1]) w = B_law16_ExtentBytes x0 x1 w K := by kernel_rfl

theorem call_law16_ExtentBytes (x0 x1 : Value) (w : World) (K : Value → World → Prop) (h : B_law16_ExtentBytes x0 x1 w K) : CALL Try.prog 13 #[x0, x1] w K :=
  call_of_eq (c := Try.f13.body.getD .skip) mixed Try.func13 (by kernel_rfl) (by kernel_rfl) (by kernel_rfl) (Nat.le_of_ble_eq_true (by kernel_rfl)) (eq_law16_ExtentBytes x0 x1 w K) h

def B_law16_ExtentBack_c1 (v24_47 : Value) (K : Value → World → Prop) (v27_51 : Value) (v35_59 : Value) (w55 : World) (v12_33 : Value) (v1_14 : Value) (v13_34 : Value) (x1 : Value) : Prop :=
  gstep v24_47 false (fun w56 K => X Try.prog (pickS v27_51 v35_59 (.bool false)) w56 K) w55 fun v36_60 w57 =>
  X Try.prog (pickS v24_47 (.bool true) v36_60) w57 fun v37_61 w58 =>
  condS v37_61 (
  K (.bool false) w58) (
  CALL Try.prog 42 #[v12_33] w58 fun v38_64 w59 =>
  X Try.prog (Instr.extract v38_64 0) w59 fun v39_65 w60 =>
  X Try.prog (Instr.extract v38_64 1) w60 fun v40_66 w61 =>
  gstep v1_14 true (fun w62 K => K v13_34 w62) w61 fun v41_69 w63 =>
  gstep v1_14 true (fun w64 K => X Try.prog (binOpG .eql 25 (.tmp 69) (.const (.int .i64 0)) v41_69 (.int .i64 0)) w64 K) w63 fun v42_70 w65 =>
  gstep v1_14 true (fun w66 K => K v42_70 w66) w65 fun v43_71 w67 =>
  gstep v43_71 true (fun w68 K => K v40_66 w68) w67 fun v44_72 w69 =>
  gstep v43_71 true (fun w70 K => X Try.prog (binOpG .eql 25 (.tmp 72) (.const (.int .i64 0)) v44_72 (.int .i64 0)) w70 K) w69 fun v45_73 w71 =>
  gstep v1_14 true (fun w72 K => X Try.prog (pickS v43_71 v45_73 (.bool false)) w72 K) w71 fun v46_74 w73 =>
  gstep v1_14 true (fun w74 K => K v46_74 w74) w73 fun v47_75 w75 =>
  gstep v47_75 true (fun w76 K => K v39_65 w76) w75 fun v48_76 w77 =>
  gstep v47_75 true (fun w78 K => X Try.prog (convert 79 9 v48_76) w78 K) w77 fun v49_77 w79 =>
  gstep v47_75 true (fun w80 K => K x1 w80) w79 fun v50_78 w81 =>
  gstep v47_75 true (fun w82 K => X Try.prog (convert 79 9 v50_78) w82 K) w81 fun v51_79 w83 =>
  gstep v47_75 true (fun w84 K => X Try.prog (binOpG .eql 9 (.tmp 77) (.tmp 79) v49_77 v51_79) w84 K) w83 fun v52_80 w85 =>
  gstep v1_14 true (fun w86 K => X Try.prog (pickS v47_75 v52_80 (.bool false)) w86 K) w85 fun v53_81 w87 =>
  gstep v1_14 true (fun w88 K => K v53_81 w88) w87 fun v54_82 w89 =>
  gstep v54_82 false (fun w90 K => K v13_34 w90) w89 fun v55_83 w91 =>
  gstep v54_82 false (fun w92 K => X Try.prog (binOpG .eql 25 (.tmp 83) (.const (.int .i64 160)) v55_83 (.int .i64 160)) w92 K) w91 fun v56_84 w93 =>
  gstep v54_82 false (fun w94 K => K v56_84 w94) w93 fun v57_85 w95 =>
  gstep v57_85 true (fun w96 K => K v12_33 w96) w95 fun v58_86 w97 =>
  gstep v57_85 true (fun w98 K => X Try.prog (Builtin.len_ #[59] 3 #[v58_86]) w98 K) w97 fun v59_87 w99 =>
  gstep v57_85 true (fun w100 K => X Try.prog (binOpG .eql 3 (.tmp 87) (.const (.int .i64 0)) v59_87 (.int .i64 0)) w100 K) w99 fun v60_88 w101 =>
  gstep v54_82 false (fun w102 K => X Try.prog (pickS v57_85 v60_88 (.bool false)) w102 K) w101 fun v61_89 w103 =>
  gstep v1_14 true (fun w104 K => X Try.prog (pickS v54_82 (.bool true) v61_89) w104 K) w103 fun v62_90 w105 =>
  X Try.prog (pickS v1_14 v62_90 (.bool false)) w105 fun v63_91 w106 =>
  K v63_91 w106)

def B_law16_ExtentBack_c2 (v5_22 : Value) (w5 : World) (x1 : Value) (K : Value → World → Prop) (x0 : Value) (v1_14 : Value) : Prop :=
  X Try.prog (Instr.extract v5_22 0) w5 fun v6_23 w6 =>
  X Try.prog (Instr.extract v5_22 1) w6 fun v7_24 w7 =>
  CALL Try.prog 44 #[v6_23] w7 fun v8_27 w8 =>
  X Try.prog (Instr.extract v8_27 0) w8 fun v9_28 w9 =>
  X Try.prog (Instr.extract v8_27 1) w9 fun v10_29 w10 =>
  CALL Try.prog 44 #[x1] w10 fun v11_32 w11 =>
  X Try.prog (Instr.extract v11_32 0) w11 fun v12_33 w12 =>
  X Try.prog (Instr.extract v11_32 1) w12 fun v13_34 w13 =>
  X Try.prog (binOpG .eql 25 (.tmp 35) (.const (.int .i64 0)) v7_24 (.int .i64 0)) w13 fun v14_36 w14 =>
  gstep v14_36 true (fun w15 K => K v10_29 w15) w14 fun v15_38 w16 =>
  gstep v14_36 true (fun w17 K => X Try.prog (binOpG .neq 25 (.tmp 38) (.const (.int .i64 0)) v15_38 (.int .i64 0)) w17 K) w16 fun v16_39 w18 =>
  gstep v14_36 true (fun w19 K => K v16_39 w19) w18 fun v17_40 w20 =>
  gstep v17_40 false (fun w21 K => K v9_28 w21) w20 fun v18_41 w22 =>
  gstep v17_40 false (fun w23 K => K x0 w23) w22 fun v19_42 w24 =>
  gstep v17_40 false (fun w25 K => CALL Try.prog 31 #[v19_42] w25 K) w24 fun v20_43 w26 =>
  gstep v17_40 false (fun w27 K => CALL Try.prog 29 #[v18_41, v20_43] w27 K) w26 fun v21_44 w28 =>
  gstep v17_40 false (fun w29 K => X Try.prog (Op.unary .not v21_44) w29 K) w28 fun v22_45 w30 =>
  gstep v14_36 true (fun w31 K => X Try.prog (pickS v17_40 (.bool true) v22_45) w31 K) w30 fun v23_46 w32 =>
  X Try.prog (pickS v14_36 v23_46 (.bool false)) w32 fun v24_47 w33 =>
  gstep v24_47 false (fun w34 K => K v7_24 w34) w33 fun v25_49 w35 =>
  gstep v24_47 false (fun w36 K => X Try.prog (binOpG .neq 25 (.tmp 49) (.const (.int .i64 0)) v25_49 (.int .i64 0)) w36 K) w35 fun v26_50 w37 =>
  gstep v24_47 false (fun w38 K => K v26_50 w38) w37 fun v27_51 w39 =>
  gstep v27_51 true (fun w40 K => K v6_23 w40) w39 fun v28_52 w41 =>
  gstep v27_51 true (fun w42 K => X Try.prog (Builtin.len_ #[79] 3 #[v28_52]) w42 K) w41 fun v29_53 w43 =>
  gstep v27_51 true (fun w44 K => X Try.prog (binOp .gtr 3 v29_53 (.int .i64 0)) w44 K) w43 fun v30_54 w45 =>
  gstep v27_51 true (fun w46 K => K v30_54 w46) w45 fun v31_55 w47 =>
  gstep v31_55 false (fun w48 K => K x0 w48) w47 fun v32_56 w49 =>
  gstep v31_55 false (fun w50 K => CALL Try.prog 31 #[v32_56] w50 K) w49 fun v33_57 w51 =>
  gstep v31_55 false (fun w52 K => CALL Try.prog 35 #[v33_57] w52 K) w51 fun v34_58 w53 =>
  gstep v27_51 true (fun w54 K => X Try.prog (pickS v31_55 (.bool true) v34_58) w54 K) w53 fun v35_59 w55 =>
  B_law16_ExtentBack_c1 v24_47 K v27_51 v35_59 w55 v12_33 v1_14 v13_34 x1

/-- cellarage/cellaragelaw16.ExtentBack -/
def B_law16_ExtentBack (x0 x1 : Value) (w : World) (K : Value → World → Prop) : Prop :=
  CALL Try.prog 28 #[] w fun v1_14 w1 =>
  X Try.prog (Builtin.len_ #[79] 3 #[x1]) w1 fun v2_16 w2 =>
  X Try.prog (binOp .gtr 3 v2_16 (.int .i64 50000)) w2 fun v3_17 w3 =>
  condS v3_17 (
  K v1_14 w3) (
  CALL Try.prog 31 #[x0] w3 fun v4_21 w4 =>
  CALL Try.prog 42 #[v4_21] w4 fun v5_22 w5 =>
  B_law16_ExtentBack_c2 v5_22 w5 x1 K x0 v1_14)

theorem eq_law16_ExtentBack (x0 x1 : Value) (w : World) (K : Value → World → Prop) :
    sh Try.prog (Try.f14.body.getD .skip) (retS Try.prog Try.f14.results K) (env0 #[x0, x1]) w = B_law16_ExtentBack x0 x1 w K := by kernel_rfl

theorem call_law16_ExtentBack (x0 x1 : Value) (w : World) (K : Value → World → Prop) (h : B_law16_ExtentBack x0 x1 w K) : CALL Try.prog 14 #[x0, x1] w K :=
  call_of_eq (c := Try.f14.body.getD .skip) mixed Try.func14 (by kernel_rfl) (by kernel_rfl) (by kernel_rfl) (Nat.le_of_ble_eq_true (by kernel_rfl)) (eq_law16_ExtentBack x0 x1 w K) h

end Go.Proofs.Ytlnkdphecinnnaa
end
