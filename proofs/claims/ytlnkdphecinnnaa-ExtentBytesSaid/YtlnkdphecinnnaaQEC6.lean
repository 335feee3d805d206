/- Part 6 of what the law is proved with: Ext15 Ext16 Ext17 Ext18 Facts. -/
import Derived.ProofKit
import Derived.Test.YtlnkdphecinnnaaQEC5
section
/- A slice of a slice; a list cut in two and joined. Plain Lean. -/
set_option linter.unusedVariables false
set_option linter.unusedSimpArgs false
namespace Go.Proofs.Ytlnkdphecinnnaa
open Go Go.Sh Go.RowKit
theorem mk_off (k : Ky) {a : Int} (b : Int) (h1 : -9223372036854775808 ≤ a) (h2 : a ≤ 9223372036854775807) : (mkEx k a b).off = a := w64 h1 h2
theorem mk_len (k : Ky) (a : Int) {b : Int} (h1 : -9223372036854775808 ≤ b) (h2 : b ≤ 9223372036854775807) : (mkEx k a b).len = b := w64 h1 h2
theorem cut_cut : ∀ (l : List Ex) (off n from_ m : Int), (∀ e ∈ l, right1 e) → 0 ≤ off → 0 ≤ from_ → cutE (cutE l off n) from_ m = cutE l (off + from_) (min m (n - from_)) := by
  intro l
  induction l with
  | nil => intros; rfl
  | cons x l ih =>
    intro off n from_ m hr ho hf
    have h1 := hr x (by simp)
    have hr' : ∀ e ∈ l, right1 e := fun e he => hr e (by simp [he])
    unfold right1 at h1
    by_cases hn : n ≤ 0
    · rw [cutE_le hn, cutE_le (l := x :: l) (n := min m (n - from_)) (by omega)]; rfl
    have e1 : cutE (x :: l) off n = if n ≤ 0 then [] else if off ≥ x.len then cutE l (off - x.len) n else mkEx x.k (x.off + off) (min (x.len - off) n) :: cutE l 0 (n - min (x.len - off) n) := rfl
    rw [if_neg hn] at e1
    by_cases hge : off ≥ x.len
    · rw [if_pos hge] at e1
      rw [e1, ih _ _ _ _ hr' (by omega) hf]
      by_cases hmin : min m (n - from_) ≤ 0
      · rw [cutE_le hmin, cutE_le hmin]
      have e2 : cutE (x :: l) (off + from_) (min m (n - from_)) = cutE l (off + from_ - x.len) (min m (n - from_)) := by
        conv => lhs; unfold cutE
        rw [if_neg hmin, if_pos (by omega)]
      rw [e2]
      congr 1
      omega
    · rw [if_neg hge] at e1
      have yo := mk_off x.k (a := x.off + off) (min (x.len - off) n) (by omega) (by omega)
      have yl := mk_len x.k (x.off + off) (b := min (x.len - off) n) (by omega) (by omega)
      have yk : (mkEx x.k (x.off + off) (min (x.len - off) n)).k = x.k := rfl
      rw [e1]
      generalize mkEx x.k (x.off + off) (min (x.len - off) n) = y at yo yl yk
      by_cases hm : m ≤ 0
      · rw [cutE_le hm, cutE_le (l := x :: l) (n := min m (n - from_)) (by omega)]
      have e3 : cutE (y :: cutE l 0 (n - min (x.len - off) n)) from_ m = if m ≤ 0 then [] else if from_ ≥ y.len then cutE (cutE l 0 (n - min (x.len - off) n)) (from_ - y.len) m else mkEx y.k (y.off + from_) (min (y.len - from_) m) :: cutE (cutE l 0 (n - min (x.len - off) n)) 0 (m - min (y.len - from_) m) := rfl
      rw [if_neg hm] at e3
      rw [e3]
      by_cases hfy : from_ ≥ y.len
      · rw [if_pos hfy, ih _ _ _ _ hr' (by omega) (by omega)]
        have e4 : min m (n - min (x.len - off) n - (from_ - y.len)) = min m (n - from_) := by omega
        rw [e4]
        by_cases hmin : min m (n - from_) ≤ 0
        · rw [cutE_le hmin, cutE_le hmin]
        have e2 : cutE (x :: l) (off + from_) (min m (n - from_)) = cutE l (off + from_ - x.len) (min m (n - from_)) := by
          conv => lhs; unfold cutE
          rw [if_neg hmin, if_pos (by omega)]
        rw [e2]
        congr 1
        omega
      · rw [if_neg hfy, ih _ _ _ _ hr' (by omega) (by omega)]
        have e2 : cutE (x :: l) (off + from_) (min m (n - from_)) = mkEx x.k (x.off + (off + from_)) (min (x.len - (off + from_)) (min m (n - from_))) :: cutE l 0 (min m (n - from_) - min (x.len - (off + from_)) (min m (n - from_))) := by
          conv => lhs; unfold cutE
          rw [if_neg (by omega), if_neg (by omega)]
        rw [e2, yk, yo, yl]
        have e5 : min (min (x.len - off) n - from_) m = min (x.len - (off + from_)) (min m (n - from_)) := by omega
        have e6 : x.off + off + from_ = x.off + (off + from_) := by omega
        rw [e5, e6]
        congr 1
        by_cases hz : min m (n - from_) - min (x.len - (off + from_)) (min m (n - from_)) ≤ 0
        · rw [cutE_le hz, cutE_le (by omega)]
        · congr 1
          omega
theorem cut_right : ∀ (l : List Ex) (off n : Int), (∀ e ∈ l, right1 e) → 0 ≤ off → ∀ e ∈ cutE l off n, right1 e := by
  intro l
  induction l with
  | nil => intro off n _ _ e he; exact absurd he (by simp [cutE])
  | cons x l ih =>
    intro off n hr ho e he
    have h1 := hr x (by simp)
    have hr' : ∀ e ∈ l, right1 e := fun e he => hr e (by simp [he])
    unfold cutE at he
    split at he
    · cases he
    · rename_i hn
      split at he
      · exact ih _ _ hr' (by omega) e he
      · rename_i hge
        rcases List.mem_cons.1 he with he | he
        · subst he
          unfold right1 at h1 ⊢
          rw [mk_off _ _ (by omega) (by omega), mk_len _ _ (by omega) (by omega)]
          omega
        · exact ih _ _ hr' (by omega) e he
theorem RightP.cut {l : List Ex} (h : RightP l) {off n : Int} (ho : 0 ≤ off) : RightP (cutE l off n) := ⟨Nat.le_trans (cutE_len _ _ _) h.1, cut_right _ _ _ h.2 ho⟩
theorem cut_tot : ∀ (l : List Ex) (off n : Int), (∀ e ∈ l, right1 e) → 0 ≤ off → totE (cutE l off n) = max 0 (min n (totE l - off)) := by
  intro l
  induction l with
  | nil => intro off n _ ho; show totE [] = max 0 (min n (totE [] - off)); have : totE [] = 0 := rfl; omega
  | cons x l ih =>
    intro off n hr ho
    have h1 := hr x (by simp)
    have hr' : ∀ e ∈ l, right1 e := fun e he => hr e (by simp [he])
    have ht := totE_nonneg hr'
    unfold right1 at h1
    rw [totE_cons]
    by_cases hn : n ≤ 0
    · rw [cutE_le hn]
      have : totE [] = 0 := rfl
      omega
    conv => lhs; unfold cutE
    rw [if_neg hn]
    by_cases hge : off ≥ x.len
    · rw [if_pos hge, ih _ _ hr' (by omega)]
      omega
    · rw [if_neg hge, totE_cons, ih _ _ hr' (by omega), mk_len _ _ (by omega) (by omega)]
      omega
theorem slice_slice {x : List Ex} {off n from_ m : Int} (ho : 0 ≤ off) (hf : 0 ≤ from_) : sliceE (sliceE x off n) from_ m = sliceE x (off + from_) (min m (n - from_)) := by
  by_cases hr : RightP x
  case neg =>
    have e1 : sliceE x off n = [] := by unfold sliceE; rw [if_pos (.inr hr)]
    have e2 : sliceE x (off + from_) (min m (n - from_)) = [] := by unfold sliceE; rw [if_pos (.inr hr)]
    rw [e1, e2]
    unfold sliceE
    split
    · rfl
    · split <;> rfl
  have all : ∀ (l : List Ex) (a b : Int), RightP l → 0 ≤ a → sliceE l a b = cutE l a b := by
    intro l a b hl ha
    unfold sliceE
    by_cases hb : b ≤ 0
    · rw [if_pos (.inl hb), cutE_le hb]
    · rw [if_neg (by rintro (h | h); exact hb h; exact h hl), if_neg (by omega)]
  rw [all x off n hr ho, all _ _ _ (hr.cut ho) hf, all _ _ _ hr (by omega)]
  exact cut_cut _ _ _ _ _ hr.2 ho hf
theorem slice_total {x : List Ex} {off n : Int} (ho : 0 ≤ off) (hn : 0 ≤ n) : totalE (sliceE x off n) = max 0 (min n (totalE x - off)) := by
  unfold sliceE
  by_cases hr : RightP x
  case neg =>
    rw [if_pos (.inr hr)]
    have e1 : totalE [] = 0 := rfl
    have e2 : totalE x = 0 := if_neg hr
    omega
  have e2 : totalE x = totE x := if_pos hr
  have ht := totE_nonneg hr.2
  by_cases hb : n ≤ 0
  · rw [if_pos (.inl hb)]
    have e1 : totalE [] = 0 := rfl
    omega
  · rw [if_neg (by rintro (h | h); exact hb h; exact h hr), if_neg (by omega)]
    have e3 : totalE (cutE x off n) = totE (cutE x off n) := if_pos (hr.cut ho)
    rw [e3, e2]
    exact cut_tot _ _ _ hr.2 ho
/-- None continues the one ahead. -/
def NoFit (l : List Ex) : Prop := ∀ i (h : i + 1 < l.length), ¬ Fits (l[i]'(by omega)) (l[i + 1]'h)
theorem join_onto : ∀ (l out : List Ex), NoFit (out ++ l) → l.foldl put1 out = out ++ l := by
  intro l
  induction l with
  | nil => intro out _; simp
  | cons x l ih =>
    intro out h
    have hp : put1 out x = out ++ [x] := by
      by_cases h0 : out.length = 0
      · exact put1_none h0
      · have hn : (out.length - 1) + 1 = out.length := by omega
        refine put1_no hn ?_
        have := h (out.length - 1) (by simp; omega)
        rw [List.getElem_append_left (by omega)] at this
        have e2 : (out ++ x :: l)[out.length - 1 + 1]'(by simp; omega) = x := by
          rw [List.getElem_append_right (by omega)]
          simp [hn]
        rw [e2] at this
        exact this
    rw [List.foldl_cons, hp, ih (out ++ [x]) (by simpa using h)]
    simp
theorem cut_all : ∀ (l : List Ex) (n : Int), (∀ e ∈ l, right1 e) → totE l ≤ n → cutE l 0 n = l := by
  intro l
  induction l with
  | nil => intros; rfl
  | cons x l ih =>
    intro n hr hn
    have h1 := hr x (by simp)
    have hr' : ∀ e ∈ l, right1 e := fun e he => hr e (by simp [he])
    have ht := totE_nonneg hr'
    unfold right1 at h1
    rw [totE_cons] at hn
    unfold cutE
    rw [if_neg (by omega), if_neg (by omega)]
    have e1 : min (x.len - 0) n = x.len := by omega
    rw [e1, ih _ hr' (by omega)]
    have e2 : mkEx x.k (x.off + 0) x.len = x := Ex.ext' rfl ((mk_off _ _ (by omega) (by omega)).trans (by omega)) (mk_len _ _ (by omega) (by omega))
    rw [e2]
/-- A list cut in two: between two extents, or in one. -/
theorem cut_two : ∀ (l : List Ex) (k big : Int), (∀ e ∈ l, right1 e) → 0 ≤ k → k ≤ totE l → totE l ≤ big →
    ∃ front back, (l = front ++ back ∧ cutE l 0 k = front ∧ cutE l k big = back) ∨ ∃ (y : Ex) (j : Int), l = front ++ y :: back ∧ 0 < j ∧ j < y.len ∧ cutE l 0 k = front ++ [mkEx y.k y.off j] ∧ cutE l k big = mkEx y.k (y.off + j) (y.len - j) :: back := by
  intro l
  induction l with
  | nil => intro k big _ _ _ _; exact ⟨[], [], .inl ⟨rfl, rfl, rfl⟩⟩
  | cons x l ih =>
    intro k big hr hk hkt hbig
    have h1 := hr x (by simp)
    have hr' : ∀ e ∈ l, right1 e := fun e he => hr e (by simp [he])
    have ht := totE_nonneg hr'
    unfold right1 at h1
    by_cases h0 : k = 0
    · subst h0
      exact ⟨[], x :: l, .inl ⟨rfl, cutE_le (by omega), cut_all _ _ hr hbig⟩⟩
    rw [totE_cons] at hkt hbig
    by_cases hge : k ≥ x.len
    · have e1 : cutE (x :: l) 0 k = x :: cutE l 0 (k - x.len) := by
        conv => lhs; unfold cutE
        rw [if_neg (by omega), if_neg (by omega)]
        have e1 : min (x.len - 0) k = x.len := by omega
        rw [e1]
        have e2 : mkEx x.k (x.off + 0) x.len = x := Ex.ext' rfl ((mk_off _ _ (by omega) (by omega)).trans (by omega)) (mk_len _ _ (by omega) (by omega))
        rw [e2]
      have e2 : cutE (x :: l) k big = cutE l (k - x.len) big := by
        conv => lhs; unfold cutE
        rw [if_neg (by omega), if_pos hge]
      rw [e1, e2]
      obtain ⟨front, back, h | ⟨y, j, h2, h3, h4, h5, h6⟩⟩ := ih (k - x.len) big hr' (by omega) (by omega) (by omega)
      · exact ⟨x :: front, back, .inl ⟨by rw [h.1]; rfl, by rw [h.2.1], h.2.2⟩⟩
      · exact ⟨x :: front, back, .inr ⟨y, j, by rw [h2]; rfl, h3, h4, by rw [h5]; rfl, h6⟩⟩
    · refine ⟨[], l, .inr ⟨x, k, rfl, by omega, by omega, ?_, ?_⟩⟩
      · unfold cutE
        rw [if_neg (by omega), if_neg (by omega)]
        have e1 : min (x.len - 0) k = k := by omega
        rw [e1, cutE_le (by omega), Int.add_zero]
        rfl
      · unfold cutE
        rw [if_neg (by omega), if_neg hge]
        have e1 : min (x.len - k) big = x.len - k := by omega
        rw [e1, cut_all _ _ hr' (by omega)]
theorem nofit_change {f : List Ex} {y z : Ex} {b : List Ex} (h : NoFit (f ++ y :: b)) (hk : z.k = y.k) (ho : z.off = y.off) : NoFit (f ++ [z]) := by
  intro i hi
  have hl : (f ++ [z]).length = f.length + 1 := by simp
  rw [hl] at hi
  have h1 := h i (by simp; omega)
  rw [List.getElem_append_left (by omega)] at h1 ⊢
  by_cases hlast : i + 1 = f.length
  · have e1 : (f ++ y :: b)[i + 1]'(by simp; omega) = y := by
      rw [List.getElem_append_right (by omega)]
      simp [hlast]
    have e2 : (f ++ [z])[i + 1]'(by simp; omega) = z := by
      rw [List.getElem_append_right (by omega)]
      simp [hlast]
    rw [e1] at h1
    rw [e2]
    unfold Fits at h1 ⊢
    rw [hk, ho]
    exact h1
  · rw [List.getElem_append_left (by omega)] at h1 ⊢
    exact h1
theorem join_cut {x : List Ex} (hr : RightP x) (hf : NoFit x) {k : Int} (hk : 0 ≤ k) (hkt : k ≤ totE x) :
    joinE [sliceE x 0 k, sliceE x k 4611686018427387904] = x := by
  have hb := totE_bound hr.2 x.length
  rw [List.take_length] at hb
  have hlen := hr.1
  have all : ∀ (a b : Int), 0 ≤ a → sliceE x a b = cutE x a b := by
    intro a b ha
    unfold sliceE
    by_cases hb : b ≤ 0
    · rw [if_pos (.inl hb), cutE_le hb]
    · rw [if_neg (by rintro (h | h); exact hb h; exact h hr), if_neg (by omega)]
  rw [all 0 k (by omega), all k _ hk]
  have hj : joinL [cutE x 0 k, cutE x k 4611686018427387904].flatten = x := by
    have e0 : [cutE x 0 k, cutE x k 4611686018427387904].flatten = cutE x 0 k ++ cutE x k 4611686018427387904 := by simp
    rw [e0]
    obtain ⟨front, back, h | ⟨y, j, h2, h3, h4, h5, h6⟩⟩ := cut_two x k 4611686018427387904 hr.2 hk hkt (by omega)
    · rw [h.2.1, h.2.2, ← h.1]
      have := join_onto x [] (by simpa using hf)
      simpa [joinL] using this
    · have hy := hr.2 y (by rw [h2]; simp)
      unfold right1 at hy
      have ak := mk_off y.k (a := y.off) j (by omega) (by omega)
      have al := mk_len y.k y.off (b := j) (by omega) (by omega)
      have bk := mk_off y.k (a := y.off + j) (y.len - j) (by omega) (by omega)
      have bl := mk_len y.k (y.off + j) (b := y.len - j) (by omega) (by omega)
      have kk1 : (mkEx y.k y.off j).k = y.k := rfl
      have kk2 : (mkEx y.k (y.off + j) (y.len - j)).k = y.k := rfl
      rw [h5, h6]
      generalize mkEx y.k y.off j = A at ak al kk1
      generalize mkEx y.k (y.off + j) (y.len - j) = B at bk bl kk2
      rw [h2] at hf
      unfold joinL
      rw [List.foldl_append]
      have s1 : (front ++ [A]).foldl put1 [] = front ++ [A] := join_onto (front ++ [A]) [] (by simpa using nofit_change hf kk1 ak)
      rw [s1, List.foldl_cons]
      have s2 : put1 (front ++ [A]) B = front ++ [y] := by
        have hn : front.length + 1 = (front ++ [A]).length := by simp
        have hg : (front ++ [A])[front.length]'(by simp) = A := by simp
        rw [put1_yes hn (by rw [hg]; exact ⟨by rw [kk1, kk2], by rw [ak, al, bk]⟩), hg]
        have e1 : (front ++ [A]).take front.length = front := by simp
        rw [e1]
        congr 2
        refine Ex.ext' kk1 ak ?_
        show IntKind.i64.wrap (A.len + B.len) = _
        rw [al, bl, w64 (by omega) (by omega)]
        omega
      rw [s2]
      have s3 := join_onto back (front ++ [y]) (by simpa using hf)
      rw [s3, h2]
      simp
  unfold joinE
  rw [hj, if_pos]
  refine ⟨?_, hr⟩
  intro p hp
  simp only [List.mem_cons, List.not_mem_nil, or_false] at hp
  rcases hp with rfl | rfl
  · exact hr.cut (by omega)
  · exact hr.cut hk
theorem cut_total {x : List Ex} (hr : RightP x) {k : Int} (hk : 0 ≤ k) (hkt : k ≤ totE x) : totalE (sliceE x 0 k) = k ∧ totalE (sliceE x k 4611686018427387904) = totE x - k := by
  have hb := totE_bound hr.2 x.length
  rw [List.take_length] at hb
  have hlen := hr.1
  have e2 : totalE x = totE x := if_pos hr
  rw [slice_total (by omega) hk, slice_total hk (by omega), e2]
  omega
end Go.Proofs.Ytlnkdphecinnnaa
end
section
/- The chunks of extents, each once. -/
set_option linter.unusedVariables false
set_option linter.unusedSimpArgs false
namespace Go.Proofs.Ytlnkdphecinnnaa
open Go Go.Sh Go.RowKit
attribute [local irreducible] X XU XP XR CALL loopS resC closS
def addK (ks : List Ky) (k : Ky) : List Ky := if k ∈ ks then ks else ks ++ [k]
def keysE (l : List Ex) : List Ky := l.foldl (fun ks e => addK ks e.k) []
theorem keysE_snoc (l : List Ex) (e : Ex) : keysE (l ++ [e]) = addK (keysE l) e.k := by unfold keysE; rw [List.foldl_append]; rfl
theorem keysE_succ (l : List Ex) (i : Nat) (h : i < l.length) : keysE (l.take (i + 1)) = addK (keysE (l.take i)) l[i].k := by
  rw [List.take_succ_eq_append_getElem h, keysE_snoc]
theorem mem_addK (ks : List Ky) (k x : Ky) : x ∈ addK ks k ↔ x ∈ ks ∨ x = k := by
  unfold addK
  split
  · rename_i h
    constructor
    · exact .inl
    · rintro (h' | rfl)
      · exact h'
      · exact h
  · simp
theorem mem_keysE (l : List Ex) (i : Nat) (hi : i ≤ l.length) (k : Ky) : k ∈ keysE (l.take i) ↔ ∃ j, ∃ h : j < l.length, j < i ∧ l[j].k = k := by
  induction i with
  | zero => simp [keysE]
  | succ i ih =>
    have hlt : i < l.length := by omega
    rw [keysE_succ l i hlt, mem_addK, ih (by omega)]
    constructor
    · rintro (⟨j, h, h1, h2⟩ | h)
      · exact ⟨j, h, by omega, h2⟩
      · exact ⟨i, hlt, by omega, h.symm⟩
    · rintro ⟨j, h, h1, h2⟩
      by_cases hj : j = i
      · subst hj; exact .inr h2.symm
      · exact .inl ⟨j, h, by omega, h2⟩
theorem addK_len (ks : List Ky) (k : Ky) : (addK ks k).length ≤ ks.length + 1 := by
  unfold addK
  split <;> simp
theorem keysE_len (l : List Ex) (i : Nat) (hi : i ≤ l.length) : (keysE (l.take i)).length ≤ i := by
  induction i with
  | zero => simp [keysE]
  | succ i ih =>
    rw [keysE_succ l i (by omega)]
    have := addK_len (keysE (l.take i)) l[i].k
    have := ih (by omega)
    omega
theorem X_appKey {w : World} {base : Nat} {vo : Value} {ks : List Ky} {k : Ky} (ho : OwnK 33 44 Ky.cs w base vo ks) (hn : ks.length ≤ 1000000) (hbase : base ≤ w.heap.size) {K2 : Value → Value → World → Prop}
    (hK : ∀ u v' w1, OwnK 33 44 Ky.cs w1 base v' (ks ++ [k]) → Keep (fun q => some q = vo.ownBlock) w w1 → K2 u v' w1) :
    X Try.prog (Instr.buildSlice 77 1 #[(0, k.v)]) w fun u w1 => X Try.prog (Builtin.append_ #[77, 77] 77 #[vo, u]) w1 fun v' w2 => K2 u v' w2 := by
  refine X_buildSliceK Try.underlying77 el_44 (by decide) (by decide) k.cs_len ?_
  have hx3 := newB_ext w k.cs.toArray 44
  have hg3 := newB_get w k.cs.toArray 44
  show X _ _ (newB w k.cs.toArray 44) _
  generalize newB w k.cs.toArray 44 = w3 at hx3 hg3 ⊢
  have hrow : RowK 33 Ky.cs w3 (.slice (some ⟨w.heap.size, 0, none⟩) 1 1) [k] := by
    refine RowK.ofK (T := 44) (fr := (0, 0)) (by decide) Ky.cs_len ?_ rfl (by decide)
    rw [hg3]
    unfold cellsK
    simp
  refine X_appendK Try.underlying77 el_44 (by decide) Ky.cs_len (fun x hx => by rw [List.mem_singleton.1 hx]; exact Ky.one k) (ho.ext hx3) hrow (by simp; omega) (by decide) (by have := hx3.size; omega) ?_
  intro v' w4 ho4 hk4
  exact hK _ _ _ ho4 (Keep.trans (Keep.ext hx3) hk4)
theorem zero_4b : zeroT Try.prog 4 = some (.bool false) := by kernel_rfl
theorem own_neM {w : World} {base e size n mb : Nat} {v : Value} {xs : List Value} {ms : List (Value × Value)} (ho : w.ownsRow base e size v n xs) (hm : MapAt w mb ms) : v.ownBlock ≠ some mb := by
  intro h
  rcases ho.2 with ⟨rfl, _⟩ | ⟨g, cap, cur, rfl, _, hg, _⟩
  · cases h
  · have : g = mb := by simpa [Value.ownBlock] using h
    subst this
    obtain ⟨es, c, h1, _⟩ := hm
    rw [hg] at h1
    cases h1
abbrev seenK (ks : List Ky) : List (Value × Value) := ks.map fun k => (k.v, Value.bool true)
section
variable {w : World} {K : Value → World → Prop}
theorem Keys_spec {v : Value} {l : List Ex} (hl : RowK 35 Ex.cs w v l) (hn : l.length ≤ 1000000) (hK : ∀ u w1, Ext w w1 → OwnK 33 44 Ky.cs w1 w.heap.size u (keysE l) → K u w1) : CALL Try.prog 40 #[v] w K := by
  obtain ⟨a, c, ev⟩ := hl.slice
  apply call_extent_Keys
  unfold B_extent_Keys
  refine X_makeMap0 ?_
  have hx0 := newM_ext w
  have hm0 := newM_at w
  generalize newM w = w0 at hx0 hm0 ⊢
  rw [ev, X_len_59, ← ev]
  refine loopE (fun ρ wr => ∃ (i : Nat) (vo : Value), i ≤ l.length ∧ Ext w wr ∧ OwnK 33 44 Ky.cs wr w.heap.size vo (keysE (l.take i)) ∧ MapAt wr w.heap.size (seenK (keysE (l.take i))) ∧ ρ 10 = .int .i64 (i : Int) ∧ ρ 9 = .int .i64 (l.length : Int) ∧ ρ 8 = v ∧ ρ 4 = vo ∧ ρ 3 = .map (some w.heap.size))
    (fun ρ wr => match ρ 10 with | .int _ s => (l.length - s).toNat | _ => 0)
    (fun ρ wr => ∃ (vo : Value), Ext w wr ∧ OwnK 33 44 Ky.cs wr w.heap.size vo (keysE l) ∧ ρ 4 = vo) ?_ ?_ ?_
  · exact ⟨0, _, by omega, hx0, ownK_nil _ _, hm0, rfl, rfl, rfl, rfl, rfl⟩
  · rintro J hJ ρ wr ⟨i, vo, hi, hx, ho, hm, r10, r9, r8, r4, r3⟩
    rw [r10, r9, r8, X_lss, condS_bool]
    by_cases hie : i = l.length
    · rw [if_neg (by simp; omega)]
      rw [hie, List.take_of_length_le (Nat.le_refl _)] at ho
      exact hJ _ _ ⟨vo, hx, ho, r4⟩
    rw [if_pos (by simp; omega)]
    have hlt : i < l.length := by omega
    have hks := keysE_succ l i hlt
    have hkl := keysE_len l i hi
    refine joinS_of (fun ρ2 w2 => ∃ (vo : Value), Ext w w2 ∧ OwnK 33 44 Ky.cs w2 w.heap.size vo (keysE (l.take (i + 1))) ∧ MapAt w2 w.heap.size (seenK (keysE (l.take (i + 1)))) ∧ ρ2 10 = .int .i64 (i : Int) ∧ ρ2 9 = .int .i64 (l.length : Int) ∧ ρ2 8 = v ∧ ρ2 4 = vo ∧ ρ2 3 = .map (some w.heap.size)) ?_ ?_
    · rintro ρ2 w2 ⟨vo, g1, g2, g3, p10, p9, p8, p4, p3⟩
      rw [p10, X_add]
      show _ ∧ _
      refine ⟨⟨i + 1, vo, by omega, g1, g2, g3, next64 (n := 1000000) (by decide) (by omega), p9, p8, p4, p3⟩, ?_⟩
      show (_ - IntKind.i64.wrap _).toNat < _
      rw [w64 (by omega) (by omega)]
      first | omega | (show _ < (_ : Int).toNat; omega)
    · intro J2 hJ2
      rw [hks] at hJ2
      refine X_takeExt (hl.ext hx) hlt ?_
      intro u1 u2 q w4 hx4 hq hqb
      generalize l[i] = e at hJ2 hqb
      have ho4 := ho.ext hx4
      have hm4 := hm.ext hx4
      have hx04 := hx.trans hx4
      generalize keysE (l.take i) = ks at ho4 hm4 hJ2 hkl
      have lk : ∀ w', w'.heap[q]? = some (.cells e.cs.toArray 72 (0, 0)) → (Instr.loadAt 44 (.pointer (some ⟨q, 0, none⟩))).run Try.prog w' = .ok e.k.v w' := fun w' hq' => load_cells Try.underlying44 agg_44 info_44 (l := e.k.cs) (by rw [sz_44, Ky.cs_len]) (fun j u hj => by rw [add_plain, Nat.zero_add, cell_blk hq']; simpa using e.keyAt hj)
      rw [X_field_72_0]
      refine X_of (lk _ hqb) ?_
      rw [r3, r4]
      obtain ⟨kl, hkl'⟩ := keyOf_ky e.k
      have hall : ∀ p ∈ seenK ks, ∃ x, keyOf Try.prog 44 p.1 = some x := fun p hp => by
        obtain ⟨k, _, rfl⟩ := List.mem_map.1 hp
        exact keyOf_ky k
      rcases run_lookupM (P := Try.prog) keyed44 Try.underlying100 zero_4b hm4 hall hkl' false with ⟨hno, hrun⟩ | ⟨p, hp, hpk, hrun⟩
      · refine X_of hrun ?_
        have hnk : e.k ∉ ks := fun h => hno (e.k.v, .bool true) (List.mem_map.2 ⟨e.k, h, rfl⟩) rfl
        have ha : addK ks e.k = ks ++ [e.k] := if_neg hnk
        rw [ha] at hJ2
        show X _ (Op.unary .not (.bool false)) _ _
        (repeat (simp only [XP_extract0, XP_extract1, XP_extract2, XP_extract3, X_extract0, X_extract1, X_extract2, X_extract3, X_nilS, X_eql_nil_24, X_neq_nil_24, X_eql_nil_103, X_neq_nil_103, X_eql, X_neq, X_lss, X_leq, X_gtr, X_geq, X_not, X_min, X_max, X_len_79, X_len_35, XP_nilS, XP_eql, XP_neq, XP_lss, XP_leq, XP_gtr, XP_geq, XP_not, XP_min, XP_max, XP_len_79, XP_eql_nil_24, X_str_eql, X_str_neq, XP_str_eql, XP_str_neq, GS, gs_u, decide_true, decide_false, Option.isNone_some, Option.isSome_some, Option.isNone_none, Option.isSome_none, eq_self, Bool.not_true, Bool.not_false, Int.reduceEq, Int.reduceNe, Int.reduceLT, Int.reduceLE, Int.reduceGT, Int.reduceGE, X_field_72_0]))
        refine X_of (lk _ hqb) ?_
        refine XU_updateNew keyed44 Try.underlying100 hm4 hall hkl' hno ?_
        intro w5 hm5 hk5
        have hqm : q ≠ w.heap.size := by have := hx.size; have := hm.lt; omega
        have hqb5 := hk5.get hqm hqb
        have ho5 := ho4.keep hk5 (fun g hg hgm => own_neM ho4 hm4 (by rw [hg, hgm]))
        have hx5 : Ext w w5 := Ext.seq hx04 hk5 (fun g hg => by omega)
        refine X_of (lk _ hqb5) ?_
        refine X_appKey ho5 (by omega) hx5.size ?_
        intro u3 v' w6 ho6 hk6
        refine hJ2 _ _ ⟨v', Ext.seq hx5 hk6 (fun g hg => (ho5.lt g hg.symm).1), ho6, ?_, r10, r9, r8, rfl, r3⟩
        have := hm5.keep hk6 (fun h => own_neM ho5 hm5 h.symm)
        unfold seenK
        rw [List.map_append]
        exact this
      · refine X_of hrun ?_
        obtain ⟨k, hk, rfl⟩ := List.mem_map.1 hp
        have hke : k = e.k := Ky.v_inj hpk
        subst hke
        have ha : addK ks e.k = ks := if_pos hk
        rw [ha] at hJ2
        show X _ (Op.unary .not (.bool true)) _ _
        (repeat (simp only [XP_extract0, XP_extract1, XP_extract2, XP_extract3, X_extract0, X_extract1, X_extract2, X_extract3, X_nilS, X_eql_nil_24, X_neq_nil_24, X_eql_nil_103, X_neq_nil_103, X_eql, X_neq, X_lss, X_leq, X_gtr, X_geq, X_not, X_min, X_max, X_len_79, X_len_35, XP_nilS, XP_eql, XP_neq, XP_lss, XP_leq, XP_gtr, XP_geq, XP_not, XP_min, XP_max, XP_len_79, XP_eql_nil_24, X_str_eql, X_str_neq, XP_str_eql, XP_str_neq, GS, gs_u, decide_true, decide_false, Option.isNone_some, Option.isSome_some, Option.isNone_none, Option.isSome_none, eq_self, Bool.not_true, Bool.not_false, Int.reduceEq, Int.reduceNe, Int.reduceLT, Int.reduceLE, Int.reduceGT, Int.reduceGE]))
        exact hJ2 _ _ ⟨vo, hx04, ho4, hm4, r10, r9, r8, r4, r3⟩
  · rintro ρ wr ⟨vo, hx, ho, r4⟩
    rw [r4]
    exact hK vo wr hx ho
theorem RKeys_spec {v : Value} {l : List Ex} (hl : RowK 35 Ex.cs w v l) (hn : l.length ≤ 1000000) (hK : ∀ u w1, Ext w w1 → OwnK 33 44 Ky.cs w1 w.heap.size u (keysE l) → K u w1) : CALL Try.prog 41 #[v] w K := by
  obtain ⟨a, c, ev⟩ := hl.slice
  apply call_ref16_Keys
  unfold B_ref16_Keys
  refine loopE (fun ρ wr => ∃ (i : Nat) (vo : Value), i ≤ l.length ∧ Ext w wr ∧ OwnK 33 44 Ky.cs wr w.heap.size vo (keysE (l.take i)) ∧ ρ 4 = .int .i64 (i : Int) ∧ ρ 0 = v ∧ ρ 3 = vo)
    (fun ρ wr => match ρ 4 with | .int _ s => (l.length - s).toNat | _ => 0)
    (fun ρ wr => ∃ (vo : Value), Ext w wr ∧ OwnK 33 44 Ky.cs wr w.heap.size vo (keysE l) ∧ ρ 3 = vo) ?_ ?_ ?_
  · exact ⟨0, _, by omega, Keep.refl _ _, ownK_nil _ _, rfl, rfl, rfl⟩
  · rintro J hJ ρ wr ⟨i, vo, hi, hx, ho, r4, r0, r3⟩
    rw [r4, r0, ev, X_len_59, X_lss, condS_bool, ← ev]
    by_cases hie : i = l.length
    · rw [if_neg (by simp; omega)]
      rw [hie, List.take_of_length_le (Nat.le_refl _)] at ho
      exact hJ _ _ ⟨vo, hx, ho, r3⟩
    rw [if_pos (by simp; omega)]
    have hlt : i < l.length := by omega
    have hks := keysE_succ l i hlt
    have hkl := keysE_len l i hi
    have hmem := mem_keysE l i hi l[i].k
    refine joinS_of (fun ρ2 w2 => ∃ (vo : Value), Ext w w2 ∧ OwnK 33 44 Ky.cs w2 w.heap.size vo (keysE (l.take (i + 1))) ∧ ρ2 4 = .int .i64 (i : Int) ∧ ρ2 0 = v ∧ ρ2 3 = vo) ?_ ?_
    · rintro ρ2 w2 ⟨vo, g1, g2, p4, p0, p3⟩
      rw [p4, X_add]
      show _ ∧ _
      refine ⟨⟨i + 1, vo, by omega, g1, g2, next64 (n := 1000000) (by decide) (by omega), p0, p3⟩, ?_⟩
      show (_ - IntKind.i64.wrap _).toNat < _
      rw [w64 (by omega) (by omega)]
      first | omega | (show _ < (_ : Int).toNat; omega)
    · intro J2 hJ2
      refine loopG 2 (fun ρ3 w3 => ∃ (k : Nat) (is : Bool), k ≤ i ∧ Ext w w3 ∧ OwnK 33 44 Ky.cs w3 w.heap.size vo (keysE (l.take i)) ∧ (is = true ↔ ∃ j, ∃ h : j < l.length, j < k ∧ l[j].k = l[i].k) ∧ ρ3 6 = .int .i64 (k : Int) ∧ ρ3 5 = .bool is ∧ ρ3 4 = .int .i64 (i : Int) ∧ ρ3 0 = v ∧ ρ3 3 = vo)
        (fun ρ3 w3 => match ρ3 6 with | .int _ s => (i - s).toNat | _ => 0)
        (fun ρ3 w3 => ∃ (is : Bool), Ext w w3 ∧ OwnK 33 44 Ky.cs w3 w.heap.size vo (keysE (l.take i)) ∧ (is = true ↔ l[i].k ∈ keysE (l.take i)) ∧ ρ3 5 = .bool is ∧ ρ3 4 = .int .i64 (i : Int) ∧ ρ3 0 = v ∧ ρ3 3 = vo) ?_ ?_ ?_
      · exact ⟨0, false, by omega, hx, ho, by simp, rfl, rfl, r4, r0, r3⟩
      · rintro J3 hJ3 ρ3 w3 ⟨k, is, hk, hx3, ho3, his, q6, q5, q4, q0, q3⟩
        rw [q6, q4, X_lss, condS_bool]
        by_cases hke : k = i
        · rw [if_neg (by simp; omega)]
          subst hke
          exact hJ3 _ _ ⟨is, hx3, ho3, his.trans hmem.symm, q5, q4, q0, q3⟩
        rw [if_pos (by simp; omega)]
        have hklt : k < l.length := by omega
        rw [q5, q0]
        have hxd := hx3.trans (Keep.drew (fun _ => False) w3)
        have hod := ho3.ext (Keep.drew (fun _ => False) w3)
        obtain ⟨g, o, hix, hc⟩ := ext_at (hl.ext hxd) hklt
        obtain ⟨g2, o2, hix2, hc2⟩ := ext_at (hl.ext hxd) hlt
        refine ⟨Ext, Ext.frame, ?_⟩
        generalize drewW w3 = wd at hxd hod hc hc2 ⊢
        have go : ∀ (is' : Bool) (ρ' : Env), (is' = true ↔ is = true ∨ l[k].k = l[i].k) → ρ' 6 = .int .i64 (IntKind.i64.wrap ((k : Int) + 1)) → ρ' 5 = .bool is' → ρ' 4 = .int .i64 (i : Int) → ρ' 0 = v → ρ' 3 = vo →
          (∃ (k : Nat) (is : Bool), k ≤ i ∧ Ext w wd ∧ OwnK 33 44 Ky.cs wd w.heap.size vo (keysE (l.take i)) ∧ (is = true ↔ ∃ j, ∃ h : j < l.length, j < k ∧ l[j].k = l[i].k) ∧ ρ' 6 = .int .i64 (k : Int) ∧ ρ' 5 = .bool is ∧ ρ' 4 = .int .i64 (i : Int) ∧ ρ' 0 = v ∧ ρ' 3 = vo) ∧ (match ρ' 6 with | .int _ s => ((i : Int) - s).toNat | _ => 0) < ((i : Int) - (k : Int)).toNat := by
          intro is' ρ' h1 e6 e5 e4 e0 e3
          refine ⟨⟨k + 1, is', by omega, hxd, hod, ?_, e6.trans (next64 (n := 1000000) (by decide) (by omega)), e5, e4, e0, e3⟩, ?_⟩
          · rw [h1, his]
            constructor
            · rintro (⟨j, h, h1, h2⟩ | h)
              · exact ⟨j, h, by omega, h2⟩
              · exact ⟨k, hklt, by omega, h⟩
            · rintro ⟨j, h, h1, h2⟩
              by_cases hj : j = k
              · subst hj; exact .inr h2
              · exact .inl ⟨j, h, by omega, h2⟩
          · rw [e6]
            show (_ - IntKind.i64.wrap _).toNat < _
            rw [w64 (by omega) (by omega)]
            omega
        cases is with
        | true =>
          (repeat (simp only [XP_extract0, XP_extract1, XP_extract2, XP_extract3, X_extract0, X_extract1, X_extract2, X_extract3, X_nilS, X_eql_nil_24, X_neq_nil_24, X_eql_nil_103, X_neq_nil_103, X_eql, X_neq, X_lss, X_leq, X_gtr, X_geq, X_not, X_min, X_max, X_len_79, X_len_35, XP_nilS, XP_eql, XP_neq, XP_lss, XP_leq, XP_gtr, XP_geq, XP_not, XP_min, XP_max, XP_len_79, XP_eql_nil_24, X_str_eql, X_str_neq, XP_str_eql, XP_str_neq, GS, gs_u, decide_true, decide_false, Option.isNone_some, Option.isSome_some, Option.isNone_none, Option.isSome_none, eq_self, Bool.not_true, Bool.not_false, Int.reduceEq, Int.reduceNe, Int.reduceLT, Int.reduceLE, Int.reduceGT, Int.reduceGE]))
          rw [X_add]
          exact go true _ (by simp) rfl rfl q4 q0 q3
        | false =>
          (repeat (simp only [XP_extract0, XP_extract1, XP_extract2, XP_extract3, X_extract0, X_extract1, X_extract2, X_extract3, X_nilS, X_eql_nil_24, X_neq_nil_24, X_eql_nil_103, X_neq_nil_103, X_eql, X_neq, X_lss, X_leq, X_gtr, X_geq, X_not, X_min, X_max, X_len_79, X_len_35, XP_nilS, XP_eql, XP_neq, XP_lss, XP_leq, XP_gtr, XP_geq, XP_not, XP_min, XP_max, XP_len_79, XP_eql_nil_24, X_str_eql, X_str_neq, XP_str_eql, XP_str_neq, GS, gs_u, decide_true, decide_false, Option.isNone_some, Option.isSome_some, Option.isNone_none, Option.isSome_none, eq_self, Bool.not_true, Bool.not_false, Int.reduceEq, Int.reduceNe, Int.reduceLT, Int.reduceLE, Int.reduceGT, Int.reduceGE]))
          refine XP_of hix ?_
          (repeat (simp only [XP_extract0, XP_extract1, XP_extract2, XP_extract3, X_extract0, X_extract1, X_extract2, X_extract3, X_nilS, X_eql_nil_24, X_neq_nil_24, X_eql_nil_103, X_neq_nil_103, X_eql, X_neq, X_lss, X_leq, X_gtr, X_geq, X_not, X_min, X_max, X_len_79, X_len_35, XP_nilS, XP_eql, XP_neq, XP_lss, XP_leq, XP_gtr, XP_geq, XP_not, XP_min, XP_max, XP_len_79, XP_eql_nil_24, X_str_eql, X_str_neq, XP_str_eql, XP_str_neq, GS, gs_u, decide_true, decide_false, Option.isNone_some, Option.isSome_some, Option.isNone_none, Option.isSome_none, eq_self, Bool.not_true, Bool.not_false, Int.reduceEq, Int.reduceNe, Int.reduceLT, Int.reduceLE, Int.reduceGT, Int.reduceGE, XP_field_72_0]))
          refine XR_ok Ext.frame (fun w' kk => load_cells Try.underlying44 agg_44 info_44 (l := l[k].k.cs) (by rw [sz_44, Ky.cs_len]) (fun j u hj => by rw [add_plain]; exact kk.cell (fun h => h) (hc j u (l[k].keyAt hj)))) ?_
          (repeat (simp only [XP_extract0, XP_extract1, XP_extract2, XP_extract3, X_extract0, X_extract1, X_extract2, X_extract3, X_nilS, X_eql_nil_24, X_neq_nil_24, X_eql_nil_103, X_neq_nil_103, X_eql, X_neq, X_lss, X_leq, X_gtr, X_geq, X_not, X_min, X_max, X_len_79, X_len_35, XP_nilS, XP_eql, XP_neq, XP_lss, XP_leq, XP_gtr, XP_geq, XP_not, XP_min, XP_max, XP_len_79, XP_eql_nil_24, X_str_eql, X_str_neq, XP_str_eql, XP_str_neq, GS, gs_u, decide_true, decide_false, Option.isNone_some, Option.isSome_some, Option.isNone_none, Option.isSome_none, eq_self, Bool.not_true, Bool.not_false, Int.reduceEq, Int.reduceNe, Int.reduceLT, Int.reduceLE, Int.reduceGT, Int.reduceGE]))
          refine XP_of hix2 ?_
          (repeat (simp only [XP_extract0, XP_extract1, XP_extract2, XP_extract3, X_extract0, X_extract1, X_extract2, X_extract3, X_nilS, X_eql_nil_24, X_neq_nil_24, X_eql_nil_103, X_neq_nil_103, X_eql, X_neq, X_lss, X_leq, X_gtr, X_geq, X_not, X_min, X_max, X_len_79, X_len_35, XP_nilS, XP_eql, XP_neq, XP_lss, XP_leq, XP_gtr, XP_geq, XP_not, XP_min, XP_max, XP_len_79, XP_eql_nil_24, X_str_eql, X_str_neq, XP_str_eql, XP_str_neq, GS, gs_u, decide_true, decide_false, Option.isNone_some, Option.isSome_some, Option.isNone_none, Option.isSome_none, eq_self, Bool.not_true, Bool.not_false, Int.reduceEq, Int.reduceNe, Int.reduceLT, Int.reduceLE, Int.reduceGT, Int.reduceGE, XP_field_72_0]))
          refine XR_ok Ext.frame (fun w' kk => load_cells Try.underlying44 agg_44 info_44 (l := l[i].k.cs) (by rw [sz_44, Ky.cs_len]) (fun j u hj => by rw [add_plain]; exact kk.cell (fun h => h) (hc2 j u (l[i].keyAt hj)))) ?_
          (repeat (simp only [XP_extract0, XP_extract1, XP_extract2, XP_extract3, X_extract0, X_extract1, X_extract2, X_extract3, X_nilS, X_eql_nil_24, X_neq_nil_24, X_eql_nil_103, X_neq_nil_103, X_eql, X_neq, X_lss, X_leq, X_gtr, X_geq, X_not, X_min, X_max, X_len_79, X_len_35, XP_nilS, XP_eql, XP_neq, XP_lss, XP_leq, XP_gtr, XP_geq, XP_not, XP_min, XP_max, XP_len_79, XP_eql_nil_24, X_str_eql, X_str_neq, XP_str_eql, XP_str_neq, GS, gs_u, decide_true, decide_false, Option.isNone_some, Option.isSome_some, Option.isNone_none, Option.isSome_none, eq_self, Bool.not_true, Bool.not_false, Int.reduceEq, Int.reduceNe, Int.reduceLT, Int.reduceLE, Int.reduceGT, Int.reduceGE]))
          refine XP_of (fun w' => run_key_eql _ _ _ _ w') ?_
          (repeat (simp only [XP_extract0, XP_extract1, XP_extract2, XP_extract3, X_extract0, X_extract1, X_extract2, X_extract3, X_nilS, X_eql_nil_24, X_neq_nil_24, X_eql_nil_103, X_neq_nil_103, X_eql, X_neq, X_lss, X_leq, X_gtr, X_geq, X_not, X_min, X_max, X_len_79, X_len_35, XP_nilS, XP_eql, XP_neq, XP_lss, XP_leq, XP_gtr, XP_geq, XP_not, XP_min, XP_max, XP_len_79, XP_eql_nil_24, X_str_eql, X_str_neq, XP_str_eql, XP_str_neq, GS, gs_u, decide_true, decide_false, Option.isNone_some, Option.isSome_some, Option.isNone_none, Option.isSome_none, eq_self, Bool.not_true, Bool.not_false, Int.reduceEq, Int.reduceNe, Int.reduceLT, Int.reduceLE, Int.reduceGT, Int.reduceGE]))
          rw [X_add]
          exact go (decide (l[k].k = l[i].k)) _ (by simp) rfl rfl q4 q0 q3
      · rintro ρ3 w3 ⟨is, hx3, ho3, his, q5, q4, q0, q3⟩
        show X _ (Op.unary .not (ρ3 5)) _ _
        rw [q5, X_not, condS_bool]
        rw [hks] at hJ2
        cases is with
        | true =>
          rw [if_neg (by decide)]
          have ha : addK (keysE (l.take i)) l[i].k = keysE (l.take i) := if_pos (his.1 rfl)
          rw [ha] at hJ2
          exact hJ2 _ _ ⟨vo, hx3, ho3, q4, q0, q3⟩
        | false =>
          rw [if_pos (by decide), q0, q4, q3]
          have ha : addK (keysE (l.take i)) l[i].k = keysE (l.take i) ++ [l[i].k] := if_neg (fun h => by have := his.2 h; cases this)
          rw [ha] at hJ2
          obtain ⟨g2, o2, hix2, hc2⟩ := ext_at (hl.ext hx3) hlt
          refine X_of (hix2 _) ?_
          rw [X_field_72_0]
          refine X_of (load_cells Try.underlying44 agg_44 info_44 (l := l[i].k.cs) (by rw [sz_44, Ky.cs_len]) (fun j u hj => by rw [add_plain]; exact hc2 j u (l[i].keyAt hj))) ?_
          refine X_appKey ho3 (by omega) hx3.size ?_
          intro u3 v' w6 ho6 hk6
          exact hJ2 _ _ ⟨v', Ext.seq hx3 hk6 (fun g hg => (ho3.lt g hg.symm).1), ho6, q4, q0, rfl⟩
  · rintro ρ wr ⟨vo, hx, ho, r3⟩
    rw [r3]
    exact hK vo wr hx ho
theorem key_at {v : Value} {l : List Ky} {i : Nat} (hl : RowK 33 Ky.cs w v l) (hi : i < l.length) :
    ∃ a, (∀ w', (Instr.indexAt 77 v (.int .i64 (i : Int))).run Try.prog w' = .ok (.pointer (some a)) w') ∧ (∀ w', Ext w w' → (Instr.loadAt 44 (.pointer (some a))).run Try.prog w' = .ok l[i].v w') := by
  obtain ⟨ad, hix, hcs⟩ := hl.at Try.underlying77 info_44 sz_44 (kd := .i64) (ii := (i : Int)) i rfl hi
  exact ⟨ad, hix, fun w' kk => load_cells Try.underlying44 agg_44 info_44 (l := l[i].cs) (by rw [sz_44, Ky.cs_len]) (fun j u hj => kk.cell (fun h => h) (hcs j u hj))⟩
theorem SameK_spec {va vb : Value} {l : List Ky} (ha : RowK 33 Ky.cs w va l) (hb : RowK 33 Ky.cs w vb l) (hn : l.length ≤ 1000000000) (hK : ∀ w1, Ext w w1 → K (.bool true) w1) : CALL Try.prog 39 #[va, vb] w K := by
  obtain ⟨aa, ca, ea⟩ := ha.slice
  obtain ⟨ab, cb, eb⟩ := hb.slice
  apply call_ref11_SameKeys
  unfold B_ref11_SameKeys
  rw [ea, eb]
  have c : decide ((l.length : Int) ≠ (l.length : Int)) = false := by simp
  (repeat (simp only [XP_extract0, XP_extract1, XP_extract2, XP_extract3, X_extract0, X_extract1, X_extract2, X_extract3, X_nilS, X_eql_nil_24, X_neq_nil_24, X_eql_nil_103, X_neq_nil_103, X_eql, X_neq, X_lss, X_leq, X_gtr, X_geq, X_not, X_min, X_max, X_len_79, X_len_35, XP_nilS, XP_eql, XP_neq, XP_lss, XP_leq, XP_gtr, XP_geq, XP_not, XP_min, XP_max, XP_len_79, XP_eql_nil_24, X_str_eql, X_str_neq, XP_str_eql, XP_str_neq, GS, gs_u, decide_true, decide_false, Option.isNone_some, Option.isSome_some, Option.isNone_none, Option.isSome_none, eq_self, Bool.not_true, Bool.not_false, Int.reduceEq, Int.reduceNe, Int.reduceLT, Int.reduceLE, Int.reduceGT, Int.reduceGE, X_len_77, c]))
  rw [← ea, ← eb]
  refine loopE (fun ρ wr => ∃ i : Nat, i ≤ l.length ∧ Ext w wr ∧ ρ 5 = .int .i64 (i : Int) ∧ ρ 0 = va ∧ ρ 1 = vb)
    (fun ρ wr => match ρ 5 with | .int _ s => (l.length - s).toNat | _ => 0)
    (fun ρ wr => Ext w wr) ?_ ?_ ?_
  · exact ⟨0, by omega, Keep.refl _ _, rfl, rfl, rfl⟩
  · rintro J hJ ρ wr ⟨i, hi, hx, r5, r0, r1⟩
    rw [r0, r5, ea, X_len_77, X_lss, condS_bool, ← ea]
    by_cases hie : i = l.length
    · rw [if_neg (by simp; omega)]
      exact hJ _ _ hx
    rw [if_pos (by simp; omega), r1]
    have hlt : i < l.length := by omega
    have hxd := hx.trans (Keep.drew (fun _ => False) wr)
    obtain ⟨g, hix, hc⟩ := key_at (ha.ext hxd) hlt
    obtain ⟨g2, hix2, hc2⟩ := key_at (hb.ext hxd) hlt
    refine ⟨Ext, Ext.frame, ?_⟩
    generalize drewW wr = wd at hxd hc hc2 ⊢
    refine XP_of hix ?_
    refine XR_ok Ext.frame hc ?_
    refine XP_of hix2 ?_
    refine XR_ok Ext.frame hc2 ?_
    refine XP_of (fun w' => run_key_neq _ _ _ _ w') ?_
    rw [condS_bool, if_neg (by simp), X_add]
    show _ ∧ _
    refine ⟨⟨i + 1, by omega, hxd, next64 (n := 1000000000) (by decide) (by omega), r0, r1⟩, ?_⟩
    show (_ - IntKind.i64.wrap _).toNat < _
    rw [w64 (by omega) (by omega)]
    first | omega | (show _ < (_ : Int).toNat; omega)
  · rintro ρ wr hx
    exact hK wr hx
end
end Go.Proofs.Ytlnkdphecinnnaa
end
section
/- The bytes of extents: both Lay. -/
set_option linter.unusedVariables false
set_option linter.unusedSimpArgs false
namespace Go.Proofs.Ytlnkdphecinnnaa
open Go Go.Sh Go.RowKit
attribute [local irreducible] X XU XP XR CALL loopS resC closS
def layR (l : List Ex) : List UInt8 := if RightP l then layX l else []
theorem putB_2 (n : Nat) : putB n 2 = be 2 n := rfl
theorem cwI {x : Int} (h : 0 ≤ x) (h2 : x < 18446744073709551616) : IntKind.u64.wrap x = ((x.toNat : Nat) : Int) := by rw [wrap_u64]; omega
theorem sumAt {w : World} {e : Ex} {g o : Nat} (hc : ∀ j u, e.cs[j]? = some u → w.cell? ⟨g, o + j, none⟩ = some u) : Bts w (.slice (some ⟨g, o, none⟩) 32 32) e.k.sum := by
  refine ⟨_, 32, by rw [e.k.len], by rw [e.k.len]; exact Nat.le_refl _, by decide, fun _ => ⟨_, rfl, fun j u hj => ?_⟩⟩
  rw [add_plain]
  refine hc j _ (e.keyAt ?_)
  unfold Ky.cs
  have : (B8 e.k.sum)[j]? = some (.int .u8 ((u.toNat : Nat) : Int)) := by rw [B8_getElem?, hj]; rfl
  rw [List.getElem?_append_left (List.getElem?_eq_some_iff.1 this).1]
  exact this
theorem Ex.numAt (e : Ex) : e.cs[32]? = some (.int .u32 (e.k.num : Int)) := e.keyAt (by have := e.k.cs_num; simpa using this)
section
variable {w : World} {K : Value → World → Prop}
set_option maxHeartbeats 1000000 in
theorem Lay_spec {v : Value} {l : List Ex} (hl : RowK 35 Ex.cs w v l) (hK : ∀ u w1, Ext w w1 → w1.ownsRow w.heap.size 5 1 u (layR l).length (B8 (layR l)) → K (.tuple #[u, i64v (if RightP l then 0 else 1)]) w1) : CALL Try.prog 42 #[v] w K := by
  obtain ⟨a, c, ev⟩ := hl.slice
  apply call_extent_Lay
  unfold B_extent_Lay
  refine Right_spec hl ?_
  intro w1 hx1
  by_cases hr : RightP l
  case neg =>
    have c : decide (RightP l) = false := decide_eq_false hr
    (repeat (simp only [XP_extract0, XP_extract1, XP_extract2, XP_extract3, X_extract0, X_extract1, X_extract2, X_extract3, X_nilS, X_eql_nil_24, X_neq_nil_24, X_eql_nil_103, X_neq_nil_103, X_eql, X_neq, X_lss, X_leq, X_gtr, X_geq, X_not, X_min, X_max, X_len_79, X_len_35, XP_nilS, XP_eql, XP_neq, XP_lss, XP_leq, XP_gtr, XP_geq, XP_not, XP_min, XP_max, XP_len_79, XP_eql_nil_24, X_str_eql, X_str_neq, XP_str_eql, XP_str_neq, GS, gs_u, decide_true, decide_false, Option.isNone_some, Option.isSome_some, Option.isNone_none, Option.isSome_none, eq_self, Bool.not_true, Bool.not_false, Int.reduceEq, Int.reduceNe, Int.reduceLT, Int.reduceLE, Int.reduceGT, Int.reduceGE, c]))
    have := hK (.slice none 0 0) w1 hx1 (by unfold layR; rw [if_neg hr]; exact World.ownsRow_nil _ _ 5 1)
    rw [if_neg hr] at this
    exact this
  have c : decide (RightP l) = true := decide_eq_true hr
  (repeat (simp only [XP_extract0, XP_extract1, XP_extract2, XP_extract3, X_extract0, X_extract1, X_extract2, X_extract3, X_nilS, X_eql_nil_24, X_neq_nil_24, X_eql_nil_103, X_neq_nil_103, X_eql, X_neq, X_lss, X_leq, X_gtr, X_geq, X_not, X_min, X_max, X_len_79, X_len_35, XP_nilS, XP_eql, XP_neq, XP_lss, XP_leq, XP_gtr, XP_geq, XP_not, XP_min, XP_max, XP_len_79, XP_eql_nil_24, X_str_eql, X_str_neq, XP_str_eql, XP_str_neq, GS, gs_u, decide_true, decide_false, Option.isNone_some, Option.isSome_some, Option.isNone_none, Option.isSome_none, eq_self, Bool.not_true, Bool.not_false, Int.reduceEq, Int.reduceNe, Int.reduceLT, Int.reduceLE, Int.reduceGT, Int.reduceGE, c]))
  have hn := hr.1
  rw [ev, X_len_59, X_mul, w64 (x := 40 * (l.length : Int)) (by omega) (by omega), X_add, w64 (x := 4 + 40 * (l.length : Int)) (by omega) (by omega)]
  refine X_make Try.underlying79 el_5 0 (4 + 40 * l.length) rfl (by omega) (by omega) (by omega) (by omega) ?_
  have hcells : madeCells (Value.int .u8 0).cells ((4 + 40 * l.length) * 1) = (List.replicate (4 + 40 * l.length) (Value.int .u8 0)).toArray := by
    apply Array.ext'
    rw [Nat.mul_one]
    exact made_one _ _
  rw [hcells]
  have hg2 := newB_get w1 (List.replicate (4 + 40 * l.length) (Value.int .u8 0)).toArray 5
  have hx2 := newB_ext w1 (List.replicate (4 + 40 * l.length) (Value.int .u8 0)).toArray 5
  generalize newB w1 (List.replicate (4 + 40 * l.length) (Value.int .u8 0)).toArray 5 = w2 at hg2 hx2 ⊢
  have hrow : w2.ownsRow w.heap.size 5 1 (.slice (some ⟨w1.heap.size, 0, none⟩) 0 (4 + 40 * l.length)) 0 (B8 []) := by
    refine ⟨by simp, .inr ⟨w1.heap.size, 4 + 40 * l.length, _, rfl, hx1.size, hg2, by omega, by simp only [maxLen]; omega, ?_, ?_⟩⟩
    · simp
    · simp [B8]
  have hx02 := hx1.trans hx2
  rw [X_len_59, X_conv_3_30, cw64 (by omega)]
  refine Put_spec (Bts.nil w2) (by simp) (by omega) ?_
  intro v3 w3 hx3 ho3
  rw [List.nil_append, putB_4] at ho3
  refine X_append_bts Try.underlying79 el_5 (own_extD hrow hx3) (own_bts ho3).1 (by simp) (hx02.trans hx3).size ?_
  intro v4 w4 ho4 hk4
  rw [List.nil_append] at ho4
  have hx4 : Ext w w4 := Ext.seq (hx02.trans hx3) hk4 (fun g hg => (hrow.lt g hg.symm).1)
  rw [X_len_59, ← ev]
  refine loopE (fun ρ wr => ∃ (i : Nat) (vb : Value), i ≤ l.length ∧ Ext w wr ∧ wr.ownsRow w.heap.size 5 1 vb (be 4 l.length ++ rowsX (l.take i)).length (B8 (be 4 l.length ++ rowsX (l.take i))) ∧ ρ 23 = .int .i64 (i : Int) ∧ ρ 22 = .int .i64 (l.length : Int) ∧ ρ 21 = v ∧ ρ 4 = vb)
    (fun ρ wr => match ρ 23 with | .int _ s => (l.length - s).toNat | _ => 0)
    (fun ρ wr => ∃ (vb : Value), Ext w wr ∧ wr.ownsRow w.heap.size 5 1 vb (layX l).length (B8 (layX l)) ∧ ρ 4 = vb) ?_ ?_ ?_
  · refine ⟨0, v4, by omega, hx4, ?_, rfl, rfl, rfl, rfl⟩
    have e : be 4 l.length ++ rowsX (l.take 0) = be 4 l.length := by rw [List.take_zero]; exact List.append_nil _
    rw [e]
    have : 0 + (be 4 l.length).length = (be 4 l.length).length := by omega
    rw [this] at ho4
    exact ho4
  · rintro J hJ ρ wr ⟨i, vb, hi, hx, ho, r23, r22, r21, r4⟩
    rw [r23, r22, r21, X_lss, condS_bool]
    by_cases hie : i = l.length
    · rw [if_neg (by simp; omega)]
      rw [hie, List.take_of_length_le (Nat.le_refl _)] at ho
      exact hJ _ _ ⟨vb, hx, ho, r4⟩
    rw [if_pos (by simp; omega)]
    have hlt : i < l.length := by omega
    have hs := rowsX_succ l i hlt
    have hbl : (be 4 l.length ++ rowsX (l.take i)).length ≤ 700000 := by rw [List.length_append, be_length, rowsX_len, List.length_take]; omega
    refine X_takeExt (hl.ext hx) hlt ?_
    intro u1 u2 q w5 hx5 hq hqb
    have hri := hr.2 _ (List.getElem_mem hlt)
    generalize l[i] = e at hqb hs hri
    unfold right1 at hri
    have hx05 := hx.trans hx5
    have ho5 := own_extD ho hx5
    have hnum := e.k.lt
    rw [X_field_72_0, X_field_44_0]
    refine X_of (run_slice_arr_all Try.underlying41 info_5 _ _) ?_
    rw [r4]
    refine X_append_bts Try.underlying79 el_5 ho5 (sumAt (e := e) (g := q) (o := 0) (fun j u hj => by rw [Nat.zero_add, cell_blk hqb]; simpa using hj)) (by rw [e.k.len]; omega) hx05.size ?_
    intro v6 w6 ho6 hk6
    have hqb6 := hk6.get (fun h => own_neT ho5 hqb (by decide) h.symm) hqb
    have hx06 : Ext w w6 := Ext.seq hx05 hk6 (fun g hg => (ho5.lt g hg.symm).1)
    have kd := Keep.drew (fun _ => False) w6
    have hod := own_extD ho6 kd
    have hqd : (drewW w6).heap[q]? = some (.cells e.cs.toArray 72 (0, 0)) := hqb6
    have hx0d := hx06.trans kd
    refine ⟨Keep (fun g => some g = v6.ownBlock), Keep.frame _, ?_⟩
    generalize drewW w6 = wd at hod hqd hx0d ⊢
    have hqn : ¬ some q = v6.ownBlock := fun h => own_neT hod hqd (by decide) h.symm
    rw [XP_field_72_0, XP_field_44_1]
    refine XR_ok (Keep.frame _) (fun w' k => run_loadAt (v := .int .u32 (e.k.num : Int)) agg_42 ((cell_blk (k.get hqn hqd)).trans (by simpa using e.numAt))) ?_
    rw [XR_conv_42_30, cw64 (by omega), XP_field_72_1]
    refine XR_ok (Keep.frame _) (fun w' k => run_loadAt (v := .int .i64 e.off) agg_3 ((cell_blk (k.get hqn hqd)).trans (by simpa using e.offAt))) ?_
    rw [XR_conv_3_30, cwI (by omega) (by omega), XP_field_72_2]
    refine XR_ok (Keep.frame _) (fun w' k => run_loadAt (v := .int .i64 e.len) agg_3 ((cell_blk (k.get hqn hqd)).trans (by simpa using e.lenAt))) ?_
    rw [XR_conv_3_30, cwI (by omega) (by omega)]
    refine Put_spec (Bts.nil wd) (by simp) (by omega) ?_
    intro v7 w7 hx7 ho7
    rw [List.nil_append, putB_4] at ho7
    refine ⟨Keep.ext hx7, ?_⟩
    refine Put_spec (own_bts ho7).1 (by simp) (by omega) ?_
    intro v8 w8 hx8 ho8
    rw [putB_2] at ho8
    refine ⟨Keep.ext hx8, ?_⟩
    refine Put_spec (own_bts ho8).1 (by simp) (by omega) ?_
    intro v9 w9 hx9 ho9
    rw [putB_2] at ho9
    refine ⟨Keep.ext hx9, ?_⟩
    have hx79 := (hx7.trans hx8).trans hx9
    have ho6' := own_extD hod hx79
    have hx09 := hx0d.trans hx79
    refine X_append_bts Try.underlying79 el_5 ho6' (own_bts ho9).1 (by rw [e.k.len]; simp only [List.length_append, be_length] at hbl ⊢; omega) hx09.size ?_
    intro v10 w10 ho10 hk10
    refine ⟨hk10, ?_⟩
    rw [X_add]
    show _ ∧ _
    refine ⟨⟨i + 1, v10, by omega, Ext.seq hx09 hk10 (fun g hg => (ho6'.lt g hg.symm).1), ?_, next64 (n := 1000000) (by decide) (by omega), r22, r21, rfl⟩, ?_⟩
    · have ee : be 4 l.length ++ rowsX (l.take i) ++ e.k.sum ++ (be 4 e.k.num ++ be 2 e.off.toNat ++ be 2 e.len.toNat) = be 4 l.length ++ rowsX (l.take (i + 1)) := by
        rw [hs]
        unfold rowX
        simp only [List.append_assoc]
      rw [ee] at ho10
      have h2 := (own_bts ho10).2
      rw [h2] at ho10
      exact ho10
    · show (_ - IntKind.i64.wrap _).toNat < _
      rw [w64 (by omega) (by omega)]
      first | omega | (show _ < (_ : Int).toNat; omega)
  · rintro ρ wr ⟨vb, hx, ho, r4⟩
    rw [r4]
    have e : layR l = layX l := if_pos hr
    have := hK vb wr hx (by rw [e]; exact ho)
    rw [if_pos hr] at this
    exact this
set_option maxHeartbeats 1000000 in
theorem RLay_spec {v : Value} {l : List Ex} (hl : RowK 35 Ex.cs w v l) (hK : ∀ u w1, Ext w w1 → w1.ownsRow w.heap.size 5 1 u (layR l).length (B8 (layR l)) → K (.tuple #[u, i64v (if RightP l then 0 else 1)]) w1) : CALL Try.prog 43 #[v] w K := by
  obtain ⟨a, c, ev⟩ := hl.slice
  apply call_ref16_Lay
  unfold B_ref16_Lay
  refine RRight_spec hl ?_
  intro w1 hx1
  by_cases hr : RightP l
  case neg =>
    have c : decide (RightP l) = false := decide_eq_false hr
    (repeat (simp only [XP_extract0, XP_extract1, XP_extract2, XP_extract3, X_extract0, X_extract1, X_extract2, X_extract3, X_nilS, X_eql_nil_24, X_neq_nil_24, X_eql_nil_103, X_neq_nil_103, X_eql, X_neq, X_lss, X_leq, X_gtr, X_geq, X_not, X_min, X_max, X_len_79, X_len_35, XP_nilS, XP_eql, XP_neq, XP_lss, XP_leq, XP_gtr, XP_geq, XP_not, XP_min, XP_max, XP_len_79, XP_eql_nil_24, X_str_eql, X_str_neq, XP_str_eql, XP_str_neq, GS, gs_u, decide_true, decide_false, Option.isNone_some, Option.isSome_some, Option.isNone_none, Option.isSome_none, eq_self, Bool.not_true, Bool.not_false, Int.reduceEq, Int.reduceNe, Int.reduceLT, Int.reduceLE, Int.reduceGT, Int.reduceGE, c]))
    have := hK (.slice none 0 0) w1 hx1 (by unfold layR; rw [if_neg hr]; exact World.ownsRow_nil _ _ 5 1)
    rw [if_neg hr] at this
    exact this
  have c : decide (RightP l) = true := decide_eq_true hr
  (repeat (simp only [XP_extract0, XP_extract1, XP_extract2, XP_extract3, X_extract0, X_extract1, X_extract2, X_extract3, X_nilS, X_eql_nil_24, X_neq_nil_24, X_eql_nil_103, X_neq_nil_103, X_eql, X_neq, X_lss, X_leq, X_gtr, X_geq, X_not, X_min, X_max, X_len_79, X_len_35, XP_nilS, XP_eql, XP_neq, XP_lss, XP_leq, XP_gtr, XP_geq, XP_not, XP_min, XP_max, XP_len_79, XP_eql_nil_24, X_str_eql, X_str_neq, XP_str_eql, XP_str_neq, GS, gs_u, decide_true, decide_false, Option.isNone_some, Option.isSome_some, Option.isNone_none, Option.isSome_none, eq_self, Bool.not_true, Bool.not_false, Int.reduceEq, Int.reduceNe, Int.reduceLT, Int.reduceLE, Int.reduceGT, Int.reduceGE, c]))
  have hn := hr.1
  rw [ev, X_len_59, X_conv_3_30, cw64 (by omega), ← ev]
  refine RPut_spec (by omega) ?_
  intro v3 w3 hx3 ho3
  rw [putB_4] at ho3
  have hx03 := hx1.trans hx3
  refine loopE (fun ρ wr => ∃ (i : Nat) (vb : Value), i ≤ l.length ∧ Ext w wr ∧ wr.ownsRow w.heap.size 5 1 vb (be 4 l.length ++ rowsX (l.take i)).length (B8 (be 4 l.length ++ rowsX (l.take i))) ∧ ρ 5 = .int .i64 (i : Int) ∧ ρ 0 = v ∧ ρ 4 = vb)
    (fun ρ wr => match ρ 5 with | .int _ s => (l.length - s).toNat | _ => 0)
    (fun ρ wr => ∃ (vb : Value), Ext w wr ∧ wr.ownsRow w.heap.size 5 1 vb (layX l).length (B8 (layX l)) ∧ ρ 4 = vb) ?_ ?_ ?_
  · refine ⟨0, v3, by omega, hx03, ?_, rfl, rfl, rfl⟩
    have e : be 4 l.length ++ rowsX (l.take 0) = be 4 l.length := by rw [List.take_zero]; exact List.append_nil _
    rw [e]
    exact own_mono ho3 hx1.size
  · rintro J hJ ρ wr ⟨i, vb, hi, hx, ho, r5, r0, r4⟩
    rw [r5, r0, r4, ev, X_len_59, X_lss, condS_bool, ← ev]
    by_cases hie : i = l.length
    · rw [if_neg (by simp; omega)]
      rw [hie, List.take_of_length_le (Nat.le_refl _)] at ho
      exact hJ _ _ ⟨vb, hx, ho, r4⟩
    rw [if_pos (by simp; omega)]
    have hlt : i < l.length := by omega
    have hs := rowsX_succ l i hlt
    have hbl : (be 4 l.length ++ rowsX (l.take i)).length ≤ 700000 := by rw [List.length_append, be_length, rowsX_len, List.length_take]; omega
    obtain ⟨g, o, hix, hc⟩ := ext_at (hl.ext hx) hlt
    have hcells := fun {w'} (h : RowK 35 Ex.cs w' v l) => ext_cells (w := w) hlt hix h
    have hri := hr.2 _ (List.getElem_mem hlt)
    generalize l[i] = e at hc hcells hs hri
    unfold right1 at hri
    have hnum := e.k.lt
    refine X_of (hix _) ?_
    rw [X_field_72_0, X_field_44_0]
    refine X_of (run_slice_arr_all Try.underlying41 info_5 _ _) ?_
    refine X_append_bts Try.underlying79 el_5 ho (sumAt (e := e) hc) (by rw [e.k.len]; omega) hx.size ?_
    intro v6 w6 ho6 hk6
    have hx06 : Ext w w6 := Ext.seq hx hk6 (fun g hg => (ho.lt g hg.symm).1)
    refine X_of (hix _) ?_
    rw [X_field_72_0, X_field_44_1]
    refine X_of (run_loadAt (v := .int .u32 (e.k.num : Int)) agg_42 (hcells (hl.ext hx06) 32 _ e.numAt)) ?_
    rw [X_conv_42_30, cw64 (by omega)]
    refine RPut_spec (by omega) ?_
    intro v7 w7 hx7 ho7
    rw [putB_4] at ho7
    have hx07 := hx06.trans hx7
    have ho67 := own_extD ho6 hx7
    refine X_append_bts Try.underlying79 el_5 ho67 (own_bts ho7).1 (by rw [e.k.len]; simp only [List.length_append, be_length] at hbl ⊢; omega) hx07.size ?_
    intro v8 w8 ho8 hk8
    have hx08 : Ext w w8 := Ext.seq hx07 hk8 (fun g hg => (ho67.lt g hg.symm).1)
    refine X_of (hix _) ?_
    rw [X_field_72_1]
    refine X_of (run_loadAt (v := .int .i64 e.off) agg_3 (hcells (hl.ext hx08) 33 _ e.offAt)) ?_
    rw [X_conv_3_30, cwI (by omega) (by omega)]
    refine RPut_spec (by omega) ?_
    intro v9 w9 hx9 ho9
    rw [putB_2] at ho9
    have hx09 := hx08.trans hx9
    have ho89 := own_extD ho8 hx9
    refine X_append_bts Try.underlying79 el_5 ho89 (own_bts ho9).1 (by rw [e.k.len]; simp only [List.length_append, be_length] at hbl ⊢; omega) hx09.size ?_
    intro v10 w10 ho10 hk10
    have hx010 : Ext w w10 := Ext.seq hx09 hk10 (fun g hg => (ho89.lt g hg.symm).1)
    refine X_of (hix _) ?_
    rw [X_field_72_2]
    refine X_of (run_loadAt (v := .int .i64 e.len) agg_3 (hcells (hl.ext hx010) 34 _ e.lenAt)) ?_
    rw [X_conv_3_30, cwI (by omega) (by omega)]
    refine RPut_spec (by omega) ?_
    intro v11 w11 hx11 ho11
    rw [putB_2] at ho11
    have hx011 := hx010.trans hx11
    have ho1011 := own_extD ho10 hx11
    refine X_append_bts Try.underlying79 el_5 ho1011 (own_bts ho11).1 (by rw [e.k.len]; simp only [List.length_append, be_length] at hbl ⊢; omega) hx011.size ?_
    intro v12 w12 ho12 hk12
    rw [X_add]
    show _ ∧ _
    refine ⟨⟨i + 1, v12, by omega, Ext.seq hx011 hk12 (fun g hg => (ho1011.lt g hg.symm).1), ?_, next64 (n := 1000000) (by decide) (by omega), r0, rfl⟩, ?_⟩
    · have ee : be 4 l.length ++ rowsX (l.take i) ++ e.k.sum ++ be 4 e.k.num ++ be 2 e.off.toNat ++ be 2 e.len.toNat = be 4 l.length ++ rowsX (l.take (i + 1)) := by
        rw [hs]
        unfold rowX
        simp only [List.append_assoc]
      rw [ee] at ho12
      have h2 := (own_bts ho12).2
      rw [h2] at ho12
      exact ho12
    · show (_ - IntKind.i64.wrap _).toNat < _
      rw [w64 (by omega) (by omega)]
      first | omega | (show _ < (_ : Int).toNat; omega)
  · rintro ρ wr ⟨vb, hx, ho, r4⟩
    rw [r4]
    have e : layR l = layX l := if_pos hr
    have := hK vb wr hx (by rw [e]; exact ho)
    rw [if_pos hr] at this
    exact this
end
end Go.Proofs.Ytlnkdphecinnnaa
end
section
/- The reference takes. -/
set_option linter.unusedVariables false
set_option linter.unusedSimpArgs false
namespace Go.Proofs.Ytlnkdphecinnnaa
open Go Go.Sh Go.RowKit
attribute [local irreducible] X XU XP XR CALL loopS resC closS
theorem run_build_108t (a : Option Addr) (n c : Nat) (w : World) : (Instr.build 108 #[(0, .slice a n c)]).run Try.prog w = .ok (.agg #[.slice a n c, .int .i64 0, .int .i64 0]) w := by kernel_rfl
theorem getR_lt (bs : List UInt8) (f m : Int) (hm : 0 ≤ m) : (getR bs f m).1 < 256 ^ m.toNat := by
  have hp : 0 < 256 ^ m.toNat := Nat.pow_pos (by decide)
  unfold getR
  split
  · exact hp
  · split
    · exact hp
    · split
      · exact hp
      · show num _ < _
        refine Nat.lt_of_lt_of_le (num_lt _) (Nat.pow_le_pow_right (by decide) ?_)
        rw [List.length_take]
        omega
theorem getR_lt4 (bs : List UInt8) (f : Int) : (getR bs f 4).1 < 4294967296 := getR_lt bs f 4 (by decide)
/-- How far the bytes of one extent are read. -/
def Rd (bs bs' : List UInt8) (f : Int) (j : Nat) : Prop := (f = 0 ∧ bs' = bs.drop j ∧ j ≤ bs.length) ∨ (f ≠ 0 ∧ bs.length < 40)
theorem rd_step {bs bs' : List UInt8} {f : Int} {j : Nat} (m : Nat) (h : Rd bs bs' f j) (hj : j + m ≤ 40) (h8 : m ≤ 8) :
    Rd bs (getR bs' f (m : Int)).2.1 (getR bs' f (m : Int)).2.2 (j + m) ∧ ((getR bs' f (m : Int)).2.2 = 0 → f = 0 ∧ j + m ≤ bs.length ∧ (getR bs' f (m : Int)).1 = num ((bs.drop j).take m)) := by
  rcases h with ⟨rfl, rfl, hjl⟩ | ⟨hf, hl⟩
  · by_cases hm : m ≤ (bs.drop j).length
    · rw [getR_ok hm h8]
      rw [List.length_drop] at hm
      exact ⟨.inl ⟨rfl, by rw [List.drop_drop], by omega⟩, fun _ => ⟨rfl, by omega, rfl⟩⟩
    · have e : getR (bs.drop j) 0 (m : Int) = (0, bs.drop j, 10) := by
        unfold getR
        rw [if_neg (by simp), if_neg (by omega), if_pos (by simp only [Int.toNat_natCast]; omega)]
      rw [e]
      rw [List.length_drop] at hm
      exact ⟨.inr ⟨show (10 : Int) ≠ 0 by decide, by omega⟩, fun h => by cases h⟩
  · have e : getR bs' f (m : Int) = (0, bs', f) := by unfold getR; rw [if_pos hf]
    rw [e]
    exact ⟨.inr ⟨hf, hl⟩, fun h => absurd h hf⟩
theorem kys_len (ss : List UInt8) (h : ss.length = 32) : (B8 ss).length = 32 := by simpa using h
theorem set_sum {ss : List UInt8} {n : Nat} (h : ss.length = 32) (hn : n < 4294967296) (a b : Int) {j : Nat} (hj : j < 32) (u : UInt8) :
    (mkEx ⟨ss, n, h, hn⟩ a b).cs.toArray.setIfInBounds j (.int .u8 ((u.toNat : Nat) : Int)) = (mkEx ⟨ss.set j u, n, by simpa using h, hn⟩ a b).cs.toArray := by
  show (B8 ss ++ [Value.int .u32 (n : Int)] ++ [Value.int .i64 (IntKind.i64.wrap a), Value.int .i64 (IntKind.i64.wrap b)]).toArray.setIfInBounds j _ = (B8 (ss.set j u) ++ [Value.int .u32 (n : Int)] ++ [Value.int .i64 (IntKind.i64.wrap a), Value.int .i64 (IntKind.i64.wrap b)]).toArray
  have hl := kys_len ss h
  rw [List.setIfInBounds_toArray, List.set_append_left _ _ (by rw [List.length_append]; omega), List.set_append_left _ _ (by omega), B8_set]
theorem set_num {ss : List UInt8} (h : ss.length = 32) {n m : Nat} (hm : m < 4294967296) (hn : n < 4294967296) (a b : Int) :
    (mkEx ⟨ss, m, h, hm⟩ a b).cs.toArray.setIfInBounds (0 + 32) (.int .u32 (n : Int)) = (mkEx ⟨ss, n, h, hn⟩ a b).cs.toArray := by
  show (B8 ss ++ [Value.int .u32 (m : Int)] ++ [Value.int .i64 (IntKind.i64.wrap a), Value.int .i64 (IntKind.i64.wrap b)]).toArray.setIfInBounds (0 + 32) _ = (B8 ss ++ [Value.int .u32 (n : Int)] ++ [Value.int .i64 (IntKind.i64.wrap a), Value.int .i64 (IntKind.i64.wrap b)]).toArray
  have hl := kys_len ss h
  rw [List.setIfInBounds_toArray, List.set_append_left _ _ (by rw [List.length_append, List.length_singleton]; omega), List.set_append_right _ _ (by omega), hl]
  rfl
theorem z72_nil : z72 = (mkEx ⟨List.replicate 32 0, 0, List.length_replicate, by decide⟩ 0 0).cs := by
  have e : (mkEx ⟨List.replicate 32 0, 0, List.length_replicate, by decide⟩ 0 0).cs = nilKy.cs ++ [Value.int .i64 (IntKind.i64.wrap 0), Value.int .i64 (IntKind.i64.wrap 0)] := rfl
  rw [e, nilKy_cs]
  rfl
theorem num_one (l : List UInt8) {j : Nat} (h : j < l.length) : num ((l.drop j).take 1) = l[j].toNat := by
  rw [List.drop_eq_getElem_cons h]
  show num [l[j]] = _
  simp [num]
section
variable {w : World} {K : Value → World → Prop}
set_option maxHeartbeats 2000000 in
theorem RTake_spec {v : Value} {x : List UInt8} (hb : Bts w v x) (hl : x.length ≤ 1000000) (hK : ∀ u w1, Ext w w1 → OwnK 35 72 Ex.cs w1 w.heap.size u ((takeX x).getD []) → K (.tuple #[u, i64v (if (takeX x).isSome then 0 else 160)]) w1) : CALL Try.prog 45 #[v] w K := by
  obtain ⟨a, c, ev⟩ := Bts.slice hb
  have none' : takeX x = none → ∀ w1, Ext w w1 → K (.tuple #[.slice none 0 0, .int .i64 160]) w1 := fun h w1 hx => by
    have := hK (.slice none 0 0) w1 hx (by rw [h]; exact ownK_nil _ _)
    rw [h] at this
    exact this
  apply call_ref16_Take
  unfold B_ref16_Take
  rw [ev]
  refine X_of (run_build_108t a _ c _) ?_
  refine X_box ?_
  have hx1 := newB_ext w #[.slice a x.length c, .int .i64 0, .int .i64 0] 108
  have hg1 := newB_get w #[.slice a x.length c, .int .i64 0, .int .i64 0] 108
  show CALL _ _ _ (newB w #[.slice a x.length c, .int .i64 0, .int .i64 0] 108) _
  rw [← ev]
  rw [← ev] at hx1 hg1
  generalize newB w #[v, .int .i64 0, .int .i64 0] 108 = w1 at hx1 hg1 ⊢
  have hr1 : RdrR w1 0 w.heap.size w.heap.size x x 0 := ⟨v, 0, hg1, hb.ext hx1, Nat.zero_le _, rfl, fun h0 k hk => by have := hb.blk_lt h0 k hk; omega⟩
  generalize hB : w.heap.size = B at hr1
  refine RGet_spec hr1 ?_
  intro w2 hk2 hr2
  have hx2 : Ext w w2 := Ext.seq hx1 hk2 (fun i hi => by omega)
  have hNl := getR_lt4 x 0
  have hN : (4 ≤ x.length ∧ getR x 0 4 = (num (x.take 4), x.drop 4, 0)) ∨ (x.length < 4 ∧ getR x 0 4 = (0, x, 10)) := by
    by_cases h : 4 ≤ x.length
    · exact .inl ⟨h, getR_ok (m := 4) h (by decide)⟩
    · refine .inr ⟨by omega, ?_⟩
      unfold getR
      rw [if_neg (by simp), if_neg (by decide), if_pos (by show x.length < 4; omega)]
  have hform : ∀ n, FormX x n → n = (getR x 0 4).1 ∧ 4 ≤ x.length := by
    intro n hf
    rcases hN with ⟨h1, h2⟩ | ⟨h1, h2⟩
    · rw [h2]; exact ⟨hf.2.symm, h1⟩
    · have := hf.1; omega
  have hstart : ((getR x 0 4).2.2 = 0 ∧ 4 ≤ x.length ∧ (getR x 0 4).2.1 = x.drop (4 + 40 * 0) ∧ num (x.take 4) = (getR x 0 4).1) ∨ ((getR x 0 4).2.2 ≠ 0 ∧ x.length < 4 + 40 * (getR x 0 4).1) := by
    rcases hN with ⟨h1, h2⟩ | ⟨h1, h2⟩
    · rw [h2]; exact .inl ⟨rfl, h1, rfl, rfl⟩
    · rw [h2]; exact .inr ⟨by show (10 : Int) ≠ 0; decide, by show x.length < 4 + 40 * 0; omega⟩
  generalize (getR x 0 4).1 = N at hNl hform hstart ⊢
  generalize (getR x 0 4).2.1 = bs0 at hr2 hstart
  generalize (getR x 0 4).2.2 = f0 at hr2 hstart
  refine loopE (fun ρ wr => ∃ (i : Nat) (vo : Value) (l : List Ex) (bs : List UInt8) (f : Int), i ≤ N ∧ Ext w wr ∧ OwnK 35 72 Ex.cs wr w.heap.size vo l ∧ RdrR wr 0 B B x bs f ∧
      ((f = 0 ∧ 4 + 40 * i ≤ x.length ∧ bs = x.drop (4 + 40 * i) ∧ l = exsOf i (x.drop 4) ∧ num (x.take 4) = N) ∨ (f ≠ 0 ∧ x.length < 4 + 40 * N)) ∧ ρ 5 = .int .u64 ((N - i : Nat) : Int) ∧ ρ 4 = ptr B ∧ ρ 6 = vo)
    (fun ρ wr => match ρ 5 with | .int _ s => s.toNat | _ => 0)
    (fun ρ wr => ∃ (vo : Value) (l : List Ex) (bs : List UInt8) (f : Int), Ext w wr ∧ OwnK 35 72 Ex.cs wr w.heap.size vo l ∧ RdrR wr 0 B B x bs f ∧
      ((f = 0 ∧ 4 + 40 * N ≤ x.length ∧ bs = x.drop (4 + 40 * N) ∧ l = exsOf N (x.drop 4) ∧ num (x.take 4) = N) ∨ (f ≠ 0 ∧ x.length < 4 + 40 * N)) ∧ ρ 4 = ptr B ∧ ρ 6 = vo) ?_ ?_ ?_
  · refine ⟨0, _, [], bs0, f0, by omega, hx2, ownK_nil _ _, hr2, ?_, rfl, rfl, rfl⟩
    rcases hstart with ⟨h1, h2, h3, h4⟩ | h
    · exact .inl ⟨h1, by omega, h3, rfl, h4⟩
    · exact .inr h
  · rintro J hJ ρ wr ⟨i, vo, l, bs, f, hi, hx, ho, hr, hst, r5, r4, r6⟩
    rw [r5, r4, X_gtr]
    obtain ⟨vr, ar, hrb, _⟩ := id hr
    by_cases hie : i = N
    · have c : decide (((N - i : Nat) : Int) > 0) = false := decide_eq_false (by omega)
      (repeat (simp only [XP_extract0, XP_extract1, XP_extract2, XP_extract3, X_extract0, X_extract1, X_extract2, X_extract3, X_nilS, X_eql_nil_24, X_neq_nil_24, X_eql_nil_103, X_neq_nil_103, X_eql, X_neq, X_lss, X_leq, X_gtr, X_geq, X_not, X_min, X_max, X_len_79, X_len_35, XP_nilS, XP_eql, XP_neq, XP_lss, XP_leq, XP_gtr, XP_geq, XP_not, XP_min, XP_max, XP_len_79, XP_eql_nil_24, X_str_eql, X_str_neq, XP_str_eql, XP_str_neq, GS, gs_u, decide_true, decide_false, Option.isNone_some, Option.isSome_some, Option.isNone_none, Option.isSome_none, eq_self, Bool.not_true, Bool.not_false, Int.reduceEq, Int.reduceNe, Int.reduceLT, Int.reduceLE, Int.reduceGT, Int.reduceGE, c]))
      subst hie
      exact hJ _ _ ⟨vo, l, bs, f, hx, ho, hr, hst, r4, r6⟩
    have c : decide (((N - i : Nat) : Int) > 0) = true := decide_eq_true (by omega)
    (repeat (simp only [XP_extract0, XP_extract1, XP_extract2, XP_extract3, X_extract0, X_extract1, X_extract2, X_extract3, X_nilS, X_eql_nil_24, X_neq_nil_24, X_eql_nil_103, X_neq_nil_103, X_eql, X_neq, X_lss, X_leq, X_gtr, X_geq, X_not, X_min, X_max, X_len_79, X_len_35, XP_nilS, XP_eql, XP_neq, XP_lss, XP_leq, XP_gtr, XP_geq, XP_not, XP_min, XP_max, XP_len_79, XP_eql_nil_24, X_str_eql, X_str_neq, XP_str_eql, XP_str_neq, GS, gs_u, decide_true, decide_false, Option.isNone_some, Option.isSome_some, Option.isNone_none, Option.isSome_none, eq_self, Bool.not_true, Bool.not_false, Int.reduceEq, Int.reduceNe, Int.reduceLT, Int.reduceLE, Int.reduceGT, Int.reduceGE, c, X_field_108_2]))
    refine X_of (run_loadAt (v := .int .i64 f) agg_25 ((cell_blk hrb).trans rfl)) ?_
    by_cases hf : f = 0
    case neg =>
      have c2 : decide (f = 0) = false := decide_eq_false hf
      (repeat (simp only [XP_extract0, XP_extract1, XP_extract2, XP_extract3, X_extract0, X_extract1, X_extract2, X_extract3, X_nilS, X_eql_nil_24, X_neq_nil_24, X_eql_nil_103, X_neq_nil_103, X_eql, X_neq, X_lss, X_leq, X_gtr, X_geq, X_not, X_min, X_max, X_len_79, X_len_35, XP_nilS, XP_eql, XP_neq, XP_lss, XP_leq, XP_gtr, XP_geq, XP_not, XP_min, XP_max, XP_len_79, XP_eql_nil_24, X_str_eql, X_str_neq, XP_str_eql, XP_str_neq, GS, gs_u, decide_true, decide_false, Option.isNone_some, Option.isSome_some, Option.isNone_none, Option.isSome_none, eq_self, Bool.not_true, Bool.not_false, Int.reduceEq, Int.reduceNe, Int.reduceLT, Int.reduceLE, Int.reduceGT, Int.reduceGE, c2]))
      refine hJ _ _ ⟨vo, l, bs, f, hx, ho, hr, .inr ⟨hf, ?_⟩, r4, r6⟩
      rcases hst with h | h
      · exact absurd h.1 hf
      · exact h.2
    have c2 : decide (f = 0) = true := decide_eq_true hf
    subst hf
    (repeat (simp only [XP_extract0, XP_extract1, XP_extract2, XP_extract3, X_extract0, X_extract1, X_extract2, X_extract3, X_nilS, X_eql_nil_24, X_neq_nil_24, X_eql_nil_103, X_neq_nil_103, X_eql, X_neq, X_lss, X_leq, X_gtr, X_geq, X_not, X_min, X_max, X_len_79, X_len_35, XP_nilS, XP_eql, XP_neq, XP_lss, XP_leq, XP_gtr, XP_geq, XP_not, XP_min, XP_max, XP_len_79, XP_eql_nil_24, X_str_eql, X_str_neq, XP_str_eql, XP_str_neq, GS, gs_u, decide_true, decide_false, Option.isNone_some, Option.isSome_some, Option.isNone_none, Option.isSome_none, eq_self, Bool.not_true, Bool.not_false, Int.reduceEq, Int.reduceNe, Int.reduceLT, Int.reduceLE, Int.reduceGT, Int.reduceGE, c2]))
    obtain ⟨hlen, hbs, hle, hN4⟩ : 4 + 40 * i ≤ x.length ∧ bs = x.drop (4 + 40 * i) ∧ l = exsOf i (x.drop 4) ∧ num (x.take 4) = N := by
      rcases hst with h | h
      · exact h.2
      · exact absurd rfl h.1
    refine X_alloc zero_72 ?_
    have hx3 := newB_ext wr z72.toArray 72
    have hg3 := newB_get wr z72.toArray 72
    show loopS _ _ _ (newB wr z72.toArray 72)
    generalize newB wr z72.toArray 72 = w3 at hx3 hg3 ⊢
    rw [z72_nil] at hg3
    generalize hq : wr.heap.size = q at hg3
    have hqB : B < q := by have := lt_of_blk hrb; omega
    have hvq : ∀ g, vo.ownBlock = some g → g < q ∧ g ≠ B := fun g hg => ⟨by have := (ho.lt g hg).2; omega, fun h => own_neT ho hrb (by decide) (by rw [hg, h])⟩
    refine loopG 2 (fun ρ2 w2 => ∃ (j : Nat) (ss bs' : List UInt8) (f' : Int) (hs : ss.length = 32), j ≤ 32 ∧ Ext w w2 ∧ OwnK 35 72 Ex.cs w2 w.heap.size vo l ∧ RdrR w2 0 B B x bs' f' ∧ w2.heap[q]? = some (.cells (mkEx ⟨ss, 0, hs, by decide⟩ 0 0).cs.toArray 72 (0, 0)) ∧ Rd bs bs' f' j ∧ (f' = 0 → ss.take j = bs.take j) ∧
        ρ2 8 = .int .i64 (j : Int) ∧ ρ2 4 = ptr B ∧ ρ2 7 = ptr q ∧ ρ2 5 = .int .u64 ((N - i : Nat) : Int) ∧ ρ2 6 = vo)
      (fun ρ2 w2 => match ρ2 8 with | .int _ s => (32 - s).toNat | _ => 0)
      (fun ρ2 w2 => ∃ (ss bs' : List UInt8) (f' : Int) (hs : ss.length = 32), Ext w w2 ∧ OwnK 35 72 Ex.cs w2 w.heap.size vo l ∧ RdrR w2 0 B B x bs' f' ∧ w2.heap[q]? = some (.cells (mkEx ⟨ss, 0, hs, by decide⟩ 0 0).cs.toArray 72 (0, 0)) ∧ Rd bs bs' f' 32 ∧ (f' = 0 → ss = bs.take 32) ∧
        ρ2 4 = ptr B ∧ ρ2 7 = ptr q ∧ ρ2 5 = .int .u64 ((N - i : Nat) : Int) ∧ ρ2 6 = vo) ?_ ?_ ?_
    · exact ⟨0, _, bs, 0, List.length_replicate, by omega, hx.trans hx3, ho.ext hx3, hr.ext hx3, hg3, .inl ⟨rfl, rfl, Nat.zero_le _⟩, fun _ => by simp, rfl, r4, by subst hq; rfl, r5, r6⟩
    · rintro J2 hJ2 ρ2 w4 ⟨j, ss, bs', f', hs, hj, hx4, ho4, hr4, hg4, hrd, hsj, q8, q4, q7, q5, q6⟩
      rw [q8, q4, q7, X_lss, condS_bool]
      by_cases hje : j = 32
      · rw [if_neg (by simp; omega)]
        subst hje
        refine hJ2 _ _ ⟨ss, bs', f', hs, hx4, ho4, hr4, hg4, hrd, fun h => ?_, q4, q7, q5, q6⟩
        rw [← hsj h, List.take_of_length_le (by omega)]
      rw [if_pos (by simp; omega)]
      refine RGet_spec hr4 ?_
      obtain ⟨st1, st2⟩ := rd_step 1 hrd (by omega) (by decide)
      intro w5 hk5 hr5
      rw [X_conv_30_5, u8_wrap, X_field_72_0, X_field_44_0]
      have hixa := ix_arr Try.underlying41 info_5 (a := ⟨q, 0, none⟩) (k := .i64) (ii := (j : Int)) j rfl (by omega) w5
      rw [sz_5, Nat.mul_one, add_plain, Nat.zero_add] at hixa
      refine X_of hixa ?_
      have hg5 := hk5.get (by omega) hg4
      refine XU_store info_5 sz_5 rfl hg5 (by simp [Ex.cs_len]; omega) (by show ¬ (0 ≤ _ ∧ _ < 0); omega) ?_
      rw [set_sum hs (by decide) 0 0 (by omega)]
      have hk6 := setAt_keep w5 q (mkEx ⟨ss.set j (UInt8.ofNat (getR bs' f' ((1 : Nat) : Int)).1), 0, by simpa using hs, by decide⟩ 0 0).cs.toArray 72 (0, 0)
      have hg6 : (setAt w5 q (mkEx ⟨ss.set j (UInt8.ofNat (getR bs' f' ((1 : Nat) : Int)).1), 0, by simpa using hs, by decide⟩ 0 0).cs.toArray 72 (0, 0)).heap[q]? = some (.cells (mkEx ⟨ss.set j (UInt8.ofNat (getR bs' f' ((1 : Nat) : Int)).1), 0, by simpa using hs, by decide⟩ 0 0).cs.toArray 72 (0, 0)) := setAt_same (lt_of_blk hg5)
      show X _ _ (setAt w5 q (mkEx ⟨ss.set j (UInt8.ofNat (getR bs' f' ((1 : Nat) : Int)).1), 0, by simpa using hs, by decide⟩ 0 0).cs.toArray 72 (0, 0)) _
      generalize setAt w5 q (mkEx ⟨ss.set j (UInt8.ofNat (getR bs' f' ((1 : Nat) : Int)).1), 0, by simpa using hs, by decide⟩ 0 0).cs.toArray 72 (0, 0) = w6 at hk6 hg6 ⊢
      have hkk : Keep (fun g => g = B ∨ g = q) w4 w6 := Keep.trans (hk5.mono (fun _ _ h => .inl h)) (hk6.mono (fun _ _ h => .inr h))
      rw [X_add]
      show _ ∧ _
      refine ⟨⟨j + 1, _, _, _, by simpa using hs, by omega, Ext.seq hx4 hkk (fun g hg => by omega), ho4.keep hkk (fun g hg hg' => by have := hvq g hg; omega), hr5.keep hk6 (by omega) (fun i _ h2 _ h4 => by omega), hg6, st1, fun h => ?_, next64 (n := 1000) (by decide) (by omega), q4, q7, q5, q6⟩, ?_⟩
      · obtain ⟨e1, e2, e3⟩ := st2 h
        have hjb : j < bs.length := by omega
        rw [List.take_succ_eq_append_getElem (by rw [List.length_set]; omega), List.take_succ_eq_append_getElem hjb, List.getElem_set_self, List.take_set_of_le (Nat.le_refl _), hsj e1, e3, num_one bs hjb]
        simp
      · show (_ - IntKind.i64.wrap _).toNat < _
        rw [w64 (by omega) (by omega)]
        first | omega | (show _ < (_ : Int).toNat; omega)
    · rintro ρ2 w4 ⟨ss, bs', f', hs, hx4, ho4, hr4, hg4, hrd, hsj, q4, q7, q5, q6⟩
      show CALL _ 57 #[ρ2 4, .int .i64 4] _ _
      rw [q4]
      refine RGet_spec hr4 ?_
      obtain ⟨sA1, sA2⟩ := rd_step 4 hrd (by omega) (by decide)
      have hn4 := getR_lt4 bs' f'
      intro w5 hk5 hr5
      rw [X_conv_30_42, cw32 hn4]
      show X _ (Instr.fieldAt 72 (ρ2 7) 0) _ _
      rw [q7, X_field_72_0, X_field_44_1]
      have hg5 := hk5.get (by omega) hg4
      refine XU_store info_42 sz_42 rfl hg5 (by simp [Ex.cs_len]) (by show ¬ (0 ≤ _ ∧ _ < 0); omega) ?_
      rw [set_num hs (by decide) hn4]
      have hr5' : RdrR w5 0 B B x (getR bs' f' ((4 : Nat) : Int)).2.1 (getR bs' f' ((4 : Nat) : Int)).2.2 := hr5
      have sA3 : (getR bs' f' ((4 : Nat) : Int)).2.2 = 0 → f' = 0 ∧ 32 + 4 ≤ bs.length ∧ (getR bs' f' 4).1 = num ((bs.drop 32).take 4) := sA2
      generalize hkA : (⟨ss, (getR bs' f' 4).1, hs, hn4⟩ : Ky) = kA
      generalize (getR bs' f' ((4 : Nat) : Int)).2.1 = bsA at sA1 hr5'
      generalize (getR bs' f' ((4 : Nat) : Int)).2.2 = fA at sA1 sA3 hr5'
      have hk6 := setAt_keep w5 q (mkEx kA 0 0).cs.toArray 72 (0, 0)
      have hg6 : (setAt w5 q (mkEx kA 0 0).cs.toArray 72 (0, 0)).heap[q]? = some (.cells (mkEx kA 0 0).cs.toArray 72 (0, 0)) := setAt_same (lt_of_blk hg5)
      generalize setAt w5 q (mkEx kA 0 0).cs.toArray 72 (0, 0) = w6 at hk6 hg6 ⊢
      have hr6 := hr5'.keep hk6 (by omega) (fun i _ h2 _ h4 => by omega)
      refine RGet_spec hr6 ?_
      obtain ⟨sB1, sB2⟩ := rd_step 2 sA1 (by omega) (by decide)
      intro w7 hk7 hr7
      rw [X_conv_30_3]
      rw [X_field_72_1]
      have hg7 := hk7.get (by omega) hg6
      refine XU_store info_3 sz_3 rfl hg7 (by simp [Ex.cs_len]) (by show ¬ (0 ≤ _ ∧ _ < 0); omega) ?_
      rw [set_offM]
      have hr7' : RdrR w7 0 B B x (getR bsA fA ((2 : Nat) : Int)).2.1 (getR bsA fA ((2 : Nat) : Int)).2.2 := hr7
      have sB3 : (getR bsA fA ((2 : Nat) : Int)).2.2 = 0 → fA = 0 ∧ 36 + 2 ≤ bs.length ∧ (getR bsA fA 2).1 = num ((bs.drop 36).take 2) := sB2
      generalize (getR bsA fA ((2 : Nat) : Int)).2.1 = bsB at sB1 hr7'
      generalize (getR bsA fA ((2 : Nat) : Int)).2.2 = fB at sB1 sB3 hr7'
      generalize (getR bsA fA 2).1 = nB at sB3 ⊢
      have hk8 := setAt_keep w7 q (mkEx kA nB 0).cs.toArray 72 (0, 0)
      have hg8 : (setAt w7 q (mkEx kA nB 0).cs.toArray 72 (0, 0)).heap[q]? = some (.cells (mkEx kA nB 0).cs.toArray 72 (0, 0)) := setAt_same (lt_of_blk hg7)
      generalize setAt w7 q (mkEx kA nB 0).cs.toArray 72 (0, 0) = w8 at hk8 hg8 ⊢
      have hr8 := hr7'.keep hk8 (by omega) (fun i _ h2 _ h4 => by omega)
      refine RGet_spec hr8 ?_
      obtain ⟨sC1, sC2⟩ := rd_step 2 sB1 (by omega) (by decide)
      intro w9 hk9 hr9
      rw [X_conv_30_3]
      rw [X_field_72_2]
      have hg9 := hk9.get (by omega) hg8
      refine XU_store info_3 sz_3 rfl hg9 (by simp [Ex.cs_len]) (by show ¬ (0 ≤ _ ∧ _ < 0); omega) ?_
      rw [set_lenM]
      have hr9' : RdrR w9 0 B B x (getR bsB fB ((2 : Nat) : Int)).2.1 (getR bsB fB ((2 : Nat) : Int)).2.2 := hr9
      have sC3 : (getR bsB fB ((2 : Nat) : Int)).2.2 = 0 → fB = 0 ∧ 38 + 2 ≤ bs.length ∧ (getR bsB fB 2).1 = num ((bs.drop 38).take 2) := sC2
      generalize (getR bsB fB ((2 : Nat) : Int)).2.1 = bsC at sC1 hr9'
      generalize (getR bsB fB ((2 : Nat) : Int)).2.2 = fC at sC1 sC3 hr9'
      generalize (getR bsB fB 2).1 = nC at sC3 ⊢
      have hk10 := setAt_keep w9 q (mkEx kA nB nC).cs.toArray 72 (0, 0)
      have hg10 : (setAt w9 q (mkEx kA nB nC).cs.toArray 72 (0, 0)).heap[q]? = some (.cells (mkEx kA nB nC).cs.toArray 72 (0, 0)) := setAt_same (lt_of_blk hg9)
      generalize setAt w9 q (mkEx kA nB nC).cs.toArray 72 (0, 0) = w10 at hk10 hg10 ⊢
      have hr10 := hr9'.keep hk10 (by omega) (fun i _ h2 _ h4 => by omega)
      have hex : fC = 0 → mkEx kA nB nC = exOf bs := by
        intro h
        obtain ⟨e1, e2, e3⟩ := sC3 h
        obtain ⟨e4, e5, e6⟩ := sB3 e1
        obtain ⟨e7, e8, e9⟩ := sA3 e4
        have e10 := hsj e7
        have hky : kA = kyOf bs := by
          rw [← hkA]
          unfold kyOf
          rw [dif_pos (by omega)]
          exact Ky.ext' e10 e9
        unfold exOf
        rw [hky, e3, e6]
      generalize mkEx kA nB nC = E at hg10 hex
      have mB : ∀ {wa wb : World}, Keep (fun g => g = B) wa wb → Keep (fun g => g = B ∨ g = q) wa wb := fun h => h.mono (fun _ _ h => .inl h)
      have mq : ∀ {wa wb : World}, Keep (fun g => g = q) wa wb → Keep (fun g => g = B ∨ g = q) wa wb := fun h => h.mono (fun _ _ h => .inr h)
      have hkk : Keep (fun g => g = B ∨ g = q) w4 w10 := (((((((mB hk5).trans (mq hk6)).trans (mB hk7)).trans (mq hk8)).trans (mB hk9)).trans (mq hk10)))
      have hx10 : Ext w w10 := Ext.seq hx4 hkk (fun g hg => by omega)
      have ho10 := ho4.keep hkk (fun g hg hg' => by have := hvq g hg; omega)
      refine X_of (load_cells Try.underlying72 agg_72 info_72 (l := E.cs) (by rw [sz_72, Ex.cs_len]) (fun j u hj => by rw [add_plain, Nat.zero_add, cell_blk hg10]; simpa using hj)) ?_
      have hll : l.length ≤ 1000000 := by rw [hle, exsOf_len]; omega
      rw [q6]
      refine X_appEx ho10 hll hx10.size ?_
      intro u11 v11 w11 ho11 hk11
      show X _ (binOp .sub 30 (ρ2 5) (.int .u64 1)) _ _
      rw [q5, X_sub]
      have ew : IntKind.u64.wrap (((N - i : Nat) : Int) - 1) = ((N - (i + 1) : Nat) : Int) := by rw [wrap_u64]; omega
      rw [ew]
      show _ ∧ _
      refine ⟨⟨i + 1, v11, l ++ [E], bsC, fC, by omega, Ext.seq hx10 hk11 (fun g hg => (ho10.lt g hg.symm).1), ho11, ?_, ?_, rfl, q4, rfl⟩, ?_⟩
      · obtain ⟨v9, a9, hb9, _⟩ := id hr10
        refine hr10.keep hk11 (fun h => own_neT ho10 hb9 (by decide) h.symm) (fun g _ h2 _ h4 => ?_)
        have := (ho10.lt g h4.symm).1
        omega
      · rcases sC1 with ⟨e1, e2, e3⟩ | ⟨e1, e2⟩
        · refine .inl ⟨e1, ?_, ?_, ?_, hN4⟩
          · rw [hbs, List.length_drop] at e3
            omega
          · rw [e2, hbs, List.drop_drop]
            congr 1
          · rw [exsOf_snoc, hex e1, ← hle, List.drop_drop, hbs]
        · refine .inr ⟨e1, ?_⟩
          rw [hbs, List.length_drop] at e2
          omega
      · show ((N - (i + 1) : Nat) : Int).toNat < ((N - i : Nat) : Int).toNat
        omega
  · rintro ρ wr ⟨vo, l, bs, f, hx, ho, hr, hst, r4, r6⟩
    rw [r4]
    refine REnd_spec hr ?_
    intro w3 hx3
    have hx03 := hx.trans hx3
    by_cases he : endR bs f = 0
    case neg =>
      have c : decide (endR bs f ≠ 0) = true := decide_eq_true he
      (repeat (simp only [XP_extract0, XP_extract1, XP_extract2, XP_extract3, X_extract0, X_extract1, X_extract2, X_extract3, X_nilS, X_eql_nil_24, X_neq_nil_24, X_eql_nil_103, X_neq_nil_103, X_eql, X_neq, X_lss, X_leq, X_gtr, X_geq, X_not, X_min, X_max, X_len_79, X_len_35, XP_nilS, XP_eql, XP_neq, XP_lss, XP_leq, XP_gtr, XP_geq, XP_not, XP_min, XP_max, XP_len_79, XP_eql_nil_24, X_str_eql, X_str_neq, XP_str_eql, XP_str_neq, GS, gs_u, decide_true, decide_false, Option.isNone_some, Option.isSome_some, Option.isNone_none, Option.isSome_none, eq_self, Bool.not_true, Bool.not_false, Int.reduceEq, Int.reduceNe, Int.reduceLT, Int.reduceLE, Int.reduceGT, Int.reduceGE, c]))
      refine none' (takeX_none (fun n hf => ?_)) _ hx03
      obtain ⟨e1, e2⟩ := hform n hf
      have e3 := hf.1
      rcases hst with ⟨g1, g2, g3, _, _⟩ | ⟨g1, g2⟩
      · exfalso
        apply he
        unfold endR
        rw [if_neg]
        · exact g1
        · rw [g3, List.length_drop]
          omega
      · exfalso
        omega
    have c : decide (endR bs f ≠ 0) = false := decide_eq_false (by simpa using he)
    have hf0 : f = 0 ∧ bs.length = 0 := by
      unfold endR at he
      split at he
      · exact absurd he (by decide)
      · rename_i h
        exact ⟨he, by omega⟩
    obtain ⟨g2, g3, g4, g5⟩ : 4 + 40 * N ≤ x.length ∧ bs = x.drop (4 + 40 * N) ∧ l = exsOf N (x.drop 4) ∧ num (x.take 4) = N := by
      rcases hst with h | h
      · exact h.2
      · exact absurd hf0.1 h.1
    have hfm : FormX x N := ⟨by have := hf0.2; rw [g3, List.length_drop] at this; omega, g5⟩
    (repeat (simp only [XP_extract0, XP_extract1, XP_extract2, XP_extract3, X_extract0, X_extract1, X_extract2, X_extract3, X_nilS, X_eql_nil_24, X_neq_nil_24, X_eql_nil_103, X_neq_nil_103, X_eql, X_neq, X_lss, X_leq, X_gtr, X_geq, X_not, X_min, X_max, X_len_79, X_len_35, XP_nilS, XP_eql, XP_neq, XP_lss, XP_leq, XP_gtr, XP_geq, XP_not, XP_min, XP_max, XP_len_79, XP_eql_nil_24, X_str_eql, X_str_neq, XP_str_eql, XP_str_neq, GS, gs_u, decide_true, decide_false, Option.isNone_some, Option.isSome_some, Option.isNone_none, Option.isSome_none, eq_self, Bool.not_true, Bool.not_false, Int.reduceEq, Int.reduceNe, Int.reduceLT, Int.reduceLE, Int.reduceGT, Int.reduceGE, c]))
    show CALL _ 37 #[ρ 6] _ _
    rw [r6]
    refine RRight_spec ((OwnK.rowK (by decide) Ex.csLen ho).ext hx3) ?_
    intro w4 hx4
    have hx04 := hx03.trans hx4
    subst g4
    by_cases hj : RightP (exsOf N (x.drop 4))
    · have c2 : decide (RightP (exsOf N (x.drop 4))) = true := decide_eq_true hj
      (repeat (simp only [XP_extract0, XP_extract1, XP_extract2, XP_extract3, X_extract0, X_extract1, X_extract2, X_extract3, X_nilS, X_eql_nil_24, X_neq_nil_24, X_eql_nil_103, X_neq_nil_103, X_eql, X_neq, X_lss, X_leq, X_gtr, X_geq, X_not, X_min, X_max, X_len_79, X_len_35, XP_nilS, XP_eql, XP_neq, XP_lss, XP_leq, XP_gtr, XP_geq, XP_not, XP_min, XP_max, XP_len_79, XP_eql_nil_24, X_str_eql, X_str_neq, XP_str_eql, XP_str_neq, GS, gs_u, decide_true, decide_false, Option.isNone_some, Option.isSome_some, Option.isNone_none, Option.isSome_none, eq_self, Bool.not_true, Bool.not_false, Int.reduceEq, Int.reduceNe, Int.reduceLT, Int.reduceLE, Int.reduceGT, Int.reduceGE, c2]))
      have ht := takeX_some hfm hj
      have := hK vo w4 hx04 (by rw [ht]; exact ho.ext (hx3.trans hx4))
      rw [ht] at this
      exact this
    · have c2 : decide (RightP (exsOf N (x.drop 4))) = false := decide_eq_false hj
      (repeat (simp only [XP_extract0, XP_extract1, XP_extract2, XP_extract3, X_extract0, X_extract1, X_extract2, X_extract3, X_nilS, X_eql_nil_24, X_neq_nil_24, X_eql_nil_103, X_neq_nil_103, X_eql, X_neq, X_lss, X_leq, X_gtr, X_geq, X_not, X_min, X_max, X_len_79, X_len_35, XP_nilS, XP_eql, XP_neq, XP_lss, XP_leq, XP_gtr, XP_geq, XP_not, XP_min, XP_max, XP_len_79, XP_eql_nil_24, X_str_eql, X_str_neq, XP_str_eql, XP_str_neq, GS, gs_u, decide_true, decide_false, Option.isNone_some, Option.isSome_some, Option.isNone_none, Option.isSome_none, eq_self, Bool.not_true, Bool.not_false, Int.reduceEq, Int.reduceNe, Int.reduceLT, Int.reduceLE, Int.reduceGT, Int.reduceGE, c2]))
      refine none' (takeX_none (fun n' hf => ?_)) _ hx04
      rw [(hform n' hf).1]
      exact hj
end
end Go.Proofs.Ytlnkdphecinnnaa
end
section
/- Three facts of the whole program that the kernel cannot reckon head-on: what the first words of the order say. -/
set_option linter.constructorNameAsVariable false
namespace Go.Proofs.Ytlnkdphecinnnaa
open Go Go.Sh Go.RowKit

theorem words_cons (c : Char) (hc : c ≠ Char.ofNat 32) (r : List Char) : wordsSigns (c :: r) = match wordsSigns r with | w :: ws => (c :: w) :: ws | [] => [[c]] := by
  rw [wordsSigns.eq_def]
  split
  · rename_i h; cases h
  · rename_i h; injection h with h1 h2; exact absurd h1 hc
  · rename_i c' r' _ h
    injection h with h1 h2
    subst h1; subst h2
    rfl
theorem words_append : ∀ (u r : List Char), (∀ c ∈ u, c ≠ Char.ofNat 32) → wordsSigns (u ++ Char.ofNat 32 :: r) = u :: wordsSigns r
  | [], r, _ => by rw [List.nil_append, wordsSigns.eq_def]; rfl
  | c :: u, r, h => by
    rw [List.cons_append, words_cons c (h c (by simp)), words_append u r (fun x hx => h x (by simp [hx]))]

theorem words_are : ∃ ws, wordsSigns Try.prog.initOrder.toList = "harness".toList :: "e8a15ecc23c33a030de7402db7772e6b478cba0a1dea1bb50f6a6670b6ebb8b4".toList :: "cut".toList :: ws := by
  have h : Try.prog.initOrder = "harness" ++ " " ++ "e8a15ecc23c33a030de7402db7772e6b478cba0a1dea1bb50f6a6670b6ebb8b4" ++ " " ++ "cut" ++ " " ++ "at cellarage/cellaragelaw14.CacheRoom cellarage/cellaragelaw14.CacheDrawn cellarage/cellaragelaw14.CachePlays cellarage/cellaragelaw14.CacheTells cellarage/cellaragelaw14.CacheNil cellarage/cellaragelaw16.ExtentSlices cellarage/cellaragelaw16.ExtentJoins cellarage/cellaragelaw16.ExtentCuts cellarage/cellaragelaw16.ExtentTwice cellarage/cellaragelaw16.ExtentRights cellarage/cellaragelaw16.ExtentBytes cellarage/cellaragelaw16.ExtentBack" := by kernel_rfl
  rw [h]
  simp only [String.toList_append, List.append_assoc]
  refine ⟨wordsSigns ("at cellarage/cellaragelaw14.CacheRoom cellarage/cellaragelaw14.CacheDrawn cellarage/cellaragelaw14.CachePlays cellarage/cellaragelaw14.CacheTells cellarage/cellaragelaw14.CacheNil cellarage/cellaragelaw16.ExtentSlices cellarage/cellaragelaw16.ExtentJoins cellarage/cellaragelaw16.ExtentCuts cellarage/cellaragelaw16.ExtentTwice cellarage/cellaragelaw16.ExtentRights cellarage/cellaragelaw16.ExtentBytes cellarage/cellaragelaw16.ExtentBack".toList), ?_⟩
  have e : " ".toList = [Char.ofNat 32] := by kernel_rfl
  rw [e]
  simp only [List.singleton_append]
  rw [words_append _ _ (by decide), words_append _ _ (by decide), words_append _ _ (by decide)]


theorem head_is : ∃ ws, behindMainWord (wordsSigns Try.prog.initOrder.toList) = "cut".toList :: ws := by
  obtain ⟨ws, h⟩ := words_are
  rw [h]
  exact ⟨ws, by kernel_rfl⟩
theorem laysLater_is : Try.prog.laysLater = false := by kernel_rfl
theorem bearsReflect_is : Try.prog.bearsReflect = false := by kernel_rfl
theorem doorRows_is : Try.prog.doorRows = [] := by kernel_rfl
section
variable {P : Program} {ws : List (List Char)}
theorem make_of (h : behindMainWord (wordsSigns P.initOrder.toList) = "cut".toList :: ws) : P.make = some .cut := by
  unfold Program.make
  rw [h]
  kernel_rfl
theorem headLifts_of (h : behindMainWord (wordsSigns P.initOrder.toList) = "cut".toList :: ws) : P.headLifts = [] := by
  unfold Program.headLifts
  rw [h]
  kernel_rfl
theorem liftsFinal_of (h : behindMainWord (wordsSigns P.initOrder.toList) = "cut".toList :: ws) : P.liftsFinal = false := by
  unfold Program.liftsFinal
  rw [headLifts_of h, h]
  kernel_rfl
theorem mayEnter_of (h : behindMainWord (wordsSigns P.initOrder.toList) = "cut".toList :: ws) (h1 : P.laysLater = false) (h2 : P.bearsReflect = false) (h3 : P.doorRows = []) : P.mayEnter = true := by
  unfold Program.mayEnter Program.doorFits
  rw [h, h1, h2, h3]
  kernel_rfl
end
theorem mayEnter_is : Try.prog.mayEnter = true := by
  obtain ⟨ws, h⟩ := head_is
  exact mayEnter_of h laysLater_is bearsReflect_is doorRows_is
theorem liftsFinal_is : Try.prog.liftsFinal = false := by
  obtain ⟨ws, h⟩ := head_is
  exact liftsFinal_of h
theorem make_is : Try.prog.make = some .cut := by
  obtain ⟨ws, h⟩ := head_is
  exact make_of h
end Go.Proofs.Ytlnkdphecinnnaa
end
