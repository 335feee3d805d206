/- Part 6 of what the law is proved with: Ext15 Facts. -/
import Derived.ProofKit
import Derived.Test.YtlnkdphecinnnaaQEB5
section
/- A slice of a slice; a list cut in two and joined. Plain Lean. -/
set_option linter.unusedVariables false
set_option linter.unusedSimpArgs false
namespace Go.Proofs.Ytlnkdphecinnnaa
open Go Go.Sh Go.RowKit
theorem mk_off (k : Ky) {a : Int} (b : Int) (h1 : -9223372036854775808 ≤ a) (h2 : a ≤ 9223372036854775807) : (mkEx k a b).off = a := w64 h1 h2
theorem mk_len (k : Ky) (a : Int) {b : Int} (h1 : -9223372036854775808 ≤ b) (h2 : b ≤ 9223372036854775807) : (mkEx k a b).len = b := w64 h1 h2
theorem cut_cut : ∀ (l : List Ex) (off n from_ m : Int), (∀ e ∈ l, right1 e) → 0 ≤ off → 0 ≤ from_ → cutE (cutE l off n) from_ m = cutE l (off + from_) (min m (n - from_)) := by
  intro l
  induction l with
  | nil => intros; rfl
  | cons x l ih =>
    intro off n from_ m hr ho hf
    have h1 := hr x (by simp)
    have hr' : ∀ e ∈ l, right1 e := fun e he => hr e (by simp [he])
    unfold right1 at h1
    by_cases hn : n ≤ 0
    · rw [cutE_le hn, cutE_le (l := x :: l) (n := min m (n - from_)) (by omega)]; rfl
    have e1 : cutE (x :: l) off n = if n ≤ 0 then [] else if off ≥ x.len then cutE l (off - x.len) n else mkEx x.k (x.off + off) (min (x.len - off) n) :: cutE l 0 (n - min (x.len - off) n) := rfl
    rw [if_neg hn] at e1
    by_cases hge : off ≥ x.len
    · rw [if_pos hge] at e1
      rw [e1, ih _ _ _ _ hr' (by omega) hf]
      by_cases hmin : min m (n - from_) ≤ 0
      · rw [cutE_le hmin, cutE_le hmin]
      have e2 : cutE (x :: l) (off + from_) (min m (n - from_)) = cutE l (off + from_ - x.len) (min m (n - from_)) := by
        conv => lhs; unfold cutE
        rw [if_neg hmin, if_pos (by omega)]
      rw [e2]
      congr 1
      omega
    · rw [if_neg hge] at e1
      have yo := mk_off x.k (a := x.off + off) (min (x.len - off) n) (by omega) (by omega)
      have yl := mk_len x.k (x.off + off) (b := min (x.len - off) n) (by omega) (by omega)
      have yk : (mkEx x.k (x.off + off) (min (x.len - off) n)).k = x.k := rfl
      rw [e1]
      generalize mkEx x.k (x.off + off) (min (x.len - off) n) = y at yo yl yk
      by_cases hm : m ≤ 0
      · rw [cutE_le hm, cutE_le (l := x :: l) (n := min m (n - from_)) (by omega)]
      have e3 : cutE (y :: cutE l 0 (n - min (x.len - off) n)) from_ m = if m ≤ 0 then [] else if from_ ≥ y.len then cutE (cutE l 0 (n - min (x.len - off) n)) (from_ - y.len) m else mkEx y.k (y.off + from_) (min (y.len - from_) m) :: cutE (cutE l 0 (n - min (x.len - off) n)) 0 (m - min (y.len - from_) m) := rfl
      rw [if_neg hm] at e3
      rw [e3]
      by_cases hfy : from_ ≥ y.len
      · rw [if_pos hfy, ih _ _ _ _ hr' (by omega) (by omega)]
        have e4 : min m (n - min (x.len - off) n - (from_ - y.len)) = min m (n - from_) := by omega
        rw [e4]
        by_cases hmin : min m (n - from_) ≤ 0
        · rw [cutE_le hmin, cutE_le hmin]
        have e2 : cutE (x :: l) (off + from_) (min m (n - from_)) = cutE l (off + from_ - x.len) (min m (n - from_)) := by
          conv => lhs; unfold cutE
          rw [if_neg hmin, if_pos (by omega)]
        rw [e2]
        congr 1
        omega
      · rw [if_neg hfy, ih _ _ _ _ hr' (by omega) (by omega)]
        have e2 : cutE (x :: l) (off + from_) (min m (n - from_)) = mkEx x.k (x.off + (off + from_)) (min (x.len - (off + from_)) (min m (n - from_))) :: cutE l 0 (min m (n - from_) - min (x.len - (off + from_)) (min m (n - from_))) := by
          conv => lhs; unfold cutE
          rw [if_neg (by omega), if_neg (by omega)]
        rw [e2, yk, yo, yl]
        have e5 : min (min (x.len - off) n - from_) m = min (x.len - (off + from_)) (min m (n - from_)) := by omega
        have e6 : x.off + off + from_ = x.off + (off + from_) := by omega
        rw [e5, e6]
        congr 1
        by_cases hz : min m (n - from_) - min (x.len - (off + from_)) (min m (n - from_)) ≤ 0
        · rw [cutE_le hz, cutE_le (by omega)]
        · congr 1
          omega
theorem cut_right : ∀ (l : List Ex) (off n : Int), (∀ e ∈ l, right1 e) → 0 ≤ off → ∀ e ∈ cutE l off n, right1 e := by
  intro l
  induction l with
  | nil => intro off n _ _ e he; exact absurd he (by simp [cutE])
  | cons x l ih =>
    intro off n hr ho e he
    have h1 := hr x (by simp)
    have hr' : ∀ e ∈ l, right1 e := fun e he => hr e (by simp [he])
    unfold cutE at he
    split at he
    · cases he
    · rename_i hn
      split at he
      · exact ih _ _ hr' (by omega) e he
      · rename_i hge
        rcases List.mem_cons.1 he with he | he
        · subst he
          unfold right1 at h1 ⊢
          rw [mk_off _ _ (by omega) (by omega), mk_len _ _ (by omega) (by omega)]
          omega
        · exact ih _ _ hr' (by omega) e he
theorem RightP.cut {l : List Ex} (h : RightP l) {off n : Int} (ho : 0 ≤ off) : RightP (cutE l off n) := ⟨Nat.le_trans (cutE_len _ _ _) h.1, cut_right _ _ _ h.2 ho⟩
theorem cut_tot : ∀ (l : List Ex) (off n : Int), (∀ e ∈ l, right1 e) → 0 ≤ off → totE (cutE l off n) = max 0 (min n (totE l - off)) := by
  intro l
  induction l with
  | nil => intro off n _ ho; show totE [] = max 0 (min n (totE [] - off)); have : totE [] = 0 := rfl; omega
  | cons x l ih =>
    intro off n hr ho
    have h1 := hr x (by simp)
    have hr' : ∀ e ∈ l, right1 e := fun e he => hr e (by simp [he])
    have ht := totE_nonneg hr'
    unfold right1 at h1
    rw [totE_cons]
    by_cases hn : n ≤ 0
    · rw [cutE_le hn]
      have : totE [] = 0 := rfl
      omega
    conv => lhs; unfold cutE
    rw [if_neg hn]
    by_cases hge : off ≥ x.len
    · rw [if_pos hge, ih _ _ hr' (by omega)]
      omega
    · rw [if_neg hge, totE_cons, ih _ _ hr' (by omega), mk_len _ _ (by omega) (by omega)]
      omega
theorem slice_slice {x : List Ex} {off n from_ m : Int} (ho : 0 ≤ off) (hf : 0 ≤ from_) : sliceE (sliceE x off n) from_ m = sliceE x (off + from_) (min m (n - from_)) := by
  by_cases hr : RightP x
  case neg =>
    have e1 : sliceE x off n = [] := by unfold sliceE; rw [if_pos (.inr hr)]
    have e2 : sliceE x (off + from_) (min m (n - from_)) = [] := by unfold sliceE; rw [if_pos (.inr hr)]
    rw [e1, e2]
    unfold sliceE
    split
    · rfl
    · split <;> rfl
  have all : ∀ (l : List Ex) (a b : Int), RightP l → 0 ≤ a → sliceE l a b = cutE l a b := by
    intro l a b hl ha
    unfold sliceE
    by_cases hb : b ≤ 0
    · rw [if_pos (.inl hb), cutE_le hb]
    · rw [if_neg (by rintro (h | h); exact hb h; exact h hl), if_neg (by omega)]
  rw [all x off n hr ho, all _ _ _ (hr.cut ho) hf, all _ _ _ hr (by omega)]
  exact cut_cut _ _ _ _ _ hr.2 ho hf
theorem slice_total {x : List Ex} {off n : Int} (ho : 0 ≤ off) (hn : 0 ≤ n) : totalE (sliceE x off n) = max 0 (min n (totalE x - off)) := by
  unfold sliceE
  by_cases hr : RightP x
  case neg =>
    rw [if_pos (.inr hr)]
    have e1 : totalE [] = 0 := rfl
    have e2 : totalE x = 0 := if_neg hr
    omega
  have e2 : totalE x = totE x := if_pos hr
  have ht := totE_nonneg hr.2
  by_cases hb : n ≤ 0
  · rw [if_pos (.inl hb)]
    have e1 : totalE [] = 0 := rfl
    omega
  · rw [if_neg (by rintro (h | h); exact hb h; exact h hr), if_neg (by omega)]
    have e3 : totalE (cutE x off n) = totE (cutE x off n) := if_pos (hr.cut ho)
    rw [e3, e2]
    exact cut_tot _ _ _ hr.2 ho
/-- None continues the one ahead. -/
def NoFit (l : List Ex) : Prop := ∀ i (h : i + 1 < l.length), ¬ Fits (l[i]'(by omega)) (l[i + 1]'h)
theorem join_onto : ∀ (l out : List Ex), NoFit (out ++ l) → l.foldl put1 out = out ++ l := by
  intro l
  induction l with
  | nil => intro out _; simp
  | cons x l ih =>
    intro out h
    have hp : put1 out x = out ++ [x] := by
      by_cases h0 : out.length = 0
      · exact put1_none h0
      · have hn : (out.length - 1) + 1 = out.length := by omega
        refine put1_no hn ?_
        have := h (out.length - 1) (by simp; omega)
        rw [List.getElem_append_left (by omega)] at this
        have e2 : (out ++ x :: l)[out.length - 1 + 1]'(by simp; omega) = x := by
          rw [List.getElem_append_right (by omega)]
          simp [hn]
        rw [e2] at this
        exact this
    rw [List.foldl_cons, hp, ih (out ++ [x]) (by simpa using h)]
    simp
theorem cut_all : ∀ (l : List Ex) (n : Int), (∀ e ∈ l, right1 e) → totE l ≤ n → cutE l 0 n = l := by
  intro l
  induction l with
  | nil => intros; rfl
  | cons x l ih =>
    intro n hr hn
    have h1 := hr x (by simp)
    have hr' : ∀ e ∈ l, right1 e := fun e he => hr e (by simp [he])
    have ht := totE_nonneg hr'
    unfold right1 at h1
    rw [totE_cons] at hn
    unfold cutE
    rw [if_neg (by omega), if_neg (by omega)]
    have e1 : min (x.len - 0) n = x.len := by omega
    rw [e1, ih _ hr' (by omega)]
    have e2 : mkEx x.k (x.off + 0) x.len = x := Ex.ext' rfl ((mk_off _ _ (by omega) (by omega)).trans (by omega)) (mk_len _ _ (by omega) (by omega))
    rw [e2]
/-- A list cut in two: between two extents, or in one. -/
theorem cut_two : ∀ (l : List Ex) (k big : Int), (∀ e ∈ l, right1 e) → 0 ≤ k → k ≤ totE l → totE l ≤ big →
    ∃ front back, (l = front ++ back ∧ cutE l 0 k = front ∧ cutE l k big = back) ∨ ∃ (y : Ex) (j : Int), l = front ++ y :: back ∧ 0 < j ∧ j < y.len ∧ cutE l 0 k = front ++ [mkEx y.k y.off j] ∧ cutE l k big = mkEx y.k (y.off + j) (y.len - j) :: back := by
  intro l
  induction l with
  | nil => intro k big _ _ _ _; exact ⟨[], [], .inl ⟨rfl, rfl, rfl⟩⟩
  | cons x l ih =>
    intro k big hr hk hkt hbig
    have h1 := hr x (by simp)
    have hr' : ∀ e ∈ l, right1 e := fun e he => hr e (by simp [he])
    have ht := totE_nonneg hr'
    unfold right1 at h1
    by_cases h0 : k = 0
    · subst h0
      exact ⟨[], x :: l, .inl ⟨rfl, cutE_le (by omega), cut_all _ _ hr hbig⟩⟩
    rw [totE_cons] at hkt hbig
    by_cases hge : k ≥ x.len
    · have e1 : cutE (x :: l) 0 k = x :: cutE l 0 (k - x.len) := by
        conv => lhs; unfold cutE
        rw [if_neg (by omega), if_neg (by omega)]
        have e1 : min (x.len - 0) k = x.len := by omega
        rw [e1]
        have e2 : mkEx x.k (x.off + 0) x.len = x := Ex.ext' rfl ((mk_off _ _ (by omega) (by omega)).trans (by omega)) (mk_len _ _ (by omega) (by omega))
        rw [e2]
      have e2 : cutE (x :: l) k big = cutE l (k - x.len) big := by
        conv => lhs; unfold cutE
        rw [if_neg (by omega), if_pos hge]
      rw [e1, e2]
      obtain ⟨front, back, h | ⟨y, j, h2, h3, h4, h5, h6⟩⟩ := ih (k - x.len) big hr' (by omega) (by omega) (by omega)
      · exact ⟨x :: front, back, .inl ⟨by rw [h.1]; rfl, by rw [h.2.1], h.2.2⟩⟩
      · exact ⟨x :: front, back, .inr ⟨y, j, by rw [h2]; rfl, h3, h4, by rw [h5]; rfl, h6⟩⟩
    · refine ⟨[], l, .inr ⟨x, k, rfl, by omega, by omega, ?_, ?_⟩⟩
      · unfold cutE
        rw [if_neg (by omega), if_neg (by omega)]
        have e1 : min (x.len - 0) k = k := by omega
        rw [e1, cutE_le (by omega), Int.add_zero]
        rfl
      · unfold cutE
        rw [if_neg (by omega), if_neg hge]
        have e1 : min (x.len - k) big = x.len - k := by omega
        rw [e1, cut_all _ _ hr' (by omega)]
theorem nofit_change {f : List Ex} {y z : Ex} {b : List Ex} (h : NoFit (f ++ y :: b)) (hk : z.k = y.k) (ho : z.off = y.off) : NoFit (f ++ [z]) := by
  intro i hi
  have hl : (f ++ [z]).length = f.length + 1 := by simp
  rw [hl] at hi
  have h1 := h i (by simp; omega)
  rw [List.getElem_append_left (by omega)] at h1 ⊢
  by_cases hlast : i + 1 = f.length
  · have e1 : (f ++ y :: b)[i + 1]'(by simp; omega) = y := by
      rw [List.getElem_append_right (by omega)]
      simp [hlast]
    have e2 : (f ++ [z])[i + 1]'(by simp; omega) = z := by
      rw [List.getElem_append_right (by omega)]
      simp [hlast]
    rw [e1] at h1
    rw [e2]
    unfold Fits at h1 ⊢
    rw [hk, ho]
    exact h1
  · rw [List.getElem_append_left (by omega)] at h1 ⊢
    exact h1
theorem join_cut {x : List Ex} (hr : RightP x) (hf : NoFit x) {k : Int} (hk : 0 ≤ k) (hkt : k ≤ totE x) :
    joinE [sliceE x 0 k, sliceE x k 4611686018427387904] = x := by
  have hb := totE_bound hr.2 x.length
  rw [List.take_length] at hb
  have hlen := hr.1
  have all : ∀ (a b : Int), 0 ≤ a → sliceE x a b = cutE x a b := by
    intro a b ha
    unfold sliceE
    by_cases hb : b ≤ 0
    · rw [if_pos (.inl hb), cutE_le hb]
    · rw [if_neg (by rintro (h | h); exact hb h; exact h hr), if_neg (by omega)]
  rw [all 0 k (by omega), all k _ hk]
  have hj : joinL [cutE x 0 k, cutE x k 4611686018427387904].flatten = x := by
    have e0 : [cutE x 0 k, cutE x k 4611686018427387904].flatten = cutE x 0 k ++ cutE x k 4611686018427387904 := by simp
    rw [e0]
    obtain ⟨front, back, h | ⟨y, j, h2, h3, h4, h5, h6⟩⟩ := cut_two x k 4611686018427387904 hr.2 hk hkt (by omega)
    · rw [h.2.1, h.2.2, ← h.1]
      have := join_onto x [] (by simpa using hf)
      simpa [joinL] using this
    · have hy := hr.2 y (by rw [h2]; simp)
      unfold right1 at hy
      have ak := mk_off y.k (a := y.off) j (by omega) (by omega)
      have al := mk_len y.k y.off (b := j) (by omega) (by omega)
      have bk := mk_off y.k (a := y.off + j) (y.len - j) (by omega) (by omega)
      have bl := mk_len y.k (y.off + j) (b := y.len - j) (by omega) (by omega)
      have kk1 : (mkEx y.k y.off j).k = y.k := rfl
      have kk2 : (mkEx y.k (y.off + j) (y.len - j)).k = y.k := rfl
      rw [h5, h6]
      generalize mkEx y.k y.off j = A at ak al kk1
      generalize mkEx y.k (y.off + j) (y.len - j) = B at bk bl kk2
      rw [h2] at hf
      unfold joinL
      rw [List.foldl_append]
      have s1 : (front ++ [A]).foldl put1 [] = front ++ [A] := join_onto (front ++ [A]) [] (by simpa using nofit_change hf kk1 ak)
      rw [s1, List.foldl_cons]
      have s2 : put1 (front ++ [A]) B = front ++ [y] := by
        have hn : front.length + 1 = (front ++ [A]).length := by simp
        have hg : (front ++ [A])[front.length]'(by simp) = A := by simp
        rw [put1_yes hn (by rw [hg]; exact ⟨by rw [kk1, kk2], by rw [ak, al, bk]⟩), hg]
        have e1 : (front ++ [A]).take front.length = front := by simp
        rw [e1]
        congr 2
        refine Ex.ext' kk1 ak ?_
        show IntKind.i64.wrap (A.len + B.len) = _
        rw [al, bl, w64 (by omega) (by omega)]
        omega
      rw [s2]
      have s3 := join_onto back (front ++ [y]) (by simpa using hf)
      rw [s3, h2]
      simp
  unfold joinE
  rw [hj, if_pos]
  refine ⟨?_, hr⟩
  intro p hp
  simp only [List.mem_cons, List.not_mem_nil, or_false] at hp
  rcases hp with rfl | rfl
  · exact hr.cut (by omega)
  · exact hr.cut hk
theorem cut_total {x : List Ex} (hr : RightP x) {k : Int} (hk : 0 ≤ k) (hkt : k ≤ totE x) : totalE (sliceE x 0 k) = k ∧ totalE (sliceE x k 4611686018427387904) = totE x - k := by
  have hb := totE_bound hr.2 x.length
  rw [List.take_length] at hb
  have hlen := hr.1
  have e2 : totalE x = totE x := if_pos hr
  rw [slice_total (by omega) hk, slice_total hk (by omega), e2]
  omega
end Go.Proofs.Ytlnkdphecinnnaa
end
section
/- Three facts of the whole program that the kernel cannot reckon head-on: what the first words of the order say. -/
set_option linter.constructorNameAsVariable false
namespace Go.Proofs.Ytlnkdphecinnnaa
open Go Go.Sh Go.RowKit

theorem words_cons (c : Char) (hc : c ≠ Char.ofNat 32) (r : List Char) : wordsSigns (c :: r) = match wordsSigns r with | w :: ws => (c :: w) :: ws | [] => [[c]] := by
  rw [wordsSigns.eq_def]
  split
  · rename_i h; cases h
  · rename_i h; injection h with h1 h2; exact absurd h1 hc
  · rename_i c' r' _ h
    injection h with h1 h2
    subst h1; subst h2
    rfl
theorem words_append : ∀ (u r : List Char), (∀ c ∈ u, c ≠ Char.ofNat 32) → wordsSigns (u ++ Char.ofNat 32 :: r) = u :: wordsSigns r
  | [], r, _ => by rw [List.nil_append, wordsSigns.eq_def]; rfl
  | c :: u, r, h => by
    rw [List.cons_append, words_cons c (h c (by simp)), words_append u r (fun x hx => h x (by simp [hx]))]

theorem words_are : ∃ ws, wordsSigns Try.prog.initOrder.toList = "harness".toList :: "e8a15ecc23c33a030de7402db7772e6b478cba0a1dea1bb50f6a6670b6ebb8b4".toList :: "cut".toList :: ws := by
  have h : Try.prog.initOrder = "harness" ++ " " ++ "e8a15ecc23c33a030de7402db7772e6b478cba0a1dea1bb50f6a6670b6ebb8b4" ++ " " ++ "cut" ++ " " ++ "at cellarage/cellaragelaw14.CacheRoom cellarage/cellaragelaw14.CacheDrawn cellarage/cellaragelaw14.CachePlays cellarage/cellaragelaw14.CacheTells cellarage/cellaragelaw14.CacheNil cellarage/cellaragelaw16.ExtentSlices cellarage/cellaragelaw16.ExtentJoins cellarage/cellaragelaw16.ExtentCuts cellarage/cellaragelaw16.ExtentTwice cellarage/cellaragelaw16.ExtentRights cellarage/cellaragelaw16.ExtentBytes cellarage/cellaragelaw16.ExtentBack" := by kernel_rfl
  rw [h]
  simp only [String.toList_append, List.append_assoc]
  refine ⟨wordsSigns ("at cellarage/cellaragelaw14.CacheRoom cellarage/cellaragelaw14.CacheDrawn cellarage/cellaragelaw14.CachePlays cellarage/cellaragelaw14.CacheTells cellarage/cellaragelaw14.CacheNil cellarage/cellaragelaw16.ExtentSlices cellarage/cellaragelaw16.ExtentJoins cellarage/cellaragelaw16.ExtentCuts cellarage/cellaragelaw16.ExtentTwice cellarage/cellaragelaw16.ExtentRights cellarage/cellaragelaw16.ExtentBytes cellarage/cellaragelaw16.ExtentBack".toList), ?_⟩
  have e : " ".toList = [Char.ofNat 32] := by kernel_rfl
  rw [e]
  simp only [List.singleton_append]
  rw [words_append _ _ (by decide), words_append _ _ (by decide), words_append _ _ (by decide)]


theorem head_is : ∃ ws, behindMainWord (wordsSigns Try.prog.initOrder.toList) = "cut".toList :: ws := by
  obtain ⟨ws, h⟩ := words_are
  rw [h]
  exact ⟨ws, by kernel_rfl⟩
theorem laysLater_is : Try.prog.laysLater = false := by kernel_rfl
theorem bearsReflect_is : Try.prog.bearsReflect = false := by kernel_rfl
theorem doorRows_is : Try.prog.doorRows = [] := by kernel_rfl
section
variable {P : Program} {ws : List (List Char)}
theorem make_of (h : behindMainWord (wordsSigns P.initOrder.toList) = "cut".toList :: ws) : P.make = some .cut := by
  unfold Program.make
  rw [h]
  kernel_rfl
theorem headLifts_of (h : behindMainWord (wordsSigns P.initOrder.toList) = "cut".toList :: ws) : P.headLifts = [] := by
  unfold Program.headLifts
  rw [h]
  kernel_rfl
theorem liftsFinal_of (h : behindMainWord (wordsSigns P.initOrder.toList) = "cut".toList :: ws) : P.liftsFinal = false := by
  unfold Program.liftsFinal
  rw [headLifts_of h, h]
  kernel_rfl
theorem mayEnter_of (h : behindMainWord (wordsSigns P.initOrder.toList) = "cut".toList :: ws) (h1 : P.laysLater = false) (h2 : P.bearsReflect = false) (h3 : P.doorRows = []) : P.mayEnter = true := by
  unfold Program.mayEnter Program.doorFits
  rw [h, h1, h2, h3]
  kernel_rfl
end
theorem mayEnter_is : Try.prog.mayEnter = true := by
  obtain ⟨ws, h⟩ := head_is
  exact mayEnter_of h laysLater_is bearsReflect_is doorRows_is
theorem liftsFinal_is : Try.prog.liftsFinal = false := by
  obtain ⟨ws, h⟩ := head_is
  exact liftsFinal_of h
theorem make_is : Try.prog.make = some .cut := by
  obtain ⟨ws, h⟩ := head_is
  exact make_of h
end Go.Proofs.Ytlnkdphecinnnaa
end
