/- Part 9 of what the law is proved with: HomeLaw2 Kit2 Home2 Home3 Duo Home4 Home5 Home6 Shown20 ArgB HomeLaw3 OwnK. -/
import Derived.Test.YtggggfcgnkllgaaQHC8
section
/- A save, whatever the power does: plain Lean. -/
set_option linter.unusedSimpArgs false
set_option linter.unusedVariables false
namespace Go.Proofs.Ytggggfcgnkllgaa
open Go Go.Sh
theorem flat_first {S : List (List UInt8)} (h : ∀ s ∈ S, s.length = 128) {B n j : Nat} (hj : n ≤ j * 128) (hs : B + j ≤ S.length) : (((S.drop B).take j).flatten).take n = ((S.drop B).flatten).take n := by
  have := take_flat S h B j (S.length - B) n (by omega) (by omega) hj
  rw [List.take_of_length_le (l := S.drop B) (by simp)] at this
  exact this.symm
theorem area_same {S S' : List (List UInt8)} (h : ∀ s ∈ S, s.length = 128) (h' : ∀ s ∈ S', s.length = 128) {B n j : Nat} (hj : n ≤ j * 128) (hs : B + j ≤ S.length) (hs' : B + j ≤ S'.length) (he : ∀ x, x < j → S'[B + x]? = S[B + x]?) :
    ((S'.drop B).flatten).take n = ((S.drop B).flatten).take n := by
  rw [← flat_first h hj hs, ← flat_first h' hj hs']
  congr 2
  apply List.ext_getElem?
  intro x
  rw [List.getElem?_take, List.getElem?_take]
  split
  · rename_i hx
    rw [List.getElem?_drop, List.getElem?_drop, he x hx]
  · rfl
theorem getD_same {S S' : List (List UInt8)} {i : Nat} (h : S'[i]? = S[i]?) : S'.getD i [] = S.getD i [] := by
  rw [List.getD_eq_getElem?_getD, List.getD_eq_getElem?_getD, h]
theorem getD_set {S : List (List UInt8)} {i : Nat} (T : List UInt8) (h : i < S.length) : (S.set i T).getD i [] = T := by
  rw [List.getD_eq_getElem?_getD, List.getElem?_set_self h]; rfl
theorem getD_set_ne {S : List (List UInt8)} {i j : Nat} (T : List UInt8) (h : i ≠ j) : (S.set i T).getD j [] = S.getD j [] := by
  rw [List.getD_eq_getElem?_getD, List.getD_eq_getElem?_getD, List.getElem?_set_ne h]
section
variable {each g a pos : Nat} {S S' : List (List UInt8)} {l : List UInt8}
/-- What is written into the free area changes nothing of what is kept. -/
theorem cur_persist (h : Cur each S l g a pos) (n1 : ∀ s ∈ S, s.length = 128) (n2 : ∀ s ∈ S', s.length = 128) (hl : 2 + 2 * each ≤ S.length) (hl' : S'.length = S.length)
    (he : ∀ x, x < 2 + a * each ∨ 2 + a * each + each ≤ x → S'[x]? = S[x]?) : Cur each S' l g a pos := by
  obtain ⟨ka, kp, h⟩ := h
  have e0 : S'.getD 0 [] = S.getD 0 [] := getD_same (he 0 (by omega))
  have e1 : S'.getD 1 [] = S.getD 1 [] := getD_same (he 1 (by omega))
  have ep : S'.getD pos [] = S.getD pos [] := getD_same (he pos (by omega))
  have eq : S'.getD (1 - pos) [] = S.getD (1 - pos) [] := getD_same (he (1 - pos) (by omega))
  refine ⟨ka, kp, ?_⟩
  rcases h with ⟨h1, h2, h3, h4, h5⟩ | ⟨s, h2, h3, h4, h5, h6, h7, h8, h9⟩
  · exact .inl ⟨h1, h2, by rw [e0]; exact h3, by rw [e1]; exact h4, h5⟩
  · refine .inr ⟨s, by rw [eq]; exact h2, by rw [ep]; exact h3, h4, h5, h6, h7, h8, ?_⟩
    have hs01 : s.area = 0 ∧ a = 1 ∨ s.area = 1 ∧ a = 0 := by omega
    refine (area_same n1 n2 (B := 2 + s.area * each) (j := each) h7 ?_ ?_ ?_).trans h9
    · rcases hs01 with ⟨e, _⟩ | ⟨e, _⟩ <;> rw [e] <;> omega
    · rcases hs01 with ⟨e, _⟩ | ⟨e, _⟩ <;> rw [e] <;> omega
    · intro x hx
      refine he _ ?_
      rcases hs01 with ⟨e, e'⟩ | ⟨e, e'⟩ <;> rw [e, e'] <;> omega
theorem cur_set (h : Cur each S l g a pos) (n1 : ∀ s ∈ S, s.length = 128) (hl : 2 + 2 * each ≤ S.length) {T : List UInt8} (hT : T.length = 128) (ht : T = S.getD pos [] ∨ takeB T = none) : Cur each (S.set pos T) l g a pos := by
  obtain ⟨ka, kp, h⟩ := h
  refine ⟨ka, kp, ?_⟩
  rcases h with ⟨h1, h2, h3, h4, h5, h6⟩ | ⟨s, h2, h3, h4, h5, h6, h7, h8, h9⟩
  · subst h6
    refine .inl ⟨h1, h2, by rw [getD_set_ne T (by decide)]; exact h3, ?_, h5, rfl⟩
    rw [getD_set T (by omega)]
    rcases ht with ht | ht
    · rw [ht]; exact h4
    · exact ht
  · refine .inr ⟨s, by rw [getD_set_ne T (by omega)]; exact h2, ?_, h4, h5, h6, h7, h8, ?_⟩
    · intro t htt
      rw [getD_set T (by omega)] at htt
      rcases ht with ht | ht
      · rw [ht] at htt; exact h3 t htt
      · rw [ht] at htt; cases htt
    · have hs01 : s.area = 0 ∧ a = 1 ∨ s.area = 1 ∧ a = 0 := by omega
      refine (area_same n1 (set_all128 n1 pos hT) (B := 2 + s.area * each) (j := each) h7 ?_ ?_ ?_).trans h9
      · rcases hs01 with ⟨e, _⟩ | ⟨e, _⟩ <;> rw [e] <;> omega
      · rw [List.length_set]; rcases hs01 with ⟨e, _⟩ | ⟨e, _⟩ <;> rw [e] <;> omega
      · intro x hx
        rw [List.getElem?_set_ne (by omega)]
theorem cur_commit (h : Cur each S l g a pos) (n1 : ∀ s ∈ S, s.length = 128) (hl : 2 + 2 * each ≤ S.length) {bs : List UInt8} (hb : bs.length ≤ each * 128) (hg : g + 1 < 256) (he : each ≤ 16384)
    (hc : ((S.drop (2 + a * each)).flatten).take bs.length = bs) : Cur each (S.set pos (layB ⟨g + 1, a, bs.length, (crc bs).toNat⟩)) bs (g + 1) (1 - a) (1 - pos) := by
  obtain ⟨ka, kp, h⟩ := h
  have hcrc : (crc bs).toNat < 4294967296 := (crc bs).isLt
  have hok : Sl.ok ⟨g + 1, a, bs.length, (crc bs).toNat⟩ := ⟨by show g + 1 < _; omega, by show a < _; omega, by show bs.length < _; omega, hcrc⟩
  have hN : (layB ⟨g + 1, a, bs.length, (crc bs).toNat⟩).length = 128 := layB_len _
  have htk : takeB (layB ⟨g + 1, a, bs.length, (crc bs).toNat⟩) = some ⟨g + 1, a, bs.length, (crc bs).toNat⟩ := by
    rw [take_lay hok, if_neg (by show ¬ g + 1 = 0; omega)]
  refine ⟨by omega, by omega, .inr ⟨⟨g + 1, a, bs.length, (crc bs).toNat⟩, ?_, ?_, rfl, by show a + (1 - a) = 1; omega, rfl, hb, rfl, ?_⟩⟩
  · rw [show 1 - (1 - pos) = pos by omega, getD_set _ (by omega)]
    exact htk
  · intro t ht
    rw [getD_set_ne _ (by omega)] at ht
    show t.gen < g + 1
    rcases h with ⟨h1, h2, h3, h4, h5, h6⟩ | ⟨s, h2, h3, h4, h5, h6, h7, h8, h9⟩
    · subst h6
      rw [show 1 - 1 = 0 from rfl, h3] at ht; cases ht
    · rw [h2] at ht
      have := Option.some.inj ht
      subst this
      omega
  · have ha01 : a = 0 ∨ a = 1 := by omega
    show (((S.set pos _).drop (2 + a * each)).flatten).take bs.length = bs
    refine (area_same n1 (set_all128 n1 pos hN) (B := 2 + a * each) (j := each) hb ?_ ?_ ?_).trans hc
    · rcases ha01 with e | e <;> rw [e] <;> omega
    · rw [List.length_set]; rcases ha01 with e | e <;> rw [e] <;> omega
    · intro x hx
      rw [List.getElem?_set_ne (by omega)]
end
/-- Bytes that were laid stand there. -/
theorem laid_bytes {S : List (List UInt8)} {B : Nat} {bs : List UInt8} (n1 : ∀ s ∈ S, s.length = 128) (h : ∀ j, j < (bs.length + 127) / 128 → S[B + j]? = some (padB ((bs.drop (128 * j)).take 128))) : ((S.drop B).flatten).take bs.length = bs := by
  apply List.ext_getElem?
  intro q
  rw [List.getElem?_take]
  by_cases hq : q < bs.length
  · rw [if_pos hq, flat_get (fun s hs => n1 s (List.mem_of_mem_drop hs)), List.getElem?_drop, h (q / 128) (by omega)]
    show (padB ((bs.drop (128 * (q / 128))).take 128))[q % 128]? = bs[q]?
    unfold padB
    rw [List.getElem?_append_left (by simp; omega), List.getElem?_take, if_pos (by omega), List.getElem?_drop]
    congr 1
    omega
  · rw [if_neg hq, List.getElem?_eq_none (by omega)]
/-- A save: it is done, or the power failed, and what is kept then is as before, or the new. -/
theorem save_cases {each g : Nat} {d : Dk} {l bs : List UInt8} (hd : d.ok) (ok : hok each d.safe.length) (hal : d.dead = false) (hws : d.ws = []) (k : Kept each d.safe l g) (hg : g + 1 < 256) (hb : bs.length ≤ each * 128) :
    ((hsave each d bs).2 = 0 ∧ (hsave each d bs).1.dead = false ∧ (hsave each d bs).1.ws = [] ∧ Kept each (hsave each d bs).1.safe bs (g + 1) ∧ (∀ s, 2 + 2 * each ≤ s → (hsave each d bs).1.safe[s]? = d.safe[s]?) ∧
      (0 ≤ d.done → d.done ≤ 1000000000 → (hsave each d bs).1.done = d.done + (((bs.length + 127) / 128 : Nat) : Int) + 3) ∧ (d.fuse = -1 → (hsave each d bs).1.fuse = -1) ∧ (g = 0 → ∀ j, j < (bs.length + 127) / 128 → (hsave each d bs).1.safe[2 + j]? = some (padB ((bs.drop (128 * j)).take 128)))) ∨
    ((hsave each d bs).2 = 6 ∧ (hsave each d bs).1.dead = true ∧ d.fuse ≠ -1 ∧ ∀ fates, Kept each ((hsave each d bs).1.crash fates).safe l g ∨ Kept each ((hsave each d bs).1.crash fates).safe bs (g + 1)) := by
  obtain ⟨ok1, ok2, ok3, ok4⟩ := id ok
  have hnow : d.now = d.safe := by unfold Dk.now; rw [hws]; rfl
  obtain ⟨_, z0, z1, a, pos, cur⟩ := k
  obtain ⟨q1, q2, q3, q4, q5⟩ := cur_load (d := d) hal (by rw [hnow]; exact cur)
  have ka := cur.1
  have kp := cur.2.1
  have hae : a * each ≤ 1 * each := Nat.mul_le_mul_right _ ka
  have hn : (bs.length + 127) / 128 ≤ each := by omega
  have es : hsave each d bs = if (hwrite d (2 + a * each) bs).2 ≠ 0 then hwrite d (2 + a * each) bs
      else hwrite (hwrite d (2 + a * each) bs).1 pos (layB ⟨g + 1, a, bs.length, (crc bs).toNat⟩) := by
    unfold hsave
    rw [if_neg (by omega), if_neg (by rw [q1]; decide), if_neg (by rw [q3]; omega), q4, q5]
    unfold hnext
    rw [q3, q4]
  have n1 := hd.1
  -- all that the first write leaves keeps what is kept
  have persist : ∀ S' : List (List UInt8), (∀ s ∈ S', s.length = 128) → S'.length = d.safe.length → (∀ x, x < 2 + a * each ∨ 2 + a * each + (bs.length + 127) / 128 ≤ x → S'[x]? = d.safe[x]?) → Cur each S' l g a pos ∧ Sec g (S'.getD 0 []) ∧ Sec g (S'.getD 1 []) := by
    intro S' n2 hl he
    refine ⟨cur_persist cur n1 n2 ok3 hl (fun x hx => he x (by omega)), ?_, ?_⟩
    · rw [getD_same (he 0 (by omega))]; exact z0
    · rw [getD_same (he 1 (by omega))]; exact z1
  rw [es]
  clear es
  have hlay := lay_any d (2 + a * each) bs hd hal (by omega)
  have hlok := layAll_ok hd (2 + a * each) bs
  have hlsz := layAll_size d (2 + a * each) bs
  unfold hwrite
  generalize layAll d (2 + a * each) bs = r1 at hlay hlok hlsz ⊢
  rcases hlay with ⟨a1, a2, a3, a4, a5, a6⟩ | ⟨a1, a2, a3, ⟨ws', a4, a5⟩, a6⟩
  case inr =>
    have e1 : r1.2 ≠ 0 := by rw [a1]; decide
    rw [if_pos e1, if_pos e1]
    refine .inr ⟨a1, a2, a6, fun fates => .inl ?_⟩
    have hcok := Dk.crash_ok hlok fates
    obtain ⟨p1, p2, p3⟩ := persist (r1.1.crash fates).safe hcok.1 (by rw [Dk.crash_size, a3]) (fun x hx => by
      show (tears fates 0 r1.1.safe r1.1.ws)[x]? = _
      rw [tears_get, a3]
      intro p hp
      rw [a4, hws, List.nil_append] at hp
      have := a5 p hp
      omega)
    exact ⟨by omega, p2, p3, _, _, p1⟩
  rw [hws, List.nil_append] at a4
  have e1 : ¬ r1.2 ≠ 0 := by rw [a1]; decide
  rw [if_neg e1]
  have hfl := flush_cases a2
  have hfok := Dk.flush_ok hlok
  have hfsz := Dk.flush_size r1.1
  generalize r1.1.flush = r2 at hfl hfok hfsz ⊢
  have S1p : ∀ x, x < 2 + a * each ∨ 2 + a * each + (bs.length + 127) / 128 ≤ x → (putAll d.safe (secs (2 + a * each) bs))[x]? = d.safe[x]? := fun x hx => by
    rw [putAll_get]
    intro p hp
    have := secs_pos hp
    omega
  rcases hfl with ⟨b1, b2, b3, b4, b5, b6⟩ | ⟨b1, b2, b3, b4, b6⟩
  case inr =>
    have e2 : r2.2 ≠ 0 := by rw [b1]; decide
    rw [if_pos e2]
    refine .inr ⟨b1, b2, fun h => b6 (a6 h), fun fates => .inl ?_⟩
    have hcok := Dk.crash_ok hfok fates
    obtain ⟨p1, p2, p3⟩ := persist (r2.1.crash fates).safe hcok.1 (by rw [Dk.crash_size, b3, a3]) (fun x hx => by
      show (tears fates 0 r2.1.safe r2.1.ws)[x]? = _
      rw [tears_get, b3, a3]
      intro p hp
      rw [b4, a4] at hp
      have := secs_pos hp
      omega)
    exact ⟨by omega, p2, p3, _, _, p1⟩
  have e2 : ¬ r2.2 ≠ 0 := by rw [b1]; decide
  rw [if_neg e2]
  have hS1 : r2.1.safe = putAll d.safe (secs (2 + a * each) bs) := by
    rw [b3]
    show putAll r1.1.safe r1.1.ws = _
    rw [a3, a4]
  obtain ⟨S1, hS1e⟩ : ∃ S1, S1 = r2.1.safe := ⟨_, rfl⟩
  have m1 : ∀ s ∈ S1, s.length = 128 := by rw [hS1e]; exact hfok.1
  have ml : S1.length = d.safe.length := by rw [hS1e, hfsz, hlsz]
  obtain ⟨cur1, y0, y1⟩ := persist S1 m1 ml (fun x hx => by rw [hS1e, hS1]; exact S1p x hx)
  have hcont : ((S1.drop (2 + a * each)).flatten).take bs.length = bs := laid_bytes m1 (fun j hj => by
    rw [hS1e, hS1]
    exact putAll_secs bs.length _ _ _ (Nat.le_refl _) (by omega) j hj)
  obtain ⟨N, hN⟩ : ∃ N, N = layB ⟨g + 1, a, bs.length, (crc bs).toNat⟩ := ⟨_, rfl⟩
  have hNl : N.length = 128 := by rw [hN]; exact layB_len _
  have hNs : Sec (g + 1) N := by rw [hN]; exact sec_lay (Nat.le_refl _) hg
  have commit : Kept each (S1.set pos N) bs (g + 1) := by
    refine ⟨hg, ?_, ?_, _, _, by rw [hN]; exact cur_commit cur1 m1 (by omega) hb hg ok2 hcont⟩
    · by_cases hp : pos = 0
      · rw [hp, getD_set _ (by omega)]; exact hNs
      · rw [getD_set_ne _ hp]; exact y0.mono (by omega)
    · by_cases hp : pos = 1
      · rw [hp, getD_set _ (by omega)]; exact hNs
      · rw [getD_set_ne _ hp]; exact y1.mono (by omega)
  rw [← hN]
  have hNne : N ≠ [] := by intro h; rw [h] at hNl; cases hNl
  have el : layAll r2.1 pos N = r2.1.write (pos : Int) N := by
    rw [layAll_cons _ _ hNne, List.take_of_length_le (by omega), List.drop_eq_nil_of_le (by omega), layAll_nil]
    split
    · rfl
    · rename_i h
      have h' : (r2.1.write (pos : Int) N).2 = 0 := by simpa using h
      rw [← h']
  have eN : padB N = N := by unfold padB; rw [hNl]; simp
  rw [el]
  have hw := write_cases hfok b2 (t := pos) (b := N) (by omega) (by omega)
  have hwok := Dk.write_ok hfok (pos : Int) N
  have hwsz := Dk.write_size r2.1 (pos : Int) N
  generalize r2.1.write (pos : Int) N = r3 at hw hwok hwsz ⊢
  rw [b4, eN, List.nil_append] at hw
  have out1 : ∀ s, 2 + 2 * each ≤ s → S1[s]? = d.safe[s]? := fun s hs => by rw [hS1e, hS1]; exact S1p s (by omega)
  rcases hw with ⟨c1, c2, c3, c4, c5, c6⟩ | ⟨c1, c2, c3, c4, c6⟩
  case inr =>
    have e3 : r3.2 ≠ 0 := by rw [c1]; decide
    rw [if_pos e3]
    refine .inr ⟨c1, c2, fun h => c6 (b6 (a6 h)), fun fates => .inl ?_⟩
    have ec : (r3.1.crash fates).safe = S1 := by
      show tears fates 0 r3.1.safe r3.1.ws = _
      rw [c4, c3, hS1e]; rfl
    rw [ec]
    exact ⟨by omega, y0, y1, _, _, cur1⟩
  have e3 : ¬ r3.2 ≠ 0 := by rw [c1]; decide
  rw [if_neg e3]
  have hfl := flush_cases c2
  generalize r3.1.flush = r4 at hfl ⊢
  rcases hfl with ⟨f1, f2, f3, f4, f5, f6⟩ | ⟨f1, f2, f3, f4, f6⟩
  case inr =>
    refine .inr ⟨f1, f2, fun h => f6 (c6 (b6 (a6 h))), fun fates => ?_⟩
    have hk := fateAt_le fates 0
    have ec : (r4.1.crash fates).safe = S1.set pos (N.take (fateAt fates 0) ++ (S1.getD pos []).drop (fateAt fates 0)) := by
      show tears fates 0 r4.1.safe r4.1.ws = _
      rw [f4, f3, c4, c3, ← hS1e]; rfl
    rw [ec]
    generalize fateAt fates 0 = kk at hk
    have hz : Sec g (S1.getD pos []) := by
      have : pos = 0 ∨ pos = 1 := by omega
      rcases this with e | e <;> rw [e] <;> assumption
    by_cases h128 : kk = 128
    · right
      have : N.take kk ++ (S1.getD pos []).drop kk = N := by
        rw [h128, List.take_of_length_le (by omega), List.drop_eq_nil_of_le (by rw [hz.1]; omega), List.append_nil]
      rw [this]
      exact commit
    · left
      obtain ⟨t1, t2⟩ := torn_sec (s := ⟨g + 1, a, bs.length, (crc bs).toNat⟩) rfl hg hz (n := kk) (by omega)
      rw [← hN] at t1 t2
      refine ⟨by omega, ?_, ?_, _, _, cur_set cur1 m1 (by omega) t1.1 t2⟩
      · by_cases hp : pos = 0
        · rw [hp, getD_set _ (by omega)]; rw [hp] at t1; exact t1
        · rw [getD_set_ne _ hp]; exact y0
      · by_cases hp : pos = 1
        · rw [hp, getD_set _ (by omega)]; rw [hp] at t1; exact t1
        · rw [getD_set_ne _ hp]; exact y1
  have es4 : r4.1.safe = S1.set pos N := by
    rw [f3]
    show putAll r3.1.safe r3.1.ws = _
    rw [c3, c4, ← hS1e]; rfl
  refine .inl ⟨f1, f2, f4, by rw [es4]; exact commit, fun s hs => ?_, fun h0 h1 => ?_, fun h => f6 (c6 (b6 (a6 h))), fun hg0 j hj => ?_⟩
  · rw [es4, List.getElem?_set_ne (by omega), out1 s hs]
  · have a5 := a5 h0 (by omega)
    rw [w64 (by omega) (by omega)] at b5
    rw [b5, a5] at c5
    rw [w64 (by omega) (by omega)] at c5
    rw [c5] at f5
    rw [w64 (by omega) (by omega)] at f5
    rw [f5]
    omega
  · have ha0 : a = 0 := by
      obtain ⟨_, _, ⟨_, _, _, _, h, _⟩ | ⟨s, h2, _, h4, _⟩⟩ := cur
      · exact h
      · exact absurd (h4.trans hg0) (take_some h2).2.1
    have := putAll_secs bs.length (2 + a * each) bs d.safe (Nat.le_refl _) (by omega) j hj
    rw [← hS1, ← hS1e, ha0, Nat.zero_mul, Nat.add_zero] at this
    rw [es4, List.getElem?_set_ne (by omega)]
    exact this
theorem zeros_sec : Sec 0 (List.replicate 128 0) := by
  refine ⟨List.length_replicate, ?_, 0, Nat.le_refl _, ?_⟩
  · rw [List.take_replicate]; rfl
  · rw [List.drop_replicate]; rfl
theorem zeros_none : takeB (List.replicate 128 0) = none := by
  unfold takeB
  rw [if_neg]
  rintro ⟨_, h, _⟩
  apply h
  show num ((List.replicate 128 0).take 8) = 0
  rw [List.take_replicate]
  rfl
theorem kept_new {each N : Nat} (h : 2 + 2 * each ≤ N) : Kept each (Dk.new N).safe [] 0 := by
  have e : ∀ i, i < 2 → (Dk.new N).safe.getD i [] = List.replicate 128 0 := fun i hi => by
    rw [List.getD_eq_getElem?_getD]
    show ((List.replicate N (List.replicate 128 (0 : UInt8)))[i]?).getD [] = _
    rw [List.getElem?_replicate, if_pos (by omega)]
    rfl
  refine ⟨by decide, by rw [e 0 (by decide)]; exact zeros_sec, by rw [e 1 (by decide)]; exact zeros_sec, 0, 1, by decide, by decide, .inl ⟨rfl, rfl, by rw [e 0 (by decide)]; exact zeros_none, by rw [e 1 (by decide)]; exact zeros_none, rfl, rfl⟩⟩
theorem kept_load {each g : Nat} {d : Dk} {l : List UInt8} (hal : d.dead = false) (hws : d.ws = []) (k : Kept each d.safe l g) : (hload each d).err = 0 ∧ (hload each d).bs = l ∧ (hload each d).s.gen = g := by
  have hnow : d.now = d.safe := by unfold Dk.now; rw [hws]; rfl
  obtain ⟨_, _, _, a, pos, cur⟩ := k
  obtain ⟨q1, q2, q3, _⟩ := cur_load (d := d) hal (by rw [hnow]; exact cur)
  exact ⟨q1, q2, q3⟩
theorem kept_len {each g : Nat} {S : List (List UInt8)} {l : List UInt8} (k : Kept each S l g) : l.length ≤ each * 128 := by
  obtain ⟨_, _, _, a, pos, _, _, ⟨_, h, _⟩ | ⟨s, _, _, _, _, _, h, _⟩⟩ := k
  · rw [h]; show 0 ≤ _; omega
  · exact h
theorem dead_load {each : Nat} {d : Dk} (h : d.dead = true) : hload each d = ⟨[], nilSl, 0, 6⟩ := by unfold hload; rw [if_pos h]
theorem dead_save {each : Nat} {d : Dk} {bs : List UInt8} (h : d.dead = true) (hb : bs.length ≤ each * 128) : hsave each d bs = (d, 6) := by
  unfold hsave
  rw [if_neg (by omega), dead_load h, if_pos (by decide)]
theorem long_save {each : Nat} {d : Dk} {bs : List UInt8} (hb : each * 128 < bs.length) : hsave each d bs = (d, 4) := by
  unfold hsave
  rw [if_pos hb]
end Go.Proofs.Ytggggfcgnkllgaa
end
section
/- More words that laws share. -/
namespace Go.Sh
open Go
theorem gs_u (b : Bool) (S : World → (Value → World → Prop) → Prop) (w : World) (K : Value → World → Prop) : gstep undef b S w K = K undef w := (And.intro rfl trivial : _ ∧ True).1
end Go.Sh
end
section
/- The home's functions: load, write, save. -/
set_option linter.unusedSimpArgs false
set_option linter.unusedVariables false
namespace Go.Proofs.Ytggggfcgnkllgaa
open Go Go.Sh Go.RowKit
attribute [local irreducible] X XU XP XR CALL loopS resC closS
theorem LayO_spec {s : Sl} (hs : s.ok) {w : World} {K : Value → World → Prop} (h : ∀ v w1, Ext w w1 → Bts w1 v (layB s) → (∀ k, v.ownBlock = some k → w.heap.size ≤ k ∧ k < w1.heap.size) → K v w1) : CALL Try.prog 42 #[s.v] w K := by
  apply call_slot_Lay
  unfold B_slot_Lay
  refine X_box ?_
  have hb1 : (newB w s.v.cells 25).heap[w.heap.size]? = some (.cells s.cs.toArray 25 (0, 0)) := newB_get _ _ _
  have hx1 := newB_ext w s.v.cells 25
  refine X_loadAgg Try.underlying25 agg_25 info_25 hb1 (by rw [sz_25]; rfl) ?_
  refine lay_spec hs ?_
  intro w2 hx2
  refine X_alloc zero_169 ?_
  have hb3 : (newB w2 (List.replicate 128 (Value.int .u8 0)).toArray 169).heap[w2.heap.size]? = some (.cells (List.replicate 128 (Value.int .u8 0)).toArray 169 (0, 0)) := newB_get _ _ _
  have hx3 := newB_ext w2 (List.replicate 128 (Value.int .u8 0)).toArray 169
  show XU _ _ (newB w2 (List.replicate 128 (Value.int .u8 0)).toArray 169) _
  generalize newB w2 (List.replicate 128 (Value.int .u8 0)).toArray 169 = w3 at hb3 hx3 ⊢
  refine XU_storeAgg info_169 hb3 (by rw [sz_169]; simp) (by rw [B8_length, layB_len, sz_169]) B8_one ?_
  refine X_of (run_slice_arr_all Try.underlying169 info_5 _ _) ?_
  have hb4 : Bts (setAt w3 w2.heap.size (B8 (layB s)).toArray 169 (0, 0)) (.slice (some ⟨w2.heap.size, 0, none⟩) (layB s).length (layB s).length) (layB s) := blk_bts (setAt_same (lt_of_blk hb3)) (by rw [layB_len]; decide)
  rw [layB_len] at hb4
  have hx4 : Ext w2 (setAt w3 w2.heap.size (B8 (layB s)).toArray 169 (0, 0)) := Ext.seq hx3 (setAt_keep _ _ _ _ _) (fun j hj => by omega)
  refine h _ _ ((hx1.trans hx2).trans hx4) hb4 (fun k hk => ?_)
  have e : w2.heap.size = k := by injection hk
  have h1 := (hx1.trans hx2).size
  have h2 := lt_of_blk hb3
  rw [setAt_size]
  omega
theorem hbytes_two {d : Dk} (h : d.ok) (hs : 2 ≤ d.safe.length) : hbytes d 0 256 = d.now.getD 0 [] ++ d.now.getD 1 [] := by
  have nl := Dk.now_length d
  rw [← hbytes_of h (j := 2) (by omega) (by omega)]
  have h1 := flat_succ d.now 0 1 (by omega)
  have h0 := flat_succ d.now 0 0 (by omega)
  rw [show (0 : Nat) + 1 = 1 from rfl] at h0 h1
  rw [show (1 : Nat) + 1 = 2 from rfl] at h1
  rw [h1, h0, List.take_of_length_le]
  · simp
  · have a := getD_128 h (i := 0) (by omega)
    have b := getD_128 h (i := 1) (by omega)
    simp only [Nat.add_zero, Nat.zero_add, List.take_zero, List.flatten_nil, List.nil_append, List.length_append]
    omega
section
variable {w : World} {b bh each : Nat} {d : Dk} {K : Value → World → Prop}
set_option maxHeartbeats 1000000 in
theorem load_spec (hv : HomeAt w bh b each) (hd : DiskAt w b d) (ok : hok each d.safe.length)
    (hK : ∀ u w1, Ext w w1 → w1.ownsRow w.heap.size 5 1 u (hload each d).bs.length (B8 (hload each d).bs) → K (.tuple #[u, (hload each d).s.v, i64v (hload each d).pos, i64v (hload each d).err]) w1) :
    CALL Try.prog 145 #[ptr bh] w K := by
  obtain ⟨ok1, ok2, ok3, ok4⟩ := id ok
  have e0 : decide ((0 : Int) ≠ 0) = false := by decide
  have e6 : decide ((6 : Int) ≠ 0) = true := by decide
  apply call_home_Home_load
  unfold B_home_Home_load
  refine X_alloc zero_25 ?_
  have hq := newB_get w nilSl.cs.toArray 25
  have hx := newB_ext w nilSl.cs.toArray 25
  show CALL _ _ _ (newB w nilSl.cs.toArray 25) _
  have hqs := newB_size w nilSl.cs.toArray 25
  generalize newB w nilSl.cs.toArray 25 = w1 at hq hx hqs ⊢
  generalize hqe : w.heap.size = q at hq ⊢
  have hv1 : HomeAt w1 bh b each := hx.get hv
  have hd1 := hd.ext hx
  -- a slot is stored, and told
  have tell : ∀ (s : Sl) (wr : World) (cs : Array Value), Ext w wr → wr.heap[q]? = some (.cells cs 25 (0, 0)) → cs.size = 4 → ∀ (K' : Value → World → Prop), (∀ w2, Ext w w2 → Keep (fun k => k = q) wr w2 → K' s.v w2) →
      XU Try.prog (Instr.storeAt 25 (ptr q) s.v) wr fun w2 => resC Try.prog 25 (ptr q) w2 fun r => K' r w2 := by
    intro s wr cs hxr hqr hcs K' hk
    refine XU_storeAgg (l := s.cs) info_25 hqr (by rw [sz_25]; exact hcs) (by rw [sz_25]; rfl) (Sl.one s) ?_
    refine resC_agg Try.underlying25 agg_25 info_25 (setAt_same (lt_of_blk hqr)) (by rw [sz_25]; rfl) ?_
    exact hk _ (Ext.seq hxr (setAt_keep _ _ _ _ _) (fun j hj => by omega)) (setAt_keep _ _ _ _ _)
  have none_ : ∀ (e : Int) (wr : World) (cs : Array Value), Ext w wr → wr.heap[q]? = some (.cells cs 25 (0, 0)) → cs.size = 4 → hload each d = ⟨[], nilSl, 0, e⟩ →
      X Try.prog (Instr.build 25 #[]) wr fun v w1 => XU Try.prog (Instr.storeAt 25 (ptr q) v) w1 fun w2 => resC Try.prog 25 (ptr q) w2 fun r => K (.tuple #[.slice none 0 0, r, .int .i64 0, .int .i64 e]) w2 := by
    intro e wr cs hxr hqr hcs heq
    refine X_of (run_build_25z _) ?_
    refine tell nilSl wr cs hxr hqr hcs (fun r w2 => K (.tuple #[.slice none 0 0, r, .int .i64 0, .int .i64 e]) w2) ?_
    intro w2 hx2 _
    have := hK (.slice none 0 0) w2 hx2 (by rw [heq]; exact World.ownsRow_nil w2 _ 5 1)
    rw [heq] at this
    exact this
  refine read_spec (at_ := 0) (n := 256) hv1 hd1 (by omega) ?_ ?_
  · intro _ hdead w2 hx2
    have heq : hload each d = ⟨[], nilSl, 0, 6⟩ := by unfold hload; rw [if_pos hdead]
    (repeat (simp only [XP_extract0, XP_extract1, XP_extract2, XP_extract3, X_extract0, X_extract1, X_extract2, X_extract3, X_nilS, X_eql_nil_74, X_neq_nil_74, X_eql_nil_124, X_neq_nil_124, X_eql, X_neq, X_lss, X_leq, X_gtr, X_geq, X_not, X_min, X_max, X_len_27, X_len_9, X_len_79, XP_nilS, XP_eql, XP_neq, XP_lss, XP_leq, XP_gtr, XP_geq, XP_not, XP_min, XP_max, XP_len_27, XP_len_9, XP_eql_nil_74, X_str_eql, X_str_neq, XP_str_eql, XP_str_neq, GS, gs_u, decide_true, decide_false, Option.isNone_some, Option.isSome_some, Option.isNone_none, Option.isSome_none, eq_self, Bool.not_true, Bool.not_false, Int.reduceEq, Int.reduceNe, Int.reduceLT, Int.reduceLE, Int.reduceGT, Int.reduceGE, e6]))
    exact none_ 6 w2 _ (hx.trans hx2) (hx2.get hq) rfl heq
  intro hal u w2 hx2 ho2
  have hb2 := (own_bts ho2).1
  have hdead : d.dead = false := hal.resolve_left (by decide)
  have hdead' : ¬ d.dead = true := by rw [hdead]; decide
  rw [hbytes_two hd.1 (by omega)] at hb2
  have l0 := getD_128 hd.1 (i := 0) (by omega)
  have l1 := getD_128 hd.1 (i := 1) (by omega)
  obtain ⟨s0, hs0, hsb0, _⟩ := cut_hi Try.underlying27 info_5 hb2 (kh := .i64) (hj := 128) 128 rfl (by rw [List.length_append]; omega)
  obtain ⟨s1, hs1, hsb1, _⟩ := cut_lo Try.underlying27 info_5 sz_5 hb2 (kl := .i64) (li := 128) 128 rfl (by rw [List.length_append]; omega)
  rw [List.take_append_of_le_length (by omega), List.take_of_length_le (by omega)] at hsb0
  rw [List.drop_append_of_le_length (by omega), List.drop_eq_nil_of_le (by omega), List.nil_append] at hsb1
  have hx02 := hx.trans hx2
  have hq2 := hx2.get hq
  have hq2lt := lt_of_blk hq2
  (repeat (simp only [XP_extract0, XP_extract1, XP_extract2, XP_extract3, X_extract0, X_extract1, X_extract2, X_extract3, X_nilS, X_eql_nil_74, X_neq_nil_74, X_eql_nil_124, X_neq_nil_124, X_eql, X_neq, X_lss, X_leq, X_gtr, X_geq, X_not, X_min, X_max, X_len_27, X_len_9, X_len_79, XP_nilS, XP_eql, XP_neq, XP_lss, XP_leq, XP_gtr, XP_geq, XP_not, XP_min, XP_max, XP_len_27, XP_len_9, XP_eql_nil_74, X_str_eql, X_str_neq, XP_str_eql, XP_str_neq, GS, gs_u, decide_true, decide_false, Option.isNone_some, Option.isSome_some, Option.isNone_none, Option.isSome_none, eq_self, Bool.not_true, Bool.not_false, Int.reduceEq, Int.reduceNe, Int.reduceLT, Int.reduceLE, Int.reduceGT, Int.reduceGE, e0]))
  have hNe : hnewer d = newerP (d.now.getD 0 []) (d.now.getD 1 []) := rfl
  have hNok := newerP_ok (d.now.getD 0 []) (d.now.getD 1 [])
  rw [← hNe] at hNok
  refine joinS_of (fun ρ wr => ∃ q8 : Nat, q8 ≠ q ∧ Ext w wr ∧ wr.heap[q]? = some (.cells nilSl.cs.toArray 25 (0, 0)) ∧ wr.heap[q8]? = some (.cells (hnewer d).1.cs.toArray 25 (0, 0)) ∧ ρ 7 = i64v (hnewer d).2.2 ∧ ρ 9 = i64v (hnewer d).2.1 ∧ ρ 8 = ptr q8 ∧ ρ 3 = ptr q ∧ ρ 0 = ptr bh) ?_ ?_
  · rintro ρ wr ⟨q8, hne, hxr, hqr, hq8, r7, r9, r8, r3, r0⟩
    rw [r7, r9, r8, r3, r0]
    have hvr : HomeAt wr bh b each := hxr.get hv
    have hdr := hd.ext hxr
    generalize hN : hnewer d = N at hq8 hNok ⊢
    obtain ⟨hg1, hg2, hg3, hg4⟩ := id hNok
    (repeat (simp only [XP_extract0, XP_extract1, XP_extract2, XP_extract3, X_extract0, X_extract1, X_extract2, X_extract3, X_nilS, X_eql_nil_74, X_neq_nil_74, X_eql_nil_124, X_neq_nil_124, X_eql, X_neq, X_lss, X_leq, X_gtr, X_geq, X_not, X_min, X_max, X_len_27, X_len_9, X_len_79, XP_nilS, XP_eql, XP_neq, XP_lss, XP_leq, XP_gtr, XP_geq, XP_not, XP_min, XP_max, XP_len_27, XP_len_9, XP_eql_nil_74, X_str_eql, X_str_neq, XP_str_eql, XP_str_neq, GS, gs_u, decide_true, decide_false, Option.isNone_some, Option.isSome_some, Option.isNone_none, Option.isSome_none, eq_self, Bool.not_true, Bool.not_false, Int.reduceEq, Int.reduceNe, Int.reduceLT, Int.reduceLE, Int.reduceGT, Int.reduceGE]))
    by_cases c7 : N.2.2 = 0
    case neg =>
      have c : decide (N.2.2 ≠ 0) = true := by simpa using c7
      (repeat (simp only [XP_extract0, XP_extract1, XP_extract2, XP_extract3, X_extract0, X_extract1, X_extract2, X_extract3, X_nilS, X_eql_nil_74, X_neq_nil_74, X_eql_nil_124, X_neq_nil_124, X_eql, X_neq, X_lss, X_leq, X_gtr, X_geq, X_not, X_min, X_max, X_len_27, X_len_9, X_len_79, XP_nilS, XP_eql, XP_neq, XP_lss, XP_leq, XP_gtr, XP_geq, XP_not, XP_min, XP_max, XP_len_27, XP_len_9, XP_eql_nil_74, X_str_eql, X_str_neq, XP_str_eql, XP_str_neq, GS, gs_u, decide_true, decide_false, Option.isNone_some, Option.isSome_some, Option.isNone_none, Option.isSome_none, eq_self, Bool.not_true, Bool.not_false, Int.reduceEq, Int.reduceNe, Int.reduceLT, Int.reduceLE, Int.reduceGT, Int.reduceGE, c]))
      exact none_ 0 wr _ hxr hqr rfl (by unfold hload; rw [if_neg hdead', if_pos (by rw [hN]; exact c7)])
    have n7 : ¬ (hnewer d).2.2 ≠ 0 := by rw [hN]; simpa using c7
    have c : decide (N.2.2 ≠ 0) = false := by simp [c7]
    (repeat (simp only [XP_extract0, XP_extract1, XP_extract2, XP_extract3, X_extract0, X_extract1, X_extract2, X_extract3, X_nilS, X_eql_nil_74, X_neq_nil_74, X_eql_nil_124, X_neq_nil_124, X_eql, X_neq, X_lss, X_leq, X_gtr, X_geq, X_not, X_min, X_max, X_len_27, X_len_9, X_len_79, XP_nilS, XP_eql, XP_neq, XP_lss, XP_leq, XP_gtr, XP_geq, XP_not, XP_min, XP_max, XP_len_27, XP_len_9, XP_eql_nil_74, X_str_eql, X_str_neq, XP_str_eql, XP_str_neq, GS, gs_u, decide_true, decide_false, Option.isNone_some, Option.isSome_some, Option.isNone_none, Option.isSome_none, eq_self, Bool.not_true, Bool.not_false, Int.reduceEq, Int.reduceNe, Int.reduceLT, Int.reduceLE, Int.reduceGT, Int.reduceGE, c]))
    refine ⟨Ext, Ext.frame, ?_⟩
    have hq8d : (drewW wr).heap[q8]? = some (.cells N.1.cs.toArray 25 (0, 0)) := hq8
    have hqd : (drewW wr).heap[q]? = some (.cells nilSl.cs.toArray 25 (0, 0)) := hqr
    have hvd : HomeAt (drewW wr) bh b each := hvr
    have hxd := hxr.trans (Keep.drew (fun _ => False) wr)
    generalize drewW wr = wd at hq8d hqd hvd hxd ⊢
    rw [XP_field_25_1]
    refine XR_loadL agg_5 hq8d (v := .int .u8 (N.1.area : Int)) rfl ?_
    (repeat (simp only [XP_extract0, XP_extract1, XP_extract2, XP_extract3, X_extract0, X_extract1, X_extract2, X_extract3, X_nilS, X_eql_nil_74, X_neq_nil_74, X_eql_nil_124, X_neq_nil_124, X_eql, X_neq, X_lss, X_leq, X_gtr, X_geq, X_not, X_min, X_max, X_len_27, X_len_9, X_len_79, XP_nilS, XP_eql, XP_neq, XP_lss, XP_leq, XP_gtr, XP_geq, XP_not, XP_min, XP_max, XP_len_27, XP_len_9, XP_eql_nil_74, X_str_eql, X_str_neq, XP_str_eql, XP_str_neq, GS, gs_u, decide_true, decide_false, Option.isNone_some, Option.isSome_some, Option.isNone_none, Option.isSome_none, eq_self, Bool.not_true, Bool.not_false, Int.reduceEq, Int.reduceNe, Int.reduceLT, Int.reduceLE, Int.reduceGT, Int.reduceGE]))
    by_cases c1 : 1 < N.1.area
    · have c : decide ((N.1.area : Int) > 1) = true := by simp; omega
      (repeat (simp only [XP_extract0, XP_extract1, XP_extract2, XP_extract3, X_extract0, X_extract1, X_extract2, X_extract3, X_nilS, X_eql_nil_74, X_neq_nil_74, X_eql_nil_124, X_neq_nil_124, X_eql, X_neq, X_lss, X_leq, X_gtr, X_geq, X_not, X_min, X_max, X_len_27, X_len_9, X_len_79, XP_nilS, XP_eql, XP_neq, XP_lss, XP_leq, XP_gtr, XP_geq, XP_not, XP_min, XP_max, XP_len_27, XP_len_9, XP_eql_nil_74, X_str_eql, X_str_neq, XP_str_eql, XP_str_neq, GS, gs_u, decide_true, decide_false, Option.isNone_some, Option.isSome_some, Option.isNone_none, Option.isSome_none, eq_self, Bool.not_true, Bool.not_false, Int.reduceEq, Int.reduceNe, Int.reduceLT, Int.reduceLE, Int.reduceGT, Int.reduceGE, c]))
      exact ⟨Keep.refl _ _, none_ 200 wd _ hxd hqd rfl (by unfold hload; rw [if_neg hdead', if_neg n7, hN, if_pos (.inl c1)])⟩
    have c : decide ((N.1.area : Int) > 1) = false := by simp; omega
    (repeat (simp only [XP_extract0, XP_extract1, XP_extract2, XP_extract3, X_extract0, X_extract1, X_extract2, X_extract3, X_nilS, X_eql_nil_74, X_neq_nil_74, X_eql_nil_124, X_neq_nil_124, X_eql, X_neq, X_lss, X_leq, X_gtr, X_geq, X_not, X_min, X_max, X_len_27, X_len_9, X_len_79, XP_nilS, XP_eql, XP_neq, XP_lss, XP_leq, XP_gtr, XP_geq, XP_not, XP_min, XP_max, XP_len_27, XP_len_9, XP_eql_nil_74, X_str_eql, X_str_neq, XP_str_eql, XP_str_neq, GS, gs_u, decide_true, decide_false, Option.isNone_some, Option.isSome_some, Option.isNone_none, Option.isSome_none, eq_self, Bool.not_true, Bool.not_false, Int.reduceEq, Int.reduceNe, Int.reduceLT, Int.reduceLE, Int.reduceGT, Int.reduceGE, c]))
    rw [XP_field_25_2]
    refine XR_loadL agg_23 hq8d (v := .int .u32 (N.1.size : Int)) rfl ?_
    rw [XR_conv_23_22, w64u (by omega)]
    (repeat (simp only [XP_extract0, XP_extract1, XP_extract2, XP_extract3, X_extract0, X_extract1, X_extract2, X_extract3, X_nilS, X_eql_nil_74, X_neq_nil_74, X_eql_nil_124, X_neq_nil_124, X_eql, X_neq, X_lss, X_leq, X_gtr, X_geq, X_not, X_min, X_max, X_len_27, X_len_9, X_len_79, XP_nilS, XP_eql, XP_neq, XP_lss, XP_leq, XP_gtr, XP_geq, XP_not, XP_min, XP_max, XP_len_27, XP_len_9, XP_eql_nil_74, X_str_eql, X_str_neq, XP_str_eql, XP_str_neq, GS, gs_u, decide_true, decide_false, Option.isNone_some, Option.isSome_some, Option.isNone_none, Option.isSome_none, eq_self, Bool.not_true, Bool.not_false, Int.reduceEq, Int.reduceNe, Int.reduceLT, Int.reduceLE, Int.reduceGT, Int.reduceGE]))
    refine HRoom_spec hvd ok2 ?_
    refine ⟨Keep.refl _ _, ?_⟩
    (repeat (simp only [XP_extract0, XP_extract1, XP_extract2, XP_extract3, X_extract0, X_extract1, X_extract2, X_extract3, X_nilS, X_eql_nil_74, X_neq_nil_74, X_eql_nil_124, X_neq_nil_124, X_eql, X_neq, X_lss, X_leq, X_gtr, X_geq, X_not, X_min, X_max, X_len_27, X_len_9, X_len_79, XP_nilS, XP_eql, XP_neq, XP_lss, XP_leq, XP_gtr, XP_geq, XP_not, XP_min, XP_max, XP_len_27, XP_len_9, XP_eql_nil_74, X_str_eql, X_str_neq, XP_str_eql, XP_str_neq, GS, gs_u, decide_true, decide_false, Option.isNone_some, Option.isSome_some, Option.isNone_none, Option.isSome_none, eq_self, Bool.not_true, Bool.not_false, Int.reduceEq, Int.reduceNe, Int.reduceLT, Int.reduceLE, Int.reduceGT, Int.reduceGE]))
    rw [XR_conv_3_22, w64u (by omega)]
    (repeat (simp only [XP_extract0, XP_extract1, XP_extract2, XP_extract3, X_extract0, X_extract1, X_extract2, X_extract3, X_nilS, X_eql_nil_74, X_neq_nil_74, X_eql_nil_124, X_neq_nil_124, X_eql, X_neq, X_lss, X_leq, X_gtr, X_geq, X_not, X_min, X_max, X_len_27, X_len_9, X_len_79, XP_nilS, XP_eql, XP_neq, XP_lss, XP_leq, XP_gtr, XP_geq, XP_not, XP_min, XP_max, XP_len_27, XP_len_9, XP_eql_nil_74, X_str_eql, X_str_neq, XP_str_eql, XP_str_neq, GS, gs_u, decide_true, decide_false, Option.isNone_some, Option.isSome_some, Option.isNone_none, Option.isSome_none, eq_self, Bool.not_true, Bool.not_false, Int.reduceEq, Int.reduceNe, Int.reduceLT, Int.reduceLE, Int.reduceGT, Int.reduceGE]))
    by_cases c2 : each * 128 < N.1.size
    · have c : decide ((N.1.size : Int) > ((each * 128 : Nat) : Int)) = true := by simp; omega
      (repeat (simp only [XP_extract0, XP_extract1, XP_extract2, XP_extract3, X_extract0, X_extract1, X_extract2, X_extract3, X_nilS, X_eql_nil_74, X_neq_nil_74, X_eql_nil_124, X_neq_nil_124, X_eql, X_neq, X_lss, X_leq, X_gtr, X_geq, X_not, X_min, X_max, X_len_27, X_len_9, X_len_79, XP_nilS, XP_eql, XP_neq, XP_lss, XP_leq, XP_gtr, XP_geq, XP_not, XP_min, XP_max, XP_len_27, XP_len_9, XP_eql_nil_74, X_str_eql, X_str_neq, XP_str_eql, XP_str_neq, GS, gs_u, decide_true, decide_false, Option.isNone_some, Option.isSome_some, Option.isNone_none, Option.isSome_none, eq_self, Bool.not_true, Bool.not_false, Int.reduceEq, Int.reduceNe, Int.reduceLT, Int.reduceLE, Int.reduceGT, Int.reduceGE, c]))
      exact none_ 200 wd _ hxd hqd rfl (by unfold hload; rw [if_neg hdead', if_neg n7, hN, if_pos (.inr c2)])
    have c : decide ((N.1.size : Int) > ((each * 128 : Nat) : Int)) = false := by simp; omega
    (repeat (simp only [XP_extract0, XP_extract1, XP_extract2, XP_extract3, X_extract0, X_extract1, X_extract2, X_extract3, X_nilS, X_eql_nil_74, X_neq_nil_74, X_eql_nil_124, X_neq_nil_124, X_eql, X_neq, X_lss, X_leq, X_gtr, X_geq, X_not, X_min, X_max, X_len_27, X_len_9, X_len_79, XP_nilS, XP_eql, XP_neq, XP_lss, XP_leq, XP_gtr, XP_geq, XP_not, XP_min, XP_max, XP_len_27, XP_len_9, XP_eql_nil_74, X_str_eql, X_str_neq, XP_str_eql, XP_str_neq, GS, gs_u, decide_true, decide_false, Option.isNone_some, Option.isSome_some, Option.isNone_none, Option.isSome_none, eq_self, Bool.not_true, Bool.not_false, Int.reduceEq, Int.reduceNe, Int.reduceLT, Int.reduceLE, Int.reduceGT, Int.reduceGE, c]))
    refine ⟨Ext, Ext.frame, ?_⟩
    have hq8e : (drewW wd).heap[q8]? = some (.cells N.1.cs.toArray 25 (0, 0)) := hq8d
    have hqe' : (drewW wd).heap[q]? = some (.cells nilSl.cs.toArray 25 (0, 0)) := hqd
    have hve : HomeAt (drewW wd) bh b each := hvd
    have hxe := hxd.trans (Keep.drew (fun _ => False) wd)
    generalize drewW wd = we at hq8e hqe' hve hxe ⊢
    rw [XP_field_25_1]
    refine XR_loadL agg_5 hq8e (v := .int .u8 (N.1.area : Int)) rfl ?_
    rw [XP_field_25_2]
    refine XR_loadL agg_23 hq8e (v := .int .u32 (N.1.size : Int)) rfl ?_
    rw [XR_conv_23_3, w64 (by omega) (by omega)]
    refine area_spec hve ok2 hg2 ?_
    refine ⟨Keep.refl _ _, ?_⟩
    have hae : N.1.area * each ≤ 1 * each := Nat.mul_le_mul_right _ (by omega)
    refine read_spec hve (hd.ext hxe) (by omega) (fun _ h => absurd h hdead') ?_
    intro _ u3 w3 hx3 ho3
    have hb3 := (own_bts ho3).1
    have hx03 := hxe.trans hx3
    refine ⟨hx3, ?_⟩
    (repeat (simp only [XP_extract0, XP_extract1, XP_extract2, XP_extract3, X_extract0, X_extract1, X_extract2, X_extract3, X_nilS, X_eql_nil_74, X_neq_nil_74, X_eql_nil_124, X_neq_nil_124, X_eql, X_neq, X_lss, X_leq, X_gtr, X_geq, X_not, X_min, X_max, X_len_27, X_len_9, X_len_79, XP_nilS, XP_eql, XP_neq, XP_lss, XP_leq, XP_gtr, XP_geq, XP_not, XP_min, XP_max, XP_len_27, XP_len_9, XP_eql_nil_74, X_str_eql, X_str_neq, XP_str_eql, XP_str_neq, GS, gs_u, decide_true, decide_false, Option.isNone_some, Option.isSome_some, Option.isNone_none, Option.isSome_none, eq_self, Bool.not_true, Bool.not_false, Int.reduceEq, Int.reduceNe, Int.reduceLT, Int.reduceLE, Int.reduceGT, Int.reduceGE, e0]))
    refine ⟨Ext, Ext.frame, ?_⟩
    have hq8f : (drewW w3).heap[q8]? = some (.cells N.1.cs.toArray 25 (0, 0)) := hx3.get hq8e
    rw [XP_field_25_3]
    refine XR_loadL agg_23 hq8f (v := .int .u32 (N.1.sum : Int)) rfl ?_
    refine Sum_spec hb3.drew ?_
    intro w4 hx4
    refine ⟨hx4, ?_⟩
    unfold U32
    have hx04 := (hx03.trans (Keep.drew (fun _ => False) w3)).trans hx4
    have hq8g := hx4.get hq8f
    have hqg : w4.heap[q]? = some (.cells nilSl.cs.toArray 25 (0, 0)) := hx4.get (w := drewW w3) (hx3.get hqe')
    (repeat (simp only [XP_extract0, XP_extract1, XP_extract2, XP_extract3, X_extract0, X_extract1, X_extract2, X_extract3, X_nilS, X_eql_nil_74, X_neq_nil_74, X_eql_nil_124, X_neq_nil_124, X_eql, X_neq, X_lss, X_leq, X_gtr, X_geq, X_not, X_min, X_max, X_len_27, X_len_9, X_len_79, XP_nilS, XP_eql, XP_neq, XP_lss, XP_leq, XP_gtr, XP_geq, XP_not, XP_min, XP_max, XP_len_27, XP_len_9, XP_eql_nil_74, X_str_eql, X_str_neq, XP_str_eql, XP_str_neq, GS, gs_u, decide_true, decide_false, Option.isNone_some, Option.isSome_some, Option.isNone_none, Option.isSome_none, eq_self, Bool.not_true, Bool.not_false, Int.reduceEq, Int.reduceNe, Int.reduceLT, Int.reduceLE, Int.reduceGT, Int.reduceGE]))
    by_cases c4 : (crc (hbytes d (2 + N.1.area * each) N.1.size)).toNat = N.1.sum
    case neg =>
      have c : decide (((crc (hbytes d (2 + N.1.area * each) N.1.size)).toNat : Int) ≠ (N.1.sum : Int)) = true := by simp; omega
      (repeat (simp only [XP_extract0, XP_extract1, XP_extract2, XP_extract3, X_extract0, X_extract1, X_extract2, X_extract3, X_nilS, X_eql_nil_74, X_neq_nil_74, X_eql_nil_124, X_neq_nil_124, X_eql, X_neq, X_lss, X_leq, X_gtr, X_geq, X_not, X_min, X_max, X_len_27, X_len_9, X_len_79, XP_nilS, XP_eql, XP_neq, XP_lss, XP_leq, XP_gtr, XP_geq, XP_not, XP_min, XP_max, XP_len_27, XP_len_9, XP_eql_nil_74, X_str_eql, X_str_neq, XP_str_eql, XP_str_neq, GS, gs_u, decide_true, decide_false, Option.isNone_some, Option.isSome_some, Option.isNone_none, Option.isSome_none, eq_self, Bool.not_true, Bool.not_false, Int.reduceEq, Int.reduceNe, Int.reduceLT, Int.reduceLE, Int.reduceGT, Int.reduceGE, c]))
      exact none_ 200 w4 _ hx04 hqg rfl (by unfold hload; rw [if_neg hdead', if_neg n7, hN, if_neg (by omega), if_pos c4])
    have c : decide (((crc (hbytes d (2 + N.1.area * each) N.1.size)).toNat : Int) ≠ (N.1.sum : Int)) = false := by simp; omega
    (repeat (simp only [XP_extract0, XP_extract1, XP_extract2, XP_extract3, X_extract0, X_extract1, X_extract2, X_extract3, X_nilS, X_eql_nil_74, X_neq_nil_74, X_eql_nil_124, X_neq_nil_124, X_eql, X_neq, X_lss, X_leq, X_gtr, X_geq, X_not, X_min, X_max, X_len_27, X_len_9, X_len_79, XP_nilS, XP_eql, XP_neq, XP_lss, XP_leq, XP_gtr, XP_geq, XP_not, XP_min, XP_max, XP_len_27, XP_len_9, XP_eql_nil_74, X_str_eql, X_str_neq, XP_str_eql, XP_str_neq, GS, gs_u, decide_true, decide_false, Option.isNone_some, Option.isSome_some, Option.isNone_none, Option.isSome_none, eq_self, Bool.not_true, Bool.not_false, Int.reduceEq, Int.reduceNe, Int.reduceLT, Int.reduceLE, Int.reduceGT, Int.reduceGE, c]))
    refine ⟨Ext, Ext.frame, ?_⟩
    have hq8h : (drewW w4).heap[q8]? = some (.cells N.1.cs.toArray 25 (0, 0)) := hq8g
    have hqh : (drewW w4).heap[q]? = some (.cells nilSl.cs.toArray 25 (0, 0)) := hqg
    refine XR_ok Ext.frame (fun w' k => run_loadAgg Try.underlying25 agg_25 info_25 (l := N.1.cs) (k.get hq8h) (by rw [sz_25]; rfl) (by rw [sz_25]; rfl)) ?_
    have heq : hload each d = ⟨hbytes d (2 + N.1.area * each) N.1.size, N.1, N.2.1, 0⟩ := by
      unfold hload
      rw [if_neg hdead', if_neg n7, hN, if_neg (by omega), if_neg (by simpa using c4)]
    have ho4 : (drewW w4).ownsRow w.heap.size 5 1 u3 (hbytes d (2 + N.1.area * each) N.1.size).length (B8 (hbytes d (2 + N.1.area * each) N.1.size)) :=
      own_mono (own_extD (own_extD ho3 ((Keep.drew (fun _ => False) w3).trans hx4)) (Keep.drew (fun _ => False) w4)) hxe.size
    have hqe3 := lt_of_blk hqe'
    refine tell N.1 (drewW w4) _ (hx04.trans (Keep.drew _ _)) hqh rfl (fun r w2 => K (.tuple #[u3, r, i64v N.2.1, .int .i64 0]) w2) ?_
    intro w5 hx5 hk5
    have := hK u3 w5 hx5 ?_
    · rw [heq] at this
      exact this
    · rw [heq]
      exact own_keepD ho4 hk5 (fun g hg => by
        have := (ho3.lt g hg).1
        omega)
  · intro J hJ
    refine ⟨Ext, Ext.frame, ?_⟩
    refine XP_of hs0 ?_
    refine XP_of hs1 ?_
    have hqd : (drewW w2).heap[q]? = some (.cells nilSl.cs.toArray 25 (0, 0)) := hq2
    have hxd := hx02.trans (Keep.drew (fun _ => False) w2)
    have hc0 : Bts (drewW w2) s0 (d.now.getD 0 []) := hsb0.drew
    have hc1 : Bts (drewW w2) s1 (d.now.getD 1 []) := hsb1.drew
    generalize drewW w2 = wd at hqd hxd hc0 hc1 ⊢
    constructor
    · refine Newer_spec hc0 hc1 ?_
      intro w3 hx3
      rw [← hNe]
      simp only [XP_extract0, XP_extract1, XP_extract2]
      refine X_alloc zero_25 ?_
      have h4 := newB_get w3 nilSl.cs.toArray 25
      have hx4 := newB_ext w3 nilSl.cs.toArray 25
      show XU _ _ (newB w3 nilSl.cs.toArray 25) _
      generalize newB w3 nilSl.cs.toArray 25 = w4 at h4 hx4 ⊢
      have hq3 := hx3.get hqd
      have hlt := lt_of_blk hq3
      refine XU_storeAgg (l := (hnewer d).1.cs) info_25 h4 (by rw [sz_25]; rfl) (by rw [sz_25]; rfl) (Sl.one _) ?_
      exact hJ _ _ ⟨w3.heap.size, by omega, (hxd.trans hx3).trans (Ext.seq hx4 (setAt_keep _ _ _ _ _) (fun j hj => by omega)), (setAt_other (by omega)).trans (hx4.get hq3), setAt_same (lt_of_blk h4), rfl, rfl, rfl, rfl, rfl⟩
    · refine X_alloc zero_25 ?_
      have h4 := newB_get wd nilSl.cs.toArray 25
      have hx4 := newB_ext wd nilSl.cs.toArray 25
      show CALL _ _ _ (newB wd nilSl.cs.toArray 25) _
      generalize newB wd nilSl.cs.toArray 25 = w4 at h4 hx4 ⊢
      refine Newer_spec (hc0.ext hx4) (hc1.ext hx4) ?_
      intro w3 hx3
      rw [← hNe]
      simp only [XP_extract0, XP_extract1, XP_extract2]
      have hq3 := hx3.get (hx4.get hqd)
      have h5 := hx3.get h4
      have hlt := lt_of_blk hqd
      refine XU_storeAgg (l := (hnewer d).1.cs) info_25 h5 (by rw [sz_25]; rfl) (by rw [sz_25]; rfl) (Sl.one _) ?_
      exact hJ _ _ ⟨wd.heap.size, by omega, hxd.trans (Ext.seq (hx4.trans hx3) (setAt_keep _ _ _ _ _) (fun j hj => by omega)), (setAt_other (by omega)).trans hq3, setAt_same (lt_of_blk h5), rfl, rfl, rfl, rfl, rfl⟩
end
end Go.Proofs.Ytggggfcgnkllgaa
end
section
/- The home's functions: Load, write, Save. -/
set_option linter.unusedSimpArgs false
set_option linter.unusedVariables false
namespace Go.Proofs.Ytggggfcgnkllgaa
open Go Go.Sh Go.RowKit
attribute [local irreducible] X XU XP XR CALL loopS resC closS
section
variable {w : World} {b bh each : Nat} {d : Dk} {K : Value → World → Prop}
theorem HLoad_spec (hv : HomeAt w bh b each) (hd : DiskAt w b d) (ok : hok each d.safe.length)
    (hK : ∀ u w1, Ext w w1 → w1.ownsRow w.heap.size 5 1 u (hload each d).bs.length (B8 (hload each d).bs) → K (.tuple #[u, .int .u64 ((hload each d).s.gen : Int), i64v (hload each d).err]) w1) :
    CALL Try.prog 115 #[ptr bh] w K := by
  apply call_home_Home_Load
  unfold B_home_Home_Load
  (repeat (simp only [XP_extract0, XP_extract1, XP_extract2, XP_extract3, X_extract0, X_extract1, X_extract2, X_extract3, X_nilS, X_eql_nil_74, X_neq_nil_74, X_eql_nil_124, X_neq_nil_124, X_eql, X_neq, X_lss, X_leq, X_gtr, X_geq, X_not, X_min, X_max, X_len_27, X_len_9, X_len_79, XP_nilS, XP_eql, XP_neq, XP_lss, XP_leq, XP_gtr, XP_geq, XP_not, XP_min, XP_max, XP_len_27, XP_len_9, XP_eql_nil_74, X_str_eql, X_str_neq, XP_str_eql, XP_str_neq, GS, gs_u, decide_true, decide_false, Option.isNone_some, Option.isSome_some, Option.isNone_none, Option.isSome_none, eq_self, Bool.not_true, Bool.not_false, Int.reduceEq, Int.reduceNe, Int.reduceLT, Int.reduceLE, Int.reduceGT, Int.reduceGE, X_eql_nil_150]))
  refine load_spec hv hd ok ?_
  intro u w1 hx1 ho1
  (repeat (simp only [XP_extract0, XP_extract1, XP_extract2, XP_extract3, X_extract0, X_extract1, X_extract2, X_extract3, X_nilS, X_eql_nil_74, X_neq_nil_74, X_eql_nil_124, X_neq_nil_124, X_eql, X_neq, X_lss, X_leq, X_gtr, X_geq, X_not, X_min, X_max, X_len_27, X_len_9, X_len_79, XP_nilS, XP_eql, XP_neq, XP_lss, XP_leq, XP_gtr, XP_geq, XP_not, XP_min, XP_max, XP_len_27, XP_len_9, XP_eql_nil_74, X_str_eql, X_str_neq, XP_str_eql, XP_str_neq, GS, gs_u, decide_true, decide_false, Option.isNone_some, Option.isSome_some, Option.isNone_none, Option.isSome_none, eq_self, Bool.not_true, Bool.not_false, Int.reduceEq, Int.reduceNe, Int.reduceLT, Int.reduceLE, Int.reduceGT, Int.reduceGE]))
  refine X_alloc zero_25 ?_
  have h4 := newB_get w1 nilSl.cs.toArray 25
  have hx4 := newB_ext w1 nilSl.cs.toArray 25
  show XU _ _ (newB w1 nilSl.cs.toArray 25) _
  generalize newB w1 nilSl.cs.toArray 25 = w2 at h4 hx4 ⊢
  refine XU_storeAgg (l := (hload each d).s.cs) info_25 h4 (by rw [sz_25]; rfl) (by rw [sz_25]; rfl) (Sl.one _) ?_
  have h5 := setAt_same (cs := (hload each d).s.cs.toArray) (T := 25) (fr := (0, 0)) (lt_of_blk h4)
  have hx5 : Ext w1 (setAt w2 w1.heap.size (hload each d).s.cs.toArray 25 (0, 0)) := Ext.seq hx4 (setAt_keep _ _ _ _ _) (fun j hj => by omega)
  generalize setAt w2 w1.heap.size (hload each d).s.cs.toArray 25 (0, 0) = w3 at h5 hx5 ⊢
  refine ⟨Ext, Ext.frame, ?_⟩
  have h5d : (drewW w3).heap[w1.heap.size]? = some (.cells (hload each d).s.cs.toArray 25 (0, 0)) := h5
  rw [XP_field_25_0]
  refine XR_loadL agg_22 h5d (v := .int .u64 ((hload each d).s.gen : Int)) rfl ?_
  exact hK u _ ((hx1.trans hx5).trans (Keep.drew _ _)) (own_extD (own_extD ho1 hx5) (Keep.drew _ _))
theorem HLoad_nil (hK : K (.tuple #[.slice none 0 0, .int .u64 0, i64v 2]) w) : CALL Try.prog 115 #[.pointer none] w K := by
  apply call_home_Home_Load
  unfold B_home_Home_Load
  (repeat (simp only [XP_extract0, XP_extract1, XP_extract2, XP_extract3, X_extract0, X_extract1, X_extract2, X_extract3, X_nilS, X_eql_nil_74, X_neq_nil_74, X_eql_nil_124, X_neq_nil_124, X_eql, X_neq, X_lss, X_leq, X_gtr, X_geq, X_not, X_min, X_max, X_len_27, X_len_9, X_len_79, XP_nilS, XP_eql, XP_neq, XP_lss, XP_leq, XP_gtr, XP_geq, XP_not, XP_min, XP_max, XP_len_27, XP_len_9, XP_eql_nil_74, X_str_eql, X_str_neq, XP_str_eql, XP_str_neq, GS, gs_u, decide_true, decide_false, Option.isNone_some, Option.isSome_some, Option.isNone_none, Option.isSome_none, eq_self, Bool.not_true, Bool.not_false, Int.reduceEq, Int.reduceNe, Int.reduceLT, Int.reduceLE, Int.reduceGT, Int.reduceGE, X_eql_nil_150]))
  exact hK
theorem HSave_nil {x : Value} (hK : K (i64v 2) w) : CALL Try.prog 117 #[.pointer none, x] w K := by
  apply call_home_Home_Save
  unfold B_home_Home_Save
  (repeat (simp only [XP_extract0, XP_extract1, XP_extract2, XP_extract3, X_extract0, X_extract1, X_extract2, X_extract3, X_nilS, X_eql_nil_74, X_neq_nil_74, X_eql_nil_124, X_neq_nil_124, X_eql, X_neq, X_lss, X_leq, X_gtr, X_geq, X_not, X_min, X_max, X_len_27, X_len_9, X_len_79, XP_nilS, XP_eql, XP_neq, XP_lss, XP_leq, XP_gtr, XP_geq, XP_not, XP_min, XP_max, XP_len_27, XP_len_9, XP_eql_nil_74, X_str_eql, X_str_neq, XP_str_eql, XP_str_neq, GS, gs_u, decide_true, decide_false, Option.isNone_some, Option.isSome_some, Option.isNone_none, Option.isSome_none, eq_self, Bool.not_true, Bool.not_false, Int.reduceEq, Int.reduceNe, Int.reduceLT, Int.reduceLE, Int.reduceGT, Int.reduceGE, X_eql_nil_150]))
  exact hK
theorem write_spec {at_ : Nat} {x : Value} {bs : List UInt8} (hv : HomeAt w bh b each) (hd : DiskAt w b d) (hat : at_ ≤ 1000000) (hlen : bs.length ≤ 10000000) (hws : d.ws.length + (bs.length + 127) / 128 ≤ 900000) (hb : Bts w x bs)
    (hout : 0 < bs.length → ∀ k, x.ownBlock = some k → ¬ foot w b k ∧ k < w.heap.size)
    (hK : ∀ w1, DiskAt w1 b (hwrite d at_ bs).1 → Step b w w1 → K (i64v (hwrite d at_ bs).2) w1) : CALL Try.prog 146 #[ptr bh, i64v (at_ : Int), x] w K := by
  have hb_lt := hd.lt b (foot_self _ _)
  have e0 : decide ((0 : Int) ≠ 0) = false := by decide
  apply call_home_Home_write
  unfold B_home_Home_write
  refine loopE (fun ρ wr => ∃ (d' : Dk) (to_ : Nat) (rest : List UInt8) (vr : Value), DiskAt wr b d' ∧ Step b w wr ∧ HomeAt wr bh b each ∧ Bts wr vr rest ∧ vr.ownBlock = x.ownBlock ∧ rest.length ≤ bs.length ∧ (0 < bs.length → Outs wr b x) ∧ d'.ws.length + (rest.length + 127) / 128 ≤ 900000 ∧ to_ + rest.length ≤ 20000000 ∧
      layAll d at_ bs = layAll d' to_ rest ∧ ρ 2 = vr ∧ ρ 1 = .int .i64 (to_ : Int) ∧ ρ 0 = ptr bh)
    (fun ρ wr => match ρ 2 with | .slice _ n _ => n | _ => 0)
    (fun ρ wr => ∃ d', DiskAt wr b d' ∧ Step b w wr ∧ HomeAt wr bh b each ∧ layAll d at_ bs = (d', 0) ∧ ρ 0 = ptr bh) ?_ ?_ ?_
  · exact ⟨d, _, _, x, hd, Step.refl, hv, hb, rfl, Nat.le_refl _, hout, hws, by omega, rfl, rfl, rfl, rfl⟩
  · rintro J hJ ρ wr ⟨d', to_, rest, vr, hd', hs', hv', hbr, hvr, hrl, outr, hws', hto, heq, r2, r1, r0⟩
    obtain ⟨ar, cr, er⟩ := Bts.slice hbr
    rw [r2, er, X_len_27, X_gtr, condS_bool, ← er]
    by_cases hr0 : rest = []
    · rw [if_neg (by rw [hr0]; simp)]
      refine hJ _ _ ⟨d', hd', hs', hv', ?_, r0⟩
      rw [heq, hr0, layAll_nil]
    have hpos : 0 < rest.length := List.length_pos_iff.2 hr0
    have out0 := outr (by omega)
    rw [if_pos (by simp; omega), er, X_len_27, X_min, ← er]
    obtain ⟨n, hn⟩ : ∃ n : Nat, n = min rest.length 128 := ⟨_, rfl⟩
    have en : min (rest.length : Int) 128 = (n : Int) := by omega
    rw [en]
    have et : rest.take n = rest.take 128 := by
      rw [hn]
      rcases Nat.le_total rest.length 128 with h | h
      · rw [Nat.min_eq_left h, List.take_of_length_le (Nat.le_refl _), List.take_of_length_le h]
      · rw [Nat.min_eq_right h]
    have ed : rest.drop n = rest.drop 128 := by
      rw [hn]
      rcases Nat.le_total rest.length 128 with h | h
      · rw [Nat.min_eq_left h, List.drop_eq_nil_of_le (Nat.le_refl _), List.drop_eq_nil_of_le h]
      · rw [Nat.min_eq_right h]
    refine ⟨Ext, Ext.frame, ?_⟩
    have hvd : (drewW wr).heap[bh]? = some (.cells #[ptr b, .int .i64 (each : Int)] 204 (0, 0)) := hv'
    rw [r0, r1]
    try simp only [XP_nilS, XP_field_204_0]
    refine XR_loadL agg_74 hvd (v := ptr b) rfl ?_
    have hbd := hbr.drew
    obtain ⟨u, hu, hub, hublk⟩ := cut_hi Try.underlying27 info_5 hbd (kh := .i64) n rfl (by omega)
    obtain ⟨u2, hu2, hub2, hublk2⟩ := cut_lo Try.underlying27 info_5 sz_5 hbd (kl := .i64) n rfl (by omega)
    refine XP_of hu ?_
    have hdd := hd'.ext (Keep.drew (fun _ => False) wr)
    have outd : Outs (drewW wr) b x := out0
    refine Write_spec hdd (by omega) hub (fun _ k hk hf => (outd k (by rw [← hvr, ← hublk]; exact hk)).1 hf) ?_
    intro w5 hd5 s5
    rw [et] at hd5 ⊢
    have s5' : Step b w w5 := hs'.trans ((Step.ext (Keep.drew _ _) (hd'.lt b (foot_self _ _))).trans s5)
    have hcons := layAll_cons d' to_ hr0
    rw [X_neq, condS_bool]
    by_cases he : (d'.write (to_ : Int) (rest.take 128)).2 = 0
    · rw [if_neg (by simpa using he)]
      rw [if_neg (by simpa using he)] at hcons
      refine X_of (hu2 _) ?_
      rw [X_add, w64 (by omega) (by omega)]
      have hv5 : HomeAt w5 bh b each := s5.keep.get (hdd.notin hvd (by decide) (by decide) (by decide)) hvd
      have hws5 := Dk.write_ws d' (to_ : Int) (rest.take 128)
      have out5 := outd.step s5
      have hb5 : Bts w5 u2 (rest.drop 128) := by
        rw [← ed]
        exact hub2.keep s5.keep (fun k hk => (outd k (by rw [← hvr, ← hublk2]; exact hk)).1)
      obtain ⟨a5, c5, e5⟩ := Bts.slice hb5
      show _ ∧ _
      refine ⟨⟨_, to_ + 1, rest.drop 128, u2, hd5, s5', hv5, hb5, hublk2.trans hvr, by rw [List.length_drop]; omega, fun _ => out5, by rw [List.length_drop]; omega, by rw [List.length_drop]; omega, heq.trans hcons, rfl, rfl, r0⟩, ?_⟩
      show (match u2 with | .slice _ n _ => n | _ => 0) < _
      rw [e5, er]
      show (rest.drop 128).length < rest.length
      rw [List.length_drop]
      omega
    · rw [if_pos (by simpa using he)]
      rw [if_pos (by simpa using he)] at hcons
      show K (i64v (d'.write (to_ : Int) (rest.take 128)).2) w5
      have ew : hwrite d at_ bs = d'.write (to_ : Int) (rest.take 128) := by
        unfold hwrite
        rw [heq, hcons, if_pos he]
      have := hK w5 (by rw [ew]; exact hd5) s5'
      rw [ew] at this
      exact this
  · rintro ρ wr ⟨d', hd', hs', hv', heq, r0⟩
    rw [r0]
    (repeat (simp only [XP_extract0, XP_extract1, XP_extract2, XP_extract3, X_extract0, X_extract1, X_extract2, X_extract3, X_nilS, X_eql_nil_74, X_neq_nil_74, X_eql_nil_124, X_neq_nil_124, X_eql, X_neq, X_lss, X_leq, X_gtr, X_geq, X_not, X_min, X_max, X_len_27, X_len_9, X_len_79, XP_nilS, XP_eql, XP_neq, XP_lss, XP_leq, XP_gtr, XP_geq, XP_not, XP_min, XP_max, XP_len_27, XP_len_9, XP_eql_nil_74, X_str_eql, X_str_neq, XP_str_eql, XP_str_neq, GS, gs_u, decide_true, decide_false, Option.isNone_some, Option.isSome_some, Option.isNone_none, Option.isSome_none, eq_self, Bool.not_true, Bool.not_false, Int.reduceEq, Int.reduceNe, Int.reduceLT, Int.reduceLE, Int.reduceGT, Int.reduceGE, X_field_204_0]))
    refine X_loadL agg_74 hv' (v := ptr b) rfl ?_
    have ew : hwrite d at_ bs = d'.flush := by
      unfold hwrite
      rw [heq, if_neg (by simp)]
    refine Flush_spec hd' ?_
    intro w1 hd1 s1
    have := hK w1 (by rw [ew]; exact hd1) (hs'.trans s1)
    rw [ew] at this
    exact this
end
end Go.Proofs.Ytggggfcgnkllgaa
end
section
/- A disk and the reference's disk, side by side. -/
set_option linter.unusedSimpArgs false
set_option linter.unusedVariables false
namespace Go.Proofs.Ytggggfcgnkllgaa
open Go Go.Sh Go.RowKit
theorem foot_x {w w1 : World} {b k : Nat} (x : Ext w w1) (hb : b < w.heap.size) : foot w1 b k ↔ foot w b k := foot_same (x.block b hb (fun h => h))
/-- All that was there in W is as it was but for D; a disk and a reference's disk lie within D, and what is new is within D. -/
structure Duo (D : Nat → Prop) (W w : World) (b b' : Nat) (d e : Dk) : Prop where
  disk : DiskAt w b d
  ref : RefAt w b' e
  apart : Apart w b b'
  keep : Keep D W w
  low : ∀ k, foot w b k → D k
  low' : ∀ k, foot w b' k → D k
  new : ∀ k, W.heap.size ≤ k → D k
section
variable {D : Nat → Prop} {W w w1 : World} {b b' : Nat} {d e d1 e1 : Dk}
theorem Duo.b_lt (h : Duo D W w b b' d e) : b < w.heap.size := h.disk.lt b (foot_self _ _)
theorem Duo.b'_lt (h : Duo D W w b b' d e) : b' < w.heap.size := h.ref.lt b' (foot_self _ _)
theorem Duo.more (h : Duo D W w b b' d e) (x : Ext w w1) : Duo D W w1 b b' d e :=
  ⟨h.disk.ext x, h.ref.ext x, h.apart.ext x h.b_lt h.b'_lt, h.keep.trans x.ext, fun k hk => h.low k ((foot_x x h.b_lt).1 hk), fun k hk => h.low' k ((foot_x x h.b'_lt).1 hk), h.new⟩
theorem Duo.left (h : Duo D W w b b' d e) (hd : DiskAt w1 b d1) (s : Step b w w1) : Duo D W w1 b b' d1 e :=
  ⟨hd, h.ref.keep s.keep (fun k hf hf2 => h.apart k hf2 hf), s.apart h.apart h.ref.lt, Keep.seq h.keep s.keep (fun i _ hf => h.low i hf),
    fun k hk => (s.grow k hk).elim (h.low k) (fun hs => h.new k (Nat.le_trans h.keep.size hs)), fun k hk => h.low' k ((foot_same (s.other h.apart h.b'_lt)).1 hk), h.new⟩
theorem Duo.right (h : Duo D W w b b' d e) (hr : RefAt w1 b' e1) (s : Step b' w w1) : Duo D W w1 b b' d e1 :=
  ⟨h.disk.keep s.keep (fun k hf hf2 => h.apart k hf hf2), hr, (s.apart h.apart.symm h.disk.lt).symm, Keep.seq h.keep s.keep (fun i _ hf => h.low' i hf),
    fun k hk => h.low k ((foot_same (s.other h.apart.symm h.b_lt)).1 hk), fun k hk => (s.grow k hk).elim (h.low' k) (fun hs => h.new k (Nat.le_trans h.keep.size hs)), h.new⟩
theorem Duo.stepL (h : Duo D W w b b' d e) (s : Step b w w1) : Keep D w w1 := s.keep.mono (fun k _ hf => h.low k hf)
theorem Duo.stepR (h : Duo D W w b b' d e) (s : Step b' w w1) : Keep D w w1 := s.keep.mono (fun k _ hf => h.low' k hf)
/-- The blocks of both, and all that is new. -/
def Both (w : World) (b b' k : Nat) : Prop := w.heap.size ≤ k ∨ foot w b k ∨ foot w b' k
theorem Duo.start (h : Duo D W w b b' d e) : Duo (Both w b b') w w b b' d e :=
  ⟨h.disk, h.ref, h.apart, Keep.refl _ _, fun k hk => .inr (.inl hk), fun k hk => .inr (.inr hk), fun k hk => .inl hk⟩
theorem Duo.within (h : Duo D W w b b' d e) {k : Nat} (hk : Both w b b' k) : D k := by
  rcases hk with hk | hk | hk
  · exact h.new k (Nat.le_trans h.keep.size hk)
  · exact h.low k hk
  · exact h.low' k hk
theorem Duo.after (h : Duo D W w b b' d e) (g : Duo (Both w b b') w w1 b b' d1 e1) : Duo D W w1 b b' d1 e1 :=
  ⟨g.disk, g.ref, g.apart, Keep.seq h.keep g.keep (fun i _ hf => h.within hf), fun k hk => h.within (g.low k hk), fun k hk => h.within (g.low' k hk), h.new⟩
/-- A block of another kind lies in neither. -/
theorem Duo.no (h : Duo D W w b b' d e) {q : Nat} {cs : Array Value} {T : TypeId} {fr : Nat × Nat} (hq : w.heap[q]? = some (.cells cs T fr)) (h1 : T ≠ 183) (h2 : T ≠ 184) (h3 : T ≠ 186) (h4 : T ≠ 148) (h5 : T ≠ 9) (h6 : T ≠ 200) : ¬ Both w b b' q := by
  rintro (hk | hk | hk)
  · have := lt_of_blk hq
    omega
  · exact h.disk.notin hq h1 h2 h3 hk
  · exact h.ref.notin hq h4 h5 h6 hk
theorem Duo.no1 (h : Duo D W w b b' d e) {q : Nat} {cs : Array Value} {T : TypeId} {fr : Nat × Nat} (hq : w.heap[q]? = some (.cells cs T fr)) (h1 : T ≠ 183) (h2 : T ≠ 184) (h3 : T ≠ 186) : ¬ foot w b q := h.disk.notin hq h1 h2 h3
theorem Duo.no2 (h : Duo D W w b b' d e) {q : Nat} {cs : Array Value} {T : TypeId} {fr : Nat × Nat} (hq : w.heap[q]? = some (.cells cs T fr)) (h4 : T ≠ 148) (h5 : T ≠ 9) (h6 : T ≠ 200) : ¬ foot w b' q := h.ref.notin hq h4 h5 h6
/-- The law's own: nothing that was there has turned. -/
theorem Duo.out (h : Duo (fun k => W.heap.size ≤ k) W w b b' d e) : Ext W w :=
  ⟨h.keep.os, h.keep.tape, h.keep.output, h.keep.size, fun i hi _ => h.keep.block i hi (by omega)⟩
theorem Duo.mk' (hx : Ext W w) (hd : DiskAt w b d) (hr : RefAt w b' e) (ha : Apart w b b') (h1 : ∀ k, foot w b k → W.heap.size ≤ k) (h2 : ∀ k, foot w b' k → W.heap.size ≤ k) : Duo (fun k => W.heap.size ≤ k) W w b b' d e :=
  ⟨hd, hr, ha, hx.ext, h1, h2, fun _ h => h⟩
end
end Go.Proofs.Ytggggfcgnkllgaa
end
section
/- The home's functions: Save. -/
set_option linter.unusedSimpArgs false
set_option linter.unusedVariables false
namespace Go.Proofs.Ytggggfcgnkllgaa
open Go Go.Sh Go.RowKit
attribute [local irreducible] X XU XP XR CALL loopS resC closS
theorem run_build_25b (a c d : Int) (w : World) : (Instr.build 25 #[(0, .int .u64 a), (2, .int .u32 c), (3, .int .u32 d)]).run Try.prog w = .ok (.agg #[.int .u64 a, .int .u8 0, .int .u32 c, .int .u32 d]) w := by kernel_rfl
theorem hwrite_clean {d : Dk} {at_ : Nat} {x : List UInt8} (h : (hwrite d at_ x).2 = 0) : (hwrite d at_ x).1.ws = [] := by
  unfold hwrite at h ⊢
  split
  · rename_i h1; rw [if_pos h1] at h; exact absurd h h1
  · rename_i h1
    rw [if_neg h1] at h
    unfold Dk.flush at h ⊢
    split
    · rename_i h2; rw [if_pos h2] at h; exact absurd h (by show ¬ (6 : Int) = 0; decide)
    · rfl
section
variable {w : World} {b bh each : Nat} {d : Dk} {K : Value → World → Prop}
set_option maxHeartbeats 1000000 in
theorem HSave_spec {x : Value} {bs : List UInt8} (hv : HomeAt w bh b each) (hd : DiskAt w b d) (ok : hok each d.safe.length) (hws : d.ws.length ≤ 800000) (hb : Bts w x bs)
    (hout : 0 < bs.length → ∀ k, x.ownBlock = some k → ¬ foot w b k ∧ k < w.heap.size)
    (hK : ∀ w1, DiskAt w1 b (hsave each d bs).1 → Step b w w1 → K (i64v (hsave each d bs).2) w1) : CALL Try.prog 117 #[ptr bh, x] w K := by
  obtain ⟨ok1, ok2, ok3, ok4⟩ := id ok
  have e0 : decide ((0 : Int) ≠ 0) = false := by decide
  have hb_lt := hd.lt b (foot_self _ _)
  obtain ⟨ax, cx, ex⟩ := Bts.slice hb
  apply call_home_Home_Save
  unfold B_home_Home_Save
  rw [ex]
  (repeat (simp only [XP_extract0, XP_extract1, XP_extract2, XP_extract3, X_extract0, X_extract1, X_extract2, X_extract3, X_nilS, X_eql_nil_74, X_neq_nil_74, X_eql_nil_124, X_neq_nil_124, X_eql, X_neq, X_lss, X_leq, X_gtr, X_geq, X_not, X_min, X_max, X_len_27, X_len_9, X_len_79, XP_nilS, XP_eql, XP_neq, XP_lss, XP_leq, XP_gtr, XP_geq, XP_not, XP_min, XP_max, XP_len_27, XP_len_9, XP_eql_nil_74, X_str_eql, X_str_neq, XP_str_eql, XP_str_neq, GS, gs_u, decide_true, decide_false, Option.isNone_some, Option.isSome_some, Option.isNone_none, Option.isSome_none, eq_self, Bool.not_true, Bool.not_false, Int.reduceEq, Int.reduceNe, Int.reduceLT, Int.reduceLE, Int.reduceGT, Int.reduceGE, X_eql_nil_150]))
  refine HRoom_spec hv ok2 ?_
  (repeat (simp only [XP_extract0, XP_extract1, XP_extract2, XP_extract3, X_extract0, X_extract1, X_extract2, X_extract3, X_nilS, X_eql_nil_74, X_neq_nil_74, X_eql_nil_124, X_neq_nil_124, X_eql, X_neq, X_lss, X_leq, X_gtr, X_geq, X_not, X_min, X_max, X_len_27, X_len_9, X_len_79, XP_nilS, XP_eql, XP_neq, XP_lss, XP_leq, XP_gtr, XP_geq, XP_not, XP_min, XP_max, XP_len_27, XP_len_9, XP_eql_nil_74, X_str_eql, X_str_neq, XP_str_eql, XP_str_neq, GS, gs_u, decide_true, decide_false, Option.isNone_some, Option.isSome_some, Option.isNone_none, Option.isSome_none, eq_self, Bool.not_true, Bool.not_false, Int.reduceEq, Int.reduceNe, Int.reduceLT, Int.reduceLE, Int.reduceGT, Int.reduceGE]))
  by_cases hroom : each * 128 < bs.length
  · have c : decide ((bs.length : Int) > ((each * 128 : Nat) : Int)) = true := by simp; omega
    (repeat (simp only [XP_extract0, XP_extract1, XP_extract2, XP_extract3, X_extract0, X_extract1, X_extract2, X_extract3, X_nilS, X_eql_nil_74, X_neq_nil_74, X_eql_nil_124, X_neq_nil_124, X_eql, X_neq, X_lss, X_leq, X_gtr, X_geq, X_not, X_min, X_max, X_len_27, X_len_9, X_len_79, XP_nilS, XP_eql, XP_neq, XP_lss, XP_leq, XP_gtr, XP_geq, XP_not, XP_min, XP_max, XP_len_27, XP_len_9, XP_eql_nil_74, X_str_eql, X_str_neq, XP_str_eql, XP_str_neq, GS, gs_u, decide_true, decide_false, Option.isNone_some, Option.isSome_some, Option.isNone_none, Option.isSome_none, eq_self, Bool.not_true, Bool.not_false, Int.reduceEq, Int.reduceNe, Int.reduceLT, Int.reduceLE, Int.reduceGT, Int.reduceGE, c]))
    have e : hsave each d bs = (d, 4) := by unfold hsave; rw [if_pos hroom]
    have := hK w (by rw [e]; exact hd) Step.refl
    rw [e] at this
    exact this
  have c : decide ((bs.length : Int) > ((each * 128 : Nat) : Int)) = false := by simp; omega
  (repeat (simp only [XP_extract0, XP_extract1, XP_extract2, XP_extract3, X_extract0, X_extract1, X_extract2, X_extract3, X_nilS, X_eql_nil_74, X_neq_nil_74, X_eql_nil_124, X_neq_nil_124, X_eql, X_neq, X_lss, X_leq, X_gtr, X_geq, X_not, X_min, X_max, X_len_27, X_len_9, X_len_79, XP_nilS, XP_eql, XP_neq, XP_lss, XP_leq, XP_gtr, XP_geq, XP_not, XP_min, XP_max, XP_len_27, XP_len_9, XP_eql_nil_74, X_str_eql, X_str_neq, XP_str_eql, XP_str_neq, GS, gs_u, decide_true, decide_false, Option.isNone_some, Option.isSome_some, Option.isNone_none, Option.isSome_none, eq_self, Bool.not_true, Bool.not_false, Int.reduceEq, Int.reduceNe, Int.reduceLT, Int.reduceLE, Int.reduceGT, Int.reduceGE, c]))
  have hlen : bs.length ≤ 16384 * 128 := Nat.le_trans (Nat.le_of_not_lt hroom) (Nat.mul_le_mul_right _ ok2)
  refine load_spec hv hd ok ?_
  intro u w1 hx1 _
  (repeat (simp only [XP_extract0, XP_extract1, XP_extract2, XP_extract3, X_extract0, X_extract1, X_extract2, X_extract3, X_nilS, X_eql_nil_74, X_neq_nil_74, X_eql_nil_124, X_neq_nil_124, X_eql, X_neq, X_lss, X_leq, X_gtr, X_geq, X_not, X_min, X_max, X_len_27, X_len_9, X_len_79, XP_nilS, XP_eql, XP_neq, XP_lss, XP_leq, XP_gtr, XP_geq, XP_not, XP_min, XP_max, XP_len_27, XP_len_9, XP_eql_nil_74, X_str_eql, X_str_neq, XP_str_eql, XP_str_neq, GS, gs_u, decide_true, decide_false, Option.isNone_some, Option.isSome_some, Option.isNone_none, Option.isSome_none, eq_self, Bool.not_true, Bool.not_false, Int.reduceEq, Int.reduceNe, Int.reduceLT, Int.reduceLE, Int.reduceGT, Int.reduceGE]))
  refine X_alloc zero_25 ?_
  have h4 := newB_get w1 nilSl.cs.toArray 25
  have hx4 := newB_ext w1 nilSl.cs.toArray 25
  show XU _ _ (newB w1 nilSl.cs.toArray 25) _
  generalize newB w1 nilSl.cs.toArray 25 = w2 at h4 hx4 ⊢
  refine XU_storeAgg (l := (hload each d).s.cs) info_25 h4 (by rw [sz_25]; rfl) (by rw [sz_25]; rfl) (Sl.one _) ?_
  have hq6 := setAt_same (cs := (hload each d).s.cs.toArray) (T := 25) (fr := (0, 0)) (lt_of_blk h4)
  have hx3 : Ext w (setAt w2 w1.heap.size (hload each d).s.cs.toArray 25 (0, 0)) := hx1.trans (Ext.seq hx4 (setAt_keep _ _ _ _ _) (fun j hj => by omega))
  generalize setAt w2 w1.heap.size (hload each d).s.cs.toArray 25 (0, 0) = w3 at hq6 hx3 ⊢
  generalize w1.heap.size = q6 at hq6 ⊢
  have hsk : (hload each d).s.ok ∧ ((hload each d).err = 0 → ((hload each d).pos = 0 ∨ (hload each d).pos = 1) ∧ (hload each d).s.area ≤ 1) := by
    rcases hload_cases each d with ⟨h1, h2, h3, h4⟩ | ⟨h1, h2, ⟨h3, h4, h5, h6⟩ | ⟨h3, h4, h5, h6, h7, h8⟩⟩
    · rw [h3]; exact ⟨nilSl_ok, fun h => absurd h h1⟩
    · rw [h4, h5]; exact ⟨nilSl_ok, fun _ => ⟨.inl rfl, by decide⟩⟩
    · rw [h4, h5]; exact ⟨newerP_ok _ _, fun _ => ⟨newerP_at _ _, h6⟩⟩
  have hsave_eq : hsave each d bs = if (hload each d).err ≠ 0 then (d, (hload each d).err)
      else if (hload each d).s.gen = 18446744073709551615 then (d, 4)
      else if (hwrite d (2 + harea (hload each d) * each) bs).2 ≠ 0 then hwrite d (2 + harea (hload each d) * each) bs
      else hwrite (hwrite d (2 + harea (hload each d) * each) bs).1 (hpos (hload each d)) (layB (hnext (hload each d) bs)) := by
    unfold hsave
    rw [if_neg hroom]
  obtain ⟨hsok, hsk⟩ := hsk
  generalize hload each d = H at hq6 hsok hsk hsave_eq ⊢
  obtain ⟨hg1, hg2, hg3, hg4⟩ := id hsok
  by_cases herr : H.err = 0
  case neg =>
    have c : decide (H.err ≠ 0) = true := by simpa using herr
    (repeat (simp only [XP_extract0, XP_extract1, XP_extract2, XP_extract3, X_extract0, X_extract1, X_extract2, X_extract3, X_nilS, X_eql_nil_74, X_neq_nil_74, X_eql_nil_124, X_neq_nil_124, X_eql, X_neq, X_lss, X_leq, X_gtr, X_geq, X_not, X_min, X_max, X_len_27, X_len_9, X_len_79, XP_nilS, XP_eql, XP_neq, XP_lss, XP_leq, XP_gtr, XP_geq, XP_not, XP_min, XP_max, XP_len_27, XP_len_9, XP_eql_nil_74, X_str_eql, X_str_neq, XP_str_eql, XP_str_neq, GS, gs_u, decide_true, decide_false, Option.isNone_some, Option.isSome_some, Option.isNone_none, Option.isSome_none, eq_self, Bool.not_true, Bool.not_false, Int.reduceEq, Int.reduceNe, Int.reduceLT, Int.reduceLE, Int.reduceGT, Int.reduceGE, c]))
    rw [if_pos herr] at hsave_eq
    have := hK w3 (by rw [hsave_eq]; exact hd.ext hx3) (Step.ext hx3 hb_lt)
    rw [hsave_eq] at this
    exact this
  rw [if_neg (by simpa using herr)] at hsave_eq
  obtain ⟨hp01, har1⟩ := hsk herr
  have c : decide (H.err ≠ 0) = false := by simp [herr]
  (repeat (simp only [XP_extract0, XP_extract1, XP_extract2, XP_extract3, X_extract0, X_extract1, X_extract2, X_extract3, X_nilS, X_eql_nil_74, X_neq_nil_74, X_eql_nil_124, X_neq_nil_124, X_eql, X_neq, X_lss, X_leq, X_gtr, X_geq, X_not, X_min, X_max, X_len_27, X_len_9, X_len_79, XP_nilS, XP_eql, XP_neq, XP_lss, XP_leq, XP_gtr, XP_geq, XP_not, XP_min, XP_max, XP_len_27, XP_len_9, XP_eql_nil_74, X_str_eql, X_str_neq, XP_str_eql, XP_str_neq, GS, gs_u, decide_true, decide_false, Option.isNone_some, Option.isSome_some, Option.isNone_none, Option.isSome_none, eq_self, Bool.not_true, Bool.not_false, Int.reduceEq, Int.reduceNe, Int.reduceLT, Int.reduceLE, Int.reduceGT, Int.reduceGE, c]))
  have hcrc : (crc bs).toNat < 4294967296 := (crc bs).isLt
  obtain ⟨G, hG⟩ : ∃ G, G = (H.s.gen + 1) % 18446744073709551616 := ⟨_, rfl⟩
  have hGlt : G < 18446744073709551616 := by omega
  have hGw : IntKind.u64.wrap ((H.s.gen : Int) + 1) = (G : Int) := by rw [wrap_u64]; omega
  refine joinS_of (fun ρ1 wr => ∃ q9 : Nat, q9 ≠ q6 ∧ w.heap.size ≤ q9 ∧ Ext w wr ∧ wr.heap[q6]? = some (.cells H.s.cs.toArray 25 (0, 0)) ∧ wr.heap[q9]? = some (.cells (Sl.cs ⟨G, 0, bs.length, (crc bs).toNat⟩).toArray 25 (0, 0)) ∧ ρ1 9 = ptr q9 ∧ ρ1 7 = i64v H.pos ∧ ρ1 6 = ptr q6 ∧ ρ1 0 = ptr bh ∧ ρ1 1 = x) ?_ ?_
  · rintro ρ1 wr ⟨q9, hne, hq9lt, hxr, hq6r, hq9r, r9, r7, r6, r0, r1⟩
    refine joinS_of (fun ρ2 wr => ∃ p : Int, (1 - p = (hpos H : Int)) ∧ hpos H ≤ 1 ∧ harea H ≤ 1 ∧ H.s.gen ≠ 18446744073709551615 ∧ Ext w wr ∧ wr.heap[q9]? = some (.cells (hnext H bs).cs.toArray 25 (0, 0)) ∧ ρ2 9 = ptr q9 ∧ ρ2 7 = i64v p ∧ ρ2 0 = ptr bh ∧ ρ2 1 = x) ?_ ?_
    · rintro ρ2 wr ⟨p, hp, hp1, ha1, hgm, hxr, hq9r, r9, r7, r0, r1⟩
      rw [if_neg hgm] at hsave_eq
      rw [r9, r7, r0, r1]
      have hvr : HomeAt wr bh b each := hxr.get hv
      have hdr := hd.ext hxr
      have sr := Step.ext hxr hb_lt
      have hnok : (hnext H bs).ok := ⟨by show H.s.gen + 1 < _; omega, by show harea H < _; omega, by show bs.length < _; omega, hcrc⟩
      rw [X_field_25_1]
      refine X_loadL agg_5 hq9r (v := .int .u8 (harea H : Int)) rfl ?_
      refine area_spec hvr ok2 (by omega) ?_
      have hae : harea H * each ≤ 1 * each := Nat.mul_le_mul_right _ ha1
      refine write_spec hvr hdr (by omega) (by omega) (by omega) (hb.ext hxr) (fun h0 k hk => ?_) ?_
      · obtain ⟨o1, o2⟩ := hout h0 k hk
        exact ⟨fun hf => o1 ((foot_x hxr hb_lt).1 hf), Nat.lt_of_lt_of_le o2 hxr.size⟩
      intro w4 hd4 s4
      have hdr4 : wr.heap[bh]? = _ := hvr
      (repeat (simp only [XP_extract0, XP_extract1, XP_extract2, XP_extract3, X_extract0, X_extract1, X_extract2, X_extract3, X_nilS, X_eql_nil_74, X_neq_nil_74, X_eql_nil_124, X_neq_nil_124, X_eql, X_neq, X_lss, X_leq, X_gtr, X_geq, X_not, X_min, X_max, X_len_27, X_len_9, X_len_79, XP_nilS, XP_eql, XP_neq, XP_lss, XP_leq, XP_gtr, XP_geq, XP_not, XP_min, XP_max, XP_len_27, XP_len_9, XP_eql_nil_74, X_str_eql, X_str_neq, XP_str_eql, XP_str_neq, GS, gs_u, decide_true, decide_false, Option.isNone_some, Option.isSome_some, Option.isNone_none, Option.isSome_none, eq_self, Bool.not_true, Bool.not_false, Int.reduceEq, Int.reduceNe, Int.reduceLT, Int.reduceLE, Int.reduceGT, Int.reduceGE]))
      have hclean := @hwrite_clean d (2 + harea H * each) bs
      have hsz4 := hwrite_size d (2 + harea H * each) bs
      generalize hwrite d (2 + harea H * each) bs = r at hd4 hsave_eq hclean hsz4 ⊢
      by_cases hr : r.2 = 0
      case neg =>
        have c : decide (r.2 ≠ 0) = true := by simpa using hr
        (repeat (simp only [XP_extract0, XP_extract1, XP_extract2, XP_extract3, X_extract0, X_extract1, X_extract2, X_extract3, X_nilS, X_eql_nil_74, X_neq_nil_74, X_eql_nil_124, X_neq_nil_124, X_eql, X_neq, X_lss, X_leq, X_gtr, X_geq, X_not, X_min, X_max, X_len_27, X_len_9, X_len_79, XP_nilS, XP_eql, XP_neq, XP_lss, XP_leq, XP_gtr, XP_geq, XP_not, XP_min, XP_max, XP_len_27, XP_len_9, XP_eql_nil_74, X_str_eql, X_str_neq, XP_str_eql, XP_str_neq, GS, gs_u, decide_true, decide_false, Option.isNone_some, Option.isSome_some, Option.isNone_none, Option.isSome_none, eq_self, Bool.not_true, Bool.not_false, Int.reduceEq, Int.reduceNe, Int.reduceLT, Int.reduceLE, Int.reduceGT, Int.reduceGE, c]))
        rw [if_pos hr] at hsave_eq
        have := hK w4 (by rw [hsave_eq]; exact hd4) (sr.trans s4)
        rw [hsave_eq] at this
        exact this
      have c : decide (r.2 ≠ 0) = false := by simp [hr]
      (repeat (simp only [XP_extract0, XP_extract1, XP_extract2, XP_extract3, X_extract0, X_extract1, X_extract2, X_extract3, X_nilS, X_eql_nil_74, X_neq_nil_74, X_eql_nil_124, X_neq_nil_124, X_eql, X_neq, X_lss, X_leq, X_gtr, X_geq, X_not, X_min, X_max, X_len_27, X_len_9, X_len_79, XP_nilS, XP_eql, XP_neq, XP_lss, XP_leq, XP_gtr, XP_geq, XP_not, XP_min, XP_max, XP_len_27, XP_len_9, XP_eql_nil_74, X_str_eql, X_str_neq, XP_str_eql, XP_str_neq, GS, gs_u, decide_true, decide_false, Option.isNone_some, Option.isSome_some, Option.isNone_none, Option.isSome_none, eq_self, Bool.not_true, Bool.not_false, Int.reduceEq, Int.reduceNe, Int.reduceLT, Int.reduceLE, Int.reduceGT, Int.reduceGE, c]))
      rw [if_neg (by simpa using hr)] at hsave_eq
      rw [X_sub, hp, w64 (by omega) (by omega)]
      have hv4 : HomeAt w4 bh b each := s4.keep.get (hdr.notin hvr (by decide) (by decide) (by decide)) hvr
      have hq94 := s4.keep.get (hdr.notin hq9r (by decide) (by decide) (by decide)) hq9r
      refine X_loadAgg Try.underlying25 agg_25 info_25 (l := (hnext H bs).cs) hq94 (by rw [sz_25]; rfl) ?_
      refine LayO_spec hnok ?_
      intro v w5 hx5 hb5 hk5
      have hb4_lt := hd4.lt b (foot_self _ _)
      refine write_spec (hx5.get hv4) (hd4.ext hx5) (by omega) (by rw [layB_len]; decide) (by rw [hclean hr, layB_len]; decide) hb5 (fun _ k hk => ⟨fun hf => ?_, (hk5 k hk).2⟩) ?_
      · have h1 := hd4.lt k ((foot_x hx5 hb4_lt).1 hf)
        have h2 := (hk5 k hk).1
        omega
      intro w6 hd6 s6
      have := hK w6 (by rw [hsave_eq]; exact hd6) ((sr.trans s4).trans ((Step.ext hx5 hb4_lt).trans s6))
      rw [hsave_eq] at this
      exact this
    · intro J2 hJ2
      rw [r9, r6]
      (repeat (simp only [XP_extract0, XP_extract1, XP_extract2, XP_extract3, X_extract0, X_extract1, X_extract2, X_extract3, X_nilS, X_eql_nil_74, X_neq_nil_74, X_eql_nil_124, X_neq_nil_124, X_eql, X_neq, X_lss, X_leq, X_gtr, X_geq, X_not, X_min, X_max, X_len_27, X_len_9, X_len_79, XP_nilS, XP_eql, XP_neq, XP_lss, XP_leq, XP_gtr, XP_geq, XP_not, XP_min, XP_max, XP_len_27, XP_len_9, XP_eql_nil_74, X_str_eql, X_str_neq, XP_str_eql, XP_str_neq, GS, gs_u, decide_true, decide_false, Option.isNone_some, Option.isSome_some, Option.isNone_none, Option.isSome_none, eq_self, Bool.not_true, Bool.not_false, Int.reduceEq, Int.reduceNe, Int.reduceLT, Int.reduceLE, Int.reduceGT, Int.reduceGE, X_field_25_0]))
      refine X_loadL agg_22 hq9r (v := .int .u64 (G : Int)) rfl ?_
      (repeat (simp only [XP_extract0, XP_extract1, XP_extract2, XP_extract3, X_extract0, X_extract1, X_extract2, X_extract3, X_nilS, X_eql_nil_74, X_neq_nil_74, X_eql_nil_124, X_neq_nil_124, X_eql, X_neq, X_lss, X_leq, X_gtr, X_geq, X_not, X_min, X_max, X_len_27, X_len_9, X_len_79, XP_nilS, XP_eql, XP_neq, XP_lss, XP_leq, XP_gtr, XP_geq, XP_not, XP_min, XP_max, XP_len_27, XP_len_9, XP_eql_nil_74, X_str_eql, X_str_neq, XP_str_eql, XP_str_neq, GS, gs_u, decide_true, decide_false, Option.isNone_some, Option.isSome_some, Option.isNone_none, Option.isSome_none, eq_self, Bool.not_true, Bool.not_false, Int.reduceEq, Int.reduceNe, Int.reduceLT, Int.reduceLE, Int.reduceGT, Int.reduceGE]))
      by_cases hgm : H.s.gen = 18446744073709551615
      · have c : decide ((G : Int) = 0) = true := by simp; omega
        (repeat (simp only [XP_extract0, XP_extract1, XP_extract2, XP_extract3, X_extract0, X_extract1, X_extract2, X_extract3, X_nilS, X_eql_nil_74, X_neq_nil_74, X_eql_nil_124, X_neq_nil_124, X_eql, X_neq, X_lss, X_leq, X_gtr, X_geq, X_not, X_min, X_max, X_len_27, X_len_9, X_len_79, XP_nilS, XP_eql, XP_neq, XP_lss, XP_leq, XP_gtr, XP_geq, XP_not, XP_min, XP_max, XP_len_27, XP_len_9, XP_eql_nil_74, X_str_eql, X_str_neq, XP_str_eql, XP_str_neq, GS, gs_u, decide_true, decide_false, Option.isNone_some, Option.isSome_some, Option.isNone_none, Option.isSome_none, eq_self, Bool.not_true, Bool.not_false, Int.reduceEq, Int.reduceNe, Int.reduceLT, Int.reduceLE, Int.reduceGT, Int.reduceGE, c]))
        rw [if_pos hgm] at hsave_eq
        have := hK wr (by rw [hsave_eq]; exact hd.ext hxr) (Step.ext hxr hb_lt)
        rw [hsave_eq] at this
        exact this
      have c : decide ((G : Int) = 0) = false := by simp; omega
      have hGs : G = H.s.gen + 1 := by omega
      (repeat (simp only [XP_extract0, XP_extract1, XP_extract2, XP_extract3, X_extract0, X_extract1, X_extract2, X_extract3, X_nilS, X_eql_nil_74, X_neq_nil_74, X_eql_nil_124, X_neq_nil_124, X_eql, X_neq, X_lss, X_leq, X_gtr, X_geq, X_not, X_min, X_max, X_len_27, X_len_9, X_len_79, XP_nilS, XP_eql, XP_neq, XP_lss, XP_leq, XP_gtr, XP_geq, XP_not, XP_min, XP_max, XP_len_27, XP_len_9, XP_eql_nil_74, X_str_eql, X_str_neq, XP_str_eql, XP_str_neq, GS, gs_u, decide_true, decide_false, Option.isNone_some, Option.isSome_some, Option.isNone_none, Option.isSome_none, eq_self, Bool.not_true, Bool.not_false, Int.reduceEq, Int.reduceNe, Int.reduceLT, Int.reduceLE, Int.reduceGT, Int.reduceGE, c, X_field_25_0]))
      refine X_loadL agg_22 hq6r (v := .int .u64 (H.s.gen : Int)) rfl ?_
      (repeat (simp only [XP_extract0, XP_extract1, XP_extract2, XP_extract3, X_extract0, X_extract1, X_extract2, X_extract3, X_nilS, X_eql_nil_74, X_neq_nil_74, X_eql_nil_124, X_neq_nil_124, X_eql, X_neq, X_lss, X_leq, X_gtr, X_geq, X_not, X_min, X_max, X_len_27, X_len_9, X_len_79, XP_nilS, XP_eql, XP_neq, XP_lss, XP_leq, XP_gtr, XP_geq, XP_not, XP_min, XP_max, XP_len_27, XP_len_9, XP_eql_nil_74, X_str_eql, X_str_neq, XP_str_eql, XP_str_neq, GS, gs_u, decide_true, decide_false, Option.isNone_some, Option.isSome_some, Option.isNone_none, Option.isSome_none, eq_self, Bool.not_true, Bool.not_false, Int.reduceEq, Int.reduceNe, Int.reduceLT, Int.reduceLE, Int.reduceGT, Int.reduceGE]))
      by_cases hg0 : H.s.gen = 0
      · have c : decide ((H.s.gen : Int) = 0) = true := by simp; omega
        (repeat (simp only [XP_extract0, XP_extract1, XP_extract2, XP_extract3, X_extract0, X_extract1, X_extract2, X_extract3, X_nilS, X_eql_nil_74, X_neq_nil_74, X_eql_nil_124, X_neq_nil_124, X_eql, X_neq, X_lss, X_leq, X_gtr, X_geq, X_not, X_min, X_max, X_len_27, X_len_9, X_len_79, XP_nilS, XP_eql, XP_neq, XP_lss, XP_leq, XP_gtr, XP_geq, XP_not, XP_min, XP_max, XP_len_27, XP_len_9, XP_eql_nil_74, X_str_eql, X_str_neq, XP_str_eql, XP_str_neq, GS, gs_u, decide_true, decide_false, Option.isNone_some, Option.isSome_some, Option.isNone_none, Option.isSome_none, eq_self, Bool.not_true, Bool.not_false, Int.reduceEq, Int.reduceNe, Int.reduceLT, Int.reduceLE, Int.reduceGT, Int.reduceGE, c]))
        have ep : hpos H = 1 := by unfold hpos; rw [if_pos hg0]
        have ea : harea H = 0 := by unfold harea; rw [if_pos hg0]
        refine hJ2 _ _ ⟨0, by rw [ep]; rfl, by omega, by omega, hgm, hxr, ?_, r9, rfl, r0, r1⟩
        unfold hnext
        rw [ea, ← hGs]
        exact hq9r
      have c : decide ((H.s.gen : Int) = 0) = false := by simp; omega
      (repeat (simp only [XP_extract0, XP_extract1, XP_extract2, XP_extract3, X_extract0, X_extract1, X_extract2, X_extract3, X_nilS, X_eql_nil_74, X_neq_nil_74, X_eql_nil_124, X_neq_nil_124, X_eql, X_neq, X_lss, X_leq, X_gtr, X_geq, X_not, X_min, X_max, X_len_27, X_len_9, X_len_79, XP_nilS, XP_eql, XP_neq, XP_lss, XP_leq, XP_gtr, XP_geq, XP_not, XP_min, XP_max, XP_len_27, XP_len_9, XP_eql_nil_74, X_str_eql, X_str_neq, XP_str_eql, XP_str_neq, GS, gs_u, decide_true, decide_false, Option.isNone_some, Option.isSome_some, Option.isNone_none, Option.isSome_none, eq_self, Bool.not_true, Bool.not_false, Int.reduceEq, Int.reduceNe, Int.reduceLT, Int.reduceLE, Int.reduceGT, Int.reduceGE, c, X_field_25_1]))
      refine X_loadL agg_5 hq6r (v := .int .u8 (H.s.area : Int)) rfl ?_
      have ep : hpos H = (1 - H.pos).toNat := by unfold hpos; rw [if_neg hg0]
      have ea : harea H = 1 - H.s.area := by unfold harea; rw [if_neg hg0]
      have ew : IntKind.u8.wrap (1 - (H.s.area : Int)) = ((1 - H.s.area : Nat) : Int) := by rw [wrap_u8]; omega
      rw [X_sub, ew]
      (repeat (simp only [XP_extract0, XP_extract1, XP_extract2, XP_extract3, X_extract0, X_extract1, X_extract2, X_extract3, X_nilS, X_eql_nil_74, X_neq_nil_74, X_eql_nil_124, X_neq_nil_124, X_eql, X_neq, X_lss, X_leq, X_gtr, X_geq, X_not, X_min, X_max, X_len_27, X_len_9, X_len_79, XP_nilS, XP_eql, XP_neq, XP_lss, XP_leq, XP_gtr, XP_geq, XP_not, XP_min, XP_max, XP_len_27, XP_len_9, XP_eql_nil_74, X_str_eql, X_str_neq, XP_str_eql, XP_str_neq, GS, gs_u, decide_true, decide_false, Option.isNone_some, Option.isSome_some, Option.isNone_none, Option.isSome_none, eq_self, Bool.not_true, Bool.not_false, Int.reduceEq, Int.reduceNe, Int.reduceLT, Int.reduceLE, Int.reduceGT, Int.reduceGE, X_field_25_1]))
      refine XU_store info_5 sz_5 rfl hq9r (by show 1 < 4; decide) (by simp) ?_
      refine hJ2 _ _ ⟨H.pos, by rw [ep]; omega, by omega, by omega, hgm, Ext.seq hxr (setAt_keep _ _ _ _ _) (fun j hj => by omega), ?_, r9, r7, r0, r1⟩
      rw [setAt_same (lt_of_blk hq9r)]
      unfold hnext
      rw [ea, ← hGs]
      rfl
  · intro J1 hJ1
    have hbx : Bts w3 (.slice ax bs.length cx) bs := by rw [← ex]; exact hb.ext hx3
    refine ⟨Ext, Ext.frame, ?_⟩
    have hq6d : (drewW w3).heap[q6]? = some (.cells H.s.cs.toArray 25 (0, 0)) := hq6
    have hxd := hx3.trans (Keep.drew (fun _ => False) w3)
    have hbd := hbx.drew
    generalize drewW w3 = wd at hq6d hxd hbd ⊢
    rw [XP_field_25_0]
    refine XR_loadL agg_22 hq6d (v := .int .u64 (H.s.gen : Int)) rfl ?_
    rw [XP_add, hGw]
    (repeat (simp only [XP_extract0, XP_extract1, XP_extract2, XP_extract3, X_extract0, X_extract1, X_extract2, X_extract3, X_nilS, X_eql_nil_74, X_neq_nil_74, X_eql_nil_124, X_neq_nil_124, X_eql, X_neq, X_lss, X_leq, X_gtr, X_geq, X_not, X_min, X_max, X_len_27, X_len_9, X_len_79, XP_nilS, XP_eql, XP_neq, XP_lss, XP_leq, XP_gtr, XP_geq, XP_not, XP_min, XP_max, XP_len_27, XP_len_9, XP_eql_nil_74, X_str_eql, X_str_neq, XP_str_eql, XP_str_neq, GS, gs_u, decide_true, decide_false, Option.isNone_some, Option.isSome_some, Option.isNone_none, Option.isSome_none, eq_self, Bool.not_true, Bool.not_false, Int.reduceEq, Int.reduceNe, Int.reduceLT, Int.reduceLE, Int.reduceGT, Int.reduceGE]))
    rw [XR_conv_3_23, w32u (by omega)]
    have hq6lt := lt_of_blk hq6d
    constructor
    · refine Sum_spec hbd ?_
      intro w4 hx4
      refine ⟨hx4, ?_⟩
      refine XP_of (fun w => run_build_25b _ _ _ w) ?_
      refine X_alloc zero_25 ?_
      have h5 := newB_get w4 nilSl.cs.toArray 25
      have hx5 := newB_ext w4 nilSl.cs.toArray 25
      show Ext w4 (newB w4 nilSl.cs.toArray 25) ∧ XU _ _ (newB w4 nilSl.cs.toArray 25) _
      generalize newB w4 nilSl.cs.toArray 25 = w5 at h5 hx5 ⊢
      refine ⟨hx5, ?_⟩
      have hq64 := hx4.get hq6d
      have hlt := lt_of_blk hq64
      refine XU_storeAgg (l := Sl.cs ⟨G, 0, bs.length, (crc bs).toNat⟩) info_25 h5 (by rw [sz_25]; rfl) (by rw [sz_25]; rfl) (Sl.one _) ?_
      exact hJ1 _ _ ⟨w4.heap.size, by omega, (hxd.trans hx4).size, (hxd.trans hx4).trans (Ext.seq hx5 (setAt_keep _ _ _ _ _) (fun j hj => by omega)), (setAt_other (by omega)).trans (hx5.get hq64), setAt_same (lt_of_blk h5), rfl, rfl, rfl, rfl, ex.symm⟩
    · refine X_alloc zero_25 ?_
      have h5 := newB_get wd nilSl.cs.toArray 25
      have hx5 := newB_ext wd nilSl.cs.toArray 25
      refine ⟨hx5, ?_⟩
      refine Sum_spec (hbd.ext hx5) ?_
      intro w4 hx4
      refine ⟨hx4, ?_⟩
      refine XP_of (fun w => run_build_25b _ _ _ w) ?_
      have hq64 := hx4.get (hx5.get hq6d)
      have h54 := hx4.get h5
      have hs0 := hxd.size
      refine XU_storeAgg (l := Sl.cs ⟨G, 0, bs.length, (crc bs).toNat⟩) info_25 h54 (by rw [sz_25]; rfl) (by rw [sz_25]; rfl) (Sl.one _) ?_
      exact hJ1 _ _ ⟨wd.heap.size, by omega, hs0, hxd.trans (Ext.seq (hx5.trans hx4) (setAt_keep _ _ _ _ _) (fun j hj => by omega)), (setAt_other (by omega)).trans hq64, setAt_same (lt_of_blk h54), rfl, rfl, rfl, rfl, ex.symm⟩
end
end Go.Proofs.Ytggggfcgnkllgaa
end
section
/- cellarageref20's home. -/
set_option linter.unusedSimpArgs false
set_option linter.unusedVariables false
namespace Go.Proofs.Ytggggfcgnkllgaa
open Go Go.Sh Go.RowKit
attribute [local irreducible] X XU XP XR CALL loopS resC closS
def rhc (b each : Nat) : List Value := [ptr b, .int .i64 (each : Int)]
abbrev rhv (b each : Nat) : Value := .agg (rhc b each).toArray
theorem rhc_one (b each : Nat) : ∀ x ∈ rhc b each, x.oneCell' = true := by
  intro x hx
  simp only [rhc, List.mem_cons, List.not_mem_nil, or_false] at hx
  rcases hx with rfl | rfl <;> rfl
theorem run_build_162 (p : Option Addr) (x : Int) (w : World) : (Instr.build 162 #[(0, .pointer p), (1, .int .i64 x)]).run Try.prog w = .ok (.agg #[.pointer p, .int .i64 x]) w := by kernel_rfl
theorem run_build_162z (w : World) : (Instr.build 162 #[]).run Try.prog w = .ok (.agg #[.pointer none, .int .i64 0]) w := by kernel_rfl
theorem run_cutstr0 {P : Program} {T : TypeId} (hT : P.underlying T = some .string) (l : List UInt8) (k' : IntKind) (n : Nat) (h : n ≤ l.length) (w : World) : (Instr.sliceAt T (.string (str l)) none (some (.int k' (n : Int))) none).run P w = .ok (.string (str (l.take n))) w := by
  have h' : n ≤ (str l).size := by rw [str_size]; exact h
  simp [Instr.sliceAt, Instr.slice, run_underlying hT, Instr.sliceBounds, Instr.sliceBound, asIntOf, h, h', extract_str, str_size]
section
variable {w : World} {b each : Nat} {d : Dk} {K : Value → World → Prop}
theorem RHNew_spec {each : Int} (hd : RefAt w b d)
    (h0 : each < 1 ∨ 16384 < each ∨ (d.safe.length : Int) < 2 + 2 * each → ∀ w1, Ext w w1 → K (.tuple #[.agg [.pointer none, .int .i64 0].toArray, i64v 1]) w1)
    (h1 : ∀ e : Nat, each = (e : Int) → hok e d.safe.length → ∀ w1, Ext w w1 → K (.tuple #[rhv b e, i64v 0]) w1) : CALL Try.prog 121 #[ptr b, i64v each] w K := by
  have hsz : d.safe.length ≤ 16384 := hd.1.2.2.1
  apply call_ref20_New
  unfold B_ref20_New
  refine X_alloc zero_162 ?_
  have hq := newB_get w #[(.pointer none), (.int .i64 0)] 162
  have hx := newB_ext w #[(.pointer none), (.int .i64 0)] 162
  show X _ _ (newB w #[(.pointer none), (.int .i64 0)] 162) _
  generalize newB w #[(.pointer none), (.int .i64 0)] 162 = w1 at hq hx ⊢
  have fin0 : (each < 1 ∨ 16384 < each ∨ (d.safe.length : Int) < 2 + 2 * each) → X Try.prog (Instr.build 162 #[]) w1 fun v28 w44 => XU Try.prog (Instr.storeAt 162 (.pointer (some ⟨w.heap.size, 0, none⟩)) v28) w44 fun w45 => resC Try.prog 162 (.pointer (some ⟨w.heap.size, 0, none⟩)) w45 fun r0 => K (.tuple #[r0, (.int .i64 1)]) w45 := by
    intro h
    refine X_of (run_build_162z _) ?_
    refine XU_storeAgg (l := [.pointer none, .int .i64 0]) info_162 hq (by rw [sz_162]; rfl) (by rw [sz_162]; rfl) (by intro x hx; simp at hx; rcases hx with rfl | rfl <;> rfl) ?_
    refine resC_agg Try.underlying162 agg_162 info_162 (setAt_same (lt_of_blk hq)) (by rw [sz_162]; rfl) ?_
    exact h0 h _ (Ext.seq hx (setAt_keep _ _ _ _ _) (fun j hj => by omega))
  (repeat (simp only [XP_extract0, XP_extract1, XP_extract2, XP_extract3, X_extract0, X_extract1, X_extract2, X_extract3, X_nilS, X_eql_nil_74, X_neq_nil_74, X_eql_nil_124, X_neq_nil_124, X_eql, X_neq, X_lss, X_leq, X_gtr, X_geq, X_not, X_min, X_max, X_len_27, X_len_9, X_len_79, XP_nilS, XP_eql, XP_neq, XP_lss, XP_leq, XP_gtr, XP_geq, XP_not, XP_min, XP_max, XP_len_27, XP_len_9, XP_eql_nil_74, X_str_eql, X_str_neq, XP_str_eql, XP_str_neq, GS, gs_u, decide_true, decide_false, Option.isNone_some, Option.isSome_some, Option.isNone_none, Option.isSome_none, eq_self, Bool.not_true, Bool.not_false, Int.reduceEq, Int.reduceNe, Int.reduceLT, Int.reduceLE, Int.reduceGT, Int.reduceGE]))
  by_cases c1 : each < 1
  · have e1 : decide (each < 1) = true := by simpa using c1
    (repeat (simp only [XP_extract0, XP_extract1, XP_extract2, XP_extract3, X_extract0, X_extract1, X_extract2, X_extract3, X_nilS, X_eql_nil_74, X_neq_nil_74, X_eql_nil_124, X_neq_nil_124, X_eql, X_neq, X_lss, X_leq, X_gtr, X_geq, X_not, X_min, X_max, X_len_27, X_len_9, X_len_79, XP_nilS, XP_eql, XP_neq, XP_lss, XP_leq, XP_gtr, XP_geq, XP_not, XP_min, XP_max, XP_len_27, XP_len_9, XP_eql_nil_74, X_str_eql, X_str_neq, XP_str_eql, XP_str_neq, GS, gs_u, decide_true, decide_false, Option.isNone_some, Option.isSome_some, Option.isNone_none, Option.isSome_none, eq_self, Bool.not_true, Bool.not_false, Int.reduceEq, Int.reduceNe, Int.reduceLT, Int.reduceLE, Int.reduceGT, Int.reduceGE, e1]))
    exact fin0 (.inl c1)
  have e1 : decide (each < 1) = false := by simpa using c1
  (repeat (simp only [XP_extract0, XP_extract1, XP_extract2, XP_extract3, X_extract0, X_extract1, X_extract2, X_extract3, X_nilS, X_eql_nil_74, X_neq_nil_74, X_eql_nil_124, X_neq_nil_124, X_eql, X_neq, X_lss, X_leq, X_gtr, X_geq, X_not, X_min, X_max, X_len_27, X_len_9, X_len_79, XP_nilS, XP_eql, XP_neq, XP_lss, XP_leq, XP_gtr, XP_geq, XP_not, XP_min, XP_max, XP_len_27, XP_len_9, XP_eql_nil_74, X_str_eql, X_str_neq, XP_str_eql, XP_str_neq, GS, gs_u, decide_true, decide_false, Option.isNone_some, Option.isSome_some, Option.isNone_none, Option.isSome_none, eq_self, Bool.not_true, Bool.not_false, Int.reduceEq, Int.reduceNe, Int.reduceLT, Int.reduceLE, Int.reduceGT, Int.reduceGE, e1]))
  by_cases c2 : 16384 < each
  · have e2 : decide (each > 16384) = true := by simpa using c2
    (repeat (simp only [XP_extract0, XP_extract1, XP_extract2, XP_extract3, X_extract0, X_extract1, X_extract2, X_extract3, X_nilS, X_eql_nil_74, X_neq_nil_74, X_eql_nil_124, X_neq_nil_124, X_eql, X_neq, X_lss, X_leq, X_gtr, X_geq, X_not, X_min, X_max, X_len_27, X_len_9, X_len_79, XP_nilS, XP_eql, XP_neq, XP_lss, XP_leq, XP_gtr, XP_geq, XP_not, XP_min, XP_max, XP_len_27, XP_len_9, XP_eql_nil_74, X_str_eql, X_str_neq, XP_str_eql, XP_str_neq, GS, gs_u, decide_true, decide_false, Option.isNone_some, Option.isSome_some, Option.isNone_none, Option.isSome_none, eq_self, Bool.not_true, Bool.not_false, Int.reduceEq, Int.reduceNe, Int.reduceLT, Int.reduceLE, Int.reduceGT, Int.reduceGE, e2]))
    exact fin0 (.inr (.inl c2))
  have e2 : decide (each > 16384) = false := by simpa using c2
  obtain ⟨okd, sv, pv, hr⟩ := hd.ext hx
  obtain ⟨as_, cs_, es⟩ := own_sl hr.safe
  (repeat (simp only [XP_extract0, XP_extract1, XP_extract2, XP_extract3, X_extract0, X_extract1, X_extract2, X_extract3, X_nilS, X_eql_nil_74, X_neq_nil_74, X_eql_nil_124, X_neq_nil_124, X_eql, X_neq, X_lss, X_leq, X_gtr, X_geq, X_not, X_min, X_max, X_len_27, X_len_9, X_len_79, XP_nilS, XP_eql, XP_neq, XP_lss, XP_leq, XP_gtr, XP_geq, XP_not, XP_min, XP_max, XP_len_27, XP_len_9, XP_eql_nil_74, X_str_eql, X_str_neq, XP_str_eql, XP_str_neq, GS, gs_u, decide_true, decide_false, Option.isNone_some, Option.isSome_some, Option.isNone_none, Option.isSome_none, eq_self, Bool.not_true, Bool.not_false, Int.reduceEq, Int.reduceNe, Int.reduceLT, Int.reduceLE, Int.reduceGT, Int.reduceGE, e2, X_field_148_0]))
  refine X_loadL agg_66 hr.blk (v := sv) rfl ?_
  rw [es]
  (repeat (simp only [XP_extract0, XP_extract1, XP_extract2, XP_extract3, X_extract0, X_extract1, X_extract2, X_extract3, X_nilS, X_eql_nil_74, X_neq_nil_74, X_eql_nil_124, X_neq_nil_124, X_eql, X_neq, X_lss, X_leq, X_gtr, X_geq, X_not, X_min, X_max, X_len_27, X_len_9, X_len_79, XP_nilS, XP_eql, XP_neq, XP_lss, XP_leq, XP_gtr, XP_geq, XP_not, XP_min, XP_max, XP_len_27, XP_len_9, XP_eql_nil_74, X_str_eql, X_str_neq, XP_str_eql, XP_str_neq, GS, gs_u, decide_true, decide_false, Option.isNone_some, Option.isSome_some, Option.isNone_none, Option.isSome_none, eq_self, Bool.not_true, Bool.not_false, Int.reduceEq, Int.reduceNe, Int.reduceLT, Int.reduceLE, Int.reduceGT, Int.reduceGE, X_len_66]))
  rw [X_mul, w64 (by omega) (by omega)]
  (repeat (simp only [XP_extract0, XP_extract1, XP_extract2, XP_extract3, X_extract0, X_extract1, X_extract2, X_extract3, X_nilS, X_eql_nil_74, X_neq_nil_74, X_eql_nil_124, X_neq_nil_124, X_eql, X_neq, X_lss, X_leq, X_gtr, X_geq, X_not, X_min, X_max, X_len_27, X_len_9, X_len_79, XP_nilS, XP_eql, XP_neq, XP_lss, XP_leq, XP_gtr, XP_geq, XP_not, XP_min, XP_max, XP_len_27, XP_len_9, XP_eql_nil_74, X_str_eql, X_str_neq, XP_str_eql, XP_str_neq, GS, gs_u, decide_true, decide_false, Option.isNone_some, Option.isSome_some, Option.isNone_none, Option.isSome_none, eq_self, Bool.not_true, Bool.not_false, Int.reduceEq, Int.reduceNe, Int.reduceLT, Int.reduceLE, Int.reduceGT, Int.reduceGE]))
  rw [X_add, w64 (by omega) (by omega)]
  (repeat (simp only [XP_extract0, XP_extract1, XP_extract2, XP_extract3, X_extract0, X_extract1, X_extract2, X_extract3, X_nilS, X_eql_nil_74, X_neq_nil_74, X_eql_nil_124, X_neq_nil_124, X_eql, X_neq, X_lss, X_leq, X_gtr, X_geq, X_not, X_min, X_max, X_len_27, X_len_9, X_len_79, XP_nilS, XP_eql, XP_neq, XP_lss, XP_leq, XP_gtr, XP_geq, XP_not, XP_min, XP_max, XP_len_27, XP_len_9, XP_eql_nil_74, X_str_eql, X_str_neq, XP_str_eql, XP_str_neq, GS, gs_u, decide_true, decide_false, Option.isNone_some, Option.isSome_some, Option.isNone_none, Option.isSome_none, eq_self, Bool.not_true, Bool.not_false, Int.reduceEq, Int.reduceNe, Int.reduceLT, Int.reduceLE, Int.reduceGT, Int.reduceGE]))
  by_cases c3 : (d.safe.length : Int) < 2 + 2 * each
  · have e3 : decide ((d.safe.length : Int) < 2 + 2 * each) = true := by simpa using c3
    (repeat (simp only [XP_extract0, XP_extract1, XP_extract2, XP_extract3, X_extract0, X_extract1, X_extract2, X_extract3, X_nilS, X_eql_nil_74, X_neq_nil_74, X_eql_nil_124, X_neq_nil_124, X_eql, X_neq, X_lss, X_leq, X_gtr, X_geq, X_not, X_min, X_max, X_len_27, X_len_9, X_len_79, XP_nilS, XP_eql, XP_neq, XP_lss, XP_leq, XP_gtr, XP_geq, XP_not, XP_min, XP_max, XP_len_27, XP_len_9, XP_eql_nil_74, X_str_eql, X_str_neq, XP_str_eql, XP_str_neq, GS, gs_u, decide_true, decide_false, Option.isNone_some, Option.isSome_some, Option.isNone_none, Option.isSome_none, eq_self, Bool.not_true, Bool.not_false, Int.reduceEq, Int.reduceNe, Int.reduceLT, Int.reduceLE, Int.reduceGT, Int.reduceGE, e3]))
    exact fin0 (.inr (.inr c3))
  have e3 : decide ((d.safe.length : Int) < 2 + 2 * each) = false := by simpa using c3
  (repeat (simp only [XP_extract0, XP_extract1, XP_extract2, XP_extract3, X_extract0, X_extract1, X_extract2, X_extract3, X_nilS, X_eql_nil_74, X_neq_nil_74, X_eql_nil_124, X_neq_nil_124, X_eql, X_neq, X_lss, X_leq, X_gtr, X_geq, X_not, X_min, X_max, X_len_27, X_len_9, X_len_79, XP_nilS, XP_eql, XP_neq, XP_lss, XP_leq, XP_gtr, XP_geq, XP_not, XP_min, XP_max, XP_len_27, XP_len_9, XP_eql_nil_74, X_str_eql, X_str_neq, XP_str_eql, XP_str_neq, GS, gs_u, decide_true, decide_false, Option.isNone_some, Option.isSome_some, Option.isNone_none, Option.isSome_none, eq_self, Bool.not_true, Bool.not_false, Int.reduceEq, Int.reduceNe, Int.reduceLT, Int.reduceLE, Int.reduceGT, Int.reduceGE, e3]))
  obtain ⟨e, rfl⟩ : ∃ e : Nat, each = (e : Int) := ⟨each.toNat, by omega⟩
  refine X_of (run_build_162 _ _ _) ?_
  refine XU_storeAgg (l := rhc b e) info_162 hq (by rw [sz_162]; rfl) (by rw [sz_162]; rfl) (rhc_one _ _) ?_
  refine resC_agg Try.underlying162 agg_162 info_162 (setAt_same (lt_of_blk hq)) (by rw [sz_162]; rfl) ?_
  exact h1 e rfl ⟨by omega, by omega, by omega, by omega⟩ _ (Ext.seq hx (setAt_keep _ _ _ _ _) (fun j hj => by omega))
/-- The slot that counts. -/
theorem newer_spec (hd : RefAt w b d) (ok : hok each d.safe.length) (hws : d.ws.length ≤ 1000000)
    (h0 : d.dead = true → ∀ w1, Ext w w1 → K (.tuple #[nilSl.v, i64v 0, .bool false, i64v 6]) w1)
    (h1 : d.dead = false → ∀ w1, Ext w w1 → K (.tuple #[(hnewer d).1.v, i64v (hnewer d).2.1, .bool (decide ((hnewer d).2.2 = 0)), i64v 0]) w1) : CALL Try.prog 148 #[rhv b each] w K := by
  obtain ⟨ok1, ok2, ok3, ok4⟩ := id ok
  have e0 : decide ((0 : Int) ≠ 0) = false := by decide
  have e6 : decide ((6 : Int) ≠ 0) = true := by decide
  apply call_ref20_Home_newer
  unfold B_ref20_Home_newer
  refine X_box ?_
  have hp := newB_get w (rhc b each).toArray 162
  have hxp := newB_ext w (rhc b each).toArray 162
  show X _ _ (newB w (rhc b each).toArray 162) _
  generalize newB w (rhc b each).toArray 162 = w1 at hp hxp ⊢
  generalize w.heap.size = p at hp ⊢
  refine X_alloc zero_25 ?_
  have hq := newB_get w1 nilSl.cs.toArray 25
  have hxq := newB_ext w1 nilSl.cs.toArray 25
  show X _ _ (newB w1 nilSl.cs.toArray 25) _
  have hp2 := hxq.get hp
  have hx2 := hxp.trans hxq
  have hqlt : w.heap.size ≤ w1.heap.size := hxp.size
  generalize newB w1 nilSl.cs.toArray 25 = w2 at hq hp2 hx2 ⊢
  generalize w1.heap.size = q at hq hqlt ⊢
  have hd2 := hd.ext hx2
  (repeat (simp only [XP_extract0, XP_extract1, XP_extract2, XP_extract3, X_extract0, X_extract1, X_extract2, X_extract3, X_nilS, X_eql_nil_74, X_neq_nil_74, X_eql_nil_124, X_neq_nil_124, X_eql, X_neq, X_lss, X_leq, X_gtr, X_geq, X_not, X_min, X_max, X_len_27, X_len_9, X_len_79, XP_nilS, XP_eql, XP_neq, XP_lss, XP_leq, XP_gtr, XP_geq, XP_not, XP_min, XP_max, XP_len_27, XP_len_9, XP_eql_nil_74, X_str_eql, X_str_neq, XP_str_eql, XP_str_neq, GS, gs_u, decide_true, decide_false, Option.isNone_some, Option.isSome_some, Option.isNone_none, Option.isSome_none, eq_self, Bool.not_true, Bool.not_false, Int.reduceEq, Int.reduceNe, Int.reduceLT, Int.reduceLE, Int.reduceGT, Int.reduceGE, X_field_162_0]))
  refine X_loadL agg_92 hp2 (v := ptr b) rfl ?_
  refine RRead_spec (at_ := 0) hd2 hws ?_
  have rd : ∀ i : Nat, i < 2 → d.read (i : Int) = if d.dead = true then ([], 6) else (d.now.getD i [], 0) := fun i hi => read_at (by omega)
  have rd0 := rd 0 (by omega)
  have rd1 := rd 1 (by omega)
  rw [show ((0 : Nat) : Int) = 0 from rfl] at rd0
  rw [show ((1 : Nat) : Int) = 1 from rfl] at rd1
  by_cases hdead : d.dead = true
  · rw [if_pos hdead] at rd0
    rw [rd0]
    (repeat (simp only [XP_extract0, XP_extract1, XP_extract2, XP_extract3, X_extract0, X_extract1, X_extract2, X_extract3, X_nilS, X_eql_nil_74, X_neq_nil_74, X_eql_nil_124, X_neq_nil_124, X_eql, X_neq, X_lss, X_leq, X_gtr, X_geq, X_not, X_min, X_max, X_len_27, X_len_9, X_len_79, XP_nilS, XP_eql, XP_neq, XP_lss, XP_leq, XP_gtr, XP_geq, XP_not, XP_min, XP_max, XP_len_27, XP_len_9, XP_eql_nil_74, X_str_eql, X_str_neq, XP_str_eql, XP_str_neq, GS, gs_u, decide_true, decide_false, Option.isNone_some, Option.isSome_some, Option.isNone_none, Option.isSome_none, eq_self, Bool.not_true, Bool.not_false, Int.reduceEq, Int.reduceNe, Int.reduceLT, Int.reduceLE, Int.reduceGT, Int.reduceGE, e6]))
    refine X_of (run_build_25z _) ?_
    refine XU_storeAgg (l := nilSl.cs) info_25 hq (by rw [sz_25]; rfl) (by rw [sz_25]; rfl) (Sl.one _) ?_
    refine resC_agg Try.underlying25 agg_25 info_25 (setAt_same (lt_of_blk hq)) (by rw [sz_25]; rfl) ?_
    exact h0 hdead _ (Ext.seq hx2 (setAt_keep _ _ _ _ _) (fun j hj => by omega))
  rw [if_neg hdead] at rd0 rd1
  rw [rd0]
  have hal : d.dead = false := by simpa using hdead
  have l0 := getD_128 hd.1 (i := 0) (by omega)
  have l1 := getD_128 hd.1 (i := 1) (by omega)
  (repeat (simp only [XP_extract0, XP_extract1, XP_extract2, XP_extract3, X_extract0, X_extract1, X_extract2, X_extract3, X_nilS, X_eql_nil_74, X_neq_nil_74, X_eql_nil_124, X_neq_nil_124, X_eql, X_neq, X_lss, X_leq, X_gtr, X_geq, X_not, X_min, X_max, X_len_27, X_len_9, X_len_79, XP_nilS, XP_eql, XP_neq, XP_lss, XP_leq, XP_gtr, XP_geq, XP_not, XP_min, XP_max, XP_len_27, XP_len_9, XP_eql_nil_74, X_str_eql, X_str_neq, XP_str_eql, XP_str_neq, GS, gs_u, decide_true, decide_false, Option.isNone_some, Option.isSome_some, Option.isNone_none, Option.isSome_none, eq_self, Bool.not_true, Bool.not_false, Int.reduceEq, Int.reduceNe, Int.reduceLT, Int.reduceLE, Int.reduceGT, Int.reduceGE, e0, X_field_162_0]))
  refine X_loadL agg_92 hp2 (v := ptr b) rfl ?_
  refine RRead_spec (at_ := 1) hd2 hws ?_
  rw [rd1]
  (repeat (simp only [XP_extract0, XP_extract1, XP_extract2, XP_extract3, X_extract0, X_extract1, X_extract2, X_extract3, X_nilS, X_eql_nil_74, X_neq_nil_74, X_eql_nil_124, X_neq_nil_124, X_eql, X_neq, X_lss, X_leq, X_gtr, X_geq, X_not, X_min, X_max, X_len_27, X_len_9, X_len_79, XP_nilS, XP_eql, XP_neq, XP_lss, XP_leq, XP_gtr, XP_geq, XP_not, XP_min, XP_max, XP_len_27, XP_len_9, XP_eql_nil_74, X_str_eql, X_str_neq, XP_str_eql, XP_str_neq, GS, gs_u, decide_true, decide_false, Option.isNone_some, Option.isSome_some, Option.isNone_none, Option.isSome_none, eq_self, Bool.not_true, Bool.not_false, Int.reduceEq, Int.reduceNe, Int.reduceLT, Int.reduceLE, Int.reduceGT, Int.reduceGE]))
  refine X_bytes Try.underlying9 Try.underlying27 Try.underlying5 (by omega) ?_
  intro s0 w3 hx3 hb0 _
  refine X_bytes Try.underlying9 Try.underlying27 Try.underlying5 (by omega) ?_
  intro s1 w4 hx4 hb1 _
  refine RNewer_spec (hb0.ext hx4) hb1 ?_
  intro w5 hx5
  have hN : newerP (d.now.getD 0 []) (d.now.getD 1 []) = hnewer d := rfl
  rw [hN]
  (repeat (simp only [XP_extract0, XP_extract1, XP_extract2, XP_extract3, X_extract0, X_extract1, X_extract2, X_extract3, X_nilS, X_eql_nil_74, X_neq_nil_74, X_eql_nil_124, X_neq_nil_124, X_eql, X_neq, X_lss, X_leq, X_gtr, X_geq, X_not, X_min, X_max, X_len_27, X_len_9, X_len_79, XP_nilS, XP_eql, XP_neq, XP_lss, XP_leq, XP_gtr, XP_geq, XP_not, XP_min, XP_max, XP_len_27, XP_len_9, XP_eql_nil_74, X_str_eql, X_str_neq, XP_str_eql, XP_str_neq, GS, gs_u, decide_true, decide_false, Option.isNone_some, Option.isSome_some, Option.isNone_none, Option.isSome_none, eq_self, Bool.not_true, Bool.not_false, Int.reduceEq, Int.reduceNe, Int.reduceLT, Int.reduceLE, Int.reduceGT, Int.reduceGE]))
  have hx25 : Ext w2 w5 := (hx3.trans hx4).trans hx5
  have hq5 := hx25.get hq
  refine X_alloc zero_25 ?_
  have hz := newB_get w5 nilSl.cs.toArray 25
  have hxz := newB_ext w5 nilSl.cs.toArray 25
  show XU _ _ (newB w5 nilSl.cs.toArray 25) _
  generalize newB w5 nilSl.cs.toArray 25 = w6 at hz hxz ⊢
  have hlt := lt_of_blk hq5
  have hs5 := (hx2.trans hx25).size
  refine XU_storeAgg (l := (hnewer d).1.cs) info_25 hz (by rw [sz_25]; rfl) (by rw [sz_25]; rfl) (Sl.one _) ?_
  have hz7 := setAt_same (cs := (hnewer d).1.cs.toArray) (T := 25) (fr := (0, 0)) (lt_of_blk hz)
  have hq7 : (setAt w6 w5.heap.size (hnewer d).1.cs.toArray 25 (0, 0)).heap[q]? = some (.cells nilSl.cs.toArray 25 (0, 0)) := (setAt_other (by omega)).trans (hxz.get hq5)
  have hx7 : Ext w5 (setAt w6 w5.heap.size (hnewer d).1.cs.toArray 25 (0, 0)) := Ext.seq hxz (setAt_keep _ _ _ _ _) (fun j hj => by omega)
  generalize setAt w6 w5.heap.size (hnewer d).1.cs.toArray 25 (0, 0) = w7 at hz7 hq7 hx7 ⊢
  refine X_loadAgg Try.underlying25 agg_25 info_25 hz7 (by rw [sz_25]; rfl) ?_
  (repeat (simp only [XP_extract0, XP_extract1, XP_extract2, XP_extract3, X_extract0, X_extract1, X_extract2, X_extract3, X_nilS, X_eql_nil_74, X_neq_nil_74, X_eql_nil_124, X_neq_nil_124, X_eql, X_neq, X_lss, X_leq, X_gtr, X_geq, X_not, X_min, X_max, X_len_27, X_len_9, X_len_79, XP_nilS, XP_eql, XP_neq, XP_lss, XP_leq, XP_gtr, XP_geq, XP_not, XP_min, XP_max, XP_len_27, XP_len_9, XP_eql_nil_74, X_str_eql, X_str_neq, XP_str_eql, XP_str_neq, GS, gs_u, decide_true, decide_false, Option.isNone_some, Option.isSome_some, Option.isNone_none, Option.isSome_none, eq_self, Bool.not_true, Bool.not_false, Int.reduceEq, Int.reduceNe, Int.reduceLT, Int.reduceLE, Int.reduceGT, Int.reduceGE]))
  refine XU_storeAgg (l := (hnewer d).1.cs) info_25 hq7 (by rw [sz_25]; rfl) (by rw [sz_25]; rfl) (Sl.one _) ?_
  refine resC_agg Try.underlying25 agg_25 info_25 (setAt_same (lt_of_blk hq7)) (by rw [sz_25]; rfl) ?_
  exact h1 hal _ (Ext.seq ((hx2.trans hx25).trans hx7) (setAt_keep _ _ _ _ _) (fun j hj => by omega))
/-- An area's first bytes. -/
theorem bytes_spec {area n : Nat} (hd : RefAt w b d) (ok : hok each d.safe.length) (hws : d.ws.length ≤ 1000000) (ha : area ≤ 1) (hn : n ≤ each * 128) (hal : d.dead = false)
    (hK : ∀ w1, Ext w w1 → K (.string (str (hbytes d (2 + area * each) n))) w1) : CALL Try.prog 149 #[rhv b each, i64v (area : Int), i64v (n : Int)] w K := by
  obtain ⟨ok1, ok2, ok3, ok4⟩ := id ok
  have hae : area * each ≤ 1 * each := Nat.mul_le_mul_right _ ha
  have n128 := Dk.now_128 hd.1
  have nlen := Dk.now_length d
  apply call_ref20_Home_bytes
  unfold B_ref20_Home_bytes
  refine X_box ?_
  have hp := newB_get w (rhc b each).toArray 162
  have hxp := newB_ext w (rhc b each).toArray 162
  show loopS _ _ _ (newB w (rhc b each).toArray 162)
  generalize newB w (rhc b each).toArray 162 = w1 at hp hxp ⊢
  generalize w.heap.size = p at hp ⊢
  have hd1 := hd.ext hxp
  refine loopE (fun ρ wr => wr = w1 ∧ ∃ j : Nat, j ≤ each ∧ ρ 8 = .int .i64 (j : Int) ∧ ρ 7 = .string (str ((d.now.drop (2 + area * each)).take j).flatten) ∧ ρ 3 = ptr p ∧ ρ 2 = .int .i64 (n : Int) ∧ ρ 1 = .int .i64 (area : Int))
    (fun ρ wr => match ρ 8 with | .int _ s => (each + 1 - s).toNat | _ => 0)
    (fun ρ wr => wr = w1 ∧ ∃ j : Nat, j ≤ each ∧ n ≤ j * 128 ∧ ρ 7 = .string (str ((d.now.drop (2 + area * each)).take j).flatten) ∧ ρ 2 = .int .i64 (n : Int)) ?_ ?_ ?_
  · exact ⟨rfl, 0, Nat.zero_le _, rfl, rfl, rfl, rfl, rfl⟩
  · rintro J hJ ρ wr ⟨rfl, j, hj, r8, r7, r3, r2, r1⟩
    have hlj := flat_take_drop d.now n128 (2 + area * each) j (by omega)
    rw [r8, r7, r3, r2, r1]
    (repeat (simp only [XP_extract0, XP_extract1, XP_extract2, XP_extract3, X_extract0, X_extract1, X_extract2, X_extract3, X_nilS, X_eql_nil_74, X_neq_nil_74, X_eql_nil_124, X_neq_nil_124, X_eql, X_neq, X_lss, X_leq, X_gtr, X_geq, X_not, X_min, X_max, X_len_27, X_len_9, X_len_79, XP_nilS, XP_eql, XP_neq, XP_lss, XP_leq, XP_gtr, XP_geq, XP_not, XP_min, XP_max, XP_len_27, XP_len_9, XP_eql_nil_74, X_str_eql, X_str_neq, XP_str_eql, XP_str_neq, GS, gs_u, decide_true, decide_false, Option.isNone_some, Option.isSome_some, Option.isNone_none, Option.isSome_none, eq_self, Bool.not_true, Bool.not_false, Int.reduceEq, Int.reduceNe, Int.reduceLT, Int.reduceLE, Int.reduceGT, Int.reduceGE, X_field_162_1]))
    refine X_loadL agg_3 hp (v := .int .i64 (each : Int)) rfl ?_
    (repeat (simp only [XP_extract0, XP_extract1, XP_extract2, XP_extract3, X_extract0, X_extract1, X_extract2, X_extract3, X_nilS, X_eql_nil_74, X_neq_nil_74, X_eql_nil_124, X_neq_nil_124, X_eql, X_neq, X_lss, X_leq, X_gtr, X_geq, X_not, X_min, X_max, X_len_27, X_len_9, X_len_79, XP_nilS, XP_eql, XP_neq, XP_lss, XP_leq, XP_gtr, XP_geq, XP_not, XP_min, XP_max, XP_len_27, XP_len_9, XP_eql_nil_74, X_str_eql, X_str_neq, XP_str_eql, XP_str_neq, GS, gs_u, decide_true, decide_false, Option.isNone_some, Option.isSome_some, Option.isNone_none, Option.isSome_none, eq_self, Bool.not_true, Bool.not_false, Int.reduceEq, Int.reduceNe, Int.reduceLT, Int.reduceLE, Int.reduceGT, Int.reduceGE]))
    by_cases hje : j = each
    · have c : decide ((j : Int) < (each : Int)) = false := by simp; omega
      (repeat (simp only [XP_extract0, XP_extract1, XP_extract2, XP_extract3, X_extract0, X_extract1, X_extract2, X_extract3, X_nilS, X_eql_nil_74, X_neq_nil_74, X_eql_nil_124, X_neq_nil_124, X_eql, X_neq, X_lss, X_leq, X_gtr, X_geq, X_not, X_min, X_max, X_len_27, X_len_9, X_len_79, XP_nilS, XP_eql, XP_neq, XP_lss, XP_leq, XP_gtr, XP_geq, XP_not, XP_min, XP_max, XP_len_27, XP_len_9, XP_eql_nil_74, X_str_eql, X_str_neq, XP_str_eql, XP_str_neq, GS, gs_u, decide_true, decide_false, Option.isNone_some, Option.isSome_some, Option.isNone_none, Option.isSome_none, eq_self, Bool.not_true, Bool.not_false, Int.reduceEq, Int.reduceNe, Int.reduceLT, Int.reduceLE, Int.reduceGT, Int.reduceGE, c]))
      exact hJ _ _ ⟨rfl, j, hj, by omega, r7, r2⟩
    have c : decide ((j : Int) < (each : Int)) = true := by simp; omega
    (repeat (simp only [XP_extract0, XP_extract1, XP_extract2, XP_extract3, X_extract0, X_extract1, X_extract2, X_extract3, X_nilS, X_eql_nil_74, X_neq_nil_74, X_eql_nil_124, X_neq_nil_124, X_eql, X_neq, X_lss, X_leq, X_gtr, X_geq, X_not, X_min, X_max, X_len_27, X_len_9, X_len_79, XP_nilS, XP_eql, XP_neq, XP_lss, XP_leq, XP_gtr, XP_geq, XP_not, XP_min, XP_max, XP_len_27, XP_len_9, XP_eql_nil_74, X_str_eql, X_str_neq, XP_str_eql, XP_str_neq, GS, gs_u, decide_true, decide_false, Option.isNone_some, Option.isSome_some, Option.isNone_none, Option.isSome_none, eq_self, Bool.not_true, Bool.not_false, Int.reduceEq, Int.reduceNe, Int.reduceLT, Int.reduceLE, Int.reduceGT, Int.reduceGE, c, X_len_9, str_size]))
    rw [hlj]
    by_cases hlt : j * 128 < n
    case neg =>
      have c : decide (((j * 128 : Nat) : Int) < (n : Int)) = false := by simp; omega
      (repeat (simp only [XP_extract0, XP_extract1, XP_extract2, XP_extract3, X_extract0, X_extract1, X_extract2, X_extract3, X_nilS, X_eql_nil_74, X_neq_nil_74, X_eql_nil_124, X_neq_nil_124, X_eql, X_neq, X_lss, X_leq, X_gtr, X_geq, X_not, X_min, X_max, X_len_27, X_len_9, X_len_79, XP_nilS, XP_eql, XP_neq, XP_lss, XP_leq, XP_gtr, XP_geq, XP_not, XP_min, XP_max, XP_len_27, XP_len_9, XP_eql_nil_74, X_str_eql, X_str_neq, XP_str_eql, XP_str_neq, GS, gs_u, decide_true, decide_false, Option.isNone_some, Option.isSome_some, Option.isNone_none, Option.isSome_none, eq_self, Bool.not_true, Bool.not_false, Int.reduceEq, Int.reduceNe, Int.reduceLT, Int.reduceLE, Int.reduceGT, Int.reduceGE, c]))
      exact hJ _ _ ⟨rfl, j, hj, by omega, r7, r2⟩
    have c : decide (((j * 128 : Nat) : Int) < (n : Int)) = true := by simp; omega
    (repeat (simp only [XP_extract0, XP_extract1, XP_extract2, XP_extract3, X_extract0, X_extract1, X_extract2, X_extract3, X_nilS, X_eql_nil_74, X_neq_nil_74, X_eql_nil_124, X_neq_nil_124, X_eql, X_neq, X_lss, X_leq, X_gtr, X_geq, X_not, X_min, X_max, X_len_27, X_len_9, X_len_79, XP_nilS, XP_eql, XP_neq, XP_lss, XP_leq, XP_gtr, XP_geq, XP_not, XP_min, XP_max, XP_len_27, XP_len_9, XP_eql_nil_74, X_str_eql, X_str_neq, XP_str_eql, XP_str_neq, GS, gs_u, decide_true, decide_false, Option.isNone_some, Option.isSome_some, Option.isNone_none, Option.isSome_none, eq_self, Bool.not_true, Bool.not_false, Int.reduceEq, Int.reduceNe, Int.reduceLT, Int.reduceLE, Int.reduceGT, Int.reduceGE, c, X_field_162_0]))
    refine X_loadL agg_92 hp (v := ptr b) rfl ?_
    (repeat (simp only [XP_extract0, XP_extract1, XP_extract2, XP_extract3, X_extract0, X_extract1, X_extract2, X_extract3, X_nilS, X_eql_nil_74, X_neq_nil_74, X_eql_nil_124, X_neq_nil_124, X_eql, X_neq, X_lss, X_leq, X_gtr, X_geq, X_not, X_min, X_max, X_len_27, X_len_9, X_len_79, XP_nilS, XP_eql, XP_neq, XP_lss, XP_leq, XP_gtr, XP_geq, XP_not, XP_min, XP_max, XP_len_27, XP_len_9, XP_eql_nil_74, X_str_eql, X_str_neq, XP_str_eql, XP_str_neq, GS, gs_u, decide_true, decide_false, Option.isNone_some, Option.isSome_some, Option.isNone_none, Option.isSome_none, eq_self, Bool.not_true, Bool.not_false, Int.reduceEq, Int.reduceNe, Int.reduceLT, Int.reduceLE, Int.reduceGT, Int.reduceGE, X_field_162_1]))
    refine X_loadL agg_3 hp (v := .int .i64 (each : Int)) rfl ?_
    have em : ((area : Nat) : Int) * (each : Int) = ((area * each : Nat) : Int) := (Int.natCast_mul _ _).symm
    rw [X_mul, em, w64 (by omega) (by omega), X_add, w64 (by omega) (by omega), X_add, w64 (by omega) (by omega)]
    have eto : 2 + ((area * each : Nat) : Int) + (j : Int) = ((2 + area * each + j : Nat) : Int) := by omega
    rw [eto]
    refine RRead_spec hd1 hws ?_
    rw [read_at (d := d) (i := 2 + area * each + j) (by omega), if_neg (by rw [hal]; decide)]
    (repeat (simp only [XP_extract0, XP_extract1, XP_extract2, XP_extract3, X_extract0, X_extract1, X_extract2, X_extract3, X_nilS, X_eql_nil_74, X_neq_nil_74, X_eql_nil_124, X_neq_nil_124, X_eql, X_neq, X_lss, X_leq, X_gtr, X_geq, X_not, X_min, X_max, X_len_27, X_len_9, X_len_79, XP_nilS, XP_eql, XP_neq, XP_lss, XP_leq, XP_gtr, XP_geq, XP_not, XP_min, XP_max, XP_len_27, XP_len_9, XP_eql_nil_74, X_str_eql, X_str_neq, XP_str_eql, XP_str_neq, GS, gs_u, decide_true, decide_false, Option.isNone_some, Option.isSome_some, Option.isNone_none, Option.isSome_none, eq_self, Bool.not_true, Bool.not_false, Int.reduceEq, Int.reduceNe, Int.reduceLT, Int.reduceLE, Int.reduceGT, Int.reduceGE]))
    have hnl5 := getD_128 hd.1 (i := 2 + area * each + j) (by omega)
    refine X_of (run_string_add 9 _ _ (by rw [str_size, str_size]; omega) _) ?_
    rw [str_append, X_add, w64 (by omega) (by omega)]
    have es := flat_succ d.now (2 + area * each) j (by omega)
    show _ ∧ _
    refine ⟨⟨rfl, j + 1, by omega, rfl, ?_, r3, r2, r1⟩, ?_⟩
    · rw [es]; rfl
    · show ((each : Int) + 1 - ((j : Int) + 1)).toNat < _
      first | omega | (show _ < (_ : Int).toNat; omega)
  · rintro ρ wr ⟨rfl, j, hj, hnj, r7, r2⟩
    have hlj := flat_take_drop d.now n128 (2 + area * each) j (by omega)
    rw [r7, r2]
    refine X_of (run_cutstr0 Try.underlying9 _ .i64 n (by omega) _) ?_
    rw [hbytes_of hd.1 hnj (by omega)]
    exact hK _ hxp
end
end Go.Proofs.Ytggggfcgnkllgaa
end
section
/- cellarageref20's home: Load, Save. -/
set_option linter.unusedSimpArgs false
set_option linter.unusedVariables false
namespace Go.Proofs.Ytggggfcgnkllgaa
open Go Go.Sh Go.RowKit
attribute [local irreducible] X XU XP XR CALL loopS resC closS
section
variable {w : World} {b each : Nat} {d : Dk} {K : Value → World → Prop}
set_option maxHeartbeats 1000000 in
theorem RHLoad_spec (hd : RefAt w b d) (ok : hok each d.safe.length) (hws : d.ws.length ≤ 1000000)
    (hK : ∀ w1, Ext w w1 → K (.tuple #[.string (str (hload each d).bs), .int .u64 ((hload each d).s.gen : Int), i64v (hload each d).err]) w1) : CALL Try.prog 123 #[rhv b each] w K := by
  obtain ⟨ok1, ok2, ok3, ok4⟩ := id ok
  have e0 : decide ((0 : Int) ≠ 0) = false := by decide
  have e6 : decide ((6 : Int) ≠ 0) = true := by decide
  apply call_ref20_Home_Load
  unfold B_ref20_Home_Load
  refine X_box ?_
  have hp := newB_get w (rhc b each).toArray 162
  have hxp := newB_ext w (rhc b each).toArray 162
  show X _ _ (newB w (rhc b each).toArray 162) _
  generalize newB w (rhc b each).toArray 162 = w1 at hp hxp ⊢
  generalize w.heap.size = p at hp ⊢
  refine X_loadAgg Try.underlying162 agg_162 info_162 hp (by rw [sz_162]; rfl) ?_
  have hd1 := hd.ext hxp
  refine newer_spec hd1 ok hws ?_ ?_
  · intro hdead w2 hx2
    (repeat (simp only [XP_extract0, XP_extract1, XP_extract2, XP_extract3, X_extract0, X_extract1, X_extract2, X_extract3, X_nilS, X_eql_nil_74, X_neq_nil_74, X_eql_nil_124, X_neq_nil_124, X_eql, X_neq, X_lss, X_leq, X_gtr, X_geq, X_not, X_min, X_max, X_len_27, X_len_9, X_len_79, XP_nilS, XP_eql, XP_neq, XP_lss, XP_leq, XP_gtr, XP_geq, XP_not, XP_min, XP_max, XP_len_27, XP_len_9, XP_eql_nil_74, X_str_eql, X_str_neq, XP_str_eql, XP_str_neq, GS, gs_u, decide_true, decide_false, Option.isNone_some, Option.isSome_some, Option.isNone_none, Option.isSome_none, eq_self, Bool.not_true, Bool.not_false, Int.reduceEq, Int.reduceNe, Int.reduceLT, Int.reduceLE, Int.reduceGT, Int.reduceGE]))
    refine X_alloc zero_25 ?_
    have hq := newB_get w2 nilSl.cs.toArray 25
    have hxq := newB_ext w2 nilSl.cs.toArray 25
    show XU _ _ (newB w2 nilSl.cs.toArray 25) _
    generalize newB w2 nilSl.cs.toArray 25 = w3 at hq hxq ⊢
    refine XU_storeAgg (l := nilSl.cs) info_25 hq (by rw [sz_25]; rfl) (by rw [sz_25]; rfl) (Sl.one _) ?_
    have e : hload each d = ⟨[], nilSl, 0, 6⟩ := by unfold hload; rw [if_pos hdead]
    (repeat (simp only [XP_extract0, XP_extract1, XP_extract2, XP_extract3, X_extract0, X_extract1, X_extract2, X_extract3, X_nilS, X_eql_nil_74, X_neq_nil_74, X_eql_nil_124, X_neq_nil_124, X_eql, X_neq, X_lss, X_leq, X_gtr, X_geq, X_not, X_min, X_max, X_len_27, X_len_9, X_len_79, XP_nilS, XP_eql, XP_neq, XP_lss, XP_leq, XP_gtr, XP_geq, XP_not, XP_min, XP_max, XP_len_27, XP_len_9, XP_eql_nil_74, X_str_eql, X_str_neq, XP_str_eql, XP_str_neq, GS, gs_u, decide_true, decide_false, Option.isNone_some, Option.isSome_some, Option.isNone_none, Option.isSome_none, eq_self, Bool.not_true, Bool.not_false, Int.reduceEq, Int.reduceNe, Int.reduceLT, Int.reduceLE, Int.reduceGT, Int.reduceGE, e6]))
    have := hK (setAt w3 w2.heap.size nilSl.cs.toArray 25 (0, 0)) ((hxp.trans hx2).trans (Ext.seq hxq (setAt_keep _ _ _ _ _) (fun j hj => by omega)))
    rw [e] at this
    exact this
  intro hal w2 hx2
  have hdead : ¬ d.dead = true := by rw [hal]; decide
  have hNok := newerP_ok (d.now.getD 0 []) (d.now.getD 1 [])
  rw [show newerP (d.now.getD 0 []) (d.now.getD 1 []) = hnewer d from rfl] at hNok
  generalize hN : hnewer d = N at hNok ⊢
  obtain ⟨hg1, hg2, hg3, hg4⟩ := id hNok
  (repeat (simp only [XP_extract0, XP_extract1, XP_extract2, XP_extract3, X_extract0, X_extract1, X_extract2, X_extract3, X_nilS, X_eql_nil_74, X_neq_nil_74, X_eql_nil_124, X_neq_nil_124, X_eql, X_neq, X_lss, X_leq, X_gtr, X_geq, X_not, X_min, X_max, X_len_27, X_len_9, X_len_79, XP_nilS, XP_eql, XP_neq, XP_lss, XP_leq, XP_gtr, XP_geq, XP_not, XP_min, XP_max, XP_len_27, XP_len_9, XP_eql_nil_74, X_str_eql, X_str_neq, XP_str_eql, XP_str_neq, GS, gs_u, decide_true, decide_false, Option.isNone_some, Option.isSome_some, Option.isNone_none, Option.isSome_none, eq_self, Bool.not_true, Bool.not_false, Int.reduceEq, Int.reduceNe, Int.reduceLT, Int.reduceLE, Int.reduceGT, Int.reduceGE]))
  refine X_alloc zero_25 ?_
  have hq := newB_get w2 nilSl.cs.toArray 25
  have hxq := newB_ext w2 nilSl.cs.toArray 25
  show XU _ _ (newB w2 nilSl.cs.toArray 25) _
  generalize newB w2 nilSl.cs.toArray 25 = w3 at hq hxq ⊢
  refine XU_storeAgg (l := N.1.cs) info_25 hq (by rw [sz_25]; rfl) (by rw [sz_25]; rfl) (Sl.one _) ?_
  have hq4 := setAt_same (cs := N.1.cs.toArray) (T := 25) (fr := (0, 0)) (lt_of_blk hq)
  have hx4 : Ext w1 (setAt w3 w2.heap.size N.1.cs.toArray 25 (0, 0)) := hx2.trans (Ext.seq hxq (setAt_keep _ _ _ _ _) (fun j hj => by omega))
  generalize setAt w3 w2.heap.size N.1.cs.toArray 25 (0, 0) = w4 at hq4 hx4 ⊢
  generalize w2.heap.size = q at hq4 ⊢
  have hp4 := hx4.get hp
  have hx04 : Ext w w4 := hxp.trans hx4
  have none_ : ∀ (e : Int) (wr : World), Ext w wr → hload each d = ⟨[], nilSl, 0, e⟩ → K (.tuple #[.string { data := #[] }, .int .u64 0, .int .i64 e]) wr := by
    intro e wr hxr heq
    have := hK wr hxr
    rw [heq] at this
    exact this
  (repeat (simp only [XP_extract0, XP_extract1, XP_extract2, XP_extract3, X_extract0, X_extract1, X_extract2, X_extract3, X_nilS, X_eql_nil_74, X_neq_nil_74, X_eql_nil_124, X_neq_nil_124, X_eql, X_neq, X_lss, X_leq, X_gtr, X_geq, X_not, X_min, X_max, X_len_27, X_len_9, X_len_79, XP_nilS, XP_eql, XP_neq, XP_lss, XP_leq, XP_gtr, XP_geq, XP_not, XP_min, XP_max, XP_len_27, XP_len_9, XP_eql_nil_74, X_str_eql, X_str_neq, XP_str_eql, XP_str_neq, GS, gs_u, decide_true, decide_false, Option.isNone_some, Option.isSome_some, Option.isNone_none, Option.isSome_none, eq_self, Bool.not_true, Bool.not_false, Int.reduceEq, Int.reduceNe, Int.reduceLT, Int.reduceLE, Int.reduceGT, Int.reduceGE, e0]))
  by_cases c7 : N.2.2 = 0
  case neg =>
    have c : decide (N.2.2 = 0) = false := by simpa using c7
    (repeat (simp only [XP_extract0, XP_extract1, XP_extract2, XP_extract3, X_extract0, X_extract1, X_extract2, X_extract3, X_nilS, X_eql_nil_74, X_neq_nil_74, X_eql_nil_124, X_neq_nil_124, X_eql, X_neq, X_lss, X_leq, X_gtr, X_geq, X_not, X_min, X_max, X_len_27, X_len_9, X_len_79, XP_nilS, XP_eql, XP_neq, XP_lss, XP_leq, XP_gtr, XP_geq, XP_not, XP_min, XP_max, XP_len_27, XP_len_9, XP_eql_nil_74, X_str_eql, X_str_neq, XP_str_eql, XP_str_neq, GS, gs_u, decide_true, decide_false, Option.isNone_some, Option.isSome_some, Option.isNone_none, Option.isSome_none, eq_self, Bool.not_true, Bool.not_false, Int.reduceEq, Int.reduceNe, Int.reduceLT, Int.reduceLE, Int.reduceGT, Int.reduceGE, c]))
    exact none_ 0 w4 hx04 (by unfold hload; rw [if_neg hdead, if_pos (by rw [hN]; exact c7)])
  have n7 : ¬ (hnewer d).2.2 ≠ 0 := by rw [hN]; simpa using c7
  have c : decide (N.2.2 = 0) = true := by simp [c7]
  (repeat (simp only [XP_extract0, XP_extract1, XP_extract2, XP_extract3, X_extract0, X_extract1, X_extract2, X_extract3, X_nilS, X_eql_nil_74, X_neq_nil_74, X_eql_nil_124, X_neq_nil_124, X_eql, X_neq, X_lss, X_leq, X_gtr, X_geq, X_not, X_min, X_max, X_len_27, X_len_9, X_len_79, XP_nilS, XP_eql, XP_neq, XP_lss, XP_leq, XP_gtr, XP_geq, XP_not, XP_min, XP_max, XP_len_27, XP_len_9, XP_eql_nil_74, X_str_eql, X_str_neq, XP_str_eql, XP_str_neq, GS, gs_u, decide_true, decide_false, Option.isNone_some, Option.isSome_some, Option.isNone_none, Option.isSome_none, eq_self, Bool.not_true, Bool.not_false, Int.reduceEq, Int.reduceNe, Int.reduceLT, Int.reduceLE, Int.reduceGT, Int.reduceGE, c, X_field_25_1]))
  refine X_loadL agg_5 hq4 (v := .int .u8 (N.1.area : Int)) rfl ?_
  (repeat (simp only [XP_extract0, XP_extract1, XP_extract2, XP_extract3, X_extract0, X_extract1, X_extract2, X_extract3, X_nilS, X_eql_nil_74, X_neq_nil_74, X_eql_nil_124, X_neq_nil_124, X_eql, X_neq, X_lss, X_leq, X_gtr, X_geq, X_not, X_min, X_max, X_len_27, X_len_9, X_len_79, XP_nilS, XP_eql, XP_neq, XP_lss, XP_leq, XP_gtr, XP_geq, XP_not, XP_min, XP_max, XP_len_27, XP_len_9, XP_eql_nil_74, X_str_eql, X_str_neq, XP_str_eql, XP_str_neq, GS, gs_u, decide_true, decide_false, Option.isNone_some, Option.isSome_some, Option.isNone_none, Option.isSome_none, eq_self, Bool.not_true, Bool.not_false, Int.reduceEq, Int.reduceNe, Int.reduceLT, Int.reduceLE, Int.reduceGT, Int.reduceGE]))
  by_cases c1 : 1 < N.1.area
  · have c : decide ((N.1.area : Int) > 1) = true := by simp; omega
    (repeat (simp only [XP_extract0, XP_extract1, XP_extract2, XP_extract3, X_extract0, X_extract1, X_extract2, X_extract3, X_nilS, X_eql_nil_74, X_neq_nil_74, X_eql_nil_124, X_neq_nil_124, X_eql, X_neq, X_lss, X_leq, X_gtr, X_geq, X_not, X_min, X_max, X_len_27, X_len_9, X_len_79, XP_nilS, XP_eql, XP_neq, XP_lss, XP_leq, XP_gtr, XP_geq, XP_not, XP_min, XP_max, XP_len_27, XP_len_9, XP_eql_nil_74, X_str_eql, X_str_neq, XP_str_eql, XP_str_neq, GS, gs_u, decide_true, decide_false, Option.isNone_some, Option.isSome_some, Option.isNone_none, Option.isSome_none, eq_self, Bool.not_true, Bool.not_false, Int.reduceEq, Int.reduceNe, Int.reduceLT, Int.reduceLE, Int.reduceGT, Int.reduceGE, c]))
    exact none_ 200 w4 hx04 (by unfold hload; rw [if_neg hdead, if_neg n7, hN, if_pos (.inl c1)])
  have c : decide ((N.1.area : Int) > 1) = false := by simp; omega
  (repeat (simp only [XP_extract0, XP_extract1, XP_extract2, XP_extract3, X_extract0, X_extract1, X_extract2, X_extract3, X_nilS, X_eql_nil_74, X_neq_nil_74, X_eql_nil_124, X_neq_nil_124, X_eql, X_neq, X_lss, X_leq, X_gtr, X_geq, X_not, X_min, X_max, X_len_27, X_len_9, X_len_79, XP_nilS, XP_eql, XP_neq, XP_lss, XP_leq, XP_gtr, XP_geq, XP_not, XP_min, XP_max, XP_len_27, XP_len_9, XP_eql_nil_74, X_str_eql, X_str_neq, XP_str_eql, XP_str_neq, GS, gs_u, decide_true, decide_false, Option.isNone_some, Option.isSome_some, Option.isNone_none, Option.isSome_none, eq_self, Bool.not_true, Bool.not_false, Int.reduceEq, Int.reduceNe, Int.reduceLT, Int.reduceLE, Int.reduceGT, Int.reduceGE, c, X_field_25_2]))
  refine X_loadL agg_23 hq4 (v := .int .u32 (N.1.size : Int)) rfl ?_
  rw [X_conv_23_22, w64u (by omega)]
  (repeat (simp only [XP_extract0, XP_extract1, XP_extract2, XP_extract3, X_extract0, X_extract1, X_extract2, X_extract3, X_nilS, X_eql_nil_74, X_neq_nil_74, X_eql_nil_124, X_neq_nil_124, X_eql, X_neq, X_lss, X_leq, X_gtr, X_geq, X_not, X_min, X_max, X_len_27, X_len_9, X_len_79, XP_nilS, XP_eql, XP_neq, XP_lss, XP_leq, XP_gtr, XP_geq, XP_not, XP_min, XP_max, XP_len_27, XP_len_9, XP_eql_nil_74, X_str_eql, X_str_neq, XP_str_eql, XP_str_neq, GS, gs_u, decide_true, decide_false, Option.isNone_some, Option.isSome_some, Option.isNone_none, Option.isSome_none, eq_self, Bool.not_true, Bool.not_false, Int.reduceEq, Int.reduceNe, Int.reduceLT, Int.reduceLE, Int.reduceGT, Int.reduceGE, X_field_162_1]))
  refine X_loadL agg_3 hp4 (v := .int .i64 (each : Int)) rfl ?_
  have em : 128 * (each : Int) = ((each * 128 : Nat) : Int) := by omega
  rw [X_mul, em, w64 (by omega) (by omega)]
  (repeat (simp only [XP_extract0, XP_extract1, XP_extract2, XP_extract3, X_extract0, X_extract1, X_extract2, X_extract3, X_nilS, X_eql_nil_74, X_neq_nil_74, X_eql_nil_124, X_neq_nil_124, X_eql, X_neq, X_lss, X_leq, X_gtr, X_geq, X_not, X_min, X_max, X_len_27, X_len_9, X_len_79, XP_nilS, XP_eql, XP_neq, XP_lss, XP_leq, XP_gtr, XP_geq, XP_not, XP_min, XP_max, XP_len_27, XP_len_9, XP_eql_nil_74, X_str_eql, X_str_neq, XP_str_eql, XP_str_neq, GS, gs_u, decide_true, decide_false, Option.isNone_some, Option.isSome_some, Option.isNone_none, Option.isSome_none, eq_self, Bool.not_true, Bool.not_false, Int.reduceEq, Int.reduceNe, Int.reduceLT, Int.reduceLE, Int.reduceGT, Int.reduceGE]))
  rw [X_conv_3_22, w64u (by omega)]
  (repeat (simp only [XP_extract0, XP_extract1, XP_extract2, XP_extract3, X_extract0, X_extract1, X_extract2, X_extract3, X_nilS, X_eql_nil_74, X_neq_nil_74, X_eql_nil_124, X_neq_nil_124, X_eql, X_neq, X_lss, X_leq, X_gtr, X_geq, X_not, X_min, X_max, X_len_27, X_len_9, X_len_79, XP_nilS, XP_eql, XP_neq, XP_lss, XP_leq, XP_gtr, XP_geq, XP_not, XP_min, XP_max, XP_len_27, XP_len_9, XP_eql_nil_74, X_str_eql, X_str_neq, XP_str_eql, XP_str_neq, GS, gs_u, decide_true, decide_false, Option.isNone_some, Option.isSome_some, Option.isNone_none, Option.isSome_none, eq_self, Bool.not_true, Bool.not_false, Int.reduceEq, Int.reduceNe, Int.reduceLT, Int.reduceLE, Int.reduceGT, Int.reduceGE]))
  by_cases c2 : each * 128 < N.1.size
  · have c : decide ((N.1.size : Int) > ((each * 128 : Nat) : Int)) = true := by simp; omega
    (repeat (simp only [XP_extract0, XP_extract1, XP_extract2, XP_extract3, X_extract0, X_extract1, X_extract2, X_extract3, X_nilS, X_eql_nil_74, X_neq_nil_74, X_eql_nil_124, X_neq_nil_124, X_eql, X_neq, X_lss, X_leq, X_gtr, X_geq, X_not, X_min, X_max, X_len_27, X_len_9, X_len_79, XP_nilS, XP_eql, XP_neq, XP_lss, XP_leq, XP_gtr, XP_geq, XP_not, XP_min, XP_max, XP_len_27, XP_len_9, XP_eql_nil_74, X_str_eql, X_str_neq, XP_str_eql, XP_str_neq, GS, gs_u, decide_true, decide_false, Option.isNone_some, Option.isSome_some, Option.isNone_none, Option.isSome_none, eq_self, Bool.not_true, Bool.not_false, Int.reduceEq, Int.reduceNe, Int.reduceLT, Int.reduceLE, Int.reduceGT, Int.reduceGE, c]))
    exact none_ 200 w4 hx04 (by unfold hload; rw [if_neg hdead, if_neg n7, hN, if_pos (.inr c2)])
  have c : decide ((N.1.size : Int) > ((each * 128 : Nat) : Int)) = false := by simp; omega
  (repeat (simp only [XP_extract0, XP_extract1, XP_extract2, XP_extract3, X_extract0, X_extract1, X_extract2, X_extract3, X_nilS, X_eql_nil_74, X_neq_nil_74, X_eql_nil_124, X_neq_nil_124, X_eql, X_neq, X_lss, X_leq, X_gtr, X_geq, X_not, X_min, X_max, X_len_27, X_len_9, X_len_79, XP_nilS, XP_eql, XP_neq, XP_lss, XP_leq, XP_gtr, XP_geq, XP_not, XP_min, XP_max, XP_len_27, XP_len_9, XP_eql_nil_74, X_str_eql, X_str_neq, XP_str_eql, XP_str_neq, GS, gs_u, decide_true, decide_false, Option.isNone_some, Option.isSome_some, Option.isNone_none, Option.isSome_none, eq_self, Bool.not_true, Bool.not_false, Int.reduceEq, Int.reduceNe, Int.reduceLT, Int.reduceLE, Int.reduceGT, Int.reduceGE, c]))
  refine X_loadAgg Try.underlying162 agg_162 info_162 hp4 (by rw [sz_162]; rfl) ?_
  (repeat (simp only [XP_extract0, XP_extract1, XP_extract2, XP_extract3, X_extract0, X_extract1, X_extract2, X_extract3, X_nilS, X_eql_nil_74, X_neq_nil_74, X_eql_nil_124, X_neq_nil_124, X_eql, X_neq, X_lss, X_leq, X_gtr, X_geq, X_not, X_min, X_max, X_len_27, X_len_9, X_len_79, XP_nilS, XP_eql, XP_neq, XP_lss, XP_leq, XP_gtr, XP_geq, XP_not, XP_min, XP_max, XP_len_27, XP_len_9, XP_eql_nil_74, X_str_eql, X_str_neq, XP_str_eql, XP_str_neq, GS, gs_u, decide_true, decide_false, Option.isNone_some, Option.isSome_some, Option.isNone_none, Option.isSome_none, eq_self, Bool.not_true, Bool.not_false, Int.reduceEq, Int.reduceNe, Int.reduceLT, Int.reduceLE, Int.reduceGT, Int.reduceGE, X_field_25_1]))
  refine X_loadL agg_5 hq4 (v := .int .u8 (N.1.area : Int)) rfl ?_
  rw [X_conv_5_3, w64 (by omega) (by omega)]
  (repeat (simp only [XP_extract0, XP_extract1, XP_extract2, XP_extract3, X_extract0, X_extract1, X_extract2, X_extract3, X_nilS, X_eql_nil_74, X_neq_nil_74, X_eql_nil_124, X_neq_nil_124, X_eql, X_neq, X_lss, X_leq, X_gtr, X_geq, X_not, X_min, X_max, X_len_27, X_len_9, X_len_79, XP_nilS, XP_eql, XP_neq, XP_lss, XP_leq, XP_gtr, XP_geq, XP_not, XP_min, XP_max, XP_len_27, XP_len_9, XP_eql_nil_74, X_str_eql, X_str_neq, XP_str_eql, XP_str_neq, GS, gs_u, decide_true, decide_false, Option.isNone_some, Option.isSome_some, Option.isNone_none, Option.isSome_none, eq_self, Bool.not_true, Bool.not_false, Int.reduceEq, Int.reduceNe, Int.reduceLT, Int.reduceLE, Int.reduceGT, Int.reduceGE, X_field_25_2]))
  refine X_loadL agg_23 hq4 (v := .int .u32 (N.1.size : Int)) rfl ?_
  rw [X_conv_23_3, w64 (by omega) (by omega)]
  refine bytes_spec (hd1.ext hx4) ok hws (by omega) (by omega) hal ?_
  intro w5 hx5
  obtain ⟨B, hB⟩ : ∃ B, B = hbytes d (2 + N.1.area * each) N.1.size := ⟨_, rfl⟩
  rw [← hB]
  have hBl : B.length = N.1.size := by
    have hae : N.1.area * each ≤ 1 * each := Nat.mul_le_mul_right _ (by omega)
    rw [hB]; exact hbytes_len hd.1 (j := each) (by omega) (by omega)
  refine ⟨Ext, Ext.frame, ?_⟩
  have hq5 : (drewW w5).heap[q]? = some (.cells N.1.cs.toArray 25 (0, 0)) := hx5.get hq4
  have hx05 := (hx04.trans hx5).trans (Keep.drew (fun _ => False) w5)
  generalize drewW w5 = w6 at hq5 hx05 ⊢
  rw [XP_field_25_3]
  refine XR_loadL agg_23 hq5 (v := .int .u32 (N.1.sum : Int)) rfl ?_
  refine X_bytes Try.underlying9 Try.underlying27 Try.underlying5 (by omega) ?_
  intro v7 w7 hx7 hb7 _
  refine ⟨hx7, ?_⟩
  refine RMore_spec (c := 0#32) hb7 ?_
  refine ⟨Keep.refl _ _, ?_⟩
  have hq7 := hx7.get hq5
  have ecrc : more 0#32 B = crc B := rfl
  rw [ecrc]
  unfold U32
  (repeat (simp only [XP_extract0, XP_extract1, XP_extract2, XP_extract3, X_extract0, X_extract1, X_extract2, X_extract3, X_nilS, X_eql_nil_74, X_neq_nil_74, X_eql_nil_124, X_neq_nil_124, X_eql, X_neq, X_lss, X_leq, X_gtr, X_geq, X_not, X_min, X_max, X_len_27, X_len_9, X_len_79, XP_nilS, XP_eql, XP_neq, XP_lss, XP_leq, XP_gtr, XP_geq, XP_not, XP_min, XP_max, XP_len_27, XP_len_9, XP_eql_nil_74, X_str_eql, X_str_neq, XP_str_eql, XP_str_neq, GS, gs_u, decide_true, decide_false, Option.isNone_some, Option.isSome_some, Option.isNone_none, Option.isSome_none, eq_self, Bool.not_true, Bool.not_false, Int.reduceEq, Int.reduceNe, Int.reduceLT, Int.reduceLE, Int.reduceGT, Int.reduceGE]))
  by_cases c4 : (crc B).toNat = N.1.sum
  case neg =>
    have c : decide (((crc B).toNat : Int) ≠ (N.1.sum : Int)) = true := by simp; omega
    (repeat (simp only [XP_extract0, XP_extract1, XP_extract2, XP_extract3, X_extract0, X_extract1, X_extract2, X_extract3, X_nilS, X_eql_nil_74, X_neq_nil_74, X_eql_nil_124, X_neq_nil_124, X_eql, X_neq, X_lss, X_leq, X_gtr, X_geq, X_not, X_min, X_max, X_len_27, X_len_9, X_len_79, XP_nilS, XP_eql, XP_neq, XP_lss, XP_leq, XP_gtr, XP_geq, XP_not, XP_min, XP_max, XP_len_27, XP_len_9, XP_eql_nil_74, X_str_eql, X_str_neq, XP_str_eql, XP_str_neq, GS, gs_u, decide_true, decide_false, Option.isNone_some, Option.isSome_some, Option.isNone_none, Option.isSome_none, eq_self, Bool.not_true, Bool.not_false, Int.reduceEq, Int.reduceNe, Int.reduceLT, Int.reduceLE, Int.reduceGT, Int.reduceGE, c]))
    exact none_ 200 w7 (hx05.trans hx7) (by unfold hload; rw [if_neg hdead, if_neg n7, hN, if_neg (by omega), if_pos (by rw [← hB]; exact c4)])
  have c : decide (((crc B).toNat : Int) ≠ (N.1.sum : Int)) = false := by simp; omega
  (repeat (simp only [XP_extract0, XP_extract1, XP_extract2, XP_extract3, X_extract0, X_extract1, X_extract2, X_extract3, X_nilS, X_eql_nil_74, X_neq_nil_74, X_eql_nil_124, X_neq_nil_124, X_eql, X_neq, X_lss, X_leq, X_gtr, X_geq, X_not, X_min, X_max, X_len_27, X_len_9, X_len_79, XP_nilS, XP_eql, XP_neq, XP_lss, XP_leq, XP_gtr, XP_geq, XP_not, XP_min, XP_max, XP_len_27, XP_len_9, XP_eql_nil_74, X_str_eql, X_str_neq, XP_str_eql, XP_str_neq, GS, gs_u, decide_true, decide_false, Option.isNone_some, Option.isSome_some, Option.isNone_none, Option.isSome_none, eq_self, Bool.not_true, Bool.not_false, Int.reduceEq, Int.reduceNe, Int.reduceLT, Int.reduceLE, Int.reduceGT, Int.reduceGE, c]))
  refine ⟨Ext, Ext.frame, ?_⟩
  have hq8 : (drewW w7).heap[q]? = some (.cells N.1.cs.toArray 25 (0, 0)) := hq7
  rw [XP_field_25_0]
  refine XR_loadL agg_22 hq8 (v := .int .u64 (N.1.gen : Int)) rfl ?_
  have heq : hload each d = ⟨B, N.1, N.2.1, 0⟩ := by
    unfold hload
    rw [if_neg hdead, if_neg n7, hN, if_neg (by omega), ← hB, if_neg (by simpa using c4)]
  have := hK (drewW w7) ((hx05.trans hx7).trans (Keep.drew _ _))
  rw [heq] at this
  exact this
set_option maxHeartbeats 1000000 in
theorem RHSave_spec {bs : List UInt8} (hd : RefAt w b d) (ok : hok each d.safe.length) (hws : d.ws.length ≤ 800000)
    (hK : ∀ w1, RefAt w1 b (hsave each d bs).1 → Step b w w1 → K (i64v (hsave each d bs).2) w1) : CALL Try.prog 122 #[rhv b each, .string (str bs)] w K := by
  obtain ⟨ok1, ok2, ok3, ok4⟩ := id ok
  have e0 : decide ((0 : Int) ≠ 0) = false := by decide
  have hb_lt := hd.lt b (foot_self _ _)
  apply call_ref20_Home_Save
  unfold B_ref20_Home_Save
  refine X_box ?_
  have hp := newB_get w (rhc b each).toArray 162
  have hxp := newB_ext w (rhc b each).toArray 162
  show X _ _ (newB w (rhc b each).toArray 162) _
  generalize newB w (rhc b each).toArray 162 = w1 at hp hxp ⊢
  generalize w.heap.size = p at hp ⊢
  have hd1 := hd.ext hxp
  (repeat (simp only [XP_extract0, XP_extract1, XP_extract2, XP_extract3, X_extract0, X_extract1, X_extract2, X_extract3, X_nilS, X_eql_nil_74, X_neq_nil_74, X_eql_nil_124, X_neq_nil_124, X_eql, X_neq, X_lss, X_leq, X_gtr, X_geq, X_not, X_min, X_max, X_len_27, X_len_9, X_len_79, XP_nilS, XP_eql, XP_neq, XP_lss, XP_leq, XP_gtr, XP_geq, XP_not, XP_min, XP_max, XP_len_27, XP_len_9, XP_eql_nil_74, X_str_eql, X_str_neq, XP_str_eql, XP_str_neq, GS, gs_u, decide_true, decide_false, Option.isNone_some, Option.isSome_some, Option.isNone_none, Option.isSome_none, eq_self, Bool.not_true, Bool.not_false, Int.reduceEq, Int.reduceNe, Int.reduceLT, Int.reduceLE, Int.reduceGT, Int.reduceGE, X_len_9, str_size, X_field_162_1]))
  refine X_loadL agg_3 hp (v := .int .i64 (each : Int)) rfl ?_
  have em : 128 * (each : Int) = ((each * 128 : Nat) : Int) := by omega
  rw [X_mul, em, w64 (by omega) (by omega)]
  (repeat (simp only [XP_extract0, XP_extract1, XP_extract2, XP_extract3, X_extract0, X_extract1, X_extract2, X_extract3, X_nilS, X_eql_nil_74, X_neq_nil_74, X_eql_nil_124, X_neq_nil_124, X_eql, X_neq, X_lss, X_leq, X_gtr, X_geq, X_not, X_min, X_max, X_len_27, X_len_9, X_len_79, XP_nilS, XP_eql, XP_neq, XP_lss, XP_leq, XP_gtr, XP_geq, XP_not, XP_min, XP_max, XP_len_27, XP_len_9, XP_eql_nil_74, X_str_eql, X_str_neq, XP_str_eql, XP_str_neq, GS, gs_u, decide_true, decide_false, Option.isNone_some, Option.isSome_some, Option.isNone_none, Option.isSome_none, eq_self, Bool.not_true, Bool.not_false, Int.reduceEq, Int.reduceNe, Int.reduceLT, Int.reduceLE, Int.reduceGT, Int.reduceGE]))
  by_cases hroom : each * 128 < bs.length
  · have c : decide ((bs.length : Int) > ((each * 128 : Nat) : Int)) = true := by simp; omega
    (repeat (simp only [XP_extract0, XP_extract1, XP_extract2, XP_extract3, X_extract0, X_extract1, X_extract2, X_extract3, X_nilS, X_eql_nil_74, X_neq_nil_74, X_eql_nil_124, X_neq_nil_124, X_eql, X_neq, X_lss, X_leq, X_gtr, X_geq, X_not, X_min, X_max, X_len_27, X_len_9, X_len_79, XP_nilS, XP_eql, XP_neq, XP_lss, XP_leq, XP_gtr, XP_geq, XP_not, XP_min, XP_max, XP_len_27, XP_len_9, XP_eql_nil_74, X_str_eql, X_str_neq, XP_str_eql, XP_str_neq, GS, gs_u, decide_true, decide_false, Option.isNone_some, Option.isSome_some, Option.isNone_none, Option.isSome_none, eq_self, Bool.not_true, Bool.not_false, Int.reduceEq, Int.reduceNe, Int.reduceLT, Int.reduceLE, Int.reduceGT, Int.reduceGE, c]))
    have e : hsave each d bs = (d, 4) := by unfold hsave; rw [if_pos hroom]
    have := hK w1 (by rw [e]; exact hd1) (Step.ext hxp hb_lt)
    rw [e] at this
    exact this
  have c : decide ((bs.length : Int) > ((each * 128 : Nat) : Int)) = false := by simp; omega
  (repeat (simp only [XP_extract0, XP_extract1, XP_extract2, XP_extract3, X_extract0, X_extract1, X_extract2, X_extract3, X_nilS, X_eql_nil_74, X_neq_nil_74, X_eql_nil_124, X_neq_nil_124, X_eql, X_neq, X_lss, X_leq, X_gtr, X_geq, X_not, X_min, X_max, X_len_27, X_len_9, X_len_79, XP_nilS, XP_eql, XP_neq, XP_lss, XP_leq, XP_gtr, XP_geq, XP_not, XP_min, XP_max, XP_len_27, XP_len_9, XP_eql_nil_74, X_str_eql, X_str_neq, XP_str_eql, XP_str_neq, GS, gs_u, decide_true, decide_false, Option.isNone_some, Option.isSome_some, Option.isNone_none, Option.isSome_none, eq_self, Bool.not_true, Bool.not_false, Int.reduceEq, Int.reduceNe, Int.reduceLT, Int.reduceLE, Int.reduceGT, Int.reduceGE, c]))
  have hlen : bs.length ≤ 16384 * 128 := Nat.le_trans (Nat.le_of_not_lt hroom) (Nat.mul_le_mul_right _ ok2)
  have hcrc : (crc bs).toNat < 4294967296 := (crc bs).isLt
  refine X_loadAgg Try.underlying162 agg_162 info_162 hp (by rw [sz_162]; rfl) ?_
  refine RHLoad_spec hd1 ok (by omega) ?_
  intro w2 hx2
  have hx02 : Ext w w2 := hxp.trans hx2
  have hd2 := hd1.ext hx2
  have hp2 := hx2.get hp
  have hsave_eq : hsave each d bs = if (hload each d).err ≠ 0 then (d, (hload each d).err)
      else if (hload each d).s.gen = 18446744073709551615 then (d, 4)
      else if (hwrite d (2 + harea (hload each d) * each) bs).2 ≠ 0 then hwrite d (2 + harea (hload each d) * each) bs
      else hwrite (hwrite d (2 + harea (hload each d) * each) bs).1 (hpos (hload each d)) (layB (hnext (hload each d) bs)) := by
    unfold hsave
    rw [if_neg hroom]
  (repeat (simp only [XP_extract0, XP_extract1, XP_extract2, XP_extract3, X_extract0, X_extract1, X_extract2, X_extract3, X_nilS, X_eql_nil_74, X_neq_nil_74, X_eql_nil_124, X_neq_nil_124, X_eql, X_neq, X_lss, X_leq, X_gtr, X_geq, X_not, X_min, X_max, X_len_27, X_len_9, X_len_79, XP_nilS, XP_eql, XP_neq, XP_lss, XP_leq, XP_gtr, XP_geq, XP_not, XP_min, XP_max, XP_len_27, XP_len_9, XP_eql_nil_74, X_str_eql, X_str_neq, XP_str_eql, XP_str_neq, GS, gs_u, decide_true, decide_false, Option.isNone_some, Option.isSome_some, Option.isNone_none, Option.isSome_none, eq_self, Bool.not_true, Bool.not_false, Int.reduceEq, Int.reduceNe, Int.reduceLT, Int.reduceLE, Int.reduceGT, Int.reduceGE]))
  by_cases herr : (hload each d).err = 0
  case neg =>
    have c : decide ((hload each d).err ≠ 0) = true := by simpa using herr
    (repeat (simp only [XP_extract0, XP_extract1, XP_extract2, XP_extract3, X_extract0, X_extract1, X_extract2, X_extract3, X_nilS, X_eql_nil_74, X_neq_nil_74, X_eql_nil_124, X_neq_nil_124, X_eql, X_neq, X_lss, X_leq, X_gtr, X_geq, X_not, X_min, X_max, X_len_27, X_len_9, X_len_79, XP_nilS, XP_eql, XP_neq, XP_lss, XP_leq, XP_gtr, XP_geq, XP_not, XP_min, XP_max, XP_len_27, XP_len_9, XP_eql_nil_74, X_str_eql, X_str_neq, XP_str_eql, XP_str_neq, GS, gs_u, decide_true, decide_false, Option.isNone_some, Option.isSome_some, Option.isNone_none, Option.isSome_none, eq_self, Bool.not_true, Bool.not_false, Int.reduceEq, Int.reduceNe, Int.reduceLT, Int.reduceLE, Int.reduceGT, Int.reduceGE, c]))
    rw [if_pos herr] at hsave_eq
    have := hK w2 (by rw [hsave_eq]; exact hd2) (Step.ext hx02 hb_lt)
    rw [hsave_eq] at this
    exact this
  rw [if_neg (by simpa using herr)] at hsave_eq
  have c : decide ((hload each d).err ≠ 0) = false := by simp [herr]
  (repeat (simp only [XP_extract0, XP_extract1, XP_extract2, XP_extract3, X_extract0, X_extract1, X_extract2, X_extract3, X_nilS, X_eql_nil_74, X_neq_nil_74, X_eql_nil_124, X_neq_nil_124, X_eql, X_neq, X_lss, X_leq, X_gtr, X_geq, X_not, X_min, X_max, X_len_27, X_len_9, X_len_79, XP_nilS, XP_eql, XP_neq, XP_lss, XP_leq, XP_gtr, XP_geq, XP_not, XP_min, XP_max, XP_len_27, XP_len_9, XP_eql_nil_74, X_str_eql, X_str_neq, XP_str_eql, XP_str_neq, GS, gs_u, decide_true, decide_false, Option.isNone_some, Option.isSome_some, Option.isNone_none, Option.isSome_none, eq_self, Bool.not_true, Bool.not_false, Int.reduceEq, Int.reduceNe, Int.reduceLT, Int.reduceLE, Int.reduceGT, Int.reduceGE, c]))
  by_cases hgm : (hload each d).s.gen = 18446744073709551615
  · have c : decide (((hload each d).s.gen : Int) = 18446744073709551615) = true := by simp; omega
    (repeat (simp only [XP_extract0, XP_extract1, XP_extract2, XP_extract3, X_extract0, X_extract1, X_extract2, X_extract3, X_nilS, X_eql_nil_74, X_neq_nil_74, X_eql_nil_124, X_neq_nil_124, X_eql, X_neq, X_lss, X_leq, X_gtr, X_geq, X_not, X_min, X_max, X_len_27, X_len_9, X_len_79, XP_nilS, XP_eql, XP_neq, XP_lss, XP_leq, XP_gtr, XP_geq, XP_not, XP_min, XP_max, XP_len_27, XP_len_9, XP_eql_nil_74, X_str_eql, X_str_neq, XP_str_eql, XP_str_neq, GS, gs_u, decide_true, decide_false, Option.isNone_some, Option.isSome_some, Option.isNone_none, Option.isSome_none, eq_self, Bool.not_true, Bool.not_false, Int.reduceEq, Int.reduceNe, Int.reduceLT, Int.reduceLE, Int.reduceGT, Int.reduceGE, c]))
    rw [if_pos hgm] at hsave_eq
    have := hK w2 (by rw [hsave_eq]; exact hd2) (Step.ext hx02 hb_lt)
    rw [hsave_eq] at this
    exact this
  have c : decide (((hload each d).s.gen : Int) = 18446744073709551615) = false := by simp; omega
  rw [if_neg hgm] at hsave_eq
  (repeat (simp only [XP_extract0, XP_extract1, XP_extract2, XP_extract3, X_extract0, X_extract1, X_extract2, X_extract3, X_nilS, X_eql_nil_74, X_neq_nil_74, X_eql_nil_124, X_neq_nil_124, X_eql, X_neq, X_lss, X_leq, X_gtr, X_geq, X_not, X_min, X_max, X_len_27, X_len_9, X_len_79, XP_nilS, XP_eql, XP_neq, XP_lss, XP_leq, XP_gtr, XP_geq, XP_not, XP_min, XP_max, XP_len_27, XP_len_9, XP_eql_nil_74, X_str_eql, X_str_neq, XP_str_eql, XP_str_neq, GS, gs_u, decide_true, decide_false, Option.isNone_some, Option.isSome_some, Option.isNone_none, Option.isSome_none, eq_self, Bool.not_true, Bool.not_false, Int.reduceEq, Int.reduceNe, Int.reduceLT, Int.reduceLE, Int.reduceGT, Int.reduceGE, c]))
  refine X_loadAgg Try.underlying162 agg_162 info_162 hp2 (by rw [sz_162]; rfl) ?_
  have hc := hload_cases each d
  generalize hload each d = H at hc herr hgm hsave_eq ⊢
  obtain ⟨_, hal, hc⟩ := hc.resolve_left (fun h => h.1 herr)
  refine newer_spec hd2 ok (by omega) (fun hdead => by rw [hal] at hdead; cases hdead) ?_
  intro _ w3 hx3
  have hN1 := newerP_at (d.now.getD 0 []) (d.now.getD 1 [])
  have hN2 := newerP_err (d.now.getD 0 []) (d.now.getD 1 [])
  rw [show newerP (d.now.getD 0 []) (d.now.getD 1 []) = hnewer d from rfl] at hN1 hN2
  have hNok := newerP_ok (d.now.getD 0 []) (d.now.getD 1 [])
  rw [show newerP (d.now.getD 0 []) (d.now.getD 1 []) = hnewer d from rfl] at hNok
  generalize hnewer d = N at hc hN1 hN2 hNok ⊢
  have hx03 : Ext w w3 := hx02.trans hx3
  have hp3 := hx3.get hp2
  (repeat (simp only [XP_extract0, XP_extract1, XP_extract2, XP_extract3, X_extract0, X_extract1, X_extract2, X_extract3, X_nilS, X_eql_nil_74, X_neq_nil_74, X_eql_nil_124, X_neq_nil_124, X_eql, X_neq, X_lss, X_leq, X_gtr, X_geq, X_not, X_min, X_max, X_len_27, X_len_9, X_len_79, XP_nilS, XP_eql, XP_neq, XP_lss, XP_leq, XP_gtr, XP_geq, XP_not, XP_min, XP_max, XP_len_27, XP_len_9, XP_eql_nil_74, X_str_eql, X_str_neq, XP_str_eql, XP_str_neq, GS, gs_u, decide_true, decide_false, Option.isNone_some, Option.isSome_some, Option.isNone_none, Option.isSome_none, eq_self, Bool.not_true, Bool.not_false, Int.reduceEq, Int.reduceNe, Int.reduceLT, Int.reduceLE, Int.reduceGT, Int.reduceGE]))
  refine X_alloc zero_25 ?_
  have hq := newB_get w3 nilSl.cs.toArray 25
  have hxq := newB_ext w3 nilSl.cs.toArray 25
  show XU _ _ (newB w3 nilSl.cs.toArray 25) _
  generalize newB w3 nilSl.cs.toArray 25 = w4 at hq hxq ⊢
  refine XU_storeAgg (l := N.1.cs) info_25 hq (by rw [sz_25]; rfl) (by rw [sz_25]; rfl) (Sl.one _) ?_
  have hq5 := setAt_same (cs := N.1.cs.toArray) (T := 25) (fr := (0, 0)) (lt_of_blk hq)
  have hx5 : Ext w3 (setAt w4 w3.heap.size N.1.cs.toArray 25 (0, 0)) := Ext.seq hxq (setAt_keep _ _ _ _ _) (fun j hj => by omega)
  generalize setAt w4 w3.heap.size N.1.cs.toArray 25 (0, 0) = w5 at hq5 hx5 ⊢
  generalize w3.heap.size = q at hq5 ⊢
  have hx05 : Ext w w5 := hx03.trans hx5
  have hp5 := hx5.get hp3
  refine joinS_of (fun ρ1 wr => Ext w wr ∧ wr.heap[p]? = some (.cells (rhc b each).toArray 162 (0, 0)) ∧ harea H ≤ 1 ∧ hpos H ≤ 1 ∧ H.s.gen < 18446744073709551615 ∧ ρ1 12 = i64v (harea H : Int) ∧ ρ1 13 = i64v (hpos H : Int) ∧ ρ1 2 = ptr p ∧ ρ1 1 = .string (str bs) ∧ ρ1 6 = .int .u64 (H.s.gen : Int)) ?_ ?_
  · rintro ρ1 wr ⟨hxr, hpr, ha1, hp1, hgl, r12, r13, r2, r1, r6⟩
    have hae : harea H * each ≤ 1 * each := Nat.mul_le_mul_right _ ha1
    have em2 : ((harea H : Nat) : Int) * (each : Int) = ((harea H * each : Nat) : Int) := (Int.natCast_mul _ _).symm
    refine loopE (fun ρ w' => ∃ (d' : Dk) (j : Nat), RefAt w' b d' ∧ Step b w w' ∧ w'.heap[p]? = some (.cells (rhc b each).toArray 162 (0, 0)) ∧ d'.ws.length + (bs.length + 127 - 128 * j) / 128 ≤ 900000 ∧ 128 * j ≤ bs.length + 127 ∧
        layAll d (2 + harea H * each) bs = layAll d' (2 + harea H * each + j) (bs.drop (128 * j)) ∧ ρ 14 = .int .i64 ((128 * j : Nat) : Int) ∧ ρ 12 = i64v (harea H : Int) ∧ ρ 13 = i64v (hpos H : Int) ∧ ρ 2 = ptr p ∧ ρ 1 = .string (str bs) ∧ ρ 6 = .int .u64 (H.s.gen : Int))
      (fun ρ w' => match ρ 14 with | .int _ s => (bs.length + 128 - s).toNat | _ => 0)
      (fun ρ w' => ∃ d', RefAt w' b d' ∧ Step b w w' ∧ w'.heap[p]? = some (.cells (rhc b each).toArray 162 (0, 0)) ∧ layAll d (2 + harea H * each) bs = (d', 0) ∧ ρ 12 = i64v (harea H : Int) ∧ ρ 13 = i64v (hpos H : Int) ∧ ρ 2 = ptr p ∧ ρ 1 = .string (str bs) ∧ ρ 6 = .int .u64 (H.s.gen : Int)) ?_ ?_ ?_
    · exact ⟨d, 0, hd.ext hxr, Step.ext hxr hb_lt, hpr, by omega, by omega, rfl, rfl, r12, r13, r2, r1, r6⟩
    · rintro J hJ ρ w' ⟨d', j, hd', hs', hp', hws', hj, heq, g14, g12, g13, g2, g1, g6⟩
      rw [g14, g1, g2, g12, X_len_9, str_size, X_lss, condS_bool]
      by_cases hlt : 128 * j < bs.length
      case neg =>
        rw [if_neg (by simp; omega)]
        refine hJ _ _ ⟨d', hd', hs', hp', ?_, g12, g13, g2, g1, g6⟩
        rw [heq, List.drop_eq_nil_of_le (by omega), layAll_nil]
      rw [if_pos (by simp; omega)]
      have hne : bs.drop (128 * j) ≠ [] := by
        intro h
        have := congrArg List.length h
        rw [List.length_drop] at this
        simp at this
        omega
      have hcons := layAll_cons d' (2 + harea H * each + j) hne
      have hpd : (drewW w').heap[p]? = some (.cells (rhc b each).toArray 162 (0, 0)) := hp'
      have hdd := hd'.ext (Keep.drew (fun _ => False) w')
      have hpn : ¬ foot (drewW w') b p := hdd.notin hpd (by decide) (by decide) (by decide)
      refine ⟨Keep (foot (drewW w') b), Keep.frame _, ?_⟩
      rw [XP_field_162_0]
      refine XR_ok (Keep.frame _) (fun w' k => run_loadAt agg_92 (blk_get (k.get hpn hpd) (v := ptr b) rfl)) ?_
      rw [XP_field_162_1]
      refine XR_ok (Keep.frame _) (fun w' k => run_loadAt agg_3 (blk_get (k.get hpn hpd) (v := .int .i64 (each : Int)) rfl)) ?_
      rw [XP_mul, em2, w64 (by omega) (by omega), XP_add, w64 (by omega) (by omega)]
      refine XP_of (fun w => run_quo 3 .i64 _ 128 (by decide) w) ?_
      have eq : (((128 * j : Nat) : Int)).tdiv 128 = (j : Int) := by rw [tdiv_ediv (by omega)]; omega
      rw [eq, w64 (by omega) (by omega), XP_add, w64 (by omega) (by omega), XP_len_9, str_size, XP_add, w64 (by omega) (by omega), XP_min]
      obtain ⟨m, hm⟩ : ∃ m : Nat, m = min bs.length (128 * j + 128) := ⟨_, rfl⟩
      have emin : min (bs.length : Int) (((128 * j : Nat) : Int) + 128) = (m : Int) := by omega
      rw [emin]
      refine XP_of (fun w => run_cutstr Try.underlying9 bs .i64 .i64 (128 * j) m (by omega) (by omega) w) ?_
      have ecut : (bs.take m).drop (128 * j) = (bs.drop (128 * j)).take 128 := by
        rw [List.drop_take]
        rcases Nat.le_total bs.length (128 * j + 128) with h | h
        · rw [List.take_of_length_le (by rw [List.length_drop]; omega), List.take_of_length_le (by rw [List.length_drop]; omega)]
        · rw [show m - 128 * j = 128 by omega]
      rw [ecut]
      have eto : 2 + ((harea H * each : Nat) : Int) + (j : Int) = ((2 + harea H * each + j : Nat) : Int) := by omega
      rw [eto]
      refine RWrite_spec hdd (by omega) ?_
      intro w6 hd6 s6
      refine ⟨s6.keep, ?_⟩
      have s6' : Step b w w6 := hs'.trans ((Step.ext (Keep.drew _ _) (hd'.lt b (foot_self _ _))).trans s6)
      rw [X_neq, condS_bool]
      by_cases he : (d'.write ((2 + harea H * each + j : Nat) : Int) ((bs.drop (128 * j)).take 128)).2 = 0
      · rw [if_neg (by simpa using he)]
        rw [if_neg (by simpa using he)] at hcons
        rw [X_add, w64 (by omega) (by omega)]
        have hws6 := Dk.write_ws d' ((2 + harea H * each + j : Nat) : Int) ((bs.drop (128 * j)).take 128)
        show _ ∧ _
        refine ⟨⟨_, j + 1, hd6, s6', s6.keep.get hpn hpd, by omega, by omega, ?_, ?_, g12, g13, g2, g1, g6⟩, ?_⟩
        · rw [heq, hcons, List.drop_drop]
          rfl
        · show Value.int .i64 (((128 * j : Nat) : Int) + 128) = _
          congr 1
        · show ((bs.length : Int) + 128 - (((128 * j : Nat) : Int) + 128)).toNat < _
          first | omega | (show _ < (_ : Int).toNat; omega)
      · rw [if_pos (by simpa using he)]
        rw [if_pos (by simpa using he)] at hcons
        show K (i64v (d'.write ((2 + harea H * each + j : Nat) : Int) ((bs.drop (128 * j)).take 128)).2) w6
        have ew : hwrite d (2 + harea H * each) bs = d'.write ((2 + harea H * each + j : Nat) : Int) ((bs.drop (128 * j)).take 128) := by
          unfold hwrite
          rw [heq, hcons, if_pos he]
        rw [ew, if_pos he] at hsave_eq
        have := hK w6 (by rw [hsave_eq]; exact hd6) s6'
        rw [hsave_eq] at this
        exact this
    · rintro ρ w' ⟨d', hd', hs', hp', heq, g12, g13, g2, g1, g6⟩
      rw [g2, g1, g12, g13, g6]
      have ew : hwrite d (2 + harea H * each) bs = d'.flush := by
        unfold hwrite
        rw [heq, if_neg (by simp)]
      have hclean := @hwrite_clean d (2 + harea H * each) bs
      rw [ew] at hsave_eq hclean
      have hsz' : d'.safe.length = d.safe.length := by
        have := layAll_size d (2 + harea H * each) bs
        rw [heq] at this
        exact this
      have hws' : d'.ws.length ≤ 900000 := by
        have := layAll_ws3 d (2 + harea H * each) bs
        rw [heq] at this
        have h2 : d'.ws.length ≤ d.ws.length + (bs.length + 127) / 128 := this
        omega
      (repeat (simp only [XP_extract0, XP_extract1, XP_extract2, XP_extract3, X_extract0, X_extract1, X_extract2, X_extract3, X_nilS, X_eql_nil_74, X_neq_nil_74, X_eql_nil_124, X_neq_nil_124, X_eql, X_neq, X_lss, X_leq, X_gtr, X_geq, X_not, X_min, X_max, X_len_27, X_len_9, X_len_79, XP_nilS, XP_eql, XP_neq, XP_lss, XP_leq, XP_gtr, XP_geq, XP_not, XP_min, XP_max, XP_len_27, XP_len_9, XP_eql_nil_74, X_str_eql, X_str_neq, XP_str_eql, XP_str_neq, GS, gs_u, decide_true, decide_false, Option.isNone_some, Option.isSome_some, Option.isNone_none, Option.isSome_none, eq_self, Bool.not_true, Bool.not_false, Int.reduceEq, Int.reduceNe, Int.reduceLT, Int.reduceLE, Int.reduceGT, Int.reduceGE, X_field_162_0]))
      refine X_loadL agg_92 hp' (v := ptr b) rfl ?_
      refine RFlush_spec hd' (by omega) ?_
      intro w6 hd6 s6
      have hp6 := s6.keep.get (hd'.notin hp' (by decide) (by decide) (by decide)) hp'
      have s6' := hs'.trans s6
      have hsz6 := Dk.flush_size d'
      generalize d'.flush = r at hd6 hsave_eq hclean hsz6 ⊢
      (repeat (simp only [XP_extract0, XP_extract1, XP_extract2, XP_extract3, X_extract0, X_extract1, X_extract2, X_extract3, X_nilS, X_eql_nil_74, X_neq_nil_74, X_eql_nil_124, X_neq_nil_124, X_eql, X_neq, X_lss, X_leq, X_gtr, X_geq, X_not, X_min, X_max, X_len_27, X_len_9, X_len_79, XP_nilS, XP_eql, XP_neq, XP_lss, XP_leq, XP_gtr, XP_geq, XP_not, XP_min, XP_max, XP_len_27, XP_len_9, XP_eql_nil_74, X_str_eql, X_str_neq, XP_str_eql, XP_str_neq, GS, gs_u, decide_true, decide_false, Option.isNone_some, Option.isSome_some, Option.isNone_none, Option.isSome_none, eq_self, Bool.not_true, Bool.not_false, Int.reduceEq, Int.reduceNe, Int.reduceLT, Int.reduceLE, Int.reduceGT, Int.reduceGE]))
      by_cases hr : r.2 = 0
      case neg =>
        have c : decide (r.2 ≠ 0) = true := by simpa using hr
        (repeat (simp only [XP_extract0, XP_extract1, XP_extract2, XP_extract3, X_extract0, X_extract1, X_extract2, X_extract3, X_nilS, X_eql_nil_74, X_neq_nil_74, X_eql_nil_124, X_neq_nil_124, X_eql, X_neq, X_lss, X_leq, X_gtr, X_geq, X_not, X_min, X_max, X_len_27, X_len_9, X_len_79, XP_nilS, XP_eql, XP_neq, XP_lss, XP_leq, XP_gtr, XP_geq, XP_not, XP_min, XP_max, XP_len_27, XP_len_9, XP_eql_nil_74, X_str_eql, X_str_neq, XP_str_eql, XP_str_neq, GS, gs_u, decide_true, decide_false, Option.isNone_some, Option.isSome_some, Option.isNone_none, Option.isSome_none, eq_self, Bool.not_true, Bool.not_false, Int.reduceEq, Int.reduceNe, Int.reduceLT, Int.reduceLE, Int.reduceGT, Int.reduceGE, c]))
        rw [if_pos hr] at hsave_eq
        have := hK w6 (by rw [hsave_eq]; exact hd6) s6'
        rw [hsave_eq] at this
        exact this
      have c : decide (r.2 ≠ 0) = false := by simp [hr]
      rw [if_neg (by simpa using hr)] at hsave_eq
      (repeat (simp only [XP_extract0, XP_extract1, XP_extract2, XP_extract3, X_extract0, X_extract1, X_extract2, X_extract3, X_nilS, X_eql_nil_74, X_neq_nil_74, X_eql_nil_124, X_neq_nil_124, X_eql, X_neq, X_lss, X_leq, X_gtr, X_geq, X_not, X_min, X_max, X_len_27, X_len_9, X_len_79, XP_nilS, XP_eql, XP_neq, XP_lss, XP_leq, XP_gtr, XP_geq, XP_not, XP_min, XP_max, XP_len_27, XP_len_9, XP_eql_nil_74, X_str_eql, X_str_neq, XP_str_eql, XP_str_neq, GS, gs_u, decide_true, decide_false, Option.isNone_some, Option.isSome_some, Option.isNone_none, Option.isSome_none, eq_self, Bool.not_true, Bool.not_false, Int.reduceEq, Int.reduceNe, Int.reduceLT, Int.reduceLE, Int.reduceGT, Int.reduceGE, c]))
      have egw : IntKind.u64.wrap ((H.s.gen : Int) + 1) = ((H.s.gen + 1 : Nat) : Int) := by rw [wrap_u64]; omega
      rw [X_add, egw, X_conv_3_5, w8u (n := harea H) (by omega)]
      (repeat (simp only [X_len_9, str_size]))
      rw [X_conv_3_23, w32u (n := bs.length) (by omega)]
      refine X_bytes Try.underlying9 Try.underlying27 Try.underlying5 (by omega) ?_
      intro v7 w7 hx7 hb7 _
      refine RMore_spec (c := 0#32) hb7 ?_
      have ecrc : more 0#32 bs = crc bs := rfl
      rw [ecrc]
      unfold U32
      refine X_of (run_build_25 _ _ _ _ _) ?_
      have hp7 := hx7.get hp6
      have hd7 := hd6.ext hx7
      have s7' : Step b w w7 := s6'.trans (Step.ext hx7 (hd6.lt b (foot_self _ _)))
      refine X_alloc zero_25 ?_
      have hz := newB_get w7 nilSl.cs.toArray 25
      have hxz := newB_ext w7 nilSl.cs.toArray 25
      show XU _ _ (newB w7 nilSl.cs.toArray 25) _
      generalize newB w7 nilSl.cs.toArray 25 = w8 at hz hxz ⊢
      refine XU_storeAgg (l := (hnext H bs).cs) info_25 hz (by rw [sz_25]; rfl) (by rw [sz_25]; rfl) (Sl.one _) ?_
      have hz9 := setAt_same (cs := (hnext H bs).cs.toArray) (T := 25) (fr := (0, 0)) (lt_of_blk hz)
      have hx9 : Ext w7 (setAt w8 w7.heap.size (hnext H bs).cs.toArray 25 (0, 0)) := Ext.seq hxz (setAt_keep _ _ _ _ _) (fun j hj => by omega)
      generalize setAt w8 w7.heap.size (hnext H bs).cs.toArray 25 (0, 0) = w9 at hz9 hx9 ⊢
      generalize w7.heap.size = qz at hz9 ⊢
      have hp9 := hx9.get hp7
      have hd9 := (hd7.ext hx9).ext (Keep.drew (fun _ => False) w9)
      have s9' : Step b w (drewW w9) := s7'.trans (Step.ext (hx9.trans (Keep.drew (fun _ => False) w9)) (hd7.lt b (foot_self _ _)))
      have hpd : (drewW w9).heap[p]? = some (.cells (rhc b each).toArray 162 (0, 0)) := hp9
      have hzd : (drewW w9).heap[qz]? = some (.cells (hnext H bs).cs.toArray 25 (0, 0)) := hz9
      generalize drewW w9 = wd at hd9 s9' hpd hzd ⊢
      have hpn : ¬ foot wd b p := hd9.notin hpd (by decide) (by decide) (by decide)
      have hzn : ¬ foot wd b qz := hd9.notin hzd (by decide) (by decide) (by decide)
      have hnok : (hnext H bs).ok := ⟨by show H.s.gen + 1 < _; omega, by show harea H < _; omega, by show bs.length < _; omega, hcrc⟩
      refine ⟨Keep (foot wd b), Keep.frame _, ?_⟩
      rw [XP_field_162_0]
      refine XR_ok (Keep.frame _) (fun w' k => run_loadAt agg_92 (blk_get (k.get hpn hpd) (v := ptr b) rfl)) ?_
      refine XR_ok (Keep.frame _) (fun w' k => run_loadAgg Try.underlying25 agg_25 info_25 (l := (hnext H bs).cs) (k.get hzn hzd) (by rw [sz_25]; rfl) (by rw [sz_25]; rfl)) ?_
      refine RLayO_spec hnok ?_
      intro vl wl hxl hbl hkl
      refine ⟨hxl.ext, ?_⟩
      have hdl_lt := hd9.lt b (foot_self _ _)
      refine XR_ok (Keep.frame _) (fun w' k => Go.Sh.run_str Try.underlying27 Try.underlying5 Try.underlying9 (hbl.keep k (fun g hg hf => by
        have h1 := hd9.lt g hf
        have h2 := (hkl g hg).1
        omega))) ?_
      have hdl := hd9.ext hxl
      have el : layAll r.1 (hpos H) (layB (hnext H bs)) = r.1.write ((hpos H : Nat) : Int) (layB (hnext H bs)) := by
        have hne : layB (hnext H bs) ≠ [] := by
          intro h
          have := congrArg List.length h
          rw [layB_len] at this
          cases this
        rw [layAll_cons _ _ hne, List.take_of_length_le (by rw [layB_len]; decide), List.drop_eq_nil_of_le (by rw [layB_len]; decide), layAll_nil]
        split
        · rfl
        · rename_i h
          have h' : (r.1.write ((hpos H : Nat) : Int) (layB (hnext H bs))).2 = 0 := by simpa using h
          rw [← h']
      refine RWrite_spec hdl (by rw [hclean hr]; decide) ?_
      intro wm hdm sm
      refine ⟨sm.keep.mono (fun k _ hf => (foot_x hxl hdl_lt).1 hf), ?_⟩
      have sm' : Step b w wm := s9'.trans ((Step.ext hxl hdl_lt).trans sm)
      have hpm := sm.keep.get (hdl.notin (hxl.get hpd) (by decide) (by decide) (by decide)) (hxl.get hpd)
      have hwm := Dk.write_ws r.1 ((hpos H : Nat) : Int) (layB (hnext H bs))
      unfold hwrite at hsave_eq
      rw [el] at hsave_eq
      rw [hclean hr] at hwm
      generalize r.1.write ((hpos H : Nat) : Int) (layB (hnext H bs)) = r2 at hdm hsave_eq hwm ⊢
      (repeat (simp only [XP_extract0, XP_extract1, XP_extract2, XP_extract3, X_extract0, X_extract1, X_extract2, X_extract3, X_nilS, X_eql_nil_74, X_neq_nil_74, X_eql_nil_124, X_neq_nil_124, X_eql, X_neq, X_lss, X_leq, X_gtr, X_geq, X_not, X_min, X_max, X_len_27, X_len_9, X_len_79, XP_nilS, XP_eql, XP_neq, XP_lss, XP_leq, XP_gtr, XP_geq, XP_not, XP_min, XP_max, XP_len_27, XP_len_9, XP_eql_nil_74, X_str_eql, X_str_neq, XP_str_eql, XP_str_neq, GS, gs_u, decide_true, decide_false, Option.isNone_some, Option.isSome_some, Option.isNone_none, Option.isSome_none, eq_self, Bool.not_true, Bool.not_false, Int.reduceEq, Int.reduceNe, Int.reduceLT, Int.reduceLE, Int.reduceGT, Int.reduceGE]))
      by_cases hr2 : r2.2 = 0
      case neg =>
        have c : decide (r2.2 ≠ 0) = true := by simpa using hr2
        (repeat (simp only [XP_extract0, XP_extract1, XP_extract2, XP_extract3, X_extract0, X_extract1, X_extract2, X_extract3, X_nilS, X_eql_nil_74, X_neq_nil_74, X_eql_nil_124, X_neq_nil_124, X_eql, X_neq, X_lss, X_leq, X_gtr, X_geq, X_not, X_min, X_max, X_len_27, X_len_9, X_len_79, XP_nilS, XP_eql, XP_neq, XP_lss, XP_leq, XP_gtr, XP_geq, XP_not, XP_min, XP_max, XP_len_27, XP_len_9, XP_eql_nil_74, X_str_eql, X_str_neq, XP_str_eql, XP_str_neq, GS, gs_u, decide_true, decide_false, Option.isNone_some, Option.isSome_some, Option.isNone_none, Option.isSome_none, eq_self, Bool.not_true, Bool.not_false, Int.reduceEq, Int.reduceNe, Int.reduceLT, Int.reduceLE, Int.reduceGT, Int.reduceGE, c]))
        rw [if_pos hr2] at hsave_eq
        have := hK wm (by rw [hsave_eq]; exact hdm) sm'
        rw [hsave_eq] at this
        exact this
      have c : decide (r2.2 ≠ 0) = false := by simp [hr2]
      rw [if_neg (by simpa using hr2)] at hsave_eq
      (repeat (simp only [XP_extract0, XP_extract1, XP_extract2, XP_extract3, X_extract0, X_extract1, X_extract2, X_extract3, X_nilS, X_eql_nil_74, X_neq_nil_74, X_eql_nil_124, X_neq_nil_124, X_eql, X_neq, X_lss, X_leq, X_gtr, X_geq, X_not, X_min, X_max, X_len_27, X_len_9, X_len_79, XP_nilS, XP_eql, XP_neq, XP_lss, XP_leq, XP_gtr, XP_geq, XP_not, XP_min, XP_max, XP_len_27, XP_len_9, XP_eql_nil_74, X_str_eql, X_str_neq, XP_str_eql, XP_str_neq, GS, gs_u, decide_true, decide_false, Option.isNone_some, Option.isSome_some, Option.isNone_none, Option.isSome_none, eq_self, Bool.not_true, Bool.not_false, Int.reduceEq, Int.reduceNe, Int.reduceLT, Int.reduceLE, Int.reduceGT, Int.reduceGE, c, X_field_162_0]))
      refine X_loadL agg_92 hpm (v := ptr b) rfl ?_
      refine RFlush_spec hdm (by simp at hwm; omega) ?_
      intro wn hdn sn
      have := hK wn (by rw [hsave_eq]; exact hdn) (sm'.trans sn)
      rw [hsave_eq] at this
      exact this
  · intro J1 hJ1
    have hgl : H.s.gen < 18446744073709551616 := by
      rcases hc with ⟨_, h, _, _⟩ | ⟨_, h, _⟩
      · rw [h]; decide
      · rw [h]; exact hNok.1
    by_cases c7 : N.2.2 = 0
    · obtain ⟨_, hs, hps, ha, _, hg0⟩ := hc.resolve_left (fun h => h.2.2.2 c7)
      have c : decide (N.2.2 = 0) = true := by simpa using c7
      have ep : hpos H = (1 - N.2.1).toNat := by unfold hpos; rw [hs, if_neg hg0, hps]
      have ea : harea H = 1 - N.1.area := by unfold harea; rw [hs, if_neg hg0]
      (repeat (simp only [XP_extract0, XP_extract1, XP_extract2, XP_extract3, X_extract0, X_extract1, X_extract2, X_extract3, X_nilS, X_eql_nil_74, X_neq_nil_74, X_eql_nil_124, X_neq_nil_124, X_eql, X_neq, X_lss, X_leq, X_gtr, X_geq, X_not, X_min, X_max, X_len_27, X_len_9, X_len_79, XP_nilS, XP_eql, XP_neq, XP_lss, XP_leq, XP_gtr, XP_geq, XP_not, XP_min, XP_max, XP_len_27, XP_len_9, XP_eql_nil_74, X_str_eql, X_str_neq, XP_str_eql, XP_str_neq, GS, gs_u, decide_true, decide_false, Option.isNone_some, Option.isSome_some, Option.isNone_none, Option.isSome_none, eq_self, Bool.not_true, Bool.not_false, Int.reduceEq, Int.reduceNe, Int.reduceLT, Int.reduceLE, Int.reduceGT, Int.reduceGE, c, X_field_25_1]))
      refine X_loadL agg_5 hq5 (v := .int .u8 (N.1.area : Int)) rfl ?_
      rw [X_conv_5_3, w64 (by omega) (by omega), X_sub, w64 (by omega) (by omega), X_sub, w64 (by omega) (by omega)]
      refine hJ1 _ _ ⟨hx05, hp5, by omega, by omega, by omega, ?_, ?_, rfl, rfl, rfl⟩
      · show i64v (1 - (N.1.area : Int)) = i64v (harea H : Int)
        congr 1
        omega
      · show i64v (1 - N.2.1) = i64v (hpos H : Int)
        congr 1
        omega
    · obtain ⟨_, hs, _, _⟩ := hc.resolve_right (fun h => c7 h.1)
      have c : decide (N.2.2 = 0) = false := by simpa using c7
      have hg0 : H.s.gen = 0 := by rw [hs]; rfl
      have ep : hpos H = 1 := by unfold hpos; rw [if_pos hg0]
      have ea : harea H = 0 := by unfold harea; rw [if_pos hg0]
      (repeat (simp only [XP_extract0, XP_extract1, XP_extract2, XP_extract3, X_extract0, X_extract1, X_extract2, X_extract3, X_nilS, X_eql_nil_74, X_neq_nil_74, X_eql_nil_124, X_neq_nil_124, X_eql, X_neq, X_lss, X_leq, X_gtr, X_geq, X_not, X_min, X_max, X_len_27, X_len_9, X_len_79, XP_nilS, XP_eql, XP_neq, XP_lss, XP_leq, XP_gtr, XP_geq, XP_not, XP_min, XP_max, XP_len_27, XP_len_9, XP_eql_nil_74, X_str_eql, X_str_neq, XP_str_eql, XP_str_neq, GS, gs_u, decide_true, decide_false, Option.isNone_some, Option.isSome_some, Option.isNone_none, Option.isSome_none, eq_self, Bool.not_true, Bool.not_false, Int.reduceEq, Int.reduceNe, Int.reduceLT, Int.reduceLE, Int.reduceGT, Int.reduceGE, c]))
      refine hJ1 _ _ ⟨hx05, hp5, by omega, by omega, by omega, ?_, ?_, rfl, rfl, rfl⟩
      · rw [ea]; rfl
      · rw [ep]; rfl
end
end Go.Proofs.Ytggggfcgnkllgaa
end
section
/- What cellaragelaw20.shown computes: true. -/
set_option linter.unusedVariables false
set_option linter.unusedSimpArgs false
namespace Go.Proofs.Ytggggfcgnkllgaa
open Go Go.Sh Go.RowKit
attribute [local irreducible] X XU XP XR CALL loopS resC closS
theorem lit_abc (w : World) : (Instr.buildSlice 27 3 #[(0, (.int .u8 97)), (1, (.int .u8 98)), (2, (.int .u8 99))]).run Try.prog w = .ok (.slice (some ⟨w.heap.size, 0, none⟩) 3 3) (newB w (B8 [97, 98, 99]).toArray 5) := by kernel_rfl
theorem new_size (n : Nat) : (Dk.new n).safe.length = n := by simp [Dk.new]
theorem shown20 {w : World} {K : Value → World → Prop} (hK : ∀ w1, Ext w w1 → K (.bool true) w1) : CALL Try.prog 114 #[] w K := by
  have e0 : decide ((0 : Int) ≠ 0) = false := by decide
  have e00 : decide ((0 : Int) = 0) = true := by decide
  have e11 : decide ((1 : Int) = 1) = true := by decide
  apply call_law20_shown
  unfold B_law20_shown
  refine New_disk (fun h => absurd h (by omega)) ?_
  intro m hm _ b w1 hx1 hlow hd1
  obtain rfl : m = 10 := by omega
  (repeat (simp only [XP_extract0, XP_extract1, XP_extract2, XP_extract3, X_extract0, X_extract1, X_extract2, X_extract3, X_nilS, X_eql_nil_74, X_neq_nil_74, X_eql_nil_124, X_neq_nil_124, X_eql, X_neq, X_lss, X_leq, X_gtr, X_geq, X_not, X_min, X_max, X_len_27, X_len_9, X_len_79, XP_nilS, XP_eql, XP_neq, XP_lss, XP_leq, XP_gtr, XP_geq, XP_not, XP_min, XP_max, XP_len_27, XP_len_9, XP_eql_nil_74, X_str_eql, X_str_neq, XP_str_eql, XP_str_neq, GS, gs_u, decide_true, decide_false, Option.isNone_some, Option.isSome_some, Option.isNone_none, Option.isSome_none, eq_self, Bool.not_true, Bool.not_false, Int.reduceEq, Int.reduceNe, Int.reduceLT, Int.reduceLE, Int.reduceGT, Int.reduceGE]))
  refine HNew_spec (each := 2) hd1 (fun h => absurd h (by rw [new_size]; omega)) ?_
  intro e he hok bh w2 hx2 hbh hv2
  obtain rfl : e = 2 := by omega
  have hd2 := hd1.ext hx2
  have hb_lt := hd1.lt b (foot_self _ _)
  have low2 : ∀ k, foot w2 b k → w.heap.size ≤ k := fun k hk => hlow k ((foot_x hx2 hb_lt).1 hk)
  have hx02 : Ext w w2 := hx1.trans hx2
  (repeat (simp only [XP_extract0, XP_extract1, XP_extract2, XP_extract3, X_extract0, X_extract1, X_extract2, X_extract3, X_nilS, X_eql_nil_74, X_neq_nil_74, X_eql_nil_124, X_neq_nil_124, X_eql, X_neq, X_lss, X_leq, X_gtr, X_geq, X_not, X_min, X_max, X_len_27, X_len_9, X_len_79, XP_nilS, XP_eql, XP_neq, XP_lss, XP_leq, XP_gtr, XP_geq, XP_not, XP_min, XP_max, XP_len_27, XP_len_9, XP_eql_nil_74, X_str_eql, X_str_neq, XP_str_eql, XP_str_neq, GS, gs_u, decide_true, decide_false, Option.isNone_some, Option.isSome_some, Option.isNone_none, Option.isSome_none, eq_self, Bool.not_true, Bool.not_false, Int.reduceEq, Int.reduceNe, Int.reduceLT, Int.reduceLE, Int.reduceGT, Int.reduceGE, e0, X_eql_nil_150]))
  refine HRoom_spec hv2 (by decide) ?_
  have c1 : decide (((2 * 128 : Nat) : Int) ≠ 256) = false := by decide
  (repeat (simp only [XP_extract0, XP_extract1, XP_extract2, XP_extract3, X_extract0, X_extract1, X_extract2, X_extract3, X_nilS, X_eql_nil_74, X_neq_nil_74, X_eql_nil_124, X_neq_nil_124, X_eql, X_neq, X_lss, X_leq, X_gtr, X_geq, X_not, X_min, X_max, X_len_27, X_len_9, X_len_79, XP_nilS, XP_eql, XP_neq, XP_lss, XP_leq, XP_gtr, XP_geq, XP_not, XP_min, XP_max, XP_len_27, XP_len_9, XP_eql_nil_74, X_str_eql, X_str_neq, XP_str_eql, XP_str_neq, GS, gs_u, decide_true, decide_false, Option.isNone_some, Option.isSome_some, Option.isNone_none, Option.isSome_none, eq_self, Bool.not_true, Bool.not_false, Int.reduceEq, Int.reduceNe, Int.reduceLT, Int.reduceLE, Int.reduceGT, Int.reduceGE, c1]))
  refine HRest_spec hv2 (by decide) ?_
  have c2 : decide (((2 + 2 * 2 : Nat) : Int) ≠ 6) = false := by decide
  (repeat (simp only [XP_extract0, XP_extract1, XP_extract2, XP_extract3, X_extract0, X_extract1, X_extract2, X_extract3, X_nilS, X_eql_nil_74, X_neq_nil_74, X_eql_nil_124, X_neq_nil_124, X_eql, X_neq, X_lss, X_leq, X_gtr, X_geq, X_not, X_min, X_max, X_len_27, X_len_9, X_len_79, XP_nilS, XP_eql, XP_neq, XP_lss, XP_leq, XP_gtr, XP_geq, XP_not, XP_min, XP_max, XP_len_27, XP_len_9, XP_eql_nil_74, X_str_eql, X_str_neq, XP_str_eql, XP_str_neq, GS, gs_u, decide_true, decide_false, Option.isNone_some, Option.isSome_some, Option.isNone_none, Option.isSome_none, eq_self, Bool.not_true, Bool.not_false, Int.reduceEq, Int.reduceNe, Int.reduceLT, Int.reduceLE, Int.reduceGT, Int.reduceGE, c2]))
  have hN := new_size 10
  have kn := kept_new (each := 2) (N := 10) (by decide)
  obtain ⟨l1, l2, l3⟩ := kept_load (d := Dk.new 10) (each := 2) rfl rfl kn
  refine HLoad_spec hv2 hd2 hok ?_
  intro u3 w3 hx3 ho3
  have hb3 := (own_bts ho3).1
  rw [l1, l3]
  rw [l2] at hb3
  obtain ⟨a3, c3, e3⟩ := Bts.slice hb3
  (repeat (simp only [XP_extract0, XP_extract1, XP_extract2, XP_extract3, X_extract0, X_extract1, X_extract2, X_extract3, X_nilS, X_eql_nil_74, X_neq_nil_74, X_eql_nil_124, X_neq_nil_124, X_eql, X_neq, X_lss, X_leq, X_gtr, X_geq, X_not, X_min, X_max, X_len_27, X_len_9, X_len_79, XP_nilS, XP_eql, XP_neq, XP_lss, XP_leq, XP_gtr, XP_geq, XP_not, XP_min, XP_max, XP_len_27, XP_len_9, XP_eql_nil_74, X_str_eql, X_str_neq, XP_str_eql, XP_str_neq, GS, gs_u, decide_true, decide_false, Option.isNone_some, Option.isSome_some, Option.isNone_none, Option.isSome_none, eq_self, Bool.not_true, Bool.not_false, Int.reduceEq, Int.reduceNe, Int.reduceLT, Int.reduceLE, Int.reduceGT, Int.reduceGE]))
  refine X_of (lit_abc _) ?_
  refine bts_conv [97, 98, 99] 3 rfl (by decide) ?_
  intro v4 w4 hx4 hb4 hk4
  have hd3 := hd2.ext hx3
  have hd4 := hd3.ext hx4
  have hv4 : HomeAt w4 bh b 2 := hx4.get (hx3.get hv2)
  have hx24 : Ext w2 w4 := hx3.trans hx4
  have hx04 : Ext w w4 := hx02.trans hx24
  have low4 : ∀ k, foot w4 b k → w.heap.size ≤ k := fun k hk => low2 k ((foot_x hx24 (hd2.lt b (foot_self _ _))).1 hk)
  rcases save_cases (each := 2) (bs := [97, 98, 99]) hd1.1 hok rfl rfl kn (by decide) (by decide) with ⟨s1, s2, s3, s4, s5, s6, s7, s8⟩ | ⟨_, _, h, _⟩
  case inr => exact absurd rfl h
  refine HSave_spec hv4 hd4 hok (by decide) hb4 (fun _ k hk => ⟨fun hf => ?_, (hk4 k hk).2⟩) ?_
  · have h1 := hd3.lt k ((foot_x hx4 (hd3.lt b (foot_self _ _))).1 hf)
    have h2 := (hk4 k hk).1
    omega
  intro w5 hd5 st5
  have hsz := hsave_size 2 (Dk.new 10) [97, 98, 99]
  generalize hsave 2 (Dk.new 10) [97, 98, 99] = r at s1 s2 s3 s4 s5 s6 s7 s8 hd5 hsz ⊢
  have hv5 : HomeAt w5 bh b 2 := st5.keep.get (hd4.notin hv4 (by decide) (by decide) (by decide)) hv4
  have hx05 := st5.out hx04 low4
  rw [s1]
  have r2 : r.1.read 2 = (padB [97, 98, 99], 0) := by
    have := read_at (d := r.1) (i := 2) (by rw [hsz]; decide)
    rw [show ((2 : Nat) : Int) = 2 from rfl] at this
    have hnow : r.1.now = r.1.safe := by unfold Dk.now; rw [s3]; rfl
    rw [this, if_neg (by rw [s2]; decide), hnow, List.getD_eq_getElem?_getD, s8 rfl 0 (by decide)]
    rfl
  refine Read_spec hd5 ?_
  intro v6 w6 hx6 ho6
  rw [r2] at ho6 ⊢
  (repeat (simp only [XP_extract0, XP_extract1, XP_extract2, XP_extract3, X_extract0, X_extract1, X_extract2, X_extract3, X_nilS, X_eql_nil_74, X_neq_nil_74, X_eql_nil_124, X_neq_nil_124, X_eql, X_neq, X_lss, X_leq, X_gtr, X_geq, X_not, X_min, X_max, X_len_27, X_len_9, X_len_79, XP_nilS, XP_eql, XP_neq, XP_lss, XP_leq, XP_gtr, XP_geq, XP_not, XP_min, XP_max, XP_len_27, XP_len_9, XP_eql_nil_74, X_str_eql, X_str_neq, XP_str_eql, XP_str_neq, GS, gs_u, decide_true, decide_false, Option.isNone_some, Option.isSome_some, Option.isNone_none, Option.isSome_none, eq_self, Bool.not_true, Bool.not_false, Int.reduceEq, Int.reduceNe, Int.reduceLT, Int.reduceLE, Int.reduceGT, Int.reduceGE]))
  obtain ⟨l1, l2, l3⟩ := kept_load (d := r.1) (each := 2) s2 s3 s4
  refine HLoad_spec (hx6.get hv5) (hd5.ext hx6) (by rw [hsz]; exact hok) ?_
  intro u7 w7 hx7 ho7
  have hb7 := (own_bts ho7).1
  rw [l1, l3]
  rw [l2] at hb7
  have hb6 := ((own_bts ho6).1).ext hx7
  obtain ⟨a6, c6, e6⟩ := Bts.slice hb6
  have len6 : (padB [97, 98, 99]).length = 128 := by decide +kernel
  rw [e3]
  (repeat (simp only [XP_extract0, XP_extract1, XP_extract2, XP_extract3, X_extract0, X_extract1, X_extract2, X_extract3, X_nilS, X_eql_nil_74, X_neq_nil_74, X_eql_nil_124, X_neq_nil_124, X_eql, X_neq, X_lss, X_leq, X_gtr, X_geq, X_not, X_min, X_max, X_len_27, X_len_9, X_len_79, XP_nilS, XP_eql, XP_neq, XP_lss, XP_leq, XP_gtr, XP_geq, XP_not, XP_min, XP_max, XP_len_27, XP_len_9, XP_eql_nil_74, X_str_eql, X_str_neq, XP_str_eql, XP_str_neq, GS, gs_u, decide_true, decide_false, Option.isNone_some, Option.isSome_some, Option.isNone_none, Option.isSome_none, eq_self, Bool.not_true, Bool.not_false, Int.reduceEq, Int.reduceNe, Int.reduceLT, Int.reduceLE, Int.reduceGT, Int.reduceGE]))
  have z0 : decide (((([] : List UInt8).length : Nat) : Int) = 0) = true := by decide
  have z1 : decide (((0 : Nat) : Int) = 0) = true := by decide
  rw [e6]
  have z2 : decide ((((padB [97, 98, 99]).length : Nat) : Int) = 128) = true := by rw [len6]; decide
  (repeat (simp only [XP_extract0, XP_extract1, XP_extract2, XP_extract3, X_extract0, X_extract1, X_extract2, X_extract3, X_nilS, X_eql_nil_74, X_neq_nil_74, X_eql_nil_124, X_neq_nil_124, X_eql, X_neq, X_lss, X_leq, X_gtr, X_geq, X_not, X_min, X_max, X_len_27, X_len_9, X_len_79, XP_nilS, XP_eql, XP_neq, XP_lss, XP_leq, XP_gtr, XP_geq, XP_not, XP_min, XP_max, XP_len_27, XP_len_9, XP_eql_nil_74, X_str_eql, X_str_neq, XP_str_eql, XP_str_neq, GS, gs_u, decide_true, decide_false, Option.isNone_some, Option.isSome_some, Option.isNone_none, Option.isSome_none, eq_self, Bool.not_true, Bool.not_false, Int.reduceEq, Int.reduceNe, Int.reduceLT, Int.reduceLE, Int.reduceGT, Int.reduceGE, z0, z1, e00, z2]))
  rw [← e6]
  obtain ⟨u, hu, hub, _⟩ := cut_hi Try.underlying27 info_5 hb6 (kh := .i64) (hj := 4) 4 rfl (by rw [len6]; decide)
  refine X_of (hu _) ?_
  refine X_str Try.underlying27 Try.underlying5 Try.underlying9 hub ?_
  have z3 : decide ((padB [97, 98, 99]).take 4 = [97, 98, 99, 0]) = true := by decide +kernel
  (repeat (simp only [XP_extract0, XP_extract1, XP_extract2, XP_extract3, X_extract0, X_extract1, X_extract2, X_extract3, X_nilS, X_eql_nil_74, X_neq_nil_74, X_eql_nil_124, X_neq_nil_124, X_eql, X_neq, X_lss, X_leq, X_gtr, X_geq, X_not, X_min, X_max, X_len_27, X_len_9, X_len_79, XP_nilS, XP_eql, XP_neq, XP_lss, XP_leq, XP_gtr, XP_geq, XP_not, XP_min, XP_max, XP_len_27, XP_len_9, XP_eql_nil_74, X_str_eql, X_str_neq, XP_str_eql, XP_str_neq, GS, gs_u, decide_true, decide_false, Option.isNone_some, Option.isSome_some, Option.isNone_none, Option.isSome_none, eq_self, Bool.not_true, Bool.not_false, Int.reduceEq, Int.reduceNe, Int.reduceLT, Int.reduceLE, Int.reduceGT, Int.reduceGE, str_lit2, str_toList, l8_beq, z3]))
  refine X_str Try.underlying27 Try.underlying5 Try.underlying9 hb7 ?_
  have z4 : decide (([97, 98, 99] : List UInt8) = [97, 98, 99]) = true := by decide +kernel
  have z5 : decide (((0 + 1 : Nat) : Int) = 1) = true := by decide
  (repeat (simp only [XP_extract0, XP_extract1, XP_extract2, XP_extract3, X_extract0, X_extract1, X_extract2, X_extract3, X_nilS, X_eql_nil_74, X_neq_nil_74, X_eql_nil_124, X_neq_nil_124, X_eql, X_neq, X_lss, X_leq, X_gtr, X_geq, X_not, X_min, X_max, X_len_27, X_len_9, X_len_79, XP_nilS, XP_eql, XP_neq, XP_lss, XP_leq, XP_gtr, XP_geq, XP_not, XP_min, XP_max, XP_len_27, XP_len_9, XP_eql_nil_74, X_str_eql, X_str_neq, XP_str_eql, XP_str_neq, GS, gs_u, decide_true, decide_false, Option.isNone_some, Option.isSome_some, Option.isNone_none, Option.isSome_none, eq_self, Bool.not_true, Bool.not_false, Int.reduceEq, Int.reduceNe, Int.reduceLT, Int.reduceLE, Int.reduceGT, Int.reduceGE, str_lit2, str_toList, l8_beq, z4, z5, e00]))
  exact hK _ ((hx05.trans hx6).trans hx7)
end Go.Proofs.Ytggggfcgnkllgaa
end
section
/- Rows of rows of bytes, as an argument; homes that are saved into while the power is on. -/
set_option linter.unusedVariables false
set_option linter.unusedSimpArgs false
namespace Go.Proofs.Ytggggfcgnkllgaa
open Go Go.Sh Go.RowKit Go.ChangeShapes Go.WideShapes Go.ChangeAt
attribute [local irreducible] X XU XP XR CALL loopS resC closS Value.okWide
theorem arg_bss {H : Type} {enc : TypeId × Value → H} {W : World} {base : Nat} {v : Value} {d : DataW H} {p : List MemPlace}
    (ok : Value.okWide Try.prog W .any base 70 v) (h : DataW.Trod enc Try.prog W 0 (fun _ => true) true 70 v d p) : ∃ l : List (Value × List UInt8), Row Prod.fst W v l ∧ ∀ x ∈ l, Bts W x.1 x.2 := by
  obtain ⟨a, n, c, rfl⟩ := okWide_slice Try.underlying70 ok
  exact TrC.row (f := Prod.fst) (Good := fun x => Bts W x.1 x.2) Try.underlying70 (by kernel_rfl) (fun es hes => by
    have : ∃ u, es = [u] := by
      rcases hes.slice Try.underlying27 with h | ⟨a, n, c, h, _⟩
      · exact ⟨_, h⟩
      · exact ⟨_, h⟩
    obtain ⟨u, rfl⟩ := this
    obtain ⟨bs, hb⟩ := TrC.bytes Try.underlying27 Try.underlying5 (by kernel_rfl) hes
    exact ⟨(u, bs), rfl, hb⟩) (TrC.of h)
structure Hst (n N : Nat) (d : Dk) (last : List UInt8) (gen i : Nat) : Prop where
  ok : d.ok
  size : d.safe.length = N
  hok : hok n N
  live : d.dead = false
  fuse : d.fuse = -1
  ws : d.ws = []
  kept : Kept n d.safe last gen
  le : gen ≤ i
  done : 0 ≤ d.done ∧ d.done ≤ 20000 * i
theorem hst_new {n N : Nat} (h : hok n N) : Hst n N (Dk.new N) [] 0 0 :=
  ⟨Dk.new_ok h.2.2.2, new_size N, h, rfl, rfl, rfl, kept_new h.2.2.1, Nat.le_refl _, by show (0 : Int) ≤ 0; omega, by show (0 : Int) ≤ _; omega⟩
theorem Hst.hok' {n N gen i : Nat} {d : Dk} {last : List UInt8} (h : Hst n N d last gen i) : Go.Proofs.Ytggggfcgnkllgaa.hok n d.safe.length := by rw [h.size]; exact h.hok
theorem hst_save {n N gen i : Nat} {d : Dk} {last bs : List UInt8} (h : Hst n N d last gen i) (hi : i < 100) (hb : bs.length ≤ n * 128) :
    (hsave n d bs).2 = 0 ∧ Hst n N (hsave n d bs).1 bs (gen + 1) (i + 1) ∧ (hsave n d bs).1.done = d.done + (((bs.length + 127) / 128 : Nat) : Int) + 3 ∧ (∀ s, 2 + 2 * n ≤ s → (hsave n d bs).1.safe[s]? = d.safe[s]?) := by
  have hgi := h.le
  have hdn := h.done
  have hn := h.hok
  rcases save_cases h.ok h.hok' h.live h.ws h.kept (bs := bs) (by omega) hb with ⟨s1, s2, s3, s4, s5, s6, s7, s8⟩ | ⟨_, _, h', _⟩
  · refine ⟨s1, ⟨hsave_ok h.ok _ _, (hsave_size _ _ _).trans h.size, h.hok, s2, s7 h.fuse, s3, s4, by omega, ?_⟩, s6 hdn.1 (by omega), s5⟩
    have s6 := s6 hdn.1 (by omega)
    have : (bs.length + 127) / 128 ≤ n := by omega
    have := hn.2.1
    omega
  · exact absurd h.fuse h'
end Go.Proofs.Ytggggfcgnkllgaa
end
section
/- What is known of a home while power fails again and again: plain Lean. -/
set_option linter.unusedSimpArgs false
set_option linter.unusedVariables false
namespace Go.Proofs.Ytggggfcgnkllgaa
open Go Go.Sh
theorem hwrite_ws4 (d : Dk) (t : Nat) (x : List UInt8) : (hwrite d t x).1.ws.length ≤ d.ws.length + (x.length + 127) / 128 := by
  have h := layAll_ws3 d t x
  unfold hwrite
  split
  · exact h
  · have := Dk.flush_ws (layAll d t x).1
    omega
theorem hsave_ws4 (each : Nat) (d : Dk) {bs : List UInt8} (h : bs.length ≤ 20000) : (hsave each d bs).1.ws.length ≤ d.ws.length + 160 := by
  have h1 := hwrite_ws4 d (2 + harea (hload each d) * each) bs
  have h2 := hwrite_ws4 (hwrite d (2 + harea (hload each d) * each) bs).1 (hpos (hload each d)) (layB (hnext (hload each d) bs))
  rw [layB_len] at h2
  unfold hsave
  repeat' split
  all_goals (try show d.ws.length ≤ _)
  all_goals omega
structure Cst (n N : Nat) (d : Dk) (last next : List UInt8) (gen i : Nat) : Prop where
  ok : d.ok
  size : d.safe.length = N
  hok : hok n N
  n8 : n ≤ 8
  ws : d.ws.length ≤ 200 * i
  is : (d.dead = false ∧ d.ws = [] ∧ Kept n d.safe last gen ∧ next = last ∧ gen ≤ i) ∨
    (d.dead = true ∧ gen + 1 ≤ i ∧ ∀ fates, ∃ l g, Kept n (d.crash fates).safe l g ∧ (l = last ∨ l = next) ∧ (g = gen ∨ g = gen + 1) ∧ (g = gen → l = last))
section
variable {n N gen i : Nat} {d : Dk} {last next B : List UInt8}
theorem Cst.hok' (h : Cst n N d last next gen i) : Go.Proofs.Ytggggfcgnkllgaa.hok n d.safe.length := by rw [h.size]; exact h.hok
theorem cst_new (h : hok n N) (hn : n ≤ 8) : Cst n N (Dk.new N) [] [] 0 0 :=
  ⟨Dk.new_ok h.2.2.2, by simp [Dk.new], h, hn, by show 0 ≤ _; omega, .inl ⟨rfl, rfl, kept_new h.2.2.1, rfl, by omega⟩⟩
theorem cst_same (h : Cst n N d last next gen i) : Cst n N d last next gen (i + 1) := by
  refine ⟨h.ok, h.size, h.hok, h.n8, by have := h.ws; omega, ?_⟩
  rcases h.is with ⟨a, b, c, e, f⟩ | ⟨a, b, c⟩
  · exact .inl ⟨a, b, c, e, by omega⟩
  · exact .inr ⟨a, by omega, c⟩
theorem cst_cut (h : Cst n N d last next gen i) {x : Int} (hx : x ≤ 9223372036854775807) : Cst n N (d.cut x) last next gen (i + 1) := by
  have hok := Dk.cut_ok h.ok hx
  rcases h.is with ⟨a, b, c, e, f⟩ | ⟨a, b, c⟩
  · have e1 : d.cut x = { d with fuse := max x (-1) } := by unfold Dk.cut; rw [if_neg (by rw [a]; decide)]
    rw [e1] at hok ⊢
    exact ⟨hok, h.size, h.hok, h.n8, by have := h.ws; show d.ws.length ≤ _; omega, .inl ⟨a, b, c, e, by omega⟩⟩
  · have e1 : d.cut x = d := by unfold Dk.cut; rw [if_pos a]
    rw [e1]
    exact ⟨h.ok, h.size, h.hok, h.n8, by have := h.ws; omega, .inr ⟨a, by omega, c⟩⟩
theorem cst_crash (h : Cst n N d last next gen i) (fates : List Int) :
    ∃ l g, (l = last ∨ l = next) ∧ (g = gen ∨ g = gen + 1) ∧ (g = gen → l = last) ∧ Cst n N (d.crash fates) l l g (i + 1) ∧ (d.dead = false → l = last) ∧ Kept n (d.crash fates).safe l g := by
  have hok := Dk.crash_ok h.ok fates
  have hsz := Dk.crash_size d fates
  have mk : ∀ l g, Kept n (d.crash fates).safe l g → g ≤ i + 1 → Cst n N (d.crash fates) l l g (i + 1) := fun l g k hg =>
    ⟨hok, hsz.trans h.size, h.hok, h.n8, by show 0 ≤ _; omega, .inl ⟨rfl, rfl, k, rfl, hg⟩⟩
  rcases h.is with ⟨a, b, c, e, f⟩ | ⟨a, b, c⟩
  · have ec : (d.crash fates).safe = d.safe := by
      show tears fates 0 d.safe d.ws = _
      rw [b]; rfl
    exact ⟨last, gen, .inl rfl, .inl rfl, fun _ => rfl, mk _ _ (by rw [ec]; exact c) (by omega), fun _ => rfl, by rw [ec]; exact c⟩
  · obtain ⟨l, g, k, h1, h2, h3⟩ := c fates
    exact ⟨l, g, h1, h2, h3, mk _ _ k (by omega), fun h => absurd h (by rw [a]; decide), k⟩
theorem cst_save (h : Cst n N d last next gen i) (hi : i < 100) (hB : B.length ≤ n * 128) :
    ((hsave n d B).2 = 0 ∧ (hsave n d B).1.dead = false ∧ Cst n N (hsave n d B).1 B B (gen + 1) (i + 1)) ∨
    ((hsave n d B).2 = 6 ∧ (hsave n d B).1.dead = true ∧ ¬ (d.dead = false ∧ d.fuse = -1) ∧ Cst n N (hsave n d B).1 last (if next = last then B else next) gen (i + 1)) := by
  have hn8 := h.n8
  have hok := hsave_ok h.ok n B
  have hsz := (hsave_size n d B).trans h.size
  have hws := hsave_ws4 n d (bs := B) (by omega)
  have hw := h.ws
  rcases h.is with ⟨a, b, c, e, f⟩ | ⟨a, b, c⟩
  · rcases save_cases h.ok h.hok' a b c (bs := B) (by omega) hB with ⟨s1, s2, s3, s4, _⟩ | ⟨s1, s2, s3, s4⟩
    · exact .inl ⟨s1, s2, hok, hsz, h.hok, hn8, by omega, .inl ⟨s2, s3, s4, rfl, by omega⟩⟩
    · refine .inr ⟨s1, s2, fun h => s3 h.2, hok, hsz, h.hok, hn8, by omega, .inr ⟨s2, by omega, fun fates => ?_⟩⟩
      rw [if_pos e]
      rcases s4 fates with k | k
      · exact ⟨last, gen, k, .inl rfl, .inl rfl, fun _ => rfl⟩
      · exact ⟨B, gen + 1, k, .inr rfl, .inr rfl, fun h => absurd h (by omega)⟩
  · have es := dead_save (each := n) a hB
    rw [es]
    refine .inr ⟨rfl, a, fun h' => absurd h'.1 (by rw [a]; decide), h.ok, h.size, h.hok, hn8, by show d.ws.length ≤ _; omega, .inr ⟨a, by omega, fun fates => ?_⟩⟩
    obtain ⟨l, g, k, h1, h2, h3⟩ := c fates
    refine ⟨l, g, k, ?_, h2, h3⟩
    by_cases hnl : next = last
    · rcases h1 with h1 | h1
      · exact .inl h1
      · exact .inl (h1.trans hnl)
    · rw [if_neg hnl]; exact h1
end
end Go.Proofs.Ytggggfcgnkllgaa
end
section
/- Rows of the call's own whose items are structs, and what is appended to them. -/
set_option linter.unusedVariables false
set_option linter.unusedSimpArgs false
namespace Go.Sh
open Go Go.RowKit
theorem add_add (a : Addr) (x y : Nat) : (a.add x).add y = a.add (x + y) := by
  unfold Addr.add
  by_cases hx : x = 0
  · subst hx; simp
  · by_cases hy : y = 0
    · subst hy; simp
    · simp [hx, hy]; try omega
theorem flatten_get {α : Type} {k : Nat} (hk : 0 < k) : ∀ (l : List (List α)), (∀ s ∈ l, s.length = k) → ∀ p, l.flatten[p]? = (l[p / k]?).bind (fun s => s[p % k]?) := by
  intro l
  induction l with
  | nil => intro _ p; simp
  | cons s l ih =>
    intro h p
    have hs : s.length = k := h s (by simp)
    rw [List.flatten_cons]
    by_cases hp : p < k
    · rw [List.getElem?_append_left (by omega), Nat.div_eq_of_lt hp, Nat.mod_eq_of_lt hp]
      rfl
    · rw [List.getElem?_append_right (by omega), hs, ih (fun t ht => h t (by simp [ht]))]
      have e1 : p / k = (p - k) / k + 1 := by
        have : p = (p - k) + k := by omega
        conv => lhs; rw [this]
        rw [Nat.add_div_right _ hk]
      have e2 : p % k = (p - k) % k := by
        have : p = (p - k) + k := by omega
        conv => lhs; rw [this]
        rw [Nat.add_mod_right]
      rw [e1, e2]
      rfl
def cellsK {α : Type} (f : α → List Value) (xs : List α) : List Value := (xs.map f).flatten
theorem cellsK_append {α : Type} (f : α → List Value) (xs ys : List α) : cellsK f (xs ++ ys) = cellsK f xs ++ cellsK f ys := by simp [cellsK]
theorem cellsK_len {α : Type} {k : Nat} {f : α → List Value} (hf : ∀ x, (f x).length = k) (xs : List α) : (cellsK f xs).length = xs.length * k := by
  unfold cellsK
  induction xs with
  | nil => simp
  | cons x xs ih => simp only [List.map_cons, List.flatten_cons, List.length_append, ih, hf, List.length_cons, Nat.succ_mul]; omega
theorem cellsK_get {α : Type} {k : Nat} {f : α → List Value} (hk : 0 < k) (hf : ∀ x, (f x).length = k) (xs : List α) (p : Nat) : (cellsK f xs)[p]? = (xs[p / k]?).bind (fun x => (f x)[p % k]?) := by
  unfold cellsK
  rw [flatten_get hk _ (fun s hs => by obtain ⟨x, _, rfl⟩ := List.mem_map.1 hs; exact hf x)]
  rw [List.getElem?_map]
  cases xs[p / k]? <;> rfl
theorem cellsK_at {α : Type} {k : Nat} {f : α → List Value} (hk : 0 < k) (hf : ∀ x, (f x).length = k) {xs : List α} {j i : Nat} {x : α} {u : Value} (hx : xs[j]? = some x) (hu : (f x)[i]? = some u) : (cellsK f xs)[j * k + i]? = some u := by
  have hi : i < k := by
    have := (List.getElem?_eq_some_iff.1 hu).1
    rw [hf] at this; exact this
  rw [cellsK_get hk hf]
  have e1 : (j * k + i) / k = j := by rw [Nat.add_comm, Nat.add_mul_div_right _ _ hk, Nat.div_eq_of_lt hi, Nat.zero_add]
  have e2 : (j * k + i) % k = i := by rw [Nat.add_comm, Nat.add_mul_mod_self_right, Nat.mod_eq_of_lt hi]
  rw [e1, e2, hx]
  exact hu
/-- A row of the call's own. -/
def OwnK {α : Type} (k e : Nat) (f : α → List Value) (w : World) (base : Nat) (v : Value) (xs : List α) : Prop := w.ownsRow base e k v xs.length (cellsK f xs)
section
variable {α : Type} {k e : Nat} {f : α → List Value} {w w' : World} {base : Nat} {v : Value} {xs ys : List α}
theorem OwnK.rowK (hk : 0 < k) (hf : ∀ x, (f x).length = k) (h : OwnK k e f w base v xs) : RowK k f w v xs := by
  rcases id h.2 with ⟨rfl, h0⟩ | ⟨g, cap, cur, rfl, hg, hh, hm, hmx, hs, ht⟩
  · have : xs = [] := List.eq_nil_of_length_eq_zero h0
    subst this
    exact ⟨none, 0, rfl, Nat.le_refl _, by omega, fun h => absurd h (by simp)⟩
  · refine ⟨_, cap, rfl, hm, by simpa [maxLen] using hmx, fun _ => ⟨_, rfl, fun j x hx i u hu => ?_⟩⟩
    have hc := cellsK_at hk hf hx hu
    have hi : i < k := by
      have := (List.getElem?_eq_some_iff.1 hu).1
      rw [hf] at this; exact this
    have hj := (List.getElem?_eq_some_iff.1 hx).1
    have hlt : j * k + i < xs.length * k := by
      have := Nat.mul_le_mul_right k (Nat.succ_le_of_lt hj)
      rw [Nat.succ_mul] at this
      omega
    rw [← ht, List.getElem?_take, if_pos hlt] at hc
    rw [add_add, Go.Proofs.Ytggggfcgnkllgaa.add_plain, Nat.zero_add, cell_blk hh]
    simpa using hc
theorem RowK.cells (hk : 0 < k) (hf : ∀ x, (f x).length = k) (h : RowK k f w v xs) : ∃ a c, v = .slice a xs.length c ∧ (0 < xs.length → ∃ ad, a = some ad ∧ ∀ j u, (cellsK f xs)[j]? = some u → w.cell? (ad.add j) = some u) := by
  obtain ⟨a, c, rfl, h1, h2, h3⟩ := h
  refine ⟨a, c, rfl, fun h0 => ?_⟩
  obtain ⟨ad, rfl, hc⟩ := h3 h0
  refine ⟨ad, rfl, fun j u hu => ?_⟩
  rw [cellsK_get hk hf] at hu
  obtain ⟨x, hx, hu⟩ := Option.bind_eq_some_iff.1 hu
  have := hc _ _ hx _ _ hu
  rw [add_add] at this
  rw [show j = j / k * k + j % k by rw [Nat.mul_comm]; exact (Nat.div_add_mod j k).symm]
  exact this
theorem RowK.ofK (hk : 0 < k) (hf : ∀ x, (f x).length = k) {g : Nat} {T : TypeId} {fr : Nat × Nat} (hg : w.heap[g]? = some (.cells (cellsK f xs).toArray T fr)) {n : Nat} (hn : xs.length = n) (hmx : n ≤ 9223372036854775807) : RowK k f w (.slice (some ⟨g, 0, none⟩) n n) xs := by
  subst hn
  refine ⟨_, _, rfl, Nat.le_refl _, hmx, fun _ => ⟨_, rfl, fun j x hx i u hu => ?_⟩⟩
  have hc := cellsK_at hk hf hx hu
  rw [add_add, Go.Proofs.Ytggggfcgnkllgaa.add_plain, Nat.zero_add, cell_blk hg]
  simpa using hc
theorem X_appendK {P : Program} {t U : TypeId} {bytes : Nat} {z : Value} {K : Value → World → Prop} (ht : P.underlying t = some (.slice e)) (hE : El P e k z bytes) (hk : 0 < k) (hf : ∀ x, (f x).length = k) (h1 : ∀ x ∈ ys, ∀ u ∈ f x, u.oneCell' = true)
    (hown : OwnK k e f w base v xs) {y : Value} (hy : RowK k f w y ys) (hb : (xs.length + ys.length) * bytes ≤ 140737488355328) (hb0 : 0 < bytes) (hbase : base ≤ w.heap.size)
    (h : ∀ v' w1, OwnK k e f w1 base v' (xs ++ ys) → Keep (fun q => some q = v.ownBlock) w w1 → K v' w1) : X P (Builtin.append_ #[t, t] U #[v, y]) w K := by
  obtain ⟨a, c, rfl, h3⟩ := hy.cells hk hf
  have fin : ∀ v' w1, w1.ownsRow base e k v' (xs.length + ys.length) (cellsK f xs ++ cellsK f ys) → Keep (fun q => some q = v.ownBlock) w w1 → K v' w1 := fun v' w1 ho hk' => h v' w1 (by
    unfold OwnK
    rw [List.length_append, cellsK_append]
    exact ho) hk'
  have hone : ∀ u ∈ cellsK f ys, u.oneCell' = true := by
    intro u hu
    unfold cellsK at hu
    obtain ⟨s, hs, hu⟩ := List.mem_flatten.1 hu
    obtain ⟨x, hx, rfl⟩ := List.mem_map.1 hs
    exact h1 x hx u hu
  by_cases h0 : 0 < ys.length
  · obtain ⟨ad, rfl, hc⟩ := h3 h0
    exact X_append ht hE hk hown (news := cellsK f ys) (cellsK_len hf ys) hc hone hb hb0 hbase fin
  · have hnil : ys = [] := List.eq_nil_of_length_eq_zero (by omega)
    subst hnil
    have fin0 : K v w := by
      refine fin v w ?_ (Keep.refl _ _)
      have e : cellsK f ([] : List α) = [] := rfl
      rw [e, List.append_nil, List.length_nil, Nat.add_zero]
      exact hown
    cases a with
    | none => exact X_append_none ht hE hown fin0
    | some ad => exact X_append ht hE hk hown (news := []) (m := 0) (by simp) (by simp) (by simp) (by simpa using hb) hb0 hbase (fun v' w1 ho hk' => fin v' w1 (by
        have e : cellsK f ([] : List α) = [] := rfl
        rw [e]
        exact ho) hk')
theorem OwnK.keep {D : Nat → Prop} (h : OwnK k e f w base v xs) (kp : Keep D w w') (hd : ∀ g, v.ownBlock = some g → ¬ D g) : OwnK k e f w' base v xs := own_keepD h kp hd
theorem OwnK.ext (h : OwnK k e f w base v xs) (kp : Ext w w') : OwnK k e f w' base v xs := own_extD h kp
theorem ownK_nil (w : World) (base : Nat) : OwnK k e f w base (.slice none 0 0) ([] : List α) := World.ownsRow_nil w base e k
theorem ownK_empty (w : World) : OwnK k e f (newB w #[] e) w.heap.size (.slice (some ⟨w.heap.size, 0, none⟩) 0 0) ([] : List α) :=
  ⟨by simp [cellsK], .inr ⟨w.heap.size, 0, #[], rfl, Nat.le_refl _, newB_get _ _ _, Nat.le_refl _, by simp [maxLen], by simp, by simp [cellsK]⟩⟩
end
end Go.Sh
end
