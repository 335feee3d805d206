/- A disk in memory: its blocks, and the steps that change them. -/
import Derived.Test.YtggggfcgnkllgaaFoot
import Derived.Test.YtggggfcgnkllgaaDiskNum
import Derived.Test.YtggggfcgnkllgaaT7
import Derived.Test.YtggggfcgnkllgaaRow
set_option linter.unusedSimpArgs false
set_option linter.unusedVariables false
namespace Go.Proofs.Ytggggfcgnkllgaa
open Go Go.Sh Go.RowKit
attribute [local irreducible] X XU XP XR CALL loopS resC closS

def wcs (p : Nat × List UInt8) : List Value := .int .i64 (p.1 : Int) :: B8 p.2
def wsL (ws : List (Nat × List UInt8)) : List Value := (ws.map wcs).flatten
theorem wcs_all {ws : List (Nat × List UInt8)} (h : ∀ p ∈ ws, p.2.length = 128) : ∀ s ∈ ws.map wcs, s.length = 129 := by
  intro s hs
  obtain ⟨p, hp, rfl⟩ := List.mem_map.1 hs
  simp [wcs, h p hp]
theorem wsL_len {ws : List (Nat × List UInt8)} (h : ∀ p ∈ ws, p.2.length = 128) : (wsL ws).length = ws.length * 129 := by
  unfold wsL
  rw [flat_len (wcs_all h), List.length_map]
theorem wsL_at {ws : List (Nat × List UInt8)} (h : ∀ p ∈ ws, p.2.length = 128) {i : Nat} (hi : i < ws.length) : ((wsL ws).drop (i * 129)).take 129 = wcs ws[i] := by
  unfold wsL
  rw [flat_at (wcs_all h) (by simpa using hi), List.getElem_map]
theorem wsL_append (a b : List (Nat × List UInt8)) : wsL (a ++ b) = wsL a ++ wsL b := by simp [wsL]
theorem wcs_one (p : Nat × List UInt8) : ∀ v ∈ wcs p, v.oneCell' = true := by
  intro v hv
  simp only [wcs, List.mem_cons] at hv
  rcases hv with rfl | hv
  · rfl
  · exact B8_one v hv
/-- A disk's parts, however they go together. -/
structure Raw where
  now : List (List UInt8)
  safe : List (List UInt8)
  ws : List (Nat × List UInt8)
  dead : Bool
  fuse : Int
  done : Int
structure RawAt (w : World) (b : Nat) (r : Raw) (nv sv wv : Value) : Prop where
  blk : w.heap[b]? = some (.cells #[nv, sv, wv, .bool r.dead, .int .i64 r.fuse, .int .i64 r.done] 183 (0, 0))
  now : w.ownsRow 0 184 128 nv r.now.length (B8 r.now.flatten)
  safe : w.ownsRow 0 184 128 sv r.safe.length (B8 r.safe.flatten)
  ws : w.ownsRow 0 186 129 wv r.ws.length (wsL r.ws)
  ne : ∀ g, nv.ownBlock = some g → sv.ownBlock ≠ some g
  n128 : ∀ s ∈ r.now, s.length = 128
  s128 : ∀ s ∈ r.safe, s.length = 128
  w128 : ∀ p ∈ r.ws, p.2.length = 128
def Dk.raw (d : Dk) : Raw := ⟨d.now, d.safe, d.ws, d.dead, d.fuse, d.done⟩
def DiskAt (w : World) (b : Nat) (d : Dk) : Prop := d.ok ∧ ∃ nv sv wv, RawAt w b (Dk.raw d) nv sv wv

theorem RawAt.foot {w : World} {b : Nat} {r : Raw} {nv sv wv : Value} (h : RawAt w b r nv sv wv) {k : Nat} : foot w b k ↔ k = b ∨ nv.ownBlock = some k ∨ sv.ownBlock = some k ∨ wv.ownBlock = some k := by
  rw [foot_cells h.blk]
  simp [Value.ownBlock]
theorem RawAt.lt {w : World} {b : Nat} {r : Raw} {nv sv wv : Value} (h : RawAt w b r nv sv wv) {k : Nat} (hk : Go.Sh.foot w b k) : k < w.heap.size := by
  rcases h.foot.1 hk with rfl | h1 | h1 | h1
  · exact lt_of_blk h.blk
  · exact (h.now.lt k h1).2
  · exact (h.safe.lt k h1).2
  · exact (h.ws.lt k h1).2
theorem RawAt.keep {w w' : World} {b : Nat} {r : Raw} {nv sv wv : Value} {D : Nat → Prop} (h : RawAt w b r nv sv wv) (k : Keep D w w') (hd : ∀ k, Go.Sh.foot w b k → ¬ D k) : RawAt w' b r nv sv wv :=
  ⟨k.get (hd b (foot_self w b)) h.blk, own_keepD h.now k (fun g hg => hd g (h.foot.2 (.inr (.inl hg)))), own_keepD h.safe k (fun g hg => hd g (h.foot.2 (.inr (.inr (.inl hg))))),
    own_keepD h.ws k (fun g hg => hd g (h.foot.2 (.inr (.inr (.inr hg))))), h.ne, h.n128, h.s128, h.w128⟩
theorem RawAt.ext {w w' : World} {b : Nat} {r : Raw} {nv sv wv : Value} (h : RawAt w b r nv sv wv) (k : Ext w w') : RawAt w' b r nv sv wv := h.keep k (fun _ _ h => h)
theorem RawAt.b_ne {w : World} {b : Nat} {r : Raw} {nv sv wv : Value} (h : RawAt w b r nv sv wv) : nv.ownBlock ≠ some b ∧ sv.ownBlock ≠ some b ∧ wv.ownBlock ≠ some b :=
  ⟨own_neT h.now h.blk (by decide), own_neT h.safe h.blk (by decide), own_neT h.ws h.blk (by decide)⟩
theorem DiskAt.lt {w : World} {b : Nat} {d : Dk} (h : DiskAt w b d) : ∀ k, Go.Sh.foot w b k → k < w.heap.size := fun k hk => by
  obtain ⟨_, nv, sv, wv, h⟩ := h
  exact h.lt hk
theorem DiskAt.keep {w w' : World} {b : Nat} {d : Dk} {D : Nat → Prop} (h : DiskAt w b d) (k : Keep D w w') (hd : ∀ k, Go.Sh.foot w b k → ¬ D k) : DiskAt w' b d := by
  obtain ⟨ho, nv, sv, wv, h⟩ := h
  exact ⟨ho, nv, sv, wv, h.keep k hd⟩
theorem DiskAt.ext {w w' : World} {b : Nat} {d : Dk} (h : DiskAt w b d) (k : Ext w w') : DiskAt w' b d := h.keep k (fun _ _ h => h)

/-- The struct's own cells are written. -/
theorem RawAt.put {w : World} {b : Nat} {r : Raw} {nv sv wv : Value} (h : RawAt w b r nv sv wv) {cs' : Array Value} (r' : Raw) (e1 : r'.now = r.now) (e2 : r'.safe = r.safe) (e3 : r'.ws = r.ws)
    (e : cs' = #[nv, sv, wv, .bool r'.dead, .int .i64 r'.fuse, .int .i64 r'.done]) : RawAt (setAt w b cs' 183 (0, 0)) b r' nv sv wv ∧ Step b w (setAt w b cs' 183 (0, 0)) := by
  have k := setAt_keep w b cs' 183 (0, 0)
  have hb := setAt_same (cs := cs') (T := 183) (fr := (0, 0)) (lt_of_blk h.blk)
  obtain ⟨n1, n2, n3⟩ := h.b_ne
  have hr : RawAt (setAt w b cs' 183 (0, 0)) b r' nv sv wv := by
    refine ⟨by rw [hb, e], ?_, ?_, ?_, h.ne, by rw [e1]; exact h.n128, by rw [e2]; exact h.s128, by rw [e3]; exact h.w128⟩
    · rw [e1]; exact own_keepD h.now k (fun g hg hgb => n1 (by rw [hg, hgb]))
    · rw [e2]; exact own_keepD h.safe k (fun g hg hgb => n2 (by rw [hg, hgb]))
    · rw [e3]; exact own_keepD h.ws k (fun g hg hgb => n3 (by rw [hg, hgb]))
  refine ⟨hr, k.mono (fun i _ hi => by subst hi; exact foot_self w i), fun k' hk' => .inl ?_⟩
  exact h.foot.2 (hr.foot.1 hk')
/-- A sector of the call's own: where it lies, and what writing its first bytes does. -/
theorem own_sec {w : World} {base : Nat} {v : Value} {l : List (List UInt8)} (ho : w.ownsRow base 184 128 v l.length (B8 l.flatten)) (h : ∀ s ∈ l, s.length = 128) {i : Nat} (hi : i < l.length) :
    ∃ g cap cur, v = .slice (some ⟨g, 0, none⟩) l.length cap ∧ w.heap[g]? = some (.cells cur 184 (0, 0)) ∧ i * 128 + 128 ≤ cur.size ∧ (cur.toList.drop (i * 128)).take 128 = B8 l[i] ∧
      ∀ x : List UInt8, x.length ≤ 128 → (setAt w g (cur.toList.take (i * 128) ++ B8 x ++ cur.toList.drop (i * 128 + (B8 x).length)).toArray 184 (0, 0)).ownsRow base 184 128 v (l.set i (x ++ l[i].drop x.length)).length (B8 (l.set i (x ++ l[i].drop x.length)).flatten) := by
  have hfl := flat_len h
  rcases id ho.2 with ⟨_, h0⟩ | ⟨g, cap, cur, hv, hg, hh, hn, hm, hs, ht⟩
  · omega
  · have hcur : l.length * 128 ≤ cur.size := by omega
    have hti : cur.toList.take (l.length * 128) = B8 l.flatten := ht
    have hat : (cur.toList.drop (i * 128)).take 128 = B8 l[i] := by
      have e := congrArg (fun x => (x.drop (i * 128)).take 128) hti
      rw [List.drop_take, List.take_take, show min 128 (l.length * 128 - i * 128) = 128 by omega] at e
      rw [e]
      unfold B8
      rw [← List.map_drop, ← List.map_take, flat_at h hi]
    refine ⟨g, cap, cur, hv, hh, by omega, hat, fun x hx => ?_⟩
    have hlen : (l.set i (x ++ l[i].drop x.length)).length = l.length := List.length_set
    have hli := h _ (List.getElem_mem hi)
    have h' : ∀ s ∈ l.set i (x ++ l[i].drop x.length), s.length = 128 := by
      refine set_all128 h i ?_
      rw [List.length_append, List.length_drop]
      omega
    refine ⟨?_, .inr ⟨g, cap, _, by rw [hlen]; exact hv, hg, setAt_same (lt_of_blk hh), by rw [hlen]; exact hn, hm, ?_, ?_⟩⟩
    · rw [B8_length, flat_len h', hlen]
    · rw [List.size_toArray, splice_len _ _ _ (by simp; omega)]
      simpa using hs
    · rw [hlen, flat_put h hi x hx, B8_append, B8_append]
      have t1 : B8 (l.flatten.take (i * 128)) = cur.toList.take (i * 128) := by
        have e := congrArg (fun x => x.take (i * 128)) hti
        rw [List.take_take, show min (i * 128) (l.length * 128) = i * 128 by omega] at e
        rw [e]; unfold B8; rw [List.map_take]
      have t2 : B8 (l.flatten.drop (i * 128 + x.length)) = (cur.toList.take (l.length * 128)).drop (i * 128 + x.length) := by
        rw [hti]; unfold B8; rw [List.map_drop]
      rw [t1, t2, B8_length]
      have e1 : (cur.toList.take (i * 128) ++ B8 x).length = i * 128 + x.length := by
        rw [List.length_append, List.length_take, B8_length, Array.length_toList]; omega
      show ((cur.toList.take (i * 128) ++ B8 x ++ cur.toList.drop (i * 128 + x.length))).take (l.length * 128) = _
      rw [List.take_append, List.take_of_length_le (by omega), e1, List.drop_take]
/-- A sector as it is now. -/
theorem RawAt.now_at {w : World} {b : Nat} {r : Raw} {nv sv wv : Value} (h : RawAt w b r nv sv wv) {i : Nat} (hi : i < r.now.length) :
    ∃ g cap cur, nv = .slice (some ⟨g, 0, none⟩) r.now.length cap ∧ w.heap[g]? = some (.cells cur 184 (0, 0)) ∧ i * 128 + 128 ≤ cur.size ∧ (cur.toList.drop (i * 128)).take 128 = B8 r.now[i] ∧
      ∀ x : List UInt8, x.length ≤ 128 → RawAt (setAt w g (cur.toList.take (i * 128) ++ B8 x ++ cur.toList.drop (i * 128 + (B8 x).length)).toArray 184 (0, 0)) b { r with now := r.now.set i (x ++ r.now[i].drop x.length) } nv sv wv ∧
        Step b w (setAt w g (cur.toList.take (i * 128) ++ B8 x ++ cur.toList.drop (i * 128 + (B8 x).length)).toArray 184 (0, 0)) := by
  obtain ⟨g, cap, cur, hv, hh, h1, h2, h3⟩ := own_sec h.now h.n128 hi
  refine ⟨g, cap, cur, hv, hh, h1, h2, fun x hx => ?_⟩
  have hown := h3 x hx
  have hnb : nv.ownBlock = some g := by rw [hv]; rfl
  generalize (cur.toList.take (i * 128) ++ B8 x ++ cur.toList.drop (i * 128 + (B8 x).length)).toArray = cs' at hown ⊢
  have k := setAt_keep w g cs' 184 (0, 0)
  obtain ⟨n1, n2, n3⟩ := h.b_ne
  have hgb : ¬ b = g := fun e => n1 (by rw [hnb, e])
  have hr : RawAt (setAt w g cs' 184 (0, 0)) b { r with now := r.now.set i (x ++ r.now[i].drop x.length) } nv sv wv := by
    refine ⟨k.get hgb h.blk, hown, own_keepD h.safe k (fun g' hg' e => h.ne g hnb (by rw [hg', e])), own_keepD h.ws k (fun g' hg' e => own_neO h.now h.ws (by decide) hnb (by rw [hg', e])), h.ne, ?_, h.s128, h.w128⟩
    refine set_all128 h.n128 i ?_
    have hli := h.n128 _ (List.getElem_mem hi)
    rw [List.length_append, List.length_drop]
    omega
  refine ⟨hr, k.mono (fun j _ hj => by rw [hj]; exact h.foot.2 (.inr (.inl hnb))), fun k' hk' => .inl ?_⟩
  exact h.foot.2 (hr.foot.1 hk')
/-- A sector as it was safe last. -/
theorem RawAt.safe_at {w : World} {b : Nat} {r : Raw} {nv sv wv : Value} (h : RawAt w b r nv sv wv) {i : Nat} (hi : i < r.safe.length) :
    ∃ g cap cur, sv = .slice (some ⟨g, 0, none⟩) r.safe.length cap ∧ w.heap[g]? = some (.cells cur 184 (0, 0)) ∧ i * 128 + 128 ≤ cur.size ∧ (cur.toList.drop (i * 128)).take 128 = B8 r.safe[i] ∧
      ∀ x : List UInt8, x.length ≤ 128 → RawAt (setAt w g (cur.toList.take (i * 128) ++ B8 x ++ cur.toList.drop (i * 128 + (B8 x).length)).toArray 184 (0, 0)) b { r with safe := r.safe.set i (x ++ r.safe[i].drop x.length) } nv sv wv ∧
        Step b w (setAt w g (cur.toList.take (i * 128) ++ B8 x ++ cur.toList.drop (i * 128 + (B8 x).length)).toArray 184 (0, 0)) := by
  obtain ⟨g, cap, cur, hv, hh, h1, h2, h3⟩ := own_sec h.safe h.s128 hi
  refine ⟨g, cap, cur, hv, hh, h1, h2, fun x hx => ?_⟩
  have hown := h3 x hx
  have hnb : sv.ownBlock = some g := by rw [hv]; rfl
  generalize (cur.toList.take (i * 128) ++ B8 x ++ cur.toList.drop (i * 128 + (B8 x).length)).toArray = cs' at hown ⊢
  have k := setAt_keep w g cs' 184 (0, 0)
  obtain ⟨n1, n2, n3⟩ := h.b_ne
  have hgb : ¬ b = g := fun e => n2 (by rw [hnb, e])
  have hr : RawAt (setAt w g cs' 184 (0, 0)) b { r with safe := r.safe.set i (x ++ r.safe[i].drop x.length) } nv sv wv := by
    refine ⟨k.get hgb h.blk, own_keepD h.now k (fun g' hg' e => h.ne g' hg' (by rw [hnb, e])), hown, own_keepD h.ws k (fun g' hg' e => own_neO h.safe h.ws (by decide) hnb (by rw [hg', e])), h.ne, h.n128, ?_, h.w128⟩
    refine set_all128 h.s128 i ?_
    have hli := h.s128 _ (List.getElem_mem hi)
    rw [List.length_append, List.length_drop]
    omega
  refine ⟨hr, k.mono (fun j _ hj => by rw [hj]; exact h.foot.2 (.inr (.inr (.inl hnb)))), fun k' hk' => .inl ?_⟩
  exact h.foot.2 (hr.foot.1 hk')
/-- A write that is not safe. -/
theorem RawAt.ws_at {w : World} {b : Nat} {r : Raw} {nv sv wv : Value} (h : RawAt w b r nv sv wv) {i : Nat} (hi : i < r.ws.length) :
    ∃ g cap cur, wv = .slice (some ⟨g, 0, none⟩) r.ws.length cap ∧ w.heap[g]? = some (.cells cur 186 (0, 0)) ∧ (cur.toList.drop (i * 129)).take 129 = wcs r.ws[i] := by
  rcases id h.ws.2 with ⟨_, h0⟩ | ⟨g, cap, cur, hv, hg, hh, hn, hm, hs, ht⟩
  · omega
  · refine ⟨g, cap, cur, hv, hh, ?_⟩
    have e := congrArg (fun x => (x.drop (i * 129)).take 129) ht
    rw [List.drop_take, List.take_take, show min 129 (r.ws.length * 129 - i * 129) = 129 by omega, wsL_at h.w128 hi] at e
    exact e
/-- One more write, once it is appended. -/
theorem RawAt.append {w w1 : World} {b : Nat} {r : Raw} {nv sv wv v' : Value} (h : RawAt w b r nv sv wv) (p : Nat × List UInt8) (hp : p.2.length = 128) (k : Keep (fun k => some k = wv.ownBlock) w w1)
    (ho : ∃ base, w1.ownsRow base 186 129 v' (r.ws.length + 1) (wsL r.ws ++ wcs p)) (hn : ∀ g, v'.ownBlock = some g → wv.ownBlock = some g ∨ w.heap.size ≤ g) :
    w1.heap[b]? = some (.cells #[nv, sv, wv, .bool r.dead, .int .i64 r.fuse, .int .i64 r.done] 183 (0, 0)) ∧
    RawAt (setAt w1 b #[nv, sv, v', .bool r.dead, .int .i64 r.fuse, .int .i64 r.done] 183 (0, 0)) b { r with ws := r.ws ++ [p] } nv sv v' ∧ Step b w (setAt w1 b #[nv, sv, v', .bool r.dead, .int .i64 r.fuse, .int .i64 r.done] 183 (0, 0)) := by
  obtain ⟨n1, n2, n3⟩ := h.b_ne
  have hb1 : w1.heap[b]? = some (.cells #[nv, sv, wv, .bool r.dead, .int .i64 r.fuse, .int .i64 r.done] 183 (0, 0)) := k.get (fun e => n3 e.symm) h.blk
  obtain ⟨base, ho⟩ := ho
  have ho0 := own_base0 ho
  have k2 := setAt_keep w1 b #[nv, sv, v', .bool r.dead, .int .i64 r.fuse, .int .i64 r.done] 183 (0, 0)
  have hnow1 := own_keepD h.now k (fun g hg e => own_neO h.now h.ws (by decide) hg e.symm)
  have hsafe1 := own_keepD h.safe k (fun g hg e => own_neO h.safe h.ws (by decide) hg e.symm)
  have hr : RawAt (setAt w1 b #[nv, sv, v', .bool r.dead, .int .i64 r.fuse, .int .i64 r.done] 183 (0, 0)) b { r with ws := r.ws ++ [p] } nv sv v' := by
    refine ⟨setAt_same (lt_of_blk hb1), own_keepD hnow1 k2 (fun g hg e => n1 (by rw [hg, e])), own_keepD hsafe1 k2 (fun g hg e => n2 (by rw [hg, e])), ?_, h.ne, h.n128, h.s128, ?_⟩
    · have e1 : (r.ws ++ [p]).length = r.ws.length + 1 := by simp
      have e2 : wsL (r.ws ++ [p]) = wsL r.ws ++ wcs p := by rw [wsL_append]; simp [wsL]
      show World.ownsRow _ 0 186 129 v' (r.ws ++ [p]).length (wsL (r.ws ++ [p]))
      rw [e1, e2]
      exact own_keepD ho0 k2 (fun g hg e => own_neT ho0 hb1 (by decide) (by rw [hg, e]))
    · intro q hq
      rcases List.mem_append.1 hq with hq | hq
      · exact h.w128 q hq
      · rw [List.mem_singleton.1 hq]; exact hp
  refine ⟨hb1, hr, ?_, fun k' hk' => ?_⟩
  · refine Keep.seq (k.mono (fun i _ hi => h.foot.2 (.inr (.inr (.inr hi.symm))))) k2 (fun i _ hi => ?_)
    rw [hi]; exact foot_self w b
  · rcases hr.foot.1 hk' with h1 | h1 | h1 | h1
    · exact .inl (h.foot.2 (.inl h1))
    · exact .inl (h.foot.2 (.inr (.inl h1)))
    · exact .inl (h.foot.2 (.inr (.inr (.inl h1))))
    · rcases hn _ h1 with h2 | h2
      · exact .inl (h.foot.2 (.inr (.inr (.inr h2))))
      · exact .inr h2
/-- No write is left. -/
theorem RawAt.clear {w : World} {b : Nat} {r : Raw} {nv sv wv : Value} (h : RawAt w b r nv sv wv) :
    RawAt (setAt w b #[nv, sv, .slice none 0 0, .bool r.dead, .int .i64 r.fuse, .int .i64 r.done] 183 (0, 0)) b { r with ws := [] } nv sv (.slice none 0 0) ∧ Step b w (setAt w b #[nv, sv, .slice none 0 0, .bool r.dead, .int .i64 r.fuse, .int .i64 r.done] 183 (0, 0)) := by
  obtain ⟨n1, n2, n3⟩ := h.b_ne
  have k := setAt_keep w b #[nv, sv, .slice none 0 0, .bool r.dead, .int .i64 r.fuse, .int .i64 r.done] 183 (0, 0)
  have hr : RawAt (setAt w b #[nv, sv, .slice none 0 0, .bool r.dead, .int .i64 r.fuse, .int .i64 r.done] 183 (0, 0)) b { r with ws := [] } nv sv (.slice none 0 0) :=
    ⟨setAt_same (lt_of_blk h.blk), own_keepD h.now k (fun g hg e => n1 (by rw [hg, e])), own_keepD h.safe k (fun g hg e => n2 (by rw [hg, e])), ⟨rfl, .inl ⟨rfl, rfl⟩⟩, h.ne, h.n128, h.s128, by intro p hp; exact absurd hp (by simp)⟩
  refine ⟨hr, k.mono (fun i _ hi => by rw [hi]; exact foot_self w b), fun k' hk' => .inl ?_⟩
  rcases hr.foot.1 hk' with h1 | h1 | h1 | h1
  · exact h.foot.2 (.inl h1)
  · exact h.foot.2 (.inr (.inl h1))
  · exact h.foot.2 (.inr (.inr (.inl h1)))
  · cases h1
end Go.Proofs.Ytggggfcgnkllgaa
