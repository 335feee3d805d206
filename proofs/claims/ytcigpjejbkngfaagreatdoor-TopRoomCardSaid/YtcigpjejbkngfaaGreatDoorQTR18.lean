/- Part 18 of what the law is proved with. -/
import Derived.Test.YtcigpjejbkngfaaGreatDoorRows
import Derived.LaidMore
import Derived.MakeChecks
import Derived.Stop.Joined
import Derived.Test.YtcigpjejbkngfaaGreatDoorQTR17
set_option linter.unusedVariables false
set_option linter.unusedSimpArgs false
section
namespace Go.Proofs.YtcigpjejbkngfaaGreatDoor
open Go Go.Sh
theorem CALL_calls {P : Program} {f : FuncId} {args : Array Value} {w : World} {K : Value → World → Prop} (hok : callOk P f = true) (h : CALL P f args w K) :
    Calls P f args w (fun | .returned v, w' => K v w' | _, _ => False) := by
  rcases h with h | ⟨v, w', h1, _⟩
  · exact h.2
  · rw [enter_of_callFunc hok] at h1
    cases h1
end Go.Proofs.YtcigpjejbkngfaaGreatDoor
end
section
namespace Go.Proofs.YtcigpjejbkngfaaGreatDoor
open Go Go.Sh Go.RowKit Go.ChangeShapes Go.WideShapes Go.ChangeAt
open Go.Proofs.YtcigpjejbkngfaaGreatDoor
attribute [local irreducible] X XU XP XR CALL loopS resC closS Value.okWide
theorem arg_bb {H : Type} {enc : TypeId × Value → H} {W : World} {base : Nat} {v : Value} {d : DataW H} {p : List MemPlace}
    (ok : Value.okWide Tryz.prog W .any base 22 v) (h : DataW.Trod enc Tryz.prog W 0 (fun _ => true) true 22 v d p) : ∃ ls, RowsB W v ls := by
  obtain ⟨a, n, c, rfl⟩ := okWide_slice Tryz.underlying22 ok
  obtain ⟨l, hl, hg⟩ := TrC.rowK (k := 1) (f := fun x : Value × List UInt8 => [x.1]) (Good := fun x => Bts W x.1 x.2) Tryz.underlying22 (by kernel_rfl) (fun es hes => by
    have : ∃ u, es = [u] := by
      rcases hes.slice Tryz.underlying28 with h | ⟨a, n, c, h, _⟩
      · exact ⟨_, h⟩
      · exact ⟨_, h⟩
    obtain ⟨u, rfl⟩ := this
    obtain ⟨bs, hb⟩ := TrC.bytes Tryz.underlying28 Tryz.underlying5 (by kernel_rfl) hes
    exact ⟨(u, bs), rfl, hb⟩) (TrC.of h)
  refine ⟨l.map Prod.snd, l.map Prod.fst, ?_, by simp, fun i u b hu hb => ?_⟩
  · obtain ⟨a', c', e, h1, h2, h3⟩ := hl
    refine ⟨a', c', by rw [e, List.length_map], by rw [List.length_map]; exact h1, h2, fun hn => ?_⟩
    rw [List.length_map] at hn
    obtain ⟨ad, e2, hc⟩ := h3 hn
    refine ⟨ad, e2, fun j x hx => ?_⟩
    rw [List.getElem?_map] at hx
    obtain ⟨y, hy, rfl⟩ := Option.map_eq_some_iff.1 hx
    exact hc j y hy
  · rw [List.getElem?_map] at hu hb
    obtain ⟨y, hy, rfl⟩ := Option.map_eq_some_iff.1 hu
    rw [hy] at hb
    cases hb
    exact hg y (List.mem_of_getElem? hy)
theorem gTab : Tryz.prog.globalNamed "math/bits.deBruijn64tab" = some 0 := by kernel_rfl
theorem tTab : (Tryz.prog.globals[0]?).map (·.type) = some 137 := by kernel_rfl
theorem cells5 : Tryz.prog.cellsOf 5 = 1 := by kernel_rfl
theorem cells137 : Tryz.prog.cellsOf 137 = 64 := by kernel_rfl
abbrev laidTab : List (String × DataW Unit) := [("math/bits.deBruijn64tab", Rows.laid_math_bits_deBruijn64tab)]
theorem tab_of_laid {W : World} (h : laidMetH Tryz.prog laidTab W) : TabAt W := by
  rw [MakeChecks.laidMetH_plain _ _ _ (by kernel_rfl)] at h
  obtain ⟨ps, ⟨g, t, cs, f, p, q, hg, ht, hv, hd, _, _⟩, _⟩ := h
  obtain rfl := Option.some.inj (gTab.symm.trans hg)
  obtain rfl := Option.some.inj (tTab.symm.trans ht)
  obtain ⟨xs, m, rfl, hx, hlen, hn, hel⟩ := DataW.trod_array Tryz.underlying137 hd
  rw [cells137] at hlen
  refine ⟨fun i hi => ?_⟩
  have h1 := hel i hi
  have h2 : xs[i]? = some (xs[i]'(by omega)) := List.getElem?_eq_getElem (by omega)
  rw [cells5, h2] at h1
  obtain ⟨z, hz, _, _⟩ := DataW.trod_int Tryz.underlying5 h1
  refine ⟨z, ?_⟩
  rw [World.var?_cell gTab hv i]
  have h3 : ((cs.toList.drop (i * 1)).take 1)[0]? = some (.int .u8 z) := by rw [hz]; rfl
  rw [List.getElem?_take, if_pos (by decide), List.getElem?_drop, Nat.mul_one, Nat.add_zero] at h3
  rw [← Array.getElem?_toList]
  exact h3
def tabObj : Obj → Obj := fun
  | .cells _ t frozen => .cells (#[0, 1, 56, 2, 57, 49, 28, 3, 61, 58, 42, 50, 38, 29, 17, 4, 62, 47, 59, 36, 45, 43, 51, 22, 53, 39, 33, 30, 24, 18, 12, 5, 63, 55, 48, 27, 60, 41, 37, 16, 46, 35, 44, 21, 52, 32, 23, 11, 54, 26, 40, 15, 34, 20, 31, 10, 25, 14, 19, 9, 13, 8, 7, 6].map fun n => Value.int .u8 n) t frozen
  | o => o
theorem laidWorld_met (os : Os) (args : Array Value) : laidMetH Tryz.prog laidTab (({ World.holding Tryz.prog os ⟨#[], #[], []⟩ with heap := (World.holding Tryz.prog os ⟨#[], #[], []⟩).heap.modify 0 tabObj } : World).forCall (fun _ _ => 0) ⟨#[], args, []⟩).memory :=
  laidMetH_of_parts (laidMet_of_run' 8 (by kernel_rfl) (by kernel_rfl)) (by kernel_rfl)
section
theorem topRoom_walk {H : Type} (enc : TypeId × Value → H) (W : World) (v0 v1 : Value) {base : Nat} (ok0 : Value.okWide Tryz.prog W .any base 22 v0) (ok1 : Value.okWide Tryz.prog W .any base 5 v1) (d0 : DataW H) (p0 : List MemPlace) (d1 : DataW H) (p1 : List MemPlace)
    (h0 : DataW.Trod enc Tryz.prog W 0 (fun _ => true) true 22 v0 d0 p0) (h1 : DataW.Trod enc Tryz.prog W 0 (fun _ => true) true 5 v1 d1 p1) (hl : laidMetH Tryz.prog laidTab W) :
    CALL Tryz.prog 3 #[v0, v1] W (fun v w' => v = .bool true ∧ Ext W w') := by
  obtain ⟨ls, hls⟩ := arg_bb ok0 h0
  obtain ⟨n, rfl, hn⟩ := arg_u8 Tryz.underlying5 ok1 h1
  exact TopRoom_spec (tab_of_laid hl) hn hls (fun W' hx => ⟨rfl, hx⟩)
end
set_option maxRecDepth 100000 in
theorem topRoom_lifted (os : Os) (started : os.Started) (H : Type) (enc : TypeId × Value → H) :
    ReturnsInHanded {} Tryz.checked os 3 .any (fun w args => (Rows.topRoomSpec.pre enc Tryz.prog Tryz.f3 [] false w args ∧ laidMetH Tryz.prog laidTab w) ∧ sizedMet enc Tryz.prog Tryz.f3 (OpenSpec.ofChange Rows.topRoomSpec) false w args)
      (Rows.topRoomSpec.post enc Tryz.prog Tryz.f3 false true false false) := by
  refine returnsInHanded_of_change_and (C := Tryz.checked) (X := fun w _ => laidMetH Tryz.prog laidTab w) (fun _ _ _ hh h => h.of_heap hh) (by kernel_rfl) started (by kernel_rfl) Tryz.func3
    (ChangeSpec.witness_at (enc := enc) (C := Tryz.checked) (os := os) (X := fun w _ => laidMetH Tryz.prog laidTab w) false { World.holding Tryz.prog os ⟨#[], #[], []⟩ with heap := (World.holding Tryz.prog os ⟨#[], #[], []⟩).heap.modify 0 tabObj } #[.slice none 0 0, .int .u8 0] 8 rfl (by kernel_rfl) (by kernel_rfl) (by kernel_rfl) (by kernel_rfl) (by kernel_rfl) (laidWorld_met os _)) ?_
  intro W base args ds gs before hval0 hW _ _ hL _
  have hval : ∀ (j : Nat) t v, Tryz.f3.params[j]? = some t → args[j]? = some v → Value.okWide Tryz.prog W .any base t v := hval0
  have hW' := hW
  obtain ⟨p, q, hA0, hV, rfl, hfz, hnd⟩ := hW
  have hA : DataW.TrodAll enc Tryz.prog W 0 (fun _ => true) true Tryz.f3.params.toList args.toList ds p := hA0
  rw [Tryz.params3] at hA hval
  obtain ⟨v0, vs0, d0, ds0, p0, q0, hargs, rfl, rfl, h0, r0⟩ := trodAll_cons hA
  obtain ⟨v1, vs1, d1, ds1, p1, q1, rfl, rfl, rfl, h1, r1⟩ := trodAll_cons r0
  obtain ⟨rfl, rfl, rfl⟩ := trodAll_nil r1
  obtain rfl : args = #[v0, v1] := by cases args; simp_all
  obtain ⟨rfl, rfl⟩ := trodVars_none hV
  have hw := topRoom_walk enc W v0 v1 (hval 0 22 v0 rfl rfl) (hval 1 5 v1 rfl rfl) d0 p0 d1 p1 h0 h1 hL
  refine (CALL_calls (by kernel_rfl) hw).mono fun e W' he => ?_
  cases e with
  | returned v =>
    obtain ⟨rfl, hx⟩ := he
    exact ⟨_, rfl, law_post (P := Tryz.prog) laidOut (by kernel_rfl) rfl rfl rfl Tryz.underlying4 hW' hx⟩
  | panicked c => exact he.elim
  | outgrown => exact he.elim
set_option maxRecDepth 100000 in
theorem topRoom_closed : joinedFacts Tryz.prog 3 Tryz.f3 Rows.topRoomSpec Rows.topRoomRow = true := by kernel_rfl
theorem topRoom_said : Rows.TopRoomSaid :=
  OpenClaim.holds_of_wide 3 Tryz.f3 rfl rfl rfl rfl rfl rfl rfl ⟨rfl, rfl, rfl, rfl, rfl⟩ rfl rfl rfl rfl rfl (by kernel_rfl) Tryz.func3 topRoom_closed
    (of_decide_eq_true (by kernel_rfl)) (by unfold Func.isWrapper; first | (rw [if_pos (by decide +kernel)]; kernel_rfl) | (rw [if_neg (by decide +kernel)]; exact ⟨rfl, rfl⟩))
    (fun os started H enc _ => topRoom_lifted os started H enc)
end Go.Proofs.YtcigpjejbkngfaaGreatDoor
end
