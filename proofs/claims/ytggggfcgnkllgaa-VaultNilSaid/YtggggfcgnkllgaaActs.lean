/- What is done to a disk, told as an argument. -/
import Derived.Test.YtggggfcgnkllgaaRowK
import Derived.Test.YtggggfcgnkllgaaArgSl
import Derived.Test.YtggggfcgnkllgaaRef3
set_option linter.unusedVariables false
set_option linter.unusedSimpArgs false
namespace Go.Proofs.Ytggggfcgnkllgaa
open Go Go.Sh Go.RowKit Go.ChangeShapes Go.WideShapes Go.ChangeAt
attribute [local irreducible] X XU XP XR CALL loopS resC closS Value.okWide
/-- An act: its kind, its place, its number, its bytes, its fates; and the slices where these lie. -/
structure DAct where
  kind : Nat
  pos : Int
  num : Int
  bs : List UInt8
  fates : List Int
  bv : Value
  fv : Value
def DAct.cs (a : DAct) : List Value := [.int .u8 (a.kind : Int), .int .i64 a.pos, .int .i64 a.num, a.bv, a.fv]
structure DAct.In (a : DAct) (W : World) : Prop where
  kind : a.kind < 256
  num : a.num ≤ 9223372036854775807
  bts : Bts W a.bv a.bs
  fate : Row fI W a.fv a.fates
theorem DAct.In.ext {a : DAct} {W w : World} (h : a.In W) (k : Ext W w) : a.In w := ⟨h.kind, h.num, h.bts.ext k, h.fate.ext k⟩
theorem DAct.one {a : DAct} {W : World} (h : a.In W) : ∀ v ∈ a.cs, v.oneCell' = true := by
  obtain ⟨_, _, e1⟩ := Bts.slice h.bts
  obtain ⟨_, _, e2⟩ := h.fate.slice
  intro v hv
  simp only [DAct.cs, List.mem_cons, List.not_mem_nil, or_false] at hv
  rcases hv with rfl | rfl | rfl | rfl | rfl
  · rfl
  · rfl
  · rfl
  · rw [e1]; rfl
  · rw [e2]; rfl
theorem trc_five {P : Program} {H : Type} {enc : TypeId × Value → H} {W : World} {t : TypeId} {es : List Value} {f0 f1 f2 f3 f4 : Field} (ht : P.underlying t = some (.struct #[f0, f1, f2, f3, f4])) (hc : P.cellsOf t = 5)
    (o0 : f0.offset = 0) (o1 : f1.offset = 1) (o2 : f2.offset = 2) (o3 : f3.offset = 3) (o4 : f4.offset = 4) (c0 : P.cellsOf f0.type = 1) (c1 : P.cellsOf f1.type = 1) (c2 : P.cellsOf f2.type = 1) (c3 : P.cellsOf f3.type = 1) (c4 : P.cellsOf f4.type = 1)
    (h : TrC enc P W t es) : ∃ x0 x1 x2 x3 x4, es = [x0, x1, x2, x3, x4] ∧ TrC enc P W f0.type [x0] ∧ TrC enc P W f1.type [x1] ∧ TrC enc P W f2.type [x2] ∧ TrC enc P W f3.type [x3] ∧ TrC enc P W f4.type [x4] := by
  obtain ⟨hl, hf⟩ := h.struct ht
  rw [hc] at hl
  match es, hl with
  | [x0, x1, x2, x3, x4], _ =>
    have g0 := hf f0 (by simp)
    have g1 := hf f1 (by simp)
    have g2 := hf f2 (by simp)
    have g3 := hf f3 (by simp)
    have g4 := hf f4 (by simp)
    rw [o0, c0] at g0
    rw [o1, c1] at g1
    rw [o2, c2] at g2
    rw [o3, c3] at g3
    rw [o4, c4] at g4
    exact ⟨x0, x1, x2, x3, x4, rfl, g0, g1, g2, g3, g4⟩
theorem trc_act {H : Type} {enc : TypeId × Value → H} {W : World} {es : List Value} (h : TrC enc Try.prog W 86 es) : ∃ a : DAct, es = a.cs ∧ a.In W := by
  obtain ⟨x0, x1, x2, x3, x4, rfl, g0, g1, g2, g3, g4⟩ := trc_five Try.underlying86 (by kernel_rfl) rfl rfl rfl rfl rfl (by kernel_rfl) (by kernel_rfl) (by kernel_rfl) (by kernel_rfl) (by kernel_rfl) h
  obtain ⟨n0, e0, w0⟩ := TrC.int Try.underlying5 g0
  obtain ⟨n1, e1, w1⟩ := TrC.int Try.underlying3 g1
  obtain ⟨n2, e2, w2⟩ := TrC.int Try.underlying3 g2
  obtain ⟨bs, hbs⟩ := TrC.bytes Try.underlying27 Try.underlying5 (by kernel_rfl) g3
  obtain ⟨fates, hfs, _⟩ := TrC.row (f := fI) (Good := fun _ => True) Try.underlying79 (by kernel_rfl) (fun es hes => by
    obtain ⟨n, rfl, _⟩ := hes.int Try.underlying3
    exact ⟨n, rfl, trivial⟩) g4
  simp at e0 e1 e2
  subst e0; subst e1; subst e2
  simp [Lit.wf, IntKind.min, IntKind.max, IntKind.signed, IntKind.bits] at w0 w1 w2
  refine ⟨⟨n0.toNat, n1, n2, bs, fates, x3, x4⟩, ?_, by show n0.toNat < 256; omega, by show n2 ≤ _; omega, hbs, hfs⟩
  show _ = [Value.int .u8 ((n0.toNat : Nat) : Int), .int .i64 n1, .int .i64 n2, x3, x4]
  rw [Int.toNat_of_nonneg w0.1]
theorem arg_acts {H : Type} {enc : TypeId × Value → H} {W : World} {base : Nat} {v : Value} {d : DataW H} {p : List MemPlace}
    (ok : Value.okWide Try.prog W .any base 83 v) (h : DataW.Trod enc Try.prog W 0 (fun _ => true) true 83 v d p) : ∃ l : List DAct, RowK 5 DAct.cs W v l ∧ ∀ a ∈ l, a.In W := by
  obtain ⟨a, n, c, rfl⟩ := okWide_slice Try.underlying83 ok
  exact TrC.rowK Try.underlying83 (by kernel_rfl) (fun es hes => trc_act hes) (TrC.of h)
theorem arg_act {H : Type} {enc : TypeId × Value → H} {W : World} {base : Nat} {v : Value} {d : DataW H} {p : List MemPlace}
    (ok : Value.okWide Try.prog W .any base 86 v) (h : DataW.Trod enc Try.prog W 0 (fun _ => true) true 86 v d p) : ∃ a : DAct, v = .agg a.cs.toArray ∧ a.In W := by
  obtain ⟨cs, rfl, hcs⟩ := okWide_struct Try.underlying86 ok
  obtain ⟨a, ha, hi⟩ := trc_act (TrC.of h)
  refine ⟨a, ?_, hi⟩
  have : cs = a.cs.toArray := by
    apply Array.ext'
    exact ha
  rw [this]
/-- Fates, as an argument. -/
theorem arg_fates {H : Type} {enc : TypeId × Value → H} {W : World} {base : Nat} {v : Value} {d : DataW H} {p : List MemPlace}
    (ok : Value.okWide Try.prog W .any base 79 v) (h : DataW.Trod enc Try.prog W 0 (fun _ => true) true 79 v d p) : ∃ l : List Int, Row fI W v l := by
  obtain ⟨a, n, c, rfl⟩ := okWide_slice Try.underlying79 ok
  obtain ⟨l, hl, _⟩ := TrC.row (f := fI) (Good := fun _ => True) Try.underlying79 (by kernel_rfl) (fun es hes => by
    obtain ⟨n, rfl, _⟩ := hes.int Try.underlying3
    exact ⟨n, rfl, trivial⟩) (TrC.of h)
  exact ⟨l, hl⟩
theorem b8_of {cs : List Value} (h : ∀ i, i < cs.length → ∃ u : UInt8, cs[i]? = some (.int .u8 ((u.toNat : Nat) : Int))) : ∃ xs : List UInt8, cs = B8 xs := by
  induction cs with
  | nil => exact ⟨[], rfl⟩
  | cons c cs ih =>
    obtain ⟨u, hu⟩ := h 0 (by simp)
    obtain ⟨xs, hx⟩ := ih (fun i hi => h (i + 1) (by simp; omega))
    simp at hu
    exact ⟨u :: xs, by rw [hu, hx]; rfl⟩
/-- An array of bytes, as an argument. -/
theorem arg_arr {P : Program} {H : Type} {enc : TypeId × Value → H} {W : World} {base : Nat} {v : Value} {d : DataW H} {p : List MemPlace} {t e n : TypeId} (ht : P.underlying t = some (.array n e)) (hc : P.cellsOf t = n) (he : P.underlying e = some (.int .u8)) (hce : P.cellsOf e = 1)
    (ok : Value.okWide P W .any base t v) (h : DataW.Trod enc P W 0 (fun _ => true) true t v d p) : ∃ xs : List UInt8, v = .agg (B8 xs).toArray ∧ xs.length = n := by
  have hs : ∃ cs, v = .agg cs ∧ cs.size = P.cellsOf t := by
    unfold Value.okWide at ok
    simp only [ht] at ok
    obtain ⟨cs, h1, h2, _⟩ := ok
    exact ⟨cs, h1, h2⟩
  obtain ⟨cs, rfl, hcs⟩ := hs
  obtain ⟨hl, hf⟩ := (TrC.of h).array ht
  have hcl : cs.toList.length = n := by rw [Array.length_toList, hcs, hc]
  obtain ⟨xs, hx⟩ := b8_of (cs := cs.toList) (fun i hi => by
    have g := hf i (by omega)
    rw [hce] at g
    obtain ⟨m, em, wm⟩ := TrC.int he g
    have e0 : (cs.toList.drop (i * 1)).take 1 = [.int .u8 m] := em
    have e1 := congrArg (fun x => x[0]?) e0
    simp only [List.getElem?_take, List.getElem?_drop] at e1
    obtain ⟨a, rfl, ha⟩ := wf_nat rfl (m := 256) (by decide) wm
    refine ⟨UInt8.ofNat a, ?_⟩
    rw [UInt8.toNat_ofNat', Nat.mod_eq_of_lt (by omega)]
    simpa using e1)
  refine ⟨xs, ?_, by have := congrArg List.length hx; rw [B8_length] at this; omega⟩
  have : cs = (B8 xs).toArray := by apply Array.ext'; exact hx
  rw [this]
/-- An act is copied from its list. -/
theorem X_takeAct {w : World} {v : Value} {l : List DAct} {i : Nat} {K : Value → Value → Value → World → Prop} (hl : RowK 5 DAct.cs w v l) (hi : i < l.length) (ha : l[i].In w)
    (hK : ∀ v1 v2 q w1, Ext w w1 → w.heap.size ≤ q → w1.heap[q]? = some (.cells l[i].cs.toArray 86 (0, 0)) → K v1 v2 (ptr q) w1) :
    X Try.prog (Instr.indexAt 83 v (.int .i64 (i : Int))) w fun v1 w1 => X Try.prog (Instr.loadAt 86 v1) w1 fun v2 w2 => X Try.prog (Instr.alloc 86 true (.tuple #[])) w2 fun v3 w3 => XU Try.prog (Instr.storeAt 86 v3 v2) w3 fun w4 => K v1 v2 v3 w4 := by
  obtain ⟨ad, hix, hcs⟩ := hl.at Try.underlying83 info_86 sz_86 (kd := .i64) i rfl hi
  refine X_of (hix _) ?_
  refine X_of (load_cells Try.underlying86 agg_86 info_86 (l := l[i].cs) (by rw [sz_86]; rfl) hcs) ?_
  refine X_alloc zero_86 ?_
  have hq := newB_get w #[(.int .u8 0), (.int .i64 0), (.int .i64 0), (.slice none 0 0), (.slice none 0 0)] 86
  have hxq := newB_ext w #[(.int .u8 0), (.int .i64 0), (.int .i64 0), (.slice none 0 0), (.slice none 0 0)] 86
  show XU _ _ (newB w #[(.int .u8 0), (.int .i64 0), (.int .i64 0), (.slice none 0 0), (.slice none 0 0)] 86) _
  generalize newB w #[(.int .u8 0), (.int .i64 0), (.int .i64 0), (.slice none 0 0), (.slice none 0 0)] 86 = w2 at hq hxq ⊢
  refine XU_storeAgg info_86 hq (by rw [sz_86]; rfl) (by rw [sz_86]; rfl) (DAct.one ha) ?_
  exact hK _ _ _ _ (Ext.seq hxq (setAt_keep _ _ _ _ _) (fun j hj => by omega)) (Nat.le_refl _) (setAt_same (lt_of_blk hq))
end Go.Proofs.Ytggggfcgnkllgaa
