/- cellaragelaw12: acts, few, shown. -/
import Derived.Test.YtggggfcgnkllgaaVault3
import Derived.Test.YtggggfcgnkllgaaAlike
import Derived.Test.YtggggfcgnkllgaaT12
set_option linter.unusedVariables false
set_option linter.unusedSimpArgs false
namespace Go.Proofs.Ytggggfcgnkllgaa
open Go Go.Sh Go.RowKit Go.ChangeShapes Go.WideShapes Go.ChangeAt
attribute [local irreducible] X XU XP XR CALL loopS resC closS Value.okWide
theorem trc_act12 {H : Type} {enc : TypeId × Value → H} {W : World} {es : List Value} (h : TrC enc Try.prog W 142 es) : ∃ a : DAct, es = a.cs ∧ a.In W := by
  obtain ⟨x0, x1, x2, x3, x4, rfl, g0, g1, g2, g3, g4⟩ := trc_five Try.underlying142 (by kernel_rfl) rfl rfl rfl rfl rfl (by kernel_rfl) (by kernel_rfl) (by kernel_rfl) (by kernel_rfl) (by kernel_rfl) h
  obtain ⟨n0, e0, w0⟩ := TrC.int Try.underlying5 g0
  obtain ⟨n1, e1, w1⟩ := TrC.int Try.underlying3 g1
  obtain ⟨n2, e2, w2⟩ := TrC.int Try.underlying3 g2
  obtain ⟨bs, hbs⟩ := TrC.bytes Try.underlying27 Try.underlying5 (by kernel_rfl) g3
  obtain ⟨fates, hfs, _⟩ := TrC.row (f := fI) (Good := fun _ => True) Try.underlying79 (by kernel_rfl) (fun es hes => by
    obtain ⟨n, rfl, _⟩ := hes.int Try.underlying3
    exact ⟨n, rfl, trivial⟩) g4
  simp at e0 e1 e2
  subst e0; subst e1; subst e2
  simp [Lit.wf, IntKind.min, IntKind.max, IntKind.signed, IntKind.bits] at w0 w1 w2
  refine ⟨⟨n0.toNat, n1, n2, bs, fates, x3, x4⟩, ?_, by show n0.toNat < 256; omega, by show n2 ≤ _; omega, hbs, hfs⟩
  show _ = [Value.int .u8 ((n0.toNat : Nat) : Int), .int .i64 n1, .int .i64 n2, x3, x4]
  rw [Int.toNat_of_nonneg w0.1]
theorem arg_acts12 {H : Type} {enc : TypeId × Value → H} {W : World} {base : Nat} {v : Value} {d : DataW H} {p : List MemPlace}
    (ok : Value.okWide Try.prog W .any base 136 v) (h : DataW.Trod enc Try.prog W 0 (fun _ => true) true 136 v d p) : ∃ l : List DAct, RowK 5 DAct.cs W v l ∧ ∀ a ∈ l, a.In W := by
  obtain ⟨a, n, c, rfl⟩ := okWide_slice Try.underlying136 ok
  exact TrC.rowK Try.underlying136 (by kernel_rfl) (fun es hes => trc_act12 hes) (TrC.of h)
/-- An act is copied from its list. -/
theorem X_takeAct12 {w : World} {v : Value} {l : List DAct} {i : Nat} {K : Value → Value → Value → World → Prop} (hl : RowK 5 DAct.cs w v l) (hi : i < l.length) (ha : l[i].In w)
    (hK : ∀ v1 v2 q w1, Ext w w1 → w.heap.size ≤ q → w1.heap[q]? = some (.cells l[i].cs.toArray 142 (0, 0)) → K v1 v2 (ptr q) w1) :
    X Try.prog (Instr.indexAt 136 v (.int .i64 (i : Int))) w fun v1 w1 => X Try.prog (Instr.loadAt 142 v1) w1 fun v2 w2 => X Try.prog (Instr.alloc 142 true (.tuple #[])) w2 fun v3 w3 => XU Try.prog (Instr.storeAt 142 v3 v2) w3 fun w4 => K v1 v2 v3 w4 := by
  obtain ⟨ad, hix, hcs⟩ := hl.at Try.underlying136 info_142 sz_142 (kd := .i64) i rfl hi
  refine X_of (hix _) ?_
  refine X_of (load_cells Try.underlying142 agg_142 info_142 (l := l[i].cs) (by rw [sz_142]; rfl) hcs) ?_
  refine X_alloc zero_142 ?_
  have hq := newB_get w #[(.int .u8 0), (.int .i64 0), (.int .i64 0), (.slice none 0 0), (.slice none 0 0)] 142
  have hxq := newB_ext w #[(.int .u8 0), (.int .i64 0), (.int .i64 0), (.slice none 0 0), (.slice none 0 0)] 142
  show XU _ _ (newB w #[(.int .u8 0), (.int .i64 0), (.int .i64 0), (.slice none 0 0), (.slice none 0 0)] 142) _
  generalize newB w #[(.int .u8 0), (.int .i64 0), (.int .i64 0), (.slice none 0 0), (.slice none 0 0)] 142 = w2 at hq hxq ⊢
  refine XU_storeAgg info_142 hq (by rw [sz_142]; rfl) (by rw [sz_142]; rfl) (DAct.one ha) ?_
  exact hK _ _ _ _ (Ext.seq hxq (setAt_keep _ _ _ _ _) (fun j hj => by omega)) (Nat.le_refl _) (setAt_same (lt_of_blk hq))

section
variable {w : World} {K : Value → World → Prop}
/-- The first acts. -/
theorem few12_spec {l : List DAct} {v : Value} (hl : RowK 5 DAct.cs w v l) (hin : ∀ a ∈ l, a.In w) 
    (hK : ∀ m v1, m ≤ 60 → m ≤ l.length → (∀ W, RowK 5 DAct.cs W v l → RowK 5 DAct.cs W v1 (l.take m)) → (∀ a ∈ l.take m, a.bs.length ≤ 20000) → K v1 w) : CALL Try.prog 106 #[v] w K := by
  obtain ⟨a0, c0, e0⟩ := hl.slice
  have hn : l.length ≤ 9223372036854775807 := by
    obtain ⟨_, c, _, h1, h2, _⟩ := hl
    omega
  apply call_law12_few
  unfold B_law12_few
  rw [e0, X_len_136, ← e0]
  refine loopE (fun ρ wr => wr = w ∧ ∃ i left : Nat, i ≤ l.length ∧ i ≤ 60 ∧ left ≤ 20000 ∧ (∀ a ∈ l.take i, a.bs.length ≤ 20000) ∧ ρ 7 = .int .i64 (i : Nat) ∧ ρ 6 = .int .i64 (l.length : Nat) ∧ ρ 0 = v ∧ ρ 3 = .int .i64 (left : Nat))
    (fun ρ wr => match ρ 7 with | .int _ s => (l.length - s).toNat | _ => 0)
    (fun ρ wr => wr = w ∧ l.length ≤ 60 ∧ (∀ a ∈ l, a.bs.length ≤ 20000) ∧ ρ 0 = v) ?_ ?_ ?_
  · exact ⟨rfl, 0, 20000, by omega, by omega, by omega, by simp, rfl, rfl, rfl, rfl⟩
  · rintro J hJ ρ wr ⟨rfl, i, left, hi, hi60, hleft, hall, h7, h6, h0, h3⟩
    rw [h7, h6, X_lss, condS_bool]
    by_cases hin' : i = l.length
    · rw [if_neg (by simp; omega)]
      refine hJ _ _ ⟨rfl, by omega, ?_, h0⟩
      rw [hin', List.take_length] at hall
      exact hall
    rw [if_pos (by simp; omega)]
    have hlt : i < l.length := by omega
    have stop : Go.Sh.X Try.prog (Instr.sliceAt 136 v none (some (.int .i64 (i : Int))) none) wr fun v13 w22 => K v13 w22 := by
      obtain ⟨u, hu, hru⟩ := hl.cut Try.underlying136 info_142 (kh := .i64) (hj := (i : Int)) i rfl hi
      refine X_of (hu _) (hK i u hi60 hi (fun W hW => ?_) hall)
      obtain ⟨u', hu', hru'⟩ := hW.cut Try.underlying136 info_142 (kh := .i64) (hj := (i : Int)) i rfl hi
      have := (hu wr).symm.trans (hu' wr)
      injection this with this
      rw [this]
      exact hru'
    obtain ⟨ad, hix, hcs⟩ := hl.at Try.underlying136 info_142 sz_142 (kd := .i64) i rfl hlt
    have hini := hin _ (List.getElem_mem hlt)
    obtain ⟨ab, cb, eb⟩ := Bts.slice hini.bts
    have hfield : (Instr.fieldAt 142 (.pointer (some ad)) 3).run Try.prog wr = .ok (.pointer (some (ad.add 3))) wr := by kernel_rfl
    have hld : (Instr.loadAt 27 (.pointer (some (ad.add 3)))).run Try.prog wr = .ok l[i].bv wr := run_loadAt agg_27 (hcs 3 _ rfl)
    rw [h0, h3]
    rw [X_geq]
    by_cases h60 : i = 60
    · have e1 : decide ((i : Int) ≥ 60) = true := by simp; omega
      simp only [e1, GS]
      exact stop
    have e1 : decide ((i : Int) ≥ 60) = false := by simp; omega
    simp only [e1, GS]
    refine X_of (hix _) ?_
    refine X_of hfield ?_
    refine X_of hld ?_
    rw [eb]
    simp only [X_len_27, X_gtr, GS]
    rw [condS_bool]
    by_cases hbig : left < l[i].bs.length
    · rw [if_pos (by simp; omega)]
      exact stop
    rw [if_neg (by simp; omega)]
    refine X_of (hix _) ?_
    refine X_of hfield ?_
    refine X_of hld ?_
    rw [eb]
    simp only [X_len_27, X_sub, X_add]
    show _ ∧ _
    refine ⟨⟨rfl, i + 1, left - l[i].bs.length, by omega, by omega, by omega, ?_, next64 (n := 60) (by decide) (by omega), h6, h0, ?_⟩, ?_⟩
    · intro a ha
      rw [List.take_succ_eq_append_getElem hlt] at ha
      rcases List.mem_append.1 ha with ha | ha
      · exact hall a ha
      · rw [List.mem_singleton.1 ha]; omega
    · show Value.int .i64 (IntKind.i64.wrap ((left : Int) - (l[i].bs.length : Int))) = _
      have e : (left : Int) - (l[i].bs.length : Int) = ((left - l[i].bs.length : Nat) : Int) := by omega
      rw [w64 (by omega) (by omega), e]
    · show (_ - IntKind.i64.wrap _).toNat < _
      rw [w64 (by omega) (by omega)]
      first | omega | (show _ < (_ : Int).toNat; omega)
  · rintro ρ wr ⟨rfl, h60, hall, h0⟩
    rw [h0]
    exact hK l.length v h60 (Nat.le_refl _) (fun W hW => by rw [List.take_length]; exact hW) (by rw [List.take_length]; exact hall)

end
end Go.Proofs.Ytggggfcgnkllgaa
