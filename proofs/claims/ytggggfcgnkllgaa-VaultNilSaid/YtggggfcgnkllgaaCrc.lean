/- cellarage/crc and the reference's check sums, by contract. -/
import Derived.Test.YtggggfcgnkllgaaCodec3
import Derived.Test.YtggggfcgnkllgaaCrcNum
import Derived.Test.YtggggfcgnkllgaaT2
set_option linter.unusedVariables false
set_option linter.unusedSimpArgs false
namespace Go.Sh
open Go
/-- A word as a value. -/
def U32 (c : W32) : Value := .int .u32 ((c.toNat : Nat) : Int)
section
variable {P : Program}
theorem u32_xor (T : TypeId) (a b : W32) (w : World) : (binOp .xor T (U32 a) (U32 b)).run P w = .ok (U32 (a ^^^ b)) w := by
  unfold U32
  rw [run_xor (k := .u32) rfl T a.toNat b.toNat a.isLt b.isLt w, BitVec.toNat_xor]
theorem u32_not (c : W32) (w : World) : (Op.unary .xor (U32 c)).run P w = .ok (U32 (~~~c)) w := by
  have h : (Op.unary .xor (U32 c)) = binOp .xor 0 (U32 (BitVec.allOnes 32)) (U32 c) := rfl
  rw [h, u32_xor]
  congr 2
theorem u32_shl (T : TypeId) (k : IntKind) (c : W32) (n : Nat) (hn : n ≤ 32) (w : World) : (binOp .shl T (U32 c) (.int k (n : Int))).run P w = .ok (U32 (c <<< n)) w := by
  unfold U32
  rw [run_shl _ _ (by omega) w, BitVec.toNat_shiftLeft, Nat.shiftLeft_eq]
  have e1 : min ((n : Int).toNat) IntKind.u32.bits = n := by show min _ 32 = _; omega
  rw [e1, wrap_u32]
  congr 2
theorem u32_shr (T : TypeId) (k : IntKind) (c : W32) (n : Nat) (hn : n ≤ 32) (w : World) : (binOp .shr T (U32 c) (.int k (n : Int))).run P w = .ok (U32 (c >>> n)) w := by
  unfold U32
  rw [run_shr _ _ (by omega) w, BitVec.toNat_ushiftRight, Nat.shiftRight_eq_div_pow]
  have e1 : min ((n : Int).toNat) IntKind.u32.bits = n := by show min _ 32 = _; omega
  rw [e1, fdiv_pow]
theorem u32_of_u8 {S T : TypeId} {d : TypeDesc} (hS : P.underlying S = some d) (hT : P.underlying T = some (.int .u32)) (u : UInt8) (w : World) : (convert S T (.int .u8 ((u.toNat : Nat) : Int))).run P w = .ok (U32 (BitVec.ofNat 32 u.toNat)) w := by
  rw [run_conv_int hS hT]
  unfold U32
  have := u.toNat_lt
  rw [BitVec.toNat_ofNat, Nat.mod_eq_of_lt (by omega), wrap_u32]
  congr 2
  omega
theorem u8_of_u32 {S T : TypeId} {d : TypeDesc} (hS : P.underlying S = some d) (hT : P.underlying T = some (.int .u8)) (c : W32) (w : World) : (convert S T (U32 (c >>> 24))).run P w = .ok (.int .u8 (((hi8 c).toNat : Nat) : Int)) w := by
  unfold U32
  rw [run_conv_int hS hT, hi8_toNat, wrap_u8]
  have := hi8_lt c
  congr 2
  omega
theorem u8_xor (T : TypeId) (a b : UInt8) (w : World) : (binOp .xor T (.int .u8 ((a.toNat : Nat) : Int)) (.int .u8 ((b.toNat : Nat) : Int))).run P w = .ok (.int .u8 (((a ^^^ b).toNat : Nat) : Int)) w := by
  rw [run_xor (k := .u8) rfl T a.toNat b.toNat a.toNat_lt b.toNat_lt w, UInt8.toNat_xor]
theorem msb_top (c : W32) : (c >>> 31).toNat = c.msb.toNat := by
  rw [BitVec.toNat_ushiftRight, Nat.shiftRight_eq_div_pow, BitVec.msb_eq_decide]
  have := c.isLt
  by_cases h : 2 ^ 31 ≤ c.toNat
  · simp [h]; omega
  · simp [h]; omega
theorem u32_polymul (T : TypeId) (c : W32) (w : World) : (binOp .mul T (.int .u32 79764919) (U32 (c >>> 31))).run P w = .ok (U32 (if c.msb = true then poly else 0#32)) w := by
  unfold U32
  rw [msb_top, run_mul, wrap_u32]
  cases c.msb <;> rfl
theorem u32_comp (T : TypeId) (c : W32) (w : World) : (binOp .sub T (.int .u32 4294967295) (U32 c)).run P w = .ok (U32 (~~~c)) w := by
  unfold U32
  rw [run_sub, wrap_u32, BitVec.toNat_not]
  have := c.isLt
  congr 2
  omega
theorem u32_top2 (T : TypeId) (c : W32) (w : World) : (binOp .quo T (U32 c) (.int .u32 2147483648)).run P w = .ok (.int .u32 ((c.msb.toNat : Nat) : Int)) w := by
  unfold U32
  rw [run_quo _ _ _ _ (by decide), wrap_u32, BitVec.msb_eq_decide]
  have := c.isLt
  have e : ((c.toNat : Nat) : Int).tdiv 2147483648 = ((c.toNat / 2147483648 : Nat) : Int) := by
    rw [Int.tdiv_eq_ediv_of_nonneg (by omega)]
    omega
  rw [e]
  by_cases h : 2 ^ 31 ≤ c.toNat
  · congr 2; simp [h]; omega
  · congr 2; simp [h]; omega
theorem u32_dbl (T : TypeId) (c : W32) (w : World) : (binOp .mul T (U32 c) (.int .u32 2)).run P w = .ok (U32 (c <<< 1)) w := by
  unfold U32
  rw [run_mul, wrap_u32, BitVec.toNat_shiftLeft, Nat.shiftLeft_eq]
  congr 2
theorem u32_topmul (T : TypeId) (u : UInt8) (w : World) : (binOp .mul T (U32 (BitVec.ofNat 32 u.toNat)) (.int .u32 16777216)).run P w = .ok (U32 (top u)) w := by
  unfold U32 top
  have := u.toNat_lt
  rw [run_mul, wrap_u32, BitVec.toNat_shiftLeft, Nat.shiftLeft_eq]
  congr 2
theorem u32_eq (T : TypeId) (a b : Operand) (x y : W32) (w : World) (K : Value → World → Prop) : X P (binOpG .eql T a b (U32 x) (U32 y)) w K = K (.bool (decide (x = y))) w := by
  unfold U32
  rw [X_ok (run_eql T .u32 a b _ _ w)]
  have : decide ((x.toNat : Int) = (y.toNat : Int)) = decide (x = y) := by
    rw [Bool.eq_iff_iff]
    simp only [decide_eq_true_eq]
    constructor
    · intro h; exact BitVec.eq_of_toNat_eq (by omega)
    · rintro rfl; rfl
  rw [this]
theorem xp_u32_eq (T : TypeId) (a b : Operand) (x y : W32) (w : World) (K : Value → World → Prop) : XP P (binOpG .eql T a b (U32 x) (U32 y)) w K = K (.bool (decide (x = y))) w := by
  unfold U32
  rw [XP_ok (fun w => run_eql T .u32 a b _ _ w)]
  have : decide ((x.toNat : Int) = (y.toNat : Int)) = decide (x = y) := by
    rw [Bool.eq_iff_iff]
    simp only [decide_eq_true_eq]
    constructor
    · intro h; exact BitVec.eq_of_toNat_eq (by omega)
    · rintro rfl; rfl
  rw [this]
end
end Go.Sh
namespace Go.Proofs.Ytggggfcgnkllgaa
open Go Go.Sh Go.RowKit
attribute [local irreducible] X XU XP XR CALL loopS resC closS

theorem step_spec {u : UInt8} {w : World} {K : Value → World → Prop} (h : K (U32 (step8 u)) w) : CALL Try.prog 126 #[.int .u8 ((u.toNat : Nat) : Int)] w K := by
  apply call_crc_step
  unfold B_crc_step
  refine X_of (u32_of_u8 Try.underlying5 Try.underlying23 u w) ?_
  refine X_of (u32_shl 23 .u64 _ 24 (by decide) w) ?_
  refine loopS_of (fun ρ wr => ∃ i : Nat, i ≤ 8 ∧ wr = w ∧ ρ 8 = .int .i64 (i : Nat) ∧ ρ 3 = U32 (iter i (top u))) (fun ρ wr => match ρ 8 with | .int _ s => (8 - s).toNat | _ => 0) ?_ ?_
  · exact ⟨0, by omega, rfl, rfl, rfl⟩
  · rintro ρ wr ⟨i, hi, rfl, h8, h3⟩
    simp only [SS, ST, h8, h3]
    by_cases hin : i = 8
    · subst hin
      rw [if_neg (by simp)]
      show K (ρ 3) wr
      rw [h3]
      exact h
    · rw [if_pos (by simp; omega)]
      refine X_of (u32_shr 23 .u64 _ 31 (by decide) _) ?_
      refine X_of (u32_shl 23 .u64 _ 1 (by decide) _) ?_
      refine X_of (u32_polymul 23 _ _) ?_
      refine X_of (u32_xor 23 _ _ _) ?_
      show _ ∧ _
      refine ⟨⟨i + 1, by omega, rfl, ?_, ?_⟩, ?_⟩
      · show Value.int .i64 _ = _
        congr 1
        rw [w64 (by omega) (by omega)]
        omega
      · rw [iter_succ]
        rfl
      · show (_ - IntKind.i64.wrap _).toNat < _
        rw [w64 (by omega) (by omega)]
        omega

/-- The table: 256 words. -/
def tabCells : List Value := (List.range 256).map fun i => U32 (step8 (UInt8.ofNat i))
theorem tab_len : tabCells.length = 256 := by simp [tabCells]
theorem tab_get (j : Nat) (h : j < 256) : tabCells[j]? = some (U32 (step8 (UInt8.ofNat j))) := by simp [tabCells, h]
attribute [local irreducible] tabCells
theorem table_spec {w : World} {K : Value → World → Prop} (h : ∀ b w1, Ext w w1 → w.heap.size ≤ b → w1.heap[b]? = some (.cells tabCells.toArray 209 (0, 0)) → K (.pointer (some ⟨b, 0, none⟩)) w1) :
    CALL Try.prog 127 #[] w K := by
  apply call_crc_table
  unfold B_crc_table
  refine X_alloc zero_209 ?_
  have hc : (Value.agg ((List.replicate 256 (Value.int .u32 0)).toArray)).cells = (List.replicate 256 (Value.int .u32 0)).toArray := rfl
  rw [hc]
  have hg := newB_get w (List.replicate 256 (Value.int .u32 0)).toArray 209
  have hx := newB_ext w (List.replicate 256 (Value.int .u32 0)).toArray 209
  have hz := newB_size w (List.replicate 256 (Value.int .u32 0)).toArray 209
  obtain ⟨l0, hl0⟩ : ∃ l, l = List.replicate 256 (Value.int .u32 0) := ⟨_, rfl⟩
  have hl0' : l0.length = 256 := by rw [hl0]; exact List.length_replicate
  rw [← hl0] at hg hx hz ⊢
  generalize newB w l0.toArray 209 = w0 at hg hx hz ⊢
  refine loopS_of (fun ρ wr => ∃ (i : Nat) (l : List Value), i ≤ 256 ∧ Ext w wr ∧ ρ 3 = .int .i64 (i : Nat) ∧ ρ 1 = .pointer (some ⟨w.heap.size, 0, none⟩) ∧ wr.heap[w.heap.size]? = some (.cells l.toArray 209 (0, 0)) ∧ l.length = 256 ∧ ∀ j, j < i → l[j]? = tabCells[j]?)
    (fun ρ wr => match ρ 3 with | .int _ s => (256 - s).toNat | _ => 0) ?_ ?_
  · exact ⟨0, l0, by omega, hx, rfl, rfl, hg, hl0', fun j hj => absurd hj (by omega)⟩
  · rintro ρ wr ⟨i, l, hi, hxr, h3, h1, hb, hl, hj⟩
    rcases Nat.lt_or_ge i 256 with hin | hin
    rotate_left
    · have hin : i = 256 := by omega
      subst hin
      simp only [SS, ST, h3, h1]
      rw [if_neg (by simp)]
      show K (ρ 1) wr
      rw [h1]
      refine h _ wr hxr (Nat.le_refl _) ?_
      have : l = tabCells := by
        apply List.ext_getElem?
        intro j
        by_cases hj' : j < 256
        · exact hj j hj'
        · rw [List.getElem?_eq_none (by omega), List.getElem?_eq_none (by rw [tab_len]; omega)]
      rw [← this]
      exact hb
    · simp only [SS, ST, h3, h1]
      rw [if_pos (by simp; omega)]
      have e8 : IntKind.u8.wrap ((i : Nat) : Int) = (((UInt8.ofNat i).toNat : Nat) : Int) := u8_wrap i
      rw [e8]
      refine step_spec ?_
      refine X_of (ix_arr Try.underlying209 info_23 i rfl (by omega) _) ?_
      have ea : (⟨w.heap.size, 0, none⟩ : Addr).add (i * szT Try.prog 23) = ⟨w.heap.size, i, none⟩ := by
        rw [sz_23, add_plain, Nat.mul_one, Nat.zero_add]
      rw [ea]
      refine XU_store info_23 sz_23 rfl hb (by simp [hl]; omega) (by show ¬ ((0 : Nat) ≤ i ∧ i < 0); omega) ?_
      show _ ∧ _
      refine ⟨⟨i + 1, l.set i (U32 (step8 (UInt8.ofNat i))), by omega, Ext.seq hxr (setAt_keep _ _ _ _ _) (fun k hk => by omega), ?_, h1, ?_, by simp [hl], ?_⟩, ?_⟩
      · exact next64 (n := 256) (by decide) hi
      · have e : l.toArray.setIfInBounds i (U32 (step8 (UInt8.ofNat i))) = (l.set i (U32 (step8 (UInt8.ofNat i)))).toArray := by simp
        rw [← e]
        exact setAt_same (lt_of_blk hb)
      · intro j hj'
        by_cases hji : j = i
        · subst hji
          rw [List.getElem?_set_self (by omega), tab_get j (by omega)]
        · rw [List.getElem?_set_ne (by omega)]
          exact hj j (by omega)
      · show (_ - IntKind.i64.wrap _).toNat < _
        rw [w64 (by omega) (by omega)]
        omega
end Go.Proofs.Ytggggfcgnkllgaa
