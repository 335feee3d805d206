import Derived.Test.YtggggfcgnkllgaaT1
import Derived.Test.YtggggfcgnkllgaaNum
set_option linter.unusedVariables false
set_option linter.unusedSimpArgs false
namespace Go.Proofs.Ytggggfcgnkllgaa
open Go Go.Sh Go.RowKit
attribute [local irreducible] X XU XP XR CALL loopS resC closS

theorem w64 {x : Int} (h1 : -9223372036854775808 ≤ x) (h2 : x ≤ 9223372036854775807) : IntKind.i64.wrap x = x := by rw [IntKind.wrap_i64]; omega

theorem add_plain (b o i : Nat) : (⟨b, o, none⟩ : Addr).add i = ⟨b, o + i, none⟩ := by
  unfold Addr.add; split <;> simp_all
theorem next64 {i : Nat} {n : Nat} (h : n < 9223372036854775807) (hi : i ≤ n) : Value.int .i64 (IntKind.i64.wrap ((i : Int) + 1)) = Value.int .i64 ((i + 1 : Nat) : Int) := by
  rw [w64 (by omega) (by omega)]; rfl
theorem shr8 {P : Program} {T : TypeId} {yk : IntKind} (n i : Nat) (hi : i ≤ 7) {s : Int} (e : s = 8 * (i : Int)) (w : World) :
    (binOp .shr T (.int .u64 (n : Int)) (.int yk s)).run P w = .ok (.int .u64 ((n / 256 ^ i : Nat) : Int)) w := by
  subst e
  rw [run_shr _ _ (by omega) w]
  have e1 : min (8 * (i : Int)).toNat IntKind.u64.bits = 8 * i := by
    show min _ 64 = _
    omega
  rw [e1, shr_byte]

theorem Put_spec {b : Value} {bs : List UInt8} {n : Nat} {many : Int} {w : World} {K : Value → World → Prop} (hb : Bts w b bs) (hbs : bs.length ≤ 140737488351232) (hn : n < 18446744073709551616)
    (h : ∀ v w1, Ext w w1 → w1.ownsRow w.heap.size 5 1 v (bs ++ putB n many).length (B8 (bs ++ putB n many)) → K v w1) :
    CALL Try.prog 46 #[b, .int .u64 n, .int .i64 many] w K := by
  obtain ⟨m, hm⟩ : ∃ m : Nat, max 0 (min many 8) = (m : Int) := ⟨clamp8 many, by unfold clamp8; omega⟩
  have hm8 : m ≤ 8 := by omega
  have hput : putB n many = be m n := by unfold putB clamp8; rw [hm]; rfl
  rw [hput] at h
  obtain ⟨a, c, e, h1, h2, h3⟩ := id hb
  subst e
  apply call_codec_Put
  unfold B_codec_Put
  simp only [SS, ST, hm]
  refine X_make Try.underlying27 el_5 bs.length (bs.length + m) rfl (by rw [IntKind.wrap_i64]; omega) (by omega) (by omega) (by omega) ?_
  have hcells : madeCells (Value.int .u8 0).cells ((bs.length + m) * 1) = (List.replicate (bs.length + m) (Value.int .u8 0)).toArray := by
    apply Array.ext'
    rw [Nat.mul_one]
    exact made_one _ _
  rw [hcells]
  have hget := newB_get w (List.replicate (bs.length + m) (Value.int .u8 0)).toArray 5
  have hext := newB_ext w (List.replicate (bs.length + m) (Value.int .u8 0)).toArray 5
  have hsz := newB_size w (List.replicate (bs.length + m) (Value.int .u8 0)).toArray 5
  generalize newB w (List.replicate (bs.length + m) (Value.int .u8 0)).toArray 5 = w1 at hget hext hsz ⊢
  refine X_copy_bts Try.underlying27 (by kernel_rfl) hget (hb.ext hext) (by simp) ?_
  intro w2 hg2 hs2 hk2
  have hrow : w2.ownsRow w.heap.size 5 1 (.slice (some ⟨w.heap.size, 0, none⟩) bs.length (bs.length + m)) bs.length (B8 (bs ++ (be m n).take 0)) := by
    refine ⟨by simp, .inr ⟨w.heap.size, bs.length + m, _, rfl, Nat.le_refl _, hg2, by omega, by simp only [maxLen]; omega, ?_, ?_⟩⟩
    · simp
    · simp
  have hext2 : Ext w w2 := Ext.seq hext hk2 (fun i hi => by omega)
  refine loopS_of (fun ρ wr => ∃ k v, k ≤ m ∧ ρ 1 = .int .u64 n ∧ ρ 7 = v ∧ ρ 8 = .int .i64 (8 * ((m : Int) - 1 - k)) ∧ Ext w wr ∧
      wr.ownsRow w.heap.size 5 1 v (bs.length + k) (B8 (bs ++ (be m n).take k))) (fun ρ wr => match ρ 8 with | .int _ s => (s + 8).toNat | _ => 0) ?_ ?_
  · refine ⟨0, _, by omega, rfl, rfl, ?_, hext2, hrow⟩
    show Value.int .i64 _ = _
    congr 1
    simp only [IntKind.wrap_i64]
    omega
  · rintro ρ wr ⟨k, v, hk, h1', h7, h8, he, ho⟩
    simp only [SS, ST, h1', h7, h8]
    by_cases hkm : k = m
    · subst hkm
      rw [if_neg (by simp; omega)]
      show K (ρ 7) wr
      rw [h7]
      refine h v wr he ?_
      rw [List.take_of_length_le (by simp)] at ho
      simpa using ho
    · rw [if_pos (by simp; omega)]
      obtain ⟨j, hj⟩ : ∃ j, m = k + 1 + j := ⟨m - 1 - k, by omega⟩
      refine X_of (shr8 n j (by omega) (by omega) wr) ?_
      simp only [SS, ST]
      rw [u8_wrap]
      refine X_buildSlice1 Try.underlying27 el_5 rfl ?_
      refine X_append_u8 Try.underlying27 el_5 ho (by omega) he.size ?_
      intro v1 w3 ho3 hk3
      show _ ∧ _
      refine ⟨⟨k + 1, v1, by omega, h1', rfl, ?_, Ext.seq he hk3 ?_, ?_⟩, ?_⟩
      · show Value.int .i64 _ = _
        congr 1
        rw [w64 (by omega) (by omega)]
        omega
      · intro i hi
        exact (ho.lt i hi.symm).1
      · rw [be_take_succ m n k (by omega), ← List.append_assoc]
        have e1 : m - 1 - k = j := by omega
        rw [e1]
        exact ho3
      · show (IntKind.i64.wrap _ + 8).toNat < _
        rw [w64 (by omega) (by omega)]
        omega
end Go.Proofs.Ytggggfcgnkllgaa
