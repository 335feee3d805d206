/- What a row's arguments are, type by type; and the order of bytes. -/
import Derived.Test.YtggggfcgnkllgaaFrame
import Derived.ChangeMaps5
import Derived.Test.YtggggfcgnkllgaaOps2
import Derived.Test.YtggggfcgnkllgaaOrder
set_option linter.unusedVariables false
set_option linter.unusedSimpArgs false
namespace Go.Sh
open Go Go.RowKit Go.ChangeShapes Go.WideShapes Go.ChangeAt
section
variable {P : Program} {H : Type} {enc : TypeId × Value → H} {W : World} {base : Nat} {v : Value} {d : DataW H} {p : List MemPlace} {t : TypeId}
theorem arg_u64 (ht : P.underlying t = some (.int .u64)) (ok : Value.okWide P W .any base t v) (h : DataW.Trod enc P W 0 (fun _ => true) true t v d p) : ∃ n : Nat, v = .int .u64 (n : Int) ∧ n < 18446744073709551616 := by
  obtain ⟨n, rfl, _, _, hw⟩ := open_int ht ok h
  simp [Lit.wf, IntKind.min, IntKind.max, IntKind.signed, IntKind.bits] at hw
  exact ⟨n.toNat, by rw [Int.toNat_of_nonneg hw.1], by omega⟩
theorem arg_u32 (ht : P.underlying t = some (.int .u32)) (ok : Value.okWide P W .any base t v) (h : DataW.Trod enc P W 0 (fun _ => true) true t v d p) : ∃ n : Nat, v = .int .u32 (n : Int) ∧ n < 4294967296 := by
  obtain ⟨n, rfl, _, _, hw⟩ := open_int ht ok h
  simp [Lit.wf, IntKind.min, IntKind.max, IntKind.signed, IntKind.bits] at hw
  exact ⟨n.toNat, by rw [Int.toNat_of_nonneg hw.1], by omega⟩
theorem arg_w32 (ht : P.underlying t = some (.int .u32)) (ok : Value.okWide P W .any base t v) (h : DataW.Trod enc P W 0 (fun _ => true) true t v d p) : ∃ c : BitVec 32, v = .int .u32 ((c.toNat : Nat) : Int) := by
  obtain ⟨n, rfl, hn⟩ := arg_u32 ht ok h
  exact ⟨BitVec.ofNat 32 n, by rw [BitVec.toNat_ofNat, Nat.mod_eq_of_lt hn]⟩
theorem arg_u16 (ht : P.underlying t = some (.int .u16)) (ok : Value.okWide P W .any base t v) (h : DataW.Trod enc P W 0 (fun _ => true) true t v d p) : ∃ n : Nat, v = .int .u16 (n : Int) ∧ n < 65536 := by
  obtain ⟨n, rfl, _, _, hw⟩ := open_int ht ok h
  simp [Lit.wf, IntKind.min, IntKind.max, IntKind.signed, IntKind.bits] at hw
  exact ⟨n.toNat, by rw [Int.toNat_of_nonneg hw.1], by omega⟩
theorem arg_u8 (ht : P.underlying t = some (.int .u8)) (ok : Value.okWide P W .any base t v) (h : DataW.Trod enc P W 0 (fun _ => true) true t v d p) : ∃ n : Nat, v = .int .u8 (n : Int) ∧ n < 256 := by
  obtain ⟨n, rfl, _, _, hw⟩ := open_int ht ok h
  simp [Lit.wf, IntKind.min, IntKind.max, IntKind.signed, IntKind.bits] at hw
  exact ⟨n.toNat, by rw [Int.toNat_of_nonneg hw.1], by omega⟩
theorem arg_i64 (ht : P.underlying t = some (.int .i64)) (ok : Value.okWide P W .any base t v) (h : DataW.Trod enc P W 0 (fun _ => true) true t v d p) : ∃ n : Int, v = .int .i64 n ∧ -9223372036854775808 ≤ n ∧ n ≤ 9223372036854775807 := by
  obtain ⟨n, rfl, _, _, hw⟩ := open_int ht ok h
  simp [Lit.wf, IntKind.min, IntKind.max, IntKind.signed, IntKind.bits] at hw
  exact ⟨n, rfl, by omega, by omega⟩
theorem arg_bool (ht : P.underlying t = some .bool) (ok : Value.okWide P W .any base t v) (h : DataW.Trod enc P W 0 (fun _ => true) true t v d p) : ∃ b : Bool, v = .bool b := by
  obtain ⟨b, rfl, _⟩ := open_bool ht ok h
  exact ⟨b, rfl⟩
theorem arg_bytes {e : TypeId} (ht : P.underlying t = some (.slice e)) (he : P.underlying e = some (.int .u8)) (hc : P.cellsOf e = 1) (ok : Value.okWide P W .any base t v)
    (h : DataW.Trod enc P W 0 (fun _ => true) true t v d p) : ∃ bs, Bts W v bs := by
  have hs : ∃ a n c, v = .slice a n c := by
    obtain ⟨a, n, c, e⟩ := okWide_slice ht ok
    exact ⟨a, n, c, e⟩
  obtain ⟨a, n, c, rfl⟩ := hs
  exact TrC.bytes ht he hc (TrC.of h)
theorem arg_string {ts : List TypeId} {ds : List (DataW H)} {j : Nat} (ht : P.underlying t = some .string) (ok : Value.okWide P W .any base t v) (h : DataW.Trod enc P W 0 (fun _ => true) true t v d p)
    (hsz : (DataW.weightsEach P ts ds).all (· ≤ reachBytes) = true) (hj : ts[j]? = some t) (hd : ds[j]? = some d) : ∃ s : List UInt8, v = .string (str s) ∧ s.length < 140737488355328 := by
  obtain ⟨s, rfl, rfl, _, _⟩ := ChangeMaps.open_string ht ok h
  have h1 := sized_string hsz hj hd
  have h2 := reachBytes_lt
  exact ⟨s.data.toList, by rw [← str_of], by omega⟩
end

end Go.Sh
