/- Part 3 of what the law is proved with. -/
import Derived.Lib.AppendStr
import Derived.Laws.Strings
import Derived.Test.YtcigpjejbkngfaaGreatDoorQTR2
set_option linter.unusedVariables false
set_option linter.unusedSimpArgs false
section
namespace Go.Proofs.YtcigpjejbkngfaaGreatDoor
open Go Go.Sh
attribute [local irreducible] X XU XP XR CALL loopS resC closS
def B_codec_Put (x0 x1 x2 : Value) (w : World) (K : Value → World → Prop) : Prop :=
  X Tryz.prog (Builtin.min_ #[3, 3] 3 #[x2, (.int .i64 8)]) w fun v1 w1 =>
  X Tryz.prog (Builtin.max_ #[3, 3] 3 #[(.int .i64 0), v1]) w1 fun v2 w2 =>
  X Tryz.prog (Builtin.len_ #[28] 3 #[x0]) w2 fun v3 w3 =>
  X Tryz.prog (Builtin.len_ #[28] 3 #[x0]) w3 fun v4 w4 =>
  X Tryz.prog (binOp .add 3 v4 v2) w4 fun v5 w5 =>
  X Tryz.prog (Instr.makeSlice 28 v3 v5) w5 fun v6 w6 =>
  X Tryz.prog (Builtin.copy_ #[28, 28] 3 #[v6, x0]) w6 fun v7 w7 =>
  X Tryz.prog (binOp .sub 3 v2 (.int .i64 1)) w7 fun v8 w8 =>
  X Tryz.prog (binOp .mul 3 (.int .i64 8) v8) w8 fun v9 w9 =>
  loopS (fun Q1 ρ1 w10 =>
  X Tryz.prog (binOp .geq 3 (ρ1 8) (.int .i64 0)) w10 fun v10 w11 =>
  condS v10 (
  X Tryz.prog (binOp .shr 37 (ρ1 1) (ρ1 8)) w11 fun v11 w12 =>
  X Tryz.prog (convert 37 5 v11) w12 fun v12 w13 =>
  X Tryz.prog (Instr.buildSlice 28 1 #[(0, v12)]) w13 fun v13 w14 =>
  X Tryz.prog (Builtin.append_ #[28, 28] 28 #[(ρ1 7), v13]) w14 fun v14 w15 =>
  X Tryz.prog (binOp .sub 3 (ρ1 8) (.int .i64 8)) w15 fun v15 w16 =>
  Q1 .normal (upds ρ1 [(8, v15), (28, v15), (27, (ρ1 8)), (7, v14), (35, v14), (34, v13), (33, v12), (32, v11), (31, (ρ1 8)), (30, (ρ1 1)), (29, (ρ1 7)), (26, v10), (25, (ρ1 8))]) w16) (
  Q1 (.exit 0) (upds ρ1 [(26, v10), (25, (ρ1 8))]) w11)) (inBlockS 0 (thenS (fun ρ2 w17 =>
  K (ρ2 7) w17) (retS Tryz.prog (Tryz.f47).results K))) (upds (env0 #[x0, x1, x2]) [(8, v9), (24, v9), (23, v8), (22, v2), (21, v7), (20, x0), (19, v6), (7, v6), (18, v6), (17, v5), (16, v2), (15, v4), (14, x0), (13, v3), (12, x0), (2, v2), (11, v2), (10, v1), (9, x2), (6, (.slice none 0 0))]) w9
theorem eq_codec_Put (x0 x1 x2 : Value) (w : World) (K : Value → World → Prop) :
    sh Tryz.prog (Tryz.f47.body.getD .skip) (retS Tryz.prog Tryz.f47.results K) (env0 #[x0, x1, x2]) w = B_codec_Put x0 x1 x2 w K := by kernel_rfl
theorem call_codec_Put (x0 x1 x2 : Value) (w : World) (K : Value → World → Prop) (h : B_codec_Put x0 x1 x2 w K) : CALL Tryz.prog 47 #[x0, x1, x2] w K :=
  call_of_eq (c := Tryz.f47.body.getD .skip) mixed Tryz.func47 (by kernel_rfl) (by kernel_rfl) (by kernel_rfl) (Nat.le_of_ble_eq_true (by kernel_rfl)) (eq_codec_Put x0 x1 x2 w K) h
def B_codec_New (x0 : Value) (w : World) (K : Value → World → Prop) : Prop :=
  X Tryz.prog (Builtin.append_ #[28, 28] 28 #[(.slice none 0 0), x0]) w fun v1 w1 =>
  X Tryz.prog (Instr.build 209 #[(0, v1)]) w1 fun v2 w2 =>
  X Tryz.prog (Instr.box 209 v2) w2 fun v3 w3 =>
  K v3 w3
theorem eq_codec_New (x0 : Value) (w : World) (K : Value → World → Prop) :
    sh Tryz.prog (Tryz.f92.body.getD .skip) (retS Tryz.prog Tryz.f92.results K) (env0 #[x0]) w = B_codec_New x0 w K := by kernel_rfl
theorem call_codec_New (x0 : Value) (w : World) (K : Value → World → Prop) (h : B_codec_New x0 w K) : CALL Tryz.prog 92 #[x0] w K :=
  call_of_eq (c := Tryz.f92.body.getD .skip) mixed Tryz.func92 (by kernel_rfl) (by kernel_rfl) (by kernel_rfl) (Nat.le_of_ble_eq_true (by kernel_rfl)) (eq_codec_New x0 w K) h
def B_codec_Reader_Get (x0 x1 : Value) (w : World) (K : Value → World → Prop) : Prop :=
  CALL Tryz.prog 115 #[x0] w fun v1 w1 =>
  X Tryz.prog (Op.unary .not v1) w1 fun v2 w2 =>
  condS v2 (
  K (.int .u64 0) w2) (
  X Tryz.prog (binOp .lss 3 x1 (.int .i64 0)) w2 fun v3 w3 =>
  gstep v3 false (fun w4 K => K x1 w4) w3 fun v4 w5 =>
  gstep v3 false (fun w6 K => X Tryz.prog (binOp .gtr 3 v4 (.int .i64 8)) w6 K) w5 fun v5 w7 =>
  X Tryz.prog (pickS v3 (.bool true) v5) w7 fun v6 w8 =>
  condS v6 (
  X Tryz.prog (nilS x0) w8 fun v7 w9 =>
  X Tryz.prog (Instr.fieldAt 209 v7 1) w9 fun v8 w10 =>
  XU Tryz.prog (Instr.storeAt 34 v8 (.int .i64 1)) w10 fun w11 =>
  K (.int .u64 0) w11) (
  X Tryz.prog (nilS x0) w8 fun v9 w12 =>
  X Tryz.prog (Instr.fieldAt 209 v9 0) w12 fun v10 w13 =>
  X Tryz.prog (Instr.loadAt 28 v10) w13 fun v11 w14 =>
  X Tryz.prog (Builtin.len_ #[28] 3 #[v11]) w14 fun v12 w15 =>
  X Tryz.prog (binOp .gtr 3 x1 v12) w15 fun v13 w16 =>
  condS v13 (
  X Tryz.prog (nilS x0) w16 fun v14 w17 =>
  X Tryz.prog (Instr.fieldAt 209 v14 1) w17 fun v15 w18 =>
  XU Tryz.prog (Instr.storeAt 34 v15 (.int .i64 10)) w18 fun w19 =>
  K (.int .u64 0) w19) (
  X Tryz.prog (nilS x0) w16 fun v16 w20 =>
  X Tryz.prog (Instr.fieldAt 209 v16 0) w20 fun v17 w21 =>
  X Tryz.prog (Instr.loadAt 28 v17) w21 fun v18 w22 =>
  X Tryz.prog (Instr.sliceAt 28 v18 none (some x1) none) w22 fun v19 w23 =>
  CALL Tryz.prog 116 #[v19] w23 fun v20 w24 =>
  X Tryz.prog (nilS x0) w24 fun v21 w25 =>
  X Tryz.prog (Instr.fieldAt 209 v21 0) w25 fun v22 w26 =>
  X Tryz.prog (Instr.loadAt 28 v22) w26 fun v23 w27 =>
  X Tryz.prog (Instr.sliceAt 28 v23 (some x1) none none) w27 fun v24 w28 =>
  X Tryz.prog (nilS x0) w28 fun v25 w29 =>
  X Tryz.prog (Instr.fieldAt 209 v25 0) w29 fun v26 w30 =>
  XU Tryz.prog (Instr.storeAt 28 v26 v24) w30 fun w31 =>
  K v20 w31)))
theorem eq_codec_Reader_Get (x0 x1 : Value) (w : World) (K : Value → World → Prop) :
    sh Tryz.prog (Tryz.f93.body.getD .skip) (retS Tryz.prog Tryz.f93.results K) (env0 #[x0, x1]) w = B_codec_Reader_Get x0 x1 w K := by kernel_rfl
theorem call_codec_Reader_Get (x0 x1 : Value) (w : World) (K : Value → World → Prop) (h : B_codec_Reader_Get x0 x1 w K) : CALL Tryz.prog 93 #[x0, x1] w K :=
  call_of_eq (c := Tryz.f93.body.getD .skip) mixed Tryz.func93 (by kernel_rfl) (by kernel_rfl) (by kernel_rfl) (Nat.le_of_ble_eq_true (by kernel_rfl)) (eq_codec_Reader_Get x0 x1 w K) h
def B_codec_Reader_ready (x0 : Value) (w : World) (K : Value → World → Prop) : Prop :=
  X Tryz.prog (binOpG .neq 185 (.tmp 3) (.const (.pointer none)) x0 (.pointer none)) w fun v1 w1 =>
  gstep v1 true (fun w2 K => K x0 w2) w1 fun v2 w3 =>
  gstep v1 true (fun w4 K => X Tryz.prog (nilS v2) w4 K) w3 fun v3 w5 =>
  gstep v1 true (fun w6 K => X Tryz.prog (Instr.fieldAt 209 v3 1) w6 K) w5 fun v4 w7 =>
  gstep v1 true (fun w8 K => X Tryz.prog (Instr.loadAt 34 v4) w8 K) w7 fun v5 w9 =>
  gstep v1 true (fun w10 K => X Tryz.prog (binOpG .eql 34 (.tmp 9) (.const (.int .i64 0)) v5 (.int .i64 0)) w10 K) w9 fun v6 w11 =>
  X Tryz.prog (pickS v1 v6 (.bool false)) w11 fun v7 w12 =>
  K v7 w12
theorem eq_codec_Reader_ready (x0 : Value) (w : World) (K : Value → World → Prop) :
    sh Tryz.prog (Tryz.f115.body.getD .skip) (retS Tryz.prog Tryz.f115.results K) (env0 #[x0]) w = B_codec_Reader_ready x0 w K := by kernel_rfl
theorem call_codec_Reader_ready (x0 : Value) (w : World) (K : Value → World → Prop) (h : B_codec_Reader_ready x0 w K) : CALL Tryz.prog 115 #[x0] w K :=
  call_of_eq (c := Tryz.f115.body.getD .skip) mixed Tryz.func115 (by kernel_rfl) (by kernel_rfl) (by kernel_rfl) (Nat.le_of_ble_eq_true (by kernel_rfl)) (eq_codec_Reader_ready x0 w K) h
def B_codec_number (x0 : Value) (w : World) (K : Value → World → Prop) : Prop :=
  X Tryz.prog (Builtin.len_ #[28] 3 #[x0]) w fun v1 w1 =>
  loopS (fun Q1 ρ1 w2 =>
  X Tryz.prog (binOp .lss 3 (ρ1 8) (ρ1 7)) w2 fun v2 w3 =>
  condS v2 (
  X Tryz.prog (Instr.indexAt 28 (ρ1 6) (ρ1 8)) w3 fun v3 w4 =>
  X Tryz.prog (Instr.loadAt 5 v3) w4 fun v4 w5 =>
  X Tryz.prog (binOp .shl 37 (ρ1 3) (.int .u64 8)) w5 fun v5 w6 =>
  X Tryz.prog (convert 5 37 v4) w6 fun v6 w7 =>
  X Tryz.prog (binOp .or 37 v5 v6) w7 fun v7 w8 =>
  X Tryz.prog (binOp .add 3 (ρ1 8) (.int .i64 1)) w8 fun v8 w9 =>
  Q1 .normal (upds ρ1 [(8, v8), (17, v8), (3, v7), (16, v7), (15, v6), (14, v4), (13, v5), (12, (ρ1 3)), (5, v4), (11, v4), (10, v3), (9, v2)]) w9) (
  Q1 (.exit 0) (upds ρ1 [(9, v2)]) w3)) (inBlockS 0 (thenS (fun ρ2 w10 =>
  K (ρ2 3) w10) (retS Tryz.prog (Tryz.f116).results K))) (upds (env0 #[x0]) [(8, (.int .i64 0)), (7, v1), (6, x0), (3, (.int .u64 0)), (2, (.int .u64 0))]) w1
theorem eq_codec_number (x0 : Value) (w : World) (K : Value → World → Prop) :
    sh Tryz.prog (Tryz.f116.body.getD .skip) (retS Tryz.prog Tryz.f116.results K) (env0 #[x0]) w = B_codec_number x0 w K := by kernel_rfl
theorem call_codec_number (x0 : Value) (w : World) (K : Value → World → Prop) (h : B_codec_number x0 w K) : CALL Tryz.prog 116 #[x0] w K :=
  call_of_eq (c := Tryz.f116.body.getD .skip) mixed Tryz.func116 (by kernel_rfl) (by kernel_rfl) (by kernel_rfl) (Nat.le_of_ble_eq_true (by kernel_rfl)) (eq_codec_number x0 w K) h
end Go.Proofs.YtcigpjejbkngfaaGreatDoor
end
section
namespace Go.Sh
def be : Nat → Nat → List UInt8
  | 0, _ => []
  | m + 1, n => UInt8.ofNat (n / 256 ^ m) :: be m n
@[simp] theorem be_length (m n : Nat) : (be m n).length = m := by
  induction m with
  | zero => rfl
  | succ m ih => simp [be, ih]
theorem be_take_succ (m n k : Nat) (h : k < m) : (be m n).take (k + 1) = (be m n).take k ++ [UInt8.ofNat (n / 256 ^ (m - 1 - k))] := by
  induction m generalizing k with
  | zero => omega
  | succ m ih =>
    cases k with
    | zero => simp [be]
    | succ k =>
      have := ih k (by omega)
      simp only [be, List.take_succ_cons, this, List.cons_append]
      have e : m + 1 - 1 - (k + 1) = m - 1 - k := by omega
      rw [e]
def clamp8 (many : Int) : Nat := (max 0 (min many 8)).toNat
def putB (n : Nat) (many : Int) : List UInt8 := be (clamp8 many) n
def num (l : List UInt8) : Nat := l.foldl (fun n u => n * 256 + u.toNat) 0
theorem u8_wrap (n : Nat) : Go.IntKind.u8.wrap (n : Int) = ((UInt8.ofNat n).toNat : Int) := by
  have h : ∀ x : Int, Go.IntKind.u8.wrap x = x % 256 := fun x => by simp [Go.IntKind.wrap, Go.IntKind.bits, Go.IntKind.signed]
  rw [h]
  simp
theorem fdiv_pow (n j : Nat) : (n : Int).fdiv (2 ^ j) = ((n / 2 ^ j : Nat) : Int) := by
  have hp : (0 : Int) ≤ 2 ^ j := Int.pow_nonneg (by decide)
  rw [Int.fdiv_eq_ediv_of_nonneg _ hp]
  norm_cast
theorem shr_byte (n i : Nat) : (n : Int).fdiv (2 ^ (8 * i)) = ((n / 256 ^ i : Nat) : Int) := by
  rw [fdiv_pow, Nat.pow_mul]
end Go.Sh
end
section
namespace Go.Proofs.YtcigpjejbkngfaaGreatDoor
open Go Go.Sh Go.RowKit
attribute [local irreducible] X XU XP XR CALL loopS resC closS
theorem w64 {x : Int} (h1 : -9223372036854775808 ≤ x) (h2 : x ≤ 9223372036854775807) : IntKind.i64.wrap x = x := by rw [IntKind.wrap_i64]; omega
theorem add_plain (b o i : Nat) : (⟨b, o, none⟩ : Addr).add i = ⟨b, o + i, none⟩ := by
  unfold Addr.add; split <;> simp_all
theorem next64 {i : Nat} {n : Nat} (h : n < 9223372036854775807) (hi : i ≤ n) : Value.int .i64 (IntKind.i64.wrap ((i : Int) + 1)) = Value.int .i64 ((i + 1 : Nat) : Int) := by
  rw [w64 (by omega) (by omega)]; rfl
theorem shr8 {P : Program} {T : TypeId} {yk : IntKind} (n i : Nat) (hi : i ≤ 7) {s : Int} (e : s = 8 * (i : Int)) (w : World) :
    (binOp .shr T (.int .u64 (n : Int)) (.int yk s)).run P w = .ok (.int .u64 ((n / 256 ^ i : Nat) : Int)) w := by
  subst e
  rw [run_shr _ _ (by omega) w]
  have e1 : min (8 * (i : Int)).toNat IntKind.u64.bits = 8 * i := by
    show min _ 64 = _
    omega
  rw [e1, shr_byte]
theorem Put_spec {b : Value} {bs : List UInt8} {n : Nat} {many : Int} {w : World} {K : Value → World → Prop} (hb : Bts w b bs) (hbs : bs.length ≤ 140737488351232) (hn : n < 18446744073709551616)
    (h : ∀ v w1, Ext w w1 → w1.ownsRow w.heap.size 5 1 v (bs ++ putB n many).length (B8 (bs ++ putB n many)) → K v w1) :
    CALL Tryz.prog 47 #[b, .int .u64 n, .int .i64 many] w K := by
  obtain ⟨m, hm⟩ : ∃ m : Nat, max 0 (min many 8) = (m : Int) := ⟨clamp8 many, by unfold clamp8; omega⟩
  have hm8 : m ≤ 8 := by omega
  have hput : putB n many = be m n := by unfold putB clamp8; rw [hm]; rfl
  rw [hput] at h
  obtain ⟨a, c, e, h1, h2, h3⟩ := id hb
  subst e
  apply call_codec_Put
  unfold B_codec_Put
  simp only [SS, ST, hm]
  refine X_make Tryz.underlying28 el_5 bs.length (bs.length + m) rfl (by rw [IntKind.wrap_i64]; omega) (by omega) (by omega) (by omega) ?_
  have hcells : madeCells (Value.int .u8 0).cells ((bs.length + m) * 1) = (List.replicate (bs.length + m) (Value.int .u8 0)).toArray := by
    apply Array.ext'
    rw [Nat.mul_one]
    exact made_one _ _
  rw [hcells]
  have hget := newB_get w (List.replicate (bs.length + m) (Value.int .u8 0)).toArray 5
  have hext := newB_ext w (List.replicate (bs.length + m) (Value.int .u8 0)).toArray 5
  have hsz := newB_size w (List.replicate (bs.length + m) (Value.int .u8 0)).toArray 5
  generalize newB w (List.replicate (bs.length + m) (Value.int .u8 0)).toArray 5 = w1 at hget hext hsz ⊢
  refine X_copy_bts Tryz.underlying28 (by kernel_rfl) hget (hb.ext hext) (by simp) ?_
  intro w2 hg2 hs2 hk2
  have hrow : w2.ownsRow w.heap.size 5 1 (.slice (some ⟨w.heap.size, 0, none⟩) bs.length (bs.length + m)) bs.length (B8 (bs ++ (be m n).take 0)) := by
    refine ⟨by simp, .inr ⟨w.heap.size, bs.length + m, _, rfl, Nat.le_refl _, hg2, by omega, by simp only [maxLen]; omega, ?_, ?_⟩⟩
    · simp
    · simp
  have hext2 : Ext w w2 := Ext.seq hext hk2 (fun i hi => by omega)
  refine loopS_of (fun ρ wr => ∃ k v, k ≤ m ∧ ρ 1 = .int .u64 n ∧ ρ 7 = v ∧ ρ 8 = .int .i64 (8 * ((m : Int) - 1 - k)) ∧ Ext w wr ∧
      wr.ownsRow w.heap.size 5 1 v (bs.length + k) (B8 (bs ++ (be m n).take k))) (fun ρ wr => match ρ 8 with | .int _ s => (s + 8).toNat | _ => 0) ?_ ?_
  · refine ⟨0, _, by omega, rfl, rfl, ?_, hext2, hrow⟩
    show Value.int .i64 _ = _
    congr 1
    simp only [IntKind.wrap_i64]
    omega
  · rintro ρ wr ⟨k, v, hk, h1', h7, h8, he, ho⟩
    simp only [SS, ST, h1', h7, h8]
    by_cases hkm : k = m
    · subst hkm
      rw [if_neg (by simp; omega)]
      show K (ρ 7) wr
      rw [h7]
      refine h v wr he ?_
      rw [List.take_of_length_le (by simp)] at ho
      simpa using ho
    · rw [if_pos (by simp; omega)]
      obtain ⟨j, hj⟩ : ∃ j, m = k + 1 + j := ⟨m - 1 - k, by omega⟩
      refine X_of (shr8 n j (by omega) (by omega) wr) ?_
      simp only [SS, ST]
      rw [u8_wrap]
      refine X_buildSlice1 Tryz.underlying28 el_5 rfl ?_
      refine X_append_u8 Tryz.underlying28 el_5 ho (by omega) he.size ?_
      intro v1 w3 ho3 hk3
      show _ ∧ _
      refine ⟨⟨k + 1, v1, by omega, h1', rfl, ?_, Ext.seq he hk3 ?_, ?_⟩, ?_⟩
      · show Value.int .i64 _ = _
        congr 1
        rw [w64 (by omega) (by omega)]
        omega
      · intro i hi
        exact (ho.lt i hi.symm).1
      · rw [be_take_succ m n k (by omega), ← List.append_assoc]
        have e1 : m - 1 - k = j := by omega
        rw [e1]
        exact ho3
      · show (IntKind.i64.wrap _ + 8).toNat < _
        rw [w64 (by omega) (by omega)]
        omega
end Go.Proofs.YtcigpjejbkngfaaGreatDoor
end
section
namespace Go.Sh
open Go Go.RowKit
def str (bs : List UInt8) : ByteArray := ⟨bs.toArray⟩
theorem str_toList (bs : List UInt8) : (str bs).toList = bs := ByteArray.toList_mk bs
theorem str_size (bs : List UInt8) : (str bs).size = bs.length := by simp [str, ByteArray.size]
theorem wrap_u64 (n : Int) : IntKind.u64.wrap n = n % 18446744073709551616 := by simp [IntKind.wrap, IntKind.bits, IntKind.signed]
theorem wrap_u32 (n : Int) : IntKind.u32.wrap n = n % 4294967296 := by simp [IntKind.wrap, IntKind.bits, IntKind.signed]
theorem wrap_u8 (n : Int) : IntKind.u8.wrap n = n % 256 := by simp [IntKind.wrap, IntKind.bits, IntKind.signed]
section
variable {P : Program}
theorem X_loadL {t : TypeId} {b o : Nat} {l : List Value} {T : TypeId} {fr : Nat × Nat} {v : Value} {w : World} {K : Value → World → Prop} (ht : aggB P t = false)
    (hb : w.heap[b]? = some (.cells l.toArray T fr)) (hv : l[o]? = some v) (h : K v w) : X P (Instr.loadAt t (.pointer (some ⟨b, o, none⟩))) w K :=
  X_loadB ht hb (by simpa using hv) h
theorem XR_loadL {t : TypeId} {b o : Nat} {l : List Value} {T : TypeId} {fr : Nat × Nat} {v : Value} {w : World} {K : Value → World → Prop} (ht : aggB P t = false)
    (hb : w.heap[b]? = some (.cells l.toArray T fr)) (hv : l[o]? = some v) (h : K v w) : XR P Ext (Instr.loadAt t (.pointer (some ⟨b, o, none⟩))) w K :=
  XR_ok Ext.frame (fun w' k => run_loadAt ht ((cell_blk (k.get hb)).trans (by simpa using hv))) h
theorem own_mono {w : World} {base base' : Nat} {e : TypeId} {size : Nat} {v : Value} {n : Nat} {xs : List Value} (h : w.ownsRow base e size v n xs) (hb : base' ≤ base) : w.ownsRow base' e size v n xs :=
  ⟨h.1, h.2.imp id fun ⟨g, cap, cur, he, hg, rest⟩ => ⟨g, cap, cur, he, Nat.le_trans hb hg, rest⟩⟩
theorem XR_of_all {R : World → World → Prop} {s : Sem Value} {w : World} {v : Value} {K : Value → World → Prop} (h : ∀ w', s.run P w' = .ok v w') (hK : K v w) : XR P R s w K := by
  rw [XR_eq h]; exact hK
theorem run_str {src dst e : TypeId} (hs : P.underlying src = some (.slice e)) (he : P.underlying e = some (.int .u8)) (hd : P.underlying dst = some .string) {v : Value} {bs : List UInt8} {w : World} (hb : Bts w v bs) :
    (convert src dst v).run P w = .ok (.string (str bs)) w := by
  obtain ⟨a, c, rfl, h1, h2, h3⟩ := hb
  rw [run_convert_bytes_string w src dst e _ _ c hs he hd]
  by_cases h0 : 0 < bs.length
  · obtain ⟨ad, rfl, hc⟩ := h3 h0
    have hl : (loadCells ad bs.length).run P w = .ok ((bs.map fun u => (u.toNat : Int)).map (Value.int .u8)).toArray w := by
      have := run_loadCells_list (P := P) w ad ((bs.map fun u => (u.toNat : Int)).map (Value.int .u8)) (fun j v hj => by
        simp only [List.map_map, List.getElem?_map] at hj
        obtain ⟨u, hu, rfl⟩ := Option.map_eq_some_iff.1 hj
        exact hc j u hu)
      simpa using this
    rw [run_bytesToString w _ _ c _ hl, foldl_push_bytes]
    congr 2
    simp [str, List.map_map, Function.comp_def, ByteArray.empty, ByteArray.emptyWithCapacity]
    rfl
  · have : bs = [] := List.eq_nil_of_length_eq_zero (by omega)
    subst this
    cases a with
    | none => simp [Conv.bytesToString, str]; rfl
    | some ad => simp [Conv.bytesToString, loadCells, loadCellsFrom, str]; rfl
theorem X_eq_str (T : TypeId) (a b : Operand) (x y : List UInt8) (w : World) (K : Value → World → Prop) : X P (binOpG .eql T a b (.string (str x)) (.string (str y))) w K = K (.bool (decide (x = y))) w := by
  rw [X_ok (run_string_eql T a b _ _ w), str_toList, str_toList]
  have : (x == y) = decide (x = y) := by rw [Bool.eq_iff_iff]; simp
  rw [this]
theorem run_xor {k : IntKind} (hk : k.signed = false) (T : TypeId) (x y : Nat) (hx : x < 2 ^ k.bits) (hy : y < 2 ^ k.bits) (w : World) : (binOp .xor T (.int k (x : Int)) (.int k (y : Int))).run P w = .ok (.int k ((x ^^^ y : Nat) : Int)) w := by
  have h1 : (BitVec.ofInt k.bits (x : Int) ^^^ BitVec.ofInt k.bits (y : Int)).toNat = x ^^^ y := by
    rw [BitVec.toNat_xor, BitVec.ofInt_natCast, BitVec.ofInt_natCast, BitVec.toNat_ofNat, BitVec.toNat_ofNat, Nat.mod_eq_of_lt hx, Nat.mod_eq_of_lt hy]
  have h2 : k.wrap ((x ^^^ y : Nat) : Int) = ((x ^^^ y : Nat) : Int) := by
    have h3 : x ^^^ y < 2 ^ k.bits := Nat.xor_lt_two_pow hx hy
    have h4 : ((x ^^^ y : Nat) : Int) % (2 ^ k.bits : Nat) = ((x ^^^ y : Nat) : Int) := by
      rw [← Int.natCast_emod, Nat.mod_eq_of_lt h3]
    simp only [IntKind.wrap, hk]
    simpa using h4
  simp [binOp, Op.intBits, Nat.mod_eq_of_lt hx, Nat.mod_eq_of_lt hy, h2]
theorem run_or {k : IntKind} (hk : k.signed = false) (T : TypeId) (x y : Nat) (hx : x < 2 ^ k.bits) (hy : y < 2 ^ k.bits) (w : World) : (binOp .or T (.int k (x : Int)) (.int k (y : Int))).run P w = .ok (.int k ((x ||| y : Nat) : Int)) w := by
  have h1 : (BitVec.ofInt k.bits (x : Int) ||| BitVec.ofInt k.bits (y : Int)).toNat = x ||| y := by
    rw [BitVec.toNat_or, BitVec.ofInt_natCast, BitVec.ofInt_natCast, BitVec.toNat_ofNat, BitVec.toNat_ofNat, Nat.mod_eq_of_lt hx, Nat.mod_eq_of_lt hy]
  have h2 : k.wrap ((x ||| y : Nat) : Int) = ((x ||| y : Nat) : Int) := by
    have h3 : x ||| y < 2 ^ k.bits := Nat.or_lt_two_pow hx hy
    have h4 : ((x ||| y : Nat) : Int) % (2 ^ k.bits : Nat) = ((x ||| y : Nat) : Int) := by
      rw [← Int.natCast_emod, Nat.mod_eq_of_lt h3]
    simp only [IntKind.wrap, hk]
    simpa using h4
  simp [binOp, Op.intBits, Nat.mod_eq_of_lt hx, Nat.mod_eq_of_lt hy, h2]
theorem run_loadAgg {t : TypeId} {d : TypeDesc} (hu : P.underlying t = some d) (ha : aggB P t = true) (hi : infoB P t = true) {b o : Nat} {cs : Array Value} {T : TypeId} {fr : Nat × Nat} {w : World} (hb : w.heap[b]? = some (.cells cs T fr))
    {l : List Value} (hl : (cs.toList.drop o).take (szT P t) = l) (hn : l.length = szT P t) : (Instr.loadAt t (.pointer (some ⟨b, o, none⟩))).run P w = .ok (.agg l.toArray) w := by
  have hload : (loadCells ⟨b, o, none⟩ l.length).run P w = .ok l.toArray w := by
    refine run_loadCells_list w _ l fun j v hj => ?_
    have e : (⟨b, o, none⟩ : Addr).add j = ⟨b, o + j, none⟩ := by unfold Addr.add; split <;> simp_all
    rw [e, cell_blk hb]
    rw [← hl, List.getElem?_take] at hj
    split at hj
    · rw [List.getElem?_drop] at hj
      rwa [Array.getElem?_toList] at hj
    · cases hj
  rw [hn] at hload
  simp [Instr.loadAt, Instr.sureAddr, loadVar, isAgg_run' hu ha, sizeOf_run hi, hload]
theorem resC_agg {t : TypeId} {d : TypeDesc} (hu : P.underlying t = some d) (ha : aggB P t = true) (hi : infoB P t = true) {b : Nat} {l : List Value} {T : TypeId} {fr : Nat × Nat} {w : World} {K : Value → Prop}
    (hb : w.heap[b]? = some (.cells l.toArray T fr)) (hn : l.length = szT P t) (h : K (.agg l.toArray)) : resC P t (.pointer (some ⟨b, 0, none⟩)) w K := by
  have := run_loadAgg hu ha hi hb (by rw [List.drop_zero]; exact List.take_of_length_le (by simp [hn])) hn
  simp only [Instr.loadAt, Instr.sureAddr] at this
  unfold resC
  have e : (do loadVar t (← asAddr (.pointer (some ⟨b, 0, none⟩))) : Sem Value).run P w = .ok (.agg l.toArray) w := by
    simp only [asAddr]
    simpa using this
  rw [e]
  exact ⟨rfl, h⟩
theorem run_storeAgg {t : TypeId} (hi : infoB P t = true) {b : Nat} {cs : Array Value} {l : List Value} {T : TypeId} {w : World} (hb : w.heap[b]? = some (.cells cs T (0, 0))) (hc : cs.size = szT P t) (hn : l.length = szT P t)
    (h1 : ∀ v ∈ l, v.oneCell' = true) : (Instr.storeAt t (.pointer (some ⟨b, 0, none⟩)) (.agg l.toArray)).run P w = .ok () (setAt w b l.toArray T (0, 0)) := by
  have hst := run_storeCells_at P b 0 T l 0 cs w hb (by omega) h1
  have e : w.setRow b ((cs.toList.take (0 + 0) ++ l ++ cs.toList.drop (0 + 0 + l.length)).toArray) = setAt w b l.toArray T (0, 0) := by
    have e1 : cs.toList.drop (0 + 0 + l.length) = [] := List.drop_eq_nil_of_le (by simp; omega)
    rw [e1, List.take_zero, List.nil_append, List.append_nil]
    unfold World.setRow setAt
    congr 1
    apply Array.ext_getElem?
    intro i
    have hl := lt_of_blk hb
    by_cases hi : i = b
    · subst hi
      rw [Array.getElem?_modify, if_pos rfl, hb]
      simp [hl]
    · rw [Array.getElem?_setIfInBounds_ne (Ne.symm hi), Array.getElem?_modify]
      simp [Ne.symm hi]
  rw [e] at hst
  simp [Instr.storeAt, Instr.sureAddr, storeVar, sizeOf_run hi, Value.cells, hn, hst]
theorem XU_storeAgg {t : TypeId} (hi : infoB P t = true) {b : Nat} {cs : Array Value} {l : List Value} {T : TypeId} {w : World} {K : World → Prop} (hb : w.heap[b]? = some (.cells cs T (0, 0))) (hc : cs.size = szT P t) (hn : l.length = szT P t)
    (h1 : ∀ v ∈ l, v.oneCell' = true) (h : K (setAt w b l.toArray T (0, 0))) : XU P (Instr.storeAt t (.pointer (some ⟨b, 0, none⟩)) (.agg l.toArray)) w K := by
  unfold XU; rw [run_storeAgg hi hb hc hn h1]; exact h
theorem run_arrayAt {arr e n : Nat} (ha : P.underlying arr = some (.array n e)) (a : Option Addr) {l : Nat} (hl : n ≤ l) (c : Nat) (w : World) : (Instr.arrayAt arr (.slice a l c)).run P w = .ok (.pointer a) w := by
  have : ¬ l < n := by omega
  simp [Instr.arrayAt, run_underlying ha, this]
end
end Go.Sh
end
section
namespace Go.Proofs.YtcigpjejbkngfaaGreatDoor
open Go Go.Sh Go.RowKit
attribute [local irreducible] X XU XP XR CALL loopS resC closS
def Rdr (w : World) (lo hi b : Nat) (bs : List UInt8) (f : Int) : Prop :=
  ∃ v, w.heap[b]? = some (.cells #[v, .int .i64 f] 209 (0, 0)) ∧ Bts w v bs ∧ ∀ k, v.ownBlock = some k → lo ≤ k ∧ k < hi ∧ k ≠ b
theorem Rdr.keep {D : Nat → Prop} {w w' : World} {lo hi b : Nat} {bs : List UInt8} {f : Int} (h : Rdr w lo hi b bs f) (k : Keep D w w') (h1 : ¬ D b) (h2 : ∀ i, lo ≤ i → i < hi → i ≠ b → ¬ D i) : Rdr w' lo hi b bs f := by
  obtain ⟨v, hb, hv, ho⟩ := h
  exact ⟨v, k.get h1 hb, hv.keep k (fun i hi => h2 i (ho i hi).1 (ho i hi).2.1 (ho i hi).2.2), ho⟩
theorem Rdr.ext {w w' : World} {lo hi b : Nat} {bs : List UInt8} {f : Int} (h : Rdr w lo hi b bs f) (k : Ext w w') : Rdr w' lo hi b bs f := h.keep k (fun h => h) (fun _ _ _ _ h => h)
theorem Rdr.lt {w : World} {lo hi b : Nat} {bs : List UInt8} {f : Int} (h : Rdr w lo hi b bs f) : b < w.heap.size := by
  obtain ⟨v, hb, _⟩ := h
  exact lt_of_blk hb
theorem num_append (l : List UInt8) (u : UInt8) : num (l ++ [u]) = num l * 256 + u.toNat := by simp [num]
theorem num_lt (l : List UInt8) : num l < 256 ^ l.length := by
  have : ∀ (l : List UInt8) (a : Nat), l.foldl (fun n u => n * 256 + u.toNat) a < (a + 1) * 256 ^ l.length := by
    intro l
    induction l with
    | nil => intro a; simp
    | cons u l ih =>
      intro a
      have h1 := ih (a * 256 + u.toNat)
      have h2 := u.toNat_lt
      have h3 : (a * 256 + u.toNat + 1) * 256 ^ l.length ≤ ((a + 1) * 256) * 256 ^ l.length := Nat.mul_le_mul_right _ (by omega)
      rw [List.foldl_cons, List.length_cons, Nat.pow_succ, Nat.mul_comm (256 ^ l.length) 256, ← Nat.mul_assoc]
      omega
  simpa [num] using this l 0
theorem take_succ' (l : List UInt8) (i : Nat) (h : i < l.length) : l.take (i + 1) = l.take i ++ [l[i]] := by
  rw [List.take_add_one, List.getElem?_eq_getElem h]; rfl
theorem shl8_or (n : Nat) (u : UInt8) : n * 256 ||| u.toNat = n * 256 + u.toNat := by
  have h := Nat.shiftLeft_add_eq_or_of_lt (i := 8) (b := u.toNat) u.toNat_lt n
  rw [Nat.shiftLeft_eq] at h
  exact h.symm
theorem number_spec {v : Value} {bs : List UInt8} {w : World} {K : Value → World → Prop} (hb : Bts w v bs) (hl : bs.length ≤ 8) (h : K (.int .u64 (num bs : Nat)) w) :
    CALL Tryz.prog 116 #[v] w K := by
  obtain ⟨a, c, e, h1, h2, h3⟩ := id hb
  subst e
  apply call_codec_number
  unfold B_codec_number
  simp only [SS, ST]
  refine loopS_of (fun ρ wr => ∃ i, i ≤ bs.length ∧ wr = w ∧ ρ 8 = .int .i64 (i : Nat) ∧ ρ 7 = .int .i64 (bs.length : Nat) ∧ ρ 6 = .slice a bs.length c ∧ ρ 3 = .int .u64 (num (bs.take i) : Nat))
    (fun ρ wr => match ρ 8 with | .int _ s => (bs.length - s).toNat | _ => 0) ?_ ?_
  · exact ⟨0, by omega, rfl, rfl, rfl, rfl, rfl⟩
  · rintro ρ wr ⟨i, hi, rfl, h8, h7, h6, h3⟩
    simp only [SS, ST, h8, h7, h6, h3]
    by_cases hin : i = bs.length
    · subst hin
      rw [if_neg (by simp)]
      show K (ρ 3) wr
      rw [h3, List.take_length]
      exact h
    · rw [if_pos (by simp; omega)]
      obtain ⟨ad, hix, hcell, _⟩ := at_bts Tryz.underlying28 info_5 sz_5 hb (k := .i64) i rfl (by omega)
      refine X_of (hix _) ?_
      refine X_load agg_5 hcell ?_
      refine X_of (run_shl _ _ (by decide) _) ?_
      simp only [SS, ST]
      have hn := num_lt (bs.take i)
      have hp : (256 : Nat) ^ (bs.take i).length ≤ 256 ^ 7 := Nat.pow_le_pow_right (by decide) (by simp; omega)
      have hu := (bs[i]).toNat_lt
      have e1 : IntKind.u64.wrap (((num (bs.take i) : Nat) : Int) * 2 ^ min (Int.toNat 8) IntKind.u64.bits) = ((num (bs.take i) * 256 : Nat) : Int) := by
        have : (2 : Int) ^ min (Int.toNat 8) IntKind.u64.bits = 256 := by decide
        rw [this, wrap_u64]
        omega
      have e2 : IntKind.u64.wrap ((bs[i].toNat : Nat) : Int) = ((bs[i].toNat : Nat) : Int) := by
        rw [wrap_u64]
        omega
      rw [e1, e2]
      refine X_of (run_or rfl _ _ _ (by show _ < 2 ^ 64; omega) (by show _ < 2 ^ 64; omega) _) ?_
      simp only [SS, ST]
      rw [shl8_or, ← num_append, ← take_succ' bs i (by omega)]
      show _ ∧ _
      refine ⟨⟨i + 1, by omega, trivial, ?_, h7, h6, rfl⟩, ?_⟩
      · show Value.int .i64 _ = _
        congr 1
        rw [w64 (by omega) (by omega)]
        omega
      · show (_ - IntKind.i64.wrap _).toNat < _
        rw [w64 (by omega) (by omega)]
        omega
theorem run_build_209 (a : Option Addr) (n c : Nat) (w : World) : (Instr.build 209 #[(0, .slice a n c)]).run Tryz.prog w = .ok (.agg #[.slice a n c, .int .i64 0]) w := by kernel_rfl
theorem Bts.slice {w : World} {v : Value} {bs : List UInt8} (h : Bts w v bs) : ∃ a c, v = .slice a bs.length c := by
  obtain ⟨a, c, e, _⟩ := h
  exact ⟨a, c, e⟩
theorem New_spec {v : Value} {bs : List UInt8} {w : World} {K : Value → World → Prop} (hb : Bts w v bs) (hl : bs.length ≤ 140737488355328)
    (h : ∀ b w1, Ext w w1 → w.heap.size ≤ b → Rdr w1 w.heap.size w1.heap.size b bs 0 → K (.pointer (some ⟨b, 0, none⟩)) w1) :
    CALL Tryz.prog 92 #[v] w K := by
  apply call_codec_New
  unfold B_codec_New
  refine X_append_bts Tryz.underlying28 el_5 (xs := []) (World.ownsRow_nil w w.heap.size 5 1) hb (by omega) (Nat.le_refl _) ?_
  intro v1 w1 ho hk
  obtain ⟨hv1, hn⟩ := own_bts ho
  rw [List.nil_append] at hv1 ho
  obtain ⟨a, c, e⟩ := Bts.slice hv1
  have hlt := ho.lt
  subst e
  refine X_of (run_build_209 a _ c _) ?_
  refine X_box ?_
  have hx : Ext w w1 := hk.mono (fun i _ h => by cases h)
  refine h _ _ (hx.trans (newB_ext _ _ _)) hx.size ⟨_, newB_get _ _ _, hv1.ext (newB_ext _ _ _), fun k hk => ?_⟩
  have := hlt k hk
  rw [newB_size]
  omega
theorem ready_spec {lo hi b : Nat} {bs : List UInt8} {f : Int} {w : World} {K : Value → World → Prop} (hr : Rdr w lo hi b bs f) (h : K (.bool (decide (f = 0))) w) :
    CALL Tryz.prog 115 #[.pointer (some ⟨b, 0, none⟩)] w K := by
  obtain ⟨v, hb, hv, ho⟩ := hr
  apply call_codec_Reader_ready
  unfold B_codec_Reader_ready
  simp only [SS, ST, Option.isSome_some, if_true]
  refine X_loadL agg_34 hb rfl ?_
  simp only [SS, ST, if_true]
  exact h
def getR (bs : List UInt8) (f m : Int) : Nat × List UInt8 × Int :=
  if f ≠ 0 then (0, bs, f) else if m < 0 ∨ 8 < m then (0, bs, 1) else if bs.length < m.toNat then (0, bs, 10) else (num (bs.take m.toNat), bs.drop m.toNat, 0)
theorem Rdr.fault {lo hi b : Nat} {bs : List UInt8} {f : Int} {w : World} (g : Int) {v : Value} (hb : w.heap[b]? = some (.cells #[v, .int .i64 f] 209 (0, 0))) (hv : Bts w v bs) (ho : ∀ k, v.ownBlock = some k → lo ≤ k ∧ k < hi ∧ k ≠ b) :
    Rdr (setAt w b #[v, .int .i64 g] 209 (0, 0)) lo hi b bs g :=
  ⟨v, setAt_same (lt_of_blk hb), hv.keep (setAt_keep _ _ _ _ _) (fun k hk => (ho k hk).2.2), ho⟩
theorem Rdr.move {lo hi b : Nat} {bs' : List UInt8} {f : Int} {w : World} {v v' : Value} (hb : w.heap[b]? = some (.cells #[v, .int .i64 f] 209 (0, 0))) (hv : Bts w v' bs') (ho : ∀ k, v'.ownBlock = some k → lo ≤ k ∧ k < hi ∧ k ≠ b) :
    Rdr (setAt w b #[v', .int .i64 f] 209 (0, 0)) lo hi b bs' f :=
  ⟨v', setAt_same (lt_of_blk hb), hv.keep (setAt_keep _ _ _ _ _) (fun k hk => (ho k hk).2.2), ho⟩
theorem Get_spec {lo hi b : Nat} {bs : List UInt8} {f m : Int} {w : World} {K : Value → World → Prop} (hr : Rdr w lo hi b bs f)
    (h : ∀ w1, Keep (· = b) w w1 → Rdr w1 lo hi b (getR bs f m).2.1 (getR bs f m).2.2 → K (.int .u64 ((getR bs f m).1 : Nat)) w1) :
    CALL Tryz.prog 93 #[.pointer (some ⟨b, 0, none⟩), .int .i64 m] w K := by
  apply call_codec_Reader_Get
  unfold B_codec_Reader_Get
  refine ready_spec hr ?_
  obtain ⟨v, hb, hv, ho⟩ := id hr
  simp only [SS, ST]
  by_cases hf : f = 0
  · subst hf
    rw [if_neg (by simp)]
    have epick : (if decide (m < 0) = true then Value.bool true else if decide (m < 0) = false then Value.bool (decide (m > 8)) else undef) = .bool (decide (m < 0 ∨ 8 < m)) := by
      by_cases h1 : m < 0
      · simp [h1]
      · simp [h1]
    by_cases hm : m < 0 ∨ 8 < m
    · have eg : getR bs 0 m = (0, bs, 1) := by simp [getR, hm]
      rw [eg] at h
      have goal : K (.int .u64 0) (setAt w b #[v, .int .i64 1] 209 (0, 0)) := h _ (setAt_keep _ _ _ _ _) (Rdr.fault 1 hb hv ho)
      by_cases h1 : m < 0
      · simp only [h1, SS, ST, decide_true, if_true, Bool.true_eq_false, if_false]
        refine XU_store info_34 sz_34 rfl hb (by simp) (by decide) ?_
        exact goal
      · have h2 : 8 < m := by omega
        simp only [h1, h2, SS, ST, decide_true, decide_false, if_true, Bool.false_eq_true, if_false, gt_iff_lt]
        refine XU_store info_34 sz_34 rfl hb (by simp) (by decide) ?_
        exact goal
    · obtain ⟨n, rfl⟩ : ∃ n : Nat, m = n := ⟨m.toNat, by omega⟩
      have h1 : ¬ ((n : Int) < 0) := by omega
      have h2 : ¬ (8 < (n : Int)) := by omega
      simp only [h1, h2, SS, ST, decide_false, if_true, Bool.false_eq_true, if_false, gt_iff_lt]
      refine X_loadL agg_28 hb rfl ?_
      obtain ⟨a, c, e⟩ := Bts.slice hv
      subst e
      simp only [SS, ST]
      by_cases hlen : bs.length < n
      · have eg : getR bs 0 n = (0, bs, 10) := by simp [getR, hm, hlen]
        rw [eg] at h
        rw [if_pos (by simp; omega)]
        refine XU_store info_34 sz_34 rfl hb (by simp) (by decide) ?_
        exact h _ (setAt_keep _ _ _ _ _) (Rdr.fault 10 hb hv ho)
      · have eg : getR bs 0 n = (num (bs.take n), bs.drop n, 0) := by simp [getR, hm, hlen]
        rw [eg] at h
        rw [if_neg (by simp; omega)]
        refine X_loadL agg_28 hb rfl ?_
        obtain ⟨u, hu, hub, huo⟩ := cut_hi Tryz.underlying28 info_5 hv (kh := .i64) n rfl (by omega)
        refine X_of (hu _) ?_
        refine number_spec hub (by simp; omega) ?_
        refine X_loadL agg_28 hb rfl ?_
        obtain ⟨u2, hu2, hub2, huo2⟩ := cut_lo Tryz.underlying28 info_5 sz_5 hv (kl := .i64) n rfl (by omega)
        refine X_of (hu2 _) ?_
        obtain ⟨a2, c2, e2⟩ := Bts.slice hub2
        subst e2
        refine XU_store info_28 sz_28 rfl hb (by simp) (by decide) ?_
        exact h _ (setAt_keep _ _ _ _ _) (Rdr.move hb hub2 (fun k hk => ho k (by rw [← huo2]; exact hk)))
  · rw [if_pos (by simp [hf])]
    have eg : getR bs f m = (0, bs, f) := by simp [getR, hf]
    rw [eg] at h
    exact h w (Keep.refl _ _) hr
end Go.Proofs.YtcigpjejbkngfaaGreatDoor
end
section
namespace Go.Proofs.YtcigpjejbkngfaaGreatDoor
open Go Go.Sh Go.RowKit
attribute [local irreducible] X XU XP XR CALL loopS resC closS
theorem putB_4 (n : Nat) : putB n 4 = be 4 n := rfl
def RdrR (w : World) (lo hi b : Nat) (all bs : List UInt8) (f : Int) : Prop :=
  ∃ v a, w.heap[b]? = some (.cells #[v, .int .i64 (a : Nat), .int .i64 f] 108 (0, 0)) ∧ Bts w v all ∧ a ≤ all.length ∧ all.drop a = bs ∧ (0 < all.length → ∀ k, v.ownBlock = some k → lo ≤ k ∧ k < hi ∧ k ≠ b)
theorem RdrR.keep {D : Nat → Prop} {w w' : World} {lo hi b : Nat} {all bs : List UInt8} {f : Int} (h : RdrR w lo hi b all bs f) (k : Keep D w w') (h1 : ¬ D b) (h2 : ∀ i, lo ≤ i → i < hi → i ≠ b → ¬ D i) : RdrR w' lo hi b all bs f := by
  obtain ⟨v, a, hb, hv, ha, hd, ho⟩ := h
  exact ⟨v, a, k.get h1 hb, hv.keep' k (fun hp i hi => h2 i (ho hp i hi).1 (ho hp i hi).2.1 (ho hp i hi).2.2), ha, hd, ho⟩
theorem RdrR.ext {w w' : World} {lo hi b : Nat} {all bs : List UInt8} {f : Int} (h : RdrR w lo hi b all bs f) (k : Ext w w') : RdrR w' lo hi b all bs f := h.keep k (fun h => h) (fun _ _ _ _ h => h)
theorem RdrR.lt {w : World} {lo hi b : Nat} {all bs : List UInt8} {f : Int} (h : RdrR w lo hi b all bs f) : b < w.heap.size := by
  obtain ⟨v, a, hb, _⟩ := h
  exact lt_of_blk hb
theorem RdrR.fault {lo hi b a : Nat} {all bs : List UInt8} {f : Int} {w : World} (g : Int) {v : Value} (hb : w.heap[b]? = some (.cells #[v, .int .i64 (a : Nat), .int .i64 f] 108 (0, 0))) (hv : Bts w v all) (ha : a ≤ all.length) (hd : all.drop a = bs)
    (ho : 0 < all.length → ∀ k, v.ownBlock = some k → lo ≤ k ∧ k < hi ∧ k ≠ b) : RdrR (setAt w b #[v, .int .i64 (a : Nat), .int .i64 g] 108 (0, 0)) lo hi b all bs g :=
  ⟨v, a, setAt_same (lt_of_blk hb), hv.keep' (setAt_keep _ _ _ _ _) (fun hp k hk => (ho hp k hk).2.2), ha, hd, ho⟩
theorem RdrR.move {lo hi b a a' : Nat} {all bs : List UInt8} {f : Int} {w : World} {v : Value} (hb : w.heap[b]? = some (.cells #[v, .int .i64 (a : Nat), .int .i64 f] 108 (0, 0))) (hv : Bts w v all) (ha : a' ≤ all.length) (hd : all.drop a' = bs)
    (ho : 0 < all.length → ∀ k, v.ownBlock = some k → lo ≤ k ∧ k < hi ∧ k ≠ b) : RdrR (setAt w b #[v, .int .i64 (a' : Nat), .int .i64 f] 108 (0, 0)) lo hi b all bs f :=
  ⟨v, a', setAt_same (lt_of_blk hb), hv.keep' (setAt_keep _ _ _ _ _) (fun hp k hk => (ho hp k hk).2.2), ha, hd, ho⟩
end Go.Proofs.YtcigpjejbkngfaaGreatDoor
end
section
namespace Go.Sh
open Go Go.RowKit
theorem joinS_of {C : Env → World → Prop} {F : (Env → World → Prop) → Prop} (I : Env → World → Prop) (h1 : ∀ ρ w, I ρ w → C ρ w) (h2 : ∀ J : Env → World → Prop, (∀ ρ w, I ρ w → J ρ w) → F J) : joinS C F := h2 C h1
theorem loopE {B : (Exit → Env → World → Prop) → Env → World → Prop} {C : Env → World → Prop} {Q : Exit → Env → World → Prop} {ρ : Env} {w : World} {id : Nat} (I : Env → World → Prop) (μ : Env → World → Nat) (E : Env → World → Prop) (h0 : I ρ w)
    (h : ∀ J : Env → World → Prop, (∀ ρ w, E ρ w → J ρ w) → ∀ ρ w, I ρ w → B (thenS (fun ρ' w' => I ρ' w' ∧ μ ρ' w' < μ ρ w) (inBlockS id (thenS J Q))) ρ w) (hE : ∀ ρ w, E ρ w → C ρ w) : loopS B (inBlockS id (thenS C Q)) ρ w :=
  ⟨I, μ, h0, h C hE⟩
theorem loopG {B : (Exit → Env → World → Prop) → Env → World → Prop} {Q : Exit → Env → World → Prop} {ρ : Env} {w : World} (id : Nat) (I : Env → World → Prop) (μ : Env → World → Nat) (E : Env → World → Prop) (h0 : I ρ w)
    (h : ∀ J : Exit → Env → World → Prop, (∀ ρ w, E ρ w → J (.exit id) ρ w) → ∀ ρ w, I ρ w → B (thenS (fun ρ' w' => I ρ' w' ∧ μ ρ' w' < μ ρ w) J) ρ w) (hE : ∀ ρ w, E ρ w → Q (.exit id) ρ w) : loopS B Q ρ w :=
  ⟨I, μ, h0, h Q hE⟩
theorem gs_t (S : World → (Value → World → Prop) → Prop) (w : World) (K : Value → World → Prop) : gstep (.bool true) true S w K = S w K := rfl
theorem gs_f (S : World → (Value → World → Prop) → Prop) (w : World) (K : Value → World → Prop) : gstep (.bool false) false S w K = S w K := rfl
theorem gs_tf (S : World → (Value → World → Prop) → Prop) (w : World) (K : Value → World → Prop) : gstep (.bool true) false S w K = K undef w := rfl
theorem gs_ft (S : World → (Value → World → Prop) → Prop) (w : World) (K : Value → World → Prop) : gstep (.bool false) true S w K = K undef w := rfl
theorem cs_t (A B : Prop) : condS (.bool true) A B = A := rfl
theorem cs_f (A B : Prop) : condS (.bool false) A B = B := rfl
theorem pk_t {P : Program} (a b : Value) (w : World) (K : Value → World → Prop) : X P (pickS (.bool true) a b) w K = K a w := X_ok (run_pick true a b w)
theorem pk_f {P : Program} (a b : Value) (w : World) (K : Value → World → Prop) : X P (pickS (.bool false) a b) w K = K b w := X_ok (run_pick false a b w)
theorem pp_t {P : Program} (a b : Value) (w : World) (K : Value → World → Prop) : XP P (pickS (.bool true) a b) w K = K a w := XP_ok (fun w' => run_pick true a b w')
theorem pp_f {P : Program} (a b : Value) (w : World) (K : Value → World → Prop) : XP P (pickS (.bool false) a b) w K = K b w := XP_ok (fun w' => run_pick false a b w')
set_option linter.defProp false in
def GS := And.intro @gs_t (And.intro @gs_f (And.intro @gs_tf (And.intro @gs_ft (And.intro @cs_t (And.intro @cs_f (And.intro @pk_t (And.intro @pk_f (And.intro @pp_t @pp_f))))))))
theorem B8_set (l : List UInt8) (i : Nat) (u : UInt8) : (B8 l).set i (.int .u8 (u.toNat : Int)) = B8 (l.set i u) := by
  unfold B8
  rw [List.map_set]
theorem own_put {w : World} {base n e : Nat} {v : Value} {l : List UInt8} (ho : w.ownsRow base e 1 v n (B8 l)) {j : Nat} (hj : j < l.length) (u : UInt8) :
    ∃ g cap cur, v = .slice (some ⟨g, 0, none⟩) n cap ∧ base ≤ g ∧ w.heap[g]? = some (.cells cur e (0, 0)) ∧ j < cur.size ∧ cur[j]? = some (.int .u8 ((l[j].toNat : Nat) : Int)) ∧ j < n ∧
      (setAt w g (cur.setIfInBounds j (.int .u8 ((u.toNat : Nat) : Int))) e (0, 0)).ownsRow base e 1 v n (B8 (l.set j u)) := by
  have hl : l.length = n := by have := ho.1; simpa using this
  rcases id ho.2 with ⟨_, h0⟩ | ⟨g, cap, cur, hv, hg, hh, hn, hm, hs, ht⟩
  · omega
  · have hjc : j < cur.size := by omega
    refine ⟨g, cap, cur, hv, hg, hh, hjc, ?_, by omega, ?_⟩
    · have := congrArg (fun x => x[j]?) ht
      simp only [List.getElem?_take, show j < n * 1 by omega, if_true, B8_getElem?, List.getElem?_eq_getElem hj, Option.map_some] at this
      simpa using this
    · refine ⟨by simp [hl], .inr ⟨g, cap, _, hv, hg, setAt_same (lt_of_blk hh), hn, hm, by simpa using hs, ?_⟩⟩
      rw [← B8_set, ← ht]
      simp [List.take_set]
end Go.Sh
namespace Go.Proofs.YtcigpjejbkngfaaGreatDoor
open Go Go.Sh Go.RowKit
end Go.Proofs.YtcigpjejbkngfaaGreatDoor
end
section
namespace Go.Sh
structure Dk where
  safe : List (List UInt8)
  ws : List (Nat × List UInt8)
  dead : Bool
  fuse : Int
  done : Int
def putAll (l : List (List UInt8)) (ws : List (Nat × List UInt8)) : List (List UInt8) := ws.foldl (fun l p => l.set p.1 p.2) l
def Dk.now (d : Dk) : List (List UInt8) := putAll d.safe d.ws
def Dk.ok (d : Dk) : Prop := (∀ s ∈ d.safe, s.length = 128) ∧ (∀ p ∈ d.ws, p.1 < d.safe.length ∧ p.2.length = 128) ∧ d.safe.length ≤ 16384 ∧ -1 ≤ d.fuse ∧ d.fuse ≤ 9223372036854775807
theorem putAll_length (l : List (List UInt8)) (ws : List (Nat × List UInt8)) : (putAll l ws).length = l.length := by
  induction ws generalizing l with
  | nil => rfl
  | cons p ws ih =>
    show (putAll (l.set p.1 p.2) ws).length = _
    rw [ih, List.length_set]
theorem putAll_append (l : List (List UInt8)) (a b : List (Nat × List UInt8)) : putAll l (a ++ b) = putAll (putAll l a) b := List.foldl_append
theorem set_all128 {l : List (List UInt8)} (h : ∀ s ∈ l, s.length = 128) (i : Nat) {x : List UInt8} (hx : x.length = 128) : ∀ s ∈ l.set i x, s.length = 128 := by
  intro s hs
  rcases List.mem_or_eq_of_mem_set hs with h1 | h1
  · exact h s h1
  · rw [h1]; exact hx
theorem putAll_128 {l : List (List UInt8)} {ws : List (Nat × List UInt8)} (h : ∀ s ∈ l, s.length = 128) (hw : ∀ p ∈ ws, p.2.length = 128) : ∀ s ∈ putAll l ws, s.length = 128 := by
  induction ws generalizing l with
  | nil => exact h
  | cons p ws ih => exact ih (set_all128 h p.1 (hw p (by simp))) (fun q hq => hw q (by simp [hq]))
theorem Dk.now_length (d : Dk) : d.now.length = d.safe.length := putAll_length _ _
theorem Dk.now_128 {d : Dk} (h : d.ok) : ∀ s ∈ d.now, s.length = 128 := putAll_128 h.1 (fun p hp => (h.2.1 p hp).2)
def padB (b : List UInt8) : List UInt8 := b ++ List.replicate (128 - b.length) 0
theorem padB_len {b : List UInt8} (h : b.length ≤ 128) : (padB b).length = 128 := by simp [padB]; omega
def Dk.trip (d : Dk) : Dk := if d.fuse = 0 then { d with dead := true, fuse := -1 } else d
def Dk.tick (d : Dk) : Dk := { d with done := Go.IntKind.i64.wrap (d.done + 1), fuse := if 0 < d.fuse then d.fuse - 1 else d.fuse }
def Dk.write (d : Dk) (at_ : Int) (b : List UInt8) : Dk × Int :=
  if at_ < 0 ∨ (d.safe.length : Int) ≤ at_ ∨ 128 < b.length then (d, 1)
  else if d.trip.dead = true then (d.trip, 6)
  else ({ d.trip.tick with ws := d.ws ++ [(at_.toNat, padB b)] }, 0)
def Dk.cut (d : Dk) (n : Int) : Dk := if d.dead = true then d else { d with fuse := max n (-1) }
def Dk.read (d : Dk) (at_ : Int) : List UInt8 × Int :=
  if at_ < 0 ∨ (d.safe.length : Int) ≤ at_ then ([], 1)
  else if d.dead = true then ([], 6)
  else (d.now.getD at_.toNat [], 0)
def Dk.new (n : Nat) : Dk := ⟨List.replicate n (List.replicate 128 0), [], false, -1, 0⟩
theorem Dk.new_ok {n : Nat} (h : n ≤ 16384) : (Dk.new n).ok := by
  refine ⟨?_, ?_, ?_, by show (-1 : Int) ≤ -1; decide, by show (-1 : Int) ≤ _; decide⟩
  · intro s hs
    simp only [Dk.new, List.mem_replicate] at hs
    rw [hs.2]; simp
  · intro p hp; simp [Dk.new] at hp
  · simpa [Dk.new] using h
theorem Dk.trip_ok {d : Dk} (h : d.ok) : d.trip.ok := by
  unfold Dk.trip
  split
  · exact ⟨h.1, h.2.1, h.2.2.1, by show (-1 : Int) ≤ -1; decide, by show (-1 : Int) ≤ _; decide⟩
  · exact h
theorem Dk.trip_safe (d : Dk) : d.trip.safe = d.safe := by unfold Dk.trip; split <;> rfl
theorem Dk.trip_ws (d : Dk) : d.trip.ws = d.ws := by unfold Dk.trip; split <;> rfl
theorem Dk.trip_done (d : Dk) : d.trip.done = d.done := by unfold Dk.trip; split <;> rfl
theorem Dk.tick_ok {d : Dk} (h : d.ok) : d.tick.ok := by
  obtain ⟨h1, h2, h3, h4, h5⟩ := h
  refine ⟨h1, h2, h3, ?_, ?_⟩
  · show -1 ≤ (if 0 < d.fuse then d.fuse - 1 else d.fuse)
    split <;> omega
  · show (if 0 < d.fuse then d.fuse - 1 else d.fuse) ≤ _
    split <;> omega
theorem Dk.write_ok {d : Dk} (h : d.ok) (at_ : Int) (b : List UInt8) : (d.write at_ b).1.ok := by
  unfold Dk.write
  split
  · exact h
  · rename_i hn
    split
    · exact Dk.trip_ok h
    · have ht := Dk.tick_ok (Dk.trip_ok h)
      obtain ⟨h1, h2, h3, h4, h5⟩ := ht
      have es : d.trip.tick.safe = d.safe := Dk.trip_safe d
      rw [es] at h1 h3
      refine ⟨?_, ?_, ?_, h4, h5⟩
      · show ∀ s ∈ d.trip.safe, _
        rw [Dk.trip_safe]; exact h1
      · intro p hp
        show p.1 < d.trip.safe.length ∧ _
        rw [Dk.trip_safe]
        rcases List.mem_append.1 hp with hp | hp
        · exact h.2.1 p hp
        · rw [List.mem_singleton.1 hp]
          exact ⟨by show at_.toNat < _; omega, padB_len (by omega)⟩
      · show d.trip.safe.length ≤ _
        rw [Dk.trip_safe]; exact h3
theorem Dk.write_size (d : Dk) (at_ : Int) (b : List UInt8) : (d.write at_ b).1.safe.length = d.safe.length := by
  unfold Dk.write
  split
  · rfl
  · split
    · rw [Dk.trip_safe]
    · show d.trip.safe.length = _; rw [Dk.trip_safe]
theorem Dk.write_ws (d : Dk) (at_ : Int) (b : List UInt8) : (d.write at_ b).1.ws.length ≤ d.ws.length + 1 := by
  unfold Dk.write
  split
  · exact Nat.le_succ _
  · split
    · show d.trip.ws.length ≤ _; rw [Dk.trip_ws]; exact Nat.le_succ _
    · simp
theorem flat_len {α : Type} {n : Nat} {l : List (List α)} (h : ∀ s ∈ l, s.length = n) : l.flatten.length = l.length * n := by
  induction l with
  | nil => simp
  | cons x l ih =>
    rw [List.flatten_cons, List.length_append, h x (by simp), ih (fun s hs => h s (by simp [hs])), List.length_cons, Nat.succ_mul]
    omega
theorem flat_take {α : Type} {n : Nat} {l : List (List α)} (h : ∀ s ∈ l, s.length = n) (i : Nat) : l.flatten.take (i * n) = (l.take i).flatten := by
  induction l generalizing i with
  | nil => simp
  | cons x l ih =>
    cases i with
    | zero => simp
    | succ i =>
      have hx := h x (by simp)
      have e : (i + 1) * n = n + i * n := by rw [Nat.succ_mul]; omega
      rw [List.flatten_cons, List.take_succ_cons, List.flatten_cons, e, List.take_append, List.take_of_length_le (by omega), hx, show n + i * n - n = i * n by omega, ih (fun s hs => h s (by simp [hs]))]
theorem flat_drop {α : Type} {n : Nat} {l : List (List α)} (h : ∀ s ∈ l, s.length = n) (i : Nat) : l.flatten.drop (i * n) = (l.drop i).flatten := by
  induction l generalizing i with
  | nil => simp
  | cons x l ih =>
    cases i with
    | zero => simp
    | succ i =>
      have hx := h x (by simp)
      have e : (i + 1) * n = n + i * n := by rw [Nat.succ_mul]; omega
      rw [List.flatten_cons, List.drop_succ_cons, e, List.drop_append, List.drop_eq_nil_of_le (by omega), hx, show n + i * n - n = i * n by omega, List.nil_append, ih (fun s hs => h s (by simp [hs]))]
theorem flat_at {α : Type} {n : Nat} {l : List (List α)} (h : ∀ s ∈ l, s.length = n) {i : Nat} (hi : i < l.length) : (l.flatten.drop (i * n)).take n = l[i] := by
  have hx := h _ (List.getElem_mem hi)
  rw [flat_drop h, List.drop_eq_getElem_cons hi, List.flatten_cons, List.take_append_of_le_length (by omega), List.take_of_length_le (by omega)]
theorem flat_put {α : Type} {n : Nat} {l : List (List α)} (h : ∀ s ∈ l, s.length = n) {i : Nat} (hi : i < l.length) (x : List α) (hx : x.length ≤ n) : (l.set i (x ++ l[i].drop x.length)).flatten = l.flatten.take (i * n) ++ x ++ l.flatten.drop (i * n + x.length) := by
  have hl := h _ (List.getElem_mem hi)
  have e : l.flatten.drop (i * n + x.length) = l[i].drop x.length ++ (l.drop (i + 1)).flatten := by
    rw [← List.drop_drop, flat_drop h, List.drop_eq_getElem_cons hi, List.flatten_cons, List.drop_append_of_le_length (by omega)]
  rw [e, flat_take h, List.set_eq_take_append_cons_drop, if_pos hi]
  simp
end Go.Sh
end
section
namespace Go.Sh
def layAll (d : Dk) (to_ : Nat) (x : List UInt8) : Dk × Int :=
  if x = [] then (d, 0) else if (d.write (to_ : Int) (x.take 128)).2 ≠ 0 then d.write (to_ : Int) (x.take 128) else layAll (d.write (to_ : Int) (x.take 128)).1 (to_ + 1) (x.drop 128)
termination_by x.length
decreasing_by
  rename_i h _
  have : 0 < x.length := by
    cases x with
    | nil => exact absurd rfl h
    | cons _ _ => simp
  simp
  omega
theorem layAll_nil (d : Dk) (to_ : Nat) : layAll d to_ [] = (d, 0) := by unfold layAll; rw [if_pos rfl]
theorem layAll_cons (d : Dk) (to_ : Nat) {x : List UInt8} (h : x ≠ []) : layAll d to_ x = if (d.write (to_ : Int) (x.take 128)).2 ≠ 0 then d.write (to_ : Int) (x.take 128) else layAll (d.write (to_ : Int) (x.take 128)).1 (to_ + 1) (x.drop 128) := by
  rw [layAll.eq_1 d to_ x, if_neg h]
theorem layAll_ind {P : Dk → Nat → List UInt8 → Prop} (h0 : ∀ d t, P d t []) (h1 : ∀ d t x, x ≠ [] → (d.write (t : Int) (x.take 128)).2 ≠ 0 → P d t x)
    (h2 : ∀ d t x, x ≠ [] → (d.write (t : Int) (x.take 128)).2 = 0 → P (d.write (t : Int) (x.take 128)).1 (t + 1) (x.drop 128) → P d t x) : ∀ d t x, P d t x := by
  have key : ∀ n d t x, x.length ≤ n → P d t x := by
    intro n
    induction n with
    | zero =>
      intro d t x hx
      have : x = [] := List.eq_nil_of_length_eq_zero (by omega)
      rw [this]; exact h0 d t
    | succ n ih =>
      intro d t x hx
      by_cases hn : x = []
      · rw [hn]; exact h0 d t
      · have hp : 0 < x.length := List.length_pos_iff.2 hn
        by_cases he : (d.write (t : Int) (x.take 128)).2 = 0
        · exact h2 d t x hn he (ih _ _ _ (by simp; omega))
        · exact h1 d t x hn he
  exact fun d t x => key x.length d t x (Nat.le_refl _)
theorem layAll_ok {d : Dk} (h : d.ok) (t : Nat) (x : List UInt8) : (layAll d t x).1.ok := by
  refine layAll_ind (P := fun d t x => d.ok → (layAll d t x).1.ok) ?_ ?_ ?_ d t x h
  · intro d t h; rw [layAll_nil]; exact h
  · intro d t x hx he h; rw [layAll_cons d t hx, if_pos he]; exact Dk.write_ok h _ _
  · intro d t x hx he ih h; rw [layAll_cons d t hx, if_neg (by simpa using he)]; exact ih (Dk.write_ok h _ _)
theorem layAll_size (d : Dk) (t : Nat) (x : List UInt8) : (layAll d t x).1.safe.length = d.safe.length := by
  refine layAll_ind (P := fun d t x => (layAll d t x).1.safe.length = d.safe.length) ?_ ?_ ?_ d t x
  · intro d t; rw [layAll_nil]
  · intro d t x hx he; rw [layAll_cons d t hx, if_pos he]; exact Dk.write_size _ _ _
  · intro d t x hx he ih; rw [layAll_cons d t hx, if_neg (by simpa using he), ih]; exact Dk.write_size _ _ _
theorem layAll_ws (d : Dk) (t : Nat) (x : List UInt8) : (layAll d t x).1.ws.length ≤ d.ws.length + x.length := by
  refine layAll_ind (P := fun d t x => (layAll d t x).1.ws.length ≤ d.ws.length + x.length) ?_ ?_ ?_ d t x
  · intro d t; rw [layAll_nil]; simp
  · intro d t x hx he
    rw [layAll_cons d t hx, if_pos he]
    have := Dk.write_ws d (t : Int) (x.take 128)
    have hp : 0 < x.length := List.length_pos_iff.2 hx
    omega
  · intro d t x hx he ih
    rw [layAll_cons d t hx, if_neg (by simpa using he)]
    have := Dk.write_ws d (t : Int) (x.take 128)
    have hp : 0 < x.length := List.length_pos_iff.2 hx
    rw [List.length_drop] at ih
    omega
structure Vt where
  fm : Nat
  each : Nat
  n : Nat
def Vt.ok (v : Vt) (size : Nat) : Prop := 1 ≤ v.each ∧ v.each ≤ 16384 ∧ v.fm + v.n * v.each ≤ size ∧ size ≤ 16384
def Vt.room (v : Vt) : Nat := v.each * 128 - 4
theorem Vt.at_le {v : Vt} {size at_ : Nat} (h : v.ok size) (ha : at_ < v.n) : v.fm + at_ * v.each + v.each ≤ size := by
  obtain ⟨h1, h2, h3, h4⟩ := h
  have : (at_ + 1) * v.each ≤ v.n * v.each := Nat.mul_le_mul_right _ ha
  rw [Nat.succ_mul] at this
  omega
def vput (v : Vt) (d : Dk) (at_ : Int) (bs : List UInt8) : Dk × Int :=
  if at_ < 0 ∨ (v.n : Int) ≤ at_ then (d, 1) else if v.room < bs.length then (d, 4) else layAll d (v.fm + at_.toNat * v.each) (be 4 bs.length ++ bs)
def vall (v : Vt) (d : Dk) (at_ : Nat) : List UInt8 := ((d.now.drop (v.fm + at_ * v.each)).take v.each).flatten
def vget (v : Vt) (d : Dk) (at_ : Int) : List UInt8 × Int :=
  if at_ < 0 ∨ (v.n : Int) ≤ at_ then ([], 1) else if d.dead = true then ([], 6) else
    if v.room < num ((vall v d at_.toNat).take 4) then ([], 110) else (((vall v d at_.toNat).drop 4).take (num ((vall v d at_.toNat).take 4)), 0)
theorem vput_ok {v : Vt} {d : Dk} (h : d.ok) (at_ : Int) (bs : List UInt8) : (vput v d at_ bs).1.ok := by
  unfold vput
  split
  · exact h
  · split
    · exact h
    · exact layAll_ok h _ _
theorem vput_size (v : Vt) (d : Dk) (at_ : Int) (bs : List UInt8) : (vput v d at_ bs).1.safe.length = d.safe.length := by
  unfold vput
  split
  · rfl
  · split
    · rfl
    · exact layAll_size _ _ _
theorem vput_ws (v : Vt) (d : Dk) (at_ : Int) (bs : List UInt8) : (vput v d at_ bs).1.ws.length ≤ d.ws.length + bs.length + 4 := by
  unfold vput
  split
  · show d.ws.length ≤ _; omega
  · split
    · show d.ws.length ≤ _; omega
    · have := layAll_ws d (v.fm + at_.toNat * v.each) (be 4 bs.length ++ bs)
      rw [List.length_append, be_length] at this
      omega
def vnew (size : Nat) (fm each n : Int) : Option Vt :=
  if fm < 0 ∨ each < 1 ∨ 16384 < each ∨ n < 0 ∨ (size : Int) < fm ∨ ((size : Int) - fm) / each < n then none else some ⟨fm.toNat, each.toNat, n.toNat⟩
theorem vnew_ok {size : Nat} {fm each n : Int} {v : Vt} (hs : size ≤ 16384) (h : vnew size fm each n = some v) : v.ok size ∧ (v.fm : Int) = fm ∧ (v.each : Int) = each ∧ (v.n : Int) = n := by
  unfold vnew at h
  split at h
  · cases h
  · rename_i hn
    have e := Option.some.inj h
    subst e
    refine ⟨⟨by show 1 ≤ each.toNat; omega, by show each.toNat ≤ 16384; omega, ?_, hs⟩, by show ((fm.toNat : Nat) : Int) = fm; omega, by show ((each.toNat : Nat) : Int) = each; omega, by show ((n.toNat : Nat) : Int) = n; omega⟩
    show fm.toNat + n.toNat * each.toNat ≤ size
    have h1 : n ≤ ((size : Int) - fm) / each := by omega
    have h2 : n * each ≤ (size : Int) - fm := by
      have h3 : n * each ≤ ((size : Int) - fm) / each * each := Int.mul_le_mul_of_nonneg_right h1 (by omega)
      have h4 := Int.ediv_mul_le ((size : Int) - fm) (b := each) (by omega)
      omega
    have h5 : ((n.toNat * each.toNat : Nat) : Int) = n * each := by
      rw [Int.natCast_mul, Int.toNat_of_nonneg (by omega), Int.toNat_of_nonneg (by omega)]
    omega
end Go.Sh
end
section
namespace Go.Sh
open Go Go.RowKit
def foot (w : World) (b k : Nat) : Prop := k = b ∨ ∃ cs T fr, w.heap[b]? = some (.cells cs T fr) ∧ ∃ v ∈ cs.toList, v.ownBlock = some k
theorem foot_self (w : World) (b : Nat) : foot w b b := .inl rfl
theorem foot_same {w w' : World} {b k : Nat} (h : w'.heap[b]? = w.heap[b]?) : foot w' b k ↔ foot w b k := by unfold foot; rw [h]
theorem foot_cells {w : World} {b k : Nat} {cs : Array Value} {T : TypeId} {fr : Nat × Nat} (hb : w.heap[b]? = some (.cells cs T fr)) : foot w b k ↔ k = b ∨ ∃ v ∈ cs.toList, v.ownBlock = some k := by
  unfold foot
  constructor
  · rintro (h | ⟨cs', T', fr', e, h⟩)
    · exact .inl h
    · rw [hb] at e
      injection e with e
      injection e with e1 e2 e3
      subst e1
      exact .inr h
  · rintro (h | h)
    · exact .inl h
    · exact .inr ⟨cs, T, fr, hb, h⟩
structure Step (b : Nat) (w w1 : World) : Prop where
  keep : Keep (foot w b) w w1
  grow : ∀ k, foot w1 b k → foot w b k ∨ w.heap.size ≤ k
theorem Step.size {b : Nat} {w w1 : World} (h : Step b w w1) : w.heap.size ≤ w1.heap.size := h.keep.size
theorem Step.trans {b : Nat} {x y z : World} (h : Step b x y) (k : Step b y z) : Step b x z :=
  ⟨Keep.seq h.keep k.keep (fun i hi hf => (h.grow i hf).resolve_right (by omega)), fun i hf => by
    rcases k.grow i hf with h1 | h1
    · exact h.grow i h1
    · have := h.size
      exact .inr (by omega)⟩
theorem Step.ext {b : Nat} {w w1 : World} (h : Ext w w1) (hb : b < w.heap.size) : Step b w w1 :=
  ⟨h.ext, fun k hf => .inl ((foot_same (h.block b hb (fun h => h))).1 hf)⟩
theorem Step.refl {b : Nat} {w : World} : Step b w w := ⟨Keep.refl _ _, fun _ h => .inl h⟩
theorem Step.out {b : Nat} {W w w1 : World} (h : Step b w w1) (hx : Ext W w) (hl : ∀ k, foot w b k → W.heap.size ≤ k) : Ext W w1 := Ext.seq hx h.keep hl
theorem Step.low {b n : Nat} {w w1 : World} (h : Step b w w1) (hn : n ≤ w.heap.size) (hl : ∀ k, foot w b k → n ≤ k) : ∀ k, foot w1 b k → n ≤ k := fun k hk => by
  rcases h.grow k hk with h1 | h1
  · exact hl k h1
  · omega
def Apart (w : World) (b b' : Nat) : Prop := ∀ k, foot w b k → ¬ foot w b' k
theorem Apart.symm {w : World} {b b' : Nat} (h : Apart w b b') : Apart w b' b := fun k h1 h2 => h k h2 h1
theorem Step.other {b b' : Nat} {w w1 : World} (h : Step b w w1) (ha : Apart w b b') (hl : b' < w.heap.size) : w1.heap[b']? = w.heap[b']? := h.keep.block b' hl (fun hf => ha b' hf (foot_self w b'))
theorem Step.apart {b b' : Nat} {w w1 : World} (h : Step b w w1) (ha : Apart w b b') (hl : ∀ k, foot w b' k → k < w.heap.size) : Apart w1 b b' := fun k h1 h2 => by
  have h2' := (foot_same (h.other ha (hl b' (foot_self w b')))).1 h2
  rcases h.grow k h1 with h3 | h3
  · exact ha k h3 h2'
  · have := hl k h2'
    omega
theorem Apart.new {w w1 : World} {b b' : Nat} (h : Ext w w1) (hl : ∀ k, foot w b k → k < w.heap.size) (hn : ∀ k, foot w1 b' k → w.heap.size ≤ k) : Apart w1 b b' := fun k h1 h2 => by
  have h1' := (foot_same (h.block b (hl b (foot_self w b)) (fun h => h))).1 h1
  have := hl k h1'
  have := hn k h2
  omega
theorem Apart.ext {w w1 : World} {b b' : Nat} (h : Apart w b b') (x : Ext w w1) (h1 : b < w.heap.size) (h2 : b' < w.heap.size) : Apart w1 b b' := fun k f1 f2 =>
  h k ((foot_same (x.block b h1 (fun h => h))).1 f1) ((foot_same (x.block b' h2 (fun h => h))).1 f2)
theorem own_keepD {w w' : World} {base e size n : Nat} {v : Value} {xs : List Value} {D : Nat → Prop} (h : w.ownsRow base e size v n xs) (k : Keep D w w') (hd : ∀ g, v.ownBlock = some g → ¬ D g) : w'.ownsRow base e size v n xs := by
  refine ⟨h.1, h.2.imp id ?_⟩
  rintro ⟨g, cap, cur, rfl, hg, hh, rest⟩
  exact ⟨g, cap, cur, rfl, hg, k.get (hd g rfl) hh, rest⟩
theorem own_extD {w w' : World} {base e size n : Nat} {v : Value} {xs : List Value} (h : w.ownsRow base e size v n xs) (k : Ext w w') : w'.ownsRow base e size v n xs := own_keepD h k (fun _ _ h => h)
theorem own_neT {w : World} {base e size n : Nat} {v : Value} {xs : List Value} (ho : w.ownsRow base e size v n xs) {b : Nat} {cs : Array Value} {T : TypeId} {fr : Nat × Nat} (hb : w.heap[b]? = some (.cells cs T fr)) (hT : T ≠ e) : v.ownBlock ≠ some b := by
  intro h
  rcases ho.2 with ⟨rfl, _⟩ | ⟨g, cap, cur, rfl, _, hg, _⟩
  · cases h
  · have : g = b := by simpa [Value.ownBlock] using h
    subst this
    rw [hb] at hg
    injection hg with hg
    injection hg with _ h2
    exact hT h2
theorem own_neO {w : World} {base base' e e' size size' n n' : Nat} {v v' : Value} {xs xs' : List Value} (ho : w.ownsRow base e size v n xs) (ho' : w.ownsRow base' e' size' v' n' xs') (hT : e ≠ e') {g : Nat} (hg : v.ownBlock = some g) : v'.ownBlock ≠ some g := by
  rcases ho.2 with ⟨rfl, _⟩ | ⟨g', cap, cur, rfl, _, hh, _⟩
  · cases hg
  · have : g' = g := by simpa [Value.ownBlock] using hg
    subst this
    exact own_neT ho' hh hT
theorem own_base0 {w : World} {base e size n : Nat} {v : Value} {xs : List Value} (ho : w.ownsRow base e size v n xs) : w.ownsRow 0 e size v n xs := own_mono ho (Nat.zero_le _)
def Outs (w : World) (b : Nat) (v : Value) : Prop := ∀ k, v.ownBlock = some k → ¬ foot w b k ∧ k < w.heap.size
theorem Outs.step {w w1 : World} {b : Nat} {v : Value} (h : Outs w b v) (s : Step b w w1) : Outs w1 b v := fun k hk => by
  obtain ⟨h1, h2⟩ := h k hk
  refine ⟨fun hf => ?_, Nat.lt_of_lt_of_le h2 s.size⟩
  rcases s.grow k hf with h3 | h3
  · exact h1 h3
  · omega
theorem Outs.ext {w w1 : World} {b : Nat} {v : Value} (h : Outs w b v) (hb : b < w.heap.size) (x : Ext w w1) : Outs w1 b v := h.step (Step.ext x hb)
theorem Bts.step {w w1 : World} {b : Nat} {v : Value} {l : List UInt8} (h : Bts w v l) (o : Outs w b v) (s : Step b w w1) : Bts w1 v l := h.keep s.keep (fun k hk => (o k hk).1)
theorem XU_storeAggAt {P : Program} {t : TypeId} (hi : infoB P t = true) {b o : Nat} {cs : Array Value} {l : List Value} {T : TypeId} {w : World} {K : World → Prop} (hb : w.heap[b]? = some (.cells cs T (0, 0))) (hc : o + l.length ≤ cs.size) (hn : l.length = szT P t)
    (h1 : ∀ v ∈ l, v.oneCell' = true) (h : K (setAt w b (cs.toList.take o ++ l ++ cs.toList.drop (o + l.length)).toArray T (0, 0))) : XU P (Instr.storeAt t (.pointer (some ⟨b, o, none⟩)) (.agg l.toArray)) w K := by
  have hst := run_storeCells_at P b o T l 0 cs w hb (by omega) h1
  have e : w.setRow b ((cs.toList.take (o + 0) ++ l ++ cs.toList.drop (o + 0 + l.length)).toArray) = setAt w b (cs.toList.take o ++ l ++ cs.toList.drop (o + l.length)).toArray T (0, 0) := by
    rw [Nat.add_zero]
    unfold World.setRow setAt
    congr 1
    apply Array.ext_getElem?
    intro i
    have hl := lt_of_blk hb
    by_cases hi : i = b
    · subst hi
      rw [Array.getElem?_modify, if_pos rfl, hb]
      simp [hl]
    · rw [Array.getElem?_setIfInBounds_ne (Ne.symm hi), Array.getElem?_modify]
      simp [Ne.symm hi]
  rw [e] at hst
  have hv : (Value.agg l.toArray).cells = l.toArray := rfl
  have hr : (Instr.storeAt t (.pointer (some ⟨b, o, none⟩)) (.agg l.toArray)).run P w = .ok () (setAt w b (cs.toList.take o ++ l ++ cs.toList.drop (o + l.length)).toArray T (0, 0)) := by
    simp [Instr.storeAt, Instr.sureAddr, storeVar, sizeOf_run hi, hv, ← hn, hst]
  unfold XU; rw [hr]; exact h
theorem splice_len (l m : List Value) (o : Nat) (h : o + m.length ≤ l.length) : (l.take o ++ m ++ l.drop (o + m.length)).length = l.length := by
  simp; omega
theorem X_appendW {P : Program} {w : World} {K : Value → World → Prop} {base : Nat} {t U e : TypeId} {size bytes : Nat} {z : Value} (ht : P.underlying t = some (.slice e)) (hE : El P e size z bytes) (h0 : 0 < size) {v : Value} {n : Nat} {xs : List Value} (hown : w.ownsRow base e size v n xs)
    {a : Addr} {m c : Nat} {news : List Value} (hl : news.length = m * size) (hnews : ∀ j u, news[j]? = some u → w.cell? (a.add j) = some u) (h1 : ∀ u ∈ news, u.oneCell' = true)
    (hb : (n + m) * bytes ≤ 140737488355328) (hb0 : 0 < bytes) (hbase : base ≤ w.heap.size)
    (h : ∀ v' w1, w1.ownsRow base e size v' (n + m) (xs ++ news) → Keep (fun k => some k = v.ownBlock) w w1 → (∀ g, v'.ownBlock = some g → v.ownBlock = some g ∨ w.heap.size ≤ g) → K v' w1) : X P (Builtin.append_ #[t, t] U #[v, .slice (some a) m c]) w K := by
  obtain ⟨⟨i, hi, hs, hz, hby⟩, hzc⟩ := hE
  have hm : n + m ≤ 140737488355328 := Nat.le_trans (Nat.le_mul_of_pos_right _ hb0) hb
  have h63 : n + m ≤ maxLen := by simp only [maxLen]; omega
  obtain ⟨v', w1, hr, h2, h3, h4⟩ := run_append_own (P := P) w base t U e i z size bytes ht hi hz hs hby hzc h0 v n xs hown a m c news hl hnews h1 h63 hb hbase
  rw [X_ok hr]
  refine h v' w1 h2 (keep_grown h3) ?_
  intro g hg
  rcases id hown.2 with ⟨rfl, rfl⟩ | ⟨g0, cap, cur, rfl, hbg, hh, hnc, hcm, hcs, htake⟩
  · have hx : xs = [] := List.eq_nil_of_length_eq_zero (by simpa using hown.1)
    subst hx
    obtain ⟨v2, w2, hr2, h22, _, _⟩ := run_append_own (P := P) w w.heap.size t U e i z size bytes ht hi hz hs hby hzc h0 (.slice none 0 0) 0 [] (World.ownsRow_nil w _ e size) a m c news hl hnews h1 h63 hb (Nat.le_refl _)
    rw [hr] at hr2
    injection hr2 with e1 e2
    subst e1
    exact .inr (h22.lt g hg).1
  · subst hs
    subst hby
    by_cases hroom : n + m ≤ cap
    · have hfit : n * i.size + news.length ≤ cur.size := by rw [hl, hcs, ← Nat.add_mul]; exact Nat.mul_le_mul_right _ hroom
      have hr2 := run_append_room (P := P) w t U e i ht hi g0 n cap cur hh a m c news hl hnews h1 hroom hfit
      rw [hr] at hr2
      injection hr2 with e1 e2
      subst e1
      exact .inl hg
    · have holds : ∀ j u, xs[j]? = some u → w.cell? ((⟨g0, 0, none⟩ : Addr).add j) = some u := hown.cells (g := g0) rfl
      simp only [maxLen] at h63 hcm
      have hr2 := run_append_grow (P := P) w t U e i z ht hi hz ⟨g0, 0, none⟩ n cap xs hown.1 holds a m c news hl hnews (by omega) (by omega) (growslice_fits (by omega) hb)
      rw [hr] at hr2
      injection hr2 with e1 e2
      subst e1
      refine .inr ?_
      injection hg with hg
      exact Nat.le_of_eq hg
theorem foldl_put (l : List Value) : ∀ (k : Nat) (cs : Array Value), k + l.length ≤ cs.size → ((l.zipIdx k).foldl (fun (cs : Array Value) (x : Value × Nat) => cs.setIfInBounds (0 + x.2) x.1) cs).toList = cs.toList.take k ++ l ++ cs.toList.drop (k + l.length) := by
  induction l with
  | nil => intro k cs h; simp
  | cons v l ih =>
    intro k cs h
    simp only [List.length_cons] at h
    rw [List.zipIdx_cons, List.foldl_cons, ih (k + 1) _ (by rw [Array.size_setIfInBounds]; omega)]
    simp only [Array.toList_setIfInBounds, Nat.zero_add]
    have hs := list_seg_step cs.toList k v l (by rw [Array.length_toList]; omega)
    rw [hs]
    simp
theorem X_buildSliceAgg {P : Program} {w : World} {K : Value → World → Prop} {T e size bytes : Nat} {z : Value} (hT : P.underlying T = some (.slice e)) (hE : El P e size z bytes) (h0 : 0 < size) (hsz : size ≤ 16777216) {l : List Value} (hl : l.length = size)
    (h : K (.slice (some ⟨w.heap.size, 0, none⟩) 1 1) (newB w l.toArray e)) : X P (Instr.buildSlice T 1 #[(0, .agg l.toArray)]) w K := by
  obtain ⟨⟨i, hi, hs, hz, _⟩, hzc⟩ := hE
  subst hs
  have hv : (Value.agg l.toArray).cells = l.toArray := rfl
  have hnz : ¬ i.size = 0 := by omega
  have hfill : Instr.fill (fun i_1 => some (i_1 * i.size, i.size)) ((Array.range (1 * i.size)).map (z.cells[· % z.cells.size]!)) [(0, Value.agg l.toArray)] = some l.toArray := by
    simp only [Instr.fill, hv, List.size_toArray, hl, Nat.zero_mul, Nat.zero_add, Array.size_map, Array.size_range, Nat.one_mul]
    rw [if_neg (by simp)]
    congr 1
    apply Array.ext'
    have hf := foldl_put l 0 ((Array.range i.size).map (z.cells[· % z.cells.size]!)) (by simp [hl])
    rw [List.take_zero, List.nil_append, List.drop_eq_nil_of_le (by simp [hl]), List.append_nil] at hf
    rw [Array.zipIdx_toArray, List.foldl_toArray]
    simpa only [Nat.zero_add] using hf
  refine X_of (v := .slice (some ⟨w.heap.size, 0, none⟩) 1 1) (w1 := newB w l.toArray e) ?_ h
  have hle : ¬ (1 * i.size > 2 ^ 24) := by omega
  have hne : ¬ (1 * i.size = 0) := by omega
  have hle' : ¬ 16777216 < i.size := by omega
  rw [Nat.one_mul] at hfill
  simp [Instr.buildSlice, run_underlying hT, sizeOf, typeInfo, hi, hle', hnz, zeroValue, hz, hfill, newRow, newB]
end Go.Sh
end
section
namespace Go.Proofs.YtcigpjejbkngfaaGreatDoor
open Go Go.Sh
attribute [local irreducible] X XU XP XR CALL loopS resC closS
def B_disk_New (x0 : Value) (w : World) (K : Value → World → Prop) : Prop :=
  X Tryz.prog (binOp .lss 3 x0 (.int .i64 0)) w fun v1 w1 =>
  gstep v1 false (fun w2 K => K x0 w2) w1 fun v2 w3 =>
  gstep v1 false (fun w4 K => X Tryz.prog (binOp .gtr 3 v2 (.int .i64 16384)) w4 K) w3 fun v3 w5 =>
  X Tryz.prog (pickS v1 (.bool true) v3) w5 fun v4 w6 =>
  condS v4 (
  K (.tuple #[(.pointer none), (.int .i64 1)]) w6) (
  ∃ R, Frame? R ∧
  (X Tryz.prog (Instr.makeSlice 87 x0 x0) (drewW w6) fun v5 w7 =>
  X Tryz.prog (Instr.makeSlice 87 x0 x0) w7 fun v6 w8 =>
  XP Tryz.prog (Instr.build 90 #[(0, v5), (1, v6), (4, (.int .i64 (-1)))]) w8 fun v7 w9 =>
  X Tryz.prog (Instr.box 90 v7) w9 fun v8 w10 =>
  K (.tuple #[v8, (.int .i64 0)]) w10) ∧
  (X Tryz.prog (Instr.makeSlice 87 x0 x0) (drewW w6) fun v9 w11 =>
  X Tryz.prog (Instr.makeSlice 87 x0 x0) w11 fun v10 w12 =>
  XP Tryz.prog (Instr.build 90 #[(0, v10), (1, v9), (4, (.int .i64 (-1)))]) w12 fun v11 w13 =>
  X Tryz.prog (Instr.box 90 v11) w13 fun v12 w14 =>
  K (.tuple #[v12, (.int .i64 0)]) w14))
theorem eq_disk_New (x0 : Value) (w : World) (K : Value → World → Prop) :
    sh Tryz.prog (Tryz.f13.body.getD .skip) (retS Tryz.prog Tryz.f13.results K) (env0 #[x0]) w = B_disk_New x0 w K := by kernel_rfl
theorem call_disk_New (x0 : Value) (w : World) (K : Value → World → Prop) (h : B_disk_New x0 w K) : CALL Tryz.prog 13 #[x0] w K :=
  call_of_eq (c := Tryz.f13.body.getD .skip) mixed Tryz.func13 (by kernel_rfl) (by kernel_rfl) (by kernel_rfl) (Nat.le_of_ble_eq_true (by kernel_rfl)) (eq_disk_New x0 w K) h
def B_disk_Disk_Size (x0 : Value) (w : World) (K : Value → World → Prop) : Prop :=
  X Tryz.prog (binOpG .eql 54 (.tmp 3) (.const (.pointer none)) x0 (.pointer none)) w fun v1 w1 =>
  condS v1 (
  K (.int .i64 0) w1) (
  X Tryz.prog (nilS x0) w1 fun v2 w2 =>
  X Tryz.prog (Instr.fieldAt 90 v2 0) w2 fun v3 w3 =>
  X Tryz.prog (Instr.loadAt 87 v3) w3 fun v4 w4 =>
  X Tryz.prog (Builtin.len_ #[87] 3 #[v4]) w4 fun v5 w5 =>
  K v5 w5)
theorem eq_disk_Disk_Size (x0 : Value) (w : World) (K : Value → World → Prop) :
    sh Tryz.prog (Tryz.f32.body.getD .skip) (retS Tryz.prog Tryz.f32.results K) (env0 #[x0]) w = B_disk_Disk_Size x0 w K := by kernel_rfl
theorem call_disk_Disk_Size (x0 : Value) (w : World) (K : Value → World → Prop) (h : B_disk_Disk_Size x0 w K) : CALL Tryz.prog 32 #[x0] w K :=
  call_of_eq (c := Tryz.f32.body.getD .skip) mixed Tryz.func32 (by kernel_rfl) (by kernel_rfl) (by kernel_rfl) (Nat.le_of_ble_eq_true (by kernel_rfl)) (eq_disk_Disk_Size x0 w K) h
def B_disk_Disk_Write (x0 x1 x2 : Value) (w : World) (K : Value → World → Prop) : Prop :=
  X Tryz.prog (binOpG .eql 54 (.tmp 10) (.const (.pointer none)) x0 (.pointer none)) w fun v1 w1 =>
  condS v1 (
  K (.int .i64 2) w1) (
  X Tryz.prog (binOp .lss 3 x1 (.int .i64 0)) w1 fun v2 w2 =>
  gstep v2 false (fun w3 K => K x1 w3) w2 fun v3 w4 =>
  gstep v2 false (fun w5 K => K x0 w5) w4 fun v4 w6 =>
  gstep v2 false (fun w7 K => X Tryz.prog (nilS v4) w7 K) w6 fun v5 w8 =>
  gstep v2 false (fun w9 K => X Tryz.prog (Instr.fieldAt 90 v5 0) w9 K) w8 fun v6 w10 =>
  gstep v2 false (fun w11 K => X Tryz.prog (Instr.loadAt 87 v6) w11 K) w10 fun v7 w12 =>
  gstep v2 false (fun w13 K => X Tryz.prog (Builtin.len_ #[87] 3 #[v7]) w13 K) w12 fun v8 w14 =>
  gstep v2 false (fun w15 K => X Tryz.prog (binOp .geq 3 v3 v8) w15 K) w14 fun v9 w16 =>
  X Tryz.prog (pickS v2 (.bool true) v9) w16 fun v10 w17 =>
  gstep v10 false (fun w18 K => K x2 w18) w17 fun v11 w19 =>
  gstep v10 false (fun w20 K => X Tryz.prog (Builtin.len_ #[28] 3 #[v11]) w20 K) w19 fun v12 w21 =>
  gstep v10 false (fun w22 K => X Tryz.prog (binOp .gtr 3 v12 (.int .i64 128)) w22 K) w21 fun v13 w23 =>
  X Tryz.prog (pickS v10 (.bool true) v13) w23 fun v14 w24 =>
  condS v14 (
  K (.int .i64 1) w24) (
  CALL Tryz.prog 78 #[x0] w24 fun v15 w25 =>
  X Tryz.prog (binOpG .neq 34 (.tmp 31) (.const (.int .i64 0)) v15 (.int .i64 0)) w25 fun v16 w26 =>
  condS v16 (
  K v15 w26) (
  X Tryz.prog (Instr.build 162 #[(0, x1)]) w26 fun v17 w27 =>
  X Tryz.prog (Instr.alloc 162 true (.tuple #[])) w27 fun v18 w28 =>
  XU Tryz.prog (Instr.storeAt 162 v18 v17) w28 fun w29 =>
  X Tryz.prog (Instr.fieldAt 162 v18 1) w29 fun v19 w30 =>
  X Tryz.prog (Instr.sliceAt 160 v19 none none none) w30 fun v20 w31 =>
  X Tryz.prog (Builtin.copy_ #[28, 28] 3 #[v20, x2]) w31 fun v21 w32 =>
  ∃ R, Frame? R ∧
  XP Tryz.prog (nilS x0) (drewW w32) fun v22 w33 =>
  XP Tryz.prog (Instr.fieldAt 90 v22 2) w33 fun v23 w34 =>
  XR Tryz.prog R (Instr.loadAt 88 v23) w34 fun v24 w35 =>
  XR Tryz.prog R (Instr.loadAt 162 v18) w35 fun v25 w36 =>
  X Tryz.prog (Instr.buildSlice 88 1 #[(0, v25)]) w36 fun v26 w37 =>
  R w36 w37 ∧
  X Tryz.prog (Builtin.append_ #[88, 88] 88 #[v24, v26]) w37 fun v27 w38 =>
  R w37 w38 ∧
  XP Tryz.prog (nilS x0) w38 fun v28 w39 =>
  XP Tryz.prog (Instr.fieldAt 90 v28 2) w39 fun v29 w40 =>
  XU Tryz.prog (Instr.storeAt 88 v29 v27) w40 fun w41 =>
  ∃ R, Frame? R ∧
  XP Tryz.prog (nilS x0) (drewW w41) fun v30 w42 =>
  XP Tryz.prog (Instr.fieldAt 90 v30 0) w42 fun v31 w43 =>
  XR Tryz.prog R (Instr.loadAt 87 v31) w43 fun v32 w44 =>
  XP Tryz.prog (Instr.fieldAt 162 v18 1) w44 fun v33 w45 =>
  XR Tryz.prog R (Instr.loadAt 160 v33) w45 fun v34 w46 =>
  XP Tryz.prog (Instr.indexAt 87 v32 x1) w46 fun v35 w47 =>
  XU Tryz.prog (Instr.storeAt 160 v35 v34) w47 fun w48 =>
  K (.int .i64 0) w48)))
theorem eq_disk_Disk_Write (x0 x1 x2 : Value) (w : World) (K : Value → World → Prop) :
    sh Tryz.prog (Tryz.f50.body.getD .skip) (retS Tryz.prog Tryz.f50.results K) (env0 #[x0, x1, x2]) w = B_disk_Disk_Write x0 x1 x2 w K := by kernel_rfl
theorem call_disk_Disk_Write (x0 x1 x2 : Value) (w : World) (K : Value → World → Prop) (h : B_disk_Disk_Write x0 x1 x2 w K) : CALL Tryz.prog 50 #[x0, x1, x2] w K :=
  call_of_eq (c := Tryz.f50.body.getD .skip) mixed Tryz.func50 (by kernel_rfl) (by kernel_rfl) (by kernel_rfl) (Nat.le_of_ble_eq_true (by kernel_rfl)) (eq_disk_Disk_Write x0 x1 x2 w K) h
def B_disk_Disk_powered (x0 : Value) (w : World) (K : Value → World → Prop) : Prop :=
  joinS (fun ρ1 w1 =>
  X Tryz.prog (nilS (ρ1 0)) w1 fun v1 w2 =>
  X Tryz.prog (Instr.fieldAt 90 v1 3) w2 fun v2 w3 =>
  X Tryz.prog (Instr.loadAt 4 v2) w3 fun v3 w4 =>
  condS v3 (
  K (.int .i64 6) w4) (
  X Tryz.prog (nilS (ρ1 0)) w4 fun v4 w5 =>
  X Tryz.prog (Instr.fieldAt 90 v4 5) w5 fun v5 w6 =>
  X Tryz.prog (Instr.loadAt 3 v5) w6 fun v6 w7 =>
  X Tryz.prog (binOp .add 3 v6 (.int .i64 1)) w7 fun v7 w8 =>
  X Tryz.prog (nilS (ρ1 0)) w8 fun v8 w9 =>
  X Tryz.prog (Instr.fieldAt 90 v8 5) w9 fun v9 w10 =>
  XU Tryz.prog (Instr.storeAt 3 v9 v7) w10 fun w11 =>
  joinS (fun ρ2 w12 =>
  K (.int .i64 0) w12) fun J2 =>
  X Tryz.prog (nilS (ρ1 0)) w11 fun v10 w13 =>
  X Tryz.prog (Instr.fieldAt 90 v10 4) w13 fun v11 w14 =>
  X Tryz.prog (Instr.loadAt 3 v11) w14 fun v12 w15 =>
  X Tryz.prog (binOp .gtr 3 v12 (.int .i64 0)) w15 fun v13 w16 =>
  condS v13 (
  X Tryz.prog (nilS (ρ1 0)) w16 fun v14 w17 =>
  X Tryz.prog (Instr.fieldAt 90 v14 4) w17 fun v15 w18 =>
  X Tryz.prog (Instr.loadAt 3 v15) w18 fun v16 w19 =>
  X Tryz.prog (binOp .sub 3 v16 (.int .i64 1)) w19 fun v17 w20 =>
  X Tryz.prog (nilS (ρ1 0)) w20 fun v18 w21 =>
  X Tryz.prog (Instr.fieldAt 90 v18 4) w21 fun v19 w22 =>
  XU Tryz.prog (Instr.storeAt 3 v19 v17) w22 fun w23 =>
  J2 (upds ρ1 [(36, v19), (35, v18), (34, v17), (33, v16), (32, v15), (31, v14), (30, (ρ1 0)), (29, v13), (28, v12), (27, v11), (26, v10), (25, (ρ1 0)), (24, v9), (23, v8), (22, v7), (21, v6), (20, v5), (19, v4), (18, (ρ1 0)), (17, v3), (16, v2), (15, v1), (14, (ρ1 0))]) w23) (
  J2 (upds ρ1 [(29, v13), (28, v12), (27, v11), (26, v10), (25, (ρ1 0)), (24, v9), (23, v8), (22, v7), (21, v6), (20, v5), (19, v4), (18, (ρ1 0)), (17, v3), (16, v2), (15, v1), (14, (ρ1 0))]) w16))) fun J1 =>
  X Tryz.prog (nilS x0) w fun v20 w24 =>
  X Tryz.prog (Instr.fieldAt 90 v20 4) w24 fun v21 w25 =>
  X Tryz.prog (Instr.loadAt 3 v21) w25 fun v22 w26 =>
  X Tryz.prog (binOpG .eql 3 (.tmp 6) (.const (.int .i64 0)) v22 (.int .i64 0)) w26 fun v23 w27 =>
  condS v23 (
  X Tryz.prog (nilS x0) w27 fun v24 w28 =>
  X Tryz.prog (Instr.fieldAt 90 v24 3) w28 fun v25 w29 =>
  XU Tryz.prog (Instr.storeAt 4 v25 (.bool true)) w29 fun w30 =>
  X Tryz.prog (nilS x0) w30 fun v26 w31 =>
  X Tryz.prog (Instr.fieldAt 90 v26 4) w31 fun v27 w32 =>
  XU Tryz.prog (Instr.storeAt 3 v27 (.int .i64 (-1))) w32 fun w33 =>
  J1 (upds (env0 #[x0]) [(13, v27), (12, v26), (11, v25), (10, v24), (9, x0), (8, x0), (7, v23), (6, v22), (5, v21), (4, v20), (3, x0), (2, (.int .i64 0))]) w33) (
  J1 (upds (env0 #[x0]) [(7, v23), (6, v22), (5, v21), (4, v20), (3, x0), (2, (.int .i64 0))]) w27)
theorem eq_disk_Disk_powered (x0 : Value) (w : World) (K : Value → World → Prop) :
    sh Tryz.prog (Tryz.f78.body.getD .skip) (retS Tryz.prog Tryz.f78.results K) (env0 #[x0]) w = B_disk_Disk_powered x0 w K := by kernel_rfl
theorem call_disk_Disk_powered (x0 : Value) (w : World) (K : Value → World → Prop) (h : B_disk_Disk_powered x0 w K) : CALL Tryz.prog 78 #[x0] w K :=
  call_of_eq (c := Tryz.f78.body.getD .skip) mixed Tryz.func78 (by kernel_rfl) (by kernel_rfl) (by kernel_rfl) (Nat.le_of_ble_eq_true (by kernel_rfl)) (eq_disk_Disk_powered x0 w K) h
def B_disk_Disk_Read (x0 x1 : Value) (w : World) (K : Value → World → Prop) : Prop :=
  X Tryz.prog (binOpG .eql 54 (.tmp 7) (.const (.pointer none)) x0 (.pointer none)) w fun v1 w1 =>
  condS v1 (
  K (.tuple #[(.slice none 0 0), (.int .i64 2)]) w1) (
  X Tryz.prog (binOp .lss 3 x1 (.int .i64 0)) w1 fun v2 w2 =>
  gstep v2 false (fun w3 K => K x1 w3) w2 fun v3 w4 =>
  gstep v2 false (fun w5 K => K x0 w5) w4 fun v4 w6 =>
  gstep v2 false (fun w7 K => X Tryz.prog (nilS v4) w7 K) w6 fun v5 w8 =>
  gstep v2 false (fun w9 K => X Tryz.prog (Instr.fieldAt 90 v5 0) w9 K) w8 fun v6 w10 =>
  gstep v2 false (fun w11 K => X Tryz.prog (Instr.loadAt 87 v6) w11 K) w10 fun v7 w12 =>
  gstep v2 false (fun w13 K => X Tryz.prog (Builtin.len_ #[87] 3 #[v7]) w13 K) w12 fun v8 w14 =>
  gstep v2 false (fun w15 K => X Tryz.prog (binOp .geq 3 v3 v8) w15 K) w14 fun v9 w16 =>
  X Tryz.prog (pickS v2 (.bool true) v9) w16 fun v10 w17 =>
  condS v10 (
  K (.tuple #[(.slice none 0 0), (.int .i64 1)]) w17) (
  X Tryz.prog (nilS x0) w17 fun v11 w18 =>
  X Tryz.prog (Instr.fieldAt 90 v11 3) w18 fun v12 w19 =>
  X Tryz.prog (Instr.loadAt 4 v12) w19 fun v13 w20 =>
  condS v13 (
  K (.tuple #[(.slice none 0 0), (.int .i64 6)]) w20) (
  X Tryz.prog (nilS x0) w20 fun v14 w21 =>
  X Tryz.prog (Instr.fieldAt 90 v14 0) w21 fun v15 w22 =>
  X Tryz.prog (Instr.loadAt 87 v15) w22 fun v16 w23 =>
  X Tryz.prog (Instr.indexAt 87 v16 x1) w23 fun v17 w24 =>
  X Tryz.prog (Instr.sliceAt 160 v17 none none none) w24 fun v18 w25 =>
  CALL Tryz.prog 23 #[v18] w25 fun v19 w26 =>
  K (.tuple #[v19, (.int .i64 0)]) w26)))
theorem eq_disk_Disk_Read (x0 x1 : Value) (w : World) (K : Value → World → Prop) :
    sh Tryz.prog (Tryz.f91.body.getD .skip) (retS Tryz.prog Tryz.f91.results K) (env0 #[x0, x1]) w = B_disk_Disk_Read x0 x1 w K := by kernel_rfl
theorem call_disk_Disk_Read (x0 x1 : Value) (w : World) (K : Value → World → Prop) (h : B_disk_Disk_Read x0 x1 w K) : CALL Tryz.prog 91 #[x0, x1] w K :=
  call_of_eq (c := Tryz.f91.body.getD .skip) mixed Tryz.func91 (by kernel_rfl) (by kernel_rfl) (by kernel_rfl) (Nat.le_of_ble_eq_true (by kernel_rfl)) (eq_disk_Disk_Read x0 x1 w K) h
def B_slices_Clone_byte (x0 : Value) (w : World) (K : Value → World → Prop) : Prop :=
  X Tryz.prog (binOpG .eql 28 (.tmp 3) (.const (.slice none 0 0)) x0 (.slice none 0 0)) w fun v1 w1 =>
  condS v1 (
  K (.slice none 0 0) w1) (
  X Tryz.prog (Instr.buildSlice 28 0 #[]) w1 fun v2 w2 =>
  X Tryz.prog (Builtin.append_ #[28, 28] 28 #[v2, x0]) w2 fun v3 w3 =>
  K v3 w3)
theorem eq_slices_Clone_byte (x0 : Value) (w : World) (K : Value → World → Prop) :
    sh Tryz.prog (Tryz.f23.body.getD .skip) (retS Tryz.prog Tryz.f23.results K) (env0 #[x0]) w = B_slices_Clone_byte x0 w K := by kernel_rfl
theorem call_slices_Clone_byte (x0 : Value) (w : World) (K : Value → World → Prop) (h : B_slices_Clone_byte x0 w K) : CALL Tryz.prog 23 #[x0] w K :=
  call_of_eq (c := Tryz.f23.body.getD .skip) mixed Tryz.func23 (by kernel_rfl) (by kernel_rfl) (by kernel_rfl) (Nat.le_of_ble_eq_true (by kernel_rfl)) (eq_slices_Clone_byte x0 w K) h
end Go.Proofs.YtcigpjejbkngfaaGreatDoor
end
