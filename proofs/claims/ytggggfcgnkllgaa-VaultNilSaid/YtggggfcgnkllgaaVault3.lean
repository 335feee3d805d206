/- cellaragelaw12's reference vault. -/
import Derived.Test.YtggggfcgnkllgaaVault2
import Derived.Test.YtggggfcgnkllgaaRef3
import Derived.Test.YtggggfcgnkllgaaT11
import Derived.Lib.ConvBytes
set_option linter.unusedSimpArgs false
set_option linter.unusedVariables false
namespace Go.Proofs.Ytggggfcgnkllgaa
open Go Go.Sh Go.RowKit
attribute [local irreducible] X XU XP XR CALL loopS resC closS
/-- Bytes of a text. -/
theorem X_bytes {P : Program} {src dst e : TypeId} {u : TypeDesc} {w : World} {K : Value → World → Prop} (hs : P.underlying src = some u) (hd : P.underlying dst = some (.slice e)) (he : P.underlying e = some (.int .u8)) {l : List UInt8} (hl : l.length ≤ 9223372036854775807)
    (h : ∀ v w1, Ext w w1 → Bts w1 v l → (∀ k, v.ownBlock = some k → w.heap.size ≤ k ∧ k < w1.heap.size) → K v w1) : X P (convert src dst (.string (str l))) w K := by
  refine X_of (Lib.run_convert_string_bytes w src dst e (str l) hs hd he) ?_
  have hsz : (str l).size = l.length := str_size l
  have hge := grownCap_ge w (str l).size 0 e
  have hle := grownCap_le_maxLen w (str l).size 0 e (by rw [hsz]; simpa [maxLen] using hl)
  simp only [maxLen] at hle
  refine h _ _ ⟨rfl, rfl, rfl, by rw [Lib.bytesWorld_size]; omega, fun i hi _ => Lib.bytesWorld_at_old w e (str l) i hi⟩ ?_ (fun k hk => ?_)
  · rw [hsz] at hge hle ⊢
    refine ⟨_, _, rfl, hge, by omega, fun _ => ⟨_, rfl, fun j u hj => ?_⟩⟩
    have hj' := (List.getElem?_eq_some_iff.1 hj).1
    rw [add_plain, Nat.zero_add, Lib.bytesWorld_cell w e (str l) j (by rw [hsz]; exact hj')]
    have : (str l).data.toList.getD j 0 = u := by
      show l.getD j 0 = u
      rw [List.getD_eq_getElem?_getD, hj]
      rfl
    rw [this]
  · have e1 : w.heap.size = k := by injection hk
    rw [Lib.bytesWorld_size]
    omega
theorem RefAt.notin {w : World} {b : Nat} {d : Dk} (h : RefAt w b d) {q : Nat} {cs : Array Value} {T : TypeId} {fr : Nat × Nat} (hq : w.heap[q]? = some (.cells cs T fr)) (h1 : T ≠ 148) (h2 : T ≠ 9) (h3 : T ≠ 200) : ¬ Go.Sh.foot w b q := fun hf => by
  obtain ⟨_, sv, pv, h⟩ := h
  rcases h.foot.1 hf with h' | h' | h'
  · subst h'
    rw [h.blk] at hq
    injection hq with hq
    injection hq with _ hq
    exact h1 hq.symm
  · exact own_neT h.safe hq h2 h'
  · exact own_neT h.ws hq h3 h'
def Vt.cs (v : Vt) (b : Nat) : List Value := [ptr b, .int .i64 (v.fm : Int), .int .i64 (v.each : Int), .int .i64 (v.n : Int)]
abbrev Vt.rv (v : Vt) (b : Nat) : Value := .agg (Vt.cs v b).toArray
theorem Vt.cs_one (v : Vt) (b : Nat) : ∀ x ∈ Vt.cs v b, x.oneCell' = true := by
  intro x hx
  simp only [Vt.cs, List.mem_cons, List.not_mem_nil, or_false] at hx
  rcases hx with rfl | rfl | rfl | rfl <;> rfl
theorem run_build_138 (p : Option Addr) (x y z : Int) (w : World) : (Instr.build 138 #[(0, .pointer p), (1, .int .i64 x), (2, .int .i64 y), (3, .int .i64 z)]).run Try.prog w = .ok (.agg #[.pointer p, .int .i64 x, .int .i64 y, .int .i64 z]) w := by kernel_rfl
theorem run_build_138z (w : World) : (Instr.build 138 #[]).run Try.prog w = .ok (.agg #[.pointer none, .int .i64 0, .int .i64 0, .int .i64 0]) w := by kernel_rfl
theorem run_cutstr {P : Program} {T : TypeId} (hT : P.underlying T = some .string) (l : List UInt8) (k k' : IntKind) (lo n : Nat) (h0 : lo ≤ n) (h : n ≤ l.length) (w : World) : (Instr.sliceAt T (.string (str l)) (some (.int k (lo : Int))) (some (.int k' (n : Int))) none).run P w = .ok (.string (str ((l.take n).drop lo))) w := by
  have h' : n ≤ (str l).size := by rw [str_size]; exact h
  simp [Instr.sliceAt, Instr.slice, run_underlying hT, Instr.sliceBounds, Instr.sliceBound, asIntOf, h0, h, h', extract_str, str_size]
section
variable {w : World} {b : Nat} {d : Dk} {v : Vt} {K : Value → World → Prop}
theorem RVNew_spec {fm each n : Int} (hd : RefAt w b d) (hb1 : -9223372036854775808 ≤ fm ∧ fm ≤ 9223372036854775807)
    (h0 : vnew d.safe.length fm each n = none → ∀ u w1, Ext w w1 → K (.tuple #[u, i64v 1]) w1)
    (h1 : ∀ v, vnew d.safe.length fm each n = some v → ∀ w1, Ext w w1 → K (.tuple #[Vt.rv v b, i64v 0]) w1) : CALL Try.prog 104 #[ptr b, i64v fm, i64v each, i64v n] w K := by
  have hsz : d.safe.length ≤ 16384 := hd.1.2.2.1
  apply call_ref12_New
  unfold B_ref12_New
  refine X_alloc zero_138 ?_
  have hq := newB_get w #[(.pointer none), (.int .i64 0), (.int .i64 0), (.int .i64 0)] 138
  have hx := newB_ext w #[(.pointer none), (.int .i64 0), (.int .i64 0), (.int .i64 0)] 138
  show X _ (nilS (ptr b)) (newB w #[(.pointer none), (.int .i64 0), (.int .i64 0), (.int .i64 0)] 138) _
  generalize newB w #[(.pointer none), (.int .i64 0), (.int .i64 0), (.int .i64 0)] 138 = w1 at hq hx ⊢
  obtain ⟨okd, sv, pv, hr⟩ := hd.ext hx
  obtain ⟨as_, cs_, es⟩ := own_sl hr.safe
  simp only [X_nilS, X_field_148_0]
  refine X_loadL agg_66 hr.blk (v := sv) rfl ?_
  rw [es]
  simp only [X_len_66, X_lss]
  have fin0 : ∀ (h : vnew d.safe.length fm each n = none), X Try.prog (Instr.build 138 #[]) w1 fun v28 w44 => XU Try.prog (Instr.storeAt 138 (.pointer (some ⟨w.heap.size, 0, none⟩)) v28) w44 fun w45 => resC Try.prog 138 (.pointer (some ⟨w.heap.size, 0, none⟩)) w45 fun r0 => K (.tuple #[r0, (.int .i64 1)]) w45 := by
    intro h
    refine X_of (run_build_138z _) ?_
    refine XU_storeAgg (l := [.pointer none, .int .i64 0, .int .i64 0, .int .i64 0]) info_138 hq (by rw [sz_138]; rfl) (by rw [sz_138]; rfl) (by intro x hx; simp at hx; rcases hx with rfl | rfl | rfl | rfl <;> rfl) ?_
    refine resC_agg Try.underlying138 agg_138 info_138 (setAt_same (lt_of_blk hq)) (by rw [sz_138]; rfl) ?_
    exact h0 h _ _ (Ext.seq hx (setAt_keep _ _ _ _ _) (fun j hj => by omega))
  have bad : (fm < 0 ∨ each < 1 ∨ 16384 < each ∨ n < 0 ∨ (d.safe.length : Int) < fm ∨ ((d.safe.length : Int) - fm) / each < n) → vnew d.safe.length fm each n = none := fun h => by unfold vnew; rw [if_pos h]
  by_cases c1 : fm < 0
  · have e1 : decide (fm < 0) = true := by simpa using c1
    simp only [e1, GS]
    exact fin0 (bad (.inl c1))
  have e1 : decide (fm < 0) = false := by simpa using c1
  simp only [e1, GS, X_lss]
  by_cases c2 : each < 1
  · have e2 : decide (each < 1) = true := by simpa using c2
    simp only [e2, GS]
    exact fin0 (bad (.inr (.inl c2)))
  have e2 : decide (each < 1) = false := by simpa using c2
  simp only [e2, GS, X_gtr]
  by_cases c3 : 16384 < each
  · have e3 : decide (each > 16384) = true := by simpa using c3
    simp only [e3, GS]
    exact fin0 (bad (.inr (.inr (.inl c3))))
  have e3 : decide (each > 16384) = false := by simpa using c3
  simp only [e3, GS, X_lss]
  by_cases c4 : n < 0
  · have e4 : decide (n < 0) = true := by simpa using c4
    simp only [e4, GS]
    exact fin0 (bad (.inr (.inr (.inr (.inl c4)))))
  have e4 : decide (n < 0) = false := by simpa using c4
  simp only [e4, GS, X_gtr]
  by_cases c5 : (d.safe.length : Int) < fm
  · have e5 : decide (fm > (d.safe.length : Int)) = true := by simpa using c5
    simp only [e5, GS]
    exact fin0 (bad (.inr (.inr (.inr (.inr (.inl c5))))))
  have e5 : decide (fm > (d.safe.length : Int)) = false := by simpa using c5
  simp only [e5, GS]
  rw [X_sub, w64 (by omega) (by omega)]
  have hq0 : 0 ≤ ((d.safe.length : Int) - fm) / each := Int.ediv_nonneg (by omega) (by omega)
  have hq1 : ((d.safe.length : Int) - fm) / each ≤ (d.safe.length : Int) - fm := Int.ediv_le_self _ (by omega)
  refine X_of (run_quo 3 .i64 _ _ (by omega) _) ?_
  rw [tdiv_ediv (by omega), w64 (by omega) (by omega), X_gtr, condS_bool]
  by_cases c6 : ((d.safe.length : Int) - fm) / each < n
  · rw [if_pos (by simpa using c6)]
    exact fin0 (bad (.inr (.inr (.inr (.inr (.inr c6))))))
  rw [if_neg (by simpa using c6)]
  have hv : vnew d.safe.length fm each n = some ⟨fm.toNat, each.toNat, n.toNat⟩ := by unfold vnew; rw [if_neg (by omega)]
  refine X_of (run_build_138 _ _ _ _ _) ?_
  have ecs : [ptr b, Value.int .i64 fm, .int .i64 each, .int .i64 n] = Vt.cs ⟨fm.toNat, each.toNat, n.toNat⟩ b := by
    show _ = [ptr b, Value.int .i64 ((fm.toNat : Nat) : Int), .int .i64 ((each.toNat : Nat) : Int), .int .i64 ((n.toNat : Nat) : Int)]
    rw [Int.toNat_of_nonneg (by omega), Int.toNat_of_nonneg (by omega), Int.toNat_of_nonneg (by omega)]
  show XU _ (Instr.storeAt 138 _ (.agg [ptr b, Value.int .i64 fm, .int .i64 each, .int .i64 n].toArray)) _ _
  rw [ecs]
  refine XU_storeAgg info_138 hq (by rw [sz_138]; rfl) (by rw [sz_138]; rfl) (Vt.cs_one _ _) ?_
  refine resC_agg Try.underlying138 agg_138 info_138 (setAt_same (lt_of_blk hq)) (by rw [sz_138]; rfl) ?_
  exact h1 _ hv _ (Ext.seq hx (setAt_keep _ _ _ _ _) (fun j hj => by omega))
theorem RVRoom_spec {size : Nat} (ok : v.ok size) (hK : ∀ w1, Ext w w1 → K (i64v (v.room : Int)) w1) : CALL Try.prog 105 #[Vt.rv v b] w K := by
  obtain ⟨h1, h2, h3, h4⟩ := ok
  apply call_ref12_Vault_Room
  unfold B_ref12_Vault_Room
  refine X_box ?_
  have hq := newB_get w (Vt.cs v b).toArray 138
  have hx := newB_ext w (Vt.cs v b).toArray 138
  simp only [X_field_138_2]
  refine X_loadL agg_3 hq (v := .int .i64 (v.each : Int)) rfl ?_
  rw [X_mul, w64 (by omega) (by omega), X_sub, w64 (by omega) (by omega)]
  have e : 128 * (v.each : Int) - 4 = (v.room : Int) := by unfold Vt.room; omega
  rw [e]
  exact hK _ hx
theorem RVPut_spec {at_ : Int} {bs : List UInt8} (hd : RefAt w b d) (ok : v.ok d.safe.length) (hws : d.ws.length + bs.length + 4 ≤ 900000)
    (hK : ∀ w1, RefAt w1 b (vput v d at_ bs).1 → Step b w w1 → K (i64v (vput v d at_ bs).2) w1) : CALL Try.prog 107 #[Vt.rv v b, i64v at_, .string (str bs)] w K := by
  have hb_lt := hd.lt b (foot_self _ _)
  obtain ⟨ok1, ok2, ok3, ok4⟩ := id ok
  apply call_ref12_Vault_Put
  unfold B_ref12_Vault_Put
  refine X_box ?_
  have hq := newB_get w (Vt.cs v b).toArray 138
  have hx := newB_ext w (Vt.cs v b).toArray 138
  show X _ (binOp .lss 3 (i64v at_) _) (newB w (Vt.cs v b).toArray 138) _
  generalize newB w (Vt.cs v b).toArray 138 = w1 at hq hx ⊢
  have hd1 := hd.ext hx
  have s1 : Step b w w1 := Step.ext hx hb_lt
  have bad : (at_ < 0 ∨ (v.n : Int) ≤ at_) → K (i64v 1) w1 := fun hbad => by
    have e : vput v d at_ bs = (d, 1) := by unfold vput; rw [if_pos hbad]
    have := hK w1 (by rw [e]; exact hd1) s1
    rw [e] at this
    exact this
  rw [X_lss]
  by_cases c1 : at_ < 0
  · have e1 : decide (at_ < 0) = true := by simpa using c1
    simp only [e1, GS]
    exact bad (.inl c1)
  have e1 : decide (at_ < 0) = false := by simpa using c1
  simp only [e1, GS, X_field_138_3]
  refine X_loadL agg_3 hq (v := .int .i64 (v.n : Int)) rfl ?_
  rw [X_geq, condS_bool]
  by_cases c2 : (v.n : Int) ≤ at_
  · rw [if_pos (by simpa using c2)]
    exact bad (.inr c2)
  rw [if_neg (by simpa using c2)]
  obtain ⟨i, rfl⟩ : ∃ i : Nat, at_ = (i : Int) := ⟨at_.toNat, by omega⟩
  have hi : i < v.n := by omega
  have hgood : ¬ ((i : Int) < 0 ∨ (v.n : Int) ≤ (i : Int)) := by omega
  have hle := Vt.at_le ok hi
  rw [X_len_9, str_size]
  refine X_loadAgg Try.underlying138 agg_138 info_138 hq (by rw [sz_138]; rfl) ?_
  refine RVRoom_spec ok ?_
  intro w2 hx2
  have hd2 := hd1.ext hx2
  have hq2 := hx2.get hq
  have s2 := s1.trans (Step.ext hx2 (hd1.lt b (foot_self _ _)))
  rw [X_gtr, condS_bool]
  by_cases hroom : v.room < bs.length
  · rw [if_pos (by simp; omega)]
    have e : vput v d (i : Int) bs = (d, 4) := by unfold vput; rw [if_neg hgood, if_pos hroom]
    have := hK w2 (by rw [e]; exact hd2) s2
    rw [e] at this
    exact this
  rw [if_neg (by simp; omega)]
  have hroom' : bs.length ≤ 16384 * 128 := by unfold Vt.room at hroom; omega
  have eput : vput v d (i : Int) bs = layAll d (v.fm + i * v.each) (be 4 bs.length ++ bs) := by unfold vput; rw [if_neg hgood, if_neg hroom]; rfl
  rw [eput] at hK
  rw [X_len_9, str_size, X_conv_3_22, wrap_u64, Int.emod_eq_of_lt (by omega) (by omega)]
  refine RPut_spec (by omega) ?_
  intro v3 w3 hx3 ho3
  have e4 : putB bs.length 4 = be 4 bs.length := rfl
  rw [e4] at ho3
  have hl4 : (be 4 bs.length).length = 4 := be_length _ _
  refine X_str Try.underlying27 Try.underlying5 Try.underlying9 (own_bts ho3).1 ?_
  refine X_of (run_string_add 9 _ _ (by rw [str_size, str_size, hl4]; omega) _) ?_
  rw [str_append]
  have hd3 := hd2.ext hx3
  have hq3 := hx3.get hq2
  have s3 := s2.trans (Step.ext hx3 (hd2.lt b (foot_self _ _)))
  generalize hqe : w.heap.size = q at hq3 ⊢
  obtain ⟨x, hxd⟩ : ∃ x, x = be 4 bs.length ++ bs := ⟨_, rfl⟩
  have hxl : x.length = 4 + bs.length := by rw [hxd, List.length_append, hl4]
  rw [← hxd]
  rw [← hxd] at hK
  refine loopE (fun ρ wr => ∃ (d' : Dk) (j : Nat), RefAt wr b d' ∧ Step b w wr ∧ wr.heap[q]? = some (.cells (Vt.cs v b).toArray 138 (0, 0)) ∧ d'.ws.length + (x.length - 128 * j) ≤ 900000 ∧ 128 * j ≤ x.length + 127 ∧
      layAll d (v.fm + i * v.each) x = layAll d' (v.fm + i * v.each + j) (x.drop (128 * j)) ∧ ρ 7 = .string (str x) ∧ ρ 8 = .int .i64 ((128 * j : Nat) : Int) ∧ ρ 3 = ptr q ∧ ρ 1 = .int .i64 (i : Int))
    (fun ρ wr => match ρ 8 with | .int _ s => (x.length + 128 - s).toNat | _ => 0)
    (fun ρ wr => ∃ d', RefAt wr b d' ∧ Step b w wr ∧ layAll d (v.fm + i * v.each) x = (d', 0)) ?_ ?_ ?_
  · exact ⟨d, 0, hd3, s3, hq3, by omega, by omega, rfl, rfl, rfl, rfl, rfl⟩
  · rintro J hJ ρ wr ⟨d', j, hd', hs', hq', hws', hj, heq, r7, r8, r3, r1⟩
    rw [r7, r8, X_len_9, str_size, X_lss, condS_bool]
    by_cases hlt : 128 * j < x.length
    case neg =>
      rw [if_neg (by simp; omega)]
      refine hJ _ _ ⟨d', hd', hs', ?_⟩
      rw [heq, List.drop_eq_nil_of_le (by omega), layAll_nil]
    rw [if_pos (by simp; omega)]
    have hne : x.drop (128 * j) ≠ [] := by
      intro h
      have := congrArg List.length h
      rw [List.length_drop] at this
      simp at this
      omega
    have hcons := layAll_cons d' (v.fm + i * v.each + j) hne
    have hqd : (drewW wr).heap[q]? = some (.cells (Vt.cs v b).toArray 138 (0, 0)) := hq'
    have hdd := hd'.ext (Keep.drew (fun _ => False) wr)
    have hqn : ¬ foot (drewW wr) b q := hdd.notin hqd (by decide) (by decide) (by decide)
    refine ⟨Keep (foot (drewW wr) b), Keep.frame _, ?_⟩
    rw [r3, r1]
    try simp only [XP_field_138_0, XP_field_138_1, XP_field_138_2]
    refine XR_ok (Keep.frame _) (fun w' k => run_loadAt agg_92 (blk_get (k.get hqn hqd) (v := ptr b) rfl)) ?_
    refine XR_ok (Keep.frame _) (fun w' k => run_loadAt agg_3 (blk_get (k.get hqn hqd) (v := .int .i64 (v.fm : Int)) rfl)) ?_
    refine XR_ok (Keep.frame _) (fun w' k => run_loadAt agg_3 (blk_get (k.get hqn hqd) (v := .int .i64 (v.each : Int)) rfl)) ?_
    have em : ((i : Nat) : Int) * (v.each : Int) = ((i * v.each : Nat) : Int) := (Int.natCast_mul _ _).symm
    rw [XP_mul, em, w64 (by omega) (by omega), XP_add, w64 (by omega) (by omega)]
    refine XP_of (fun w => run_quo 3 .i64 _ 128 (by decide) w) ?_
    have eq : (((128 * j : Nat) : Int)).tdiv 128 = (j : Int) := by rw [tdiv_ediv (by omega)]; omega
    rw [eq, w64 (by omega) (by omega), XP_add, w64 (by omega) (by omega), XP_len_9, str_size, XP_add, w64 (by omega) (by omega), XP_min]
    obtain ⟨m, hm⟩ : ∃ m : Nat, m = min x.length (128 * j + 128) := ⟨_, rfl⟩
    have emin : min (x.length : Int) (((128 * j : Nat) : Int) + 128) = (m : Int) := by omega
    rw [emin]
    refine XP_of (fun w => run_cutstr Try.underlying9 x .i64 .i64 (128 * j) m (by omega) (by omega) w) ?_
    have ecut : (x.take m).drop (128 * j) = (x.drop (128 * j)).take 128 := by
      rw [List.drop_take]
      rcases Nat.le_total x.length (128 * j + 128) with h | h
      · rw [List.take_of_length_le (by rw [List.length_drop]; omega), List.take_of_length_le (by rw [List.length_drop]; omega)]
      · rw [show m - 128 * j = 128 by omega]
    rw [ecut]
    have eto : ((v.fm : Nat) : Int) + ((i * v.each : Nat) : Int) + (j : Int) = ((v.fm + i * v.each + j : Nat) : Int) := by omega
    rw [eto]
    refine RWrite_spec hdd (by omega) ?_
    intro w5 hd5 s5
    refine ⟨s5.keep, ?_⟩
    have s5' : Step b w w5 := hs'.trans ((Step.ext (Keep.drew _ _) (hd'.lt b (foot_self _ _))).trans s5)
    rw [X_neq, condS_bool]
    by_cases he : (d'.write ((v.fm + i * v.each + j : Nat) : Int) ((x.drop (128 * j)).take 128)).2 = 0
    · rw [if_neg (by simpa using he)]
      rw [if_neg (by simpa using he)] at hcons
      rw [X_add, w64 (by omega) (by omega)]
      have hws5 := Dk.write_ws d' ((v.fm + i * v.each + j : Nat) : Int) ((x.drop (128 * j)).take 128)
      show _ ∧ _
      refine ⟨⟨_, j + 1, hd5, s5', s5.keep.get hqn hqd, by omega, by omega, ?_, r7, ?_, r3, r1⟩, ?_⟩
      · rw [heq, hcons, List.drop_drop]
        rfl
      · show Value.int .i64 (((128 * j : Nat) : Int) + 128) = _
        congr 1
      · show ((x.length : Int) + 128 - (((128 * j : Nat) : Int) + 128)).toNat < _
        first | omega | (show _ < (_ : Int).toNat; omega)
    · rw [if_pos (by simpa using he)]
      rw [if_pos (by simpa using he)] at hcons
      show K (i64v (d'.write ((v.fm + i * v.each + j : Nat) : Int) ((x.drop (128 * j)).take 128)).2) w5
      have := hK w5 (by rw [heq, hcons]; exact hd5) s5'
      rw [heq, hcons] at this
      exact this
  · rintro ρ wr ⟨d', hd', hs', heq⟩
    have := hK wr (by rw [heq]; exact hd') hs'
    rw [heq] at this
    exact this
theorem run_build_57s (a : Option Addr) (n c : Nat) (w : World) : (Instr.build 57 #[(0, .slice a n c)]).run Try.prog w = .ok (.agg #[.slice a n c, .int .i64 0, .int .i64 0]) w := by kernel_rfl
theorem RVGet_spec {at_ : Int} (hd : RefAt w b d) (ok : v.ok d.safe.length) (hws : d.ws.length ≤ 1000000)
    (hK : ∀ w1, Ext w w1 → K (.tuple #[.string (str (vget v d at_).1), i64v (vget v d at_).2]) w1) : CALL Try.prog 108 #[Vt.rv v b, i64v at_] w K := by
  obtain ⟨ok1, ok2, ok3, ok4⟩ := id ok
  have e0 : decide ((0 : Int) ≠ 0) = false := by decide
  have e6 : decide ((6 : Int) ≠ 0) = true := by decide
  have n128 := Dk.now_128 hd.1
  have nlen := Dk.now_length d
  apply call_ref12_Vault_Get
  unfold B_ref12_Vault_Get
  refine X_box ?_
  have hq := newB_get w (Vt.cs v b).toArray 138
  have hx := newB_ext w (Vt.cs v b).toArray 138
  show X _ (binOp .lss 3 (i64v at_) _) (newB w (Vt.cs v b).toArray 138) _
  generalize newB w (Vt.cs v b).toArray 138 = w1 at hq hx ⊢
  have hd1 := hd.ext hx
  have bad : (at_ < 0 ∨ (v.n : Int) ≤ at_) → K (.tuple #[.string { data := #[] }, i64v 1]) w1 := fun hbad => by
    have e : vget v d at_ = ([], 1) := by unfold vget; rw [if_pos hbad]
    have := hK w1 hx
    rw [e] at this
    exact this
  rw [X_lss]
  by_cases c1 : at_ < 0
  · have e1 : decide (at_ < 0) = true := by simpa using c1
    simp only [e1, GS]
    exact bad (.inl c1)
  have e1 : decide (at_ < 0) = false := by simpa using c1
  simp only [e1, GS, X_field_138_3]
  refine X_loadL agg_3 hq (v := .int .i64 (v.n : Int)) rfl ?_
  rw [X_geq, condS_bool]
  by_cases c2 : (v.n : Int) ≤ at_
  · rw [if_pos (by simpa using c2)]
    exact bad (.inr c2)
  rw [if_neg (by simpa using c2)]
  obtain ⟨i, rfl⟩ : ∃ i : Nat, at_ = (i : Int) := ⟨at_.toNat, by omega⟩
  have hi : i < v.n := by omega
  have hgood : ¬ ((i : Int) < 0 ∨ (v.n : Int) ≤ (i : Int)) := by omega
  have hle := Vt.at_le ok hi
  obtain ⟨B, hB⟩ : ∃ B, B = v.fm + i * v.each := ⟨_, rfl⟩
  rw [← hB] at hle
  have em : ((i : Nat) : Int) * (v.each : Int) = ((i * v.each : Nat) : Int) := (Int.natCast_mul _ _).symm
  generalize hqe : w.heap.size = q at hq ⊢
  refine loopE (fun ρ wr => wr = w1 ∧ ∃ j : Nat, j ≤ v.each ∧ (0 < j → d.dead = false) ∧ ρ 7 = .int .i64 (j : Int) ∧ ρ 6 = .string (str ((d.now.drop B).take j).flatten) ∧ ρ 2 = ptr q ∧ ρ 1 = .int .i64 (i : Int))
    (fun ρ wr => match ρ 7 with | .int _ s => (v.each + 1 - s).toNat | _ => 0)
    (fun ρ wr => wr = w1 ∧ d.dead = false ∧ ρ 6 = .string (str (vall v d i)) ∧ ρ 2 = ptr q) ?_ ?_ ?_
  · exact ⟨rfl, 0, Nat.zero_le _, fun h => absurd h (by omega), rfl, rfl, rfl, rfl⟩
  · rintro J hJ ρ wr ⟨rfl, j, hj, hjd, r7, r6, r2, r1⟩
    have hlj := flat_take_drop d.now n128 B j (by omega)
    rw [r7, r6, r2, r1]
    simp only [X_field_138_2]
    refine X_loadL agg_3 hq (v := .int .i64 (v.each : Int)) rfl ?_
    rw [X_lss, condS_bool]
    by_cases hlt : j < v.each
    case neg =>
      rw [if_neg (by simp; omega)]
      have : j = v.each := by omega
      refine hJ _ _ ⟨rfl, hjd (by omega), ?_, r2⟩
      subst this
      unfold vall
      rw [← hB]
      exact r6
    rw [if_pos (by simp; omega)]
    try simp only [X_field_138_0]
    refine X_loadL agg_92 hq (v := ptr b) rfl ?_
    try simp only [X_field_138_1]
    refine X_loadL agg_3 hq (v := .int .i64 (v.fm : Int)) rfl ?_
    try simp only [X_field_138_2]
    refine X_loadL agg_3 hq (v := .int .i64 (v.each : Int)) rfl ?_
    rw [X_mul, em, w64 (by omega) (by omega), X_add, w64 (by omega) (by omega), X_add, w64 (by omega) (by omega)]
    have eto : ((v.fm : Nat) : Int) + ((i * v.each : Nat) : Int) + (j : Int) = ((B + j : Nat) : Int) := by omega
    rw [eto]
    refine RRead_spec hd1 hws ?_
    rw [read_at (d := d) (i := B + j) (by omega)]
    by_cases hdead : d.dead = true
    · rw [if_pos hdead]
      simp only [X_extract0, X_extract1, X_neq, e6, GS]
      have e : vget v d (i : Int) = ([], 6) := by unfold vget; rw [if_neg hgood, if_pos hdead]
      have := hK wr hx
      rw [e] at this
      exact this
    rw [if_neg hdead]
    have hd' : d.dead = false := by simpa using hdead
    simp only [X_extract0, X_extract1, X_neq, e0, GS]
    have hnl5 : (d.now.getD (B + j) []).length = 128 := by
      rw [List.getD_eq_getElem?_getD, List.getElem?_eq_getElem (by omega)]
      exact n128 _ (List.getElem_mem _)
    refine X_of (run_string_add 9 _ _ (by rw [str_size, str_size]; show _ + (d.now.getD (B + j) []).length ≤ _; omega) _) ?_
    rw [str_append, X_add, w64 (by omega) (by omega)]
    have es := flat_succ d.now B j (by omega)
    show _ ∧ _
    refine ⟨⟨rfl, j + 1, hlt, fun _ => hd', rfl, ?_, r2, r1⟩, ?_⟩
    · rw [es]; rfl
    · show ((v.each : Int) + 1 - ((j : Int) + 1)).toNat < _
      first | omega | (show _ < (_ : Int).toNat; omega)
  · rintro ρ wr ⟨rfl, hdead, r6, r2⟩
    have hlall : (vall v d i).length = v.each * 128 := by
      unfold vall
      rw [← hB]
      exact flat_take_drop d.now n128 B v.each (by omega)
    rw [r6, r2]
    refine X_bytes Try.underlying9 Try.underlying27 Try.underlying5 (by omega) ?_
    intro v2 w2 hx2 hb2 hk2
    obtain ⟨a2, c2', e2⟩ := Bts.slice hb2
    rw [e2]
    refine X_of (run_build_57s _ _ _ _) ?_
    refine X_alloc zero_57 ?_
    have hz := newB_get w2 #[(.slice none 0 0), (.int .i64 0), (.int .i64 0)] 57
    have hxz := newB_ext w2 #[(.slice none 0 0), (.int .i64 0), (.int .i64 0)] 57
    have hsz := newB_size w2 #[(.slice none 0 0), (.int .i64 0), (.int .i64 0)] 57
    show XU _ _ (newB w2 #[(.slice none 0 0), (.int .i64 0), (.int .i64 0)] 57) _
    generalize newB w2 #[(.slice none 0 0), (.int .i64 0), (.int .i64 0)] 57 = w3 at hz hxz hsz ⊢
    rw [← e2]
    refine XU_storeAgg (l := [v2, .int .i64 0, .int .i64 0]) info_57 hz (by rw [sz_57]; rfl) (by rw [sz_57]; rfl) (by intro x hx; simp at hx; rcases hx with rfl | rfl | rfl <;> first | rfl | (rw [e2]; rfl)) ?_
    have hz4 := setAt_same (cs := [v2, .int .i64 0, .int .i64 0].toArray) (T := 57) (fr := (0, 0)) (lt_of_blk hz)
    have hx4 : Ext w2 (setAt w3 w2.heap.size [v2, .int .i64 0, .int .i64 0].toArray 57 (0, 0)) := Ext.seq hxz (setAt_keep _ _ _ _ _) (fun j hj => by omega)
    generalize setAt w3 w2.heap.size [v2, .int .i64 0, .int .i64 0].toArray 57 (0, 0) = w4 at hz4 hx4 ⊢
    have hrdr : RdrR w4 wr.heap.size w2.heap.size w2.heap.size (vall v d i) (vall v d i) 0 :=
      ⟨v2, 0, hz4, hb2.ext hx4, Nat.zero_le _, rfl, fun _ k hk => ⟨(hk2 k hk).1, (hk2 k hk).2, by have := (hk2 k hk).2; omega⟩⟩
    refine RGet_spec hrdr ?_
    intro w5 hk5 _
    have hx5 : Ext wr w5 := Ext.seq (hx2.trans hx4) hk5 (fun j hj => by have := hx2.size; omega)
    have eg : getR (vall v d i) 0 4 = (num ((vall v d i).take 4), (vall v d i).drop 4, 0) := by
      unfold getR
      rw [if_neg (by simp), if_neg (by omega), if_neg (by rw [hlall]; show ¬ _ < 4; omega)]
      rfl
    rw [eg]
    obtain ⟨n, hn⟩ : ∃ n, n = num ((vall v d i).take 4) := ⟨_, rfl⟩
    have hn4 := num4_lt (vall v d i)
    rw [← hn] at hn4 ⊢
    refine X_loadAgg Try.underlying138 agg_138 info_138 (hx5.get hq) (by rw [sz_138]; rfl) ?_
    refine RVRoom_spec ok ?_
    intro w6 hx6
    have hrle : v.room ≤ 16384 * 128 := by unfold Vt.room; omega
    rw [X_conv_3_22, wrap_u64, Int.emod_eq_of_lt (by omega) (by omega), X_gtr, condS_bool]
    have eget : vget v d (i : Int) = if v.room < n then ([], 110) else (((vall v d i).drop 4).take n, 0) := by
      unfold vget
      rw [if_neg hgood, if_neg (by rw [hdead]; decide), Int.toNat_natCast, ← hn]
    by_cases hroom : v.room < n
    · rw [if_pos (by simp; omega)]
      rw [if_pos hroom] at eget
      have := hK w6 (hx.trans (hx5.trans hx6))
      rw [eget] at this
      exact this
    rw [if_neg (by simp; omega)]
    rw [if_neg hroom] at eget
    have hroomv : 4 + n ≤ v.each * 128 := by unfold Vt.room at hroom; omega
    rw [X_add, wrap_u64, Int.emod_eq_of_lt (by omega) (by omega)]
    have e4n : (4 : Int) + (n : Int) = ((4 + n : Nat) : Int) := by omega
    rw [e4n]
    refine X_of (run_cutstr Try.underlying9 (vall v d i) .i64 .u64 4 (4 + n) (by omega) (by omega) _) ?_
    have := hK w6 (hx.trans (hx5.trans hx6))
    rw [eget] at this
    rw [List.drop_take, show 4 + n - 4 = n by omega]
    exact this
end
end Go.Proofs.Ytggggfcgnkllgaa
