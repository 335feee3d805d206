/- cellarage/vault, function by function. -/
import Derived.Test.YtggggfcgnkllgaaVaultNum
import Derived.Test.YtggggfcgnkllgaaDisk5
import Derived.Test.YtggggfcgnkllgaaT10
set_option linter.unusedSimpArgs false
set_option linter.unusedVariables false
namespace Go.Proofs.Ytggggfcgnkllgaa
open Go Go.Sh Go.RowKit
attribute [local irreducible] X XU XP XR CALL loopS resC closS

/-- Blocks of another type are not the disk's. -/
theorem DiskAt.notin {w : World} {b : Nat} {d : Dk} (h : DiskAt w b d) {q : Nat} {cs : Array Value} {T : TypeId} {fr : Nat × Nat} (hq : w.heap[q]? = some (.cells cs T fr)) (h1 : T ≠ 183) (h2 : T ≠ 184) (h3 : T ≠ 186) : ¬ Go.Sh.foot w b q := fun hf => by
  obtain ⟨_, nv, sv, wv, h⟩ := h
  rcases h.foot.1 hf with h' | h' | h' | h'
  · subst h'
    rw [h.blk] at hq
    injection hq with hq
    injection hq with _ hq
    exact h1 hq.symm
  · exact own_neT h.now hq h2 h'
  · exact own_neT h.safe hq h2 h'
  · exact own_neT h.ws hq h3 h'
theorem own_blkT {w : World} {base e size n : Nat} {v : Value} {xs : List Value} (ho : w.ownsRow base e size v n xs) {k : Nat} (hk : v.ownBlock = some k) : ∃ cs, w.heap[k]? = some (.cells cs e (0, 0)) := by
  rcases ho.2 with ⟨rfl, _⟩ | ⟨g, cap, cur, rfl, _, hh, _⟩
  · cases hk
  · have : g = k := by injection hk
    subst this
    exact ⟨cur, hh⟩
theorem DiskAt.outs {w : World} {b base size n : Nat} {d : Dk} {v : Value} {xs : List Value} (h : DiskAt w b d) (ho : w.ownsRow base 5 size v n xs) : Outs w b v := fun k hk => by
  obtain ⟨cs, hc⟩ := own_blkT ho hk
  exact ⟨h.notin hc (by decide) (by decide) (by decide), lt_of_blk hc⟩
def VaultAt (w : World) (bv b : Nat) (v : Vt) : Prop := w.heap[bv]? = some (.cells #[ptr b, .int .i64 (v.fm : Int), .int .i64 (v.each : Int), .int .i64 (v.n : Int)] 196 (0, 0))
theorem run_build_196 (p : Option Addr) (x y z : Int) (w : World) : (Instr.build 196 #[(0, .pointer p), (1, .int .i64 x), (2, .int .i64 y), (3, .int .i64 z)]).run Try.prog w = .ok (.agg #[.pointer p, .int .i64 x, .int .i64 y, .int .i64 z]) w := by kernel_rfl
theorem tdiv_ediv {a b : Int} (ha : 0 ≤ a) : a.tdiv b = a / b := Int.tdiv_eq_ediv_of_nonneg ha
section
variable {w : World} {b bv : Nat} {d : Dk} {v : Vt} {K : Value → World → Prop}
theorem VNew_spec {fm each n : Int} (hd : DiskAt w b d) (hb1 : -9223372036854775808 ≤ fm ∧ fm ≤ 9223372036854775807)
    (h0 : vnew d.safe.length fm each n = none → K (.tuple #[.pointer none, i64v 1]) w)
    (h1 : ∀ v, vnew d.safe.length fm each n = some v → ∀ bv w1, Ext w w1 → w.heap.size ≤ bv → VaultAt w1 bv b v → K (.tuple #[ptr bv, i64v 0]) w1) : CALL Try.prog 99 #[ptr b, i64v fm, i64v each, i64v n] w K := by
  have hsz : d.safe.length ≤ 16384 := hd.1.2.2.1
  apply call_vault_New
  unfold B_vault_New
  simp only [X_eql_nil_74, Option.isNone_some, GS, X_lss]
  have bad : (fm < 0 ∨ each < 1 ∨ 16384 < each ∨ n < 0 ∨ (d.safe.length : Int) < fm ∨ ((d.safe.length : Int) - fm) / each < n) → K (.tuple #[.pointer none, i64v 1]) w := fun h => h0 (by unfold vnew; rw [if_pos h])
  by_cases c1 : fm < 0
  · have e1 : decide (fm < 0) = true := by simpa using c1
    simp only [e1, GS]
    exact bad (.inl c1)
  have e1 : decide (fm < 0) = false := by simpa using c1
  simp only [e1, GS, X_lss]
  by_cases c2 : each < 1
  · have e2 : decide (each < 1) = true := by simpa using c2
    simp only [e2, GS]
    exact bad (.inr (.inl c2))
  have e2 : decide (each < 1) = false := by simpa using c2
  simp only [e2, GS, X_gtr]
  by_cases c3 : 16384 < each
  · have e3 : decide (each > 16384) = true := by simpa using c3
    simp only [e3, GS]
    exact bad (.inr (.inr (.inl c3)))
  have e3 : decide (each > 16384) = false := by simpa using c3
  simp only [e3, GS, X_lss]
  by_cases c4 : n < 0
  · have e4 : decide (n < 0) = true := by simpa using c4
    simp only [e4, GS]
    exact bad (.inr (.inr (.inr (.inl c4))))
  have e4 : decide (n < 0) = false := by simpa using c4
  simp only [e4, GS]
  refine Size_spec hd ?_
  simp only [X_gtr]
  by_cases c5 : (d.safe.length : Int) < fm
  · have e5 : decide (fm > (d.safe.length : Int)) = true := by simpa using c5
    simp only [e5, GS]
    exact bad (.inr (.inr (.inr (.inr (.inl c5)))))
  have e5 : decide (fm > (d.safe.length : Int)) = false := by simpa using c5
  simp only [e5, GS]
  refine Size_spec hd ?_
  rw [X_sub, w64 (by omega) (by omega)]
  have hq0 : 0 ≤ ((d.safe.length : Int) - fm) / each := Int.ediv_nonneg (by omega) (by omega)
  have hq1 : ((d.safe.length : Int) - fm) / each ≤ (d.safe.length : Int) - fm := Int.ediv_le_self _ (by omega)
  refine X_of (run_quo 3 .i64 _ _ (by omega) _) ?_
  rw [tdiv_ediv (by omega), w64 (by omega) (by omega), X_gtr, condS_bool]
  by_cases c6 : ((d.safe.length : Int) - fm) / each < n
  · rw [if_pos (by simpa using c6)]
    exact bad (.inr (.inr (.inr (.inr (.inr c6)))))
  rw [if_neg (by simpa using c6)]
  refine X_of (run_build_196 _ _ _ _ _) ?_
  refine X_box ?_
  have hv : vnew d.safe.length fm each n = some ⟨fm.toNat, each.toNat, n.toNat⟩ := by unfold vnew; rw [if_neg (by omega)]
  refine h1 _ hv _ _ (newB_ext _ _ _) (Nat.le_refl _) ?_
  have hg := newB_get w (Value.agg #[ptr b, .int .i64 fm, .int .i64 each, .int .i64 n]).cells 196
  unfold VaultAt
  show (newB w (Value.agg #[ptr b, .int .i64 fm, .int .i64 each, .int .i64 n]).cells 196).heap[w.heap.size]? = some (.cells #[ptr b, .int .i64 ((fm.toNat : Nat) : Int), .int .i64 ((each.toNat : Nat) : Int), .int .i64 ((n.toNat : Nat) : Int)] 196 (0, 0))
  rw [Int.toNat_of_nonneg (by omega), Int.toNat_of_nonneg (by omega), Int.toNat_of_nonneg (by omega)]
  exact hg
theorem VNew_nil {x1 x2 x3 : Value} (h0 : K (.tuple #[.pointer none, i64v 2]) w) : CALL Try.prog 99 #[.pointer none, x1, x2, x3] w K := by
  apply call_vault_New
  unfold B_vault_New
  simp only [X_eql_nil_74, Option.isNone_none, GS]
  exact h0
theorem VRoom_spec {size : Nat} (hv : VaultAt w bv b v) (ok : v.ok size) (hK : K (i64v (v.room : Int)) w) : CALL Try.prog 101 #[ptr bv] w K := by
  obtain ⟨h1, h2, h3, h4⟩ := ok
  apply call_vault_Vault_Room
  unfold B_vault_Vault_Room
  simp only [X_eql_nil_124, Option.isNone_some, GS, X_nilS, X_field_196_2]
  refine X_loadL agg_3 hv (v := .int .i64 (v.each : Int)) rfl ?_
  rw [X_mul, w64 (by omega) (by omega), X_sub, w64 (by omega) (by omega)]
  have e : (v.each : Int) * 128 - 4 = (v.room : Int) := by unfold Vt.room; omega
  rw [e]; exact hK
theorem VRoom_nil (hK : K (i64v 0) w) : CALL Try.prog 101 #[.pointer none] w K := by
  apply call_vault_Vault_Room
  unfold B_vault_Vault_Room
  simp only [X_eql_nil_124, Option.isNone_none, GS]
  exact hK
theorem VLen_spec (hv : VaultAt w bv b v) (hK : K (i64v (v.n : Int)) w) : CALL Try.prog 103 #[ptr bv] w K := by
  apply call_vault_Vault_Len
  unfold B_vault_Vault_Len
  simp only [X_eql_nil_124, Option.isNone_some, GS, X_nilS, X_field_196_3]
  exact X_loadL agg_3 hv (v := .int .i64 (v.n : Int)) rfl hK
theorem VLen_nil (hK : K (i64v 0) w) : CALL Try.prog 103 #[.pointer none] w K := by
  apply call_vault_Vault_Len
  unfold B_vault_Vault_Len
  simp only [X_eql_nil_124, Option.isNone_none, GS]
  exact hK
theorem shelf_nil {x : Value} (hK : K (.tuple #[i64v 0, i64v 2]) w) : CALL Try.prog 141 #[.pointer none, x] w K := by
  apply call_vault_Vault_shelf
  unfold B_vault_Vault_shelf
  simp only [X_eql_nil_124, Option.isNone_none, GS]
  exact hK
theorem shelf_spec {size : Nat} {at_ : Int} (hv : VaultAt w bv b v) (ok : v.ok size) (h0 : (at_ < 0 ∨ (v.n : Int) ≤ at_) → K (.tuple #[i64v 0, i64v 1]) w)
    (h1 : ∀ i : Nat, at_ = i → i < v.n → ∀ w1, Ext w w1 → K (.tuple #[i64v ((v.fm + i * v.each : Nat) : Int), i64v 0]) w1) : CALL Try.prog 141 #[ptr bv, i64v at_] w K := by
  apply call_vault_Vault_shelf
  unfold B_vault_Vault_shelf
  simp only [X_eql_nil_124, Option.isNone_some, GS, X_lss]
  by_cases c1 : at_ < 0
  · have e1 : decide (at_ < 0) = true := by simpa using c1
    simp only [e1, GS]
    exact h0 (.inl c1)
  have e1 : decide (at_ < 0) = false := by simpa using c1
  simp only [e1, GS, X_nilS, X_field_196_3]
  refine X_loadL agg_3 hv (v := .int .i64 (v.n : Int)) rfl ?_
  simp only [X_geq, GS]
  rw [condS_bool]
  by_cases c2 : (v.n : Int) ≤ at_
  · rw [if_pos (by simpa using c2)]
    exact h0 (.inr c2)
  rw [if_neg (by simpa using c2)]
  obtain ⟨i, rfl⟩ : ∃ i : Nat, at_ = (i : Int) := ⟨at_.toNat, by omega⟩
  have hi : i < v.n := by omega
  have hle := Vt.at_le ok hi
  have h4 := ok.2.2.2
  refine ⟨Ext, Ext.frame, ?_⟩
  have hvd : (drewW w).heap[bv]? = some (.cells #[ptr b, .int .i64 (v.fm : Int), .int .i64 (v.each : Int), .int .i64 (v.n : Int)] 196 (0, 0)) := hv
  try simp only [XP_nilS, XP_field_196_1, XP_field_196_2]
  refine XR_loadL agg_3 hvd (v := .int .i64 (v.fm : Int)) rfl ?_
  try simp only [XP_nilS, XP_field_196_2]
  refine XR_loadL agg_3 hvd (v := .int .i64 (v.each : Int)) rfl ?_
  have em : ((i : Nat) : Int) * (v.each : Int) = ((i * v.each : Nat) : Int) := (Int.natCast_mul _ _).symm
  rw [XP_mul, em, w64 (by omega) (by omega), XP_add, w64 (by omega) (by omega)]
  exact h1 i rfl hi _ (Keep.drew _ _)
/-- Bytes are written, sector by sector. -/
theorem VPut_spec {at_ : Int} {x : Value} {bs : List UInt8} (hv : VaultAt w bv b v) (hd : DiskAt w b d) (ok : v.ok d.safe.length) (hws : d.ws.length + bs.length + 4 ≤ 900000) (hb : Bts w x bs)
    (hK : ∀ w1, DiskAt w1 b (vput v d at_ bs).1 → Step b w w1 → K (i64v (vput v d at_ bs).2) w1) : CALL Try.prog 100 #[ptr bv, i64v at_, x] w K := by
  have hb_lt := hd.lt b (foot_self _ _)
  obtain ⟨ax, cx, ex⟩ := Bts.slice hb
  have e0 : decide ((0 : Int) ≠ 0) = false := by decide
  have e1 : decide ((1 : Int) ≠ 0) = true := by decide
  apply call_vault_Vault_Put
  unfold B_vault_Vault_Put
  refine shelf_spec hv ok ?_ ?_
  · intro hbad
    simp only [X_extract0, X_extract1, X_neq, e1, GS]
    have e : vput v d at_ bs = (d, 1) := by unfold vput; rw [if_pos hbad]
    have := hK w (by rw [e]; exact hd) Step.refl
    rw [e] at this
    exact this
  rintro i rfl hi w1 hx1
  have hd1 := hd.ext hx1
  have hv1 : VaultAt w1 bv b v := hx1.get hv
  have s1 : Step b w w1 := Step.ext hx1 hb_lt
  have hgood : ¬ ((i : Int) < 0 ∨ (v.n : Int) ≤ (i : Int)) := by omega
  have hle := Vt.at_le ok hi
  have hsz := ok.2.2.2
  rw [ex]
  simp only [X_extract0, X_extract1, X_neq, e0, GS, X_len_27]
  refine VRoom_spec hv1 ok ?_
  rw [X_gtr, condS_bool]
  by_cases hroom : v.room < bs.length
  · rw [if_pos (by simp; omega)]
    have e : vput v d (i : Int) bs = (d, 4) := by unfold vput; rw [if_neg hgood, if_pos hroom]
    have := hK w1 (by rw [e]; exact hd1) s1
    rw [e] at this
    exact this
  rw [if_neg (by simp; omega)]
  have eput : vput v d (i : Int) bs = layAll d (v.fm + i * v.each) (be 4 bs.length ++ bs) := by unfold vput; rw [if_neg hgood, if_neg hroom]; rfl
  rw [eput] at hK
  rw [X_conv_3_22, wrap_u64, Int.emod_eq_of_lt (by omega) (by omega)]
  refine Put_spec (Bts.nil w1) (by simp) (by omega) ?_
  intro v2 w2 hx2 ho2
  have e4 : putB bs.length 4 = be 4 bs.length := rfl
  rw [List.nil_append, e4] at ho2
  rw [← ex]
  have hl4 : (be 4 bs.length).length = 4 := be_length _ _
  refine X_append_bts (base := w1.heap.size) Try.underlying27 el_5 ho2 ((hb.ext hx1).ext hx2) (by omega) hx2.size ?_
  intro v3 w3 ho3 hk3
  have hx3 : Ext w1 w3 := Ext.seq hx2 hk3 (fun j hj => (ho2.lt j hj.symm).1)
  have hd3 := hd1.ext hx3
  have hv3 : VaultAt w3 bv b v := hx3.get hv1
  have s3 := s1.trans (Step.ext hx3 (hd1.lt b (foot_self _ _)))
  have out3 : Outs w3 b v3 := hd3.outs ho3
  have hb3 := (own_bts ho3).1
  refine loopE (fun ρ wr => ∃ (d' : Dk) (to_ : Nat) (rest : List UInt8) (vr : Value), DiskAt wr b d' ∧ Step b w wr ∧ VaultAt wr bv b v ∧ Bts wr vr rest ∧ vr.ownBlock = v3.ownBlock ∧ Outs wr b v3 ∧ d'.ws.length + rest.length ≤ 900000 ∧ to_ + rest.length ≤ 20000000 ∧
      layAll d (v.fm + i * v.each) (be 4 bs.length ++ bs) = layAll d' to_ rest ∧ ρ 9 = vr ∧ ρ 7 = .int .i64 (to_ : Int) ∧ ρ 0 = ptr bv)
    (fun ρ wr => match ρ 9 with | .slice _ n _ => n | _ => 0)
    (fun ρ wr => ∃ d', DiskAt wr b d' ∧ Step b w wr ∧ layAll d (v.fm + i * v.each) (be 4 bs.length ++ bs) = (d', 0)) ?_ ?_ ?_
  · have hroom' : bs.length ≤ 16384 * 128 := by have := ok.2.1; unfold Vt.room at hroom; omega
    exact ⟨d, _, _, v3, hd3, s3, hv3, hb3, rfl, out3, by simp [hl4]; omega, by simp [hl4]; omega, rfl, rfl, rfl, rfl⟩
  · rintro J hJ ρ wr ⟨d', to_, rest, vr, hd', hs', hv', hbr, hvr, outr, hws', hto, heq, r9, r7, r0⟩
    obtain ⟨ar, cr, er⟩ := Bts.slice hbr
    rw [r9, er, X_len_27, X_gtr, condS_bool, ← er]
    by_cases hr0 : rest = []
    · rw [if_neg (by rw [hr0]; simp)]
      refine hJ _ _ ⟨d', hd', hs', ?_⟩
      rw [heq, hr0, layAll_nil]
    have hpos : 0 < rest.length := List.length_pos_iff.2 hr0
    rw [if_pos (by simp; omega), er, X_len_27, X_min, ← er]
    obtain ⟨n, hn⟩ : ∃ n : Nat, n = min rest.length 128 := ⟨_, rfl⟩
    have en : min (rest.length : Int) 128 = (n : Int) := by omega
    rw [en]
    have et : rest.take n = rest.take 128 := by
      rw [hn]
      rcases Nat.le_total rest.length 128 with h | h
      · rw [Nat.min_eq_left h, List.take_of_length_le (Nat.le_refl _), List.take_of_length_le h]
      · rw [Nat.min_eq_right h]
    have ed : rest.drop n = rest.drop 128 := by
      rw [hn]
      rcases Nat.le_total rest.length 128 with h | h
      · rw [Nat.min_eq_left h, List.drop_eq_nil_of_le (Nat.le_refl _), List.drop_eq_nil_of_le h]
      · rw [Nat.min_eq_right h]
    refine ⟨Ext, Ext.frame, ?_⟩
    have hvd : (drewW wr).heap[bv]? = some (.cells #[ptr b, .int .i64 (v.fm : Int), .int .i64 (v.each : Int), .int .i64 (v.n : Int)] 196 (0, 0)) := hv'
    rw [r0, r7]
    try simp only [XP_nilS, XP_field_196_0]
    refine XR_loadL agg_74 hvd (v := ptr b) rfl ?_
    have hbd := hbr.drew
    obtain ⟨u, hu, hub, hublk⟩ := cut_hi Try.underlying27 info_5 hbd (kh := .i64) n rfl (by omega)
    obtain ⟨u2, hu2, hub2, hublk2⟩ := cut_lo Try.underlying27 info_5 sz_5 hbd (kl := .i64) n rfl (by omega)
    refine XP_of hu ?_
    have hdd := hd'.ext (Keep.drew (fun _ => False) wr)
    have outd : Outs (drewW wr) b v3 := outr
    refine Write_spec hdd (by omega) hub (fun _ k hk hf => (outd k (by rw [← hvr, ← hublk]; exact hk)).1 hf) ?_
    intro w5 hd5 s5
    rw [et] at hd5 ⊢
    have s5' : Step b w w5 := hs'.trans ((Step.ext (Keep.drew _ _) (hd'.lt b (foot_self _ _))).trans s5)
    have hcons := layAll_cons d' to_ hr0
    rw [X_neq, condS_bool]
    by_cases he : (d'.write (to_ : Int) (rest.take 128)).2 = 0
    · rw [if_neg (by simpa using he)]
      rw [if_neg (by simpa using he)] at hcons
      refine X_of (hu2 _) ?_
      rw [X_add, w64 (by omega) (by omega)]
      have hv5 : VaultAt w5 bv b v := s5.keep.get (hdd.notin hvd (by decide) (by decide) (by decide)) hvd
      have hws5 := Dk.write_ws d' (to_ : Int) (rest.take 128)
      have out5 := outd.step s5
      have hb5 : Bts w5 u2 (rest.drop 128) := by
        rw [← ed]
        exact hub2.keep s5.keep (fun k hk => (outd k (by rw [← hvr, ← hublk2]; exact hk)).1)
      obtain ⟨a5, c5, e5⟩ := Bts.slice hb5
      show _ ∧ _
      refine ⟨⟨_, to_ + 1, rest.drop 128, u2, hd5, s5', hv5, hb5, hublk2.trans hvr, out5, by rw [List.length_drop]; omega, by rw [List.length_drop]; omega, heq.trans hcons, rfl, rfl, r0⟩, ?_⟩
      show (match u2 with | .slice _ n _ => n | _ => 0) < _
      rw [e5, er]
      show (rest.drop 128).length < rest.length
      rw [List.length_drop]
      omega
    · rw [if_pos (by simpa using he)]
      rw [if_pos (by simpa using he)] at hcons
      show K (i64v (d'.write (to_ : Int) (rest.take 128)).2) w5
      have := hK w5 (by rw [heq, hcons]; exact hd5) s5'
      rw [heq, hcons] at this
      exact this
  · rintro ρ wr ⟨d', hd', hs', heq⟩
    have := hK wr (by rw [heq]; exact hd') hs'
    rw [heq] at this
    exact this
theorem VPut_nil {x y : Value} (hK : K (i64v 2) w) : CALL Try.prog 100 #[.pointer none, x, y] w K := by
  have e2 : decide ((2 : Int) ≠ 0) = true := by decide
  apply call_vault_Vault_Put
  unfold B_vault_Vault_Put
  refine shelf_nil ?_
  simp only [X_extract0, X_extract1, X_neq, e2, GS]
  exact hK
theorem VGet_nil {x : Value} (hK : K (.tuple #[.slice none 0 0, i64v 2]) w) : CALL Try.prog 102 #[.pointer none, x] w K := by
  have e2 : decide ((2 : Int) ≠ 0) = true := by decide
  apply call_vault_Vault_Get
  unfold B_vault_Vault_Get
  refine shelf_nil ?_
  simp only [X_extract0, X_extract1, X_neq, e2, GS]
  exact hK
end
end Go.Proofs.Ytggggfcgnkllgaa
