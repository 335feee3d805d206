/- cellarage/vault: what a shelf has. -/
import Derived.Test.YtggggfcgnkllgaaVault1
import Derived.Test.YtggggfcgnkllgaaOrder
set_option linter.unusedSimpArgs false
set_option linter.unusedVariables false
namespace Go.Proofs.Ytggggfcgnkllgaa
open Go Go.Sh Go.RowKit
attribute [local irreducible] X XU XP XR CALL loopS resC closS
/-- 'x[lo:hi:mx]' of a slice. -/
theorem run_slice3 {P : Program} {T e : TypeId} (hT : P.underlying T = some (.slice e)) (hi : infoB P e = true) (a : Option Addr) (n c : Nat) (kl kh km : IntKind) (lo hi' mx : Nat) (h1 : lo ≤ hi') (h2 : hi' ≤ mx) (h3 : mx ≤ c) (w : World) :
    (Instr.sliceAt T (.slice a n c) (some (.int kl lo)) (some (.int kh hi')) (some (.int km mx))).run P w = .ok (.slice (if mx = lo then a else a.map (·.add (lo * szT P e))) (hi' - lo) (mx - lo)) w := by
  simp [Instr.sliceAt, Instr.slice, run_underlying hT, Instr.sliceBounds, Instr.sliceBound, asIntOf, sizeOf_run hi, h1, h2, h3]
theorem cut_three {P : Program} {T e : TypeId} (hT : P.underlying T = some (.slice e)) (hi : infoB P e = true) (hs : szT P e = 1) {v : Value} {bs : List UInt8} {w0 : World} (hb : Bts w0 v bs) {kl kh km : IntKind} {li hj mj : Int} (lo h' : Nat) (e1 : li = lo) (e2 : hj = h') (e3 : mj = h') (h1 : lo ≤ h') (h2 : h' ≤ bs.length) :
    ∃ u, (∀ w, (Instr.sliceAt T v (some (.int kl li)) (some (.int kh hj)) (some (.int km mj))).run P w = .ok u w) ∧ Bts w0 u ((bs.take h').drop lo) ∧ u.ownBlock = v.ownBlock := by
  subst e1; subst e2; subst e3
  obtain ⟨a, c, rfl, h3, h4, h5⟩ := hb
  refine ⟨_, fun w => run_slice3 hT hi a bs.length c kl kh km lo h' h' h1 (Nat.le_refl _) (by omega) w, ?_, ?_⟩
  · rw [hs, Nat.mul_one]
    have hl : ((bs.take h').drop lo).length = h' - lo := by simp; omega
    refine ⟨_, _, by rw [hl], by omega, by omega, fun hn => ?_⟩
    rw [hl] at hn
    obtain ⟨ad, rfl, hc⟩ := h5 (by omega)
    refine ⟨ad.add lo, by rw [if_neg (by omega)]; rfl, fun j u hj => ?_⟩
    have hj' : bs[lo + j]? = some u := by
      rw [List.getElem?_drop, List.getElem?_take] at hj
      split at hj
      · exact hj
      · cases hj
    have := hc _ _ hj'
    have e : (ad.add lo).add j = ad.add (lo + j) := by
      unfold Addr.add
      by_cases h0 : lo = 0
      · subst h0; simp
      · by_cases hj0 : j = 0
        · subst hj0; simp
        · simp [h0, hj0, Nat.add_assoc]
    rw [e]
    exact this
  · rw [hs, Nat.mul_one]
    cases a with
    | none => split <;> rfl
    | some ad => split <;> simp [Value.ownBlock, add_block']
where add_block' (ad : Addr) (j : Nat) : (ad.add j).block = ad.block := by unfold Addr.add; split <;> rfl
theorem num4_lt (l : List UInt8) : num (l.take 4) < 4294967296 := by
  have h := num_lt (l.take 4)
  have h2 : (256 : Nat) ^ (l.take 4).length ≤ 256 ^ 4 := Nat.pow_le_pow_right (by decide) (by simp; omega)
  omega
theorem flat_take_drop (l : List (List UInt8)) (h : ∀ s ∈ l, s.length = 128) (b j : Nat) (hj : b + j ≤ l.length) : ((l.drop b).take j).flatten.length = j * 128 := by
  rw [flat_len (n := 128) (fun s hs => h s (List.mem_of_mem_drop (List.mem_of_mem_take hs)))]
  simp
  omega
theorem flat_succ (l : List (List UInt8)) (b j : Nat) (hj : b + j < l.length) : ((l.drop b).take (j + 1)).flatten = ((l.drop b).take j).flatten ++ l.getD (b + j) [] := by
  rw [List.take_succ_eq_append_getElem (by simp; omega), List.flatten_append]
  simp only [List.flatten_cons, List.flatten_nil, List.append_nil, List.getElem_drop]
  rw [List.getD_eq_getElem?_getD, List.getElem?_eq_getElem hj]
  rfl
theorem take_flat (l : List (List UInt8)) (h : ∀ s ∈ l, s.length = 128) (b j e k : Nat) (hje : j ≤ e) (he : b + e ≤ l.length) (hk : k ≤ j * 128) : (((l.drop b).take e).flatten).take k = (((l.drop b).take j).flatten).take k := by
  have e1 : ((l.drop b).take e).take j = (l.drop b).take j := by rw [List.take_take, Nat.min_eq_left hje]
  have hall : ∀ s ∈ (l.drop b).take e, s.length = 128 := fun s hs => h s (List.mem_of_mem_drop (List.mem_of_mem_take hs))
  have e2 := flat_take hall j
  rw [e1] at e2
  rw [← e2, List.take_take, Nat.min_eq_left hk]
section
variable {w : World} {b bv : Nat} {d : Dk} {v : Vt} {K : Value → World → Prop}
theorem read_at {d : Dk} {i : Nat} (hi : i < d.safe.length) : d.read (i : Int) = if d.dead = true then ([], 6) else (d.now.getD i [], 0) := by
  unfold Dk.read
  rw [if_neg (by omega)]
  rfl
theorem VGet_spec {at_ : Int} (hv : VaultAt w bv b v) (hd : DiskAt w b d) (ok : v.ok d.safe.length)
    (hK : ∀ u w1, Ext w w1 → Bts w1 u (vget v d at_).1 → K (.tuple #[u, i64v (vget v d at_).2]) w1) : CALL Try.prog 102 #[ptr bv, i64v at_] w K := by
  have e0 : decide ((0 : Int) ≠ 0) = false := by decide
  have e1 : decide ((1 : Int) ≠ 0) = true := by decide
  have e6 : decide ((6 : Int) ≠ 0) = true := by decide
  apply call_vault_Vault_Get
  unfold B_vault_Vault_Get
  refine shelf_spec hv ok ?_ ?_
  · intro hbad
    simp only [X_extract0, X_extract1, X_neq, e1, GS]
    have e : vget v d at_ = ([], 1) := by unfold vget; rw [if_pos hbad]
    have := hK (.slice none 0 0) w (Keep.refl _ _) (by rw [e]; exact Bts.nil w)
    rw [e] at this
    exact this
  rintro i rfl hi w1 hx1
  have hd1 := hd.ext hx1
  have hv1 : VaultAt w1 bv b v := hx1.get hv
  have hgood : ¬ ((i : Int) < 0 ∨ (v.n : Int) ≤ (i : Int)) := by omega
  have hle := Vt.at_le ok hi
  obtain ⟨ok1, ok2, ok3, ok4⟩ := id ok
  obtain ⟨B, hB⟩ : ∃ B, B = v.fm + i * v.each := ⟨_, rfl⟩
  rw [← hB] at hle ⊢
  simp only [X_extract0, X_extract1, X_neq, e0, GS, X_nilS, X_field_196_0]
  refine X_loadL agg_74 hv1 (v := ptr b) rfl ?_
  refine Read_spec hd1 ?_
  intro v2 w2 hx2 ho2
  rw [read_at (d := d) (i := B) (by omega)] at ho2 ⊢
  by_cases hdead : d.dead = true
  · rw [if_pos hdead] at ho2 ⊢
    simp only [X_extract0, X_extract1, X_neq, e6, GS]
    have e : vget v d (i : Int) = ([], 6) := by unfold vget; rw [if_neg hgood, if_pos hdead]
    have := hK (.slice none 0 0) w2 (hx1.trans hx2) (by rw [e]; exact Bts.nil _)
    rw [e] at this
    exact this
  rw [if_neg hdead] at ho2 ⊢
  have n128 := Dk.now_128 hd.1
  have nlen := Dk.now_length d
  have hnl : (d.now.getD B []).length = 128 := by
    rw [List.getD_eq_getElem?_getD, List.getElem?_eq_getElem (by omega)]
    exact n128 _ (List.getElem_mem _)
  have eone : ((d.now.drop B).take 1).flatten = d.now.getD B [] := by
    have := flat_succ d.now B 0 (by omega)
    rw [Nat.add_zero] at this
    simpa using this
  simp only [X_extract0, X_extract1, X_neq, e0, GS]
  have hb2 := (own_bts ho2).1
  refine New_spec hb2 (by show (d.now.getD B []).length ≤ _; omega) ?_
  intro rb w3 hx3 hrb hr3
  refine Get_spec hr3 ?_
  intro w4 hk4 hr4
  have hx4 : Ext w2 w4 := Ext.seq hx3 hk4 (fun j hj => by omega)
  have eg : getR (d.now.getD B []) 0 4 = (num ((d.now.getD B []).take 4), (d.now.getD B []).drop 4, 0) := by
    unfold getR
    rw [if_neg (by simp), if_neg (by omega), if_neg (by rw [hnl]; decide)]
    rfl
  rw [eg]
  have hv4 : VaultAt w4 bv b v := hx4.get (hx2.get hv1)
  have eall : (vall v d i).take 4 = (d.now.getD B []).take 4 := by
    unfold vall
    rw [← hB, take_flat d.now n128 B 1 v.each 4 ok1 (by omega) (by decide), eone]
  obtain ⟨n, hn⟩ : ∃ n, n = num ((d.now.getD B []).take 4) := ⟨_, rfl⟩
  have hn4 := num4_lt (d.now.getD B [])
  rw [← hn] at hn4 ⊢
  refine VRoom_spec hv4 ok ?_
  have hrle : v.room ≤ 16384 * 128 := by unfold Vt.room; omega
  rw [X_conv_3_22, wrap_u64, Int.emod_eq_of_lt (by omega) (by omega), X_gtr, condS_bool]
  have eget : vget v d (i : Int) = if v.room < n then ([], 110) else (((vall v d i).drop 4).take n, 0) := by
    unfold vget
    rw [if_neg hgood, if_neg hdead]
    show (if v.room < num ((vall v d i).take 4) then _ else _) = _
    rw [Int.toNat_natCast, eall, ← hn]
  by_cases hroom : v.room < n
  · rw [if_pos (by simp; omega)]
    rw [if_pos hroom] at eget
    have := hK (.slice none 0 0) w4 (hx1.trans (hx2.trans hx4)) (by rw [eget]; exact Bts.nil _)
    rw [eget] at this
    exact this
  rw [if_neg (by simp; omega)]
  rw [if_neg hroom] at eget
  have hroomv : 4 + n ≤ v.each * 128 := by unfold Vt.room at hroom; omega
  rw [X_add, w64 (by omega) (by omega)]
  have ho4 := own_extD ho2 hx4
  have hd4 := hd1.ext (hx2.trans hx4)
  refine loopE (fun ρ wr => ∃ (j : Nat) (va : Value), 1 ≤ j ∧ j ≤ v.each ∧ Ext w1 wr ∧ wr.ownsRow w1.heap.size 5 1 va (((d.now.drop B).take j).flatten).length (B8 ((d.now.drop B).take j).flatten) ∧ ρ 8 = va ∧ ρ 9 = .int .u64 (n : Int) ∧ ρ 6 = .int .i64 ((B + j : Nat) : Int) ∧ ρ 0 = ptr bv)
    (fun ρ wr => match ρ 6 with | .int _ s => (B + v.each + 1 - s).toNat | _ => 0)
    (fun ρ wr => ∃ (j : Nat) (va : Value), j ≤ v.each ∧ 4 + n ≤ j * 128 ∧ Ext w1 wr ∧ Bts wr va ((d.now.drop B).take j).flatten ∧ ρ 8 = va ∧ ρ 9 = .int .u64 (n : Int)) ?_ ?_ ?_
  · refine ⟨1, v2, Nat.le_refl _, ok1, hx2.trans hx4, ?_, rfl, rfl, ?_, rfl⟩
    · rw [eone]; exact ho4
    · show Value.int .i64 ((B : Int) + 1) = _
      congr 1
  · rintro J hJ ρ wr ⟨j, va, hj1, hj, hxr, hor, r8, r9, r6, r0⟩
    have hlj := flat_take_drop d.now n128 B j (by omega)
    obtain ⟨aa, ca, ea⟩ := own_sl hor
    rw [r8, r9, ea, X_len_27, X_conv_22_3, w64 (by omega) (by omega), X_add, w64 (by omega) (by omega), X_lss, condS_bool, ← ea, hlj]
    by_cases hlt : j * 128 < 4 + n
    case neg =>
      rw [if_neg (by simp; omega)]
      exact hJ _ _ ⟨j, va, hj, by omega, hxr, (own_bts hor).1, r8, r9⟩
    rw [if_pos (by simp; omega)]
    have hje : j < v.each := by omega
    have hvr : VaultAt wr bv b v := hxr.get hv1
    rw [r0, r6]
    simp only [X_nilS, X_field_196_0]
    refine X_loadL agg_74 hvr (v := ptr b) rfl ?_
    have hdr := hd1.ext hxr
    refine Read_spec hdr ?_
    intro v5 w5 hx5 ho5
    rw [read_at (d := d) (i := B + j) (by omega), if_neg hdead] at ho5 ⊢
    simp only [X_extract0, X_extract1, X_neq, e0, GS]
    have hor5 := own_extD hor hx5
    have hnl5 : (d.now.getD (B + j) []).length = 128 := by
      rw [List.getD_eq_getElem?_getD, List.getElem?_eq_getElem (by omega)]
      exact n128 _ (List.getElem_mem _)
    refine X_append_bts (base := w1.heap.size) Try.underlying27 el_5 hor5 (own_bts ho5).1 (by show _ + (d.now.getD (B + j) []).length ≤ _; omega) (by have := hxr.size; have := hx5.size; omega) ?_
    intro v6 w6 ho6 hk6
    rw [X_add, w64 (by omega) (by omega)]
    have es := flat_succ d.now B j (by omega)
    rw [← es] at ho6
    show _ ∧ _
    refine ⟨⟨j + 1, v6, by omega, hje, Ext.seq (hxr.trans hx5) hk6 (fun q hq => (hor.lt q hq.symm).1), ?_, rfl, r9, ?_, r0⟩, ?_⟩
    · have el : ((d.now.drop B).take (j + 1)).flatten.length = ((d.now.drop B).take j).flatten.length + (d.now.getD (B + j) []).length := by rw [es, List.length_append]
      rw [el]
      exact ho6
    · show Value.int .i64 (((B + j : Nat) : Int) + 1) = _
      congr 1
    · show ((B : Int) + (v.each : Int) + 1 - (((B + j : Nat) : Int) + 1)).toNat < _
      first | omega | (show _ < (_ : Int).toNat; omega)
  · rintro ρ wr ⟨j, va, hj, hjn, hxr, hbr, r8, r9⟩
    have hlj := flat_take_drop d.now n128 B j (by omega)
    rw [r8, r9]
    rw [X_conv_22_3, w64 (by omega) (by omega), X_add, w64 (by omega) (by omega)]
    rw [X_conv_22_3, w64 (by omega) (by omega), X_add, w64 (by omega) (by omega)]
    obtain ⟨u, hu, hub, _⟩ := cut_three Try.underlying27 info_5 sz_5 hbr (kl := .i64) (kh := .i64) (km := .i64) (li := 4) (hj := 4 + (n : Int)) (mj := 4 + (n : Int)) 4 (4 + n) rfl (by omega) (by omega) (by omega) (by omega)
    refine X_of (hu _) ?_
    have := hK u wr (hx1.trans hxr) (by
      rw [eget]
      have e2 : ((vall v d i).drop 4).take n = ((((d.now.drop B).take j).flatten).take (4 + n)).drop 4 := by
        have e3 : (vall v d i).take (4 + n) = (((d.now.drop B).take j).flatten).take (4 + n) := by
          unfold vall
          rw [← hB]
          exact take_flat d.now n128 B j v.each (4 + n) hj (by omega) hjn
        rw [← e3, List.drop_take, show 4 + n - 4 = n by omega]
      show Bts wr u (((vall v d i).drop 4).take n)
      rw [e2]
      exact hub)
    rw [eget] at this
    exact this
end
end Go.Proofs.Ytggggfcgnkllgaa
