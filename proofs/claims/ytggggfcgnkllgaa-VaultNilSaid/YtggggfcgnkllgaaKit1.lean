/- Words that many laws share: joins, loops with their end told, bytes of the call's own that are written. -/
import Derived.Test.YtggggfcgnkllgaaCodec3
set_option linter.unusedSimpArgs false
set_option linter.unusedVariables false
namespace Go.Sh
open Go Go.RowKit
theorem joinS_of {C : Env → World → Prop} {F : (Env → World → Prop) → Prop} (I : Env → World → Prop) (h1 : ∀ ρ w, I ρ w → C ρ w) (h2 : ∀ J : Env → World → Prop, (∀ ρ w, I ρ w → J ρ w) → F J) : joinS C F := h2 C h1
/-- A loop with its end told: E holds where it is left. -/
theorem loopE {B : (Exit → Env → World → Prop) → Env → World → Prop} {C : Env → World → Prop} {Q : Exit → Env → World → Prop} {ρ : Env} {w : World} {id : Nat} (I : Env → World → Prop) (μ : Env → World → Nat) (E : Env → World → Prop) (h0 : I ρ w)
    (h : ∀ J : Env → World → Prop, (∀ ρ w, E ρ w → J ρ w) → ∀ ρ w, I ρ w → B (thenS (fun ρ' w' => I ρ' w' ∧ μ ρ' w' < μ ρ w) (inBlockS id (thenS J Q))) ρ w) (hE : ∀ ρ w, E ρ w → C ρ w) : loopS B (inBlockS id (thenS C Q)) ρ w :=
  ⟨I, μ, h0, h C hE⟩
/-- The same, whatever stands around; left by one exit alone. -/
theorem loopG {B : (Exit → Env → World → Prop) → Env → World → Prop} {Q : Exit → Env → World → Prop} {ρ : Env} {w : World} (id : Nat) (I : Env → World → Prop) (μ : Env → World → Nat) (E : Env → World → Prop) (h0 : I ρ w)
    (h : ∀ J : Exit → Env → World → Prop, (∀ ρ w, E ρ w → J (.exit id) ρ w) → ∀ ρ w, I ρ w → B (thenS (fun ρ' w' => I ρ' w' ∧ μ ρ' w' < μ ρ w) J) ρ w) (hE : ∀ ρ w, E ρ w → Q (.exit id) ρ w) : loopS B Q ρ w :=
  ⟨I, μ, h0, h Q hE⟩
theorem gs_t (S : World → (Value → World → Prop) → Prop) (w : World) (K : Value → World → Prop) : gstep (.bool true) true S w K = S w K := rfl
theorem gs_f (S : World → (Value → World → Prop) → Prop) (w : World) (K : Value → World → Prop) : gstep (.bool false) false S w K = S w K := rfl
theorem gs_tf (S : World → (Value → World → Prop) → Prop) (w : World) (K : Value → World → Prop) : gstep (.bool true) false S w K = K undef w := rfl
theorem gs_ft (S : World → (Value → World → Prop) → Prop) (w : World) (K : Value → World → Prop) : gstep (.bool false) true S w K = K undef w := rfl
theorem cs_t (A B : Prop) : condS (.bool true) A B = A := rfl
theorem cs_f (A B : Prop) : condS (.bool false) A B = B := rfl
theorem pk_t {P : Program} (a b : Value) (w : World) (K : Value → World → Prop) : X P (pickS (.bool true) a b) w K = K a w := X_ok (run_pick true a b w)
theorem pk_f {P : Program} (a b : Value) (w : World) (K : Value → World → Prop) : X P (pickS (.bool false) a b) w K = K b w := X_ok (run_pick false a b w)
theorem pp_t {P : Program} (a b : Value) (w : World) (K : Value → World → Prop) : XP P (pickS (.bool true) a b) w K = K a w := XP_ok (fun w' => run_pick true a b w')
theorem pp_f {P : Program} (a b : Value) (w : World) (K : Value → World → Prop) : XP P (pickS (.bool false) a b) w K = K b w := XP_ok (fun w' => run_pick false a b w')
set_option linter.defProp false in
/-- Steps whose condition is known. -/
def GS := And.intro @gs_t (And.intro @gs_f (And.intro @gs_tf (And.intro @gs_ft (And.intro @cs_t (And.intro @cs_f (And.intro @pk_t (And.intro @pk_f (And.intro @pp_t @pp_f))))))))
theorem B8_set (l : List UInt8) (i : Nat) (u : UInt8) : (B8 l).set i (.int .u8 (u.toNat : Int)) = B8 (l.set i u) := by
  unfold B8
  rw [List.map_set]
/-- One byte of the call's own is written. -/
theorem own_put {w : World} {base n e : Nat} {v : Value} {l : List UInt8} (ho : w.ownsRow base e 1 v n (B8 l)) {j : Nat} (hj : j < l.length) (u : UInt8) :
    ∃ g cap cur, v = .slice (some ⟨g, 0, none⟩) n cap ∧ base ≤ g ∧ w.heap[g]? = some (.cells cur e (0, 0)) ∧ j < cur.size ∧ cur[j]? = some (.int .u8 ((l[j].toNat : Nat) : Int)) ∧ j < n ∧
      (setAt w g (cur.setIfInBounds j (.int .u8 ((u.toNat : Nat) : Int))) e (0, 0)).ownsRow base e 1 v n (B8 (l.set j u)) := by
  have hl : l.length = n := by have := ho.1; simpa using this
  rcases id ho.2 with ⟨_, h0⟩ | ⟨g, cap, cur, hv, hg, hh, hn, hm, hs, ht⟩
  · omega
  · have hjc : j < cur.size := by omega
    refine ⟨g, cap, cur, hv, hg, hh, hjc, ?_, by omega, ?_⟩
    · have := congrArg (fun x => x[j]?) ht
      simp only [List.getElem?_take, show j < n * 1 by omega, if_true, B8_getElem?, List.getElem?_eq_getElem hj, Option.map_some] at this
      simpa using this
    · refine ⟨by simp [hl], .inr ⟨g, cap, _, hv, hg, setAt_same (lt_of_blk hh), hn, hm, by simpa using hs, ?_⟩⟩
      rw [← B8_set, ← ht]
      simp [List.take_set]
end Go.Sh
namespace Go.Proofs.Ytggggfcgnkllgaa
open Go Go.Sh Go.RowKit
theorem xp_add {P : Program} (T : TypeId) (x y z : Nat) (e : x + y = z) (hz : z ≤ 9223372036854775807) (w : World) : (binOp .add T (.int .i64 (x : Int)) (.int .i64 (y : Int))).run P w = .ok (.int .i64 (z : Int)) w := by
  rw [run_add, w64 (by omega) (by omega)]
  congr 2
  omega
end Go.Proofs.Ytggggfcgnkllgaa
