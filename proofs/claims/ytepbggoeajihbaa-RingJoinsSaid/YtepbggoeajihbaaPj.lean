/- Joins. -/
import Derived.Test.YtepbggoeajihbaaPq
set_option linter.unusedVariables false
set_option linter.unusedSimpArgs false
namespace Go.Proofs.Ytepbggoeajihbaa.Ring
open Go.RowKit

/-! ### Joins: as many as the capacity at once -/
/-- swapped. -/
def swp (f : Nat → Nat) (i j : Nat) : Nat → Nat := fun a => if a = i then f j else if a = j then f i else f a
theorem swp_self (f : Nat → Nat) (i : Nat) : swp f i i = f := by funext a; unfold swp; split <;> simp_all
structure JInv (c : Int) (r : RS) (T0 : Int) (vs : Nat → Int) (f : Nat → Nat) (i : Nat) : Prop where
  n3 : r.n = 2 ∨ r.n = 4 ∨ r.n = 8
  h0 : 0 ≤ T0
  hH : r.H = T0
  hT : r.T = T0 + r.n
  tc : r.T ≤ c
  lt : ∀ a, a < r.n → f a < r.n
  inj : ∀ a b, a < r.n → b < r.n → f a = f b → a = b
  sur : ∀ m, m < r.n → ∃ a, a < r.n ∧ f a = m
  done : ∀ a, a < i → a < r.n → r.num (slotOf r (T0 + f a)) = T0 + f a + 1 ∧ r.val (slotOf r (T0 + f a)) = vs (f a)
theorem j_swap {c : Int} {r : RS} {T0 : Int} {vs : Nat → Int} {f : Nat → Nat} {i j : Nat} (h : JInv c r T0 vs f i) (hij : i ≤ j) (hj : j < r.n) : JInv c r T0 vs (swp f i j) i := by
  refine ⟨h.n3, h.h0, h.hH, h.hT, h.tc, fun a ha => ?_, fun a b ha hb e => ?_, fun m hm => ?_, fun a ha hn => ?_⟩
  · unfold swp; split
    · exact h.lt j hj
    · split
      · exact h.lt i (by omega)
      · exact h.lt a ha
  · unfold swp at e
    by_cases a1 : a = i <;> by_cases b1 : b = i <;> by_cases a2 : a = j <;> by_cases b2 : b = j <;> simp only [a1, a2, b1, b2, if_true, if_false] at e <;> (try omega)
    all_goals first
      | (have := h.inj _ _ (by omega) (by omega) e; omega)
      | (simp_all; done)
      | (have := h.inj j b hj hb (by simpa using e); omega)
      | skip
    all_goals (split at e <;> first | (have := h.inj _ _ (by omega) (by omega) e; omega) | (split at e <;> (have := h.inj _ _ (by omega) (by omega) e; omega)))
  · obtain ⟨a, ha, e⟩ := h.sur m hm
    by_cases a1 : a = i
    · refine ⟨j, hj, ?_⟩
      subst a1; unfold swp; split
      · rename_i e2; rw [e2, e]
      · simp [e]
    · by_cases a2 : a = j
      · exact ⟨i, by omega, by subst a2; unfold swp; simp [e]⟩
      · exact ⟨a, ha, by unfold swp; simp [a1, a2, e]⟩
  · have : swp f i j a = f a := by unfold swp; rw [if_neg (by omega), if_neg (by omega)]
    rw [this]; exact h.done a ha hn
/-- Who joined, behind its first step. -/
def joinedA (p v : Int) : AS := ⟨false, 3, 0, p, v, false⟩
theorem join_step {r : RS} (v : Int) (h0 : 0 ≤ r.T) (h1 : r.T ≤ 100000) : stepR r (joinA v) = { r with T := r.T + 1 } ∧ stepA r (joinA v) = joinedA r.T v := by
  have hm : (r.T + 1) % 18446744073709551616 = r.T + 1 := by omega
  have hm2 : r.T % 18446744073709551616 = r.T := by omega
  constructor
  · simp [stepR, joinA, hm]
  · simp [stepA, joinA, joinedA, hm, hm2]
theorem joined_step {r : RS} (p v : Int) (h0 : 0 ≤ p) (h1 : p ≤ 100000) : stepR r (joinedA p v) = { r with num := upd r.num (slotOf r p) (p + 1), val := upd r.val (slotOf r p) v } ∧ stepA r (joinedA p v) = ⟨false, 5, 0, p, v, true⟩ := by
  have hm : (p + 1) % 18446744073709551616 = p + 1 := by omega
  constructor
  · simp [stepR, joinedA, takeR, hm]
  · simp [stepA, joinedA, takeA]
theorem j_take {c : Int} {r : RS} {T0 : Int} {vs : Nat → Int} {f : Nat → Nat} {i : Nat} (h : JInv c r T0 vs f i) (hi : i < r.n) :
    JInv c { r with num := upd r.num (slotOf r (T0 + f i)) (T0 + f i + 1), val := upd r.val (slotOf r (T0 + f i)) (vs (f i)) } T0 vs f (i + 1) := by
  refine ⟨h.n3, h.h0, h.hH, h.hT, h.tc, h.lt, h.inj, h.sur, fun a ha hn => ?_⟩
  have hn : a < r.n := hn
  show upd r.num (slotOf r (T0 + f i)) _ (slotOf r (T0 + f a)) = _ ∧ upd r.val (slotOf r (T0 + f i)) _ (slotOf r (T0 + f a)) = _
  by_cases e : a = i
  · subst e; unfold upd; simp
  · have h1 := h.lt a hn
    have h2 := h.lt i hi
    have hne : slotOf r (T0 + f a) ≠ slotOf r (T0 + f i) := by
      intro es
      have h3 : f a ≠ f i := fun e3 => e (h.inj a i hn hi e3)
      rcases Nat.lt_or_gt_of_ne h3 with h4 | h4
      · have := slot_far h.n3 es (by omega); omega
      · have := slot_far h.n3 es.symm (by omega); omega
    unfold upd; rw [if_neg hne, if_neg hne]
    exact h.done a (by omega) hn
/-- All have ended: they lie in it, in the order of their first steps. -/
theorem j_end {c : Int} {r : RS} {T0 : Int} {vs : Nat → Int} {f : Nat → Nat} (h : JInv c r T0 vs f r.n) : QInv c r ((List.range r.n).map vs) := by
  have hH := h.hH; have hT := h.hT
  refine ⟨h.n3, by rw [hH]; exact h.h0, by simp; omega, by simp, h.tc, fun j hj => ?_, fun p h1 h2 => by omega⟩
  simp at hj
  obtain ⟨a, ha, e⟩ := h.sur j hj
  have := h.done a ha ha
  rw [e] at this
  rw [hH]
  refine ⟨this.1, ?_⟩
  rw [this.2]; simp [List.getD_eq_getElem?_getD, hj]
theorem j_start {c : Int} {r : RS} {T0 : Int} (h : QInv c r []) (hT0 : T0 = r.T) (vs : Nat → Int) (R : RS) (hR : R = { r with T := T0 + r.n }) : JInv (c + 8) R T0 vs (fun a => a) 0 := by
  subst hR
  have := h.hT; have := h.h0; have := h.n3; have := h.tc
  refine ⟨h.n3, by omega, ?_, rfl, ?_, fun a ha => ha, fun a b _ _ e => e, fun m hm => ⟨m, hm, rfl⟩, fun a ha => by omega⟩
  · show r.H = T0
    have h1 := h.hT; simp at h1; omega
  · show T0 + r.n ≤ c + 8
    omega
end Go.Proofs.Ytepbggoeajihbaa.Ring
