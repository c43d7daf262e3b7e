/- A ring at rest is a queue. -/
import Derived.Test.YtepbggoeajihbaaPl
set_option linter.unusedVariables false
set_option linter.unusedSimpArgs false
namespace Go.Proofs.Ytepbggoeajihbaa.Ring
open Go.RowKit

/-! ### A ring at rest is a queue -/
theorem askD_small {r : RS} {a : AS} (h0 : 0 ≤ a.at_) (h1 : a.at_ ≤ 100000) (h2 : 0 ≤ r.num (slotOf r a.at_)) (h3 : r.num (slotOf r a.at_) ≤ 200000) :
    askD r a = r.num (slotOf r a.at_) - a.at_ - b01 a.pops := by
  unfold askD want b01
  cases a.pops
  · simp only [Bool.false_eq_true, if_false]
    rw [wrap_small _ (by omega) (by omega)]; omega
  · simp only [if_true]
    rw [show (a.at_ + 1) % 18446744073709551616 = a.at_ + 1 from by omega, wrap_small _ (by omega) (by omega)]; omega
theorem solo_push {r : RS} (v : Int) (h0 : 0 ≤ r.T) (h1 : r.T ≤ 100000) (hd : r.num (slotOf r r.T) = r.T) :
    Solo r (pushA v) { r with T := r.T + 1, num := upd r.num (slotOf r r.T) (r.T + 1), val := upd r.val (slotOf r r.T) v } ⟨false, 5, r.T, r.T, v, true⟩ := by
  have e1 : stepR r (pushA v) = r ∧ stepA r (pushA v) = ⟨false, 1, r.T, 0, v, false⟩ := ⟨rfl, rfl⟩
  have e2 : stepR r ⟨false, 1, r.T, 0, v, false⟩ = r ∧ stepA r ⟨false, 1, r.T, 0, v, false⟩ = ⟨false, 2, r.T, 0, v, false⟩ := by
    have := askD_small (r := r) (a := ⟨false, 1, r.T, 0, v, false⟩) h0 h1 (by simp only; omega) (by simp only; omega)
    simp only [b01, hd] at this
    refine ⟨rfl, ?_⟩
    show askS r _ = _
    unfold askS; rw [this]; simp
  have e3 : stepR r ⟨false, 2, r.T, 0, v, false⟩ = { r with T := r.T + 1 } ∧ stepA r ⟨false, 2, r.T, 0, v, false⟩ = ⟨false, 3, r.T, r.T, v, false⟩ := by
    have hm : (r.T + 1) % 18446744073709551616 = r.T + 1 := by omega
    constructor
    · show claimR r _ = _; simp [claimR, endOf, setEnd, hm]
    · show claimA r _ = _; simp [claimA, endOf]
  have e4 : stepR { r with T := r.T + 1 } ⟨false, 3, r.T, r.T, v, false⟩ = { r with T := r.T + 1, num := upd r.num (slotOf r r.T) (r.T + 1), val := upd r.val (slotOf r r.T) v } ∧ stepA { r with T := r.T + 1 } ⟨false, 3, r.T, r.T, v, false⟩ = ⟨false, 5, r.T, r.T, v, true⟩ := by
    have hm : (r.T + 1) % 18446744073709551616 = r.T + 1 := by omega
    constructor
    · simp [stepR, takeR, hm, slotOf]
    · simp [stepA, takeA]
  refine .more (by rw [e1.2]; simp) (by rw [e1.2]; simp [pushA]) ?_
  rw [e1.1, e1.2]
  refine .more (by rw [e2.2]; simp) (by rw [e2.2]; simp) ?_
  rw [e2.1, e2.2]
  refine .more (by rw [e3.2]; simp) (by rw [e3.2]; simp) ?_
  rw [e3.1, e3.2, ← e4.1, ← e4.2]
  exact .last (by rw [e4.2])
theorem solo_push_full {r : RS} (v : Int) (h0 : 0 ≤ r.T) (h1 : r.T ≤ 100000) (hp : 0 ≤ r.num (slotOf r r.T)) (hd : r.num (slotOf r r.T) < r.T) : Solo r (pushA v) r ⟨false, 5, r.T, 0, v, false⟩ := by
  have e1 : stepR r (pushA v) = r ∧ stepA r (pushA v) = ⟨false, 1, r.T, 0, v, false⟩ := ⟨rfl, rfl⟩
  have e2 : stepR r ⟨false, 1, r.T, 0, v, false⟩ = r ∧ stepA r ⟨false, 1, r.T, 0, v, false⟩ = ⟨false, 5, r.T, 0, v, false⟩ := by
    have := askD_small (r := r) (a := ⟨false, 1, r.T, 0, v, false⟩) h0 h1 hp (by simp only; omega)
    simp only [b01] at this
    refine ⟨rfl, ?_⟩
    show askS r _ = _
    unfold askS; rw [this, if_neg (by simp; omega), if_pos (by simp; omega)]
  refine .more (by rw [e1.2]; simp) (by rw [e1.2]; simp [pushA]) ?_
  rw [e1.1, e1.2]
  have := Solo.last (r := r) (a := ⟨false, 1, r.T, 0, v, false⟩) (by rw [e2.2])
  rw [e2.1, e2.2] at this
  exact this
theorem solo_pop {r : RS} (h0 : 0 ≤ r.H) (h1 : r.H ≤ 100000) (hn : r.n ≤ 8) (hd : r.num (slotOf r r.H) = r.H + 1) :
    Solo r popA { r with H := r.H + 1, num := upd r.num (slotOf r r.H) (r.H + r.n) } ⟨true, 5, r.H, r.H, r.val (slotOf r r.H), true⟩ := by
  have e1 : stepR r popA = r ∧ stepA r popA = ⟨true, 1, r.H, 0, 0, false⟩ := ⟨rfl, rfl⟩
  have e2 : stepR r ⟨true, 1, r.H, 0, 0, false⟩ = r ∧ stepA r ⟨true, 1, r.H, 0, 0, false⟩ = ⟨true, 2, r.H, 0, 0, false⟩ := by
    have := askD_small (r := r) (a := ⟨true, 1, r.H, 0, 0, false⟩) h0 h1 (by simp only; omega) (by simp only; omega)
    simp only [b01, hd] at this
    refine ⟨rfl, ?_⟩
    show askS r _ = _
    unfold askS; rw [this, if_pos (by simp; omega)]
  have e3 : stepR r ⟨true, 2, r.H, 0, 0, false⟩ = { r with H := r.H + 1 } ∧ stepA r ⟨true, 2, r.H, 0, 0, false⟩ = ⟨true, 3, r.H, r.H, 0, false⟩ := by
    have hm : (r.H + 1) % 18446744073709551616 = r.H + 1 := by omega
    constructor
    · show claimR r _ = _; simp [claimR, endOf, setEnd, hm]
    · show claimA r _ = _; simp [claimA, endOf]
  have e4 : stepR { r with H := r.H + 1 } ⟨true, 3, r.H, r.H, 0, false⟩ = { r with H := r.H + 1, num := upd r.num (slotOf r r.H) (r.H + r.n) } ∧ stepA { r with H := r.H + 1 } ⟨true, 3, r.H, r.H, 0, false⟩ = ⟨true, 5, r.H, r.H, r.val (slotOf r r.H), true⟩ := by
    have hm : (r.H + r.n) % 18446744073709551616 = r.H + r.n := by omega
    constructor
    · simp [stepR, takeR, hm, slotOf]
    · simp [stepA, takeA, slotOf]
  refine .more (by rw [e1.2]; simp) (by rw [e1.2]; simp [popA]) ?_
  rw [e1.1, e1.2]
  refine .more (by rw [e2.2]; simp) (by rw [e2.2]; simp) ?_
  rw [e2.1, e2.2]
  refine .more (by rw [e3.2]; simp) (by rw [e3.2]; simp) ?_
  rw [e3.1, e3.2, ← e4.1, ← e4.2]
  exact .last (by rw [e4.2])
theorem solo_pop_empty {r : RS} (h0 : 0 ≤ r.H) (h1 : r.H ≤ 100000) (hp : 0 ≤ r.num (slotOf r r.H)) (hd : r.num (slotOf r r.H) ≤ r.H) : Solo r popA r ⟨true, 5, r.H, 0, 0, false⟩ := by
  have e1 : stepR r popA = r ∧ stepA r popA = ⟨true, 1, r.H, 0, 0, false⟩ := ⟨rfl, rfl⟩
  have e2 : stepR r ⟨true, 1, r.H, 0, 0, false⟩ = r ∧ stepA r ⟨true, 1, r.H, 0, 0, false⟩ = ⟨true, 5, r.H, 0, 0, false⟩ := by
    have := askD_small (r := r) (a := ⟨true, 1, r.H, 0, 0, false⟩) h0 h1 hp (by simp only; omega)
    simp only [b01] at this
    refine ⟨rfl, ?_⟩
    show askS r _ = _
    unfold askS; rw [this, if_neg (by simp; omega), if_pos (by simp; omega)]
  refine .more (by rw [e1.2]; simp) (by rw [e1.2]; simp [popA]) ?_
  rw [e1.1, e1.2]
  have := Solo.last (r := r) (a := ⟨true, 1, r.H, 0, 0, false⟩) (by rw [e2.2])
  rw [e2.1, e2.2] at this
  exact this
/-- At rest q lies in it. -/
structure QInv (c : Int) (r : RS) (q : List Int) : Prop where
  n3 : r.n = 2 ∨ r.n = 4 ∨ r.n = 8
  h0 : 0 ≤ r.H
  hT : r.T = r.H + q.length
  le : q.length ≤ r.n
  tc : r.T ≤ c
  full : ∀ j, j < q.length → r.num (slotOf r (r.H + j)) = r.H + j + 1 ∧ r.val (slotOf r (r.H + j)) = q.getD j 0
  free : ∀ p, r.T ≤ p → p < r.H + r.n → r.num (slotOf r p) = p
theorem q_new (n : Nat) (hn : n = 2 ∨ n = 4 ∨ n = 8) : QInv 0 (newR n) [] := by
  refine ⟨hn, by simp [newR], by simp [newR], by simp, by simp [newR], fun j hj => by simp at hj, fun p h1 h2 => ?_⟩
  have h1 : 0 ≤ p := h1
  have h2 : p < (0 : Int) + n := h2
  have hs : (slotOf (newR n) p : Int) = p := by unfold slotOf newR; rcases hn with e | e | e <;> subst e <;> simp <;> omega
  show (if slotOf (newR n) p < n then ((slotOf (newR n) p : Nat) : Int) else 0) = p
  rw [if_pos (by omega), hs]
theorem q_push {c : Int} {r : RS} {q : List Int} (h : QInv c r q) (hc : c ≤ 100000) (v : Int) (hr : q.length < r.n) :
    ∃ R A, Solo r (pushA v) R A ∧ A.well = true ∧ QInv (c + 1) R (q ++ [v]) ∧ R.n = r.n ∧ R.T = r.T + 1 ∧ R.H = r.H := by
  have h0 := h.h0; have hT := h.hT; have htc := h.tc
  have hd := h.free r.T (Int.le_refl _) (by omega)
  refine ⟨_, _, solo_push v (by omega) (by omega) hd, rfl, ⟨h.n3, h0, ?_, ?_, ?_, ?_, ?_⟩, rfl, rfl, rfl⟩
  · simp; omega
  · simp; show q.length + 1 ≤ r.n; omega
  · show r.T + 1 ≤ c + 1; omega
  · intro j hj
    show upd r.num (slotOf r r.T) (r.T + 1) (slotOf r (r.H + j)) = _ ∧ upd r.val (slotOf r r.T) v (slotOf r (r.H + j)) = _
    simp at hj
    by_cases e : j = q.length
    · subst e
      rw [← hT]; unfold upd; simp
    · have hne : slotOf r (r.H + j) ≠ slotOf r r.T := fun es => by have := slot_far h.n3 es (by omega); omega
      have := h.full j (by omega)
      unfold upd; rw [if_neg hne, if_neg hne]
      refine ⟨this.1, ?_⟩
      rw [this.2]; simp [List.getD_eq_getElem?_getD, List.getElem?_append_left (show j < q.length by omega)]
  · intro p h1 h2
    have h1 : r.T + 1 ≤ p := h1
    have h2 : p < r.H + r.n := h2
    show upd r.num (slotOf r r.T) (r.T + 1) (slotOf r p) = p
    have hne : slotOf r p ≠ slotOf r r.T := fun es => by have := slot_far h.n3 es.symm (by omega); omega
    unfold upd; rw [if_neg hne]
    exact h.free p (by omega) h2
theorem q_full {c : Int} {r : RS} {q : List Int} (h : QInv c r q) (hc : c ≤ 100000) (v : Int) (hr : ¬ q.length < r.n) : ∃ A, Solo r (pushA v) r A ∧ A.well = false := by
  have h0 := h.h0; have hT := h.hT; have htc := h.tc; have hle := h.le
  have hn := h.n3
  have hf := (h.full 0 (by omega)).1
  have hs : slotOf r (r.H + (0 : Nat)) = slotOf r r.T := by
    rw [show r.H + ((0 : Nat) : Int) = r.T - r.n from by omega]; exact slot_back h.n3 r.T
  rw [hs] at hf
  exact ⟨_, solo_push_full v (by omega) (by omega) (by omega) (by omega), rfl⟩
theorem q_pop {c : Int} {r : RS} {v : Int} {q : List Int} (h : QInv c r (v :: q)) (hc : c ≤ 100000) :
    ∃ R A, Solo r popA R A ∧ A.well = true ∧ valueOf A = v ∧ QInv c R q ∧ R.n = r.n ∧ R.T = r.T ∧ R.H = r.H + 1 := by
  have h0 := h.h0; have hT := h.hT; have htc := h.tc; have hle := h.le
  simp only [List.length_cons] at hT hle
  have hf := h.full 0 (by simp)
  simp only [show r.H + ((0 : Nat) : Int) = r.H from by omega] at hf
  have hn := h.n3
  refine ⟨_, _, solo_pop h0 (by omega) (by omega) hf.1, rfl, ?_, ⟨h.n3, ?_, ?_, ?_, htc, ?_, ?_⟩, rfl, rfl, rfl⟩
  · simp [valueOf, hf.2]
  · show 0 ≤ r.H + 1; omega
  · show r.T = r.H + 1 + q.length; omega
  · show q.length ≤ r.n; omega
  · intro j hj
    show upd r.num (slotOf r r.H) (r.H + r.n) (slotOf r (r.H + 1 + j)) = _ ∧ r.val (slotOf r (r.H + 1 + j)) = _
    have hne : slotOf r (r.H + 1 + j) ≠ slotOf r r.H := fun es => by have := slot_far h.n3 es.symm (by omega); omega
    have := h.full (j + 1) (by simp; omega)
    rw [show r.H + ((j + 1 : Nat) : Int) = r.H + 1 + (j : Int) from by omega] at this
    unfold upd; rw [if_neg hne]
    exact ⟨this.1, by rw [this.2]; simp⟩
  · intro p h1 h2
    have h1 : r.T ≤ p := h1
    have h2 : p < r.H + 1 + r.n := h2
    show upd r.num (slotOf r r.H) (r.H + r.n) (slotOf r p) = p
    by_cases e : p = r.H + r.n
    · have hs : slotOf r p = slotOf r r.H := by rw [show r.H = p - r.n from by omega]; exact (slot_back h.n3 p).symm
      unfold upd; rw [if_pos hs, e]
    · have hne : slotOf r p ≠ slotOf r r.H := fun es => by have := slot_far h.n3 es.symm (by omega); omega
      unfold upd; rw [if_neg hne]
      exact h.free p h1 (by omega)
theorem q_empty {c : Int} {r : RS} (h : QInv c r []) (hc : c ≤ 100000) : ∃ A, Solo r popA r A ∧ A.well = false ∧ valueOf A = 0 := by
  have h0 := h.h0; have hT := h.hT; have htc := h.tc; have hn := h.n3
  simp at hT
  have hd := h.free r.H (by omega) (by omega)
  exact ⟨_, solo_pop_empty h0 (by omega) (by omega) (by omega), rfl, rfl⟩
theorem q_ok {c : Int} {r : RS} {q : List Int} (h : QInv c r q) (d : Int) (hd : c ≤ d) : QInv d r q := ⟨h.n3, h.h0, h.hT, h.le, by have := h.tc; omega, h.full, h.free⟩
end Go.Proofs.Ytepbggoeajihbaa.Ring
