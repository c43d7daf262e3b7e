/- A cheaper check that a region that draws its order may be walked in the order of its text. -/
import Derived.Test.YtknjfohbpchmpaaDoorHk
set_option linter.unusedVariables false
namespace Go.Proofs.YtknjfohbpchmpaaDoorRx
open Go.Proofs.YtknjfohbpchmpaaDoorHk
def lexL (md : Region.Mode) (ops : Array Oper) : Nat → List Oper → Bool
  | _, [] => true
  | k, o :: l => o.after.toList.all (fun e => !Region.binds md e || Nat.blt e.on k) && l.all (fun oj => oj.after.toList.any (fun e => Nat.beq e.on k && Region.binds md e) || o.apart ops oj) && lexL md ops (k + 1) l
def below (n k : Nat) : Array Bool := (Array.range n).map (fun j => decide (j < k))
theorem below_getD (n k j : Nat) (b : Bool) (hj : j < n) : (below n k).getD j b = decide (j < k) := by
  simp [below, hj]
theorem below_set (n k : Nat) (hk : k < n) : (below n k).setIfInBounds k true = below n (k + 1) := by
  apply Array.ext
  · simp [below]
  · intro j h1 h2
    have hj : j < n := by simpa [below] using h2
    rw [Array.getElem_setIfInBounds (by simpa [below] using hj)]
    simp only [below, Array.getElem_map, Array.getElem_range]
    by_cases e : k = j
    · rw [if_pos e]; simp; omega
    · rw [if_neg e]; simp; omega
theorem below_zero (n : Nat) : Array.replicate n false = below n 0 := by
  apply Array.ext <;> simp [below]
theorem lexL_from {md : Region.Mode} {ops : Array Oper} : ∀ (l : List Oper) (k : Nat), (∀ j, l[j]? = ops[k + j]?) → k + l.length = ops.size → lexL md ops k l = true → Region.lexFrom md ops l.length k (below ops.size k) = true := by
  intro l
  induction l with
  | nil =>
    intro k _ hk _
    simp only [List.length_nil, Region.lexFrom, List.isEmpty_iff]
    unfold Region.ready
    rw [List.filter_eq_nil_iff]
    intro i hi
    have hi := List.mem_range.1 hi
    rw [below_getD _ _ _ _ hi]
    simp at hk
    simp; omega
  | cons o l ih =>
    intro k hl hk h
    simp only [lexL, Bool.and_eq_true] at h
    obtain ⟨⟨h1, h2⟩, h3⟩ := h
    simp only [List.length_cons] at hk
    have hkn : k < ops.size := by omega
    have h0 : ops[k]? = some o := by simpa using (hl 0).symm
    simp only [List.length_cons, Region.lexFrom, Bool.and_eq_true]
    refine ⟨⟨?_, ?_⟩, ?_⟩
    · rw [List.contains_iff_mem]
      unfold Region.ready
      rw [List.mem_filter, List.mem_range]
      refine ⟨hkn, ?_⟩
      rw [below_getD _ _ _ _ hkn, h0]
      simp only [Option.map_some, Option.getD_some, Nat.lt_irrefl, decide_false, Bool.not_false, Bool.true_and]
      rw [← Array.all_toList]
      rw [List.all_eq_true] at h1 ⊢
      intro e he
      have h4 := h1 e he
      cases hb : Region.binds md e
      · simp
      · simp only [hb, Bool.not_true, Bool.false_or] at h4 ⊢
        have h5 : e.on < k := by rw [← Nat.blt_eq]; exact h4
        rw [below_getD _ _ _ _ (by omega)]
        simpa using h5
    · unfold Region.free
      rw [h0]
      simp only
      rw [List.all_eq_true]
      intro j hj
      have hj := List.mem_range.1 hj
      rw [below_getD _ _ _ _ hj]
      by_cases e1 : j = k
      · simp [e1]
      · by_cases e2 : j < k
        · simp [e2]
        · have hlj : l[j - k - 1]? = ops[j]? := by
            have := hl (j - k)
            rw [show k + (j - k) = j from by omega, show j - k = (j - k - 1) + 1 from by omega, List.getElem?_cons_succ] at this
            exact this
          cases ho : ops[j]? with
          | none => simp
          | some oj =>
            rw [ho] at hlj
            have hm : oj ∈ l := List.mem_of_getElem? hlj
            have h4 := List.all_eq_true.1 h2 oj hm
            simp only [Bool.or_eq_true] at h4
            simp only [Bool.or_eq_true]
            right
            rcases h4 with h4 | h4
            · left
              rw [← Array.any_toList]
              rw [List.any_eq_true] at h4 ⊢
              obtain ⟨e, he, h5⟩ := h4
              simp only [Bool.and_eq_true] at h5
              exact ⟨e, he, by rw [Bool.and_eq_true]; exact ⟨h5.2, by rw [beq_iff_eq]; exact Nat.eq_of_beq_eq_true h5.1⟩⟩
            · exact .inr h4
    · rw [below_set _ _ hkn]
      refine ih (k + 1) (fun j => ?_) (by omega) h3
      have := hl (j + 1)
      rw [List.getElem?_cons_succ] at this
      rw [this]; congr 1; omega
theorem lexB_of {md : Region.Mode} {l : List Oper} (hs : Region.noSelect l.toArray = true) (h : lexL md l.toArray 0 l = true) : Region.lexB md l.toArray = true := by
  unfold Region.lexB
  rw [hs, Bool.true_and, below_zero]
  have := lexL_from (md := md) (ops := l.toArray) l 0 (fun j => by simp) (by simp) h
  simpa using this
/-- region_later with the cheaper check. -/
theorem region_laterL {P : Program} {id : Nat} {Q : Exit → Act → World → Prop} {a : Act} {W : World} {l : List Oper} (hm : P.follows .mixedOrders = true) (hs : Region.noSelect l.toArray = true) (hB : lexL .any l.toArray 0 l = true)
    (h : wpQuiet P l.toArray (fun w' => ∃ u : LW W, w' = u.1) (fun a' => ∀ w', (∃ u : LW W, w' = u.1) → Q .normal a' w') l a) : (Code.region id l.toArray true).wp P Q a W :=
  region_later hm (lexB_of hs hB) h
end Go.Proofs.YtknjfohbpchmpaaDoorRx
