/- What rest does. -/
import Derived.Test.YtepbggoeajihbaaPq
set_option linter.unusedVariables false
set_option linter.unusedSimpArgs false
namespace Go.Proofs.Ytepbggoeajihbaa.Ring
open Go.RowKit

/-! ### What rest does -/
def popsOf (l : List DS) : List Int := (l.filter fun d => d.well && (d.kind == 2)).map (·.v)
def pushesOf (l : List DS) : List Int := (l.filter fun d => d.well && !(d.kind == 2)).map (·.v)
theorem popsOf_snoc (l : List DS) (d : DS) : popsOf (l ++ [d]) = popsOf l ++ (if d.well && (d.kind == 2) then [d.v] else []) := by
  unfold popsOf; rw [List.filter_append, List.map_append]; congr 1
  cases h : (d.well && (d.kind == 2)) <;> simp [h]
theorem pushesOf_snoc (l : List DS) (d : DS) : pushesOf (l ++ [d]) = pushesOf l ++ (if d.well && !(d.kind == 2) then [d.v] else []) := by
  unfold pushesOf; rw [List.filter_append, List.map_append]; congr 1
  cases h : (d.well && !(d.kind == 2)) <;> simp [h]
/-- What is noted of an act is its kind, and a push's value. -/
def KV (u : US) : Prop := ∀ i a, u.act i = some a → (u.now i).kind = kindOf a ∧ (a.pops = false → (u.now i).v = a.value)
theorem kv_open (c : Nat) : KV (openU c) := fun i a h => nomatch h
theorem kv_begin {u : US} (h : KV u) (n : Int) (i : Nat) (d v : Int) : KV (doBegin n i d v u) := by
  intro j b hj
  simp only [doBegin] at hj ⊢
  by_cases e : j = i
  · subst e; rw [upF_same] at hj ⊢; have := Option.some.inj hj; subst this
    refine ⟨rfl, fun hp => ?_⟩
    unfold beginA at hp ⊢; split <;> simp_all [pushA, popA]
  · rw [upF_ne _ _ _ e] at hj ⊢; exact h j b hj
theorem step_value {r r' : RS} {a a' : AS} (s : StepCase r a r' a') (hp : a.pops = false) : a'.value = a.value := by
  cases s <;> first | rfl | (rename_i h hpp; rw [hp] at hpp; cases hpp) | simp_all
theorem kv_step {c : Int} {u : US} (h : KV u) (hI : InvA c u) (hc : c ≤ 100000) (n : Int) (i : Nat) (a : AS) (hi : u.act i = some a) : KV (doStep n i a u) := by
  have s := step_case hI.ring hc (hI.acts i a hi)
  intro j b hj
  simp only [doStep] at hj ⊢
  by_cases e : j = i
  · subst e; rw [upF_same] at hj ⊢
    by_cases h5 : (stepA u.r a).next = 5
    · rw [if_pos h5] at hj; cases hj
    · rw [if_neg h5] at hj ⊢
      have := Option.some.inj hj; subst this
      have h1 := h j a hi
      refine ⟨?_, fun hp => ?_⟩
      · rw [show kindOf (stepA u.r a) = kindOf a from by unfold kindOf; rw [step_pops s]]
        unfold oneD; split <;> exact h1.1
      · rw [step_pops s] at hp
        rw [step_value s hp]
        unfold oneD; split <;> exact h1.2 hp
  · rw [upF_ne _ _ _ e] at hj ⊢; exact h j b hj
theorem kv_run {ps : List PK} {c : Nat} (hc : c = 2 ∨ c = 4 ∨ c = 8) : ∀ k : Nat, k ≤ 1000 → KV (runTo ps k (openU c)) := by
  intro k
  induction k with
  | zero => intro _; exact kv_open c
  | succ k ih =>
    intro hk
    have h1 := ih (by omega)
    have hI := invA_run (invA_open c hc) ps k (by omega)
    unfold runTo pickStep
    split
    · exact kv_begin h1 _ _ _ _
    · rename_i a ha; exact kv_step h1 hI (by omega) _ _ _ ha
theorem six_run {ps : List PK} {c : Nat} : ∀ k : Nat, ∀ i, 6 ≤ i → (runTo ps k (openU c)).act i = none := by
  intro k
  induction k with
  | zero => intro i _; rfl
  | succ k ih =>
    intro i hi
    have ht : thread (ps.getD k ⟨0, 0, 0⟩) < 6 := by unfold thread; omega
    unfold runTo pickStep
    split
    · simp only [doBegin]; rw [upF_ne _ _ _ (by omega)]; exact ih i hi
    · simp only [doStep]; rw [upF_ne _ _ _ (by omega)]; exact ih i hi
theorem goOn_snoc (i : Nat) : ∀ (k : Nat) (u : US), goOn i (k + 1) u = (match (goOn i k u).act i with
    | none => goOn i k u
    | some a => doStep 1000 i a (goOn i k u)) := by
  intro k
  induction k with
  | zero =>
    intro u
    simp only [goOn]
    try (cases u.act i <;> rfl)
  | succ k ih =>
    intro u
    conv => lhs; unfold goOn
    cases e : u.act i with
    | none =>
      have h : goOn i (k + 1) u = u := by unfold goOn; rw [e]
      simp only [h, e]
    | some a =>
      have h : goOn i (k + 1) u = goOn i k (doStep 1000 i a u) := by
        conv => lhs; unfold goOn
        rw [e]
      simp only [h]
      rw [ih]
theorem goOn_stop {i : Nat} {k : Nat} {u : US} (h : (goOn i k u).act i = none) : ∀ m, goOn i (k + m) u = goOn i k u := by
  intro m
  induction m with
  | zero => rfl
  | succ m ih => rw [← Nat.add_assoc, goOn_snoc, ih, h]
theorem kv_goOn {c : Int} {u : US} {i : Nat} (h : KV u) (hI : InvA c u) (hc : c ≤ 1000) : ∀ k : Nat, k ≤ 1000 → KV (goOn i k u) := by
  intro k
  induction k with
  | zero => intro _; exact h
  | succ k ih =>
    intro hk
    rw [goOn_snoc]
    split
    · exact ih (by omega)
    · rename_i a ha; exact kv_step (ih (by omega)) (invA_goOn k hI (by omega)) (by omega) _ _ _ ha
theorem out_goOn {i : Nat} : ∀ (k : Nat) (u : US), ∃ F, (goOn i k u).out = u.out ++ F := by
  intro k
  induction k with
  | zero => intro u; exact ⟨[], by simp [goOn]⟩
  | succ k ih =>
    intro u
    obtain ⟨F, hF⟩ := ih u
    rw [goOn_snoc]
    split
    · exact ⟨F, hF⟩
    · rename_i a ha
      simp only [doStep]
      split
      · exact ⟨F ++ [_], by rw [hF, List.append_assoc]⟩
      · exact ⟨F, hF⟩
end Go.Proofs.Ytepbggoeajihbaa.Ring
