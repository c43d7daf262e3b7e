/- How often acts begin again. -/
import Derived.Test.YtepbggoeajihbaaPk
set_option linter.unusedVariables false
set_option linter.unusedSimpArgs false
namespace Go.Proofs.Ytepbggoeajihbaa.Ring
open Go.RowKit

/-! ### How often acts begin again -/
def sum6 (f : Nat → Int) : Int := f 0 + f 1 + f 2 + f 3 + f 4 + f 5
theorem sum6_upF (f : Nat → Int) (i : Nat) (hi : i < 6) (x : Int) : sum6 (upF f i x) = sum6 f - f i + x := by
  unfold sum6 upF
  rcases (show i = 0 ∨ i = 1 ∨ i = 2 ∨ i = 3 ∨ i = 4 ∨ i = 5 from by omega) with e | e | e | e | e | e <;> subst e <;> simp <;> omega
theorem sum6_congr {f g : Nat → Int} (h : ∀ i, i < 6 → f i = g i) : sum6 f = sum6 g := by
  unfold sum6; rw [h 0 (by omega), h 1 (by omega), h 2 (by omega), h 3 (by omega), h 4 (by omega), h 5 (by omega)]
theorem sum6_le {f g : Nat → Int} (h : ∀ i, i < 6 → f i ≤ g i) : sum6 f ≤ sum6 g := by
  have := h 0 (by omega); have := h 1 (by omega); have := h 2 (by omega); have := h 3 (by omega); have := h 4 (by omega); have := h 5 (by omega)
  unfold sum6; omega
def retSum (l : List DS) : Int := (l.map (·.ret)).foldl (· + ·) 0
theorem foldl_add (l : List Int) (a : Int) : l.foldl (· + ·) a = a + l.foldl (· + ·) 0 := by
  induction l generalizing a with
  | nil => simp
  | cons x l ih => simp only [List.foldl_cons]; rw [ih (a + x), ih (0 + x)]; omega
theorem retSum_snoc (l : List DS) (d : DS) : retSum (l ++ [d]) = retSum l + d.ret := by
  unfold retSum; rw [List.map_append, List.foldl_append]; simp
def cur (u : US) (i : Nat) : Int := match u.act i with
  | none => 0
  | some _ => (u.now i).ret
def gap (r : RS) (a : Option AS) : Int := match a with
  | none => 0
  | some a => if a.next = 1 ∨ a.next = 2 then endOf r a.pops - a.at_ else 0
structure InvR (u : US) : Prop where
  r1 : retSum u.out + sum6 (cur u) = sum6 u.ret
  r2 : ∀ i, i < 6 → u.ret i + u.own i + gap u.r (u.act i) ≤ u.r.T + u.r.H
  r3 : sum6 u.own = u.r.T + u.r.H
  r4 : ∀ i, i < 6 → 0 ≤ (u.now i).ret
theorem gap_nonneg {r : RS} {a : AS} (h : ActOk r a) : 0 ≤ gap r (some a) := by
  unfold gap
  by_cases e : a.next = 1 ∨ a.next = 2
  · simp only [if_pos e]
    rcases e with e | e
    · have := h.n1 e; omega
    · have := h.n2 e; omega
  · simp only [if_neg e]; omega
theorem invR_open (c : Nat) : InvR (openU c) := ⟨by simp [openU, retSum, cur, sum6], fun i _ => by simp [openU, gap, newR], by simp [openU, sum6, newR], fun i _ => by simp [openU, zeroD]⟩
theorem invR_begin {u : US} (h : InvR u) (n : Int) (i : Nat) (hi : i < 6) (ha : u.act i = none) (d v : Int) : InvR (doBegin n i d v u) := by
  have h0 : (beginA d v).next = 0 := by unfold beginA; split <;> rfl
  refine ⟨?_, fun j hj => ?_, h.r3, fun j hj => ?_⟩
  · have e : sum6 (cur (doBegin n i d v u)) = sum6 (cur u) := sum6_congr (fun j hj => by
      unfold cur; simp only [doBegin]
      by_cases e : j = i
      · subst e; rw [upF_same, upF_same, ha]
      · rw [upF_ne _ _ _ e, upF_ne _ _ _ e])
    show retSum u.out + _ = sum6 u.ret
    rw [e]; exact h.r1
  · show u.ret j + u.own j + gap u.r (upF u.act i (some (beginA d v)) j) ≤ u.r.T + u.r.H
    have := h.r2 j hj
    by_cases e : j = i
    · subst e; rw [upF_same]; rw [ha] at this
      simp only [gap, h0] at this ⊢; simpa using this
    · rw [upF_ne _ _ _ e]; exact this
  · simp only [doBegin]
    by_cases e : j = i
    · subst e; rw [upF_same]; simp
    · rw [upF_ne _ _ _ e]; exact h.r4 j hj
theorem gap_other {r r' : RS} {a a' b : AS} (s : StepCase r a r' a') : gap r' (some b) + (r.T + r.H) ≤ gap r (some b) + (r'.T + r'.H) := by
  unfold gap
  by_cases e : b.next = 1 ∨ b.next = 2
  · simp only [if_pos e]
    cases s <;> simp only [endOf] <;> (try omega) <;> (cases b.pops <;> simp <;> omega)
  · simp only [if_neg e]
    cases s <;> simp <;> omega
/-- What a step adds: retries, claims, and the own gap. -/
theorem gap_own {c : Int} {r r' : RS} {a a' : AS} (h : RingOk c r) (ha : ActOk r a) (s : StepCase r a r' a') :
    (if again a a' then 1 else 0) + (if claims a a' then 1 else 0) + (if a'.next = 5 then 0 else gap r' (some a')) + (r.T + r.H) ≤ gap r (some a) + (r'.T + r'.H) ∧ r'.T + r'.H = r.T + r.H + (if claims a a' then 1 else 0) := by
  have hg := gap_nonneg ha
  cases s with
  | read hx => simp [again, claims, gap, hx]
  | mine hx hd => simp [again, claims, gap, hx]; 
  | refused hx hd => simp [again, claims, hx] ; simp [gap, hx] at hg ⊢; omega
  | stale hx hd hl => simp [again, claims, hx]; simp [gap, hx]; omega
  | lost hx hl => simp [again, claims, hx]; simp [gap, hx]; omega
  | claimT hx hp he hd => simp [again, claims, hx]; simp [gap, hx, hp, endOf, he]; omega
  | claimH hx hp he hd => simp [again, claims, hx]; simp [gap, hx, hp, endOf, he]; omega
  | put hx hp => simp [again, claims, hx]; simp [gap, hx]
  | take hx hp => simp [again, claims, hx]; simp [gap, hx]
theorem invR_step {c : Int} {u : US} (h : InvR u) (hI : InvA c u) (hc : c ≤ 100000) (n : Int) (i : Nat) (hi : i < 6) (a : AS) (ha : u.act i = some a) : InvR (doStep n i a u) := by
  have hok := hI.acts i a ha
  have s := step_case hI.ring hc hok
  have hg := gap_own hI.ring hok s
  have h4 := h.r4 i hi
  have hone : (oneD a (stepA u.r a) (u.now i)).ret = (u.now i).ret + (if again a (stepA u.r a) then 1 else 0) := by
    unfold oneD; split <;> simp
  refine ⟨?_, fun j hj => ?_, ?_, fun j hj => ?_⟩
  · have e : sum6 (cur (doStep n i a u)) = sum6 (upF (cur u) i (if (stepA u.r a).next = 5 then 0 else (u.now i).ret + (if again a (stepA u.r a) then 1 else 0))) := sum6_congr (fun j hj => by
      unfold cur; simp only [doStep]
      by_cases e : j = i
      · subst e; rw [upF_same, upF_same, upF_same]
        by_cases h5 : (stepA u.r a).next = 5
        · simp only [if_pos h5]
        · simp only [if_neg h5, hone]
      · rw [upF_ne _ _ _ e, upF_ne _ _ _ e, upF_ne _ _ _ e])
    have e2 : sum6 (doStep n i a u).ret = sum6 u.ret + (if again a (stepA u.r a) then 1 else 0) := by
      simp only [doStep]
      by_cases g : again a (stepA u.r a) = true
      · simp only [if_pos g]; rw [sum6_upF _ _ hi]; omega
      · simp only [if_neg g]; omega
    have e3 : retSum (doStep n i a u).out = retSum u.out + (if (stepA u.r a).next = 5 then (u.now i).ret + (if again a (stepA u.r a) then 1 else 0) else 0) := by
      simp only [doStep]
      by_cases h5 : (stepA u.r a).next = 5
      · simp only [if_pos h5]; rw [retSum_snoc]; unfold endD; simp only; rw [hone]
      · simp only [if_neg h5]; omega
    have hcur : cur u i = (u.now i).ret := by unfold cur; rw [ha]
    rw [e, e2, e3, sum6_upF _ _ hi, hcur]
    have := h.r1
    by_cases h5 : (stepA u.r a).next = 5
    · simp only [if_pos h5]; omega
    · simp only [if_neg h5]; omega
  · have h2 := h.r2 j hj
    simp only [doStep]
    by_cases e : j = i
    · subst e
      rw [upF_same]
      rw [ha] at h2
      have hgap : gap (stepR u.r a) (if (stepA u.r a).next = 5 then none else some (stepA u.r a)) = if (stepA u.r a).next = 5 then 0 else gap (stepR u.r a) (some (stepA u.r a)) := by
        split <;> rfl
      rw [hgap]
      have er : (if again a (stepA u.r a) then upF u.ret j (u.ret j + 1) else u.ret) j = u.ret j + (if again a (stepA u.r a) then 1 else 0) := by
        split
        · rw [upF_same]
        · omega
      have eo : (if claims a (stepA u.r a) then upF u.own j (u.own j + 1) else u.own) j = u.own j + (if claims a (stepA u.r a) then 1 else 0) := by
        split
        · rw [upF_same]
        · omega
      rw [er, eo]; have := hg.1; omega
    · rw [upF_ne _ _ _ e]
      have er : (if again a (stepA u.r a) then upF u.ret i (u.ret i + 1) else u.ret) j = u.ret j := by
        split
        · rw [upF_ne _ _ _ e]
        · rfl
      have eo : (if claims a (stepA u.r a) then upF u.own i (u.own i + 1) else u.own) j = u.own j := by
        split
        · rw [upF_ne _ _ _ e]
        · rfl
      rw [er, eo]
      cases hb : u.act j with
      | none => rw [hb] at h2; simp only [gap] at h2 ⊢; have := hg.2; split at this <;> omega
      | some b => rw [hb] at h2; have := gap_other (b := b) s; omega
  · simp only [doStep]
    have := h.r3
    by_cases g : claims a (stepA u.r a) = true
    · simp only [if_pos g]; rw [sum6_upF _ _ hi]; have := hg.2; rw [if_pos g] at this; omega
    · simp only [if_neg g]; have := hg.2; rw [if_neg g] at this; omega
  · simp only [doStep]
    by_cases e : j = i
    · subst e; rw [upF_same]
      split
      · unfold endD; simp only; rw [hone]; split <;> omega
      · rw [hone]; split <;> omega
    · rw [upF_ne _ _ _ e]; exact h.r4 j hj
theorem invR_run {ps : List PK} {c : Nat} (hc : c = 2 ∨ c = 4 ∨ c = 8) : ∀ k : Nat, k ≤ 1000 → InvR (runTo ps k (openU c)) := by
  intro k
  induction k with
  | zero => intro _; exact invR_open c
  | succ k ih =>
    intro hk
    have h1 := ih (by omega)
    have hI := invA_run (invA_open c hc) ps k (by omega)
    have ht : thread (ps.getD k ⟨0, 0, 0⟩) < 6 := by unfold thread; omega
    unfold runTo pickStep
    split
    · rename_i ha; exact invR_begin h1 _ _ ht ha _ _
    · rename_i a ha; exact invR_step h1 hI (by omega) _ _ ht _ ha
theorem progress {ps : List PK} {c : Nat} (hc : c = 2 ∨ c = 4 ∨ c = 8) : retSum (run ps (openU c)).out ≤ 5 * ((run ps (openU c)).r.T + (run ps (openU c)).r.H) := by
  have hk : runLen ps ≤ 200 := by unfold runLen; omega
  have h := invR_run (ps := ps) hc (runLen ps) (by omega)
  have hI := invA_run (invA_open c hc) ps (runLen ps) (by omega)
  unfold run
  have h1 := h.r1; have h3 := h.r3
  have hc0 : 0 ≤ sum6 (cur (runTo ps (runLen ps) (openU c))) := by
    have : sum6 (fun _ => 0) ≤ sum6 (cur (runTo ps (runLen ps) (openU c))) := sum6_le (fun i hi => by
      unfold cur; split
      · omega
      · exact h.r4 i hi)
    simpa [sum6] using this
  have h2 : sum6 (runTo ps (runLen ps) (openU c)).ret + sum6 (runTo ps (runLen ps) (openU c)).own ≤ 6 * ((runTo ps (runLen ps) (openU c)).r.T + (runTo ps (runLen ps) (openU c)).r.H) := by
    have hi : ∀ i, i < 6 → (runTo ps (runLen ps) (openU c)).ret i + (runTo ps (runLen ps) (openU c)).own i ≤ (runTo ps (runLen ps) (openU c)).r.T + (runTo ps (runLen ps) (openU c)).r.H := by
      intro i hi
      have := h.r2 i hi
      have hg : 0 ≤ gap (runTo ps (runLen ps) (openU c)).r ((runTo ps (runLen ps) (openU c)).act i) := by
        cases ha : (runTo ps (runLen ps) (openU c)).act i with
        | none => simp [gap]
        | some a => exact gap_nonneg (hI.acts i a ha)
      omega
    have := hi 0 (by omega); have := hi 1 (by omega); have := hi 2 (by omega); have := hi 3 (by omega); have := hi 4 (by omega); have := hi 5 (by omega)
    unfold sum6; omega
  omega
theorem run_nonneg {ps : List PK} {c : Nat} (hc : c = 2 ∨ c = 4 ∨ c = 8) : 0 ≤ (run ps (openU c)).r.H ∧ 0 ≤ (run ps (openU c)).r.T ∧ (run ps (openU c)).r.T ≤ 200 ∧ (run ps (openU c)).r.H ≤ 200 := by
  have hk : runLen ps ≤ 200 := by unfold runLen; omega
  have hI := invA_run (invA_open c hc) ps (runLen ps) (by omega)
  unfold run
  have := hI.ring.h0; have := hI.ring.hT; have := hI.ring.tc; omega
end Go.Proofs.Ytepbggoeajihbaa.Ring
