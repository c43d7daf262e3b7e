/- Values. -/
import Derived.Test.YtepbggoeajihbaaPr
set_option linter.unusedVariables false
set_option linter.unusedSimpArgs false
namespace Go.Proofs.Ytepbggoeajihbaa.Ring
open Go.RowKit

/-! ### Values, and times -/
structure InvV (k : Int) (u : US) : Prop where
  i1 : ∀ p, 0 ≤ p → p < u.r.T → 1 ≤ u.V p ∧ u.V p ≤ k
  i2 : ∀ i a, u.act i = some a → a.pops = false → 1 ≤ a.value ∧ a.value ≤ k
  i3 : ∀ p q, 0 ≤ p → p < u.r.T → 0 ≤ q → q < u.r.T → u.V p = u.V q → p = q
  i4 : ∀ i a, u.act i = some a → a.pops = false → a.next ≠ 3 → ∀ p, 0 ≤ p → p < u.r.T → u.V p ≠ a.value
  i5 : ∀ i j a b, i ≠ j → u.act i = some a → u.act j = some b → a.pops = false → b.pops = false → a.next ≠ 3 → b.next ≠ 3 → a.value ≠ b.value
  v1 : ∀ i a, u.act i = some a → a.pops = false → a.next = 3 → a.value = u.V a.place
  v2 : ∀ p, 0 ≤ p → p < u.r.T → u.r.num (slotOf u.r p) = p + 1 → u.r.val (slotOf u.r p) = u.V p
  o1 : ∀ d, d ∈ u.out → d.well = true → (d.kind ≠ 2 → 0 ≤ d.pl ∧ d.pl < u.r.T ∧ d.v = u.V d.pl) ∧ (d.kind = 2 → 0 ≤ d.pl ∧ d.pl < u.r.H ∧ d.v = u.V d.pl)
theorem doStep_act (n : Int) (i : Nat) (a : AS) (u : US) (j : Nat) (x : AS) (h : (doStep n i a u).act j = some x) : (j = i ∧ (stepA u.r a).next ≠ 5 ∧ x = stepA u.r a) ∨ (j ≠ i ∧ u.act j = some x) := by
  simp only [doStep] at h
  by_cases e : j = i
  · subst e; rw [upF_same] at h
    by_cases g : (stepA u.r a).next = 5
    · rw [if_pos g] at h; cases h
    · rw [if_neg g] at h; exact .inl ⟨rfl, g, (Option.some.inj h).symm⟩
  · rw [upF_ne _ _ _ e] at h; exact .inr ⟨e, h⟩
theorem doStep_out (n : Int) (i : Nat) (a : AS) (u : US) (d : DS) (h : d ∈ (doStep n i a u).out) : d ∈ u.out ∨ ((stepA u.r a).next = 5 ∧ d = endD n (stepA u.r a) (oneD a (stepA u.r a) (u.now i))) := by
  simp only [doStep] at h
  split at h
  · rename_i g
    rcases List.mem_append.1 h with h | h
    · exact .inl h
    · exact .inr ⟨g, List.mem_singleton.1 h⟩
  · exact .inl h
theorem endD_kind (n : Int) (a a' : AS) (d : DS) : (endD n a' (oneD a a' d)).kind = d.kind := by unfold endD oneD; simp only; split <;> rfl
theorem endD_v (n : Int) (a a' : AS) (d : DS) : (endD n a' (oneD a a' d)).v = if d.kind = 2 then valueOf a' else d.v := by
  unfold endD oneD; simp only; split <;> rfl
theorem endD_beg (n : Int) (a a' : AS) (d : DS) : (endD n a' (oneD a a' d)).beg = d.beg := by unfold endD oneD; simp only; split <;> rfl
theorem oneD_beg (a a' : AS) (d : DS) : (oneD a a' d).beg = d.beg := by unfold oneD; split <;> rfl
theorem upI_same {α : Type} (f : Int → α) (i : Int) (x : α) : upI f i x i = x := by simp [upI]
theorem upI_ne {α : Type} (f : Int → α) (i : Int) (x : α) {j : Int} (h : j ≠ i) : upI f i x j = f j := by simp [upI, h]
/-- The ghosts behind a step: V changes at a push's claim alone. -/
theorem ghost_V {r r' : RS} {a a' : AS} (s : StepCase r a r' a') (V : Int → Int) : (∃ h : a.next = 2 ∧ a.pops = false ∧ a.at_ = r.T ∧ r'.T = r.T + 1 ∧ r'.H = r.H ∧ a'.next = 3 ∧ a'.place = r.T ∧ r.num (slotOf r r.T) = r.T, (if claims a a' && !a.pops then upI V a.at_ a.value else V) = upI V r.T a.value) ∨
    (r'.T = r.T ∧ (if claims a a' && !a.pops then upI V a.at_ a.value else V) = V) := by
  cases s with
  | claimT h hp he hd => exact .inl ⟨⟨h, hp, he, rfl, rfl, rfl, he, by rw [← he]; exact hd⟩, by simp [claims, h, hp, he]⟩
  | claimH h hp he hd => exact .inr ⟨rfl, by simp [claims, h, hp]⟩
  | read h => exact .inr ⟨rfl, by simp [claims, h]⟩
  | mine h hd => exact .inr ⟨rfl, by simp [claims, h]⟩
  | refused h hd => exact .inr ⟨rfl, by simp [claims, h]⟩
  | stale h hd hl => exact .inr ⟨rfl, by simp [claims, h]⟩
  | lost h hl => exact .inr ⟨rfl, by simp [claims]⟩
  | put h hp => exact .inr ⟨rfl, by simp [claims, h]⟩
  | take h hp => exact .inr ⟨rfl, by simp [claims, h]⟩
theorem step_H {r r' : RS} {a a' : AS} (s : StepCase r a r' a') : r.H ≤ r'.H := by
  cases s <;> simp <;> omega
theorem step_T {r r' : RS} {a a' : AS} (s : StepCase r a r' a') : r.T ≤ r'.T := by
  cases s <;> simp <;> omega
theorem step_n {r r' : RS} {a a' : AS} (s : StepCase r a r' a') : r'.n = r.n := by cases s <;> rfl
theorem slot_same {r r' : RS} (h : r'.n = r.n) (p : Int) : slotOf r' p = slotOf r p := by unfold slotOf; rw [h]
theorem step_num {r r' : RS} {a a' : AS} (s : StepCase r a r' a') (h : a.next = 2) : r'.num = r.num := by
  cases s with
  | put hx _ => rw [h] at hx; exact absurd hx (by decide)
  | take hx _ => rw [h] at hx; exact absurd hx (by decide)
  | _ => rfl
theorem step_not3 {r r' : RS} {a a' : AS} (s : StepCase r a r' a') (h5 : a'.next ≠ 5) : a.next ≠ 3 := by
  cases s with
  | put => exact absurd rfl h5
  | take => exact absurd rfl h5
  | read h => rw [h]; decide
  | mine h => rw [h]; decide
  | refused h => rw [h]; decide
  | stale h => rw [h]; decide
  | lost h => rw [h]; decide
  | claimT h => rw [h]; decide
  | claimH h => rw [h]; decide
theorem step_claimT {r r' : RS} {a a' : AS} (s : StepCase r a r' a') (hp : a.pops = false) (h3 : a'.next = 3) : r'.T = r.T + 1 := by
  cases s with
  | claimT => rfl
  | claimH _ hq => rw [hp] at hq; exact absurd hq (by decide)
  | _ => simp at h3
/-- A step that ends well. -/
theorem step_well {r r' : RS} {a a' : AS} (s : StepCase r a r' a') (h5 : a'.next = 5) (hw : a'.well = true) : a.next = 3 ∧ a'.place = a.place ∧ r'.T = r.T ∧ r'.H = r.H ∧ (a.pops = true → a'.value = r.val (slotOf r a.place)) ∧ (a.pops = false → a'.value = a.value) := by
  cases s with
  | put h hp => exact ⟨h, rfl, rfl, rfl, (fun e => by rw [hp] at e; exact absurd e (by decide)), (fun _ => rfl)⟩
  | take h hp => exact ⟨h, rfl, rfl, rfl, (fun _ => rfl), (fun e => by rw [hp] at e; exact absurd e (by decide))⟩
  | refused => simp at hw
  | _ => simp at h5
theorem step_v2 {c : Int} {r r' : RS} {a a' : AS} {V : Int → Int} (hr : RingOk c r) (ha : ActOk r a) (s : StepCase r a r' a') (hv1 : a.pops = false → a.next = 3 → a.value = V a.place) (h : ∀ p, 0 ≤ p → p < r.T → r.num (slotOf r p) = p + 1 → r.val (slotOf r p) = V p)
    (p : Int) (h0 : 0 ≤ p) (h1 : p < r.T) (hn : r'.num (slotOf r' p) = p + 1) : r'.val (slotOf r' p) = V p := by
  have hn2 : 2 ≤ r.n := by have := hr.n3; omega
  rw [slot_same (step_n s)] at hn ⊢
  cases s with
  | put hx hp =>
    have hn : upd r.num (slotOf r a.place) (a.place + 1) (slotOf r p) = p + 1 := hn
    show upd r.val (slotOf r a.place) a.value (slotOf r p) = V p
    unfold upd at hn ⊢
    by_cases e : slotOf r p = slotOf r a.place
    · rw [if_pos e] at hn ⊢
      have : p = a.place := by omega
      subst this; exact hv1 hp hx
    · rw [if_neg e] at hn ⊢; exact h p h0 h1 hn
  | take hx hp =>
    have hn : upd r.num (slotOf r a.place) (a.place + r.n) (slotOf r p) = p + 1 := hn
    show r.val (slotOf r p) = V p
    unfold upd at hn
    by_cases e : slotOf r p = slotOf r a.place
    · rw [if_pos e] at hn
      have := slot_far hr.n3 e.symm (by omega); omega
    · rw [if_neg e] at hn; exact h p h0 h1 hn
  | _ => exact h p h0 h1 hn
theorem invV_step {c k : Int} {u : US} (h : InvV k u) (hI : InvA c u) (hkv : KV u) (hc : c ≤ 100000) (n : Int) (i : Nat) (a : AS) (ha : u.act i = some a) : InvV k (doStep n i a u) := by
  have hok := hI.acts i a ha
  have s := step_case hI.ring hc hok
  have hH := step_H s
  have hT := step_T s
  have hpops := step_pops s
  have hval : a.pops = false → (stepA u.r a).value = a.value := step_value s
  have h0 := hI.ring.h0
  have hHT := hI.ring.hT
  -- the new record
  have ho : ∀ V' : Int → Int, (∀ p, 0 ≤ p → p < u.r.T → V' p = u.V p) → ∀ d, d ∈ (doStep n i a u).out → d.well = true → (d.kind ≠ 2 → 0 ≤ d.pl ∧ d.pl < (stepR u.r a).T ∧ d.v = V' d.pl) ∧ (d.kind = 2 → 0 ≤ d.pl ∧ d.pl < (stepR u.r a).H ∧ d.v = V' d.pl) := by
    intro V' hV d hd hw
    rcases doStep_out n i a u d hd with hd | ⟨h5, hd⟩
    · have := h.o1 d hd hw
      refine ⟨fun e => ?_, fun e => ?_⟩
      · obtain ⟨a1, a2, a3⟩ := this.1 e; exact ⟨a1, by omega, by rw [a3, hV _ a1 a2]⟩
      · obtain ⟨a1, a2, a3⟩ := this.2 e; exact ⟨a1, by omega, by rw [a3, hV _ a1 (by omega)]⟩
    · have hw2 : (stepA u.r a).well = true := by rw [hd] at hw; exact hw
      obtain ⟨w1, w2, w3, w4, w5, w6⟩ := step_well s h5 hw2
      have hpl : d.pl = a.place := by rw [hd]; exact w2
      have hk : d.kind = kindOf a := by rw [hd, endD_kind]; exact (hkv i a ha).1
      have h3 := hok.n3 w1
      refine ⟨fun e => ?_, fun e => ?_⟩
      · have hp : a.pops = false := by
          cases hp : a.pops
          · rfl
          · rw [hk] at e; unfold kindOf at e; rw [hp] at e; exact absurd rfl e
        simp only [hp, endOf] at h3
        have h3 : 0 ≤ a.place ∧ a.place < u.r.T ∧ _ := h3
        refine ⟨by rw [hpl]; exact h3.1, by rw [hpl, w3]; exact h3.2.1, ?_⟩
        rw [hd, endD_v, if_neg (by rw [(hkv i a ha).1]; unfold kindOf; rw [hp]; decide), (hkv i a ha).2 hp, ← hd, hpl, hV _ h3.1 h3.2.1]
        exact h.v1 i a ha hp w1
      · have hp : a.pops = true := by
          cases hp : a.pops
          · rw [hk] at e; unfold kindOf at e; rw [hp] at e; exact absurd e (by decide)
          · rfl
        simp only [hp, endOf, b01] at h3
        have h3 : 0 ≤ a.place ∧ a.place < u.r.H ∧ u.r.num (slotOf u.r a.place) = a.place + 1 := h3
        refine ⟨by rw [hpl]; exact h3.1, by rw [hpl, w4]; exact h3.2.1, ?_⟩
        rw [hd, endD_v, if_pos (by rw [(hkv i a ha).1]; unfold kindOf; rw [hp]; rfl), ← hd, hpl, hV _ h3.1 (by omega)]
        have : valueOf (stepA u.r a) = (stepA u.r a).value := by unfold valueOf; rw [hpops, hp, hw2]; rfl
        rw [this, w5 hp]
        exact h.v2 _ h3.1 (by omega) h3.2.2
  rcases ghost_V s u.V with ⟨⟨g1, g2, g3, g4, g5, g6, g7, g8⟩, hV⟩ | ⟨g1, hV⟩
  · have hVl : (doStep n i a u).V = upI u.V u.r.T a.value := hV
    have hTl : (doStep n i a u).r.T = u.r.T + 1 := g4
    have hne : ∀ p, p < u.r.T → upI u.V u.r.T a.value p = u.V p := fun p hp => upI_ne _ _ _ (by omega)
    refine ⟨fun p p0 p1 => ?_, fun j b hj hb => ?_, fun p q p0 p1 q0 q1 e => ?_, fun j b hj hb h3 p p0 p1 => ?_, fun j l b d hjl hj hl hb hd b3 d3 => ?_, fun j b hj hb h3 => ?_, fun p p0 p1 hn => ?_, ?_⟩
    · rw [hTl] at p1; rw [hVl]
      by_cases e : p = u.r.T
      · subst e; rw [upI_same]; exact h.i2 i a ha g2
      · rw [upI_ne _ _ _ e]; exact h.i1 p p0 (by omega)
    · rcases doStep_act n i a u j b hj with ⟨_, _, e⟩ | ⟨_, e⟩
      · subst e; rw [hval g2]; exact h.i2 i a ha g2
      · exact h.i2 j b e hb
    · rw [hTl] at p1 q1; rw [hVl] at e
      by_cases ep : p = u.r.T <;> by_cases eq : q = u.r.T
      · omega
      · rw [ep, upI_same, upI_ne _ _ _ eq] at e; exact absurd e.symm (h.i4 i a ha g2 (by omega) q q0 (by omega))
      · rw [eq, upI_same, upI_ne _ _ _ ep] at e; exact absurd e (h.i4 i a ha g2 (by omega) p p0 (by omega))
      · rw [upI_ne _ _ _ ep, upI_ne _ _ _ eq] at e; exact h.i3 p q p0 (by omega) q0 (by omega) e
    · rw [hTl] at p1; rw [hVl]
      rcases doStep_act n i a u j b hj with ⟨_, _, e⟩ | ⟨hne2, e⟩
      · subst e; exact absurd g6 h3
      · by_cases ep : p = u.r.T
        · subst ep; rw [upI_same]; exact h.i5 i j a b (Ne.symm hne2) ha e g2 hb (by omega) h3
        · rw [upI_ne _ _ _ ep]; exact h.i4 j b e hb h3 p p0 (by omega)
    · rcases doStep_act n i a u j b hj with ⟨_, _, e⟩ | ⟨_, e⟩
      · subst e; exact absurd g6 b3
      · rcases doStep_act n i a u l d hl with ⟨_, _, e2⟩ | ⟨_, e2⟩
        · subst e2; exact absurd g6 d3
        · exact h.i5 j l b d hjl e e2 hb hd b3 d3
    · rw [hVl]
      rcases doStep_act n i a u j b hj with ⟨_, _, e⟩ | ⟨_, e⟩
      · subst e; rw [hval g2, g7, upI_same]
      · have h4 := (hI.acts j b e).n3 h3
        simp only [hb, endOf] at h4
        have h4 : 0 ≤ b.place ∧ b.place < u.r.T ∧ _ := h4
        rw [hne _ h4.2.1]; exact h.v1 j b e hb h3
    · rw [hTl] at p1
      by_cases ep : p = u.r.T
      · subst ep
        have hn : (stepR u.r a).num (slotOf (stepR u.r a) u.r.T) = u.r.T + 1 := hn
        rw [slot_same (step_n s)] at hn
        have : (stepR u.r a).num = u.r.num := step_num s g1
        rw [this, g8] at hn; omega
      · rw [hVl, hne p (by omega)]
        exact step_v2 hI.ring hok s (fun e1 e2 => h.v1 i a ha e1 e2) h.v2 p p0 (by omega) hn
    · rw [hVl]; exact ho _ (fun p p0 p1 => hne p p1)
  · have hVl : (doStep n i a u).V = u.V := hV
    have hTl : (doStep n i a u).r.T = u.r.T := g1
    refine ⟨fun p p0 p1 => ?_, fun j b hj hb => ?_, fun p q p0 p1 q0 q1 e => ?_, fun j b hj hb h3 p p0 p1 => ?_, fun j l b d hjl hj hl hb hd b3 d3 => ?_, fun j b hj hb h3 => ?_, fun p p0 p1 hn => ?_, ?_⟩
    · rw [hTl] at p1; rw [hVl]; exact h.i1 p p0 p1
    · rcases doStep_act n i a u j b hj with ⟨_, _, e⟩ | ⟨_, e⟩
      · subst e; rw [hpops] at hb; rw [hval hb]; exact h.i2 i a ha hb
      · exact h.i2 j b e hb
    · rw [hTl] at p1 q1; rw [hVl] at e; exact h.i3 p q p0 p1 q0 q1 e
    · rw [hTl] at p1; rw [hVl]
      rcases doStep_act n i a u j b hj with ⟨_, h5, e⟩ | ⟨_, e⟩
      · subst e; rw [hpops] at hb; rw [hval hb]
        refine h.i4 i a ha hb (fun e3 => ?_) p p0 p1
        exact step_not3 s h5 e3
      · exact h.i4 j b e hb h3 p p0 p1
    · have n3 : ∀ x : AS, x = stepA u.r a → x.next ≠ 5 → a.next ≠ 3 := by
        intro x hx h5 e3
        subst hx
        exact step_not3 s h5 e3
      rcases doStep_act n i a u j b hj with ⟨ej, h5, e⟩ | ⟨nj, e⟩ <;> rcases doStep_act n i a u l d hl with ⟨el, h5', e'⟩ | ⟨nl, e'⟩
      · omega
      · have hb' : a.pops = false := by rw [e, hpops] at hb; exact hb
        rw [e, hval hb']; exact h.i5 i l a d (Ne.symm nl) ha e' hb' hd (n3 b e (by rw [e]; exact h5)) d3
      · have hd' : a.pops = false := by rw [e', hpops] at hd; exact hd
        rw [e', hval hd']; exact h.i5 j i b a nj e ha hb hd' b3 (n3 d e' (by rw [e']; exact h5'))
      · exact h.i5 j l b d hjl e e' hb hd b3 d3
    · rw [hVl]
      rcases doStep_act n i a u j b hj with ⟨_, h5, e⟩ | ⟨_, e⟩
      · exfalso
        have hp : a.pops = false := by rw [e, hpops] at hb; exact hb
        rw [e] at h3
        have := step_claimT s hp h3; omega
      · exact h.v1 j b e hb h3
    · rw [hTl] at p1; rw [hVl]; exact step_v2 hI.ring hok s (fun e1 e2 => h.v1 i a ha e1 e2) h.v2 p p0 p1 hn
    · rw [hVl]; exact ho _ (fun p _ _ => rfl)
theorem invV_begin {k : Int} {u : US} (h : InvV k u) (hk : 0 ≤ k) (n : Int) (i : Nat) (d v : Int) (hv : v = k + 1) : InvV (k + 1) (doBegin n i d v u) := by
  have hact : ∀ j x, (doBegin n i d v u).act j = some x → (j = i ∧ x = beginA d v) ∨ (j ≠ i ∧ u.act j = some x) := by
    intro j x hj
    simp only [doBegin] at hj
    by_cases e : j = i
    · subst e; rw [upF_same] at hj; exact .inl ⟨rfl, (Option.some.inj hj).symm⟩
    · rw [upF_ne _ _ _ e] at hj; exact .inr ⟨e, hj⟩
  have hb3 : (beginA d v).next ≠ 3 := by unfold beginA; split <;> simp [pushA, popA]
  have hbv : (beginA d v).pops = false → (beginA d v).value = v := by unfold beginA; split <;> simp [pushA, popA]
  refine ⟨fun p p0 p1 => ?_, fun j b hj hb => ?_, h.i3, fun j b hj hb h3 p p0 p1 => ?_, fun j l b e hjl hj hl hb he b3 e3 => ?_, fun j b hj hb h3 => ?_, h.v2, h.o1⟩
  · have := h.i1 p p0 p1; exact ⟨this.1, by have := this.2; show u.V p ≤ k + 1; omega⟩
  · rcases hact j b hj with ⟨_, e⟩ | ⟨_, e⟩
    · subst e; rw [hbv hb]; omega
    · have := h.i2 j b e hb; omega
  · rcases hact j b hj with ⟨_, e⟩ | ⟨_, e⟩
    · subst e; rw [hbv hb]; have := h.i1 p p0 p1; show u.V p ≠ v; omega
    · exact h.i4 j b e hb h3 p p0 p1
  · rcases hact j b hj with ⟨ej, e1⟩ | ⟨nj, e1⟩ <;> rcases hact l e hl with ⟨el, e2⟩ | ⟨nl, e2⟩
    · omega
    · subst e1; rw [hbv hb]; have := h.i2 l e e2 he; omega
    · subst e2; rw [hbv he]; have := h.i2 j b e1 hb; omega
    · exact h.i5 j l b e hjl e1 e2 hb he b3 e3
  · rcases hact j b hj with ⟨_, e⟩ | ⟨_, e⟩
    · subst e; exact absurd h3 hb3
    · exact h.v1 j b e hb h3
theorem invV_open (c : Nat) : InvV 0 (openU c) :=
  ⟨fun p p0 p1 => by simp [openU, newR] at p1; omega, fun i a hh => (nomatch hh), fun p q p0 p1 => by simp [openU, newR] at p1; omega, fun i a hh => (nomatch hh), fun i j a b _ hh => (nomatch hh), fun i a hh => (nomatch hh), fun p p0 p1 => by simp [openU, newR] at p1; omega, fun d hd => by simp [openU] at hd⟩
theorem invV_mono {k l : Int} {u : US} (h : InvV k u) (hkl : k ≤ l) : InvV l u := ⟨fun p p0 p1 => by have := h.i1 p p0 p1; omega, fun i a hi hp => by have := h.i2 i a hi hp; omega, h.i3, h.i4, h.i5, h.v1, h.v2, h.o1⟩
/-- Each pick has its number, one more, for its value. -/
def Own (ps : List PK) : Prop := ∀ k, k < ps.length → (ps.getD k ⟨0, 0, 0⟩).v = k + 1
theorem invV_run {ps : List PK} {c : Nat} (hc : c = 2 ∨ c = 4 ∨ c = 8) (ho : Own ps) : ∀ k : Nat, k ≤ 1000 → k ≤ ps.length → InvV k (runTo ps k (openU c)) := by
  intro k
  induction k with
  | zero => intro _ _; exact invV_open c
  | succ k ih =>
    intro hk hl
    have h1 := ih (by omega) (by omega)
    have hI := invA_run (invA_open c hc) ps k (by omega)
    have hv := ho k (by omega)
    unfold runTo pickStep
    split
    · have := invV_begin h1 (by omega) k (thread (ps.getD k ⟨0, 0, 0⟩)) (ps.getD k ⟨0, 0, 0⟩).d (ps.getD k ⟨0, 0, 0⟩).v hv
      simpa using this
    · rename_i a ha
      exact invV_mono (invV_step h1 hI (kv_run hc k (by omega)) (by omega) _ _ _ ha) (by omega)
end Go.Proofs.Ytepbggoeajihbaa.Ring
