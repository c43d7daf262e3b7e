/- Times. -/
import Derived.Test.YtepbggoeajihbaaPo
set_option linter.unusedVariables false
set_option linter.unusedSimpArgs false
namespace Go.Proofs.Ytepbggoeajihbaa.Ring
open Go.RowKit

/-! ### Times -/
def tE (u : US) (pops : Bool) : Int → Int := if pops then u.tQ else u.tP
structure InvT (k : Int) (u : US) : Prop where
  t1 : ∀ b p q, 0 ≤ p → p < q → q < endOf u.r b → tE u b p < tE u b q
  t2 : ∀ b p, 0 ≤ p → p < endOf u.r b → tE u b p < k
  t3 : ∀ i a, u.act i = some a → (u.now i).beg < k ∧ (a.next = 3 → (u.now i).beg < tE u a.pops a.place)
  t4 : ∀ d, d ∈ u.out → d.well = true → d.beg < tE u (d.kind == 2) d.pl ∧ tE u (d.kind == 2) d.pl ≤ d.fin
theorem invT_open (c : Nat) : InvT 0 (openU c) :=
  ⟨fun b p q p0 pq q1 => by cases b <;> simp [openU, newR, endOf] at q1 <;> omega, fun b p p0 p1 => by cases b <;> simp [openU, newR, endOf] at p1 <;> omega, fun i a hh => (nomatch hh), fun d hd => by simp [openU] at hd⟩
theorem invT_begin {k : Int} {u : US} (h : InvT k u) (i : Nat) (d v : Int) : InvT (k + 1) (doBegin k i d v u) := by
  refine ⟨h.t1, fun b p p0 p1 => by have := h.t2 b p p0 p1; show tE u b p < k + 1; omega, fun j b hj => ?_, h.t4⟩
  simp only [doBegin] at hj ⊢
  by_cases e : j = i
  · subst e; rw [upF_same] at hj ⊢
    have := Option.some.inj hj; subst this
    refine ⟨by simp; omega, fun h3 => ?_⟩
    exfalso; revert h3; unfold beginA; split <;> simp [pushA, popA]
  · rw [upF_ne _ _ _ e] at hj ⊢
    have := h.t3 j b hj
    exact ⟨by omega, this.2⟩
/-- The ghosts of time behind a step. -/
theorem ghost_T {r r' : RS} {a a' : AS} (s : StepCase r a r' a') (n : Int) (u : US) (hu : u.r = r) (b : Bool) : (a.pops = b ∧ a.next = 2 ∧ a'.next = 3 ∧ a'.place = endOf r b ∧ endOf r' b = endOf r b + 1 ∧
      (if b then (if claims a a' && a.pops then upI u.tQ a.at_ n else u.tQ) else (if claims a a' && !a.pops then upI u.tP a.at_ n else u.tP)) = upI (tE u b) (endOf r b) n) ∨
    ((a.pops = b → a'.next ≠ 3) ∧ endOf r' b = endOf r b ∧ (if b then (if claims a a' && a.pops then upI u.tQ a.at_ n else u.tQ) else (if claims a a' && !a.pops then upI u.tP a.at_ n else u.tP)) = tE u b) := by
  cases s with
  | claimT h hp he hd =>
    cases b
    · exact .inl ⟨hp, h, rfl, he, rfl, by simp [claims, h, hp, he, tE, endOf]⟩
    · exact .inr ⟨fun e => by rw [hp] at e; exact absurd e (by decide), rfl, by simp [claims, h, hp, tE]⟩
  | claimH h hp he hd =>
    cases b
    · exact .inr ⟨fun e => by rw [hp] at e; exact absurd e (by decide), rfl, by simp [claims, h, hp, tE]⟩
    · exact .inl ⟨hp, h, rfl, he, rfl, by simp [claims, h, hp, he, tE, endOf]⟩
  | read h => exact .inr ⟨fun _ => by simp, rfl, by cases b <;> simp [claims, h, tE]⟩
  | mine h hd => exact .inr ⟨fun _ => by simp, rfl, by cases b <;> simp [claims, h, tE]⟩
  | refused h hd => exact .inr ⟨fun _ => by simp, rfl, by cases b <;> simp [claims, h, tE]⟩
  | stale h hd hl => exact .inr ⟨fun _ => by simp, rfl, by cases b <;> simp [claims, h, tE]⟩
  | lost h hl => exact .inr ⟨fun _ => by simp, rfl, by cases b <;> simp [claims, tE]⟩
  | put h hp => exact .inr ⟨fun _ => by simp, by cases b <;> rfl, by cases b <;> simp [claims, h, tE]⟩
  | take h hp => exact .inr ⟨fun _ => by simp, by cases b <;> rfl, by cases b <;> simp [claims, h, tE]⟩
theorem invT_step {c k : Int} {u : US} (h : InvT k u) (hI : InvA c u) (hkv : KV u) (hV : ∀ d, d ∈ u.out → d.well = true → 0 ≤ d.pl ∧ d.pl < endOf u.r (d.kind == 2)) (hc : c ≤ 100000) (i : Nat) (a : AS) (ha : u.act i = some a) : InvT (k + 1) (doStep k i a u) := by
  have hok := hI.acts i a ha
  have s := step_case hI.ring hc hok
  have hpops := step_pops s
  have hE : ∀ b, tE (doStep k i a u) b = (if b then (if claims a (stepA u.r a) && a.pops then upI u.tQ a.at_ k else u.tQ) else (if claims a (stepA u.r a) && !a.pops then upI u.tP a.at_ k else u.tP)) := fun b => by cases b <;> rfl
  -- below the old end the times are as they were
  have hold : ∀ b p, p < endOf u.r b → tE (doStep k i a u) b p = tE u b p := by
    intro b p hp
    rw [hE]
    rcases ghost_T s k u rfl b with ⟨_, _, _, _, _, e⟩ | ⟨_, _, e⟩
    · rw [e, upI_ne _ _ _ (by omega)]
    · rw [e]
  have hend : ∀ b, endOf u.r b ≤ endOf (stepR u.r a) b ∧ endOf (stepR u.r a) b ≤ endOf u.r b + 1 := by
    intro b
    rcases ghost_T s k u rfl b with ⟨_, _, _, _, e, _⟩ | ⟨_, e, _⟩ <;> rw [e] <;> omega
  have hnew : ∀ b, endOf (stepR u.r a) b = endOf u.r b + 1 → tE (doStep k i a u) b (endOf u.r b) = k := by
    intro b hb
    rw [hE]
    rcases ghost_T s k u rfl b with ⟨_, _, _, _, _, e⟩ | ⟨_, e1, _⟩
    · rw [e, upI_same]
    · omega
  have hnow : ∀ j, ((doStep k i a u).now j).beg = (u.now j).beg := by
    intro j; simp only [doStep]
    by_cases e : j = i
    · subst e; rw [upF_same]; split
      · exact endD_beg _ _ _ _
      · exact oneD_beg _ _ _
    · rw [upF_ne _ _ _ e]
  refine ⟨fun b p q p0 pq q1 => ?_, fun b p p0 p1 => ?_, fun j x hj => ?_, fun d hd hw => ?_⟩
  · have q1 : q < endOf (stepR u.r a) b := q1
    have := hend b
    rw [hold b p (by omega)]
    by_cases e : q < endOf u.r b
    · rw [hold b q e]; exact h.t1 b p q p0 pq e
    · have eq : q = endOf u.r b := by omega
      rw [eq, hnew b (by omega)]; exact h.t2 b p p0 (by omega)
  · have p1 : p < endOf (stepR u.r a) b := p1
    have := hend b
    by_cases e : p < endOf u.r b
    · rw [hold b p e]; have := h.t2 b p p0 e; omega
    · have ep : p = endOf u.r b := by omega
      rw [ep, hnew b (by omega)]; omega
  · rw [hnow j]
    rcases doStep_act k i a u j x hj with ⟨ej, h5, e⟩ | ⟨nj, e⟩
    · subst ej; subst e
      refine ⟨by have := (h.t3 j a ha).1; omega, fun h3 => ?_⟩
      rw [hpops]
      rcases ghost_T s k u rfl a.pops with ⟨_, _, _, e1, e2, _⟩ | ⟨e1, _, _⟩
      · rw [e1, hnew a.pops e2]; exact (h.t3 j a ha).1
      · exact absurd h3 (e1 rfl)
    · have := h.t3 j x e
      refine ⟨by omega, fun h3 => ?_⟩
      have h4 := (hI.acts j x e).n3 h3
      rw [hold x.pops x.place h4.2.1]; exact this.2 h3
  · rcases doStep_out k i a u d hd with hd | ⟨h5, hd⟩
    · have h1 := hV d hd hw
      rw [hold _ _ h1.2]; exact h.t4 d hd hw
    · have hw2 : (stepA u.r a).well = true := by rw [hd] at hw; exact hw
      obtain ⟨w1, w2, w3, w4, w5, w6⟩ := step_well s h5 hw2
      have hpl : d.pl = a.place := by rw [hd]; exact w2
      have hk : (d.kind == 2) = a.pops := by rw [hd, endD_kind, (hkv i a ha).1]; unfold kindOf; cases a.pops <;> rfl
      have h3 := hok.n3 w1
      have hb : d.beg = (u.now i).beg := by rw [hd, endD_beg]
      have hf : d.fin = k := by rw [hd]; rfl
      rw [hk, hpl, hold _ _ h3.2.1, hb, hf]
      exact ⟨(h.t3 i a ha).2 w1, by have := h.t2 a.pops a.place h3.1 h3.2.1; omega⟩
theorem invT_run {ps : List PK} {c : Nat} (hc : c = 2 ∨ c = 4 ∨ c = 8) (ho : Own ps) : ∀ k : Nat, k ≤ 1000 → k ≤ ps.length → InvT k (runTo ps k (openU c)) := by
  intro k
  induction k with
  | zero => intro _ _; exact invT_open c
  | succ k ih =>
    intro hk hl
    have h1 := ih (by omega) (by omega)
    have hI := invA_run (invA_open c hc) ps k (by omega)
    have hV := invV_run hc ho k (by omega) (by omega)
    unfold runTo pickStep
    split
    · have := invT_begin h1 (thread (ps.getD k ⟨0, 0, 0⟩)) (ps.getD k ⟨0, 0, 0⟩).d (ps.getD k ⟨0, 0, 0⟩).v
      simpa using this
    · rename_i a ha
      have := invT_step h1 hI (kv_run hc k (by omega)) (fun d hd hw => by
        have := hV.o1 d hd hw
        by_cases e : d.kind = 2
        · have h2 := this.2 e; rw [e]; exact ⟨h2.1, h2.2.1⟩
        · have h2 := this.1 e; rw [show (d.kind == 2) = false from by simpa using e]; exact ⟨h2.1, h2.2.1⟩) (by omega) (thread (ps.getD k ⟨0, 0, 0⟩)) a ha
      simpa using this
/-- First in, first out. -/
theorem orders {ps : List PK} {c : Nat} (hc : c = 2 ∨ c = 4 ∨ c = 8) (ho : Own ps) (a b x y : DS) (ha : a ∈ (run ps (openU c)).out) (hb : b ∈ (run ps (openU c)).out) (hx : x ∈ (run ps (openU c)).out) (hy : y ∈ (run ps (openU c)).out)
    (ka : a.kind ≠ 2) (kb : b.kind ≠ 2) (kx : x.kind = 2) (ky : y.kind = 2) (wa : a.well = true) (wb : b.well = true) (wx : x.well = true) (wy : y.well = true) (hab : a.fin < b.beg) (hxa : x.v = a.v) (hyb : y.v = b.v) : x.beg ≤ y.fin := by
  have hk : runLen ps ≤ 200 := by unfold runLen; omega
  have hl : runLen ps ≤ ps.length := by unfold runLen; omega
  have hT := invT_run hc ho (runLen ps) (by omega) hl
  have hV := invV_run hc ho (runLen ps) (by omega) hl
  have hI := invA_run (invA_open c hc) ps (runLen ps) (by omega)
  have hHT := hI.ring.hT
  unfold run at ha hb hx hy
  obtain ⟨a1, a2, a3⟩ := (hV.o1 a ha wa).1 ka
  obtain ⟨b1, b2, b3⟩ := (hV.o1 b hb wb).1 kb
  obtain ⟨x1, x2, x3⟩ := (hV.o1 x hx wx).2 kx
  obtain ⟨y1, y2, y3⟩ := (hV.o1 y hy wy).2 ky
  have exa : x.pl = a.pl := hV.i3 _ _ x1 (by omega) a1 a2 (by rw [← x3, ← a3, hxa])
  have eyb : y.pl = b.pl := hV.i3 _ _ y1 (by omega) b1 b2 (by rw [← y3, ← b3, hyb])
  have fa : (a.kind == 2) = false := by simpa using ka
  have fb : (b.kind == 2) = false := by simpa using kb
  have fx : (x.kind == 2) = true := by simpa using kx
  have fy : (y.kind == 2) = true := by simpa using ky
  have ta := hT.t4 a ha wa
  have tb := hT.t4 b hb wb
  have tx := hT.t4 x hx wx
  have ty := hT.t4 y hy wy
  rw [fa] at ta; rw [fb] at tb; rw [fx] at tx; rw [fy] at ty
  have hlt : a.pl < b.pl := by
    rcases Int.lt_or_le a.pl b.pl with h | h
    · exact h
    · rcases Int.lt_or_eq_of_le h with h2 | h2
      · have := hT.t1 false b.pl a.pl b1 h2 a2; omega
      · rw [h2] at tb; omega
  have := hT.t1 true x.pl y.pl x1 (by omega) y2
  omega
end Go.Proofs.Ytepbggoeajihbaa.Ring
