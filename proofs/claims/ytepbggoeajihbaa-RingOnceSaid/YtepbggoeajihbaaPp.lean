/- Places. -/
import Derived.Test.YtepbggoeajihbaaPo
set_option linter.unusedVariables false
set_option linter.unusedSimpArgs false
namespace Go.Proofs.Ytepbggoeajihbaa.Ring
open Go.RowKit

/-! ### Places: nothing is lost, nothing comes twice -/
def plOf (b : Bool) (l : List DS) : List Int := (l.filter fun d => d.well && ((d.kind == 2) == b)).map (·.pl)
theorem plOf_snoc (b : Bool) (l : List DS) (d : DS) : plOf b (l ++ [d]) = plOf b l ++ (if d.well && ((d.kind == 2) == b) then [d.pl] else []) := by
  unfold plOf; rw [List.filter_append, List.map_append]; congr 1
  cases h : (d.well && ((d.kind == 2) == b)) <;> simp [h]
structure InvP (u : US) : Prop where
  p1 : ∀ b p, 0 ≤ p → p < endOf u.r b → p ∈ plOf b u.out ∨ ∃ i a, u.act i = some a ∧ a.pops = b ∧ a.next = 3 ∧ a.place = p
  p2 : ∀ i a, u.act i = some a → a.next = 3 → ¬ a.place ∈ plOf a.pops u.out
  p3 : ∀ b, (plOf b u.out).Nodup
  p4 : ∀ b p, p ∈ plOf b u.out → 0 ≤ p ∧ p < endOf u.r b
  c : ∀ p, p ∈ plOf false u.out → p < u.r.num (slotOf u.r p)
theorem invP_open (c : Nat) : InvP (openU c) :=
  ⟨fun b p h1 h2 => by cases b <;> simp [openU, newR, endOf] at h2 <;> omega, fun i a h => (nomatch h), fun b => by simp [openU, plOf], fun b p h => by simp [openU, plOf] at h, fun p h => by simp [openU, plOf] at h⟩
theorem step_kinds {r r' : RS} {a a' : AS} (s : StepCase r a r' a') :
    (a.next = 3 ∧ a'.next = 5 ∧ a'.well = true ∧ a'.place = a.place ∧ r'.T = r.T ∧ r'.H = r.H ∧ (a.pops = false → r'.num (slotOf r a.place) = a.place + 1)) ∨
    (a.next = 2 ∧ a'.next = 3 ∧ a'.place = endOf r a.pops ∧ endOf r' a.pops = endOf r a.pops + 1 ∧ ∀ b, b ≠ a.pops → endOf r' b = endOf r b) ∨
    (a.next ≠ 3 ∧ a'.next ≠ 3 ∧ (a'.next = 5 → a'.well = false) ∧ r'.T = r.T ∧ r'.H = r.H) := by
  cases s with
  | read h => exact .inr (.inr ⟨by rw [h]; decide, by simp, by simp, rfl, rfl⟩)
  | mine h => exact .inr (.inr ⟨by rw [h]; decide, by simp, by simp, rfl, rfl⟩)
  | refused h => exact .inr (.inr ⟨by rw [h]; decide, by simp, by simp, rfl, rfl⟩)
  | stale h => exact .inr (.inr ⟨by rw [h]; decide, by simp, by simp, rfl, rfl⟩)
  | lost h => exact .inr (.inr ⟨by rw [h]; decide, by simp, by simp, rfl, rfl⟩)
  | claimT h hp he => exact .inr (.inl ⟨h, rfl, by simp [endOf, hp, he], by simp [endOf, hp], fun b hb => by rw [hp] at hb; cases b <;> simp [endOf] at hb ⊢⟩)
  | claimH h hp he => exact .inr (.inl ⟨h, rfl, by simp [endOf, hp, he], by simp [endOf, hp], fun b hb => by rw [hp] at hb; cases b <;> simp [endOf] at hb ⊢⟩)
  | put h hp => exact .inl ⟨h, rfl, rfl, rfl, rfl, rfl, fun _ => by simp [upd]⟩
  | take h hp => exact .inl ⟨h, rfl, rfl, rfl, rfl, rfl, fun e => by rw [hp] at e; exact absurd e (by decide)⟩
theorem num_mono {c : Int} {r r' : RS} {a a' : AS} (hr : RingOk c r) (ha : ActOk r a) (s : StepCase r a r' a') (x : Nat) : r.num x ≤ r'.num x := by
  have := hr.n3
  cases s with
  | put h hp =>
    obtain ⟨_, _, g⟩ := ha.n3 h
    simp [hp, b01] at g
    show r.num x ≤ upd r.num _ _ x
    unfold upd; split
    · rename_i e; rw [e, g]; omega
    · exact Int.le_refl _
  | take h hp =>
    obtain ⟨_, _, g⟩ := ha.n3 h
    simp [hp, b01] at g
    show r.num x ≤ upd r.num _ _ x
    unfold upd; split
    · rename_i e; rw [e, g]; omega
    · exact Int.le_refl _
  | _ => exact Int.le_refl _
theorem endOf_eq {r r' : RS} (h1 : r'.T = r.T) (h2 : r'.H = r.H) (b : Bool) : endOf r' b = endOf r b := by unfold endOf; rw [h1, h2]
theorem kind_pops (a : AS) (b : Bool) : ((kindOf a == 2) == b) = (a.pops == b) := by unfold kindOf; cases a.pops <;> cases b <;> rfl
theorem invP_step {c : Int} {u : US} (h : InvP u) (hI : InvA c u) (hkv : KV u) (hc : c ≤ 100000) (n : Int) (i : Nat) (a : AS) (ha : u.act i = some a) : InvP (doStep n i a u) := by
  have hA := hI.acts i a ha
  have s := step_case hI.ring hc hA
  have hk : ∀ d, d = endD n (stepA u.r a) (oneD a (stepA u.r a) (u.now i)) → d.kind = kindOf a ∧ d.pl = (stepA u.r a).place ∧ d.well = (stepA u.r a).well := by
    intro d hd; subst hd
    exact ⟨(endD_kind _ _ _ _).trans (hkv i a ha).1, rfl, rfl⟩
  have hr : (doStep n i a u).r = stepR u.r a := rfl
  have hn := step_n s
  rcases step_kinds s with ⟨e3, e5, ew, ep, eT, eH, en⟩ | ⟨e2, e3, ep, ee, eo⟩ | ⟨e3, e3', ew, eT, eH⟩
  · have hout : (doStep n i a u).out = u.out ++ [endD n (stepA u.r a) (oneD a (stepA u.r a) (u.now i))] := by simp only [doStep]; rw [if_pos e5]
    obtain ⟨k1, k2, k3⟩ := hk _ rfl
    have hpl : ∀ b, plOf b (doStep n i a u).out = plOf b u.out ++ (if a.pops = b then [a.place] else []) := by
      intro b
      rw [hout, plOf_snoc, k1, k2, k3, ew, ep, kind_pops]
      cases a.pops <;> cases b <;> rfl
    have hact : ∀ j x, (doStep n i a u).act j = some x → j ≠ i ∧ u.act j = some x := fun j x hj => by
      rcases doStep_act n i a u j x hj with ⟨_, h5, _⟩ | hh
      · exact absurd e5 h5
      · exact hh
    have hP := hA.n3 e3
    refine ⟨fun b p h0 h1 => ?_, fun j x hj hx => ?_, fun b => ?_, fun b p hp => ?_, fun p hp => ?_⟩
    · rw [hr, endOf_eq eT eH] at h1
      rw [hpl]
      rcases h.p1 b p h0 h1 with hh | ⟨j, x, hj, hxp, hx3, hxl⟩
      · exact .inl (List.mem_append_left _ hh)
      · by_cases ej : j = i
        · subst ej
          rw [ha] at hj; have hj := Option.some.inj hj; subst hj
          exact .inl (List.mem_append_right _ (by rw [if_pos hxp, hxl]; simp))
        · exact .inr ⟨j, x, by simp only [doStep]; rw [upF_ne _ _ _ ej]; exact hj, hxp, hx3, hxl⟩
    · obtain ⟨hne, hj⟩ := hact j x hj
      rw [hpl]
      intro hm
      rcases List.mem_append.1 hm with hm | hm
      · exact h.p2 j x hj hx hm
      · by_cases g : a.pops = x.pops
        · rw [if_pos g] at hm
          exact hI.dist j i x a hne hj ha hx e3 g.symm (List.mem_singleton.1 hm)
        · rw [if_neg g] at hm; cases hm
    · rw [hpl]
      by_cases g : a.pops = b
      · rw [if_pos g]
        refine List.nodup_append.2 ⟨h.p3 b, by simp, fun x hx y hy e => ?_⟩
        rw [List.mem_singleton.1 hy] at e
        subst e
        have := h.p2 i a ha e3
        rw [g] at this; exact this hx
      · rw [if_neg g, List.append_nil]; exact h.p3 b
    · rw [hr, endOf_eq eT eH]
      rw [hpl] at hp
      rcases List.mem_append.1 hp with hp | hp
      · exact h.p4 b p hp
      · by_cases g : a.pops = b
        · rw [if_pos g] at hp; rw [List.mem_singleton.1 hp, ← g]; exact ⟨hP.1, hP.2.1⟩
        · rw [if_neg g] at hp; cases hp
    · rw [hr, slot_same hn]
      rw [hpl] at hp
      rcases List.mem_append.1 hp with hp | hp
      · exact Int.lt_of_lt_of_le (h.c p hp) (num_mono hI.ring hA s _)
      · by_cases g : a.pops = false
        · rw [if_pos g] at hp; rw [List.mem_singleton.1 hp, en g]; omega
        · rw [if_neg g] at hp; cases hp
  · have hout : (doStep n i a u).out = u.out := by simp only [doStep]; rw [if_neg (by omega)]
    refine ⟨fun b p h0 h1 => ?_, fun j x hj hx => ?_, fun b => by rw [hout]; exact h.p3 b, fun b p hp => ?_, fun p hp => ?_⟩
    · rw [hout]
      rw [hr] at h1
      have old : p < endOf u.r b → (p ∈ plOf b u.out ∨ ∃ j x, (doStep n i a u).act j = some x ∧ x.pops = b ∧ x.next = 3 ∧ x.place = p) := by
        intro h2
        rcases h.p1 b p h0 h2 with hh | ⟨j, x, hj, hxp, hx3, hxl⟩
        · exact .inl hh
        · by_cases ej : j = i
          · subst ej; rw [ha] at hj; have hj := Option.some.inj hj; subst hj; omega
          · exact .inr ⟨j, x, by simp only [doStep]; rw [upF_ne _ _ _ ej]; exact hj, hxp, hx3, hxl⟩
      by_cases g : b = a.pops
      · subst g
        rw [ee] at h1
        by_cases g2 : p = endOf u.r a.pops
        · exact .inr ⟨i, stepA u.r a, by simp only [doStep]; rw [upF_same, if_neg (by omega)], step_pops s, e3, by rw [ep, g2]⟩
        · exact old (by omega)
      · rw [eo b g] at h1; exact old h1
    · rw [hout]
      rcases doStep_act n i a u j x hj with ⟨_, _, rfl⟩ | ⟨hne, hj⟩
      · rw [step_pops s, ep]
        intro hm
        have := (h.p4 _ _ hm).2; omega
      · exact h.p2 j x hj hx
    · rw [hout] at hp
      have := h.p4 b p hp
      rw [hr]
      by_cases g : b = a.pops
      · subst g; rw [ee]; omega
      · rw [eo b g]; exact this
    · rw [hout] at hp
      rw [hr, slot_same hn]
      exact Int.lt_of_lt_of_le (h.c p hp) (num_mono hI.ring hA s _)
  · have hpl : ∀ b, plOf b (doStep n i a u).out = plOf b u.out := by
      intro b
      simp only [doStep]
      by_cases e5 : (stepA u.r a).next = 5
      · rw [if_pos e5, plOf_snoc, (hk _ rfl).2.2, ew e5]; simp
      · rw [if_neg e5]
    refine ⟨fun b p h0 h1 => ?_, fun j x hj hx => ?_, fun b => by rw [hpl]; exact h.p3 b, fun b p hp => ?_, fun p hp => ?_⟩
    · rw [hpl]
      rw [hr, endOf_eq eT eH] at h1
      rcases h.p1 b p h0 h1 with hh | ⟨j, x, hj, hxp, hx3, hxl⟩
      · exact .inl hh
      · by_cases ej : j = i
        · subst ej; rw [ha] at hj; have hj := Option.some.inj hj; subst hj; omega
        · exact .inr ⟨j, x, by simp only [doStep]; rw [upF_ne _ _ _ ej]; exact hj, hxp, hx3, hxl⟩
    · rw [hpl]
      rcases doStep_act n i a u j x hj with ⟨_, _, rfl⟩ | ⟨hne, hj⟩
      · exact absurd hx e3'
      · exact h.p2 j x hj hx
    · rw [hpl] at hp; rw [hr, endOf_eq eT eH]; exact h.p4 b p hp
    · rw [hpl] at hp
      rw [hr, slot_same hn]
      exact Int.lt_of_lt_of_le (h.c p hp) (num_mono hI.ring hA s _)
theorem invP_begin {u : US} (h : InvP u) (n : Int) (i : Nat) (ha : u.act i = none) (d v : Int) : InvP (doBegin n i d v u) := by
  refine ⟨fun b p h0 h1 => ?_, fun j x hj hx => ?_, h.p3, h.p4, h.c⟩
  · rcases h.p1 b p h0 h1 with hh | ⟨j, x, hj, hxp, hx3, hxl⟩
    · exact .inl hh
    · have ej : j ≠ i := fun e => by subst e; rw [ha] at hj; cases hj
      exact .inr ⟨j, x, by simp only [doBegin]; rw [upF_ne _ _ _ ej]; exact hj, hxp, hx3, hxl⟩
  · simp only [doBegin] at hj
    by_cases ej : j = i
    · subst ej; rw [upF_same] at hj; have := Option.some.inj hj; subst this
      unfold beginA at hx; split at hx <;> simp [pushA, popA] at hx
    · rw [upF_ne _ _ _ ej] at hj; exact h.p2 j x hj hx
theorem invP_run {ps : List PK} {c : Nat} (hc : c = 2 ∨ c = 4 ∨ c = 8) : ∀ k : Nat, k ≤ 1000 → InvP (runTo ps k (openU c)) := by
  intro k
  induction k with
  | zero => intro _; exact invP_open c
  | succ k ih =>
    intro hk
    have h1 := ih (by omega)
    have hI := invA_run (invA_open c hc) ps k (by omega)
    unfold runTo pickStep
    split
    · rename_i ha; exact invP_begin h1 _ _ ha _ _
    · rename_i a ha; exact invP_step h1 hI (kv_run hc k (by omega)) (by omega) _ _ _ ha
/-- What holds is kept while all go on to their ends. -/
theorem all_goOn {c k : Int} {u : US} {i : Nat} (h : InvP u) (hV : InvV k u) (hI : InvA c u) (hkv : KV u) (hc : c ≤ 1000) : ∀ m : Nat, m ≤ 1000 → InvP (goOn i m u) ∧ InvV k (goOn i m u) := by
  intro m
  induction m with
  | zero => intro _; exact ⟨h, hV⟩
  | succ m ih =>
    intro hm
    obtain ⟨g1, g2⟩ := ih (by omega)
    rw [goOn_snoc]
    split
    · exact ⟨g1, g2⟩
    · rename_i a ha
      have hI' := invA_goOn (i := i) m hI (by omega)
      have hk' := kv_goOn (i := i) hkv hI hc m (by omega)
      exact ⟨invP_step g1 hI' hk' (by omega) _ _ _ ha, invV_step g2 hI' hk' (by omega) _ _ _ ha⟩
theorem all_restTo {c k : Int} {u : US} (h : InvP u) (hV : InvV k u) (hI : InvA c u) (hkv : KV u) (hc : c ≤ 500) : ∀ m : Nat, m ≤ 6 → InvP (restTo m u) ∧ InvV k (restTo m u) ∧ KV (restTo m u) := by
  intro m
  induction m with
  | zero => intro _; exact ⟨h, hV, hkv⟩
  | succ m ih =>
    intro hm
    obtain ⟨g1, g2, g3⟩ := ih (by omega)
    have hI' := invA_restTo hI (by omega) m (by omega)
    unfold restTo
    obtain ⟨k1, k2⟩ := all_goOn (i := m) g1 g2 hI' g3 (by omega) 20 (by omega)
    exact ⟨k1, k2, kv_goOn g3 hI' (by omega) 20 (by omega)⟩
theorem goOn_six {i : Nat} (hi : i < 6) (m : Nat) (u : US) (h : ∀ j, 6 ≤ j → u.act j = none) : ∀ j, 6 ≤ j → (goOn i m u).act j = none := fun j hj => by
  rw [goOn_other (by omega)]; exact h j hj
theorem restTo_six {u : US} (h : ∀ j, 6 ≤ j → u.act j = none) : ∀ m, m ≤ 6 → ∀ j, 6 ≤ j → (restTo m u).act j = none := by
  intro m
  induction m with
  | zero => intro _; exact h
  | succ m ih => intro hm; unfold restTo; exact goOn_six (by omega) 20 _ (ih (by omega))
/-! ### At rest -/
structure AtRest (c k : Int) (u : US) : Prop where
  inv : InvA c u
  pl : InvP u
  va : InvV k u
  none_ : ∀ i, u.act i = none
theorem at_rest {ps : List PK} {c : Nat} (hc : c = 2 ∨ c = 4 ∨ c = 8) (ho : Own ps) : AtRest 320 200 (rest (run ps (openU c))) := by
  have hk : runLen ps ≤ 200 := by unfold runLen; omega
  have hl : runLen ps ≤ ps.length := by unfold runLen; omega
  have hI : InvA 200 (run ps (openU c)) := invA_mono (invA_run (invA_open c hc) ps (runLen ps) (by omega)) (by omega)
  have hV : InvV 200 (run ps (openU c)) := invV_mono (invV_run hc ho (runLen ps) (by omega) hl) (by omega)
  have hP : InvP (run ps (openU c)) := invP_run hc (runLen ps) (by omega)
  have hK : KV (run ps (openU c)) := kv_run hc (runLen ps) (by omega)
  obtain ⟨g1, g2, g3⟩ := all_restTo hP hV hI hK (by omega) 6 (by omega)
  have h6 := six_run (ps := ps) (c := c) (runLen ps)
  refine ⟨?_, g1, g2, fun i => ?_⟩
  · have := invA_restTo hI (by omega) 6 (by omega)
    exact invA_mono this (by omega)
  · by_cases hi : i < 6
    · exact rest_none hI (by omega) 6 (by omega) i hi
    · exact restTo_six (fun j hj => h6 j hj) 6 (by omega) i (by omega)
theorem AtRest.mem {c k : Int} {u : US} (h : AtRest c k u) (b : Bool) (p : Int) : p ∈ plOf b u.out ↔ 0 ≤ p ∧ p < endOf u.r b := by
  refine ⟨h.pl.p4 b p, fun ⟨h0, h1⟩ => ?_⟩
  rcases h.pl.p1 b p h0 h1 with hh | ⟨i, a, hi, _⟩
  · exact hh
  · rw [h.none_] at hi; cases hi
def upto (n : Nat) : List Int := (List.range n).map (fun i : Nat => (i : Int))
theorem mem_upto (n : Nat) (p : Int) : p ∈ upto n ↔ 0 ≤ p ∧ p < n := by
  unfold upto
  rw [List.mem_map]
  constructor
  · rintro ⟨i, hi, rfl⟩; have := List.mem_range.1 hi; omega
  · rintro ⟨h0, h1⟩; exact ⟨p.toNat, List.mem_range.2 (by omega), by omega⟩
theorem nodup_upto (n : Nat) : (upto n).Nodup := by
  unfold upto
  refine List.Pairwise.map _ (fun a b h e => h (by omega)) List.nodup_range
theorem AtRest.perm {c k : Int} {u : US} (h : AtRest c k u) (b : Bool) (n : Nat) (hn : (n : Int) = endOf u.r b) : (plOf b u.out).Perm (upto n) :=
  (List.perm_ext_iff_of_nodup (h.pl.p3 b) (nodup_upto n)).2 fun p => by rw [h.mem, mem_upto, hn]
/-- What the records say, through the places. -/
theorem AtRest.values {c k : Int} {u : US} (h : AtRest c k u) : popsOf u.out = (plOf true u.out).map u.V ∧ pushesOf u.out = (plOf false u.out).map u.V := by
  have key : ∀ l : List DS, (∀ d ∈ l, d ∈ u.out) → popsOf l = (plOf true l).map u.V ∧ pushesOf l = (plOf false l).map u.V := by
    intro l
    induction l with
    | nil => intro _; exact ⟨rfl, rfl⟩
    | cons d l ih =>
      intro hm
      obtain ⟨i1, i2⟩ := ih (fun x hx => hm x (List.mem_cons_of_mem _ hx))
      have hd := h.va.o1 d (hm d List.mem_cons_self)
      have c1 : popsOf (d :: l) = if d.well && (d.kind == 2) then d.v :: popsOf l else popsOf l := by unfold popsOf; rw [List.filter_cons]; split <;> rfl
      have c2 : pushesOf (d :: l) = if d.well && !(d.kind == 2) then d.v :: pushesOf l else pushesOf l := by unfold pushesOf; rw [List.filter_cons]; split <;> rfl
      have c3 : ∀ b, plOf b (d :: l) = if d.well && ((d.kind == 2) == b) then d.pl :: plOf b l else plOf b l := by intro b; unfold plOf; rw [List.filter_cons]; split <;> rfl
      rw [c1, c2, c3, c3]
      cases hw : d.well with
      | false => exact ⟨by simpa using i1, by simpa using i2⟩
      | true =>
        by_cases hk : d.kind = 2
        · have := (hd hw).2 hk
          have e : (d.kind == 2) = true := by simpa using hk
          rw [e]
          simp only [Bool.true_and, Bool.not_true, Bool.and_false, if_true, List.map_cons, beq_self_eq_true]
          exact ⟨by rw [i1, this.2.2], by simpa using i2⟩
        · have := (hd hw).1 hk
          have e : (d.kind == 2) = false := by simpa using hk
          rw [e]
          simp only [Bool.true_and, Bool.not_false, Bool.and_false, if_true, List.map_cons, beq_self_eq_true]
          exact ⟨by simpa using i1, by rw [i2, this.2.2]⟩
  exact key u.out (fun d hd => hd)
/-- The ring that TryPop empties. -/
structure WInv (r : RS) (V : Int → Int) : Prop where
  n3 : r.n = 2 ∨ r.n = 4 ∨ r.n = 8
  h0 : 0 ≤ r.H
  hT : r.H ≤ r.T
  tb : r.T ≤ r.H + r.n
  tc : r.T ≤ 1000
  nn : ∀ s, 0 ≤ r.num s
  a : ∀ p, r.T ≤ p → r.num (slotOf r p) ≤ p
  f : ∀ p, r.H ≤ p → p < r.T → r.num (slotOf r p) = p + 1 ∧ r.val (slotOf r p) = V p
theorem AtRest.winv {c k : Int} {u : US} (h : AtRest c k u) (hc : c ≤ 1000) : WInv u.r u.V := by
  have hr := h.inv.ring
  refine ⟨hr.n3, hr.h0, hr.hT, hr.tb, by have := hr.tc; omega, hr.nn, hr.a, fun p h0 h1 => ?_⟩
  have h2 := h.pl.c p ((h.mem false p).2 ⟨by have := hr.h0; omega, h1⟩)
  have h3 := hr.b p h0
  have e : u.r.num (slotOf u.r p) = p + 1 := by omega
  exact ⟨e, h.va.v2 p (by have := hr.h0; omega) h1 e⟩
theorem w_pop {r : RS} {V : Int → Int} (h : WInv r V) (hl : r.H < r.T) :
    ∃ R A, Solo r popA R A ∧ A.well = true ∧ valueOf A = V r.H ∧ WInv R V ∧ R.H = r.H + 1 ∧ R.T = r.T := by
  have hh := h.h0; have htc := h.tc
  obtain ⟨e1, e2⟩ := h.f r.H (by omega) hl
  have hn : r.n ≤ 8 := by have := h.n3; omega
  have hs := solo_pop (r := r) h.h0 (by omega) hn e1
  refine ⟨_, _, hs, rfl, ?_, ?_, rfl, rfl⟩
  · simp [valueOf]; exact e2
  · have h3 := h.n3
    refine ⟨h.n3, by show 0 ≤ r.H + 1; omega, by show r.H + 1 ≤ r.T; omega, by show r.T ≤ r.H + 1 + r.n; have := h.tb; omega, h.tc, fun s => ?_, fun p hp => ?_, fun p h0 h1 => ?_⟩
    · show 0 ≤ upd r.num _ _ s
      unfold upd; split; omega; exact h.nn s
    · have hp : r.T ≤ p := hp
      show upd r.num (slotOf r r.H) _ (slotOf r p) ≤ p
      unfold upd; split
      · rename_i e; have := slot_far h.n3 e.symm (by omega); omega
      · exact h.a p hp
    · have h0 : r.H + 1 ≤ p := h0
      have h1 : p < r.T := h1
      have hne : slotOf r p ≠ slotOf r r.H := fun e => by have := slot_far h.n3 e.symm (by omega); have := h.tb; omega
      obtain ⟨f1, f2⟩ := h.f p (by omega) h1
      refine ⟨?_, f2⟩
      show upd r.num (slotOf r r.H) _ (slotOf r p) = p + 1
      unfold upd; rw [if_neg hne]; exact f1
theorem w_empty {r : RS} {V : Int → Int} (h : WInv r V) (hl : r.H = r.T) : ∃ A, Solo r popA r A ∧ A.well = false ∧ valueOf A = 0 := by
  have := h.tc
  exact ⟨_, solo_pop_empty h.h0 (by omega) (h.nn _) (by have := h.a r.T (Int.le_refl _); rw [hl]; exact this), rfl, rfl⟩
/-- The whole count. -/
theorem perm_all {c k : Int} {u : US} (h : AtRest c k u) (t : List Int) (L F : List DS) (hL : u.out = L ++ F) (ht : t = (upto (u.r.T - u.r.H).toNat).map fun i => u.V (u.r.H + i)) :
    (pushesOf F ++ pushesOf L).Nodup ∧ (popsOf F ++ t ++ popsOf L).Perm (pushesOf F ++ pushesOf L) := by
  have hr := h.inv.ring
  have hH := hr.h0; have hT := hr.hT
  obtain ⟨v1, v2⟩ := h.values
  have a1 : popsOf u.out = popsOf L ++ popsOf F := by rw [hL]; simp [popsOf]
  have a2 : pushesOf u.out = pushesOf L ++ pushesOf F := by rw [hL]; simp [pushesOf]
  have q2 := h.perm false u.r.T.toNat (by simp [endOf]; omega)
  have q1 := h.perm true u.r.H.toNat (by simp [endOf]; omega)
  have m2 : (pushesOf F ++ pushesOf L).Perm ((upto u.r.T.toNat).map u.V) := (List.perm_append_comm).trans (by rw [← a2, v2]; exact q2.map _)
  have m1 : (popsOf F ++ t ++ popsOf L).Perm ((upto u.r.T.toNat).map u.V) := by
    have e : upto u.r.T.toNat = upto u.r.H.toNat ++ (upto (u.r.T - u.r.H).toNat).map (fun i => u.r.H + i) := by
      have : u.r.T.toNat = u.r.H.toNat + (u.r.T - u.r.H).toNat := by omega
      rw [this]; unfold upto; rw [List.range_add, List.map_append, List.map_map, List.map_map]
      congr 1
      refine List.map_congr_left fun i _ => ?_
      simp; omega
    rw [e, List.map_append, List.map_map]
    have p1 : (popsOf F ++ t ++ popsOf L).Perm ((popsOf L ++ popsOf F) ++ t) := by
      rw [List.append_assoc]
      refine (List.perm_append_comm (l₁ := popsOf F)).trans ?_
      rw [List.append_assoc]
      refine (List.perm_append_comm (l₁ := t)).trans ?_
      exact List.Perm.refl _
    refine p1.trans ?_
    rw [← a1, v1, ht]
    exact List.Perm.append (q1.map _) (List.Perm.refl _)
  refine ⟨?_, m1.trans m2.symm⟩
  refine (m2.nodup_iff).2 ?_
  refine List.pairwise_map.2 ((nodup_upto _).imp_of_mem ?_)
  intro p q hp hq hne e
  rw [mem_upto] at hp hq
  exact hne (h.va.i3 p q hp.1 (by omega) hq.1 (by omega) e)
end Go.Proofs.Ytepbggoeajihbaa.Ring
