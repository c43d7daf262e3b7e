/- The plain play of a ring: what holds is kept. -/
import Derived.Test.YtepbggoeajihbaaDc
set_option linter.unusedVariables false
set_option linter.unusedSimpArgs false
namespace Go.Proofs.Ytepbggoeajihbaa.Ring
open Go.RowKit

/-! ### The plain play of a ring by threads -/
structure PK where
  t : Int
  d : Int
  v : Int
/-- What is told of an act that ended (pl: its place, which the program doesn't keep there). -/
structure DS where
  kind : Int
  v : Int
  beg : Int
  fin : Int
  well : Bool
  ret : Int
  pl : Int
def zeroD : DS := ⟨0, 0, 0, 0, false, 0, 0⟩
def upF {α : Type} (f : Nat → α) (i : Nat) (x : α) : Nat → α := fun j => if j = i then x else f j
theorem upF_same {α : Type} (f : Nat → α) (i : Nat) (x : α) : upF f i x i = x := by simp [upF]
theorem upF_ne {α : Type} (f : Nat → α) (i : Nat) (x : α) {j : Nat} (h : j ≠ i) : upF f i x j = f j := by simp [upF, h]
def upI {α : Type} (f : Int → α) (i : Int) (x : α) : Int → α := fun j => if j = i then x else f j
/-- Threads at a ring; V: the value of the push that claimed a place; tP, tQ: when it was claimed; own: the claims of a thread; ret: how often it began again. -/
structure US where
  r : RS
  act : Nat → Option AS
  now : Nat → DS
  out : List DS
  V : Int → Int
  tP : Int → Int
  tQ : Int → Int
  own : Nat → Int
  ret : Nat → Int
def beginA (d v : Int) : AS := if d % 4 < 2 then pushA v else popA
def endD (n : Int) (a : AS) (d : DS) : DS := { d with fin := n, well := a.well, v := if d.kind = 2 then valueOf a else d.v, pl := a.place }
def again (a a' : AS) : Bool := decide (1 ≤ a.next) && decide (a.next ≤ 3) && decide (a'.next = 0)
def claims (a a' : AS) : Bool := decide (a.next = 2) && decide (a'.next = 3)
def oneD (a a' : AS) (d : DS) : DS := if again a a' then { d with ret := d.ret + 1 } else d
def doBegin (n : Int) (i : Nat) (d v : Int) (u : US) : US :=
  { u with act := upF u.act i (some (beginA d v)), now := upF u.now i ⟨kindOf (beginA d v), v, n, 0, false, 0, 0⟩ }
def doStep (n : Int) (i : Nat) (a : AS) (u : US) : US :=
  { r := stepR u.r a
    act := upF u.act i (if (stepA u.r a).next = 5 then none else some (stepA u.r a))
    now := upF u.now i (if (stepA u.r a).next = 5 then endD n (stepA u.r a) (oneD a (stepA u.r a) (u.now i)) else oneD a (stepA u.r a) (u.now i))
    out := if (stepA u.r a).next = 5 then u.out ++ [endD n (stepA u.r a) (oneD a (stepA u.r a) (u.now i))] else u.out
    V := if claims a (stepA u.r a) && !a.pops then upI u.V a.at_ a.value else u.V
    tP := if claims a (stepA u.r a) && !a.pops then upI u.tP a.at_ n else u.tP
    tQ := if claims a (stepA u.r a) && a.pops then upI u.tQ a.at_ n else u.tQ
    own := if claims a (stepA u.r a) then upF u.own i (u.own i + 1) else u.own
    ret := if again a (stepA u.r a) then upF u.ret i (u.ret i + 1) else u.ret }
def thread (p : PK) : Nat := (p.t % 6).toNat
def pickStep (n : Int) (p : PK) (u : US) : US := match u.act (thread p) with
  | none => doBegin n (thread p) p.d p.v u
  | some a => doStep n (thread p) a u
def runTo (ps : List PK) : Nat → US → US
  | 0, u => u
  | k + 1, u => pickStep k (ps.getD k ⟨0, 0, 0⟩) (runTo ps k u)
def runLen (ps : List PK) : Nat := min ps.length 200
def run (ps : List PK) (u : US) : US := runTo ps (runLen ps) u
/-- A thread goes on alone, to the end of its act. -/
def goOn (i : Nat) : Nat → US → US
  | 0, u => u
  | k + 1, u => match u.act i with
    | none => u
    | some a => goOn i k (doStep 1000 i a u)
def restTo : Nat → US → US
  | 0, u => u
  | k + 1, u => goOn k 20 (restTo k u)
def rest (u : US) : US := restTo 6 u
def openU (n : Nat) : US := ⟨newR n, fun _ => none, fun _ => zeroD, [], fun _ => 0, fun _ => 0, fun _ => 0, fun _ => 0, fun _ => 0⟩

/-! ### Places -/
theorem slot_far {r : RS} (hn : r.n = 2 ∨ r.n = 4 ∨ r.n = 8) {p q : Int} (h : slotOf r p = slotOf r q) (hl : p < q) : p + r.n ≤ q := by
  unfold slotOf at h
  rcases hn with e | e | e <;> rw [e] at h ⊢ <;> simp at h ⊢ <;> omega
theorem slot_of {r : RS} (hn : r.n = 2 ∨ r.n = 4 ∨ r.n = 8) (T : Int) (s : Nat) (hs : s < r.n) : ∃ p, T ≤ p ∧ p < T + r.n ∧ slotOf r p = s := by
  refine ⟨T + ((s : Int) - T) % r.n, ?_, ?_, ?_⟩
  · rcases hn with e | e | e <;> rw [e] <;> omega
  · rcases hn with e | e | e <;> rw [e] <;> omega
  · unfold slotOf
    rcases hn with e | e | e <;> rw [e] at hs ⊢ <;> simp <;> omega
theorem slot_back {r : RS} (hn : r.n = 2 ∨ r.n = 4 ∨ r.n = 8) (p : Int) : slotOf r (p - r.n) = slotOf r p := by
  unfold slotOf
  rcases hn with e | e | e <;> rw [e] <;> simp <;> omega
theorem slot_lt {r : RS} (hn : r.n = 2 ∨ r.n = 4 ∨ r.n = 8) (p : Int) : slotOf r p < r.n := by
  unfold slotOf
  rcases hn with e | e | e <;> rw [e] <;> simp <;> omega
def b01 (b : Bool) : Int := if b then 1 else 0
/-- What holds of an act in the midst. -/
structure ActOk (r : RS) (x : AS) : Prop where
  nx : x.next = 0 ∨ x.next = 1 ∨ x.next = 2 ∨ x.next = 3
  wl : x.well = false
  n1 : x.next = 1 → 0 ≤ x.at_ ∧ x.at_ ≤ endOf r x.pops
  n2 : x.next = 2 → 0 ≤ x.at_ ∧ x.at_ ≤ endOf r x.pops ∧ (x.at_ = endOf r x.pops → r.num (slotOf r x.at_) = x.at_ + b01 x.pops)
  n3 : x.next = 3 → 0 ≤ x.place ∧ x.place < endOf r x.pops ∧ r.num (slotOf r x.place) = x.place + b01 x.pops
structure RingOk (c : Int) (r : RS) : Prop where
  n3 : r.n = 2 ∨ r.n = 4 ∨ r.n = 8
  h0 : 0 ≤ r.H
  hT : r.H ≤ r.T
  tb : r.T ≤ r.H + r.n
  tc : r.T ≤ c
  nn : ∀ s, 0 ≤ r.num s
  a : ∀ p, r.T ≤ p → r.num (slotOf r p) ≤ p
  b : ∀ p, r.H ≤ p → r.num (slotOf r p) ≤ p + 1
structure InvA (c : Int) (u : US) : Prop where
  ring : RingOk c u.r
  acts : ∀ i x, u.act i = some x → ActOk u.r x
  dist : ∀ i j x y, i ≠ j → u.act i = some x → u.act j = some y → x.next = 3 → y.next = 3 → x.pops = y.pops → x.place ≠ y.place
theorem num_le {c : Int} {r : RS} (h : RingOk c r) (p : Int) : r.num (slotOf r p) ≤ c + 8 := by
  obtain ⟨q, h1, h2, h3⟩ := slot_of h.n3 r.T (slotOf r p) (slot_lt h.n3 p)
  have := h.a q h1; rw [h3] at this
  have := h.tc; have := h.n3; omega
theorem wrap_small (x : Int) (h1 : -1000000 ≤ x) (h2 : x ≤ 1000000) : wrap64 (x % 18446744073709551616) = x := by unfold wrap64; omega
theorem endOf_le {c : Int} {r : RS} (h : RingOk c r) (b : Bool) : 0 ≤ endOf r b ∧ endOf r b ≤ c ∧ endOf r b ≤ r.T ∧ r.H ≤ endOf r b := by
  have := h.h0; have := h.hT; have := h.tc
  cases b <;> simp [endOf] <;> omega
theorem askD_eq {c : Int} {r : RS} (h : RingOk c r) (hc : c ≤ 100000) (a : AS) (h0 : 0 ≤ a.at_) (h1 : a.at_ ≤ endOf r a.pops) :
    askD r a = r.num (slotOf r a.at_) - a.at_ - b01 a.pops := by
  have := endOf_le h a.pops
  have := num_le h a.at_
  have := h.nn (slotOf r a.at_)
  unfold askD want b01
  cases a.pops
  · simp only [Bool.false_eq_true, if_false]
    rw [wrap_small _ (by omega) (by omega)]; omega
  · simp only [if_true]
    rw [show (a.at_ + 1) % 18446744073709551616 = a.at_ + 1 from by omega, wrap_small _ (by omega) (by omega)]; omega
/-- At its own end, an act finds its turn or a lesser number. -/
theorem ask_fresh {c : Int} {r : RS} (h : RingOk c r) (hc : c ≤ 100000) (a : AS) (h1 : a.at_ = endOf r a.pops) : askD r a ≤ 0 := by
  have := endOf_le h a.pops
  rw [askD_eq h hc a (by omega) (by omega)]
  cases hp : a.pops
  · rw [hp] at h1; have := h.a a.at_ (by rw [h1]; simp [endOf]); simp [b01]; omega
  · rw [hp] at h1; have := h.b a.at_ (by rw [h1]; simp [endOf]); simp [b01]; omega
/-- The steps, one kind each. -/
inductive StepCase (r : RS) (a : AS) : RS → AS → Prop
  | read (h : a.next = 0) : StepCase r a r { a with next := 1, at_ := endOf r a.pops }
  | mine (h : a.next = 1) (hd : r.num (slotOf r a.at_) = a.at_ + b01 a.pops) : StepCase r a r { a with next := 2 }
  | refused (h : a.next = 1) (hd : r.num (slotOf r a.at_) < a.at_ + b01 a.pops) : StepCase r a r { a with next := 5, well := false }
  | stale (h : a.next = 1) (hd : a.at_ + b01 a.pops < r.num (slotOf r a.at_)) (hl : a.at_ < endOf r a.pops) : StepCase r a r { a with next := 0 }
  | claimT (h : a.next = 2) (hp : a.pops = false) (he : a.at_ = r.T) (hd : r.num (slotOf r a.at_) = a.at_) : StepCase r a { r with T := r.T + 1 } { a with place := a.at_, next := 3 }
  | claimH (h : a.next = 2) (hp : a.pops = true) (he : a.at_ = r.H) (hd : r.num (slotOf r a.at_) = a.at_ + 1) : StepCase r a { r with H := r.H + 1 } { a with place := a.at_, next := 3 }
  | lost (h : a.next = 2) (hl : a.at_ < endOf r a.pops) : StepCase r a r { a with next := 0 }
  | put (h : a.next = 3) (hp : a.pops = false) : StepCase r a { r with num := upd r.num (slotOf r a.place) (a.place + 1), val := upd r.val (slotOf r a.place) a.value } { a with next := 5, well := true }
  | take (h : a.next = 3) (hp : a.pops = true) : StepCase r a { r with num := upd r.num (slotOf r a.place) (a.place + r.n) } { a with value := r.val (slotOf r a.place), next := 5, well := true }
theorem step_case {c : Int} {r : RS} (h : RingOk c r) (hc : c ≤ 100000) {a : AS} (ha : ActOk r a) : StepCase r a (stepR r a) (stepA r a) := by
  rcases ha.nx with e | e | e | e
  · have h1 : stepR r a = r := by unfold stepR; rw [e]; simp
    have h2 : stepA r a = { a with next := 1, at_ := endOf r a.pops } := by unfold stepA; rw [e]; simp
    rw [h1, h2]; exact .read e
  · have h1 : stepR r a = r := by unfold stepR; rw [e]; simp
    have h2 : stepA r a = askS r a := by unfold stepA; rw [e]; simp
    have hd := askD_eq h hc a (ha.n1 e).1 (ha.n1 e).2
    rw [h1, h2]; unfold askS
    by_cases g : askD r a = 0
    · rw [if_pos g]; exact .mine e (by omega)
    · rw [if_neg g]
      by_cases g2 : askD r a < 0
      · rw [if_pos g2]; exact .refused e (by omega)
      · rw [if_neg g2]
        refine .stale e (by omega) ?_
        have := (ha.n1 e).2
        by_cases g3 : a.at_ = endOf r a.pops
        · have := ask_fresh h hc a g3; omega
        · omega
  · have h1 : stepR r a = claimR r a := by unfold stepR; rw [e]; simp
    have h2 : stepA r a = claimA r a := by unfold stepA; rw [e]; simp
    obtain ⟨g0, g1, g2⟩ := ha.n2 e
    have := endOf_le h a.pops
    rw [h1, h2]; unfold claimR claimA
    by_cases g : endOf r a.pops = a.at_
    · rw [if_pos g, if_pos g]
      have g3 := g2 g.symm
      rw [show (a.at_ + 1) % 18446744073709551616 = a.at_ + 1 from by omega]
      cases hp : a.pops
      · rw [hp] at g g3; simp [endOf] at g; simp [b01] at g3
        have := StepCase.claimT e hp g.symm g3
        simpa [setEnd, g, hp] using this
      · rw [hp] at g g3; simp [endOf] at g; simp [b01] at g3
        have := StepCase.claimH e hp g.symm g3
        simpa [setEnd, g, hp] using this
    · rw [if_neg g, if_neg g]; exact .lost e (by omega)
  · have h1 : stepR r a = takeR r a := by unfold stepR; rw [e]; simp
    have h2 : stepA r a = takeA r a := by unfold stepA; rw [e]; simp
    obtain ⟨g0, g1, g2⟩ := ha.n3 e
    have := endOf_le h a.pops
    have := h.n3
    rw [h1, h2]; unfold takeR takeA
    cases hp : a.pops
    · simp only [Bool.false_eq_true, if_false]
      rw [show (a.place + 1) % 18446744073709551616 = a.place + 1 from by omega]
      have := StepCase.put (r := r) e hp
      simpa [hp] using this
    · simp only [if_true]
      rw [show (a.place + r.n) % 18446744073709551616 = a.place + r.n from by omega]
      have := StepCase.take (r := r) e hp
      simpa [hp] using this

/-! ### What holds is kept -/
theorem ring_step {c : Int} {r r' : RS} {a a' : AS} (h : RingOk c r) (ha : ActOk r a) (s : StepCase r a r' a') : RingOk (c + 1) r' := by
  have h0 := h.h0; have hT := h.hT; have tb := h.tb; have tc := h.tc
  have hn : 2 ≤ r.n := by have := h.n3; omega
  have same : RingOk (c + 1) r := ⟨h.n3, h0, hT, tb, by omega, h.nn, h.a, h.b⟩
  cases s with
  | read => exact same
  | mine => exact same
  | refused => exact same
  | stale => exact same
  | lost => exact same
  | claimT hx hp he hd =>
    refine ⟨h.n3, h0, by show r.H ≤ r.T + 1; omega, ?_, by show r.T + 1 ≤ c + 1; omega, h.nn, fun p hp => h.a p (by have : r.T + 1 ≤ p := hp; omega), h.b⟩
    show r.T + 1 ≤ r.H + r.n
    by_cases g : r.T + 1 ≤ r.H + r.n
    · exact g
    · have := h.b (r.T - r.n) (by omega)
      rw [slot_back h.n3, ← he, hd] at this; omega
  | claimH hx hp he hd =>
    refine ⟨h.n3, by show 0 ≤ r.H + 1; omega, ?_, by show r.T ≤ r.H + 1 + r.n; omega, by show r.T ≤ c + 1; omega, h.nn, h.a, fun p hp => h.b p (by have : r.H + 1 ≤ p := hp; omega)⟩
    show r.H + 1 ≤ r.T
    by_cases g : r.H + 1 ≤ r.T
    · exact g
    · have := h.a r.H (by omega)
      rw [← he, hd] at this; omega
  | put hx hp =>
    obtain ⟨g0, g1, g2⟩ := ha.n3 hx
    simp [hp, endOf, b01] at g1 g2
    refine ⟨h.n3, h0, hT, tb, by show r.T ≤ c + 1; omega, ?_, ?_, ?_⟩
    · intro s; show 0 ≤ upd r.num _ _ s; unfold upd; split; omega; exact h.nn s
    · intro p hpp
      show upd r.num (slotOf r a.place) _ (slotOf r p) ≤ p
      have hpp : r.T ≤ p := hpp
      unfold upd; split
      · omega
      · exact h.a p hpp
    · intro p hpp
      show upd r.num (slotOf r a.place) _ (slotOf r p) ≤ p + 1
      have hpp : r.H ≤ p := hpp
      unfold upd; split
      · rename_i e
        by_cases g : p < a.place
        · have := slot_far h.n3 e g; omega
        · omega
      · exact h.b p hpp
  | take hx hp =>
    obtain ⟨g0, g1, g2⟩ := ha.n3 hx
    simp [hp, endOf, b01] at g1 g2
    refine ⟨h.n3, h0, hT, tb, by show r.T ≤ c + 1; omega, ?_, ?_, ?_⟩
    · intro s; show 0 ≤ upd r.num _ _ s; unfold upd; split; omega; exact h.nn s
    · intro p hpp
      show upd r.num (slotOf r a.place) _ (slotOf r p) ≤ p
      have hpp : r.T ≤ p := hpp
      unfold upd; split
      · rename_i e; have := slot_far h.n3 e.symm (by omega); omega
      · exact h.a p hpp
    · intro p hpp
      show upd r.num (slotOf r a.place) _ (slotOf r p) ≤ p + 1
      have hpp : r.H ≤ p := hpp
      unfold upd; split
      · rename_i e; have := slot_far h.n3 e.symm (by omega); omega
      · exact h.b p hpp
theorem act_frame {c : Int} {r r' : RS} {a a' x : AS} (h : RingOk c r) (ha : ActOk r a) (hx : ActOk r x) (hd : x.next = 3 → a.next = 3 → x.pops = a.pops → x.place ≠ a.place) (s : StepCase r a r' a') : ActOk r' x := by
  have hn : 2 ≤ r.n := by have := h.n3; omega
  cases s with
  | read => exact hx
  | mine => exact hx
  | refused => exact hx
  | stale => exact hx
  | lost => exact hx
  | claimT _ hp he hdd =>
    refine ⟨hx.nx, hx.wl, fun e => ?_, fun e => ?_, fun e => ?_⟩
    · have := hx.n1 e; cases hq : x.pops <;> simp [hq, endOf] at this ⊢ <;> omega
    · obtain ⟨k0, k1, k2⟩ := hx.n2 e
      cases hq : x.pops
      · simp [hq, endOf] at k1 ⊢; exact ⟨k0, by omega, fun e => by omega⟩
      · simp [hq, endOf] at k1 k2 ⊢; exact ⟨k0, k1, k2⟩
    · obtain ⟨k0, k1, k2⟩ := hx.n3 e
      cases hq : x.pops
      · simp [hq, endOf] at k1 k2 ⊢; exact ⟨k0, by omega, k2⟩
      · simp [hq, endOf] at k1 k2 ⊢; exact ⟨k0, k1, k2⟩
  | claimH _ hp he hdd =>
    refine ⟨hx.nx, hx.wl, fun e => ?_, fun e => ?_, fun e => ?_⟩
    · have := hx.n1 e; cases hq : x.pops <;> simp [hq, endOf] at this ⊢ <;> omega
    · obtain ⟨k0, k1, k2⟩ := hx.n2 e
      cases hq : x.pops
      · simp [hq, endOf] at k1 k2 ⊢; exact ⟨k0, k1, k2⟩
      · simp [hq, endOf] at k1 ⊢; exact ⟨k0, by omega, fun e => by omega⟩
    · obtain ⟨k0, k1, k2⟩ := hx.n3 e
      cases hq : x.pops
      · simp [hq, endOf] at k1 k2 ⊢; exact ⟨k0, k1, k2⟩
      · simp [hq, endOf] at k1 k2 ⊢; exact ⟨k0, by omega, k2⟩
  | put hs hp =>
    obtain ⟨g0, g1, g2⟩ := ha.n3 hs
    simp [hp, endOf, b01] at g1 g2
    refine ⟨hx.nx, hx.wl, hx.n1, fun e => ?_, fun e => ?_⟩
    · obtain ⟨k0, k1, k2⟩ := hx.n2 e
      refine ⟨k0, k1, fun ee => ?_⟩
      have k3 := k2 ee
      show upd r.num (slotOf r a.place) _ (slotOf r x.at_) = _
      unfold upd; split
      · rename_i es
        exfalso
        rw [es, g2] at k3
        cases hq : x.pops <;> rw [hq] at k3 ee <;> simp [b01, endOf] at k3 ee
        · omega
        · have := slot_far h.n3 es (by omega); omega
      · exact k3
    · obtain ⟨k0, k1, k3⟩ := hx.n3 e
      refine ⟨k0, k1, ?_⟩
      show upd r.num (slotOf r a.place) _ (slotOf r x.place) = _
      unfold upd; split
      · rename_i es
        exfalso
        have hdd := hd e hs
        rw [es, g2] at k3
        cases hq : x.pops <;> rw [hq] at k3 hdd <;> simp [b01, hp] at k3 hdd
        · omega
        · have := slot_far h.n3 es (by omega); omega
      · exact k3
  | take hs hp =>
    obtain ⟨g0, g1, g2⟩ := ha.n3 hs
    simp [hp, endOf, b01] at g1 g2
    refine ⟨hx.nx, hx.wl, hx.n1, fun e => ?_, fun e => ?_⟩
    · obtain ⟨k0, k1, k2⟩ := hx.n2 e
      refine ⟨k0, k1, fun ee => ?_⟩
      have k3 := k2 ee
      show upd r.num (slotOf r a.place) _ (slotOf r x.at_) = _
      unfold upd; split
      · rename_i es
        exfalso
        rw [es, g2] at k3
        cases hq : x.pops <;> rw [hq] at k3 ee <;> simp [b01, endOf] at k3 ee
        · have := slot_far h.n3 es.symm (by omega); omega
        · omega
      · exact k3
    · obtain ⟨k0, k1, k3⟩ := hx.n3 e
      refine ⟨k0, k1, ?_⟩
      show upd r.num (slotOf r a.place) _ (slotOf r x.place) = _
      unfold upd; split
      · rename_i es
        exfalso
        have hdd := hd e hs
        rw [es, g2] at k3
        cases hq : x.pops <;> rw [hq] at k3 hdd <;> simp [b01, hp] at k3 hdd
        · have := slot_far h.n3 es.symm (by omega); omega
        · omega
      · exact k3
theorem act_self {c : Int} {r r' : RS} {a a' : AS} (h : RingOk c r) (ha : ActOk r a) (s : StepCase r a r' a') (h5 : a'.next ≠ 5) : ActOk r' a' := by
  cases s with
  | read hx =>
    have := endOf_le h a.pops
    exact ⟨by simp, ha.wl, fun _ => ⟨this.1, Int.le_refl _⟩, by simp, by simp⟩
  | mine hx hd => exact ⟨by simp, ha.wl, by simp, fun _ => ⟨(ha.n1 hx).1, (ha.n1 hx).2, fun _ => hd⟩, by simp⟩
  | refused => exact absurd rfl h5
  | stale => exact ⟨by simp, ha.wl, by simp, by simp, by simp⟩
  | lost => exact ⟨by simp, ha.wl, by simp, by simp, by simp⟩
  | claimT hx hp he hd =>
    have := h.h0; have := h.hT
    refine ⟨by simp, ha.wl, by simp, by simp, fun _ => ⟨(ha.n2 hx).1, ?_, ?_⟩⟩
    · simp [hp, endOf]; omega
    · simp [hp, b01]; exact hd
  | claimH hx hp he hd =>
    have := h.h0; have := h.hT
    refine ⟨by simp, ha.wl, by simp, by simp, fun _ => ⟨(ha.n2 hx).1, ?_, ?_⟩⟩
    · simp [hp, endOf]; omega
    · simp [hp, b01]; exact hd
  | put => exact absurd rfl h5
  | take => exact absurd rfl h5
theorem step_pops {r r' : RS} {a a' : AS} (s : StepCase r a r' a') : a'.pops = a.pops := by cases s <;> rfl
/-- An act that has a place of its own now had it, or has claimed its end. -/
theorem step_place {r r' : RS} {a a' : AS} (s : StepCase r a r' a') (h3 : a'.next = 3) : a'.place = endOf r a.pops := by
  cases s <;> simp at h3 ⊢
  · rename_i h hp he hd; simp [hp, endOf, he]
  · rename_i h hp he hd; simp [hp, endOf, he]
theorem invA_step {c : Int} {u : US} (h : InvA c u) (hc : c ≤ 100000) (n : Int) (i : Nat) (a : AS) (hi : u.act i = some a) : InvA (c + 1) (doStep n i a u) := by
  have ha := h.acts i a hi
  have s := step_case h.ring hc ha
  have hact : ∀ j x, (doStep n i a u).act j = some x → (j = i ∧ (stepA u.r a).next ≠ 5 ∧ x = stepA u.r a) ∨ (j ≠ i ∧ u.act j = some x) := by
    intro j x hj
    simp only [doStep] at hj
    by_cases e : j = i
    · subst e; rw [upF_same] at hj
      by_cases g : (stepA u.r a).next = 5
      · rw [if_pos g] at hj; exact absurd hj (by simp)
      · rw [if_neg g] at hj; exact .inl ⟨rfl, g, (Option.some.inj hj).symm⟩
    · rw [upF_ne _ _ _ e] at hj; exact .inr ⟨e, hj⟩
  have hfar : ∀ j x, j ≠ i → u.act j = some x → ActOk (stepR u.r a) x := fun j x hj hx =>
    act_frame h.ring ha (h.acts j x hx) (fun e1 e2 e3 => h.dist j i x a hj hx hi e1 e2 e3) s
  refine ⟨ring_step h.ring ha s, fun j x hj => ?_, fun j k x y hjk hx hy e1 e2 e3 => ?_⟩
  · rcases hact j x hj with ⟨_, h5, rfl⟩ | ⟨hne, hx⟩
    · exact act_self h.ring ha s h5
    · exact hfar j x hne hx
  · rcases hact j x hx with ⟨ej, h5, rfl⟩ | ⟨hne, hx⟩
    · rcases hact k y hy with ⟨ek, _, _⟩ | ⟨hne2, hy⟩
      · omega
      · have := step_place s e1
        have h3 := (h.acts k y hy).n3 e2
        rw [← e3, step_pops s] at h3; omega
    · rcases hact k y hy with ⟨ek, _, rfl⟩ | ⟨hne2, hy⟩
      · have := step_place s e2
        have h3 := (h.acts j x hx).n3 e1
        rw [e3, step_pops s] at h3; omega
      · exact h.dist j k x y hjk hx hy e1 e2 e3
theorem begin_ok (r : RS) (d v : Int) : ActOk r (beginA d v) := by
  unfold beginA; split <;> exact ⟨by simp [pushA, popA], rfl, by simp [pushA, popA], by simp [pushA, popA], by simp [pushA, popA]⟩
theorem invA_begin {c : Int} {u : US} (h : InvA c u) (n : Int) (i : Nat) (d v : Int) : InvA (c + 1) (doBegin n i d v u) := by
  have hact : ∀ j x, (doBegin n i d v u).act j = some x → (j = i ∧ x = beginA d v) ∨ (j ≠ i ∧ u.act j = some x) := by
    intro j x hj
    simp only [doBegin] at hj
    by_cases e : j = i
    · subst e; rw [upF_same] at hj; exact .inl ⟨rfl, (Option.some.inj hj).symm⟩
    · rw [upF_ne _ _ _ e] at hj; exact .inr ⟨e, hj⟩
  have hb3 : (beginA d v).next ≠ 3 := by unfold beginA; split <;> simp [pushA, popA]
  have h0 := h.ring
  refine ⟨⟨h0.n3, h0.h0, h0.hT, h0.tb, by have := h0.tc; show u.r.T ≤ c + 1; omega, h0.nn, h0.a, h0.b⟩, fun j x hj => ?_, fun j k x y hjk hx hy e1 e2 e3 => ?_⟩
  · rcases hact j x hj with ⟨_, rfl⟩ | ⟨_, hx⟩
    · exact begin_ok _ _ _
    · exact h.acts j x hx
  · rcases hact j x hx with ⟨_, rfl⟩ | ⟨_, hx⟩
    · exact absurd e1 hb3
    · rcases hact k y hy with ⟨_, rfl⟩ | ⟨_, hy⟩
      · exact absurd e2 hb3
      · exact h.dist j k x y hjk hx hy e1 e2 e3
theorem newR_ok (n : Nat) (hn : n = 2 ∨ n = 4 ∨ n = 8) : RingOk 0 (newR n) := by
  have hs : ∀ p, 0 ≤ p → (slotOf (newR n) p : Int) ≤ p := by
    intro p hp
    unfold slotOf newR
    rcases hn with e | e | e <;> simp only [e] <;> omega
  have hv : ∀ s, ((newR n).num s = s ∧ s < n) ∨ (newR n).num s = 0 := by
    intro s; simp only [newR]; split
    · rename_i h; exact .inl ⟨rfl, h⟩
    · exact .inr rfl
  exact ⟨hn, by simp [newR], by simp [newR], by simp [newR], by simp [newR], fun s => by rcases hv s with ⟨h, _⟩ | h <;> omega,
    fun p hp => by have hp : 0 ≤ p := hp; have := hs p hp; rcases hv (slotOf (newR n) p) with ⟨h, _⟩ | h <;> omega,
    fun p hp => by have hp : 0 ≤ p := hp; have := hs p hp; rcases hv (slotOf (newR n) p) with ⟨h, _⟩ | h <;> omega⟩
theorem invA_open (n : Nat) (hn : n = 2 ∨ n = 4 ∨ n = 8) : InvA 0 (openU n) :=
  ⟨newR_ok n hn, fun i x h => by simp [openU] at h, fun i j x y _ h => by simp [openU] at h⟩
theorem invA_pick {c : Int} {u : US} (h : InvA c u) (hc : c ≤ 100000) (n : Int) (p : PK) : InvA (c + 1) (pickStep n p u) := by
  unfold pickStep
  split
  · exact invA_begin h _ _ _ _
  · rename_i a ha; exact invA_step h hc _ _ _ ha
theorem invA_run {u : US} (h : InvA 0 u) (ps : List PK) : ∀ k : Nat, k ≤ 1000 → InvA k (runTo ps k u) := by
  intro k
  induction k with
  | zero => intro _; exact h
  | succ k ih => intro hk; have := invA_pick (ih (by omega)) (by omega) k (ps.getD k ⟨0, 0, 0⟩); simpa [runTo] using this
/-- How many steps an act may still take alone. -/
def left (r : RS) (a : AS) : Nat := if a.next = 0 then 4 else if a.next = 1 then (if a.at_ = endOf r a.pops then 3 else 7) else if a.next = 2 then (if a.at_ = endOf r a.pops then 2 else 5) else 1
theorem left_le (r : RS) (a : AS) : left r a ≤ 7 := by unfold left; (repeat' split) <;> omega
theorem left_step {c : Int} {r r' : RS} {a a' : AS} (h : RingOk c r) (ha : ActOk r a) (hc : c ≤ 100000) (s : StepCase r a r' a') : a'.next = 5 ∨ left r' a' < left r a := by
  cases s with
  | read hx => right; simp [left, hx]
  | mine hx hd => right; simp only [left, hx]; simp; split <;> omega
  | refused => exact .inl rfl
  | stale hx hd hl => right; simp only [left, hx]; simp; rw [if_neg (by omega)]; omega
  | lost hx hl => right; simp only [left, hx]; simp; rw [if_neg (by omega)]; omega
  | claimT hx hp he hd => right; simp only [left, hx]; simp; split <;> omega
  | claimH hx hp he hd => right; simp only [left, hx]; simp; split <;> omega
  | put => exact .inl rfl
  | take => exact .inl rfl
theorem goOn_ends {i : Nat} : ∀ (k : Nat) {c : Int} {u : US}, InvA c u → c + k ≤ 100000 → (∀ a, u.act i = some a → left u.r a ≤ k) → (goOn i k u).act i = none := by
  intro k
  induction k with
  | zero =>
    intro c u h hc hl
    cases e : u.act i with
    | none => simpa [goOn] using e
    | some a => have := hl a e; unfold left at this; exfalso; revert this; (repeat' split) <;> omega
  | succ k ih =>
    intro c u h hc hl
    unfold goOn
    cases e : u.act i with
    | none => simpa using e
    | some a =>
      simp only
      have ha := h.acts i a e
      have s := step_case h.ring (by omega) ha
      refine ih (invA_step h (by omega) 1000 i a e) (by omega) ?_
      intro a1 h1
      simp only [doStep, upF_same] at h1
      have := hl a e
      by_cases g : (stepA u.r a).next = 5
      · rw [if_pos g] at h1; exact absurd h1 (by simp)
      · rw [if_neg g] at h1
        have := Option.some.inj h1; subst this
        rcases left_step h.ring ha (by omega) s with g2 | g2
        · exact absurd g2 g
        · show left (stepR u.r a) (stepA u.r a) ≤ k; omega
theorem invA_mono {c d : Int} {u : US} (h : InvA c u) (hcd : c ≤ d) : InvA d u := ⟨⟨h.ring.n3, h.ring.h0, h.ring.hT, h.ring.tb, by have := h.ring.tc; omega, h.ring.nn, h.ring.a, h.ring.b⟩, h.acts, h.dist⟩
theorem invA_goOn {i : Nat} : ∀ (k : Nat) {c : Int} {u : US}, InvA c u → c + k ≤ 100000 → InvA (c + k) (goOn i k u) := by
  intro k
  induction k with
  | zero => intro c u h _; simpa [goOn] using h
  | succ k ih =>
    intro c u h hc
    unfold goOn
    cases e : u.act i with
    | none => exact invA_mono h (by omega)
    | some a =>
      have := ih (invA_step h (by omega) 1000 i a e) (by omega)
      simp only; rw [show c + ((k + 1 : Nat) : Int) = c + 1 + (k : Int) from by omega]; exact this
theorem invA_restTo {c : Int} {u : US} (h : InvA c u) (hc : c ≤ 1000) : ∀ k : Nat, k ≤ 6 → InvA (c + 20 * k) (restTo k u) := by
  intro k
  induction k with
  | zero => intro _; simpa [restTo] using h
  | succ k ih =>
    intro hk
    have := invA_goOn (i := k) 20 (ih (by omega)) (by omega)
    unfold restTo
    exact invA_mono this (by omega)
theorem goOn_other {i j : Nat} (hij : j ≠ i) : ∀ (k : Nat) (u : US), (goOn i k u).act j = u.act j := by
  intro k
  induction k with
  | zero => intro u; rfl
  | succ k ih =>
    intro u
    unfold goOn
    cases e : u.act i with
    | none => rfl
    | some a => simp only; rw [ih]; simp [doStep, upF_ne _ _ _ hij]
theorem rest_none {c : Int} {u : US} (h : InvA c u) (hc : c ≤ 1000) : ∀ k : Nat, k ≤ 6 → ∀ j, j < k → (restTo k u).act j = none := by
  intro k
  induction k with
  | zero => intro _ j hj; omega
  | succ k ih =>
    intro hk j hj
    have hI := invA_restTo h hc k (by omega)
    unfold restTo
    by_cases e : j = k
    · subst e
      exact goOn_ends 20 hI (by omega) (fun a _ => by have := left_le (restTo j u).r a; omega)
    · rw [goOn_other e]; exact ih (by omega) j (by omega)
end Go.Proofs.Ytepbggoeajihbaa.Ring
