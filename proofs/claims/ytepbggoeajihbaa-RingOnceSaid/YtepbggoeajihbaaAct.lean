/- The ring, an act, and its steps. -/
import Derived.Test.YtepbggoeajihbaaAt
import Derived.Outline
set_option linter.unusedVariables false
set_option linter.unusedSimpArgs false
namespace Go.Proofs.Ytepbggoeajihbaa.Ring
open Go.RowKit Go.Proofs.YtepbggoeajihbaaW.PrintWords Go.Proofs.YtepbggoeajihbaaW.PrintLast Go.Proofs.YtepbggoeajihbaaW.PrintMore Go.Proofs.YtepbggoeajihbaaHk

def U64 (n : Int) : Prop := 0 ≤ n ∧ n ≤ 18446744073709551615
def upd (f : Nat → Int) (i : Nat) (x : Int) : Nat → Int := fun j => if j = i then x else f j
def slotCells (n : Nat) (num val : Nat → Int) : Array Value := Array.ofFn (n := n * 2) fun k => Value.int .u64 (if k.val % 2 = 0 then num (k.val / 2) else val (k.val / 2))
theorem slot_size (n : Nat) (num val : Nat → Int) : (slotCells n num val).size = n * 2 := by simp [slotCells]
theorem slot_num (n : Nat) (num val : Nat → Int) (i : Nat) (hi : i < n) : (slotCells n num val)[i * 2]? = some (.int .u64 (num i)) := by
  have h : i * 2 < n * 2 := by omega
  simp [slotCells, h]
theorem slot_val (n : Nat) (num val : Nat → Int) (i : Nat) (hi : i < n) : (slotCells n num val)[i * 2 + 1]? = some (.int .u64 (val i)) := by
  have h : i * 2 + 1 < n * 2 := by omega
  have h1 : (i * 2 + 1) % 2 = 1 := by omega
  have h2 : (i * 2 + 1) / 2 = i := by omega
  simp [slotCells, h, h1, h2]
theorem slot_set_num (n : Nat) (num val : Nat → Int) (i : Nat) (x : Int) : (slotCells n num val).setIfInBounds (i * 2) (.int .u64 x) = slotCells n (upd num i x) val := by
  apply Array.ext
  · simp [slotCells]
  · intro j h1 h2
    have hj : j < n * 2 := by simpa [slotCells] using h2
    rw [Array.getElem_setIfInBounds (by simpa [slotCells] using hj)]
    by_cases e : i * 2 = j
    · subst e; simp [slotCells, upd]
    · rw [if_neg e]
      simp only [slotCells, Array.getElem_ofFn, upd]
      by_cases e2 : j % 2 = 0
      · rw [if_pos e2, if_pos e2, if_neg (by omega)]
      · rw [if_neg e2, if_neg e2]
theorem slot_set_val (n : Nat) (num val : Nat → Int) (i : Nat) (x : Int) : (slotCells n num val).setIfInBounds (i * 2 + 1) (.int .u64 x) = slotCells n num (upd val i x) := by
  apply Array.ext
  · simp [slotCells]
  · intro j h1 h2
    have hj : j < n * 2 := by simpa [slotCells] using h2
    rw [Array.getElem_setIfInBounds (by simpa [slotCells] using hj)]
    by_cases e : i * 2 + 1 = j
    · subst e; have h3 : (i * 2 + 1) % 2 = 1 := by omega
      have h4 : (i * 2 + 1) / 2 = i := by omega
      simp [slotCells, upd, h3, h4]
    · rw [if_neg e]
      simp only [slotCells, Array.getElem_ofFn, upd]
      by_cases e2 : j % 2 = 0
      · rw [if_pos e2, if_pos e2]
      · rw [if_neg e2, if_neg e2, if_neg (by omega)]

/-- A ring, as numbers. -/
structure RS where
  n : Nat
  T : Int
  H : Int
  num : Nat → Int
  val : Nat → Int
/-- An act. -/
structure AS where
  pops : Bool
  next : Int
  at_ : Int
  place : Int
  value : Int
  well : Bool
def RS.ok (r : RS) : Prop := (r.n = 2 ∨ r.n = 4 ∨ r.n = 8) ∧ U64 r.T ∧ U64 r.H ∧ (∀ i, U64 (r.num i)) ∧ ∀ i, U64 (r.val i)
def AS.ok (a : AS) : Prop := U64 a.at_ ∧ U64 a.place ∧ U64 a.value ∧ (a.next = 0 ∨ a.next = 1 ∨ a.next = 2 ∨ a.next = 3 ∨ a.next = 4 ∨ a.next = 5)
structure IsRing (w : World) (g sb : Nat) (r : RS) : Prop where
  ring : w.heap[g]? = some (.cells #[.int .u64 r.T, .int .u64 r.H, .slice (some ⟨sb, 0, none⟩) r.n r.n] 69)
  slots : w.heap[sb]? = some (.cells (slotCells r.n r.num r.val) 71)
  ne : g ≠ sb
  ok : r.ok
structure IsAct (w : World) (b g : Nat) (a : AS) : Prop where
  act : w.heap[b]? = some (.cells #[.pointer (some ⟨g, 0, none⟩), .bool a.pops, .int .i64 a.next, .int .u64 a.at_, .int .u64 a.place, .int .u64 a.value, .bool a.well] 74)
  ok : a.ok
theorem IsRing.keep {w w' : World} {g sb : Nat} {r : RS} {S : Nat → Prop} (h : IsRing w g sb r) (k : Keep S w w') (hg : ¬ S g) (hs : ¬ S sb) : IsRing w' g sb r := ⟨k.blk h.ring hg, k.blk h.slots hs, h.ne, h.ok⟩
theorem IsAct.keep {w w' : World} {b g : Nat} {a : AS} {S : Nat → Prop} (h : IsAct w b g a) (k : Keep S w w') (hb : ¬ S b) : IsAct w' b g a := ⟨k.blk h.act hb, h.ok⟩
theorem IsRing.below {w w' : World} {g sb : Nat} {r : RS} (h : IsRing w g sb r) (k : Below w.heap.size w w') : IsRing w' g sb r := ⟨hk_below k (hk_lt h.ring) h.ring, hk_below k (hk_lt h.slots) h.slots, h.ne, h.ok⟩
theorem IsAct.below {w w' : World} {b g : Nat} {a : AS} (h : IsAct w b g a) (k : Below w.heap.size w w') : IsAct w' b g a := ⟨hk_below k (hk_lt h.act) h.act, h.ok⟩

def slotOf (r : RS) (p : Int) : Nat := (p % r.n).toNat
theorem slotOf_lt {r : RS} (h : r.ok) (p : Int) : slotOf r p < r.n := by
  have h0 : (r.n : Int) ≠ 0 := by have := h.1; omega
  have h1 := Int.emod_nonneg p h0
  have h2 := Int.emod_lt_of_pos p (show (0 : Int) < r.n by have := h.1; omega)
  unfold slotOf; omega

set_option maxHeartbeats 1600000 in
set_option maxRecDepth 100000 in
theorem slot_walk (g sb : Nat) (r : RS) (p : Int) (w : World) (h : IsRing w g sb r) (hp : U64 p) :
    Calls Try.prog 39 #[.pointer (some ⟨g, 0, none⟩), .int .u64 p] w fun e w' => e = .returned (.pointer (some ⟨sb, slotOf r p * 2, none⟩)) ∧ Below w.heap.size w w' := by
  have H := Aside0.mk h
  have q2 := hk_cell h.ring 2
  have hgl := hk_lt h.ring
  have hr := fun W => @lw_cell W
  have hlt := slotOf_lt h.ok p
  obtain ⟨n, hn⟩ : ∃ n, n = r.n := ⟨_, rfl⟩
  have HP : Aside0 (p % (n : Int) = (slotOf r p : Int)) := ⟨by rw [hn]; have h1 := Int.emod_nonneg p (show (r.n : Int) ≠ 0 by have := h.ok.1; omega); unfold slotOf; omega⟩
  have hn3 : n = 2 ∨ n = 4 ∨ n = 8 := by rw [hn]; exact h.ok.1
  rw [← hn] at q2 hlt
  obtain ⟨k, hk⟩ : ∃ k, k = slotOf r p := ⟨_, rfl⟩
  rw [← hk] at HP hlt ⊢
  have hpk := HP.out
  unfold U64 at hp
  have hwn : (n : Int) % 18446744073709551616 = n := by omega
  have hnz : ((n : Int) == 0) = false := by simp; omega
  clear hn hk h
  go_enter Try.func39, Try.ntmps39
  go_wp2_with fail
  refine region_later (by kernel_rfl) (by kernel_rfl) ?_
  repeat (go_big_quiet_step (fail))
  refine wpQuiet_nil ?_
  rintro w4 ⟨⟨_, hb4⟩, rfl⟩
  go_wp2
  go_ret
  exact ⟨rfl, hb4⟩

/-- What a step leaves. -/
def ActPost (w : World) (b g : Nat) (a : AS) (e : Ending) (w' : World) : Prop := e = .returned (.tuple #[]) ∧ IsAct w' b g a ∧ Keep (fun i => i = b) w w'
theorem actOut {w w' : World} {b g : Nat} {a : AS} {e : Ending} (h : ActPost w b g a e w') : e = .returned (.tuple #[]) ∧ IsAct w' b g a ∧ Keep (fun i => i = b) w w' := h
set_option maxHeartbeats 1600000 in
set_option maxRecDepth 100000 in
theorem end_walk (b g : Nat) (a : AS) (wl : Bool) (w : World) (h : IsAct w b g a) :
    Calls Try.prog 40 #[.pointer (some ⟨b, 0, none⟩), .bool wl] w (ActPost w b g { a with next := 5, well := wl }) := by
  have H := Aside0.mk h
  have q2 := hk_cell h.act 2
  have q6 := hk_cell h.act 6
  have f2 := hk_frozen h.act 2
  have f6 := hk_frozen h.act 6
  clear h
  go_enter Try.func40, Try.ntmps40
  go_wp2
  go_end0
  refine ⟨rfl, ⟨hk_set (hk_set H.out.act 2 _) 6 _, ?_⟩, ((Keep.refl (fun i => i = b) w).set rfl _ _).set rfl _ _⟩
  have := H.out.ok; unfold AS.ok at this ⊢; simp at this ⊢; exact ⟨this.1, this.2.1, this.2.2.1⟩

def endOf (r : RS) (pops : Bool) : Int := if pops then r.H else r.T
set_option maxHeartbeats 1600000 in
set_option maxRecDepth 100000 in
theorem read_walk (b g sb : Nat) (r : RS) (a : AS) (w : World) (hR : IsRing w g sb r) (h : IsAct w b g a) (hbg : b ≠ g) :
    Calls Try.prog 27 #[.pointer (some ⟨b, 0, none⟩)] w (ActPost w b g { a with next := 1, at_ := endOf r a.pops }) := by
  have H := Aside0.mk h
  have HR := Aside0.mk hR
  have q0 := hk_cell h.act 0
  have q1 := hk_cell h.act 1
  have q2 := hk_cell h.act 2
  have q3 := hk_cell h.act 3
  have f2 := hk_frozen h.act 2
  have f3 := hk_frozen h.act 3
  have t0 := hk_cell hR.ring 0
  have t1 := hk_cell hR.ring 1
  have hgb : g ≠ b := fun e => hbg e.symm
  have hok : ∀ x, U64 x → AS.ok { a with next := 1, at_ := x } := fun x hx => by have := h.ok; unfold AS.ok at this ⊢; simp at this ⊢; exact ⟨hx, this.2.1, this.2.2.1⟩
  have HOK := Aside0.mk hok
  clear h hR hok
  have HT : Aside0 ((w.setCell ⟨b, 2, none⟩ (.int .i64 1)).cell? ⟨g, 0, none⟩ = some (.int .u64 r.T)) := ⟨hk_cell (hk_far HR.out.ring hgb _) 0⟩
  have HH : Aside0 ((w.setCell ⟨b, 2, none⟩ (.int .i64 1)).cell? ⟨g, 1, none⟩ = some (.int .u64 r.H)) := ⟨hk_cell (hk_far HR.out.ring hgb _) 1⟩
  cases hp : a.pops
  · rw [hp] at q1
    have HP := Aside0.mk hp
    clear hp
    go_enter Try.func27, Try.ntmps27
    go_wp2_with fail
    with_reducible refine (load_walk g 0 r.T _ HT.out).mono ?_
    rintro e w1 ⟨rfl, rfl⟩
    go_wp2
    go_end0
    refine ⟨rfl, ⟨?_, by have h9 := HOK.out r.T HR.out.ok.2.1; rw [HP.out] at h9; exact h9⟩, ((Keep.refl (fun i => i = b) w).set rfl _ _).set rfl _ _⟩
    have := hk_set (hk_set H.out.act 2 (.int .i64 1)) 3 (.int .u64 r.T)
    simpa [endOf, HP.out] using this
  · rw [hp] at q1
    have HP := Aside0.mk hp
    clear hp
    go_enter Try.func27, Try.ntmps27
    go_wp2_with fail
    with_reducible refine (load_walk g 1 r.H _ HH.out).mono ?_
    rintro e w1 ⟨rfl, rfl⟩
    go_wp2
    go_end0
    refine ⟨rfl, ⟨?_, by have h9 := HOK.out r.H HR.out.ok.2.2.1; rw [HP.out] at h9; exact h9⟩, ((Keep.refl (fun i => i = b) w).set rfl _ _).set rfl _ _⟩
    have := hk_set (hk_set H.out.act 2 (.int .i64 1)) 3 (.int .u64 r.H)
    simpa [endOf, HP.out] using this

theorem ask_ok {a : AS} (h : a.ok) (x : Int) (wl : Bool) (hx : x = 0 ∨ x = 1 ∨ x = 2 ∨ x = 3 ∨ x = 4 ∨ x = 5) : AS.ok { a with next := x, well := wl } := ⟨h.1, h.2.1, h.2.2.1, hx⟩
theorem load_later (b o : Nat) (x : Int) (w : World) (h : w.cell? ⟨b, o, none⟩ = some (.int .u64 x)) :
    Calls Try.prog 37 #[.pointer (some ⟨b, o, none⟩)] w fun e w' => e = .returned (.int .u64 x) ∧ Below w.heap.size w w' :=
  (load_walk b o x w h).mono fun _ _ hh => ⟨hh.1, by rw [hh.2]; exact Below.refl _ _⟩
theorem slot_cell {w : World} {g sb : Nat} {r : RS} (h : IsRing w g sb r) (p : Int) : w.cell? ⟨sb, slotOf r p * 2, none⟩ = some (.int .u64 (r.num (slotOf r p))) :=
  (hk_cell h.slots _).trans (slot_num _ _ _ _ (slotOf_lt h.ok p))
def want (a : AS) : Int := if a.pops then (a.at_ + 1) % 18446744073709551616 else a.at_
def askD (r : RS) (a : AS) : Int := wrap64 ((r.num (slotOf r a.at_) - want a) % 18446744073709551616)
def askS (r : RS) (a : AS) : AS := if askD r a = 0 then { a with next := 2 } else if askD r a < 0 then { a with next := 5, well := false } else { a with next := 0 }
set_option maxHeartbeats 3200000 in
set_option maxRecDepth 100000 in
theorem ask_walk (b g sb : Nat) (r : RS) (a : AS) (w : World) (hR : IsRing w g sb r) (h : IsAct w b g a) (hbg : b ≠ g) :
    Calls Try.prog 28 #[.pointer (some ⟨b, 0, none⟩)] w (ActPost w b g (askS r a)) := by
  have H := Aside0.mk h
  have HR := Aside0.mk hR
  have q0 := hk_cell h.act 0
  have q1 := hk_cell h.act 1
  have q3 := hk_cell h.act 3
  have hbl := hk_lt h.act
  have hr := fun W => @lw_cell W
  obtain ⟨p, hpa⟩ : ∃ p, p = a.at_ := ⟨_, rfl⟩
  have hpu : U64 p := by rw [hpa]; exact h.ok.1
  have HPU := Aside0.mk hpu
  have HPA := Aside0.mk hpa
  obtain ⟨D, hD⟩ : ∃ D, D = askD r a := ⟨_, rfl⟩
  obtain ⟨N, hN⟩ : ∃ N, N = r.num (slotOf r p) := ⟨_, rfl⟩
  have HSC : Aside0 (∀ W : World, IsRing W g sb r → W.cell? ⟨sb, slotOf r p * 2, none⟩ = some (.int .u64 N)) := ⟨fun W hW => by rw [hN]; exact slot_cell hW p⟩
  have HD := Aside0.mk hD
  have HN := Aside0.mk hN
  obtain ⟨k, hk⟩ : ∃ k, k = slotOf r p * 2 := ⟨_, rfl⟩
  have HSW := Aside0.mk (fun (W : World) (hW : IsRing W g sb r) => slot_walk g sb r p W hW hpu)
  rw [← hk] at HSC HSW
  rw [← hpa] at q3
  clear h hR hpu hpa hD hN hk
  have hgb : g ≠ b := fun e => hbg e.symm
  cases hp : a.pops
  · rw [hp] at q1
    have HP := Aside0.mk hp
    have HDD : Aside0 (wrap64 (IntKind.u64.wrap (N - p)) = D) := ⟨by rw [HD.out, HN.out, HPA.out, IntKind.wrap_u64]; unfold askD want; rw [hp]; simp⟩
    clear hp
    go_enter Try.func28, Try.ntmps28
    go_wp2_with fail
    refine region_later (by kernel_rfl) (by kernel_rfl) ?_
    repeat (go_big_quiet_step (first
      | (go_at_call 39; refine later_call (HSW.out _ (HR.out.below (Subtype.property _))))
      | (go_at_call 37; refine later_call (load_later sb k N _ (HSC.out _ (HR.out.below (Subtype.property _)))))))
    refine wpQuiet_nil ?_
    rintro w4 ⟨⟨_, hb4⟩, rfl⟩
    rw [HDD.out]
    have H4 := Aside0.mk (H.out.below hb4)
    have HK4 := Aside0.mk (Keep.of_below (S := fun i => i = b) hb4)
    have q2 := hk_cell H4.out.act 2
    have f2 := hk_frozen H4.out.act 2
    have HS : Aside0 (askS r a = if D = 0 then { a with next := 2 } else if D < 0 then { a with next := 5, well := false } else { a with next := 0 }) := ⟨by rw [HD.out]; rfl⟩
    clear hb4 q0 q1 q3 hr
    by_cases h0 : D = 0
    · have ht : (D == 0) = true := by simpa using h0
      have H0 := Aside0.mk h0
      clear h0
      go_wp2
      go_end0
      refine ⟨rfl, ?_, HK4.out.set rfl _ _⟩
      rw [HS.out, if_pos H0.out]
      exact ⟨hk_set H4.out.act 2 (.int .i64 2), ask_ok H4.out.ok 2 _ (by simp)⟩
    · have ht : (D == 0) = false := by simpa using h0
      have H0 := Aside0.mk h0
      by_cases h1 : D < 0
      · have ht1 : decide (D < 0) = true := by simpa using h1
        have H1 : Aside0 (D < 0) := ⟨h1⟩
        clear h0 h1
        go_wp2_with fail
        with_reducible refine (end_walk b g a false w4 H4.out).mono ?_
        rintro e w5 ⟨rfl, hi5, hk5⟩
        have HI5 := Aside0.mk hi5
        have HK5 := Aside0.mk (HK4.out.trans hk5)
        clear hi5 hk5
        go_wp2
        go_end0
        refine ⟨rfl, ?_, HK5.out⟩
        rw [HS.out, if_neg H0.out, if_pos H1.out]
        exact HI5.out
      · have ht1 : decide (D < 0) = false := by simpa using h1
        have H1 : Aside0 (¬ D < 0) := ⟨h1⟩
        clear h0 h1
        go_wp2
        go_end0
        refine ⟨rfl, ?_, HK4.out.set rfl _ _⟩
        rw [HS.out, if_neg H0.out, if_neg (by have := H1.out; omega)]
        exact ⟨hk_set H4.out.act 2 (.int .i64 0), ask_ok H4.out.ok 0 _ (by simp)⟩
  · rw [hp] at q1
    have HP := Aside0.mk hp
    have HDD : Aside0 (wrap64 (IntKind.u64.wrap (N - IntKind.u64.wrap (p + 1))) = D) := ⟨by rw [HD.out, HN.out, HPA.out, IntKind.wrap_u64, IntKind.wrap_u64]; unfold askD want; rw [hp]; simp⟩
    clear hp
    go_enter Try.func28, Try.ntmps28
    go_wp2_with fail
    refine region_later (by kernel_rfl) (by kernel_rfl) ?_
    repeat (go_big_quiet_step (first
      | (go_at_call 39; refine later_call (HSW.out _ (HR.out.below (Subtype.property _))))
      | (go_at_call 37; refine later_call (load_later sb k N _ (HSC.out _ (HR.out.below (Subtype.property _)))))))
    refine wpQuiet_nil ?_
    rintro w4 ⟨⟨_, hb4⟩, rfl⟩
    rw [HDD.out]
    have H4 := Aside0.mk (H.out.below hb4)
    have HK4 := Aside0.mk (Keep.of_below (S := fun i => i = b) hb4)
    have q2 := hk_cell H4.out.act 2
    have f2 := hk_frozen H4.out.act 2
    have HS : Aside0 (askS r a = if D = 0 then { a with next := 2 } else if D < 0 then { a with next := 5, well := false } else { a with next := 0 }) := ⟨by rw [HD.out]; rfl⟩
    clear hb4 q0 q1 q3 hr
    by_cases h0 : D = 0
    · have ht : (D == 0) = true := by simpa using h0
      have H0 := Aside0.mk h0
      clear h0
      go_wp2
      go_end0
      refine ⟨rfl, ?_, HK4.out.set rfl _ _⟩
      rw [HS.out, if_pos H0.out]
      exact ⟨hk_set H4.out.act 2 (.int .i64 2), ask_ok H4.out.ok 2 _ (by simp)⟩
    · have ht : (D == 0) = false := by simpa using h0
      have H0 := Aside0.mk h0
      by_cases h1 : D < 0
      · have ht1 : decide (D < 0) = true := by simpa using h1
        have H1 : Aside0 (D < 0) := ⟨h1⟩
        clear h0 h1
        go_wp2_with fail
        with_reducible refine (end_walk b g a false w4 H4.out).mono ?_
        rintro e w5 ⟨rfl, hi5, hk5⟩
        have HI5 := Aside0.mk hi5
        have HK5 := Aside0.mk (HK4.out.trans hk5)
        clear hi5 hk5
        go_wp2
        go_end0
        refine ⟨rfl, ?_, HK5.out⟩
        rw [HS.out, if_neg H0.out, if_pos H1.out]
        exact HI5.out
      · have ht1 : decide (D < 0) = false := by simpa using h1
        have H1 : Aside0 (¬ D < 0) := ⟨h1⟩
        clear h0 h1
        go_wp2
        go_end0
        refine ⟨rfl, ?_, HK4.out.set rfl _ _⟩
        rw [HS.out, if_neg H0.out, if_neg (by have := H1.out; omega)]
        exact ⟨hk_set H4.out.act 2 (.int .i64 0), ask_ok H4.out.ok 0 _ (by simp)⟩
end Go.Proofs.Ytepbggoeajihbaa.Ring
