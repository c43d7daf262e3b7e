/- claim, take. -/
import Derived.Test.YtepbggoeajihbaaAct
import Derived.Deep.RegionHeld3
import Derived.Outline
set_option linter.unusedVariables false
set_option linter.unusedSimpArgs false
namespace Go.Proofs.Ytepbggoeajihbaa.Ring
open Go.RowKit Go.Proofs.YtepbggoeajihbaaW.PrintWords Go.Proofs.YtepbggoeajihbaaW.PrintLast Go.Proofs.YtepbggoeajihbaaW.PrintMore Go.Proofs.YtepbggoeajihbaaHk

theorem wrap_U64 (x : Int) : U64 (IntKind.u64.wrap x) := by unfold U64; rw [IntKind.wrap_u64]; omega
def setEnd (r : RS) (pops : Bool) (x : Int) : RS := if pops then { r with H := x } else { r with T := x }
def claimR (r : RS) (a : AS) : RS := if endOf r a.pops = a.at_ then setEnd r a.pops ((a.at_ + 1) % 18446744073709551616) else r
def claimA (r : RS) (a : AS) : AS := if endOf r a.pops = a.at_ then { a with place := a.at_, next := 3 } else { a with next := 0 }
/-- What a step that writes the ring leaves. -/
def RingPost (w : World) (b g sb : Nat) (r : RS) (a : AS) (e : Ending) (w' : World) : Prop := e = .returned (.tuple #[]) ∧ IsRing w' g sb r ∧ IsAct w' b g a ∧ Keep (fun i => i = b ∨ i = g ∨ i = sb) w w'
theorem ringOut {w w' : World} {b g sb : Nat} {r : RS} {a : AS} {e : Ending} (h : RingPost w b g sb r a e w') : e = .returned (.tuple #[]) ∧ IsRing w' g sb r ∧ IsAct w' b g a ∧ Keep (fun i => i = b ∨ i = g ∨ i = sb) w w' := h
set_option maxHeartbeats 3200000 in
set_option maxRecDepth 100000 in
theorem claim_walk (b g sb : Nat) (r : RS) (a : AS) (w : World) (hR : IsRing w g sb r) (h : IsAct w b g a) (hbg : b ≠ g) (hbs : b ≠ sb) :
    Calls Try.prog 29 #[.pointer (some ⟨b, 0, none⟩)] w (RingPost w b g sb (claimR r a) (claimA r a)) := by
  have H := Aside0.mk h
  have HR := Aside0.mk hR
  have q0 := hk_cell h.act 0
  have q1 := hk_cell h.act 1
  have q3 := hk_cell h.act 3
  have hgb : g ≠ b := fun e => hbg e.symm
  clear h hR
  have q3' : w.cell? ⟨b, 3, none⟩ = some (.int .u64 a.at_) := q3
  cases hp : a.pops
  · rw [hp] at q1
    have HP := Aside0.mk hp
    clear hp
    by_cases he : r.T = a.at_
    · have HC : Aside0 (w.drew.cell? ⟨g, 0, none⟩ = some (.int .u64 a.at_)) := ⟨by rw [← he]; exact hk_cell HR.out.ring 0⟩
      have HZ : Aside0 (w.drew.frozen? ⟨g, 0, none⟩ = false) := ⟨hk_frozen HR.out.ring 0⟩
      have HE : Aside0 (claimR r a = { r with T := IntKind.u64.wrap (a.at_ + 1) } ∧ claimA r a = { a with place := a.at_, next := 3 }) := ⟨by unfold claimR claimA endOf setEnd; rw [HP.out]; simp [he, IntKind.wrap_u64]⟩
      clear he
      go_enter Try.func29, Try.ntmps29
      go_wp2_with fail
      go_region_held3 (fun w' => w'.cell? ⟨b, 3, none⟩ = some (.int .u64 a.at_)) (first | exact q3' | go_keep) (first | (go_at_call 41; with_reducible refine (cas_hit g 0 a.at_ _ _ HC.out HZ.out).mono ?_; intro e w5 hh; obtain ⟨h1, h2⟩ := hh; subst h1; subst h2))
      have HA := Aside0.mk (show (w.setCell ⟨g, 0, none⟩ (.int .u64 (IntKind.u64.wrap (a.at_ + 1)))).heap[b]? = _ from hk_far H.out.act hbg _)
      have z2 := hk_cell HA.out 2
      have z3 := hk_cell HA.out 3
      have z4 := hk_cell HA.out 4
      have y2 := hk_frozen HA.out 2
      have y4 := hk_frozen HA.out 4
      clear q0 q1 q3 q3'
      go_wp2
      go_end0
      refine ⟨rfl, ?_, ?_, ((((Keep.refl (fun i => i = b ∨ i = g ∨ i = sb) w).drew).set (.inr (.inl rfl)) _ _).set (.inl rfl) _ _).set (.inl rfl) _ _⟩
      · rw [HE.out.1]
        exact ⟨hk_far (hk_far (hk_set HR.out.ring 0 (.int .u64 (IntKind.u64.wrap (a.at_ + 1)))) hgb _) hgb _, hk_far (hk_far (hk_far HR.out.slots (Ne.symm HR.out.ne) _) (Ne.symm hbs) _) (Ne.symm hbs) _, HR.out.ne, ⟨HR.out.ok.1, wrap_U64 _, HR.out.ok.2.2⟩⟩
      · rw [HE.out.2]
        refine ⟨hk_set (hk_set HA.out 4 _) 2 _, ?_⟩
        exact ⟨H.out.ok.1, H.out.ok.1, H.out.ok.2.2.1, by simp⟩
    · have HC : Aside0 (w.drew.cell? ⟨g, 0, none⟩ = some (.int .u64 r.T)) := ⟨hk_cell HR.out.ring 0⟩
      have HZ : Aside0 (w.drew.frozen? ⟨g, 0, none⟩ = false) := ⟨hk_frozen HR.out.ring 0⟩
      have HE : Aside0 (claimR r a = r ∧ claimA r a = { a with next := 0 }) := ⟨by unfold claimR claimA endOf; rw [HP.out]; simp [he]⟩
      have HNE : Aside0 (¬ r.T = a.at_) := ⟨he⟩
      clear he
      go_enter Try.func29, Try.ntmps29
      go_wp2_with fail
      go_region_held3 (fun w' => w'.cell? ⟨b, 3, none⟩ = some (.int .u64 a.at_)) (first | exact q3' | go_keep) (first | (go_at_call 41; with_reducible refine (cas_miss g 0 r.T a.at_ _ _ HNE.out HC.out HZ.out).mono ?_; intro e w5 hh; obtain ⟨h1, h2⟩ := hh; subst h1; subst h2))
      have z2 := hk_cell H.out.act 2
      have y2 := hk_frozen H.out.act 2
      clear q0 q1 q3 q3'
      go_wp2
      go_end0
      refine ⟨rfl, ?_, ?_, ((Keep.refl (fun i => i = b ∨ i = g ∨ i = sb) w).drew).set (.inl rfl) _ _⟩
      · rw [HE.out.1]
        exact ⟨hk_far HR.out.ring hgb _, hk_far HR.out.slots (Ne.symm hbs) _, HR.out.ne, HR.out.ok⟩
      · rw [HE.out.2]
        exact ⟨hk_set H.out.act 2 _, ask_ok H.out.ok 0 _ (by simp)⟩
  · rw [hp] at q1
    have HP := Aside0.mk hp
    clear hp
    by_cases he : r.H = a.at_
    · have HC : Aside0 (w.drew.cell? ⟨g, 1, none⟩ = some (.int .u64 a.at_)) := ⟨by rw [← he]; exact hk_cell HR.out.ring 1⟩
      have HZ : Aside0 (w.drew.frozen? ⟨g, 1, none⟩ = false) := ⟨hk_frozen HR.out.ring 1⟩
      have HE : Aside0 (claimR r a = { r with H := IntKind.u64.wrap (a.at_ + 1) } ∧ claimA r a = { a with place := a.at_, next := 3 }) := ⟨by unfold claimR claimA endOf setEnd; rw [HP.out]; simp [he, IntKind.wrap_u64]⟩
      clear he
      go_enter Try.func29, Try.ntmps29
      go_wp2_with fail
      go_region_held3 (fun w' => w'.cell? ⟨b, 3, none⟩ = some (.int .u64 a.at_)) (first | exact q3' | go_keep) (first | (go_at_call 41; with_reducible refine (cas_hit g 1 a.at_ _ _ HC.out HZ.out).mono ?_; intro e w5 hh; obtain ⟨h1, h2⟩ := hh; subst h1; subst h2))
      have HA := Aside0.mk (show (w.setCell ⟨g, 1, none⟩ (.int .u64 (IntKind.u64.wrap (a.at_ + 1)))).heap[b]? = _ from hk_far H.out.act hbg _)
      have z2 := hk_cell HA.out 2
      have z3 := hk_cell HA.out 3
      have z4 := hk_cell HA.out 4
      have y2 := hk_frozen HA.out 2
      have y4 := hk_frozen HA.out 4
      clear q0 q1 q3 q3'
      go_wp2
      go_end0
      refine ⟨rfl, ?_, ?_, ((((Keep.refl (fun i => i = b ∨ i = g ∨ i = sb) w).drew).set (.inr (.inl rfl)) _ _).set (.inl rfl) _ _).set (.inl rfl) _ _⟩
      · rw [HE.out.1]
        exact ⟨hk_far (hk_far (hk_set HR.out.ring 1 (.int .u64 (IntKind.u64.wrap (a.at_ + 1)))) hgb _) hgb _, hk_far (hk_far (hk_far HR.out.slots (Ne.symm HR.out.ne) _) (Ne.symm hbs) _) (Ne.symm hbs) _, HR.out.ne, ⟨HR.out.ok.1, HR.out.ok.2.1, wrap_U64 _, HR.out.ok.2.2.2⟩⟩
      · rw [HE.out.2]
        refine ⟨hk_set (hk_set HA.out 4 _) 2 _, ?_⟩
        exact ⟨H.out.ok.1, H.out.ok.1, H.out.ok.2.2.1, by simp⟩
    · have HC : Aside0 (w.drew.cell? ⟨g, 1, none⟩ = some (.int .u64 r.H)) := ⟨hk_cell HR.out.ring 1⟩
      have HZ : Aside0 (w.drew.frozen? ⟨g, 1, none⟩ = false) := ⟨hk_frozen HR.out.ring 1⟩
      have HE : Aside0 (claimR r a = r ∧ claimA r a = { a with next := 0 }) := ⟨by unfold claimR claimA endOf; rw [HP.out]; simp [he]⟩
      have HNE : Aside0 (¬ r.H = a.at_) := ⟨he⟩
      clear he
      go_enter Try.func29, Try.ntmps29
      go_wp2_with fail
      go_region_held3 (fun w' => w'.cell? ⟨b, 3, none⟩ = some (.int .u64 a.at_)) (first | exact q3' | go_keep) (first | (go_at_call 41; with_reducible refine (cas_miss g 1 r.H a.at_ _ _ HNE.out HC.out HZ.out).mono ?_; intro e w5 hh; obtain ⟨h1, h2⟩ := hh; subst h1; subst h2))
      have z2 := hk_cell H.out.act 2
      have y2 := hk_frozen H.out.act 2
      clear q0 q1 q3 q3'
      go_wp2
      go_end0
      refine ⟨rfl, ?_, ?_, ((Keep.refl (fun i => i = b ∨ i = g ∨ i = sb) w).drew).set (.inl rfl) _ _⟩
      · rw [HE.out.1]
        exact ⟨hk_far HR.out.ring hgb _, hk_far HR.out.slots (Ne.symm hbs) _, HR.out.ne, HR.out.ok⟩
      · rw [HE.out.2]
        exact ⟨hk_set H.out.act 2 _, ask_ok H.out.ok 0 _ (by simp)⟩
end Go.Proofs.Ytepbggoeajihbaa.Ring
