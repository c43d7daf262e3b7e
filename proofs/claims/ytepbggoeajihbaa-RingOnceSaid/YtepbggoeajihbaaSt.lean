/- Step, and what an act tells. -/
import Derived.Test.YtepbggoeajihbaaTk
import Derived.Outline
set_option linter.unusedVariables false
set_option linter.unusedSimpArgs false
namespace Go.Proofs.Ytepbggoeajihbaa.Ring
open Go.RowKit Go.Proofs.YtepbggoeajihbaaW.PrintWords Go.Proofs.YtepbggoeajihbaaW.PrintLast Go.Proofs.YtepbggoeajihbaaW.PrintMore Go.Proofs.YtepbggoeajihbaaHk

set_option maxHeartbeats 1600000 in
set_option maxRecDepth 100000 in
theorem ended_walk (b g : Nat) (a : AS) (w : World) (h : IsAct w b g a) :
    Calls Try.prog 26 #[.pointer (some ⟨b, 0, none⟩)] w fun e w' => e = .returned (.bool (a.next == 5)) ∧ w' = w := by
  have q2 := hk_cell h.act 2
  clear h
  go_enter Try.func26, Try.ntmps26
  go_wp2
  go_ret
  exact ⟨rfl, rfl⟩
set_option maxHeartbeats 1600000 in
set_option maxRecDepth 100000 in
theorem ok_walk (b g : Nat) (a : AS) (w : World) (h : IsAct w b g a) :
    Calls Try.prog 15 #[.pointer (some ⟨b, 0, none⟩)] w fun e w' => e = .returned (.bool a.well) ∧ w' = w := by
  have q6 := hk_cell h.act 6
  clear h
  go_enter Try.func15, Try.ntmps15
  go_wp2
  go_ret
  exact ⟨rfl, rfl⟩
set_option maxHeartbeats 1600000 in
set_option maxRecDepth 100000 in
theorem place_walk (b g : Nat) (a : AS) (w : World) (h : IsAct w b g a) :
    Calls Try.prog 14 #[.pointer (some ⟨b, 0, none⟩)] w fun e w' => e = .returned (.int .u64 a.place) ∧ w' = w := by
  have q4 := hk_cell h.act 4
  clear h
  go_enter Try.func14, Try.ntmps14
  go_wp2
  go_ret
  exact ⟨rfl, rfl⟩
def valueOf (a : AS) : Int := if a.pops && a.well then a.value else 0
set_option maxHeartbeats 1600000 in
set_option maxRecDepth 100000 in
theorem value_walk (b g : Nat) (a : AS) (w : World) (h : IsAct w b g a) :
    Calls Try.prog 16 #[.pointer (some ⟨b, 0, none⟩)] w fun e w' => e = .returned (.int .u64 (valueOf a)) ∧ w' = w := by
  have q1 := hk_cell h.act 1
  have q5 := hk_cell h.act 5
  have q6 := hk_cell h.act 6
  clear h
  unfold valueOf
  cases hp : a.pops <;> cases hw : a.well
  all_goals
    rw [hp] at q1
    rw [hw] at q6
    clear hp hw
    go_enter Try.func16, Try.ntmps16
    go_wp2
    go_ret
    exact ⟨rfl, rfl⟩

/-- One step: the ring, the act. -/
def stepR (r : RS) (a : AS) : RS := if a.next = 2 then claimR r a else if a.next = 3 then takeR r a else if a.next = 4 then { r with T := (r.T + 1) % 18446744073709551616 } else r
def stepA (r : RS) (a : AS) : AS :=
  if a.next = 0 then { a with next := 1, at_ := endOf r a.pops } else if a.next = 1 then askS r a else if a.next = 2 then claimA r a else if a.next = 3 then takeA r a
  else if a.next = 4 then { a with place := ((r.T + 1) % 18446744073709551616 - 1) % 18446744073709551616, next := 3 } else a
def StepPost (w : World) (b g sb : Nat) (r : RS) (a : AS) (e : Ending) (w' : World) : Prop := e = .returned (.bool ((stepA r a).next == 5)) ∧ IsRing w' g sb (stepR r a) ∧ IsAct w' b g (stepA r a) ∧ Keep (fun i => i = b ∨ i = g ∨ i = sb) w w'
theorem stepOut {w w' : World} {b g sb : Nat} {r : RS} {a : AS} {e : Ending} (h : StepPost w b g sb r a e w') : e = .returned (.bool ((stepA r a).next == 5)) ∧ IsRing w' g sb (stepR r a) ∧ IsAct w' b g (stepA r a) ∧ Keep (fun i => i = b ∨ i = g ∨ i = sb) w w' := h
set_option maxHeartbeats 1600000 in
set_option maxRecDepth 100000 in
theorem step_0 (b g sb : Nat) (r : RS) (a : AS) (w : World) (hR : IsRing w g sb r) (h : IsAct w b g a) (hbg : b ≠ g) (hbs : b ≠ sb) (hn : a.next = 0) :
    Calls Try.prog 13 #[.pointer (some ⟨b, 0, none⟩)] w (StepPost w b g sb r a) := by
  have H := Aside0.mk h
  have HR := Aside0.mk hR
  have q2 := hk_cell h.act 2
  have HEN := Aside0.mk (ended_walk b g a w h)
  rw [hn] at HEN q2
  have HNX : Aside0 (a.next = 0) := ⟨hn⟩
  have HE1 : Aside0 (stepA r a = { a with next := 1, at_ := endOf r a.pops }) := ⟨by unfold stepA; rw [hn]; simp⟩
  have HE2 : Aside0 (stepR r a = r) := ⟨by unfold stepR; rw [hn]; simp⟩
  clear h hR hn
  go_enter Try.func13, Try.ntmps13
  go_wp2_with fail
  with_reducible refine HEN.out.mono ?_
  rintro e w1 ⟨rfl, rfl⟩
  go_wp2_with fail
  with_reducible refine (read_walk b g sb r a w1 HR.out H.out hbg).mono ?_
  intro e w2 hp
  obtain ⟨he, hi2, hk2⟩ := actOut hp
  subst he
  have HI2 := Aside0.mk hi2
  have HR2 := Aside0.mk (HR.out.keep hk2 (fun e => hbg e.symm) (fun e => hbs e.symm))
  have HK2 := Aside0.mk (hk2.mono (S' := fun i => i = b ∨ i = g ∨ i = sb) (fun i _ h => .inl h))
  clear hp hi2 hk2 q2
  go_wp2_with fail
  with_reducible refine (ended_walk b g _ w2 HI2.out).mono ?_
  rintro e w3 ⟨rfl, rfl⟩
  go_wp2
  go_ret
  exact ⟨by rw [HE1.out]; rfl, by rw [HE2.out]; exact HR2.out, by rw [HE1.out]; exact HI2.out, HK2.out⟩
set_option maxHeartbeats 1600000 in
set_option maxRecDepth 100000 in
theorem step_1 (b g sb : Nat) (r : RS) (a : AS) (w : World) (hR : IsRing w g sb r) (h : IsAct w b g a) (hbg : b ≠ g) (hbs : b ≠ sb) (hn : a.next = 1) :
    Calls Try.prog 13 #[.pointer (some ⟨b, 0, none⟩)] w (StepPost w b g sb r a) := by
  have H := Aside0.mk h
  have HR := Aside0.mk hR
  have q2 := hk_cell h.act 2
  have HEN := Aside0.mk (ended_walk b g a w h)
  rw [hn] at HEN q2
  have HNX : Aside0 (a.next = 1) := ⟨hn⟩
  have HE1 : Aside0 (stepA r a = askS r a) := ⟨by unfold stepA; rw [hn]; simp⟩
  have HE2 : Aside0 (stepR r a = r) := ⟨by unfold stepR; rw [hn]; simp⟩
  clear h hR hn
  go_enter Try.func13, Try.ntmps13
  go_wp2_with fail
  with_reducible refine HEN.out.mono ?_
  rintro e w1 ⟨rfl, rfl⟩
  go_wp2_with fail
  with_reducible refine (ask_walk b g sb r a w1 HR.out H.out hbg).mono ?_
  intro e w2 hp
  obtain ⟨he, hi2, hk2⟩ := actOut hp
  subst he
  have HI2 := Aside0.mk hi2
  have HR2 := Aside0.mk (HR.out.keep hk2 (fun e => hbg e.symm) (fun e => hbs e.symm))
  have HK2 := Aside0.mk (hk2.mono (S' := fun i => i = b ∨ i = g ∨ i = sb) (fun i _ h => .inl h))
  clear hp hi2 hk2 q2
  go_wp2_with fail
  with_reducible refine (ended_walk b g _ w2 HI2.out).mono ?_
  rintro e w3 ⟨rfl, rfl⟩
  go_wp2
  go_ret
  exact ⟨by rw [HE1.out]; rfl, by rw [HE2.out]; exact HR2.out, by rw [HE1.out]; exact HI2.out, HK2.out⟩
set_option maxHeartbeats 1600000 in
set_option maxRecDepth 100000 in
theorem step_2 (b g sb : Nat) (r : RS) (a : AS) (w : World) (hR : IsRing w g sb r) (h : IsAct w b g a) (hbg : b ≠ g) (hbs : b ≠ sb) (hn : a.next = 2) :
    Calls Try.prog 13 #[.pointer (some ⟨b, 0, none⟩)] w (StepPost w b g sb r a) := by
  have H := Aside0.mk h
  have HR := Aside0.mk hR
  have q2 := hk_cell h.act 2
  have HEN := Aside0.mk (ended_walk b g a w h)
  rw [hn] at HEN q2
  have HNX : Aside0 (a.next = 2) := ⟨hn⟩
  have HE1 : Aside0 (stepA r a = claimA r a) := ⟨by unfold stepA; rw [hn]; simp⟩
  have HE2 : Aside0 (stepR r a = claimR r a) := ⟨by unfold stepR; rw [hn]; simp⟩
  clear h hR hn
  go_enter Try.func13, Try.ntmps13
  go_wp2_with fail
  with_reducible refine HEN.out.mono ?_
  rintro e w1 ⟨rfl, rfl⟩
  go_wp2_with fail
  with_reducible refine (claim_walk b g sb r a w1 HR.out H.out hbg hbs).mono ?_
  intro e w2 hp
  obtain ⟨he, hr2, hi2, hk2⟩ := ringOut hp
  subst he
  have HI2 := Aside0.mk hi2
  have HR2 := Aside0.mk hr2
  have HK2 := Aside0.mk hk2
  clear hp hi2 hk2 hr2 q2
  go_wp2_with fail
  with_reducible refine (ended_walk b g _ w2 HI2.out).mono ?_
  rintro e w3 ⟨rfl, rfl⟩
  go_wp2
  go_ret
  exact ⟨by rw [HE1.out]; rfl, by rw [HE2.out]; exact HR2.out, by rw [HE1.out]; exact HI2.out, HK2.out⟩
set_option maxHeartbeats 1600000 in
set_option maxRecDepth 100000 in
theorem step_3 (b g sb : Nat) (r : RS) (a : AS) (w : World) (hR : IsRing w g sb r) (h : IsAct w b g a) (hbg : b ≠ g) (hbs : b ≠ sb) (hn : a.next = 3) :
    Calls Try.prog 13 #[.pointer (some ⟨b, 0, none⟩)] w (StepPost w b g sb r a) := by
  have H := Aside0.mk h
  have HR := Aside0.mk hR
  have q2 := hk_cell h.act 2
  have HEN := Aside0.mk (ended_walk b g a w h)
  rw [hn] at HEN q2
  have HNX : Aside0 (a.next = 3) := ⟨hn⟩
  have HE1 : Aside0 (stepA r a = takeA r a) := ⟨by unfold stepA; rw [hn]; simp⟩
  have HE2 : Aside0 (stepR r a = takeR r a) := ⟨by unfold stepR; rw [hn]; simp⟩
  clear h hR hn
  go_enter Try.func13, Try.ntmps13
  go_wp2_with fail
  with_reducible refine HEN.out.mono ?_
  rintro e w1 ⟨rfl, rfl⟩
  go_wp2_with fail
  with_reducible refine (take_walk b g sb r a w1 HR.out H.out hbg hbs).mono ?_
  intro e w2 hp
  obtain ⟨he, hr2, hi2, hk2⟩ := ringOut hp
  subst he
  have HI2 := Aside0.mk hi2
  have HR2 := Aside0.mk hr2
  have HK2 := Aside0.mk hk2
  clear hp hi2 hk2 hr2 q2
  go_wp2_with fail
  with_reducible refine (ended_walk b g _ w2 HI2.out).mono ?_
  rintro e w3 ⟨rfl, rfl⟩
  go_wp2
  go_ret
  exact ⟨by rw [HE1.out]; rfl, by rw [HE2.out]; exact HR2.out, by rw [HE1.out]; exact HI2.out, HK2.out⟩
set_option maxHeartbeats 1600000 in
set_option maxRecDepth 100000 in
theorem step_5 (b g sb : Nat) (r : RS) (a : AS) (w : World) (hR : IsRing w g sb r) (h : IsAct w b g a) (hn : a.next = 5) :
    Calls Try.prog 13 #[.pointer (some ⟨b, 0, none⟩)] w (StepPost w b g sb r a) := by
  have H := Aside0.mk h
  have HR := Aside0.mk hR
  have HEN := Aside0.mk (ended_walk b g a w h)
  have HE1 : Aside0 (stepA r a = a) := ⟨by unfold stepA; rw [hn]; simp⟩
  have HE2 : Aside0 (stepR r a = r) := ⟨by unfold stepR; rw [hn]; simp⟩
  rw [hn] at HEN
  have HNX : Aside0 (a.next = 5) := ⟨hn⟩
  clear h hR hn
  go_enter Try.func13, Try.ntmps13
  go_wp2_with fail
  with_reducible refine HEN.out.mono ?_
  rintro e w1 ⟨rfl, rfl⟩
  go_wp2
  go_ret
  exact ⟨by rw [HE1.out, HNX.out]; rfl, by rw [HE2.out]; exact HR.out, by rw [HE1.out]; exact H.out, Keep.refl _ _⟩
set_option maxHeartbeats 1600000 in
set_option maxRecDepth 100000 in
theorem step_4 (b g sb : Nat) (r : RS) (a : AS) (w : World) (hR : IsRing w g sb r) (h : IsAct w b g a) (hbg : b ≠ g) (hbs : b ≠ sb) (hn : a.next = 4) :
    Calls Try.prog 13 #[.pointer (some ⟨b, 0, none⟩)] w (StepPost w b g sb r a) := by
  have H := Aside0.mk h
  have HR := Aside0.mk hR
  have q2 := hk_cell h.act 2
  have q0 := hk_cell h.act 0
  have HEN := Aside0.mk (ended_walk b g a w h)
  rw [hn] at HEN q2
  have hgb : g ≠ b := fun e => hbg e.symm
  have HE1 : Aside0 (stepA r a = { a with place := IntKind.u64.wrap ((r.T + 1) % 18446744073709551616 - 1), next := 3 }) := ⟨by unfold stepA; rw [hn, IntKind.wrap_u64]; simp⟩
  have HE2 : Aside0 (stepR r a = { r with T := (r.T + 1) % 18446744073709551616 }) := ⟨by unfold stepR; rw [hn]; simp⟩
  obtain ⟨T1, hT1⟩ : ∃ T1, T1 = (r.T + 1) % 18446744073709551616 := ⟨_, rfl⟩
  have HTU : Aside0 (U64 T1) := ⟨by rw [hT1]; unfold U64; omega⟩
  have HAD := Aside0.mk (add_walk g 0 r.T 1 w (hk_cell hR.ring 0) (hk_frozen hR.ring 0))
  rw [← hT1] at HE1 HE2 HAD
  have HA := Aside0.mk (hk_far (p := ⟨g, 0, none⟩) h.act hbg (.int .u64 T1))
  have z4 := hk_cell HA.out 4
  have y4 := hk_frozen HA.out 4
  have z2 := hk_cell HA.out 2
  have y2 := hk_frozen HA.out 2
  clear h hR hn hT1
  go_enter Try.func13, Try.ntmps13
  go_wp2_with fail
  with_reducible refine HEN.out.mono ?_
  rintro e w1 ⟨rfl, rfl⟩
  go_wp2_with fail
  with_reducible refine HAD.out.mono ?_
  rintro e w2 ⟨rfl, rfl⟩
  go_wp2_with fail
  have HI2 := Aside0.mk (show IsAct _ b g { a with place := IntKind.u64.wrap (T1 - 1), next := 3 } from ⟨hk_set (hk_set HA.out 4 (.int .u64 (IntKind.u64.wrap (T1 - 1)))) 2 (.int .i64 3), H.out.ok.1, wrap_U64 _, H.out.ok.2.2.1, by simp⟩)
  have HR2 := Aside0.mk (show IsRing _ g sb { r with T := T1 } from ⟨hk_far (p := ⟨b, 2, none⟩) (hk_far (p := ⟨b, 4, none⟩) (hk_set HR.out.ring 0 (.int .u64 T1)) hgb (.int .u64 (IntKind.u64.wrap (T1 - 1)))) hgb (.int .i64 3), hk_far (hk_far (hk_far HR.out.slots (Ne.symm HR.out.ne) _) (Ne.symm hbs) _) (Ne.symm hbs) _, HR.out.ne, HR.out.ok.1, HTU.out, HR.out.ok.2.2⟩)
  have HK2 := Aside0.mk ((((Keep.refl (fun i => i = b ∨ i = g ∨ i = sb) w1).set (.inr (.inl rfl)) 0 (.int .u64 T1)).set (.inl rfl) 4 (.int .u64 (IntKind.u64.wrap (T1 - 1)))).set (.inl rfl) 2 (.int .i64 3))
  clear z4 y4 z2 y2 q0 q2
  with_reducible refine (ended_walk b g _ _ HI2.out).mono ?_
  rintro e w3 ⟨rfl, rfl⟩
  go_wp2
  go_ret
  exact ⟨by rw [HE1.out]; rfl, by rw [HE2.out]; exact HR2.out, by rw [HE1.out]; exact HI2.out, HK2.out⟩
theorem step_walk (b g sb : Nat) (r : RS) (a : AS) (w : World) (hR : IsRing w g sb r) (h : IsAct w b g a) (hbg : b ≠ g) (hbs : b ≠ sb) :
    Calls Try.prog 13 #[.pointer (some ⟨b, 0, none⟩)] w (StepPost w b g sb r a) := by
  rcases h.ok.2.2.2 with hn | hn | hn | hn | hn | hn
  · exact step_0 b g sb r a w hR h hbg hbs hn
  · exact step_1 b g sb r a w hR h hbg hbs hn
  · exact step_2 b g sb r a w hR h hbg hbs hn
  · exact step_3 b g sb r a w hR h hbg hbs hn
  · exact step_4 b g sb r a w hR h hbg hbs hn
  · exact step_5 b g sb r a w hR h hn
end Go.Proofs.Ytepbggoeajihbaa.Ring
