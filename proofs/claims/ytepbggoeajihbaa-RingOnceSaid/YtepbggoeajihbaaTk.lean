/- take. -/
import Derived.Test.YtepbggoeajihbaaCl
import Derived.Deep.RegionHeld3
import Derived.Outline
set_option linter.unusedVariables false
set_option linter.unusedSimpArgs false
namespace Go.Proofs.Ytepbggoeajihbaa.Ring
open Go.RowKit Go.Proofs.YtepbggoeajihbaaW.PrintWords Go.Proofs.YtepbggoeajihbaaW.PrintLast Go.Proofs.YtepbggoeajihbaaW.PrintMore Go.Proofs.YtepbggoeajihbaaHk

def takeR (r : RS) (a : AS) : RS :=
  if a.pops then { r with num := upd r.num (slotOf r a.place) ((a.place + r.n) % 18446744073709551616) }
  else { r with num := upd r.num (slotOf r a.place) ((a.place + 1) % 18446744073709551616), val := upd r.val (slotOf r a.place) a.value }
def takeA (r : RS) (a : AS) : AS :=
  if a.pops then { a with value := r.val (slotOf r a.place), next := 5, well := true } else { a with next := 5, well := true }
theorem upd_ok {f : Nat → Int} (h : ∀ i, U64 (f i)) (k : Nat) (x : Int) (hx : U64 x) : ∀ i, U64 (upd f k x i) := fun i => by unfold upd; split; exact hx; exact h i
set_option maxHeartbeats 3200000 in
set_option maxRecDepth 100000 in
theorem take_walk (b g sb : Nat) (r : RS) (a : AS) (w : World) (hR : IsRing w g sb r) (h : IsAct w b g a) (hbg : b ≠ g) (hbs : b ≠ sb) :
    Calls Try.prog 31 #[.pointer (some ⟨b, 0, none⟩)] w (RingPost w b g sb (takeR r a) (takeA r a)) := by
  have H := Aside0.mk h
  have HR := Aside0.mk hR
  have q0 := hk_cell h.act 0
  have q4 := hk_cell h.act 4
  have hbl := hk_lt h.act
  have hr := fun W => @lw_cell W
  obtain ⟨p, hpa⟩ : ∃ p, p = a.place := ⟨_, rfl⟩
  have hpu : U64 p := by rw [hpa]; exact h.ok.2.1
  have HPA := Aside0.mk hpa
  obtain ⟨k, hk⟩ : ∃ k, k = slotOf r p := ⟨_, rfl⟩
  have hkn : k < r.n := by rw [hk]; exact slotOf_lt hR.ok p
  have HSW := Aside0.mk (fun (W : World) (hW : IsRing W g sb r) => slot_walk g sb r p W hW hpu)
  rw [← hk] at HSW
  have HKK : Aside0 (k = slotOf r a.place) := ⟨by rw [hk, hpa]⟩
  rw [← hpa] at q4
  clear h hR hpu hpa hk
  have hgb : g ≠ b := fun e => hbg e.symm
  cases hp : a.pops
  · go_enter Try.func31, Try.ntmps31
    go_wp2_with fail
    refine region_later (by kernel_rfl) (by kernel_rfl) ?_
    repeat (go_big_quiet_step (first
      | (go_at_call 39; refine later_call (HSW.out _ (HR.out.below (Subtype.property _))))))
    refine wpQuiet_nil ?_
    rintro w4 ⟨⟨_, hb4⟩, rfl⟩
    have H4 := Aside0.mk (H.out.below hb4)
    have R4 := Aside0.mk (HR.out.below hb4)
    have K4 := Aside0.mk (Keep.of_below (S := fun i => i = b ∨ i = g ∨ i = sb) hb4)
    have z1 := hk_cell H4.out.act 1
    have z5 := hk_cell H4.out.act 5
    have z4 := hk_cell H4.out.act 4
    rw [hp] at z1
    rw [← HPA.out] at z4
    have HP := Aside0.mk hp
    have s1 := (hk_cell R4.out.slots (k * 2 + 1)).trans (slot_val _ _ _ k hkn)
    have sf1 := hk_frozen R4.out.slots (k * 2 + 1)
    have hsl := hk_set R4.out.slots (k * 2 + 1) (.int .u64 a.value)
    rw [slot_set_val] at hsl
    have SL5 := Aside0.mk hsl
    have HC : Aside0 ((w4.setCell ⟨sb, k * 2 + 1, none⟩ (.int .u64 a.value)).drew.cell? ⟨sb, k * 2, none⟩ = some (.int .u64 (r.num k))) := ⟨(hk_cell hsl (k * 2)).trans (slot_num _ _ _ k hkn)⟩
    have HZ : Aside0 ((w4.setCell ⟨sb, k * 2 + 1, none⟩ (.int .u64 a.value)).drew.frozen? ⟨sb, k * 2, none⟩ = false) := ⟨hk_frozen hsl (k * 2)⟩
    have hsb : sb ≠ b := fun e => hbs e.symm
    clear hb4 hp q0 q4 hr hsl
    go_wp2_with fail
    go_region_held3 (fun w' => w'.cell? ⟨b, 4, none⟩ = some (.int .u64 p)) (go_keep) (first | (go_at_call 25; with_reducible refine (store_walk sb (k * 2) _ _ _ HC.out HZ.out).mono ?_; intro e w5 hh; obtain ⟨h1, h2⟩ := hh; subst h1; subst h2))
    have A6 := Aside0.mk (hk_far (p := ⟨sb, k * 2, none⟩) (hk_far (p := ⟨sb, k * 2 + 1, none⟩) H4.out.act hbs (.int .u64 a.value)) hbs (.int .u64 (IntKind.u64.wrap (p + 1))))
    have S6 := Aside0.mk (hk_set SL5.out (k * 2) (.int .u64 (IntKind.u64.wrap (p + 1))))
    have G6 := Aside0.mk (hk_far (p := ⟨sb, k * 2, none⟩) (hk_far (p := ⟨sb, k * 2 + 1, none⟩) R4.out.ring HR.out.ne (.int .u64 a.value)) HR.out.ne (.int .u64 (IntKind.u64.wrap (p + 1))))
    clear z1 z4 z5 s1 sf1
    go_wp2_with fail
    with_reducible refine (end_walk b g a true _ ?ha).mono ?_
    case ha => exact ⟨A6.out, H.out.ok⟩
    rintro e w7 ⟨rfl, hi7, hk7⟩
    have HI7 := Aside0.mk hi7
    have R7 : Aside0 (IsRing w7 g sb (takeR r a)) := by
      have e1 : takeR r a = { r with num := upd r.num k (IntKind.u64.wrap (p + 1)), val := upd r.val k a.value } := by unfold takeR; rw [HP.out, ← HKK.out, ← HPA.out, IntKind.wrap_u64]; simp
      rw [e1]
      have hs6 := S6.out
      rw [slot_set_num] at hs6
      exact ⟨⟨hk7.blk G6.out hgb, hk7.blk hs6 hsb, HR.out.ne, HR.out.ok.1, HR.out.ok.2.1, HR.out.ok.2.2.1, upd_ok HR.out.ok.2.2.2.1 _ _ (wrap_U64 _), upd_ok HR.out.ok.2.2.2.2 _ _ H.out.ok.2.2.1⟩⟩
    have K7 := Aside0.mk ((((K4.out.set (.inr (.inr rfl)) (k * 2 + 1) (.int .u64 a.value)).drew).set (.inr (.inr rfl)) (k * 2) (.int .u64 (IntKind.u64.wrap (p + 1)))).trans (hk7.mono (fun i _ h => .inl h)))
    clear hi7 hk7
    go_wp2
    go_end0
    refine ⟨rfl, R7.out, ?_, K7.out⟩
    have e2 : takeA r a = { a with next := 5, well := true } := by unfold takeA; rw [HP.out]; simp
    rw [e2]; exact HI7.out
  · go_enter Try.func31, Try.ntmps31
    go_wp2_with fail
    refine region_later (by kernel_rfl) (by kernel_rfl) ?_
    repeat (go_big_quiet_step (first
      | (go_at_call 39; refine later_call (HSW.out _ (HR.out.below (Subtype.property _))))))
    refine wpQuiet_nil ?_
    rintro w4 ⟨⟨_, hb4⟩, rfl⟩
    have H4 := Aside0.mk (H.out.below hb4)
    have R4 := Aside0.mk (HR.out.below hb4)
    have K4 := Aside0.mk (Keep.of_below (S := fun i => i = b ∨ i = g ∨ i = sb) hb4)
    have z1 := hk_cell H4.out.act 1
    have z5 := hk_cell H4.out.act 5
    have z4 := hk_cell H4.out.act 4
    have z0 := hk_cell H4.out.act 0
    have zf5 := hk_frozen H4.out.act 5
    have g2 := hk_cell R4.out.ring 2
    rw [hp] at z1
    rw [← HPA.out] at z4
    have HP := Aside0.mk hp
    obtain ⟨V, hV⟩ : ∃ V, V = r.val k := ⟨_, rfl⟩
    have HV := Aside0.mk hV
    have s1 := (hk_cell R4.out.slots (k * 2 + 1)).trans (slot_val _ _ _ k hkn)
    rw [← hV] at s1
    have hsb : sb ≠ b := fun e => hbs e.symm
    have SL5 := Aside0.mk (hk_far (p := ⟨b, 5, none⟩) R4.out.slots hsb (.int .u64 V))
    have HC : Aside0 ((w4.setCell ⟨b, 5, none⟩ (.int .u64 V)).drew.cell? ⟨sb, k * 2, none⟩ = some (.int .u64 (r.num k))) := ⟨(hk_cell SL5.out (k * 2)).trans (slot_num _ _ _ k hkn)⟩
    have HZ : Aside0 ((w4.setCell ⟨b, 5, none⟩ (.int .u64 V)).drew.frozen? ⟨sb, k * 2, none⟩ = false) := ⟨hk_frozen SL5.out (k * 2)⟩
    have hn : (r.n : Int) % 18446744073709551616 = r.n := by have := HR.out.ok.1; omega
    have hnw : IntKind.u64.wrap (r.n : Int) = r.n := by rw [IntKind.wrap_u64]; exact hn
    have A5 := Aside0.mk (hk_set H4.out.act 5 (.int .u64 V))
    have G5 := Aside0.mk (hk_far (p := ⟨b, 5, none⟩) R4.out.ring hgb (.int .u64 V))
    have SS : Aside0 ((w4.setCell ⟨b, 5, none⟩ (.int .u64 V)).drew.cell? ⟨b, 4, none⟩ = some (.int .u64 p) ∧ (w4.setCell ⟨b, 5, none⟩ (.int .u64 V)).drew.cell? ⟨b, 0, none⟩ = some (.pointer (some ⟨g, 0, none⟩)) ∧ (w4.setCell ⟨b, 5, none⟩ (.int .u64 V)).drew.cell? ⟨g, 2, none⟩ = some (.slice (some ⟨sb, 0, none⟩) r.n r.n)) :=
      ⟨⟨by rw [HPA.out]; exact hk_cell A5.out 4, hk_cell A5.out 0, hk_cell G5.out 2⟩⟩
    have SS2 : Aside0 (∀ y, ((w4.setCell ⟨b, 5, none⟩ (.int .u64 V)).drew.setCell ⟨sb, k * 2, none⟩ y).cell? ⟨b, 4, none⟩ = some (.int .u64 p) ∧ ((w4.setCell ⟨b, 5, none⟩ (.int .u64 V)).drew.setCell ⟨sb, k * 2, none⟩ y).cell? ⟨b, 0, none⟩ = some (.pointer (some ⟨g, 0, none⟩)) ∧ ((w4.setCell ⟨b, 5, none⟩ (.int .u64 V)).drew.setCell ⟨sb, k * 2, none⟩ y).cell? ⟨g, 2, none⟩ = some (.slice (some ⟨sb, 0, none⟩) r.n r.n)) :=
      ⟨fun y => ⟨by rw [HPA.out]; exact hk_cell (hk_far (p := ⟨sb, k * 2, none⟩) A5.out hbs y) 4, hk_cell (hk_far (p := ⟨sb, k * 2, none⟩) A5.out hbs y) 0, hk_cell (hk_far (p := ⟨sb, k * 2, none⟩) G5.out HR.out.ne y) 2⟩⟩
    clear hb4 hp q0 q4 hr hV
    go_wp2_with fail
    go_region_held3 (fun w' => w'.cell? ⟨b, 4, none⟩ = some (.int .u64 p) ∧ w'.cell? ⟨b, 0, none⟩ = some (.pointer (some ⟨g, 0, none⟩)) ∧ w'.cell? ⟨g, 2, none⟩ = some (.slice (some ⟨sb, 0, none⟩) r.n r.n)) (first | exact SS.out | exact SS2.out _ | go_keep) (first | (go_at_call 25; with_reducible refine (store_walk sb (k * 2) _ _ _ HC.out HZ.out).mono ?_; intro e w5 hh; obtain ⟨h1, h2⟩ := hh; subst h1; subst h2))
    clear z1 z5 z4 z0 s1 g2
    go_wp2_with fail
    with_reducible refine (end_walk b g { a with value := V } true _ ?ha).mono ?_
    case ha => exact ⟨hk_far (p := ⟨sb, k * 2, none⟩) A5.out hbs _, ⟨H.out.ok.1, H.out.ok.2.1, by rw [HV.out]; exact HR.out.ok.2.2.2.2 k, H.out.ok.2.2.2⟩⟩
    rintro e w7 ⟨rfl, hi7, hk7⟩
    have HI7 := Aside0.mk hi7
    have R7 : Aside0 (IsRing w7 g sb (takeR r a)) := by
      have e1 : takeR r a = { r with num := upd r.num k (IntKind.u64.wrap (p + r.n)) } := by unfold takeR; rw [HP.out, ← HKK.out, ← HPA.out, IntKind.wrap_u64]; simp
      rw [e1]
      have hs6 := hk_set SL5.out (k * 2) (.int .u64 (IntKind.u64.wrap (p + r.n)))
      rw [slot_set_num] at hs6
      exact ⟨⟨hk7.blk (hk_far (p := ⟨sb, k * 2, none⟩) G5.out HR.out.ne _) hgb, hk7.blk hs6 hsb, HR.out.ne, HR.out.ok.1, HR.out.ok.2.1, HR.out.ok.2.2.1, upd_ok HR.out.ok.2.2.2.1 _ _ (wrap_U64 _), HR.out.ok.2.2.2.2⟩⟩
    have K7 := Aside0.mk ((((K4.out.set (.inl rfl) 5 (.int .u64 V)).drew).set (.inr (.inr rfl)) (k * 2) (.int .u64 (IntKind.u64.wrap (p + r.n)))).trans (hk7.mono (fun i _ h => .inl h)))
    clear hi7 hk7
    go_wp2
    go_end0
    refine ⟨rfl, R7.out, ?_, K7.out⟩
    have e2 : takeA r a = { a with value := V, next := 5, well := true } := by unfold takeA; rw [HP.out, HV.out, HKK.out]; simp
    rw [e2]; exact HI7.out
end Go.Proofs.Ytepbggoeajihbaa.Ring
