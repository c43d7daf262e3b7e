/- The document's example. -/
import Derived.Test.YtepbggoeajihbaaPq
import Derived.Test.YtepbggoeajihbaaDn
import Derived.Outline
set_option linter.unusedVariables false
set_option linter.unusedSimpArgs false
namespace Go.Proofs.Ytepbggoeajihbaa.Ring
open Go.RowKit Go.Proofs.YtepbggoeajihbaaW.PrintWords Go.Proofs.YtepbggoeajihbaaW.PrintLast Go.Proofs.YtepbggoeajihbaaW.PrintMore Go.Proofs.YtepbggoeajihbaaHk

theorem nwOut {w w' : World} {n : Nat} {e : Ending} (h : NwPost w n e w') : ∃ g sb, e = .returned (.tuple #[.pointer (some ⟨g, 0, none⟩), .int .i64 0]) ∧ IsRing w' g sb (newR n) ∧ w.heap.size ≤ g ∧ w.heap.size ≤ sb ∧ Below w.heap.size w w' := h
/-- As a call: what a try leaves, said for a base below the ring. -/
theorem Keep.ring_below {g sb B : Nat} {w w' : World} (h : Keep (fun i => i = g ∨ i = sb) w w') (hB : B ≤ w.heap.size) (hg : B ≤ g) (hs : B ≤ sb) : Below B w w' :=
  h.below hB (fun i hi hS => by omega)
set_option maxHeartbeats 1600000 in
set_option maxRecDepth 100000 in
theorem awake_walk (w : World) : Calls Try.prog 9 #[] w fun e w' => e = .returned (.bool true) ∧ Below w.heap.size w w' := by
  have q0 := q_new 2 (by simp)
  obtain ⟨R1, A1, s1, o1, q1, n1, T1, H1⟩ := q_push q0 (by omega) 5 (by simp [newR])
  have hn1 : R1.n = 2 := n1
  obtain ⟨R2, A2, s2, o2, q2, n2, T2, H2⟩ := q_push q1 (by omega) 6 (by simp [hn1])
  have hn2 : R2.n = 2 := n2.trans hn1
  obtain ⟨A3, s3, o3⟩ := q_full q2 (by omega) 7 (by simp [hn2])
  obtain ⟨R4, A4, s4, o4, v4, q4, _, _, _⟩ := q_pop (q := [6]) q2 (by omega)
  have HNW : Aside0 (Calls Try.prog 10 #[.int .i64 2] w (NwPost w 2)) := ⟨new_walk 2 (by simp) w⟩
  have HS1 := Aside0.mk s1
  have HS2 := Aside0.mk s2
  have HS3 := Aside0.mk s3
  have HS4 := Aside0.mk s4
  have HO1 := Aside0.mk o1
  have HO2 := Aside0.mk o2
  have HO3 := Aside0.mk o3
  have HO4 := Aside0.mk o4
  have HV4 := Aside0.mk v4
  clear q0 s1 o1 q1 n1 T1 H1 hn1 s2 o2 q2 n2 T2 H2 hn2 s3 o3 s4 o4 v4 q4
  go_enter Try.func9, Try.ntmps9
  go_wp2_with fail
  with_reducible refine HNW.out.mono ?_
  intro e w1 hp
  obtain ⟨g, sb, he, hr, hg, hsb, hb⟩ := nwOut hp
  subst he
  have R0 := Aside0.mk hr
  have B1 := Aside0.mk hb
  clear hp hr hb
  go_wp2_with fail
  with_reducible refine (trypush_walk g sb (newR 2) 5 R1 A1 w1 R0.out (by simp [U64]) HS1.out).mono ?_
  intro e w2 hp
  obtain ⟨he, hr, hk⟩ := tryOut hp
  subst he
  rw [HO1.out]
  have RI1 := Aside0.mk hr
  have B2 := Aside0.mk (B1.out.trans (hk.ring_below B1.out.size hg hsb))
  clear hp hr hk
  go_wp2_with fail
  with_reducible refine (trypush_walk g sb R1 6 R2 A2 w2 RI1.out (by simp [U64]) HS2.out).mono ?_
  intro e w3 hp
  obtain ⟨he, hr, hk⟩ := tryOut hp
  subst he
  rw [HO2.out]
  have RI2 := Aside0.mk hr
  have B3 := Aside0.mk (B2.out.trans (hk.ring_below B2.out.size hg hsb))
  clear hp hr hk
  go_wp2_with fail
  with_reducible refine (trypush_walk g sb R2 7 R2 A3 w3 RI2.out (by simp [U64]) HS3.out).mono ?_
  intro e w4 hp
  obtain ⟨he, hr, hk⟩ := tryOut hp
  subst he
  rw [HO3.out]
  have RI3 := Aside0.mk hr
  have B4 := Aside0.mk (B3.out.trans (hk.ring_below B3.out.size hg hsb))
  clear hp hr hk
  go_wp2_with fail
  with_reducible refine (trypop_walk g sb R2 R4 A4 w4 RI3.out HS4.out).mono ?_
  intro e w5 hp
  obtain ⟨he, hr, hk⟩ := tryOut hp
  subst he
  rw [HO4.out, HV4.out]
  have B5 := Aside0.mk (B4.out.trans (hk.ring_below B4.out.size hg hsb))
  clear hp hr hk
  go_wp2
  go_ret
  exact ⟨rfl, B5.out⟩
end Go.Proofs.Ytepbggoeajihbaa.Ring
