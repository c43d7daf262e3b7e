/- The walk of ModeDwells. -/
import Derived.Test.YtgackgdoikfmdaaPureC
import Derived.Test.YtgackgdoikfmdaaFlat
set_option linter.unusedVariables false
set_option linter.unusedSimpArgs false
namespace Go.Proofs.Ytgackgdoikfmdaa.PModeTurns
open Go.RowKit Go.Proofs.YtgackgdoikfmdaaW.PrintWords Go.Proofs.YtgackgdoikfmdaaW.PrintLast Go.Proofs.YtgackgdoikfmdaaW.PrintMore Go.Proofs.YtgackgdoikfmdaaHk
theorem max2_mx (k k' : IntKind) (x y : Int) : Builtin.max2 (.int k x) (.int k' y) = pure (.int k (mx x y)) := max2_int k k' x y
theorem mx_i64 {x y : Int} (hx : I64 x) (hy : I64 y) : I64 (mx x y) := by unfold mx; split <;> assumption
attribute [local go_sem] max2_mx max_two
/-- What the loop keeps. -/
structure DwI (w wr : World) (p7 : Nat) (p0 p1 p2 : Int) (l : Bool) (last turns : Int) : Prop where
  below : Below w.heap.size w wr
  old : w.heap.size < p7
  lt : p7 < wr.heap.size
  q0 : wr.cell? ⟨w.heap.size, 0, none⟩ = some (.int .i64 p0)
  q1 : wr.cell? ⟨w.heap.size, 1, none⟩ = some (.int .i64 p1)
  q2 : wr.cell? ⟨w.heap.size, 2, none⟩ = some (.int .i64 p2)
  s0 : wr.cell? ⟨p7, 0, none⟩ = some (.bool l)
  s1 : wr.cell? ⟨p7, 1, none⟩ = some (.int .i64 last)
  s2 : wr.cell? ⟨p7, 2, none⟩ = some (.int .u64 turns)
  f0 : wr.frozen? ⟨p7, 0, none⟩ = false
  f1 : wr.frozen? ⟨p7, 1, none⟩ = false
  f2 : wr.frozen? ⟨p7, 2, none⟩ = false
set_option maxHeartbeats 1600000 in
set_option maxRecDepth 100000 in
theorem dwells_walk (p0 p1 p2 now : Int) (ab ao len cap : Nat) (w : World) (haw : overfalllaw10_awake.f = some true) (hnow : I64 now) (hlen : len * 24 ≤ 140737488351232)
    (hsl : ∀ k, k < len → ∃ x y z : Int, I64 x ∧ I64 y ∧ I64 z ∧ w.cell? ⟨ab, ao + k * 3, none⟩ = some (.int .i64 x) ∧ w.cell? ⟨ab, ao + k * 3 + 1, none⟩ = some (.int .i64 y) ∧ w.cell? ⟨ab, ao + k * 3 + 2, none⟩ = some (.int .i64 z)) :
    Calls Try.prog 4 #[.agg #[.int .i64 p0, .int .i64 p1, .int .i64 p2], .int .i64 now, .slice (some ⟨ab, ao, none⟩) len cap] w fun e w' => e = .returned (.bool true) ∧ Below w.heap.size w w' := by
  have Haw := Aside0.mk haw; clear haw
  have Hsl := Aside0.mk hsl; clear hsl
  have hu24 := Try.underlying24
  have hu26 := Try.underlying26
  have hu34 := Try.underlying34
  go_enter Try.func4, Try.ntmps4
  go_wp2_with fail
  refine (overfalllaw10_awake.calls _ _ Haw.out).mono ?_
  rintro e w1 ⟨rfl, hb1⟩
  have HB1 := Aside0.mk (hk_then ((Below.refl w.heap.size w).alloc (Nat.le_refl _) _) hb1 (by simp))
  have hz1 : w.heap.size < w1.heap.size := by have := hb1.size; simp at this; omega
  have hne : w.heap.size ≠ w1.heap.size := by omega
  obtain ⟨hc1, hf1⟩ := bcell hb1
  clear hb1
  go_wp2_with fail
  go_loopw [1, 8, 9, 18] (fun v1 v8 v9 v18 wr => ∃ (k : Nat) (nw last turns : Int) (l : Bool), k ≤ len ∧ I64 nw ∧ I64 last ∧ U64 turns ∧ v1 = .int .i64 nw ∧ v8 = .int .i64 last ∧ v9 = .int .u64 turns ∧ v18 = .int .i64 k ∧ DwI w wr w1.heap.size p0 p1 p2 l last turns)
    (fun _ _ _ i _ => len - (intOf i).toNat)
  case atStart => exact ⟨0, now, 0, 0, false, Nat.zero_le _, hnow, by unfold I64; omega, by unfold U64; omega, rfl, rfl, rfl, rfl,
    ⟨HB1.out.alloc (by omega) _, by omega, by simp, by go_simp, by go_simp, by go_simp, by simp, by simp, by simp, by simp, by simp, by simp⟩⟩
  case round =>
    obtain ⟨k, nw, last, turns, l, hk, hnw, hlast, hturns, rfl, rfl, rfl, rfl, HI⟩ := hrel
    have hI := Aside0.mk HI; clear HI
    have q0 := hI.out.q0
    have q1 := hI.out.q1
    have q2 := hI.out.q2
    have s0 := hI.out.s0
    have s1 := hI.out.s1
    have s2 := hI.out.s2
    have f0 := hI.out.f0
    have f1 := hI.out.f1
    have f2 := hI.out.f2
    have hlt1 := hI.out.lt
    have hlt0 := hI.out.old
    clear hc1 hf1 hz1 hne
    generalize hp7 : w1.heap.size = p7 at *
    by_cases hlt : k < len
    · by_cases h50 : 50 ≤ k
      · obtain ⟨x, y, z, hx, hy, hz, e0, e1, e2⟩ := Hsl.out k hlt
        have e0' := hI.out.below.cell (p := ⟨ab, ao + k * 3, none⟩) (World.block_lt_of_cell? w _ e0)
        have e1' := hI.out.below.cell (p := ⟨ab, ao + k * 3 + 1, none⟩) (World.block_lt_of_cell? w _ e1)
        have e2' := hI.out.below.cell (p := ⟨ab, ao + k * 3 + 2, none⟩) (World.block_lt_of_cell? w _ e2)
        rw [e0] at e0'; rw [e1] at e1'; rw [e2] at e2'
        clear e0 e1 e2
        go_wp2
        go_ret
        exact ⟨rfl, hI.out.below.alloc (by omega) _⟩
      · obtain ⟨x, y, z, hx, hy, hz, e0, e1, e2⟩ := Hsl.out k hlt
        have e0' := hI.out.below.cell (p := ⟨ab, ao + k * 3, none⟩) (World.block_lt_of_cell? w _ e0)
        have e1' := hI.out.below.cell (p := ⟨ab, ao + k * 3 + 1, none⟩) (World.block_lt_of_cell? w _ e1)
        have e2' := hI.out.below.cell (p := ⟨ab, ao + k * 3 + 2, none⟩) (World.block_lt_of_cell? w _ e2)
        rw [e0] at e0'; rw [e1] at e1'; rw [e2] at e2'
        clear e0 e1 e2
        have hn1 : p7 ≠ wr.heap.size := by omega
        have hn2 : w.heap.size ≠ wr.heap.size := by omega
        have hn3 : w.heap.size ≠ p7 := by omega
        have hn4 : w.heap.size < wr.heap.size := by omega
        have hn5 : p7 < wr.heap.size + 1 := by omega
        have hn6 : w.heap.size < wr.heap.size + 1 := by omega
        have hm : I64 (mx x 0) := mx_i64 hx (by unfold I64; omega)
        go_wp2_with fail
        generalize mx x 0 = m at *
        with_reducible refine (overfallref02_Add.calls 20 _ _ _ _ (ref2_Add_eq 0 hnw hm)).mono ?_
        rintro e w2 ⟨rfl, hb2⟩
        obtain ⟨hc2, hf2⟩ := bcell hb2
        have HB2 := Aside0.mk (hk_then (hI.out.below.alloc (by omega) _) hb2 (by simp; omega))
        have hz2 : wr.heap.size < w2.heap.size := by have := hb2.size; simp at this; omega
        clear hb2
        have hz3 : p7 < w2.heap.size := by omega
        have hz4 : w.heap.size < w2.heap.size := by omega
        have hn2' := sat_i64 (nw + m)
        generalize sat (nw + m) = n2 at *
        have ht0 := turn_eq l last turns p0 p1 p2 n2 y z hlast hn2'
        rcases turnS_two l last turns p0 p1 p2 n2 y z with hT | hT
        · rw [hT] at ht0
          have ht := Aside0.mk ht0
          have hs : same3 l l last last turns turns = true := by simp [same3]
          have hll : (l == l) = true := by simp
          clear ht0 hT
          go_wp2_with fail
          with_reducible refine (mode_State_Turn.calls _ _ _ _ _ _ _ _ _ _ _ _ _ ht.out).mono ?_
          rintro e w3 ⟨rfl, hb3⟩
          obtain ⟨hc3, hf3⟩ := bcell hb3
          have HB3 := Aside0.mk (hk_then HB2.out hb3 (by omega))
          have hz6 : w2.heap.size ≤ w3.heap.size := hb3.size
          clear hb3
          have hz7 : p7 < w3.heap.size := by omega
          have hz8 : w.heap.size < w3.heap.size := by omega
          have hz9 : p7 ≠ w3.heap.size := by omega
          have hz10 : w.heap.size ≠ w3.heap.size := by omega
          go_wp2
          go_roundw
          case rel => exact ⟨k + 1, n2, last, turns, l, by omega, hn2', hlast, hturns, rfl, rfl, rfl, by go_num, ⟨HB3.out.alloc (by omega) _, by omega, by simp; omega, by go_simp, by go_simp, by go_simp, by go_simp, by go_simp, by go_simp, by go_simp, by go_simp, by go_simp⟩⟩
          case measure => simp [intOf]; omega
        · have hnd : turns = 0 ∨ ¬ sat (n2 - last) < p2 := by
            unfold turnS at hT
            by_cases h0 : turns = 0
            · exact .inl h0
            · refine .inr fun hlt' => ?_
              rw [if_pos (.inr ⟨h0, hlt'⟩)] at hT
              have := congrArg (fun q => q.1) hT
              revert this; cases l <;> simp
          rw [hT] at ht0
          have hl0 : ((!l) == l) = false := by cases l <;> rfl
          generalize (!l) = t0 at *
          have hw2 : IntKind.u64.wrap (turns + 1) = (turns + 1) % 18446744073709551616 := wrap_u64 _
          have ht2 : U64 ((turns + 1) % 18446744073709551616) := by unfold U64; omega
          generalize (turns + 1) % 18446744073709551616 = t2 at *
          have ht := Aside0.mk ht0
          have hw2' := Aside0.mk hw2
          clear ht0 hT hw2
          go_wp2_with fail
          with_reducible refine (mode_State_Turn.calls _ _ _ _ _ _ _ _ _ _ _ _ _ ht.out).mono ?_
          rintro e w3 ⟨rfl, hb3⟩
          obtain ⟨hc3, hf3⟩ := bcell hb3
          have HB3 := Aside0.mk (hk_then HB2.out hb3 (by omega))
          have hz6 : w2.heap.size ≤ w3.heap.size := hb3.size
          clear hb3
          have hz7 : p7 < w3.heap.size := by omega
          have hz8 : w.heap.size < w3.heap.size := by omega
          have hz9 : p7 ≠ w3.heap.size := by omega
          have hz10 : w.heap.size ≠ w3.heap.size := by omega
          have hz11 : p7 < w3.heap.size + 1 := by omega
          have hz12 : w.heap.size < w3.heap.size + 1 := by omega
          have hr := fun W => @lw_cell W
          have hnn : (n2 != n2) = false := by simp
          have hwk := hw2'.out
          by_cases h0 : turns = 0
          · have h0' : decide (0 < turns) = false := by simp; omega
            have h0h := Aside0.mk h0; clear h0
            go_wp2_with fail
            refine region_later (by kernel_rfl) (by kernel_rfl) ?_
            repeat (go_big_quiet_step (fail))
            refine wpQuiet_nil ?_
            rintro w4 ⟨⟨_, hb4⟩, rfl⟩
            obtain ⟨hc4, hf4⟩ := bcell hb4
            have HB4 := Aside0.mk (hk_then (HB3.out.alloc (by omega) _) hb4 (by simp; omega))
            have hz14 : w3.heap.size < w4.heap.size := by have := hb4.size; simp at this; omega
            clear hb4
            have hz15 : p7 < w4.heap.size := by omega
            have hz16 : w.heap.size < w4.heap.size := by omega
            go_wp2_with fail
            go_region
            go_wp2
            go_roundw
            case rel => exact ⟨k + 1, n2, n2, t2, t0, by omega, hn2', hn2', ht2, rfl, rfl, rfl, by go_num, ⟨((HB4.out.drew.setCell (by simp; omega) _).setCell (by simp; omega) _).setCell (by simp; omega) _, by omega, by simp; omega, by go_simp, by go_simp, by go_simp, by go_simp, by go_simp, by go_simp, by go_simp, by go_simp, by go_simp⟩⟩
            case measure => simp [intOf]; omega
          · have h0' : decide (0 < turns) = true := by unfold U64 at hturns; simp; omega
            have hnd' : decide (sat (n2 - last) < p2) = false := by
              rcases hnd with h | h
              · exact absurd h h0
              · simpa using h
            have hsb := Aside0.mk (ref2_Sub_eq 0 hn2' hlast)
            generalize sat (n2 - last) = dd at *
            clear hnd h0
            go_wp2_with fail
            refine region_later (by kernel_rfl) (by kernel_rfl) ?_
            repeat (go_big_quiet_step (first
              | (go_at_call 12; refine later_call (overfallref02_Sub.calls 20 _ _ _ _ hsb.out))))
            refine wpQuiet_nil ?_
            rintro w4 ⟨⟨_, hb4⟩, rfl⟩
            obtain ⟨hc4, hf4⟩ := bcell hb4
            have HB4 := Aside0.mk (hk_then (HB3.out.alloc (by omega) _) hb4 (by simp; omega))
            have hz14 : w3.heap.size < w4.heap.size := by have := hb4.size; simp at this; omega
            clear hb4
            have hz15 : p7 < w4.heap.size := by omega
            have hz16 : w.heap.size < w4.heap.size := by omega
            go_wp2_with fail
            go_region
            go_wp2
            go_roundw
            case rel => exact ⟨k + 1, n2, n2, t2, t0, by omega, hn2', hn2', ht2, rfl, rfl, rfl, by go_num, ⟨((HB4.out.drew.setCell (by simp; omega) _).setCell (by simp; omega) _).setCell (by simp; omega) _, by omega, by simp; omega, by go_simp, by go_simp, by go_simp, by go_simp, by go_simp, by go_simp, by go_simp, by go_simp, by go_simp⟩⟩
            case measure => simp [intOf]; omega
    · go_wp2
      go_ret
      exact ⟨rfl, hI.out.below⟩
end Go.Proofs.Ytgackgdoikfmdaa.PModeTurns
namespace Go.Proofs.Ytgackgdoikfmdaa.PModeTurns
open Go.RowKit Go.Proofs.YtgackgdoikfmdaaW.PrintWords Go.Proofs.YtgackgdoikfmdaaW.PrintLast Go.Proofs.YtgackgdoikfmdaaW.PrintMore Go.Proofs.YtgackgdoikfmdaaHk
/-- No element: no round. -/
theorem dwells_none (p0 p1 p2 now : Int) (a : Option Addr) (cap : Nat) (w : World) (haw : overfalllaw10_awake.f = some true) :
    Calls Try.prog 4 #[.agg #[.int .i64 p0, .int .i64 p1, .int .i64 p2],   .int .i64 now, .slice a 0 cap] w fun e w' => e = .returned (.bool true) ∧ Below w.heap.size w w' := by
  have Haw := Aside0.mk haw; clear haw
  have hu24 := Try.underlying24
  have hu26 := Try.underlying26
  have hu34 := Try.underlying34
  go_enter Try.func4, Try.ntmps4
  go_wp2_with fail
  refine (overfalllaw10_awake.calls _ _ Haw.out).mono ?_
  rintro e w1 ⟨rfl, hb1⟩
  have HB1 := Aside0.mk (hk_then ((Below.refl w.heap.size w).alloc (Nat.le_refl _) _) hb1 (by simp))
  have hz1 : w.heap.size < w1.heap.size := by have := hb1.size; simp at this; omega
  clear hb1
  go_wp2_with fail
  go_loopw [18] (fun v18 wr => v18 = .int .i64 0 ∧ Aside0 (Below w.heap.size w wr)) (fun _ _ => 0)
  case atStart => exact ⟨rfl, ⟨HB1.out.alloc (by omega) _⟩⟩
  case round =>
    obtain ⟨rfl, HB2⟩ := hrel
    go_wp2
    go_ret
    exact ⟨rfl, HB2.out⟩

open Go.Proofs.YtgackgdoikfmdaaFlat
theorem add_none (b o n : Nat) : (⟨b, o, none⟩ : Addr).add n = ⟨b, o + n, none⟩ := by unfold Addr.add; split <;> simp_all
theorem dwells_row (p0 p1 p2 now : Int) (a : Option Addr) (len cap : Nat) (w : World) (w0 : (Lit.int .i64 p0).wf = true) (w1 : (Lit.int .i64 p1).wf = true) (w2 : (Lit.int .i64 p2).wf = true) (wn : (Lit.int .i64 now).wf = true)
    (f : len ≤ cap ∧ cap ≤ maxLen ∧ (a = none → len = 0 ∧ cap = 0) ∧ ∀ ad, a = some ad → ∀ i, i < len → ∃ cs, Scs [some .i64, some .i64, some .i64] cs ∧ ∀ j, j < 3 → w.cell? (ad.add (i * 3 + j)) = cs[j]?) (hl : len * 24 ≤ 140737488351232) :
    Calls Try.prog 4 #[.agg #[.int .i64 p0, .int .i64 p1, .int .i64 p2], .int .i64 now, .slice a len cap] w fun e w' => e = .returned (.bool true) ∧ Below w.heap.size w w' := by
  obtain ⟨_, _, h0, h1⟩ := f
  rcases Nat.eq_zero_or_pos len with rfl | hp
  · exact dwells_none p0 p1 p2 now a cap w awake_eq
  · rcases a with _ | ⟨ab, ao, sp⟩
    · have := (h0 rfl).1; omega
    · have hs : sp = none := by
        obtain ⟨cs, hcs, hc⟩ := h1 _ rfl 0 hp
        have h2 := hc 0 (by omega)
        obtain _ | ⟨⟨n, rfl, _⟩, _⟩ := hcs
        simp [Addr.add, World.cell?] at h2
        split at h2
        · split at h2
          · cases h2
          · rename_i hn; simpa using hn
        · cases h2
      subst hs
      refine dwells_walk p0 p1 p2 now ab ao len cap w awake_eq (i64_of wn) hl fun k hk => ?_
      obtain ⟨cs, hcs, hc⟩ := h1 _ rfl k hk
      obtain _ | ⟨⟨x, rfl, wx⟩, hcs⟩ := hcs
      obtain _ | ⟨⟨y, rfl, wy⟩, hcs⟩ := hcs
      obtain _ | ⟨⟨z, rfl, wz⟩, hcs⟩ := hcs
      cases hcs
      refine ⟨x, y, z, i64_of wx, i64_of wy, i64_of wz, ?_, ?_, ?_⟩
      · have := hc 0 (by omega); rw [add_none] at this; exact this
      · have := hc 1 (by omega); rw [add_none] at this; exact this
      · have := hc 2 (by omega); rw [add_none] at this; exact this
end Go.Proofs.Ytgackgdoikfmdaa.PModeTurns
