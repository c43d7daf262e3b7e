/- The walk of ModeTurns: each way through it answers true. -/
import Derived.Test.YtgackgdoikfmdaaPureB
set_option linter.unusedVariables false
set_option linter.unusedSimpArgs false
namespace Go.Proofs.Ytgackgdoikfmdaa.PModeTurns
open Go.RowKit Go.Proofs.YtgackgdoikfmdaaW.PrintWords Go.Proofs.YtgackgdoikfmdaaW.PrintLast Go.Proofs.YtgackgdoikfmdaaW.PrintMore Go.Proofs.YtgackgdoikfmdaaHk
theorem eqS29 (d : Nat) (w : World) (x0 y0 : Bool) (x1 y1 : Int) (x2 y2 : Int) :
    (Op.equalIn (d + 2) 29 (.agg #[.bool x0, .int .i64 x1, .int .u64 x2]) (.agg #[.bool y0, .int .i64 y1, .int .u64 y2])).run Try.prog w = .ok (same3 x0 y0 x1 y1 x2 y2) w := by
  refine eqA_of Try.underlying29 (by kernel_rfl) ?_
  refine eqf_cons (by rfl) (by go_simp; rfl) (by go_simp; rfl) (by go_simp) ?_
  refine eqf_cons (by rfl) (by go_simp; rfl) (by go_simp; rfl) (by go_simp) ?_
  exact eqf_last (by rfl) (by go_simp; rfl) (by go_simp; rfl) (by go_simp)
attribute [local go_sem high] eqS29
set_option maxHeartbeats 1600000 in
set_option maxRecDepth 100000 in
theorem turns_A (k : Nat) (a0_0 : Bool) (a0_1 : Int) (a0_2 : Int) (a1_0 : Int) (a1_1 : Int) (a1_2 : Int) (a2 : Int) (a3 : Int) (a4 : Int) (w : World) (haw : overfalllaw10_awake.f = some true) (t0 : Bool) (t1 t2 : Int) (ht : mode_State_Turn.f a0_0 a0_1 a0_2 a1_0 a1_1 a1_2 a2 a3 a4 = some (t0, t1, t2))
    (hq : overfallref10_Turn.f k a0_0 a0_1 a0_2 a1_0 a1_1 a1_2 a2 a3 a4 = some (t0, t1, t2)) (hs : same3 t0 t0 t1 t1 t2 t2 = true) (hk : mode_State_Back.f t0 t1 t2 = some t0)
    (hr : mode_Params_Right.f a1_0 a1_1 a1_2 = some false) (h1 : decide (0 ≤ a1_1) = false) :
    Calls Try.prog 3 #[.agg #[.bool a0_0, .int .i64 a0_1, .int .u64 a0_2], .agg #[.int .i64 a1_0, .int .i64 a1_1, .int .i64 a1_2], .int .i64 a2, .int .i64 a3, .int .i64 a4] w fun e w' => e = .returned (.bool true) ∧ Below w.heap.size w w' := by
  have Ht := Aside0.mk ht; clear ht
  have Hq := Aside0.mk hq; clear hq
  have Hk := Aside0.mk hk; clear hk
  have Hr := Aside0.mk hr; clear hr
  have Haw := Aside0.mk haw; clear haw
  have hu24 := Try.underlying24
  have hu26 := Try.underlying26
  go_enter Try.func3, Try.ntmps3
  go_wp2_with fail
  refine (overfalllaw10_awake.calls _ _ Haw.out).mono ?_
  rintro e w1 ⟨rfl, hb1⟩
  have HB1 := Aside0.mk (hk_then (((Below.refl w.heap.size w).alloc (Nat.le_refl _) _).alloc (by simp) _) hb1 (by simp; omega))
  have hz1 : w.heap.size + 1 < w1.heap.size := by have := hb1.size; simp at this; omega
  have hz4 : w.heap.size < w1.heap.size := by omega
  obtain ⟨hc1, hf1⟩ := bcell hb1
  clear hb1
  go_wp2_with fail
  refine (mode_State_Turn.calls _ _ _ _ _ _ _ _ _ _ _ _ _ Ht.out).mono ?_
  rintro e w2 ⟨rfl, hb2⟩
  have HB2 := Aside0.mk (hk_then HB1.out hb2 (by omega))
  obtain ⟨hc2, hf2⟩ := bcell hb2
  have hz2 : w.heap.size + 1 < w2.heap.size := by have := hb2.size; omega
  have hz3 : w.heap.size < w2.heap.size := by omega
  clear hb2
  go_wp2_with fail
  have hy1 : w.heap.size ≠ w2.heap.size := by omega
  have hy2 : w.heap.size + 1 ≠ w2.heap.size := by omega
  have hr := fun W => @lw_cell W
  have hy3 : w.heap.size < w2.heap.size + 1 := by omega
  refine region_later (by kernel_rfl) (by kernel_rfl) ?_
  repeat (go_big_quiet_step (first
    | (go_at_call 8; refine later_call (overfallref10_Turn.calls _ _ _ _ _ _ _ _ _ _ _ _ _ _ Hq.out))
    | (go_at_call 9; refine later_call (mode_State_Back.calls _ _ _ _ _ Hk.out))
    | (go_at_call 10; refine later_call (mode_Params_Right.calls _ _ _ _ _ Hr.out))))
  refine wpQuiet_nil ?_
  rintro _ ⟨⟨w3, hb3⟩, rfl⟩
  have HB3 := Aside0.mk (hk_then (HB2.out.alloc (by omega) _) hb3 (by simp; omega))
  clear hb3
  go_wp2
  go_ret
  exact ⟨by first | rfl | (simp [*]; done), HB3.out⟩
set_option maxHeartbeats 1600000 in
set_option maxRecDepth 100000 in
theorem turns_B (k : Nat) (a0_0 : Bool) (a0_1 : Int) (a0_2 : Int) (a1_0 : Int) (a1_1 : Int) (a1_2 : Int) (a2 : Int) (a3 : Int) (a4 : Int) (w : World) (haw : overfalllaw10_awake.f = some true) (t0 : Bool) (t1 t2 : Int) (ht : mode_State_Turn.f a0_0 a0_1 a0_2 a1_0 a1_1 a1_2 a2 a3 a4 = some (t0, t1, t2))
    (hq : overfallref10_Turn.f k a0_0 a0_1 a0_2 a1_0 a1_1 a1_2 a2 a3 a4 = some (t0, t1, t2)) (hs : same3 t0 t0 t1 t1 t2 t2 = true) (hk : mode_State_Back.f t0 t1 t2 = some t0)
    (hr : mode_Params_Right.f a1_0 a1_1 a1_2 = some false) (h1 : decide (0 ≤ a1_1) = true) (h2 : decide (a1_1 ≤ a1_0) = false) :
    Calls Try.prog 3 #[.agg #[.bool a0_0, .int .i64 a0_1, .int .u64 a0_2], .agg #[.int .i64 a1_0, .int .i64 a1_1, .int .i64 a1_2], .int .i64 a2, .int .i64 a3, .int .i64 a4] w fun e w' => e = .returned (.bool true) ∧ Below w.heap.size w w' := by
  have Ht := Aside0.mk ht; clear ht
  have Hq := Aside0.mk hq; clear hq
  have Hk := Aside0.mk hk; clear hk
  have Hr := Aside0.mk hr; clear hr
  have Haw := Aside0.mk haw; clear haw
  have hu24 := Try.underlying24
  have hu26 := Try.underlying26
  go_enter Try.func3, Try.ntmps3
  go_wp2_with fail
  refine (overfalllaw10_awake.calls _ _ Haw.out).mono ?_
  rintro e w1 ⟨rfl, hb1⟩
  have HB1 := Aside0.mk (hk_then (((Below.refl w.heap.size w).alloc (Nat.le_refl _) _).alloc (by simp) _) hb1 (by simp; omega))
  have hz1 : w.heap.size + 1 < w1.heap.size := by have := hb1.size; simp at this; omega
  have hz4 : w.heap.size < w1.heap.size := by omega
  obtain ⟨hc1, hf1⟩ := bcell hb1
  clear hb1
  go_wp2_with fail
  refine (mode_State_Turn.calls _ _ _ _ _ _ _ _ _ _ _ _ _ Ht.out).mono ?_
  rintro e w2 ⟨rfl, hb2⟩
  have HB2 := Aside0.mk (hk_then HB1.out hb2 (by omega))
  obtain ⟨hc2, hf2⟩ := bcell hb2
  have hz2 : w.heap.size + 1 < w2.heap.size := by have := hb2.size; omega
  have hz3 : w.heap.size < w2.heap.size := by omega
  clear hb2
  go_wp2_with fail
  have hy1 : w.heap.size ≠ w2.heap.size := by omega
  have hy2 : w.heap.size + 1 ≠ w2.heap.size := by omega
  have hr := fun W => @lw_cell W
  have hy3 : w.heap.size < w2.heap.size + 1 := by omega
  refine region_later (by kernel_rfl) (by kernel_rfl) ?_
  repeat (go_big_quiet_step (first
    | (go_at_call 8; refine later_call (overfallref10_Turn.calls _ _ _ _ _ _ _ _ _ _ _ _ _ _ Hq.out))
    | (go_at_call 9; refine later_call (mode_State_Back.calls _ _ _ _ _ Hk.out))
    | (go_at_call 10; refine later_call (mode_Params_Right.calls _ _ _ _ _ Hr.out))))
  refine wpQuiet_nil ?_
  rintro _ ⟨⟨w3, hb3⟩, rfl⟩
  have HB3 := Aside0.mk (hk_then (HB2.out.alloc (by omega) _) hb3 (by simp; omega))
  clear hb3
  go_wp2
  go_ret
  exact ⟨by first | rfl | (simp [*]; done), HB3.out⟩
set_option maxHeartbeats 1600000 in
set_option maxRecDepth 100000 in
theorem turns_C (k : Nat) (d : Bool) (a0_0 : Bool) (a0_1 : Int) (a0_2 : Int) (a1_0 : Int) (a1_1 : Int) (a1_2 : Int) (a2 : Int) (a3 : Int) (a4 : Int) (w : World) (haw : overfalllaw10_awake.f = some true) (t0 : Bool) (t1 t2 : Int) (ht : mode_State_Turn.f a0_0 a0_1 a0_2 a1_0 a1_1 a1_2 a2 a3 a4 = some (t0, t1, t2))
    (hq : overfallref10_Turn.f k a0_0 a0_1 a0_2 a1_0 a1_1 a1_2 a2 a3 a4 = some (t0, t1, t2)) (hs : same3 t0 t0 t1 t1 t2 t2 = true) (hk : mode_State_Back.f t0 t1 t2 = some t0)
    (hr : mode_Params_Right.f a1_0 a1_1 a1_2 = some d) (h1 : decide (0 ≤ a1_1) = true) (h2 : decide (a1_1 ≤ a1_0) = true) (h3 : decide (0 ≤ a1_2) = d) :
    Calls Try.prog 3 #[.agg #[.bool a0_0, .int .i64 a0_1, .int .u64 a0_2], .agg #[.int .i64 a1_0, .int .i64 a1_1, .int .i64 a1_2], .int .i64 a2, .int .i64 a3, .int .i64 a4] w fun e w' => e = .returned (.bool true) ∧ Below w.heap.size w w' := by
  have Ht := Aside0.mk ht; clear ht
  have Hq := Aside0.mk hq; clear hq
  have Hk := Aside0.mk hk; clear hk
  have Hr := Aside0.mk hr; clear hr
  have Haw := Aside0.mk haw; clear haw
  have hu24 := Try.underlying24
  have hu26 := Try.underlying26
  go_enter Try.func3, Try.ntmps3
  go_wp2_with fail
  refine (overfalllaw10_awake.calls _ _ Haw.out).mono ?_
  rintro e w1 ⟨rfl, hb1⟩
  have HB1 := Aside0.mk (hk_then (((Below.refl w.heap.size w).alloc (Nat.le_refl _) _).alloc (by simp) _) hb1 (by simp; omega))
  have hz1 : w.heap.size + 1 < w1.heap.size := by have := hb1.size; simp at this; omega
  have hz4 : w.heap.size < w1.heap.size := by omega
  obtain ⟨hc1, hf1⟩ := bcell hb1
  clear hb1
  go_wp2_with fail
  refine (mode_State_Turn.calls _ _ _ _ _ _ _ _ _ _ _ _ _ Ht.out).mono ?_
  rintro e w2 ⟨rfl, hb2⟩
  have HB2 := Aside0.mk (hk_then HB1.out hb2 (by omega))
  obtain ⟨hc2, hf2⟩ := bcell hb2
  have hz2 : w.heap.size + 1 < w2.heap.size := by have := hb2.size; omega
  have hz3 : w.heap.size < w2.heap.size := by omega
  clear hb2
  go_wp2_with fail
  have hy1 : w.heap.size ≠ w2.heap.size := by omega
  have hy2 : w.heap.size + 1 ≠ w2.heap.size := by omega
  have hr := fun W => @lw_cell W
  have hy3 : w.heap.size < w2.heap.size + 1 := by omega
  refine region_later (by kernel_rfl) (by kernel_rfl) ?_
  repeat (go_big_quiet_step (first
    | (go_at_call 8; refine later_call (overfallref10_Turn.calls _ _ _ _ _ _ _ _ _ _ _ _ _ _ Hq.out))
    | (go_at_call 9; refine later_call (mode_State_Back.calls _ _ _ _ _ Hk.out))
    | (go_at_call 10; refine later_call (mode_Params_Right.calls _ _ _ _ _ Hr.out))))
  refine wpQuiet_nil ?_
  rintro _ ⟨⟨w3, hb3⟩, rfl⟩
  have HB3 := Aside0.mk (hk_then (HB2.out.alloc (by omega) _) hb3 (by simp; omega))
  clear hb3
  go_wp2
  go_ret
  exact ⟨by first | rfl | (simp [*]; done), HB3.out⟩
end Go.Proofs.Ytgackgdoikfmdaa.PModeTurns
