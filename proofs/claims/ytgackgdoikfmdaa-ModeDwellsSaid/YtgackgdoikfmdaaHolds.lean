/- The walk of ModeHolds: each way through it answers true. -/
import Derived.Test.YtgackgdoikfmdaaPModeTurnsx6
import Derived.Test.YtgackgdoikfmdaaPModeTurnsx1
import Derived.Test.YtgackgdoikfmdaaHk
namespace Go.Proofs.Ytgackgdoikfmdaa.PModeTurns
open Go.RowKit Go.Proofs.YtgackgdoikfmdaaW.PrintWords Go.Proofs.YtgackgdoikfmdaaW.PrintLast Go.Proofs.YtgackgdoikfmdaaW.PrintMore Go.Proofs.YtgackgdoikfmdaaHk
set_option linter.unusedVariables false
set_option linter.unusedSimpArgs false
/-- Are two states one? -/
def same3 (x0 y0 : Bool) (x1 y1 x2 y2 : Int) : Bool := x0 == y0 && (x1 == y1 && (x2 == y2))
theorem eqS (d : Nat) (w : World) (x0 y0 : Bool) (x1 y1 : Int) (x2 y2 : Int) :
    (Op.equalIn (d + 2) 24 (.agg #[.bool x0, .int .i64 x1, .int .u64 x2]) (.agg #[.bool y0, .int .i64 y1, .int .u64 y2])).run Try.prog w = .ok (same3 x0 y0 x1 y1 x2 y2) w := eqA24 d w x0 y0 x1 y1 x2 y2
attribute [local go_sem high] eqS
set_option maxHeartbeats 800000 in
set_option maxRecDepth 100000 in
theorem holds_L1 (a0_0 : Bool) (a0_1 : Int) (a0_2 : Int) (a1_0 : Int) (a1_1 : Int) (a1_2 : Int) (a2 : Int) (a3 : Int) (a4 : Int) (w : World) (haw : overfalllaw10_awake.f = some true) (t0 : Bool) (t1 t2 : Int) (ht : mode_State_Turn.f a0_0 a0_1 a0_2 a1_0 a1_1 a1_2 a2 a3 a4 = some (t0, t1, t2))
    (h0 : decide (0 < a4) = true) (h1 : decide (a1_1 ≤ a3) = true) (h2 : decide (a3 < a1_0) = true) (h3 : same3 t0 a0_0 t1 a0_1 t2 a0_2 = true) :
    Calls Try.prog 5 #[.agg #[.bool a0_0, .int .i64 a0_1, .int .u64 a0_2], .agg #[.int .i64 a1_0, .int .i64 a1_1, .int .i64 a1_2], .int .i64 a2, .int .i64 a3, .int .i64 a4] w fun e w' => e = .returned (.bool true) ∧ Below w.heap.size w w' := by
  have Ht := Aside0.mk ht; clear ht
  have Haw := Aside0.mk haw; clear haw
  have hu24 := Try.underlying24
  have hu26 := Try.underlying26
  go_enter Try.func5, Try.ntmps5
  go_wp2_with fail
  refine (overfalllaw10_awake.calls _ _ Haw.out).mono ?_
  rintro e w1 ⟨rfl, hb1⟩
  have HB1 := Aside0.mk (hk_then (((Below.refl w.heap.size w).alloc (Nat.le_refl _) _).alloc (by simp) _) hb1 (by simp; omega))
  have hz1 : w.heap.size + 1 < w1.heap.size := by have := hb1.size; simp at this; omega
  have hz4 : w.heap.size < w1.heap.size := by omega
  obtain ⟨hc1, hf1⟩ := bcell hb1
  clear hb1
  go_wp2_with fail
  refine (mode_State_Turn.calls _ _ _ _ _ _ _ _ _ _ _ _ _ Ht.out).mono ?_
  rintro e w2 ⟨rfl, hb2⟩
  have HB2 := Aside0.mk (hk_then HB1.out hb2 (by omega))
  obtain ⟨hc2, hf2⟩ := bcell hb2
  have hz2 : w.heap.size + 1 < w2.heap.size := by have := hb2.size; omega
  have hz3 : w.heap.size < w2.heap.size := by omega
  clear hb2
  go_wp2
  go_ret
  exact ⟨rfl, HB2.out.alloc (by omega) _⟩
set_option maxHeartbeats 800000 in
set_option maxRecDepth 100000 in
theorem holds_W1falsec (a0_0 : Bool) (a0_1 : Int) (a0_2 : Int) (a1_0 : Int) (a1_1 : Int) (a1_2 : Int) (a2 : Int) (a3 : Int) (a4 : Int) (w : World) (haw : overfalllaw10_awake.f = some true) (t0 : Bool) (t1 t2 : Int) (ht : mode_State_Turn.f a0_0 a0_1 a0_2 a1_0 a1_1 a1_2 a2 a3 a4 = some (t0, t1, t2)) (hr : mode_Params_Right.f a1_0 a1_1 a1_2 = some false)
    (h0 : decide (0 < a4) = false) (h1 : decide (a4 ≤ 0) = true) (h2 : (t2 == a0_2) = true) (h3 : same3 t0 a0_0 t1 a0_1 t2 a0_2 = true) :
    Calls Try.prog 5 #[.agg #[.bool a0_0, .int .i64 a0_1, .int .u64 a0_2], .agg #[.int .i64 a1_0, .int .i64 a1_1, .int .i64 a1_2], .int .i64 a2, .int .i64 a3, .int .i64 a4] w fun e w' => e = .returned (.bool true) ∧ Below w.heap.size w w' := by
  have Ht := Aside0.mk ht; clear ht
  have Haw := Aside0.mk haw; clear haw
  have Hr := Aside0.mk hr; clear hr
  have hu24 := Try.underlying24
  have hu26 := Try.underlying26
  go_enter Try.func5, Try.ntmps5
  go_wp2_with fail
  refine (overfalllaw10_awake.calls _ _ Haw.out).mono ?_
  rintro e w1 ⟨rfl, hb1⟩
  have HB1 := Aside0.mk (hk_then (((Below.refl w.heap.size w).alloc (Nat.le_refl _) _).alloc (by simp) _) hb1 (by simp; omega))
  have hz1 : w.heap.size + 1 < w1.heap.size := by have := hb1.size; simp at this; omega
  have hz4 : w.heap.size < w1.heap.size := by omega
  obtain ⟨hc1, hf1⟩ := bcell hb1
  clear hb1
  go_wp2_with fail
  refine (mode_State_Turn.calls _ _ _ _ _ _ _ _ _ _ _ _ _ Ht.out).mono ?_
  rintro e w2 ⟨rfl, hb2⟩
  have HB2 := Aside0.mk (hk_then HB1.out hb2 (by omega))
  obtain ⟨hc2, hf2⟩ := bcell hb2
  have hz2 : w.heap.size + 1 < w2.heap.size := by have := hb2.size; omega
  have hz3 : w.heap.size < w2.heap.size := by omega
  clear hb2
  go_wp2_with fail
  refine (mode_Params_Right.calls _ _ _ _ _ Hr.out).mono ?_
  rintro e w3 ⟨rfl, hb3⟩
  have HB3 := Aside0.mk (hk_then (HB2.out.alloc (by omega) _) hb3 (by simp; omega))
  obtain ⟨hc3, hf3⟩ := bcell hb3
  have hz5 : w2.heap.size < w3.heap.size := by have := hb3.size; simp at this; omega
  have hz6 : w.heap.size + 1 < w3.heap.size := by omega
  have hz7 : w.heap.size < w3.heap.size := by omega
  have hz8 : w.heap.size + 1 < w2.heap.size + 1 := by omega
  have hz9 : w.heap.size < w2.heap.size + 1 := by omega
  have hy1 : w.heap.size ≠ w2.heap.size := by omega
  have hy2 : w.heap.size + 1 ≠ w2.heap.size := by omega
  clear hb3
  go_wp2
  go_ret
  exact ⟨by first | rfl | simp [*], HB3.out⟩
set_option maxHeartbeats 800000 in
set_option maxRecDepth 100000 in
theorem holds_W1falsed (a0_0 : Bool) (a0_1 : Int) (a0_2 : Int) (a1_0 : Int) (a1_1 : Int) (a1_2 : Int) (a2 : Int) (a3 : Int) (a4 : Int) (w : World) (haw : overfalllaw10_awake.f = some true) (t0 : Bool) (t1 t2 : Int) (ht : mode_State_Turn.f a0_0 a0_1 a0_2 a1_0 a1_1 a1_2 a2 a3 a4 = some (t0, t1, t2)) (hr : mode_Params_Right.f a1_0 a1_1 a1_2 = some false)
    (h0 : decide (0 < a4) = false) (h1 : decide (a4 ≤ 0) = true) (h2 : (t2 == a0_2) = false) (h3 : (t2 == IntKind.u64.wrap (a0_2 + 1)) = true) (h4 : (t0 == a0_0) = false) :
    Calls Try.prog 5 #[.agg #[.bool a0_0, .int .i64 a0_1, .int .u64 a0_2], .agg #[.int .i64 a1_0, .int .i64 a1_1, .int .i64 a1_2], .int .i64 a2, .int .i64 a3, .int .i64 a4] w fun e w' => e = .returned (.bool true) ∧ Below w.heap.size w w' := by
  have Ht := Aside0.mk ht; clear ht
  have Haw := Aside0.mk haw; clear haw
  have Hr := Aside0.mk hr; clear hr
  have hu24 := Try.underlying24
  have hu26 := Try.underlying26
  go_enter Try.func5, Try.ntmps5
  go_wp2_with fail
  refine (overfalllaw10_awake.calls _ _ Haw.out).mono ?_
  rintro e w1 ⟨rfl, hb1⟩
  have HB1 := Aside0.mk (hk_then (((Below.refl w.heap.size w).alloc (Nat.le_refl _) _).alloc (by simp) _) hb1 (by simp; omega))
  have hz1 : w.heap.size + 1 < w1.heap.size := by have := hb1.size; simp at this; omega
  have hz4 : w.heap.size < w1.heap.size := by omega
  obtain ⟨hc1, hf1⟩ := bcell hb1
  clear hb1
  go_wp2_with fail
  refine (mode_State_Turn.calls _ _ _ _ _ _ _ _ _ _ _ _ _ Ht.out).mono ?_
  rintro e w2 ⟨rfl, hb2⟩
  have HB2 := Aside0.mk (hk_then HB1.out hb2 (by omega))
  obtain ⟨hc2, hf2⟩ := bcell hb2
  have hz2 : w.heap.size + 1 < w2.heap.size := by have := hb2.size; omega
  have hz3 : w.heap.size < w2.heap.size := by omega
  clear hb2
  go_wp2_with fail
  refine (mode_Params_Right.calls _ _ _ _ _ Hr.out).mono ?_
  rintro e w3 ⟨rfl, hb3⟩
  have HB3 := Aside0.mk (hk_then (HB2.out.alloc (by omega) _) hb3 (by simp; omega))
  obtain ⟨hc3, hf3⟩ := bcell hb3
  have hz5 : w2.heap.size < w3.heap.size := by have := hb3.size; simp at this; omega
  have hz6 : w.heap.size + 1 < w3.heap.size := by omega
  have hz7 : w.heap.size < w3.heap.size := by omega
  have hz8 : w.heap.size + 1 < w2.heap.size + 1 := by omega
  have hz9 : w.heap.size < w2.heap.size + 1 := by omega
  have hy1 : w.heap.size ≠ w2.heap.size := by omega
  have hy2 : w.heap.size + 1 ≠ w2.heap.size := by omega
  clear hb3
  go_wp2
  go_ret
  exact ⟨by first | rfl | simp [*], HB3.out⟩
set_option maxHeartbeats 800000 in
set_option maxRecDepth 100000 in
theorem holds_W1truea (a0_0 : Bool) (a0_1 : Int) (a0_2 : Int) (a1_0 : Int) (a1_1 : Int) (a1_2 : Int) (a2 : Int) (a3 : Int) (a4 : Int) (w : World) (haw : overfalllaw10_awake.f = some true) (t1 t2 : Int) (ht : mode_State_Turn.f a0_0 a0_1 a0_2 a1_0 a1_1 a1_2 a2 a3 a4 = some (false, t1, t2)) (hr : mode_Params_Right.f a1_0 a1_1 a1_2 = some true)
    (h0 : decide (0 < a4) = false) (h1 : decide (a4 ≤ 0) = true) :
    Calls Try.prog 5 #[.agg #[.bool a0_0, .int .i64 a0_1, .int .u64 a0_2], .agg #[.int .i64 a1_0, .int .i64 a1_1, .int .i64 a1_2], .int .i64 a2, .int .i64 a3, .int .i64 a4] w fun e w' => e = .returned (.bool true) ∧ Below w.heap.size w w' := by
  have Ht := Aside0.mk ht; clear ht
  have Haw := Aside0.mk haw; clear haw
  have Hr := Aside0.mk hr; clear hr
  have hu24 := Try.underlying24
  have hu26 := Try.underlying26
  go_enter Try.func5, Try.ntmps5
  go_wp2_with fail
  refine (overfalllaw10_awake.calls _ _ Haw.out).mono ?_
  rintro e w1 ⟨rfl, hb1⟩
  have HB1 := Aside0.mk (hk_then (((Below.refl w.heap.size w).alloc (Nat.le_refl _) _).alloc (by simp) _) hb1 (by simp; omega))
  have hz1 : w.heap.size + 1 < w1.heap.size := by have := hb1.size; simp at this; omega
  have hz4 : w.heap.size < w1.heap.size := by omega
  obtain ⟨hc1, hf1⟩ := bcell hb1
  clear hb1
  go_wp2_with fail
  refine (mode_State_Turn.calls _ _ _ _ _ _ _ _ _ _ _ _ _ Ht.out).mono ?_
  rintro e w2 ⟨rfl, hb2⟩
  have HB2 := Aside0.mk (hk_then HB1.out hb2 (by omega))
  obtain ⟨hc2, hf2⟩ := bcell hb2
  have hz2 : w.heap.size + 1 < w2.heap.size := by have := hb2.size; omega
  have hz3 : w.heap.size < w2.heap.size := by omega
  clear hb2
  go_wp2_with fail
  refine (mode_Params_Right.calls _ _ _ _ _ Hr.out).mono ?_
  rintro e w3 ⟨rfl, hb3⟩
  have HB3 := Aside0.mk (hk_then (HB2.out.alloc (by omega) _) hb3 (by simp; omega))
  obtain ⟨hc3, hf3⟩ := bcell hb3
  have hz5 : w2.heap.size < w3.heap.size := by have := hb3.size; simp at this; omega
  have hz6 : w.heap.size + 1 < w3.heap.size := by omega
  have hz7 : w.heap.size < w3.heap.size := by omega
  have hz8 : w.heap.size + 1 < w2.heap.size + 1 := by omega
  have hz9 : w.heap.size < w2.heap.size + 1 := by omega
  have hy1 : w.heap.size ≠ w2.heap.size := by omega
  have hy2 : w.heap.size + 1 ≠ w2.heap.size := by omega
  clear hb3
  go_wp2
  go_ret
  exact ⟨by first | rfl | simp [*], HB3.out⟩
set_option maxHeartbeats 800000 in
set_option maxRecDepth 100000 in
theorem holds_W1trueb (a0_0 : Bool) (a0_1 : Int) (a0_2 : Int) (a1_0 : Int) (a1_1 : Int) (a1_2 : Int) (a2 : Int) (a3 : Int) (a4 : Int) (w : World) (haw : overfalllaw10_awake.f = some true) (t1 t2 : Int) (ht : mode_State_Turn.f a0_0 a0_1 a0_2 a1_0 a1_1 a1_2 a2 a3 a4 = some (true, t1, t2)) (hr : mode_Params_Right.f a1_0 a1_1 a1_2 = some true)
    (h0 : decide (0 < a4) = false) (h1 : decide (a4 ≤ 0) = true) (h2 : same3 true a0_0 t1 a0_1 t2 a0_2 = true) :
    Calls Try.prog 5 #[.agg #[.bool a0_0, .int .i64 a0_1, .int .u64 a0_2], .agg #[.int .i64 a1_0, .int .i64 a1_1, .int .i64 a1_2], .int .i64 a2, .int .i64 a3, .int .i64 a4] w fun e w' => e = .returned (.bool true) ∧ Below w.heap.size w w' := by
  have Ht := Aside0.mk ht; clear ht
  have Haw := Aside0.mk haw; clear haw
  have Hr := Aside0.mk hr; clear hr
  have hu24 := Try.underlying24
  have hu26 := Try.underlying26
  go_enter Try.func5, Try.ntmps5
  go_wp2_with fail
  refine (overfalllaw10_awake.calls _ _ Haw.out).mono ?_
  rintro e w1 ⟨rfl, hb1⟩
  have HB1 := Aside0.mk (hk_then (((Below.refl w.heap.size w).alloc (Nat.le_refl _) _).alloc (by simp) _) hb1 (by simp; omega))
  have hz1 : w.heap.size + 1 < w1.heap.size := by have := hb1.size; simp at this; omega
  have hz4 : w.heap.size < w1.heap.size := by omega
  obtain ⟨hc1, hf1⟩ := bcell hb1
  clear hb1
  go_wp2_with fail
  refine (mode_State_Turn.calls _ _ _ _ _ _ _ _ _ _ _ _ _ Ht.out).mono ?_
  rintro e w2 ⟨rfl, hb2⟩
  have HB2 := Aside0.mk (hk_then HB1.out hb2 (by omega))
  obtain ⟨hc2, hf2⟩ := bcell hb2
  have hz2 : w.heap.size + 1 < w2.heap.size := by have := hb2.size; omega
  have hz3 : w.heap.size < w2.heap.size := by omega
  clear hb2
  go_wp2_with fail
  refine (mode_Params_Right.calls _ _ _ _ _ Hr.out).mono ?_
  rintro e w3 ⟨rfl, hb3⟩
  have HB3 := Aside0.mk (hk_then (HB2.out.alloc (by omega) _) hb3 (by simp; omega))
  obtain ⟨hc3, hf3⟩ := bcell hb3
  have hz5 : w2.heap.size < w3.heap.size := by have := hb3.size; simp at this; omega
  have hz6 : w.heap.size + 1 < w3.heap.size := by omega
  have hz7 : w.heap.size < w3.heap.size := by omega
  have hz8 : w.heap.size + 1 < w2.heap.size + 1 := by omega
  have hz9 : w.heap.size < w2.heap.size + 1 := by omega
  have hy1 : w.heap.size ≠ w2.heap.size := by omega
  have hy2 : w.heap.size + 1 ≠ w2.heap.size := by omega
  clear hb3
  go_wp2
  go_ret
  exact ⟨by first | rfl | simp [*], HB3.out⟩
set_option maxHeartbeats 800000 in
set_option maxRecDepth 100000 in
theorem holds_W2falsec (a0_0 : Bool) (a0_1 : Int) (a0_2 : Int) (a1_0 : Int) (a1_1 : Int) (a1_2 : Int) (a2 : Int) (a3 : Int) (a4 : Int) (w : World) (haw : overfalllaw10_awake.f = some true) (t0 : Bool) (t1 t2 : Int) (ht : mode_State_Turn.f a0_0 a0_1 a0_2 a1_0 a1_1 a1_2 a2 a3 a4 = some (t0, t1, t2)) (hr : mode_Params_Right.f a1_0 a1_1 a1_2 = some false)
    (h0 : decide (0 < a4) = true) (h1 : decide (a4 ≤ 0) = false) (h2 : decide (a1_1 ≤ a3) = false) (h3 : decide (a3 < a1_1) = true) (h4 : (t2 == a0_2) = true) (h5 : same3 t0 a0_0 t1 a0_1 t2 a0_2 = true) :
    Calls Try.prog 5 #[.agg #[.bool a0_0, .int .i64 a0_1, .int .u64 a0_2], .agg #[.int .i64 a1_0, .int .i64 a1_1, .int .i64 a1_2], .int .i64 a2, .int .i64 a3, .int .i64 a4] w fun e w' => e = .returned (.bool true) ∧ Below w.heap.size w w' := by
  have Ht := Aside0.mk ht; clear ht
  have Haw := Aside0.mk haw; clear haw
  have Hr := Aside0.mk hr; clear hr
  have hu24 := Try.underlying24
  have hu26 := Try.underlying26
  go_enter Try.func5, Try.ntmps5
  go_wp2_with fail
  refine (overfalllaw10_awake.calls _ _ Haw.out).mono ?_
  rintro e w1 ⟨rfl, hb1⟩
  have HB1 := Aside0.mk (hk_then (((Below.refl w.heap.size w).alloc (Nat.le_refl _) _).alloc (by simp) _) hb1 (by simp; omega))
  have hz1 : w.heap.size + 1 < w1.heap.size := by have := hb1.size; simp at this; omega
  have hz4 : w.heap.size < w1.heap.size := by omega
  obtain ⟨hc1, hf1⟩ := bcell hb1
  clear hb1
  go_wp2_with fail
  refine (mode_State_Turn.calls _ _ _ _ _ _ _ _ _ _ _ _ _ Ht.out).mono ?_
  rintro e w2 ⟨rfl, hb2⟩
  have HB2 := Aside0.mk (hk_then HB1.out hb2 (by omega))
  obtain ⟨hc2, hf2⟩ := bcell hb2
  have hz2 : w.heap.size + 1 < w2.heap.size := by have := hb2.size; omega
  have hz3 : w.heap.size < w2.heap.size := by omega
  clear hb2
  go_wp2_with fail
  refine (mode_Params_Right.calls _ _ _ _ _ Hr.out).mono ?_
  rintro e w3 ⟨rfl, hb3⟩
  have HB3 := Aside0.mk (hk_then (HB2.out.alloc (by omega) _) hb3 (by simp; omega))
  obtain ⟨hc3, hf3⟩ := bcell hb3
  have hz5 : w2.heap.size < w3.heap.size := by have := hb3.size; simp at this; omega
  have hz6 : w.heap.size + 1 < w3.heap.size := by omega
  have hz7 : w.heap.size < w3.heap.size := by omega
  have hz8 : w.heap.size + 1 < w2.heap.size + 1 := by omega
  have hz9 : w.heap.size < w2.heap.size + 1 := by omega
  have hy1 : w.heap.size ≠ w2.heap.size := by omega
  have hy2 : w.heap.size + 1 ≠ w2.heap.size := by omega
  clear hb3
  go_wp2
  go_ret
  exact ⟨by first | rfl | simp [*], HB3.out⟩
set_option maxHeartbeats 800000 in
set_option maxRecDepth 100000 in
theorem holds_W2falsed (a0_0 : Bool) (a0_1 : Int) (a0_2 : Int) (a1_0 : Int) (a1_1 : Int) (a1_2 : Int) (a2 : Int) (a3 : Int) (a4 : Int) (w : World) (haw : overfalllaw10_awake.f = some true) (t0 : Bool) (t1 t2 : Int) (ht : mode_State_Turn.f a0_0 a0_1 a0_2 a1_0 a1_1 a1_2 a2 a3 a4 = some (t0, t1, t2)) (hr : mode_Params_Right.f a1_0 a1_1 a1_2 = some false)
    (h0 : decide (0 < a4) = true) (h1 : decide (a4 ≤ 0) = false) (h2 : decide (a1_1 ≤ a3) = false) (h3 : decide (a3 < a1_1) = true) (h4 : (t2 == a0_2) = false) (h5 : (t2 == IntKind.u64.wrap (a0_2 + 1)) = true) (h6 : (t0 == a0_0) = false) :
    Calls Try.prog 5 #[.agg #[.bool a0_0, .int .i64 a0_1, .int .u64 a0_2], .agg #[.int .i64 a1_0, .int .i64 a1_1, .int .i64 a1_2], .int .i64 a2, .int .i64 a3, .int .i64 a4] w fun e w' => e = .returned (.bool true) ∧ Below w.heap.size w w' := by
  have Ht := Aside0.mk ht; clear ht
  have Haw := Aside0.mk haw; clear haw
  have Hr := Aside0.mk hr; clear hr
  have hu24 := Try.underlying24
  have hu26 := Try.underlying26
  go_enter Try.func5, Try.ntmps5
  go_wp2_with fail
  refine (overfalllaw10_awake.calls _ _ Haw.out).mono ?_
  rintro e w1 ⟨rfl, hb1⟩
  have HB1 := Aside0.mk (hk_then (((Below.refl w.heap.size w).alloc (Nat.le_refl _) _).alloc (by simp) _) hb1 (by simp; omega))
  have hz1 : w.heap.size + 1 < w1.heap.size := by have := hb1.size; simp at this; omega
  have hz4 : w.heap.size < w1.heap.size := by omega
  obtain ⟨hc1, hf1⟩ := bcell hb1
  clear hb1
  go_wp2_with fail
  refine (mode_State_Turn.calls _ _ _ _ _ _ _ _ _ _ _ _ _ Ht.out).mono ?_
  rintro e w2 ⟨rfl, hb2⟩
  have HB2 := Aside0.mk (hk_then HB1.out hb2 (by omega))
  obtain ⟨hc2, hf2⟩ := bcell hb2
  have hz2 : w.heap.size + 1 < w2.heap.size := by have := hb2.size; omega
  have hz3 : w.heap.size < w2.heap.size := by omega
  clear hb2
  go_wp2_with fail
  refine (mode_Params_Right.calls _ _ _ _ _ Hr.out).mono ?_
  rintro e w3 ⟨rfl, hb3⟩
  have HB3 := Aside0.mk (hk_then (HB2.out.alloc (by omega) _) hb3 (by simp; omega))
  obtain ⟨hc3, hf3⟩ := bcell hb3
  have hz5 : w2.heap.size < w3.heap.size := by have := hb3.size; simp at this; omega
  have hz6 : w.heap.size + 1 < w3.heap.size := by omega
  have hz7 : w.heap.size < w3.heap.size := by omega
  have hz8 : w.heap.size + 1 < w2.heap.size + 1 := by omega
  have hz9 : w.heap.size < w2.heap.size + 1 := by omega
  have hy1 : w.heap.size ≠ w2.heap.size := by omega
  have hy2 : w.heap.size + 1 ≠ w2.heap.size := by omega
  clear hb3
  go_wp2
  go_ret
  exact ⟨by first | rfl | simp [*], HB3.out⟩
set_option maxHeartbeats 800000 in
set_option maxRecDepth 100000 in
theorem holds_W2truea (a0_0 : Bool) (a0_1 : Int) (a0_2 : Int) (a1_0 : Int) (a1_1 : Int) (a1_2 : Int) (a2 : Int) (a3 : Int) (a4 : Int) (w : World) (haw : overfalllaw10_awake.f = some true) (t1 t2 : Int) (ht : mode_State_Turn.f a0_0 a0_1 a0_2 a1_0 a1_1 a1_2 a2 a3 a4 = some (false, t1, t2)) (hr : mode_Params_Right.f a1_0 a1_1 a1_2 = some true)
    (h0 : decide (0 < a4) = true) (h1 : decide (a4 ≤ 0) = false) (h2 : decide (a1_1 ≤ a3) = false) (h3 : decide (a3 < a1_1) = true) :
    Calls Try.prog 5 #[.agg #[.bool a0_0, .int .i64 a0_1, .int .u64 a0_2], .agg #[.int .i64 a1_0, .int .i64 a1_1, .int .i64 a1_2], .int .i64 a2, .int .i64 a3, .int .i64 a4] w fun e w' => e = .returned (.bool true) ∧ Below w.heap.size w w' := by
  have Ht := Aside0.mk ht; clear ht
  have Haw := Aside0.mk haw; clear haw
  have Hr := Aside0.mk hr; clear hr
  have hu24 := Try.underlying24
  have hu26 := Try.underlying26
  go_enter Try.func5, Try.ntmps5
  go_wp2_with fail
  refine (overfalllaw10_awake.calls _ _ Haw.out).mono ?_
  rintro e w1 ⟨rfl, hb1⟩
  have HB1 := Aside0.mk (hk_then (((Below.refl w.heap.size w).alloc (Nat.le_refl _) _).alloc (by simp) _) hb1 (by simp; omega))
  have hz1 : w.heap.size + 1 < w1.heap.size := by have := hb1.size; simp at this; omega
  have hz4 : w.heap.size < w1.heap.size := by omega
  obtain ⟨hc1, hf1⟩ := bcell hb1
  clear hb1
  go_wp2_with fail
  refine (mode_State_Turn.calls _ _ _ _ _ _ _ _ _ _ _ _ _ Ht.out).mono ?_
  rintro e w2 ⟨rfl, hb2⟩
  have HB2 := Aside0.mk (hk_then HB1.out hb2 (by omega))
  obtain ⟨hc2, hf2⟩ := bcell hb2
  have hz2 : w.heap.size + 1 < w2.heap.size := by have := hb2.size; omega
  have hz3 : w.heap.size < w2.heap.size := by omega
  clear hb2
  go_wp2_with fail
  refine (mode_Params_Right.calls _ _ _ _ _ Hr.out).mono ?_
  rintro e w3 ⟨rfl, hb3⟩
  have HB3 := Aside0.mk (hk_then (HB2.out.alloc (by omega) _) hb3 (by simp; omega))
  obtain ⟨hc3, hf3⟩ := bcell hb3
  have hz5 : w2.heap.size < w3.heap.size := by have := hb3.size; simp at this; omega
  have hz6 : w.heap.size + 1 < w3.heap.size := by omega
  have hz7 : w.heap.size < w3.heap.size := by omega
  have hz8 : w.heap.size + 1 < w2.heap.size + 1 := by omega
  have hz9 : w.heap.size < w2.heap.size + 1 := by omega
  have hy1 : w.heap.size ≠ w2.heap.size := by omega
  have hy2 : w.heap.size + 1 ≠ w2.heap.size := by omega
  clear hb3
  go_wp2
  go_ret
  exact ⟨by first | rfl | simp [*], HB3.out⟩
set_option maxHeartbeats 800000 in
set_option maxRecDepth 100000 in
theorem holds_W2trueb (a0_0 : Bool) (a0_1 : Int) (a0_2 : Int) (a1_0 : Int) (a1_1 : Int) (a1_2 : Int) (a2 : Int) (a3 : Int) (a4 : Int) (w : World) (haw : overfalllaw10_awake.f = some true) (t1 t2 : Int) (ht : mode_State_Turn.f a0_0 a0_1 a0_2 a1_0 a1_1 a1_2 a2 a3 a4 = some (true, t1, t2)) (hr : mode_Params_Right.f a1_0 a1_1 a1_2 = some true)
    (h0 : decide (0 < a4) = true) (h1 : decide (a4 ≤ 0) = false) (h2 : decide (a1_1 ≤ a3) = false) (h3 : decide (a3 < a1_1) = true) (h4 : same3 true a0_0 t1 a0_1 t2 a0_2 = true) :
    Calls Try.prog 5 #[.agg #[.bool a0_0, .int .i64 a0_1, .int .u64 a0_2], .agg #[.int .i64 a1_0, .int .i64 a1_1, .int .i64 a1_2], .int .i64 a2, .int .i64 a3, .int .i64 a4] w fun e w' => e = .returned (.bool true) ∧ Below w.heap.size w w' := by
  have Ht := Aside0.mk ht; clear ht
  have Haw := Aside0.mk haw; clear haw
  have Hr := Aside0.mk hr; clear hr
  have hu24 := Try.underlying24
  have hu26 := Try.underlying26
  go_enter Try.func5, Try.ntmps5
  go_wp2_with fail
  refine (overfalllaw10_awake.calls _ _ Haw.out).mono ?_
  rintro e w1 ⟨rfl, hb1⟩
  have HB1 := Aside0.mk (hk_then (((Below.refl w.heap.size w).alloc (Nat.le_refl _) _).alloc (by simp) _) hb1 (by simp; omega))
  have hz1 : w.heap.size + 1 < w1.heap.size := by have := hb1.size; simp at this; omega
  have hz4 : w.heap.size < w1.heap.size := by omega
  obtain ⟨hc1, hf1⟩ := bcell hb1
  clear hb1
  go_wp2_with fail
  refine (mode_State_Turn.calls _ _ _ _ _ _ _ _ _ _ _ _ _ Ht.out).mono ?_
  rintro e w2 ⟨rfl, hb2⟩
  have HB2 := Aside0.mk (hk_then HB1.out hb2 (by omega))
  obtain ⟨hc2, hf2⟩ := bcell hb2
  have hz2 : w.heap.size + 1 < w2.heap.size := by have := hb2.size; omega
  have hz3 : w.heap.size < w2.heap.size := by omega
  clear hb2
  go_wp2_with fail
  refine (mode_Params_Right.calls _ _ _ _ _ Hr.out).mono ?_
  rintro e w3 ⟨rfl, hb3⟩
  have HB3 := Aside0.mk (hk_then (HB2.out.alloc (by omega) _) hb3 (by simp; omega))
  obtain ⟨hc3, hf3⟩ := bcell hb3
  have hz5 : w2.heap.size < w3.heap.size := by have := hb3.size; simp at this; omega
  have hz6 : w.heap.size + 1 < w3.heap.size := by omega
  have hz7 : w.heap.size < w3.heap.size := by omega
  have hz8 : w.heap.size + 1 < w2.heap.size + 1 := by omega
  have hz9 : w.heap.size < w2.heap.size + 1 := by omega
  have hy1 : w.heap.size ≠ w2.heap.size := by omega
  have hy2 : w.heap.size + 1 ≠ w2.heap.size := by omega
  clear hb3
  go_wp2
  go_ret
  exact ⟨by first | rfl | simp [*], HB3.out⟩
set_option maxHeartbeats 800000 in
set_option maxRecDepth 100000 in
theorem holds_W3falsec (a0_0 : Bool) (a0_1 : Int) (a0_2 : Int) (a1_0 : Int) (a1_1 : Int) (a1_2 : Int) (a2 : Int) (a3 : Int) (a4 : Int) (w : World) (haw : overfalllaw10_awake.f = some true) (t0 : Bool) (t1 t2 : Int) (ht : mode_State_Turn.f a0_0 a0_1 a0_2 a1_0 a1_1 a1_2 a2 a3 a4 = some (t0, t1, t2)) (hr : mode_Params_Right.f a1_0 a1_1 a1_2 = some false)
    (h0 : decide (0 < a4) = true) (h1 : decide (a4 ≤ 0) = false) (h2 : decide (a1_1 ≤ a3) = true) (h3 : decide (a3 < a1_0) = false) (h4 : decide (a3 < a1_1) = false) (h5 : (t2 == a0_2) = true) (h6 : same3 t0 a0_0 t1 a0_1 t2 a0_2 = true) :
    Calls Try.prog 5 #[.agg #[.bool a0_0, .int .i64 a0_1, .int .u64 a0_2], .agg #[.int .i64 a1_0, .int .i64 a1_1, .int .i64 a1_2], .int .i64 a2, .int .i64 a3, .int .i64 a4] w fun e w' => e = .returned (.bool true) ∧ Below w.heap.size w w' := by
  have Ht := Aside0.mk ht; clear ht
  have Haw := Aside0.mk haw; clear haw
  have Hr := Aside0.mk hr; clear hr
  have hu24 := Try.underlying24
  have hu26 := Try.underlying26
  go_enter Try.func5, Try.ntmps5
  go_wp2_with fail
  refine (overfalllaw10_awake.calls _ _ Haw.out).mono ?_
  rintro e w1 ⟨rfl, hb1⟩
  have HB1 := Aside0.mk (hk_then (((Below.refl w.heap.size w).alloc (Nat.le_refl _) _).alloc (by simp) _) hb1 (by simp; omega))
  have hz1 : w.heap.size + 1 < w1.heap.size := by have := hb1.size; simp at this; omega
  have hz4 : w.heap.size < w1.heap.size := by omega
  obtain ⟨hc1, hf1⟩ := bcell hb1
  clear hb1
  go_wp2_with fail
  refine (mode_State_Turn.calls _ _ _ _ _ _ _ _ _ _ _ _ _ Ht.out).mono ?_
  rintro e w2 ⟨rfl, hb2⟩
  have HB2 := Aside0.mk (hk_then HB1.out hb2 (by omega))
  obtain ⟨hc2, hf2⟩ := bcell hb2
  have hz2 : w.heap.size + 1 < w2.heap.size := by have := hb2.size; omega
  have hz3 : w.heap.size < w2.heap.size := by omega
  clear hb2
  go_wp2_with fail
  refine (mode_Params_Right.calls _ _ _ _ _ Hr.out).mono ?_
  rintro e w3 ⟨rfl, hb3⟩
  have HB3 := Aside0.mk (hk_then (HB2.out.alloc (by omega) _) hb3 (by simp; omega))
  obtain ⟨hc3, hf3⟩ := bcell hb3
  have hz5 : w2.heap.size < w3.heap.size := by have := hb3.size; simp at this; omega
  have hz6 : w.heap.size + 1 < w3.heap.size := by omega
  have hz7 : w.heap.size < w3.heap.size := by omega
  have hz8 : w.heap.size + 1 < w2.heap.size + 1 := by omega
  have hz9 : w.heap.size < w2.heap.size + 1 := by omega
  have hy1 : w.heap.size ≠ w2.heap.size := by omega
  have hy2 : w.heap.size + 1 ≠ w2.heap.size := by omega
  clear hb3
  go_wp2
  go_ret
  exact ⟨by first | rfl | simp [*], HB3.out⟩
set_option maxHeartbeats 800000 in
set_option maxRecDepth 100000 in
theorem holds_W3falsed (a0_0 : Bool) (a0_1 : Int) (a0_2 : Int) (a1_0 : Int) (a1_1 : Int) (a1_2 : Int) (a2 : Int) (a3 : Int) (a4 : Int) (w : World) (haw : overfalllaw10_awake.f = some true) (t0 : Bool) (t1 t2 : Int) (ht : mode_State_Turn.f a0_0 a0_1 a0_2 a1_0 a1_1 a1_2 a2 a3 a4 = some (t0, t1, t2)) (hr : mode_Params_Right.f a1_0 a1_1 a1_2 = some false)
    (h0 : decide (0 < a4) = true) (h1 : decide (a4 ≤ 0) = false) (h2 : decide (a1_1 ≤ a3) = true) (h3 : decide (a3 < a1_0) = false) (h4 : decide (a3 < a1_1) = false) (h5 : (t2 == a0_2) = false) (h6 : (t2 == IntKind.u64.wrap (a0_2 + 1)) = true) (h7 : (t0 == a0_0) = false) :
    Calls Try.prog 5 #[.agg #[.bool a0_0, .int .i64 a0_1, .int .u64 a0_2], .agg #[.int .i64 a1_0, .int .i64 a1_1, .int .i64 a1_2], .int .i64 a2, .int .i64 a3, .int .i64 a4] w fun e w' => e = .returned (.bool true) ∧ Below w.heap.size w w' := by
  have Ht := Aside0.mk ht; clear ht
  have Haw := Aside0.mk haw; clear haw
  have Hr := Aside0.mk hr; clear hr
  have hu24 := Try.underlying24
  have hu26 := Try.underlying26
  go_enter Try.func5, Try.ntmps5
  go_wp2_with fail
  refine (overfalllaw10_awake.calls _ _ Haw.out).mono ?_
  rintro e w1 ⟨rfl, hb1⟩
  have HB1 := Aside0.mk (hk_then (((Below.refl w.heap.size w).alloc (Nat.le_refl _) _).alloc (by simp) _) hb1 (by simp; omega))
  have hz1 : w.heap.size + 1 < w1.heap.size := by have := hb1.size; simp at this; omega
  have hz4 : w.heap.size < w1.heap.size := by omega
  obtain ⟨hc1, hf1⟩ := bcell hb1
  clear hb1
  go_wp2_with fail
  refine (mode_State_Turn.calls _ _ _ _ _ _ _ _ _ _ _ _ _ Ht.out).mono ?_
  rintro e w2 ⟨rfl, hb2⟩
  have HB2 := Aside0.mk (hk_then HB1.out hb2 (by omega))
  obtain ⟨hc2, hf2⟩ := bcell hb2
  have hz2 : w.heap.size + 1 < w2.heap.size := by have := hb2.size; omega
  have hz3 : w.heap.size < w2.heap.size := by omega
  clear hb2
  go_wp2_with fail
  refine (mode_Params_Right.calls _ _ _ _ _ Hr.out).mono ?_
  rintro e w3 ⟨rfl, hb3⟩
  have HB3 := Aside0.mk (hk_then (HB2.out.alloc (by omega) _) hb3 (by simp; omega))
  obtain ⟨hc3, hf3⟩ := bcell hb3
  have hz5 : w2.heap.size < w3.heap.size := by have := hb3.size; simp at this; omega
  have hz6 : w.heap.size + 1 < w3.heap.size := by omega
  have hz7 : w.heap.size < w3.heap.size := by omega
  have hz8 : w.heap.size + 1 < w2.heap.size + 1 := by omega
  have hz9 : w.heap.size < w2.heap.size + 1 := by omega
  have hy1 : w.heap.size ≠ w2.heap.size := by omega
  have hy2 : w.heap.size + 1 ≠ w2.heap.size := by omega
  clear hb3
  go_wp2
  go_ret
  exact ⟨by first | rfl | simp [*], HB3.out⟩
set_option maxHeartbeats 800000 in
set_option maxRecDepth 100000 in
theorem holds_W3truec (a0_0 : Bool) (a0_1 : Int) (a0_2 : Int) (a1_0 : Int) (a1_1 : Int) (a1_2 : Int) (a2 : Int) (a3 : Int) (a4 : Int) (w : World) (haw : overfalllaw10_awake.f = some true) (t0 : Bool) (t1 t2 : Int) (ht : mode_State_Turn.f a0_0 a0_1 a0_2 a1_0 a1_1 a1_2 a2 a3 a4 = some (t0, t1, t2)) (hr : mode_Params_Right.f a1_0 a1_1 a1_2 = some true)
    (h0 : decide (0 < a4) = true) (h1 : decide (a4 ≤ 0) = false) (h2 : decide (a1_1 ≤ a3) = true) (h3 : decide (a3 < a1_0) = false) (h4 : decide (a3 < a1_1) = false) (h5 : (t2 == a0_2) = true) (h6 : same3 t0 a0_0 t1 a0_1 t2 a0_2 = true) :
    Calls Try.prog 5 #[.agg #[.bool a0_0, .int .i64 a0_1, .int .u64 a0_2], .agg #[.int .i64 a1_0, .int .i64 a1_1, .int .i64 a1_2], .int .i64 a2, .int .i64 a3, .int .i64 a4] w fun e w' => e = .returned (.bool true) ∧ Below w.heap.size w w' := by
  have Ht := Aside0.mk ht; clear ht
  have Haw := Aside0.mk haw; clear haw
  have Hr := Aside0.mk hr; clear hr
  have hu24 := Try.underlying24
  have hu26 := Try.underlying26
  go_enter Try.func5, Try.ntmps5
  go_wp2_with fail
  refine (overfalllaw10_awake.calls _ _ Haw.out).mono ?_
  rintro e w1 ⟨rfl, hb1⟩
  have HB1 := Aside0.mk (hk_then (((Below.refl w.heap.size w).alloc (Nat.le_refl _) _).alloc (by simp) _) hb1 (by simp; omega))
  have hz1 : w.heap.size + 1 < w1.heap.size := by have := hb1.size; simp at this; omega
  have hz4 : w.heap.size < w1.heap.size := by omega
  obtain ⟨hc1, hf1⟩ := bcell hb1
  clear hb1
  go_wp2_with fail
  refine (mode_State_Turn.calls _ _ _ _ _ _ _ _ _ _ _ _ _ Ht.out).mono ?_
  rintro e w2 ⟨rfl, hb2⟩
  have HB2 := Aside0.mk (hk_then HB1.out hb2 (by omega))
  obtain ⟨hc2, hf2⟩ := bcell hb2
  have hz2 : w.heap.size + 1 < w2.heap.size := by have := hb2.size; omega
  have hz3 : w.heap.size < w2.heap.size := by omega
  clear hb2
  go_wp2_with fail
  refine (mode_Params_Right.calls _ _ _ _ _ Hr.out).mono ?_
  rintro e w3 ⟨rfl, hb3⟩
  have HB3 := Aside0.mk (hk_then (HB2.out.alloc (by omega) _) hb3 (by simp; omega))
  obtain ⟨hc3, hf3⟩ := bcell hb3
  have hz5 : w2.heap.size < w3.heap.size := by have := hb3.size; simp at this; omega
  have hz6 : w.heap.size + 1 < w3.heap.size := by omega
  have hz7 : w.heap.size < w3.heap.size := by omega
  have hz8 : w.heap.size + 1 < w2.heap.size + 1 := by omega
  have hz9 : w.heap.size < w2.heap.size + 1 := by omega
  have hy1 : w.heap.size ≠ w2.heap.size := by omega
  have hy2 : w.heap.size + 1 ≠ w2.heap.size := by omega
  clear hb3
  go_wp2
  go_ret
  exact ⟨by first | rfl | simp [*], HB3.out⟩
set_option maxHeartbeats 800000 in
set_option maxRecDepth 100000 in
theorem holds_W3trued (a0_0 : Bool) (a0_1 : Int) (a0_2 : Int) (a1_0 : Int) (a1_1 : Int) (a1_2 : Int) (a2 : Int) (a3 : Int) (a4 : Int) (w : World) (haw : overfalllaw10_awake.f = some true) (t0 : Bool) (t1 t2 : Int) (ht : mode_State_Turn.f a0_0 a0_1 a0_2 a1_0 a1_1 a1_2 a2 a3 a4 = some (t0, t1, t2)) (hr : mode_Params_Right.f a1_0 a1_1 a1_2 = some true)
    (h0 : decide (0 < a4) = true) (h1 : decide (a4 ≤ 0) = false) (h2 : decide (a1_1 ≤ a3) = true) (h3 : decide (a3 < a1_0) = false) (h4 : decide (a3 < a1_1) = false) (h5 : (t2 == a0_2) = false) (h6 : (t2 == IntKind.u64.wrap (a0_2 + 1)) = true) (h7 : (t0 == a0_0) = false) :
    Calls Try.prog 5 #[.agg #[.bool a0_0, .int .i64 a0_1, .int .u64 a0_2], .agg #[.int .i64 a1_0, .int .i64 a1_1, .int .i64 a1_2], .int .i64 a2, .int .i64 a3, .int .i64 a4] w fun e w' => e = .returned (.bool true) ∧ Below w.heap.size w w' := by
  have Ht := Aside0.mk ht; clear ht
  have Haw := Aside0.mk haw; clear haw
  have Hr := Aside0.mk hr; clear hr
  have hu24 := Try.underlying24
  have hu26 := Try.underlying26
  go_enter Try.func5, Try.ntmps5
  go_wp2_with fail
  refine (overfalllaw10_awake.calls _ _ Haw.out).mono ?_
  rintro e w1 ⟨rfl, hb1⟩
  have HB1 := Aside0.mk (hk_then (((Below.refl w.heap.size w).alloc (Nat.le_refl _) _).alloc (by simp) _) hb1 (by simp; omega))
  have hz1 : w.heap.size + 1 < w1.heap.size := by have := hb1.size; simp at this; omega
  have hz4 : w.heap.size < w1.heap.size := by omega
  obtain ⟨hc1, hf1⟩ := bcell hb1
  clear hb1
  go_wp2_with fail
  refine (mode_State_Turn.calls _ _ _ _ _ _ _ _ _ _ _ _ _ Ht.out).mono ?_
  rintro e w2 ⟨rfl, hb2⟩
  have HB2 := Aside0.mk (hk_then HB1.out hb2 (by omega))
  obtain ⟨hc2, hf2⟩ := bcell hb2
  have hz2 : w.heap.size + 1 < w2.heap.size := by have := hb2.size; omega
  have hz3 : w.heap.size < w2.heap.size := by omega
  clear hb2
  go_wp2_with fail
  refine (mode_Params_Right.calls _ _ _ _ _ Hr.out).mono ?_
  rintro e w3 ⟨rfl, hb3⟩
  have HB3 := Aside0.mk (hk_then (HB2.out.alloc (by omega) _) hb3 (by simp; omega))
  obtain ⟨hc3, hf3⟩ := bcell hb3
  have hz5 : w2.heap.size < w3.heap.size := by have := hb3.size; simp at this; omega
  have hz6 : w.heap.size + 1 < w3.heap.size := by omega
  have hz7 : w.heap.size < w3.heap.size := by omega
  have hz8 : w.heap.size + 1 < w2.heap.size + 1 := by omega
  have hz9 : w.heap.size < w2.heap.size + 1 := by omega
  have hy1 : w.heap.size ≠ w2.heap.size := by omega
  have hy2 : w.heap.size + 1 ≠ w2.heap.size := by omega
  clear hb3
  go_wp2
  go_ret
  exact ⟨by first | rfl | simp [*], HB3.out⟩

end Go.Proofs.Ytgackgdoikfmdaa.PModeTurns
