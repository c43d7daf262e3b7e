/- What a turn is, in numbers. -/
import Derived.Test.YtgackgdoikfmdaaPureA
import Derived.Test.YtgackgdoikfmdaaHolds
set_option linter.unusedVariables false
set_option linter.unusedSimpArgs false
namespace Go.Proofs.Ytgackgdoikfmdaa.PModeTurns
open Go.RowKit Go.Proofs.YtgackgdoikfmdaaW.PrintWords Go.Proofs.YtgackgdoikfmdaaW.PrintLast Go.Proofs.YtgackgdoikfmdaaW.PrintMore

/-- The turn. -/
def turnS (lifo : Bool) (since turns high low dwell now oldest backlog : Int) : Bool × Int × Int :=
  if decide (backlog > 0 ∧ oldest ≥ (if lifo = true then low else high)) = lifo ∨ turns ≠ 0 ∧ sat (now - since) < dwell then (lifo, since, turns)
  else (decide (backlog > 0 ∧ oldest ≥ (if lifo = true then low else high)), now, (turns + 1) % 18446744073709551616)

theorem turnS_two (l : Bool) (since turns high low dwell now oldest backlog : Int) :
    turnS l since turns high low dwell now oldest backlog = (l, since, turns) ∨ turnS l since turns high low dwell now oldest backlog = (!l, now, (turns + 1) % 18446744073709551616) := by
  unfold turnS
  generalize decide (backlog > 0 ∧ oldest ≥ (if l = true then low else high)) = x
  by_cases hc : x = l ∨ turns ≠ 0 ∧ sat (now - since) < dwell
  · left; rw [if_pos hc]
  · right; rw [if_neg hc]
    simp only [not_or] at hc
    have : x = !l := by have := hc.1; revert this; cases x <;> cases l <;> simp
    rw [this]

theorem turn_eq (l : Bool) (since turns high low dwell now oldest backlog : Int) (hs : I64 since) (hn : I64 now) :
    mode_State_Turn.f l since turns high low dwell now oldest backlog = some (turnS l since turns high low dwell now oldest backlog) := by
  unfold mode_State_Turn.f mode_State_bound.f turnS
  simp only [wrap_u64, fix_Sub_eq hn hs]
  by_cases h1 : backlog > 0 <;> by_cases h2 : turns = 0 <;> by_cases h3 : sat (now - since) < dwell <;> cases l
  all_goals
    by_cases h4 : oldest ≥ high <;> by_cases h5 : oldest ≥ low <;> simp [h1, h2, h3, h4, h5] <;> omega

theorem awake_eq : overfalllaw10_awake.f = some true := by
  have i0 : I64 0 := by unfold I64; omega
  unfold overfalllaw10_awake.f
  simp only [turn_eq _ _ _ _ _ _ _ _ _ i0 i0, Option.bind_some]
  simp [turnS, sat, mode_State_Back.f, mode_Params_Right.f, turn_eq _ _ _ _ _ _ _ _ _ i0 i0]

theorem right_eq (h l d : Int) : mode_Params_Right.f h l d = some (decide (l ≥ 0 ∧ h ≥ l ∧ d ≥ 0)) := by
  unfold mode_Params_Right.f
  by_cases h1 : l ≥ 0 <;> by_cases h2 : h ≥ l <;> simp [h1, h2]

/-- ModeHolds: whatever the input, the answer is true. -/
theorem holds_any (a0_0 : Bool) (a0_1 : Int) (a0_2 : Int) (a1_0 : Int) (a1_1 : Int) (a1_2 : Int) (a2 : Int) (a3 : Int) (a4 : Int) (w : World)
    (h01 : I64 a0_1) (h02 : U64 a0_2) (h2 : I64 a2) :
    Calls Try.prog 5 #[.agg #[.bool a0_0, .int .i64 a0_1, .int .u64 a0_2], .agg #[.int .i64 a1_0, .int .i64 a1_1, .int .i64 a1_2], .int .i64 a2, .int .i64 a3, .int .i64 a4] w fun e w' => e = .returned (.bool true) ∧ Below w.heap.size w w' := by
  have ht := turn_eq a0_0 a0_1 a0_2 a1_0 a1_1 a1_2 a2 a3 a4 h01 h2
  have hr := right_eq a1_0 a1_1 a1_2
  have hW : IntKind.u64.wrap (a0_2 + 1) = (a0_2 + 1) % 18446744073709551616 := wrap_u64 _
  have hne : a0_2 ≠ (a0_2 + 1) % 18446744073709551616 := by unfold U64 at h02; omega
  obtain ⟨t0, t1, t2, hT⟩ : ∃ t0 t1 t2, turnS a0_0 a0_1 a0_2 a1_0 a1_1 a1_2 a2 a3 a4 = (t0, t1, t2) := ⟨_, _, _, rfl⟩
  rw [hT] at ht
  have hx : (t2 == a0_2) = true ∧ same3 t0 a0_0 t1 a0_1 t2 a0_2 = true ∨ (t2 == a0_2) = false ∧ (t2 == IntKind.u64.wrap (a0_2 + 1)) = true ∧ (t0 == a0_0) = false := by
    rw [hW]
    rcases turnS_two a0_0 a0_1 a0_2 a1_0 a1_1 a1_2 a2 a3 a4 with h | h
    · rw [h] at hT; cases hT; simp [same3]
    · rw [h] at hT; cases hT
      exact .inr ⟨by simp; omega, by simp, by cases a0_0 <;> rfl⟩
  by_cases c1 : 0 < a4
  · by_cases c2 : a1_1 ≤ a3
    · by_cases c3 : a3 < a1_0
      · refine holds_L1 _ _ _ _ _ _ _ _ _ w awake_eq t0 t1 t2 ht (by simpa using c1) (by simpa using c2) (by simpa using c3) ?_
        unfold turnS at hT
        cases a0_0
        · simp [c1, show ¬ (a1_0 ≤ a3) by omega] at hT; obtain ⟨rfl, rfl, rfl⟩ := hT; simp [same3]
        · simp [c1, c2] at hT; obtain ⟨rfl, rfl, rfl⟩ := hT; simp [same3]
      · cases hR : decide (a1_1 ≥ 0 ∧ a1_0 ≥ a1_1 ∧ a1_2 ≥ 0) <;> rw [hR] at hr <;> rcases hx with ⟨x1, x2⟩ | ⟨x1, x2, x3⟩
        · exact holds_W3falsec _ _ _ _ _ _ _ _ _ w awake_eq t0 t1 t2 ht hr (by simpa using c1) (by simp; omega) (by simpa using c2) (by simpa using c3) (by simp; omega) x1 x2
        · exact holds_W3falsed _ _ _ _ _ _ _ _ _ w awake_eq t0 t1 t2 ht hr (by simpa using c1) (by simp; omega) (by simpa using c2) (by simpa using c3) (by simp; omega) x1 x2 x3
        · exact holds_W3truec _ _ _ _ _ _ _ _ _ w awake_eq t0 t1 t2 ht hr (by simpa using c1) (by simp; omega) (by simpa using c2) (by simpa using c3) (by simp; omega) x1 x2
        · exact holds_W3trued _ _ _ _ _ _ _ _ _ w awake_eq t0 t1 t2 ht hr (by simpa using c1) (by simp; omega) (by simpa using c2) (by simpa using c3) (by simp; omega) x1 x2 x3
    · cases hR : decide (a1_1 ≥ 0 ∧ a1_0 ≥ a1_1 ∧ a1_2 ≥ 0) <;> rw [hR] at hr
      · rcases hx with ⟨x1, x2⟩ | ⟨x1, x2, x3⟩
        · exact holds_W2falsec _ _ _ _ _ _ _ _ _ w awake_eq t0 t1 t2 ht hr (by simpa using c1) (by simp; omega) (by simpa using c2) (by simp; omega) x1 x2
        · exact holds_W2falsed _ _ _ _ _ _ _ _ _ w awake_eq t0 t1 t2 ht hr (by simpa using c1) (by simp; omega) (by simpa using c2) (by simp; omega) x1 x2 x3
      · cases t0
        · exact holds_W2truea _ _ _ _ _ _ _ _ _ w awake_eq t1 t2 ht hr (by simpa using c1) (by simp; omega) (by simpa using c2) (by simp; omega)
        · refine holds_W2trueb _ _ _ _ _ _ _ _ _ w awake_eq t1 t2 ht hr (by simpa using c1) (by simp; omega) (by simpa using c2) (by simp; omega) ?_
          have hR' := of_decide_eq_true hR
          unfold turnS at hT
          cases a0_0
          · simp [c1, show ¬ (a1_0 ≤ a3) by omega] at hT
          · simp [c1, show ¬ (a1_1 ≤ a3) by omega] at hT
            split at hT <;> cases hT
            simp [same3]
  · have c1' : decide (0 < a4) = false := by simpa using c1
    cases hR : decide (a1_1 ≥ 0 ∧ a1_0 ≥ a1_1 ∧ a1_2 ≥ 0) <;> rw [hR] at hr
    · rcases hx with ⟨x1, x2⟩ | ⟨x1, x2, x3⟩
      · exact holds_W1falsec _ _ _ _ _ _ _ _ _ w awake_eq t0 t1 t2 ht hr c1' (by simp; omega) x1 x2
      · exact holds_W1falsed _ _ _ _ _ _ _ _ _ w awake_eq t0 t1 t2 ht hr c1' (by simp; omega) x1 x2 x3
    · cases t0
      · exact holds_W1truea _ _ _ _ _ _ _ _ _ w awake_eq t1 t2 ht hr c1' (by simp; omega)
      · refine holds_W1trueb _ _ _ _ _ _ _ _ _ w awake_eq t1 t2 ht hr c1' (by simp; omega) ?_
        unfold turnS at hT
        cases a0_0
        · simp [c1] at hT
        · simp [c1] at hT
          split at hT <;> cases hT
          simp [same3]

end Go.Proofs.Ytgackgdoikfmdaa.PModeTurns
namespace Go.Proofs.Ytgackgdoikfmdaa.PModeTurns
open Go.RowKit
theorem i64_of {n : Int} (h : (Lit.int .i64 n).wf = true) : I64 n := by
  simp [Lit.wf, IntKind.min, IntKind.max, IntKind.bits, IntKind.signed] at h
  unfold I64; omega
theorem u64_of {n : Int} (h : (Lit.int .u64 n).wf = true) : U64 n := by
  simp [Lit.wf, IntKind.min, IntKind.max, IntKind.bits, IntKind.signed] at h
  unfold U64; omega
theorem holds_row (a0_0 : Bool) (a0_1 : Int) (a0_2 : Int) (a1_0 : Int) (a1_1 : Int) (a1_2 : Int) (a2 : Int) (a3 : Int) (a4 : Int) (w : World)
    (w01 : (Lit.int .i64 a0_1).wf = true) (w02 : (Lit.int .u64 a0_2).wf = true) (w10 : (Lit.int .i64 a1_0).wf = true) (w11 : (Lit.int .i64 a1_1).wf = true) (w12 : (Lit.int .i64 a1_2).wf = true) (w2 : (Lit.int .i64 a2).wf = true) (w3 : (Lit.int .i64 a3).wf = true) (w4 : (Lit.int .i64 a4).wf = true) :
    Calls Try.prog 5 #[.agg #[.bool a0_0, .int .i64 a0_1, .int .u64 a0_2], .agg #[.int .i64 a1_0, .int .i64 a1_1, .int .i64 a1_2], .int .i64 a2, .int .i64 a3, .int .i64 a4] w fun e w' => e = .returned (.bool true) ∧ Below w.heap.size w w' :=
  holds_any a0_0 a0_1 a0_2 a1_0 a1_1 a1_2 a2 a3 a4 w (i64_of w01) (u64_of w02) (i64_of w2)
end Go.Proofs.Ytgackgdoikfmdaa.PModeTurns
