/- ModeTurns: the document's turn is the program's. -/
import Derived.Test.YtgackgdoikfmdaaPureB
import Derived.Test.YtgackgdoikfmdaaTurns
set_option linter.unusedVariables false
set_option linter.unusedSimpArgs false
namespace Go.Proofs.Ytgackgdoikfmdaa.PModeTurns
open Go.RowKit Go.Proofs.YtgackgdoikfmdaaW.PrintWords Go.Proofs.YtgackgdoikfmdaaW.PrintLast Go.Proofs.YtgackgdoikfmdaaW.PrintMore

theorem ref_turn_eq (k : Nat) (l : Bool) (since turns high low dwell now oldest backlog : Int) (hs : I64 since) (hn : I64 now) (ht : U64 turns) :
    overfallref10_Turn.f (k + 21) l since turns high low dwell now oldest backlog = some (turnS l since turns high low dwell now oldest backlog) := by
  unfold overfallref10_Turn.f turnS
  rw [ref2_Sub_eq (k + 1) hn hs]
  simp only [Option.bind_some, overfallref10_Turn.j0, wrap_u64]
  unfold U64 at ht
  have n1 : (backlog ≤ 0) = ¬ (backlog > 0) := by simp
  have n2 : (oldest < high) = ¬ (oldest ≥ high) := by simp
  by_cases h2 : turns = 0
  · subst h2
    cases l <;> by_cases h1 : backlog > 0 <;> by_cases h4 : oldest ≥ high <;> by_cases h5 : oldest ≥ low <;> simp only [n1, n2] <;> simp [h1, h4, h5]
  · have h2' : turns > 0 := by omega
    by_cases h3 : sat (now - since) < dwell <;> cases l <;> by_cases h1 : backlog > 0 <;> by_cases h4 : oldest ≥ high <;> by_cases h5 : oldest ≥ low <;> simp only [n1, n2] <;> simp [h1, h2, h2', h3, h4, h5]

theorem turns_any (a0_0 : Bool) (a0_1 : Int) (a0_2 : Int) (a1_0 : Int) (a1_1 : Int) (a1_2 : Int) (a2 : Int) (a3 : Int) (a4 : Int) (w : World)
    (w01 : (Lit.int .i64 a0_1).wf = true) (w02 : (Lit.int .u64 a0_2).wf = true) (w10 : (Lit.int .i64 a1_0).wf = true) (w11 : (Lit.int .i64 a1_1).wf = true) (w12 : (Lit.int .i64 a1_2).wf = true) (w2 : (Lit.int .i64 a2).wf = true) (w3 : (Lit.int .i64 a3).wf = true) (w4 : (Lit.int .i64 a4).wf = true) :
    Calls Try.prog 3 #[.agg #[.bool a0_0, .int .i64 a0_1, .int .u64 a0_2], .agg #[.int .i64 a1_0, .int .i64 a1_1, .int .i64 a1_2], .int .i64 a2, .int .i64 a3, .int .i64 a4] w fun e w' => e = .returned (.bool true) ∧ Below w.heap.size w w' := by
  have ht := turn_eq a0_0 a0_1 a0_2 a1_0 a1_1 a1_2 a2 a3 a4 (i64_of w01) (i64_of w2)
  have hq := ref_turn_eq 0 a0_0 a0_1 a0_2 a1_0 a1_1 a1_2 a2 a3 a4 (i64_of w01) (i64_of w2) (u64_of w02)
  have hr := right_eq a1_0 a1_1 a1_2
  obtain ⟨t0, t1, t2, hT⟩ : ∃ t0 t1 t2, turnS a0_0 a0_1 a0_2 a1_0 a1_1 a1_2 a2 a3 a4 = (t0, t1, t2) := ⟨_, _, _, rfl⟩
  rw [hT] at ht hq
  have hs : same3 t0 t0 t1 t1 t2 t2 = true := by simp [same3]
  by_cases c1 : 0 ≤ a1_1
  · by_cases c2 : a1_1 ≤ a1_0
    · refine turns_C 21 (decide (0 ≤ a1_2)) _ _ _ _ _ _ _ _ _ w awake_eq t0 t1 t2 ht hq hs rfl ?_ (by simpa using c1) (by simpa using c2) rfl
      rw [hr]; simp [c1, c2]
    · refine turns_B 21 _ _ _ _ _ _ _ _ _ w awake_eq t0 t1 t2 ht hq hs rfl ?_ (by simpa using c1) (by simpa using c2)
      rw [hr]; simp [c2]
  · refine turns_A 21 _ _ _ _ _ _ _ _ _ w awake_eq t0 t1 t2 ht hq hs rfl ?_ (by simpa using c1)
    rw [hr]; simp [c1]
end Go.Proofs.Ytgackgdoikfmdaa.PModeTurns
