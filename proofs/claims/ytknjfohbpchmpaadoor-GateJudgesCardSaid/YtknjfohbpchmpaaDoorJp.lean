/- gate.Judge, as plain numbers. -/
import Derived.Test.YtknjfohbpchmpaaDoorGp1
set_option linter.unusedVariables false
set_option linter.unusedSimpArgs false
namespace Go.Proofs.YtknjfohbpchmpaaDoor.Gt
open Go.RowKit Go.Proofs.YtknjfohbpchmpaaDoorW.PrintWords Go.Proofs.YtknjfohbpchmpaaDoorW.PrintLast Go.Proofs.YtknjfohbpchmpaaDoorW.PrintMore
open Go.Proofs.YtknjfohbpchmpaaDoor.PGateJudges
def I64 (n : Int) : Prop := -9223372036854775808 ≤ n ∧ n ≤ 9223372036854775807
def edgeOf (t level : Int) : Int := if t * 128 - level > 9223372036854775807 then 9223372036854775807 else t * 128 - level
theorem sub_edge (t b : Int) (ht : 0 ≤ t ∧ t ≤ 8) (hb : I64 b) : fix_Sub.f (wrap64 (t * 128)) b = some (edgeOf t b) := by
  unfold I64 at hb
  have h0 : wrap64 (t * 128) = t * 128 := by unfold wrap64; omega
  rw [h0]
  unfold fix_Sub.f fix_end.f edgeOf
  have d0 : decide (t * 128 < 0) = false := by simp; omega
  by_cases hb0 : b < 0
  · have d1 : decide (b < 0) = true := by simpa using hb0
    by_cases hg : t * 128 - b > 9223372036854775807
    · have hw : wrap64 (t * 128 - b) = t * 128 - b - 18446744073709551616 := by unfold wrap64; omega
      have d2 : decide (wrap64 (t * 128 - b) < 0) = true := by simp; omega
      rw [d0, d1, d2, if_pos hg]; rfl
    · have hw : wrap64 (t * 128 - b) = t * 128 - b := by unfold wrap64; omega
      have d2 : decide (wrap64 (t * 128 - b) < 0) = false := by simp; omega
      rw [d0, d1, d2, if_neg hg, hw]; rfl
  · have d1 : decide (b < 0) = false := by simpa using hb0
    have hw : wrap64 (t * 128 - b) = t * 128 - b := by unfold wrap64; omega
    have hg : ¬ t * 128 - b > 9223372036854775807 := by omega
    rw [d0, d1, if_neg hg, hw]; rfl
def rightOf (t tier cohort : Int) : Bool := decide (0 ≤ tier) && decide (tier < t) && decide (0 ≤ cohort) && decide (cohort < 128)
def judgeR (t level now tier cohort dl : Int) : Int := if rightOf t tier cohort = true then (if dl ≤ now then 3 else if tier * 128 + cohort ≥ edgeOf t level then 4 else 0) else 2
theorem judge_in {t level now tier cohort dl : Int} (h : 0 ≤ tier ∧ tier < t ∧ 0 ≤ cohort ∧ cohort < 128) : judgeR t level now tier cohort dl = if dl ≤ now then 3 else if tier * 128 + cohort ≥ edgeOf t level then 4 else 0 := by
  unfold judgeR; rw [if_pos (by unfold rightOf; simp; omega)]
end Go.Proofs.YtknjfohbpchmpaaDoor.Gt
