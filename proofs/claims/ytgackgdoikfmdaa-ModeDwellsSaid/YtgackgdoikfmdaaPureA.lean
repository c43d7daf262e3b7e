/- The numbers of layers 1 and 2 as the printed functions have them: sums and differences of 64-bit numbers by digits of sixteen bits are the plain ones, saturated. -/
import Derived.Test.YtgackgdoikfmdaaPModeTurnsx6
namespace Go.Proofs.Ytgackgdoikfmdaa.PModeTurns
open Go.RowKit Go.Proofs.YtgackgdoikfmdaaW.PrintWords Go.Proofs.YtgackgdoikfmdaaW.PrintLast Go.Proofs.YtgackgdoikfmdaaW.PrintMore
set_option linter.unusedVariables false
set_option linter.unusedSimpArgs false

def sat (x : Int) : Int := if x < -9223372036854775808 then -9223372036854775808 else if x > 9223372036854775807 then 9223372036854775807 else x
def I64 (x : Int) : Prop := -9223372036854775808 ≤ x ∧ x ≤ 9223372036854775807
def U64 (x : Int) : Prop := 0 ≤ x ∧ x ≤ 18446744073709551615
def D16 (x : Int) : Prop := 0 ≤ x ∧ x ≤ 65535
theorem sat_i64 (x : Int) : I64 (sat x) := by unfold sat I64; (repeat' split) <;> omega

theorem wrap_u64 (x : Int) : IntKind.u64.wrap x = x % 18446744073709551616 := by
  simp [IntKind.wrap, IntKind.bits, IntKind.signed]

theorem digits_eq (k : Nat) (hi lo : Int) (h1 : U64 hi) (h2 : U64 lo) : overfallref01_Digits.f (k + 10) hi lo =
    some [lo % 65536, lo / 65536 % 65536, lo / 4294967296 % 65536, lo / 281474976710656 % 65536, hi % 65536, hi / 65536 % 65536, hi / 4294967296 % 65536, hi / 281474976710656 % 65536] := by
  unfold U64 at *
  have t : ∀ x : Int, 0 ≤ x → wrap64 (Int.tmod x 65536) = x % 65536 := by
    intro x hx
    rw [Int.tmod_eq_emod_of_nonneg hx]; unfold wrap64; omega
  have s0 : ∀ x, shr .u64 x (wrap64 (16 * 0)) = x := by intro x; simp [shr, wrap64, IntKind.bits]
  have s1 : ∀ x, shr .u64 x (wrap64 (16 * 1)) = x / 65536 := by intro x; simp [shr, wrap64, IntKind.bits]
  have s2 : ∀ x, shr .u64 x (wrap64 (16 * 2)) = x / 4294967296 := by intro x; simp [shr, wrap64, IntKind.bits]
  have s3 : ∀ x, shr .u64 x (wrap64 (16 * 3)) = x / 281474976710656 := by intro x; simp [shr, wrap64, IntKind.bits]
  have w0 : wrap64 (0 + 1) = 1 := by unfold wrap64; omega
  have w1 : wrap64 (1 + 1) = 2 := by unfold wrap64; omega
  have w2 : wrap64 (2 + 1) = 3 := by unfold wrap64; omega
  have w3 : wrap64 (3 + 1) = 4 := by unfold wrap64; omega
  unfold overfallref01_Digits.f
  simp only [overfallref01_Digits.l0, overfallref01_Digits.l1, w0, w1, w2, w3, s0, s1, s2, s3]
  simp
  simp [t, h1.1, h2.1, Int.ediv_nonneg]
  unfold wrap64; omega

theorem value_eq (k : Nat) (a0 a1 a2 a3 a4 a5 a6 a7 : Int) (h0 : D16 a0) (h1 : D16 a1) (h2 : D16 a2) (h3 : D16 a3) (h4 : D16 a4) (h5 : D16 a5) (h6 : D16 a6) (h7 : D16 a7) :
    overfallref01_Value.f (k + 5) [a0, a1, a2, a3, a4, a5, a6, a7] = some (1 * a4 + 65536 * a5 + 4294967296 * a6 + 281474976710656 * a7, 1 * a0 + 65536 * a1 + 4294967296 * a2 + 281474976710656 * a3) := by
  unfold D16 at *
  have w3 : wrap64 (3 - 1) = 2 := by unfold wrap64; omega
  have w2 : wrap64 (2 - 1) = 1 := by unfold wrap64; omega
  have w1 : wrap64 (1 - 1) = 0 := by unfold wrap64; omega
  have w0 : wrap64 (0 - 1) = -1 := by unfold wrap64; omega
  have v3 : wrap64 (3 + 4) = 7 := by unfold wrap64; omega
  have v2 : wrap64 (2 + 4) = 6 := by unfold wrap64; omega
  have v1 : wrap64 (1 + 4) = 5 := by unfold wrap64; omega
  have v0 : wrap64 (0 + 4) = 4 := by unfold wrap64; omega
  unfold overfallref01_Value.f
  simp only [overfallref01_Value.l0, w0, w1, w2, w3, v0, v1, v2, v3, wrap_u64]
  simp [rd]
  omega

theorem add_l0_step (k : Nat) (x y : List Int) (c i : Int) (hx : x.length = 8) (hy : y.length = 8) (hi : 0 ≤ i ∧ i < 8) (hc : 0 ≤ c ∧ c ≤ 1) (h1 : D16 (rd x i)) (h2 : D16 (rd y i)) :
    overfallref01_Add.l0 (k + 1) x y c i = overfallref01_Add.l0 k (x.set i.toNat ((rd x i + rd y i + c) % 65536)) y ((rd x i + rd y i + c) / 65536) (i + 1) := by
  unfold D16 at *
  simp only [overfallref01_Add.l0]
  have e1 : wrap64 (wrap64 (rd x i + rd y i) + c) = rd x i + rd y i + c := by unfold wrap64; omega
  have e2 : wrap64 ((rd x i + rd y i + c).tdiv 65536) = (rd x i + rd y i + c) / 65536 := by
    rw [Int.tdiv_eq_ediv_of_nonneg (by omega)]; unfold wrap64; omega
  have e3 : (rd x i + rd y i + c).tmod 65536 = (rd x i + rd y i + c) % 65536 := Int.tmod_eq_emod_of_nonneg (by omega)
  have e4 : wrap64 (i + 1) = i + 1 := by unfold wrap64; omega
  rw [if_pos hi.2, if_pos hi.1, if_pos (by omega), if_pos (by omega), e1, e2, e3, e4]

theorem sub_l0_step (k : Nat) (x y : List Int) (c i : Int) (hx : x.length = 8) (hy : y.length = 8) (hi : 0 ≤ i ∧ i < 8) (hc : 0 ≤ c ∧ c ≤ 1) (h1 : D16 (rd x i)) (h2 : D16 (rd y i)) :
    overfallref01_Sub.l0 (k + 1) x y c i = overfallref01_Sub.l0 k (x.set i.toNat ((rd x i - rd y i - c) % 65536)) y (-((rd x i - rd y i - c) / 65536)) (i + 1) := by
  unfold D16 at *
  simp only [overfallref01_Sub.l0]
  have e1 : wrap64 (wrap64 (rd x i - rd y i) - c) = rd x i - rd y i - c := by unfold wrap64; omega
  have e4 : wrap64 (i + 1) = i + 1 := by unfold wrap64; omega
  rw [if_pos hi.2, if_pos hi.1, if_pos (by omega), if_pos (by omega), e1, e4]
  by_cases hn : rd x i - rd y i - c < 0
  · rw [if_pos hn, show wrap64 (rd x i - rd y i - c + 65536) = (rd x i - rd y i - c) % 65536 from by unfold wrap64; omega, show -((rd x i - rd y i - c) / 65536) = 1 from by omega]
  · rw [if_neg hn, show (rd x i - rd y i - c) % 65536 = (rd x i - rd y i - c) from by omega, show -((rd x i - rd y i - c) / 65536) = 0 from by omega]

theorem add_run (k : Nat) (x0 x1 x2 x3 x4 x5 x6 x7 y0 y1 y2 y3 y4 y5 y6 y7 : Int) (hx0 : D16 x0) (hx1 : D16 x1) (hx2 : D16 x2) (hx3 : D16 x3) (hx4 : D16 x4) (hx5 : D16 x5) (hx6 : D16 x6) (hx7 : D16 x7) (hy0 : D16 y0) (hy1 : D16 y1) (hy2 : D16 y2) (hy3 : D16 y3) (hy4 : D16 y4) (hy5 : D16 y5) (hy6 : D16 y6) (hy7 : D16 y7) :
    overfallref01_Add.l0 (k + 14) [x0, x1, x2, x3, x4, x5, x6, x7] [y0, y1, y2, y3, y4, y5, y6, y7] 0 0 = some ((1 * x4 + 65536 * x5 + 4294967296 * x6 + 281474976710656 * x7 + (1 * y4 + 65536 * y5 + 4294967296 * y6 + 281474976710656 * y7) + (1 * x0 + 65536 * x1 + 4294967296 * x2 + 281474976710656 * x3 + (1 * y0 + 65536 * y1 + 4294967296 * y2 + 281474976710656 * y3)) / 18446744073709551616) % 18446744073709551616, (1 * x0 + 65536 * x1 + 4294967296 * x2 + 281474976710656 * x3 + (1 * y0 + 65536 * y1 + 4294967296 * y2 + 281474976710656 * y3)) % 18446744073709551616, decide (1 * x4 + 65536 * x5 + 4294967296 * x6 + 281474976710656 * x7 + (1 * y4 + 65536 * y5 + 4294967296 * y6 + 281474976710656 * y7) + (1 * x0 + 65536 * x1 + 4294967296 * x2 + 281474976710656 * x3 + (1 * y0 + 65536 * y1 + 4294967296 * y2 + 281474976710656 * y3)) / 18446744073709551616 ≥ 18446744073709551616)) := by
  have s0 := add_l0_step (k + 13) [x0, x1, x2, x3, x4, x5, x6, x7] [y0, y1, y2, y3, y4, y5, y6, y7] 0 0 rfl rfl (by omega) (by omega) hx0 hy0
  replace s0 : overfallref01_Add.l0 (k + 14) [x0, x1, x2, x3, x4, x5, x6, x7] [y0, y1, y2, y3, y4, y5, y6, y7] 0 0 = overfallref01_Add.l0 (k + 13) [(x0 + y0 + 0) % 65536, x1, x2, x3, x4, x5, x6, x7] [y0, y1, y2, y3, y4, y5, y6, y7] ((x0 + y0 + 0) / 65536) 1 := s0
  rw [s0]; clear s0
  have hr0 : D16 ((x0 + y0 + 0) % 65536) := by unfold D16 at *; omega
  have hc1 : 0 ≤ ((x0 + y0 + 0) / 65536) ∧ ((x0 + y0 + 0) / 65536) ≤ 1 := by unfold D16 at *; omega
  have e0 : (x0 + y0 + 0) = 65536 * ((x0 + y0 + 0) / 65536) + (x0 + y0 + 0) % 65536 := by omega
  generalize (x0 + y0 + 0) % 65536 = r0 at *
  generalize ((x0 + y0 + 0) / 65536) = c1 at *
  have s1 := add_l0_step (k + 12) [r0, x1, x2, x3, x4, x5, x6, x7] [y0, y1, y2, y3, y4, y5, y6, y7] c1 1 rfl rfl (by omega) hc1 hx1 hy1
  replace s1 : overfallref01_Add.l0 (k + 13) [r0, x1, x2, x3, x4, x5, x6, x7] [y0, y1, y2, y3, y4, y5, y6, y7] c1 1 = overfallref01_Add.l0 (k + 12) [r0, (x1 + y1 + c1) % 65536, x2, x3, x4, x5, x6, x7] [y0, y1, y2, y3, y4, y5, y6, y7] ((x1 + y1 + c1) / 65536) 2 := s1
  rw [s1]; clear s1
  have hr1 : D16 ((x1 + y1 + c1) % 65536) := by unfold D16 at *; omega
  have hc2 : 0 ≤ ((x1 + y1 + c1) / 65536) ∧ ((x1 + y1 + c1) / 65536) ≤ 1 := by unfold D16 at *; omega
  have e1 : (x1 + y1 + c1) = 65536 * ((x1 + y1 + c1) / 65536) + (x1 + y1 + c1) % 65536 := by omega
  generalize (x1 + y1 + c1) % 65536 = r1 at *
  generalize ((x1 + y1 + c1) / 65536) = c2 at *
  have s2 := add_l0_step (k + 11) [r0, r1, x2, x3, x4, x5, x6, x7] [y0, y1, y2, y3, y4, y5, y6, y7] c2 2 rfl rfl (by omega) hc2 hx2 hy2
  replace s2 : overfallref01_Add.l0 (k + 12) [r0, r1, x2, x3, x4, x5, x6, x7] [y0, y1, y2, y3, y4, y5, y6, y7] c2 2 = overfallref01_Add.l0 (k + 11) [r0, r1, (x2 + y2 + c2) % 65536, x3, x4, x5, x6, x7] [y0, y1, y2, y3, y4, y5, y6, y7] ((x2 + y2 + c2) / 65536) 3 := s2
  rw [s2]; clear s2
  have hr2 : D16 ((x2 + y2 + c2) % 65536) := by unfold D16 at *; omega
  have hc3 : 0 ≤ ((x2 + y2 + c2) / 65536) ∧ ((x2 + y2 + c2) / 65536) ≤ 1 := by unfold D16 at *; omega
  have e2 : (x2 + y2 + c2) = 65536 * ((x2 + y2 + c2) / 65536) + (x2 + y2 + c2) % 65536 := by omega
  generalize (x2 + y2 + c2) % 65536 = r2 at *
  generalize ((x2 + y2 + c2) / 65536) = c3 at *
  have s3 := add_l0_step (k + 10) [r0, r1, r2, x3, x4, x5, x6, x7] [y0, y1, y2, y3, y4, y5, y6, y7] c3 3 rfl rfl (by omega) hc3 hx3 hy3
  replace s3 : overfallref01_Add.l0 (k + 11) [r0, r1, r2, x3, x4, x5, x6, x7] [y0, y1, y2, y3, y4, y5, y6, y7] c3 3 = overfallref01_Add.l0 (k + 10) [r0, r1, r2, (x3 + y3 + c3) % 65536, x4, x5, x6, x7] [y0, y1, y2, y3, y4, y5, y6, y7] ((x3 + y3 + c3) / 65536) 4 := s3
  rw [s3]; clear s3
  have hr3 : D16 ((x3 + y3 + c3) % 65536) := by unfold D16 at *; omega
  have hc4 : 0 ≤ ((x3 + y3 + c3) / 65536) ∧ ((x3 + y3 + c3) / 65536) ≤ 1 := by unfold D16 at *; omega
  have e3 : (x3 + y3 + c3) = 65536 * ((x3 + y3 + c3) / 65536) + (x3 + y3 + c3) % 65536 := by omega
  generalize (x3 + y3 + c3) % 65536 = r3 at *
  generalize ((x3 + y3 + c3) / 65536) = c4 at *
  have s4 := add_l0_step (k + 9) [r0, r1, r2, r3, x4, x5, x6, x7] [y0, y1, y2, y3, y4, y5, y6, y7] c4 4 rfl rfl (by omega) hc4 hx4 hy4
  replace s4 : overfallref01_Add.l0 (k + 10) [r0, r1, r2, r3, x4, x5, x6, x7] [y0, y1, y2, y3, y4, y5, y6, y7] c4 4 = overfallref01_Add.l0 (k + 9) [r0, r1, r2, r3, (x4 + y4 + c4) % 65536, x5, x6, x7] [y0, y1, y2, y3, y4, y5, y6, y7] ((x4 + y4 + c4) / 65536) 5 := s4
  rw [s4]; clear s4
  have hr4 : D16 ((x4 + y4 + c4) % 65536) := by unfold D16 at *; omega
  have hc5 : 0 ≤ ((x4 + y4 + c4) / 65536) ∧ ((x4 + y4 + c4) / 65536) ≤ 1 := by unfold D16 at *; omega
  have e4 : (x4 + y4 + c4) = 65536 * ((x4 + y4 + c4) / 65536) + (x4 + y4 + c4) % 65536 := by omega
  generalize (x4 + y4 + c4) % 65536 = r4 at *
  generalize ((x4 + y4 + c4) / 65536) = c5 at *
  have s5 := add_l0_step (k + 8) [r0, r1, r2, r3, r4, x5, x6, x7] [y0, y1, y2, y3, y4, y5, y6, y7] c5 5 rfl rfl (by omega) hc5 hx5 hy5
  replace s5 : overfallref01_Add.l0 (k + 9) [r0, r1, r2, r3, r4, x5, x6, x7] [y0, y1, y2, y3, y4, y5, y6, y7] c5 5 = overfallref01_Add.l0 (k + 8) [r0, r1, r2, r3, r4, (x5 + y5 + c5) % 65536, x6, x7] [y0, y1, y2, y3, y4, y5, y6, y7] ((x5 + y5 + c5) / 65536) 6 := s5
  rw [s5]; clear s5
  have hr5 : D16 ((x5 + y5 + c5) % 65536) := by unfold D16 at *; omega
  have hc6 : 0 ≤ ((x5 + y5 + c5) / 65536) ∧ ((x5 + y5 + c5) / 65536) ≤ 1 := by unfold D16 at *; omega
  have e5 : (x5 + y5 + c5) = 65536 * ((x5 + y5 + c5) / 65536) + (x5 + y5 + c5) % 65536 := by omega
  generalize (x5 + y5 + c5) % 65536 = r5 at *
  generalize ((x5 + y5 + c5) / 65536) = c6 at *
  have s6 := add_l0_step (k + 7) [r0, r1, r2, r3, r4, r5, x6, x7] [y0, y1, y2, y3, y4, y5, y6, y7] c6 6 rfl rfl (by omega) hc6 hx6 hy6
  replace s6 : overfallref01_Add.l0 (k + 8) [r0, r1, r2, r3, r4, r5, x6, x7] [y0, y1, y2, y3, y4, y5, y6, y7] c6 6 = overfallref01_Add.l0 (k + 7) [r0, r1, r2, r3, r4, r5, (x6 + y6 + c6) % 65536, x7] [y0, y1, y2, y3, y4, y5, y6, y7] ((x6 + y6 + c6) / 65536) 7 := s6
  rw [s6]; clear s6
  have hr6 : D16 ((x6 + y6 + c6) % 65536) := by unfold D16 at *; omega
  have hc7 : 0 ≤ ((x6 + y6 + c6) / 65536) ∧ ((x6 + y6 + c6) / 65536) ≤ 1 := by unfold D16 at *; omega
  have e6 : (x6 + y6 + c6) = 65536 * ((x6 + y6 + c6) / 65536) + (x6 + y6 + c6) % 65536 := by omega
  generalize (x6 + y6 + c6) % 65536 = r6 at *
  generalize ((x6 + y6 + c6) / 65536) = c7 at *
  have s7 := add_l0_step (k + 6) [r0, r1, r2, r3, r4, r5, r6, x7] [y0, y1, y2, y3, y4, y5, y6, y7] c7 7 rfl rfl (by omega) hc7 hx7 hy7
  replace s7 : overfallref01_Add.l0 (k + 7) [r0, r1, r2, r3, r4, r5, r6, x7] [y0, y1, y2, y3, y4, y5, y6, y7] c7 7 = overfallref01_Add.l0 (k + 6) [r0, r1, r2, r3, r4, r5, r6, (x7 + y7 + c7) % 65536] [y0, y1, y2, y3, y4, y5, y6, y7] ((x7 + y7 + c7) / 65536) 8 := s7
  rw [s7]; clear s7
  have hr7 : D16 ((x7 + y7 + c7) % 65536) := by unfold D16 at *; omega
  have hc8 : 0 ≤ ((x7 + y7 + c7) / 65536) ∧ ((x7 + y7 + c7) / 65536) ≤ 1 := by unfold D16 at *; omega
  have e7 : (x7 + y7 + c7) = 65536 * ((x7 + y7 + c7) / 65536) + (x7 + y7 + c7) % 65536 := by omega
  generalize (x7 + y7 + c7) % 65536 = r7 at *
  generalize ((x7 + y7 + c7) / 65536) = c8 at *
  simp only [overfallref01_Add.l0]
  rw [if_neg (by omega), value_eq k r0 r1 r2 r3 r4 r5 r6 r7 hr0 hr1 hr2 hr3 hr4 hr5 hr6 hr7]
  simp only [Option.bind_some, Option.some.injEq, Prod.mk.injEq]
  unfold D16 at *
  have q : (1 * x0 + 65536 * x1 + 4294967296 * x2 + 281474976710656 * x3 + (1 * y0 + 65536 * y1 + 4294967296 * y2 + 281474976710656 * y3)) = 18446744073709551616 * c4 + (1 * r0 + 65536 * r1 + 4294967296 * r2 + 281474976710656 * r3) := by omega
  have q2 : (1 * x4 + 65536 * x5 + 4294967296 * x6 + 281474976710656 * x7 + (1 * y4 + 65536 * y5 + 4294967296 * y6 + 281474976710656 * y7) + c4) = 18446744073709551616 * c8 + (1 * r4 + 65536 * r5 + 4294967296 * r6 + 281474976710656 * r7) := by omega
  have q3 : (1 * x0 + 65536 * x1 + 4294967296 * x2 + 281474976710656 * x3 + (1 * y0 + 65536 * y1 + 4294967296 * y2 + 281474976710656 * y3)) / 18446744073709551616 = c4 := by omega
  rw [q3, q2, q]
  refine ⟨by omega, by omega, ?_⟩
  rw [decide_eq_decide]; omega

theorem add_eq (k : Nat) (h1 l1 h2 l2 : Int) (a : U64 h1) (b : U64 l1) (c : U64 h2) (d : U64 l2) :
    overfallref01_Add.f (k + 20) h1 l1 h2 l2 = some ((h1 + h2 + (l1 + l2) / 18446744073709551616) % 18446744073709551616, (l1 + l2) % 18446744073709551616, decide (h1 + h2 + (l1 + l2) / 18446744073709551616 ≥ 18446744073709551616)) := by
  unfold overfallref01_Add.f
  rw [digits_eq (k + 10) h1 l1 a b, digits_eq (k + 10) h2 l2 c d]
  simp only [Option.bind_some]
  unfold U64 at *
  have sp : ∀ x : Int, 0 ≤ x ∧ x ≤ 18446744073709551615 → 1 * (x % 65536) + 65536 * (x / 65536 % 65536) + 4294967296 * (x / 4294967296 % 65536) + 281474976710656 * (x / 281474976710656 % 65536) = x := by intro x hx; omega
  rw [add_run (k + 6) _ _ _ _ _ _ _ _ _ _ _ _ _ _ _ _ (by unfold D16; omega) (by unfold D16; omega) (by unfold D16; omega) (by unfold D16; omega) (by unfold D16; omega) (by unfold D16; omega) (by unfold D16; omega) (by unfold D16; omega) (by unfold D16; omega) (by unfold D16; omega) (by unfold D16; omega) (by unfold D16; omega) (by unfold D16; omega) (by unfold D16; omega) (by unfold D16; omega) (by unfold D16; omega)]
  rw [sp h1 a, sp l1 b, sp h2 c, sp l2 d]

theorem sub_run (k : Nat) (x0 x1 x2 x3 x4 x5 x6 x7 y0 y1 y2 y3 y4 y5 y6 y7 : Int) (hx0 : D16 x0) (hx1 : D16 x1) (hx2 : D16 x2) (hx3 : D16 x3) (hx4 : D16 x4) (hx5 : D16 x5) (hx6 : D16 x6) (hx7 : D16 x7) (hy0 : D16 y0) (hy1 : D16 y1) (hy2 : D16 y2) (hy3 : D16 y3) (hy4 : D16 y4) (hy5 : D16 y5) (hy6 : D16 y6) (hy7 : D16 y7) :
    overfallref01_Sub.l0 (k + 14) [x0, x1, x2, x3, x4, x5, x6, x7] [y0, y1, y2, y3, y4, y5, y6, y7] 0 0 = some ((1 * x4 + 65536 * x5 + 4294967296 * x6 + 281474976710656 * x7 - (1 * y4 + 65536 * y5 + 4294967296 * y6 + 281474976710656 * y7) + (1 * x0 + 65536 * x1 + 4294967296 * x2 + 281474976710656 * x3 - (1 * y0 + 65536 * y1 + 4294967296 * y2 + 281474976710656 * y3)) / 18446744073709551616) % 18446744073709551616, (1 * x0 + 65536 * x1 + 4294967296 * x2 + 281474976710656 * x3 - (1 * y0 + 65536 * y1 + 4294967296 * y2 + 281474976710656 * y3)) % 18446744073709551616, decide (1 * x4 + 65536 * x5 + 4294967296 * x6 + 281474976710656 * x7 - (1 * y4 + 65536 * y5 + 4294967296 * y6 + 281474976710656 * y7) + (1 * x0 + 65536 * x1 + 4294967296 * x2 + 281474976710656 * x3 - (1 * y0 + 65536 * y1 + 4294967296 * y2 + 281474976710656 * y3)) / 18446744073709551616 < 0)) := by
  have s0 := sub_l0_step (k + 13) [x0, x1, x2, x3, x4, x5, x6, x7] [y0, y1, y2, y3, y4, y5, y6, y7] 0 0 rfl rfl (by omega) (by omega) hx0 hy0
  replace s0 : overfallref01_Sub.l0 (k + 14) [x0, x1, x2, x3, x4, x5, x6, x7] [y0, y1, y2, y3, y4, y5, y6, y7] 0 0 = overfallref01_Sub.l0 (k + 13) [(x0 - y0 - 0) % 65536, x1, x2, x3, x4, x5, x6, x7] [y0, y1, y2, y3, y4, y5, y6, y7] (-((x0 - y0 - 0) / 65536)) 1 := s0
  rw [s0]; clear s0
  have hr0 : D16 ((x0 - y0 - 0) % 65536) := by unfold D16 at *; omega
  have hc1 : 0 ≤ (-((x0 - y0 - 0) / 65536)) ∧ (-((x0 - y0 - 0) / 65536)) ≤ 1 := by unfold D16 at *; omega
  have e0 : (x0 - y0 - 0) = -65536 * (-((x0 - y0 - 0) / 65536)) + (x0 - y0 - 0) % 65536 := by omega
  generalize (x0 - y0 - 0) % 65536 = r0 at *
  generalize (-((x0 - y0 - 0) / 65536)) = c1 at *
  have s1 := sub_l0_step (k + 12) [r0, x1, x2, x3, x4, x5, x6, x7] [y0, y1, y2, y3, y4, y5, y6, y7] c1 1 rfl rfl (by omega) hc1 hx1 hy1
  replace s1 : overfallref01_Sub.l0 (k + 13) [r0, x1, x2, x3, x4, x5, x6, x7] [y0, y1, y2, y3, y4, y5, y6, y7] c1 1 = overfallref01_Sub.l0 (k + 12) [r0, (x1 - y1 - c1) % 65536, x2, x3, x4, x5, x6, x7] [y0, y1, y2, y3, y4, y5, y6, y7] (-((x1 - y1 - c1) / 65536)) 2 := s1
  rw [s1]; clear s1
  have hr1 : D16 ((x1 - y1 - c1) % 65536) := by unfold D16 at *; omega
  have hc2 : 0 ≤ (-((x1 - y1 - c1) / 65536)) ∧ (-((x1 - y1 - c1) / 65536)) ≤ 1 := by unfold D16 at *; omega
  have e1 : (x1 - y1 - c1) = -65536 * (-((x1 - y1 - c1) / 65536)) + (x1 - y1 - c1) % 65536 := by omega
  generalize (x1 - y1 - c1) % 65536 = r1 at *
  generalize (-((x1 - y1 - c1) / 65536)) = c2 at *
  have s2 := sub_l0_step (k + 11) [r0, r1, x2, x3, x4, x5, x6, x7] [y0, y1, y2, y3, y4, y5, y6, y7] c2 2 rfl rfl (by omega) hc2 hx2 hy2
  replace s2 : overfallref01_Sub.l0 (k + 12) [r0, r1, x2, x3, x4, x5, x6, x7] [y0, y1, y2, y3, y4, y5, y6, y7] c2 2 = overfallref01_Sub.l0 (k + 11) [r0, r1, (x2 - y2 - c2) % 65536, x3, x4, x5, x6, x7] [y0, y1, y2, y3, y4, y5, y6, y7] (-((x2 - y2 - c2) / 65536)) 3 := s2
  rw [s2]; clear s2
  have hr2 : D16 ((x2 - y2 - c2) % 65536) := by unfold D16 at *; omega
  have hc3 : 0 ≤ (-((x2 - y2 - c2) / 65536)) ∧ (-((x2 - y2 - c2) / 65536)) ≤ 1 := by unfold D16 at *; omega
  have e2 : (x2 - y2 - c2) = -65536 * (-((x2 - y2 - c2) / 65536)) + (x2 - y2 - c2) % 65536 := by omega
  generalize (x2 - y2 - c2) % 65536 = r2 at *
  generalize (-((x2 - y2 - c2) / 65536)) = c3 at *
  have s3 := sub_l0_step (k + 10) [r0, r1, r2, x3, x4, x5, x6, x7] [y0, y1, y2, y3, y4, y5, y6, y7] c3 3 rfl rfl (by omega) hc3 hx3 hy3
  replace s3 : overfallref01_Sub.l0 (k + 11) [r0, r1, r2, x3, x4, x5, x6, x7] [y0, y1, y2, y3, y4, y5, y6, y7] c3 3 = overfallref01_Sub.l0 (k + 10) [r0, r1, r2, (x3 - y3 - c3) % 65536, x4, x5, x6, x7] [y0, y1, y2, y3, y4, y5, y6, y7] (-((x3 - y3 - c3) / 65536)) 4 := s3
  rw [s3]; clear s3
  have hr3 : D16 ((x3 - y3 - c3) % 65536) := by unfold D16 at *; omega
  have hc4 : 0 ≤ (-((x3 - y3 - c3) / 65536)) ∧ (-((x3 - y3 - c3) / 65536)) ≤ 1 := by unfold D16 at *; omega
  have e3 : (x3 - y3 - c3) = -65536 * (-((x3 - y3 - c3) / 65536)) + (x3 - y3 - c3) % 65536 := by omega
  generalize (x3 - y3 - c3) % 65536 = r3 at *
  generalize (-((x3 - y3 - c3) / 65536)) = c4 at *
  have s4 := sub_l0_step (k + 9) [r0, r1, r2, r3, x4, x5, x6, x7] [y0, y1, y2, y3, y4, y5, y6, y7] c4 4 rfl rfl (by omega) hc4 hx4 hy4
  replace s4 : overfallref01_Sub.l0 (k + 10) [r0, r1, r2, r3, x4, x5, x6, x7] [y0, y1, y2, y3, y4, y5, y6, y7] c4 4 = overfallref01_Sub.l0 (k + 9) [r0, r1, r2, r3, (x4 - y4 - c4) % 65536, x5, x6, x7] [y0, y1, y2, y3, y4, y5, y6, y7] (-((x4 - y4 - c4) / 65536)) 5 := s4
  rw [s4]; clear s4
  have hr4 : D16 ((x4 - y4 - c4) % 65536) := by unfold D16 at *; omega
  have hc5 : 0 ≤ (-((x4 - y4 - c4) / 65536)) ∧ (-((x4 - y4 - c4) / 65536)) ≤ 1 := by unfold D16 at *; omega
  have e4 : (x4 - y4 - c4) = -65536 * (-((x4 - y4 - c4) / 65536)) + (x4 - y4 - c4) % 65536 := by omega
  generalize (x4 - y4 - c4) % 65536 = r4 at *
  generalize (-((x4 - y4 - c4) / 65536)) = c5 at *
  have s5 := sub_l0_step (k + 8) [r0, r1, r2, r3, r4, x5, x6, x7] [y0, y1, y2, y3, y4, y5, y6, y7] c5 5 rfl rfl (by omega) hc5 hx5 hy5
  replace s5 : overfallref01_Sub.l0 (k + 9) [r0, r1, r2, r3, r4, x5, x6, x7] [y0, y1, y2, y3, y4, y5, y6, y7] c5 5 = overfallref01_Sub.l0 (k + 8) [r0, r1, r2, r3, r4, (x5 - y5 - c5) % 65536, x6, x7] [y0, y1, y2, y3, y4, y5, y6, y7] (-((x5 - y5 - c5) / 65536)) 6 := s5
  rw [s5]; clear s5
  have hr5 : D16 ((x5 - y5 - c5) % 65536) := by unfold D16 at *; omega
  have hc6 : 0 ≤ (-((x5 - y5 - c5) / 65536)) ∧ (-((x5 - y5 - c5) / 65536)) ≤ 1 := by unfold D16 at *; omega
  have e5 : (x5 - y5 - c5) = -65536 * (-((x5 - y5 - c5) / 65536)) + (x5 - y5 - c5) % 65536 := by omega
  generalize (x5 - y5 - c5) % 65536 = r5 at *
  generalize (-((x5 - y5 - c5) / 65536)) = c6 at *
  have s6 := sub_l0_step (k + 7) [r0, r1, r2, r3, r4, r5, x6, x7] [y0, y1, y2, y3, y4, y5, y6, y7] c6 6 rfl rfl (by omega) hc6 hx6 hy6
  replace s6 : overfallref01_Sub.l0 (k + 8) [r0, r1, r2, r3, r4, r5, x6, x7] [y0, y1, y2, y3, y4, y5, y6, y7] c6 6 = overfallref01_Sub.l0 (k + 7) [r0, r1, r2, r3, r4, r5, (x6 - y6 - c6) % 65536, x7] [y0, y1, y2, y3, y4, y5, y6, y7] (-((x6 - y6 - c6) / 65536)) 7 := s6
  rw [s6]; clear s6
  have hr6 : D16 ((x6 - y6 - c6) % 65536) := by unfold D16 at *; omega
  have hc7 : 0 ≤ (-((x6 - y6 - c6) / 65536)) ∧ (-((x6 - y6 - c6) / 65536)) ≤ 1 := by unfold D16 at *; omega
  have e6 : (x6 - y6 - c6) = -65536 * (-((x6 - y6 - c6) / 65536)) + (x6 - y6 - c6) % 65536 := by omega
  generalize (x6 - y6 - c6) % 65536 = r6 at *
  generalize (-((x6 - y6 - c6) / 65536)) = c7 at *
  have s7 := sub_l0_step (k + 6) [r0, r1, r2, r3, r4, r5, r6, x7] [y0, y1, y2, y3, y4, y5, y6, y7] c7 7 rfl rfl (by omega) hc7 hx7 hy7
  replace s7 : overfallref01_Sub.l0 (k + 7) [r0, r1, r2, r3, r4, r5, r6, x7] [y0, y1, y2, y3, y4, y5, y6, y7] c7 7 = overfallref01_Sub.l0 (k + 6) [r0, r1, r2, r3, r4, r5, r6, (x7 - y7 - c7) % 65536] [y0, y1, y2, y3, y4, y5, y6, y7] (-((x7 - y7 - c7) / 65536)) 8 := s7
  rw [s7]; clear s7
  have hr7 : D16 ((x7 - y7 - c7) % 65536) := by unfold D16 at *; omega
  have hc8 : 0 ≤ (-((x7 - y7 - c7) / 65536)) ∧ (-((x7 - y7 - c7) / 65536)) ≤ 1 := by unfold D16 at *; omega
  have e7 : (x7 - y7 - c7) = -65536 * (-((x7 - y7 - c7) / 65536)) + (x7 - y7 - c7) % 65536 := by omega
  generalize (x7 - y7 - c7) % 65536 = r7 at *
  generalize (-((x7 - y7 - c7) / 65536)) = c8 at *
  simp only [overfallref01_Sub.l0]
  rw [if_neg (by omega), value_eq k r0 r1 r2 r3 r4 r5 r6 r7 hr0 hr1 hr2 hr3 hr4 hr5 hr6 hr7]
  simp only [Option.bind_some, Option.some.injEq, Prod.mk.injEq]
  unfold D16 at *
  have q : (1 * x0 + 65536 * x1 + 4294967296 * x2 + 281474976710656 * x3 - (1 * y0 + 65536 * y1 + 4294967296 * y2 + 281474976710656 * y3)) = -18446744073709551616 * c4 + (1 * r0 + 65536 * r1 + 4294967296 * r2 + 281474976710656 * r3) := by omega
  have q2 : (1 * x4 + 65536 * x5 + 4294967296 * x6 + 281474976710656 * x7 - (1 * y4 + 65536 * y5 + 4294967296 * y6 + 281474976710656 * y7) + -c4) = -18446744073709551616 * c8 + (1 * r4 + 65536 * r5 + 4294967296 * r6 + 281474976710656 * r7) := by omega
  have q3 : (1 * x0 + 65536 * x1 + 4294967296 * x2 + 281474976710656 * x3 - (1 * y0 + 65536 * y1 + 4294967296 * y2 + 281474976710656 * y3)) / 18446744073709551616 = -c4 := by omega
  rw [q3, q2, q]
  refine ⟨by omega, by omega, ?_⟩
  rw [decide_eq_decide]; omega

theorem sub_eq (k : Nat) (h1 l1 h2 l2 : Int) (a : U64 h1) (b : U64 l1) (c : U64 h2) (d : U64 l2) :
    overfallref01_Sub.f (k + 20) h1 l1 h2 l2 = some ((h1 - h2 + (l1 - l2) / 18446744073709551616) % 18446744073709551616, (l1 - l2) % 18446744073709551616, decide (h1 - h2 + (l1 - l2) / 18446744073709551616 < 0)) := by
  unfold overfallref01_Sub.f
  rw [digits_eq (k + 10) h1 l1 a b, digits_eq (k + 10) h2 l2 c d]
  simp only [Option.bind_some]
  unfold U64 at *
  have sp : ∀ x : Int, 0 ≤ x ∧ x ≤ 18446744073709551615 → 1 * (x % 65536) + 65536 * (x / 65536 % 65536) + 4294967296 * (x / 4294967296 % 65536) + 281474976710656 * (x / 281474976710656 % 65536) = x := by intro x hx; omega
  rw [sub_run (k + 6) _ _ _ _ _ _ _ _ _ _ _ _ _ _ _ _ (by unfold D16; omega) (by unfold D16; omega) (by unfold D16; omega) (by unfold D16; omega) (by unfold D16; omega) (by unfold D16; omega) (by unfold D16; omega) (by unfold D16; omega) (by unfold D16; omega) (by unfold D16; omega) (by unfold D16; omega) (by unfold D16; omega) (by unfold D16; omega) (by unfold D16; omega) (by unfold D16; omega) (by unfold D16; omega)]
  rw [sp h1 a, sp l1 b, sp h2 c, sp l2 d]

theorem ref2_Size_pos {a : Int} (h : I64 a) (h0 : 0 ≤ a) : overfallref02_Size.f a = some (0, a, false) := by
  unfold I64 at h
  unfold overfallref02_Size.f
  rw [if_pos h0, wrap_u64, Int.emod_eq_of_lt h0 (by omega)]

theorem ref2_Size_neg {a : Int} (h : I64 a) (h0 : a < 0) : overfallref02_Size.f a = some (0, -a, true) := by
  unfold I64 at h
  unfold overfallref02_Size.f
  rw [if_neg (by omega)]
  simp only [wrap_u64]
  have : wrap64 (-wrap64 (a + 1)) = - (a + 1) := by unfold wrap64; omega
  rw [this, show (-(a + 1) % 18446744073709551616 + 1) % 18446744073709551616 = -a from by omega]

theorem ref2_Back_eq (k : Nat) {hi lo : Int} (s : Bool) (h1 : U64 hi) (h2 : U64 lo) : overfallref02_Back.f (k + 1) hi lo s = some (sat (if s = true then -(hi * 18446744073709551616 + lo) else hi * 18446744073709551616 + lo)) := by
  unfold U64 at *
  unfold overfallref02_Back.f overfallref02_Back.j0 sat
  cases s <;> by_cases h0 : hi > 0 <;> by_cases h3 : lo ≥ 9223372036854775808 <;> simp [h0, h3] <;> (repeat' split) <;> (first | omega | (simp [wrap64]; omega) | (simp; done))

theorem ref2_Less_eq (h1 l1 h2 l2 : Int) : overfallref01_Less.f h1 l1 h2 l2 = some (decide (h1 < h2 ∨ h1 = h2 ∧ l1 < l2)) := by
  unfold overfallref01_Less.f
  by_cases a : h1 < h2
  · simp [a]
  · by_cases b : h1 = h2 <;> simp [a, b]

theorem ref2_Add_eq (k : Nat) {a b : Int} (ha : I64 a) (hb : I64 b) : overfallref02_Add.f (k + 20) a b = some (sat (a + b)) := by
  have u0 : U64 0 := by unfold U64; omega
  have um : ∀ x : Int, U64 (x % 18446744073709551616) := by intro x; unfold U64; omega
  have up : ∀ x : Int, I64 x → 0 ≤ x → U64 x := by intro x hx h; unfold I64 at hx; unfold U64; omega
  have un : ∀ x : Int, I64 x → x < 0 → U64 (-x) := by intro x hx h; unfold I64 at hx; unfold U64; omega
  unfold overfallref02_Add.f
  by_cases h1 : a < 0 <;> by_cases h2 : b < 0
  · rw [ref2_Size_neg ha h1, ref2_Size_neg hb h2]
    simp only [Option.bind_some, beq_self_eq_true, if_true]
    rw [add_eq k _ _ _ _ u0 (un a ha h1) u0 (un b hb h2)]
    simp only [Option.bind_some]
    rw [ref2_Back_eq (k + 19) _ (um _) (um _)]
    simp only [Option.bind_some, if_true, Option.some.injEq]
    congr 1; unfold I64 at *; omega
  · rw [ref2_Size_neg ha h1, ref2_Size_pos hb (by omega)]
    have : (true == false) = false := rfl
    simp only [Option.bind_some, this, Bool.false_eq_true, if_false]
    rw [ref2_Less_eq]
    simp only [Option.bind_some]
    by_cases h : (0:Int) < 0 ∨ (0:Int) = 0 ∧ -a < b
    · rw [if_pos (by simpa using h), sub_eq k _ _ _ _ u0 (up b hb (by omega)) u0 (un a ha h1)]
      simp only [Option.bind_some]
      rw [ref2_Back_eq (k + 19) _ (um _) (um _)]
      simp only [Option.bind_some, Bool.false_eq_true, if_false, Option.some.injEq]
      congr 1; unfold I64 at *; omega
    · rw [if_neg (by simpa using h), sub_eq k _ _ _ _ u0 (un a ha h1) u0 (up b hb (by omega))]
      simp only [Option.bind_some]
      rw [ref2_Back_eq (k + 19) _ (um _) (um _)]
      simp only [Option.bind_some, if_true, Option.some.injEq]
      congr 1; unfold I64 at *; omega
  · rw [ref2_Size_pos ha (by omega), ref2_Size_neg hb h2]
    have : (false == true) = false := rfl
    simp only [Option.bind_some, this, Bool.false_eq_true, if_false]
    rw [ref2_Less_eq]
    simp only [Option.bind_some]
    by_cases h : (0:Int) < 0 ∨ (0:Int) = 0 ∧ a < -b
    · rw [if_pos (by simpa using h), sub_eq k _ _ _ _ u0 (un b hb h2) u0 (up a ha (by omega))]
      simp only [Option.bind_some]
      rw [ref2_Back_eq (k + 19) _ (um _) (um _)]
      simp only [Option.bind_some, if_true, Option.some.injEq]
      congr 1; unfold I64 at *; omega
    · rw [if_neg (by simpa using h), sub_eq k _ _ _ _ u0 (up a ha (by omega)) u0 (un b hb h2)]
      simp only [Option.bind_some]
      rw [ref2_Back_eq (k + 19) _ (um _) (um _)]
      simp only [Option.bind_some, Bool.false_eq_true, if_false, Option.some.injEq]
      congr 1; unfold I64 at *; omega
  · rw [ref2_Size_pos ha (by omega), ref2_Size_pos hb (by omega)]
    simp only [Option.bind_some, beq_self_eq_true, if_true]
    rw [add_eq k _ _ _ _ u0 (up a ha (by omega)) u0 (up b hb (by omega))]
    simp only [Option.bind_some]
    rw [ref2_Back_eq (k + 19) _ (um _) (um _)]
    simp only [Option.bind_some, Bool.false_eq_true, if_false, Option.some.injEq]
    congr 1; unfold I64 at *; omega

theorem ref2_Sub_eq (k : Nat) {a b : Int} (ha : I64 a) (hb : I64 b) : overfallref02_Sub.f (k + 20) a b = some (sat (a - b)) := by
  unfold overfallref02_Sub.f
  by_cases h : b = -9223372036854775808
  · rw [if_pos h]
    unfold I64 at *
    unfold sat
    split
    · simp; (repeat' split) <;> omega
    · simp [wrap64]; (repeat' split) <;> omega
  · rw [if_neg h]
    have e : wrap64 (-b) = -b := by unfold I64 at hb; unfold wrap64; omega
    rw [e, ref2_Add_eq k ha (by unfold I64 at *; omega)]
    simp only [Option.bind_some]
    rfl
theorem fix_Sub_eq {a b : Int} (ha : I64 a) (hb : I64 b) : fix_Sub.f a b = some (sat (a - b)) := by
  unfold fix_Sub.f fix_end.f sat wrap64 I64 at *
  by_cases h1 : a < 0 <;> by_cases h2 : b < 0 <;> simp [h1, h2] <;> (repeat' split) <;> (first | omega | (simp; done) | (simp; omega))

end Go.Proofs.Ytgackgdoikfmdaa.PModeTurns
