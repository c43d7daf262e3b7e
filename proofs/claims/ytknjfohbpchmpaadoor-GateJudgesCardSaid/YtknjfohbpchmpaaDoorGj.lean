/- GateJudges, walked. -/
import Derived.Test.YtknjfohbpchmpaaDoorGe
import Derived.Test.YtknjfohbpchmpaaDoorQl
import Derived.Test.YtknjfohbpchmpaaDoorRf
set_option linter.unusedVariables false
set_option linter.unusedSimpArgs false
namespace Go.Proofs.YtknjfohbpchmpaaDoor.Gt
open Go.RowKit Go.Proofs.YtknjfohbpchmpaaDoorW.PrintWords Go.Proofs.YtknjfohbpchmpaaDoorW.PrintLast Go.Proofs.YtknjfohbpchmpaaDoorW.PrintMore Go.Proofs.YtknjfohbpchmpaaDoorHk
open Go.Proofs.YtknjfohbpchmpaaDoor.PGateJudges
theorem right_eq (t h tier cohort : Int) : gate_Right.f t 64 5 100 50 10 20 h 2147483648 4294967296 1073741824 0 1099511627776 64 4 4 tier cohort = some (rightOf t tier cohort) := by
  unfold gate_Right.f rightOf
  by_cases h1 : tier ≥ 0
  · by_cases h2 : tier < t
    · by_cases h3 : cohort ≥ 0
      · rw [if_pos h1, if_pos h2, if_pos h3, decide_eq_true (show 0 ≤ tier from h1), decide_eq_true h2, decide_eq_true (show 0 ≤ cohort from h3)]; rfl
      · rw [if_pos h1, if_pos h2, if_neg h3, decide_eq_false (show ¬ 0 ≤ cohort from h3)]; simp
    · rw [if_pos h1, if_neg h2, decide_eq_false h2]; simp
  · rw [if_neg h1, decide_eq_false (show ¬ 0 ≤ tier from h1)]; simp
theorem rright_eq (t tier cohort : Int) : overfallref14_Right.f t tier cohort = some (rightOf t tier cohort) := by
  unfold overfallref14_Right.f rightOf
  by_cases h1 : tier ≥ 0
  · by_cases h2 : tier < t
    · by_cases h3 : cohort ≥ 0
      · rw [if_pos h1, if_pos h2, if_pos h3, decide_eq_true (show 0 ≤ tier from h1), decide_eq_true h2, decide_eq_true (show 0 ≤ cohort from h3)]
        simp; omega
      · rw [if_pos h1, if_pos h2, if_neg h3, decide_eq_false (show ¬ 0 ≤ cohort from h3)]; simp
    · rw [if_pos h1, if_neg h2, decide_eq_false h2]; simp
  · rw [if_neg h1, decide_eq_false (show ¬ 0 ≤ tier from h1)]; simp
set_option maxHeartbeats 3200000 in
set_option maxRecDepth 100000 in
theorem judge_wrong (t h level now tier cohort dl : Int) (hr : rightOf t tier cohort = false) (w : World) :
    Calls Tryd.prog 11 #[.agg #[.int .i64 t, .int .i64 64, .int .i64 5, .int .i64 100, .int .i64 50, .int .i64 10, .int .i64 20, .int .i64 h, .int .i64 2147483648, .int .i64 4294967296, .int .i64 1073741824, .int .i64 0, .int .i64 1099511627776, .int .i64 64, .int .i64 4, .int .i64 4], .int .i64 level, .int .i64 now, .int .i64 tier, .int .i64 cohort, .int .i64 dl] w fun e w' => e = .returned (.int .u8 2) ∧ Below w.heap.size w w' := by
  have HR : Aside0 (gate_Right.f t 64 5 100 50 10 20 h 2147483648 4294967296 1073741824 0 1099511627776 64 4 4 tier cohort = some false) := ⟨by rw [right_eq, hr]⟩
  clear hr
  go_enter Tryd.func11, Tryd.ntmps11
  go_upto_region 1 with fail
  have B6 := Aside0.mk (hk_new w (.cells #[.int .i64 t, .int .i64 64, .int .i64 5, .int .i64 100, .int .i64 50, .int .i64 10, .int .i64 20, .int .i64 h, .int .i64 2147483648, .int .i64 4294967296, .int .i64 1073741824, .int .i64 0, .int .i64 1099511627776, .int .i64 64, .int .i64 4, .int .i64 4] 25))
  have HB := Aside0.mk ((Below.refl w.heap.size w).alloc (Nat.le_refl _) (.cells #[.int .i64 t, .int .i64 64, .int .i64 5, .int .i64 100, .int .i64 50, .int .i64 10, .int .i64 20, .int .i64 h, .int .i64 2147483648, .int .i64 4294967296, .int .i64 1073741824, .int .i64 0, .int .i64 1099511627776, .int .i64 64, .int .i64 4, .int .i64 4] 25))
  generalize w.alloc (.cells #[.int .i64 t, .int .i64 64, .int .i64 5, .int .i64 100, .int .i64 50, .int .i64 10, .int .i64 20, .int .i64 h, .int .i64 2147483648, .int .i64 4294967296, .int .i64 1073741824, .int .i64 0, .int .i64 1099511627776, .int .i64 64, .int .i64 4, .int .i64 4] 25) = W at B6 HB ⊢
  obtain ⟨g6, hg6⟩ : ∃ g, g = w.heap.size := ⟨_, rfl⟩
  have HG := Aside0.mk hg6
  rw [← hg6] at B6 ⊢
  clear hg6
  go_wp2_with (first | (refine Go.Proofs.YtknjfohbpchmpaaDoorQl.wpList_load_w (by rfl) 25 (.tmp 6) rfl g6 rfl 25 _ _ _ B6.out Tryd.underlying25 rfl (by kernel_rfl) ?_; simp only [Act.put, List.setIfInBounds_toArray, List.set_cons_succ, List.set_cons_zero]))
  with_reducible refine (gate_Right.calls t 64 5 100 50 10 20 h 2147483648 4294967296 1073741824 0 1099511627776 64 4 4 tier cohort false _ HR.out).mono ?_
  rintro e w1 ⟨rfl, hb⟩
  have HB1 := Aside0.mk (HB.out.trans (hb.mono HB.out.size))
  clear hb B6 HB
  go_wp2_with fail
  go_ret
  exact ⟨rfl, HB1.out⟩
theorem judge_all (t h level now tier cohort dl : Int) (ht : 0 ≤ t ∧ t ≤ 8) (hl : I64 level) (w : World) :
    Calls Tryd.prog 11 #[.agg #[.int .i64 t, .int .i64 64, .int .i64 5, .int .i64 100, .int .i64 50, .int .i64 10, .int .i64 20, .int .i64 h, .int .i64 2147483648, .int .i64 4294967296, .int .i64 1073741824, .int .i64 0, .int .i64 1099511627776, .int .i64 64, .int .i64 4, .int .i64 4], .int .i64 level, .int .i64 now, .int .i64 tier, .int .i64 cohort, .int .i64 dl] w fun e w' => e = .returned (.int .u8 (judgeR t level now tier cohort dl)) ∧ Below w.heap.size w w' := by
  cases hr : rightOf t tier cohort with
  | true => exact judge_walk t h level now tier cohort dl ht hl (by unfold rightOf at hr; simp at hr; omega) w
  | false =>
    have e : judgeR t level now tier cohort dl = 2 := by unfold judgeR; rw [if_neg (by rw [hr]; exact Bool.false_ne_true)]
    rw [e]; exact judge_wrong t h level now tier cohort dl hr w
theorem edge_eq (t h level : Int) (ht : 0 ≤ t ∧ t ≤ 8) (hl : I64 level) : gate_Edge.f t 64 5 100 50 10 20 h 2147483648 4294967296 1073741824 0 1099511627776 64 4 4 level = some (edgeOf t level) := by
  unfold gate_Edge.f conf_Config_Most.f
  simp only [Option.bind_some]
  rw [sub_edge t level ht hl]; rfl
set_option maxHeartbeats 3200000 in
set_option maxRecDepth 100000 in
theorem judges_row (a0 a1 a2 a3 a4 a5 a6 : Int) (w : World) (w0 : (Lit.int .u8 a0).wf = true) (w1 : (Lit.int .i64 a1).wf = true) (w2 : (Lit.int .i64 a2).wf = true) (w3 : (Lit.int .i64 a3).wf = true) (w4 : (Lit.int .i64 a4).wf = true) (w5 : (Lit.int .i64 a5).wf = true) (w6 : (Lit.int .i64 a6).wf = true) (ht : Tab w) :
    Calls Tryd.prog 5 #[.int .u8 a0, .int .i64 a1, .int .i64 a2, .int .i64 a3, .int .i64 a4, .int .i64 a5, .int .i64 a6] w fun e w' => e = .returned (.bool true) ∧ Below w.heap.size w w' := by
  have h0 := u8_of w0
  have H1 := Aside0.mk (i64_of w1)
  have H2 := Aside0.mk (i64_of w2)
  have H3 := Aside0.mk (i64_of w3)
  have H4 := Aside0.mk (i64_of w4)
  have H5 := Aside0.mk (i64_of w5)
  have H6 := Aside0.mk (i64_of w6)
  have HT := Aside0.mk ht
  clear w0 w1 w2 w3 w4 w5 w6 ht
  go_enter Tryd.func5, Tryd.ntmps5
  go_wp2_with fail
  with_reducible refine (awake_walk w HT.out).mono ?_
  rintro e w1 ⟨rfl, hb⟩
  have HB := Aside0.mk hb
  clear hb
  go_wp2_with fail
  with_reducible refine (few_walk a0 a6 h0 _).mono ?_
  rintro e w2 ⟨rfl, hb⟩
  have HB2 := Aside0.mk (HB.out.trans (hb.mono HB.out.size))
  clear hb HB
  have HB := HB2
  clear HB2
  unfold cfgC
  obtain ⟨T, hT⟩ : ∃ T : Int, T = 1 + a0 % 8 := ⟨_, rfl⟩
  have hT1 : 1 ≤ T := by omega
  have hT8 : T ≤ 8 := by omega
  rw [← hT]
  have HT0 := Aside0.mk hT
  clear hT
  go_upto_region 4 with fail
  have B1 := Aside0.mk (hk_new w2 (.cells #[.int .i64 T, .int .i64 64, .int .i64 5, .int .i64 100, .int .i64 50, .int .i64 10, .int .i64 20, .int .i64 a6, .int .i64 2147483648, .int .i64 4294967296, .int .i64 1073741824, .int .i64 0, .int .i64 1099511627776, .int .i64 64, .int .i64 4, .int .i64 4] 25))
  have HB0 := Aside0.mk (HB.out.alloc HB.out.size (.cells #[.int .i64 T, .int .i64 64, .int .i64 5, .int .i64 100, .int .i64 50, .int .i64 10, .int .i64 20, .int .i64 a6, .int .i64 2147483648, .int .i64 4294967296, .int .i64 1073741824, .int .i64 0, .int .i64 1099511627776, .int .i64 64, .int .i64 4, .int .i64 4] 25))
  clear HB
  have HB := HB0
  clear HB0
  generalize w2.alloc (.cells #[.int .i64 T, .int .i64 64, .int .i64 5, .int .i64 100, .int .i64 50, .int .i64 10, .int .i64 20, .int .i64 a6, .int .i64 2147483648, .int .i64 4294967296, .int .i64 1073741824, .int .i64 0, .int .i64 1099511627776, .int .i64 64, .int .i64 4, .int .i64 4] 25) = W at B1 HB ⊢
  generalize w2.heap.size = g1 at B1 ⊢
  have c0 : W.cell? ⟨g1, 0, none⟩ = some (.int .i64 T) := by rw [hk_cell B1.out]; rfl
  have c1 : W.cell? ⟨g1, 1, none⟩ = some (.int .i64 64) := by rw [hk_cell B1.out]; rfl
  have c2 : W.cell? ⟨g1, 2, none⟩ = some (.int .i64 5) := by rw [hk_cell B1.out]; rfl
  have c3 : W.cell? ⟨g1, 3, none⟩ = some (.int .i64 100) := by rw [hk_cell B1.out]; rfl
  have c4 : W.cell? ⟨g1, 4, none⟩ = some (.int .i64 50) := by rw [hk_cell B1.out]; rfl
  have c5 : W.cell? ⟨g1, 5, none⟩ = some (.int .i64 10) := by rw [hk_cell B1.out]; rfl
  have c6 : W.cell? ⟨g1, 6, none⟩ = some (.int .i64 20) := by rw [hk_cell B1.out]; rfl
  have c7 : W.cell? ⟨g1, 7, none⟩ = some (.int .i64 a6) := by rw [hk_cell B1.out]; rfl
  have c8 : W.cell? ⟨g1, 8, none⟩ = some (.int .i64 2147483648) := by rw [hk_cell B1.out]; rfl
  have c9 : W.cell? ⟨g1, 9, none⟩ = some (.int .i64 4294967296) := by rw [hk_cell B1.out]; rfl
  have c10 : W.cell? ⟨g1, 10, none⟩ = some (.int .i64 1073741824) := by rw [hk_cell B1.out]; rfl
  have c11 : W.cell? ⟨g1, 11, none⟩ = some (.int .i64 0) := by rw [hk_cell B1.out]; rfl
  have c12 : W.cell? ⟨g1, 12, none⟩ = some (.int .i64 1099511627776) := by rw [hk_cell B1.out]; rfl
  have c13 : W.cell? ⟨g1, 13, none⟩ = some (.int .i64 64) := by rw [hk_cell B1.out]; rfl
  have c14 : W.cell? ⟨g1, 14, none⟩ = some (.int .i64 4) := by rw [hk_cell B1.out]; rfl
  have c15 : W.cell? ⟨g1, 15, none⟩ = some (.int .i64 4) := by rw [hk_cell B1.out]; rfl
  have HC := Aside0.mk c0
  clear c0 c1 c2 c3 c4 c5 c6 c7 c8 c9 c10 c11 c12 c13 c14 c15
  clear h0
  obtain ⟨R, hR⟩ : ∃ R, rightOf T a3 a4 = R := ⟨_, rfl⟩
  obtain ⟨E, hE⟩ : ∃ E, edgeOf T a1 = E := ⟨_, rfl⟩
  obtain ⟨D, hD⟩ : ∃ D, dlR a6 a2 a5 = D := ⟨_, rfl⟩
  obtain ⟨J, hJ⟩ : ∃ J, judgeR T a1 a2 a3 a4 a5 = J := ⟨_, rfl⟩
  have hJb : 0 ≤ J ∧ J ≤ 255 := by rw [← hJ]; unfold judgeR; split <;> (try split) <;> (try split) <;> omega
  have K13 : Aside0 (∀ W : World, Calls Tryd.prog 13 #[.agg #[.int .i64 T, .int .i64 64, .int .i64 5, .int .i64 100, .int .i64 50, .int .i64 10, .int .i64 20, .int .i64 a6, .int .i64 2147483648, .int .i64 4294967296, .int .i64 1073741824, .int .i64 0, .int .i64 1099511627776, .int .i64 64, .int .i64 4, .int .i64 4], .int .i64 a3, .int .i64 a4] W fun e w' => e = .returned (.bool R) ∧ Below W.heap.size W w') := ⟨fun W => gate_Right.calls T 64 5 100 50 10 20 a6 2147483648 4294967296 1073741824 0 1099511627776 64 4 4 a3 a4 R W (by rw [right_eq, hR])⟩
  have K14 : Aside0 (∀ W : World, Calls Tryd.prog 14 #[.int .i64 T, .int .i64 a3, .int .i64 a4] W fun e w' => e = .returned (.bool R) ∧ Below W.heap.size W w') := ⟨fun W => (overfallref14_Right.calls T a3 a4 R W (by rw [rright_eq, hR])).mono fun e w' hp => ⟨hp.1, hp.2.below⟩⟩
  have K15 : Aside0 (∀ W : World, Calls Tryd.prog 15 #[.agg #[.int .i64 T, .int .i64 64, .int .i64 5, .int .i64 100, .int .i64 50, .int .i64 10, .int .i64 20, .int .i64 a6, .int .i64 2147483648, .int .i64 4294967296, .int .i64 1073741824, .int .i64 0, .int .i64 1099511627776, .int .i64 64, .int .i64 4, .int .i64 4], .int .i64 a1] W fun e w' => e = .returned (.int .i64 E) ∧ Below W.heap.size W w') := ⟨fun W => gate_Edge.calls T 64 5 100 50 10 20 a6 2147483648 4294967296 1073741824 0 1099511627776 64 4 4 a1 E W (by rw [edge_eq T a6 a1 (by omega) H1.out, hE])⟩
  have K16 : Aside0 (∀ W : World, Calls Tryd.prog 16 #[.int .i64 T, .int .i64 a1] W fun e w' => e = .returned (.int .i64 E) ∧ Below W.heap.size W w') := ⟨fun W => overfallref14_Edge.calls (0 + 20) T a1 E W (by rw [refedge 0 T a1 (by omega) H1.out, hE])⟩
  have K17 : Aside0 (∀ W : World, Calls Tryd.prog 17 #[.agg #[.int .i64 T, .int .i64 64, .int .i64 5, .int .i64 100, .int .i64 50, .int .i64 10, .int .i64 20, .int .i64 a6, .int .i64 2147483648, .int .i64 4294967296, .int .i64 1073741824, .int .i64 0, .int .i64 1099511627776, .int .i64 64, .int .i64 4, .int .i64 4], .int .i64 a2, .int .i64 a5] W fun e w' => e = .returned (.int .i64 D) ∧ Below W.heap.size W w') := ⟨fun W => gate_Deadline.calls T 64 5 100 50 10 20 a6 2147483648 4294967296 1073741824 0 1099511627776 64 4 4 a2 a5 D W (by rw [gatedl T a6 a2 a5 H6.out H2.out, hD])⟩
  have K18 : Aside0 (∀ W : World, Calls Tryd.prog 18 #[.int .i64 a6, .int .i64 a2, .int .i64 a5] W fun e w' => e = .returned (.int .i64 D) ∧ Below W.heap.size W w') := ⟨fun W => overfallref14_Deadline.calls (0 + 20) a6 a2 a5 D W (by rw [refdl 0 a6 a2 a5 H6.out H2.out, hD])⟩
  have K11 : Aside0 (∀ W : World, Calls Tryd.prog 11 #[.agg #[.int .i64 T, .int .i64 64, .int .i64 5, .int .i64 100, .int .i64 50, .int .i64 10, .int .i64 20, .int .i64 a6, .int .i64 2147483648, .int .i64 4294967296, .int .i64 1073741824, .int .i64 0, .int .i64 1099511627776, .int .i64 64, .int .i64 4, .int .i64 4], .int .i64 (a1), .int .i64 a2, .int .i64 a3, .int .i64 a4, .int .i64 a5] W fun e w' => e = .returned (.int .u8 J) ∧ Below W.heap.size W w') := ⟨fun W => by rw [← hJ]; exact judge_all T a6 a1 a2 a3 a4 a5 (by omega) H1.out W⟩
  have K19 : Aside0 (∀ W : World, Calls Tryd.prog 19 #[.int .i64 T, .int .i64 a1, .int .i64 a2, .int .i64 a3, .int .i64 a4, .int .i64 a5] W fun e w' => e = .returned (.int .i64 J) ∧ Below W.heap.size W w') := ⟨fun W => overfallref14_Judge.calls (0 + 20) T a1 a2 a3 a4 a5 J W (by rw [refjudge 0 T a1 a2 a3 a4 a5 (by omega) H1.out H3.out H4.out, hJ])⟩
  have K10 : Aside0 (∀ (W : World), Calls Tryd.prog 10 #[.int .i64 a3, .int .i64 a4] W fun e w' => e = .returned (.int .i64 (wrap64 ((wrap64 (a3 * 128)) + a4))) ∧ Below W.heap.size W w') := ⟨fun W => (gate_Key.calls a3 a4 _ W rfl).mono fun e w' hp => ⟨hp.1, hp.2.below⟩⟩
  have K20 : Aside0 (∀ (W : World), Calls Tryd.prog 20 #[.int .i64 a3, .int .i64 a4] W fun e w' => e = .returned (.int .i64 (wrap64 ((wrap64 (a3 * 128)) + a4))) ∧ Below W.heap.size W w') := ⟨fun W => (overfallref14_Key.calls a3 a4 _ W (by unfold overfallref14_Key.f; rw [Int.mul_comm 128 a3])).mono fun e w' hp => ⟨hp.1, hp.2.below⟩⟩
  clear hR hE hD hJ
  obtain ⟨Ky, hKy⟩ : ∃ K, wrap64 ((wrap64 (a3 * 128)) + a4) = K := ⟨_, rfl⟩
  rw [hKy] at K10 K20
  clear hKy
  go_wp2_with (first | (refine Go.Proofs.YtknjfohbpchmpaaDoorQl.wpList_load_w (by rfl) 25 (.tmp 15) rfl g1 rfl 25 _ _ _ B1.out Tryd.underlying25 rfl (by kernel_rfl) ?_; simp only [Act.put, List.setIfInBounds_toArray, List.set_cons_succ, List.set_cons_zero]))
  with_reducible refine (K13.out _).mono ?_
  rintro e w5 ⟨rfl, hb5⟩
  have B5 := Aside0.mk (hk_below hb5 (hk_lt B1.out) B1.out)
  have HB5 := Aside0.mk (HB.out.trans (hb5.mono HB.out.size))
  have c5 := hk_cell B5.out 0
  clear hb5 B1 HB K13 HC
  have hgl : g1 < w5.heap.size := hk_lt B5.out
  have d0 := fun u : LW w5 => (lw_cell u g1 0 hgl).trans (show w5.cell? ⟨g1, 0, none⟩ = some (.int .i64 T) by rw [c5]; rfl)
  clear c5
  cases R with
  | true =>
    go_upto_region 5 with fail
    refine Go.Proofs.YtknjfohbpchmpaaDoorRx.region_laterL (by kernel_rfl) (by kernel_rfl) (by kernel_rfl) ?_
    repeat (first
      | go_big_quiet_skip
      | (refine Go.Proofs.YtknjfohbpchmpaaDoorQl.wpQuiet_load_w (by rfl) 25 (.tmp 15) rfl g1 rfl 25 _ _ _ (Go.Proofs.YtknjfohbpchmpaaDoorQl.lw_heap B5.out) Tryd.underlying25 rfl (by kernel_rfl) ?_; simp only [Act.put, List.setIfInBounds_toArray, List.set_cons_succ, List.set_cons_zero])
      | go_big_quiet_step (first | (go_at_call 14; exact later_call (K14.out _)) | (go_at_call 15; exact later_call (K15.out _)) | (go_at_call 16; exact later_call (K16.out _)) | (go_at_call 17; exact later_call (K17.out _)) | (go_at_call 18; exact later_call (K18.out _))))
    refine wpQuiet_nil ?_
    rintro w6 ⟨⟨_, hb6⟩, rfl⟩
    have B6 := Aside0.mk (hk_below hb6 (hk_lt B5.out) B5.out)
    have HB6 := Aside0.mk (HB5.out.trans (hb6.mono HB5.out.size))
    have c6 := hk_cell B6.out 0
    clear hb6 B5 HB5 K14 K15 K16 K17 K18 hgl d0
    have hgl : g1 < w6.heap.size := hk_lt B6.out
    have d0 := fun u : LW w6 => (lw_cell u g1 0 hgl).trans (show w6.cell? ⟨g1, 0, none⟩ = some (.int .i64 T) by rw [c6]; rfl)
    clear c6
    go_upto_region 7 with fail
    refine Go.Proofs.YtknjfohbpchmpaaDoorRx.region_laterL (by kernel_rfl) (by kernel_rfl) (by kernel_rfl) ?_
    repeat (first
      | go_big_quiet_skip
      | (refine Go.Proofs.YtknjfohbpchmpaaDoorQl.wpQuiet_load_w (by rfl) 25 (.tmp 15) rfl g1 rfl 25 _ _ _ (Go.Proofs.YtknjfohbpchmpaaDoorQl.lw_heap B6.out) Tryd.underlying25 rfl (by kernel_rfl) ?_; simp only [Act.put, List.setIfInBounds_toArray, List.set_cons_succ, List.set_cons_zero])
      | go_big_quiet_step (first | (go_at_call 11; exact later_call (K11.out _)) | (go_at_call 19; exact later_call (K19.out _)) | (go_at_call 10; exact later_call (K10.out _)) | (go_at_call 20; exact later_call (K20.out _))))
    refine wpQuiet_nil ?_
    rintro w7 ⟨⟨_, hb7⟩, rfl⟩
    have HB7 := Aside0.mk (HB6.out.trans (hb7.mono HB6.out.size))
    clear hb7 B6 HB6 K11 K19 K10 K20 hgl d0
    go_wp2
    go_ret
    exact ⟨by first | rfl | simp, HB7.out⟩
  | false =>
    go_upto_region 5 with fail
    refine Go.Proofs.YtknjfohbpchmpaaDoorRx.region_laterL (by kernel_rfl) (by kernel_rfl) (by kernel_rfl) ?_
    repeat (first
      | go_big_quiet_skip
      | (refine Go.Proofs.YtknjfohbpchmpaaDoorQl.wpQuiet_load_w (by rfl) 25 (.tmp 15) rfl g1 rfl 25 _ _ _ (Go.Proofs.YtknjfohbpchmpaaDoorQl.lw_heap B5.out) Tryd.underlying25 rfl (by kernel_rfl) ?_; simp only [Act.put, List.setIfInBounds_toArray, List.set_cons_succ, List.set_cons_zero])
      | go_big_quiet_step (first | (go_at_call 14; exact later_call (K14.out _)) | (go_at_call 15; exact later_call (K15.out _)) | (go_at_call 16; exact later_call (K16.out _)) | (go_at_call 17; exact later_call (K17.out _)) | (go_at_call 18; exact later_call (K18.out _))))
    refine wpQuiet_nil ?_
    rintro w6 ⟨⟨_, hb6⟩, rfl⟩
    have B6 := Aside0.mk (hk_below hb6 (hk_lt B5.out) B5.out)
    have HB6 := Aside0.mk (HB5.out.trans (hb6.mono HB5.out.size))
    have c6 := hk_cell B6.out 0
    clear hb6 B5 HB5 K14 K15 K16 K17 K18 hgl d0
    have hgl : g1 < w6.heap.size := hk_lt B6.out
    have d0 := fun u : LW w6 => (lw_cell u g1 0 hgl).trans (show w6.cell? ⟨g1, 0, none⟩ = some (.int .i64 T) by rw [c6]; rfl)
    clear c6
    go_upto_region 7 with fail
    refine Go.Proofs.YtknjfohbpchmpaaDoorRx.region_laterL (by kernel_rfl) (by kernel_rfl) (by kernel_rfl) ?_
    repeat (first
      | go_big_quiet_skip
      | (refine Go.Proofs.YtknjfohbpchmpaaDoorQl.wpQuiet_load_w (by rfl) 25 (.tmp 15) rfl g1 rfl 25 _ _ _ (Go.Proofs.YtknjfohbpchmpaaDoorQl.lw_heap B6.out) Tryd.underlying25 rfl (by kernel_rfl) ?_; simp only [Act.put, List.setIfInBounds_toArray, List.set_cons_succ, List.set_cons_zero])
      | go_big_quiet_step (first | (go_at_call 11; exact later_call (K11.out _)) | (go_at_call 19; exact later_call (K19.out _)) | (go_at_call 10; exact later_call (K10.out _)) | (go_at_call 20; exact later_call (K20.out _))))
    refine wpQuiet_nil ?_
    rintro w7 ⟨⟨_, hb7⟩, rfl⟩
    have HB7 := Aside0.mk (HB6.out.trans (hb7.mono HB6.out.size))
    clear hb7 B6 HB6 K11 K19 K10 K20 hgl d0
    go_wp2
    go_ret
    exact ⟨by first | rfl | simp, HB7.out⟩
end Go.Proofs.YtknjfohbpchmpaaDoor.Gt
