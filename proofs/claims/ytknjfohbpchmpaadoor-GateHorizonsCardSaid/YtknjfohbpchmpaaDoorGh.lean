/- GateHorizons, walked. -/
import Derived.Test.YtknjfohbpchmpaaDoorGe
import Derived.Test.YtknjfohbpchmpaaDoorQl
import Derived.Test.YtknjfohbpchmpaaDoorRf
set_option linter.unusedVariables false
set_option linter.unusedSimpArgs false
namespace Go.Proofs.YtknjfohbpchmpaaDoor.Gt
open Go.RowKit Go.Proofs.YtknjfohbpchmpaaDoorW.PrintWords Go.Proofs.YtknjfohbpchmpaaDoorW.PrintLast Go.Proofs.YtknjfohbpchmpaaDoorW.PrintMore Go.Proofs.YtknjfohbpchmpaaDoorHk
open Go.Proofs.YtknjfohbpchmpaaDoor.PGateJudges
theorem add_most {h now : Int} : dlR h now 9223372036854775807 = addR now h := by unfold dlR addR; split <;> split <;> (try split) <;> omega
theorem dl_twice {h now d : Int} : dlR h now (dlR h now d) = dlR h now d := by unfold dlR; split <;> (try split) <;> omega
set_option maxHeartbeats 3200000 in
set_option maxRecDepth 100000 in
theorem horizons_row (a0 a1 a2 a3 : Int) (w : World) (w0 : (Lit.int .i64 a0).wf = true) (w1 : (Lit.int .i64 a1).wf = true) (w2 : (Lit.int .i64 a2).wf = true) (w3 : (Lit.int .i64 a3).wf = true) (ht : Tab w) :
    Calls Tryd.prog 6 #[.int .i64 a0, .int .i64 a1, .int .i64 a2, .int .i64 a3] w fun e w' => e = .returned (.bool true) ∧ Below w.heap.size w w' := by
  have H0 := Aside0.mk (i64_of w0)
  have H1 := Aside0.mk (i64_of w1)
  have HT := Aside0.mk ht
  clear w0 w1 w2 w3 ht
  go_enter Tryd.func6, Tryd.ntmps6
  go_wp2_with fail
  with_reducible refine (awake_walk w HT.out).mono ?_
  rintro e w1 ⟨rfl, hb⟩
  have HB := Aside0.mk hb
  clear hb
  go_wp2_with fail
  with_reducible refine (few_walk 0 a0 (by omega) _).mono ?_
  rintro e w2 ⟨rfl, hb⟩
  have HB2 := Aside0.mk (HB.out.trans (hb.mono HB.out.size))
  clear hb HB
  have HB := HB2
  clear HB2
  unfold cfgC
  obtain ⟨T, hT⟩ : ∃ T : Int, T = 1 + 0 % 8 := ⟨_, rfl⟩
  have hT1 : 1 ≤ T := by omega
  have hT8 : T ≤ 8 := by omega
  rw [← hT]
  have HT0 := Aside0.mk hT
  clear hT
  go_upto_region 4 with fail
  have B1 := Aside0.mk (hk_new w2 (.cells #[.int .i64 T, .int .i64 64, .int .i64 5, .int .i64 100, .int .i64 50, .int .i64 10, .int .i64 20, .int .i64 a0, .int .i64 2147483648, .int .i64 4294967296, .int .i64 1073741824, .int .i64 0, .int .i64 1099511627776, .int .i64 64, .int .i64 4, .int .i64 4] 25))
  have HB0 := Aside0.mk (HB.out.alloc HB.out.size (.cells #[.int .i64 T, .int .i64 64, .int .i64 5, .int .i64 100, .int .i64 50, .int .i64 10, .int .i64 20, .int .i64 a0, .int .i64 2147483648, .int .i64 4294967296, .int .i64 1073741824, .int .i64 0, .int .i64 1099511627776, .int .i64 64, .int .i64 4, .int .i64 4] 25))
  clear HB
  have HB := HB0
  clear HB0
  generalize w2.alloc (.cells #[.int .i64 T, .int .i64 64, .int .i64 5, .int .i64 100, .int .i64 50, .int .i64 10, .int .i64 20, .int .i64 a0, .int .i64 2147483648, .int .i64 4294967296, .int .i64 1073741824, .int .i64 0, .int .i64 1099511627776, .int .i64 64, .int .i64 4, .int .i64 4] 25) = W at B1 HB ⊢
  generalize w2.heap.size = g1 at B1 ⊢
  have c0 : W.cell? ⟨g1, 0, none⟩ = some (.int .i64 T) := by rw [hk_cell B1.out]; rfl
  have c1 : W.cell? ⟨g1, 1, none⟩ = some (.int .i64 64) := by rw [hk_cell B1.out]; rfl
  have c2 : W.cell? ⟨g1, 2, none⟩ = some (.int .i64 5) := by rw [hk_cell B1.out]; rfl
  have c3 : W.cell? ⟨g1, 3, none⟩ = some (.int .i64 100) := by rw [hk_cell B1.out]; rfl
  have c4 : W.cell? ⟨g1, 4, none⟩ = some (.int .i64 50) := by rw [hk_cell B1.out]; rfl
  have c5 : W.cell? ⟨g1, 5, none⟩ = some (.int .i64 10) := by rw [hk_cell B1.out]; rfl
  have c6 : W.cell? ⟨g1, 6, none⟩ = some (.int .i64 20) := by rw [hk_cell B1.out]; rfl
  have c7 : W.cell? ⟨g1, 7, none⟩ = some (.int .i64 a0) := by rw [hk_cell B1.out]; rfl
  have c8 : W.cell? ⟨g1, 8, none⟩ = some (.int .i64 2147483648) := by rw [hk_cell B1.out]; rfl
  have c9 : W.cell? ⟨g1, 9, none⟩ = some (.int .i64 4294967296) := by rw [hk_cell B1.out]; rfl
  have c10 : W.cell? ⟨g1, 10, none⟩ = some (.int .i64 1073741824) := by rw [hk_cell B1.out]; rfl
  have c11 : W.cell? ⟨g1, 11, none⟩ = some (.int .i64 0) := by rw [hk_cell B1.out]; rfl
  have c12 : W.cell? ⟨g1, 12, none⟩ = some (.int .i64 1099511627776) := by rw [hk_cell B1.out]; rfl
  have c13 : W.cell? ⟨g1, 13, none⟩ = some (.int .i64 64) := by rw [hk_cell B1.out]; rfl
  have c14 : W.cell? ⟨g1, 14, none⟩ = some (.int .i64 4) := by rw [hk_cell B1.out]; rfl
  have c15 : W.cell? ⟨g1, 15, none⟩ = some (.int .i64 4) := by rw [hk_cell B1.out]; rfl
  clear c0 c1 c2 c3 c4 c5 c6 c7 c8 c9 c10 c11 c12 c13 c14 c15
  go_upto_if 19 with fail
  go_cut [2, 3] (fun v1 v2 wx => ∃ a b : Int, v1 = .int .i64 a ∧ v2 = .int .i64 b ∧ Aside0 (a ≤ b) ∧ wx = W)
  case first =>
    by_cases hs : a2 > a3
    · go_wp2_with fail
      go_meet
      exact ⟨a3, a2, rfl, rfl, ⟨by omega⟩, rfl⟩
    · go_wp2_with fail
      go_meet
      exact ⟨a2, a3, rfl, rfl, ⟨by omega⟩, rfl⟩
  case rest =>
    obtain ⟨a, b, rfl, rfl, HAB, rfl⟩ := hcut
    have HD : Aside0 (∀ (d r : Int) (W : World), dlR a0 a1 d = r → Calls Tryd.prog 17 #[.agg #[.int .i64 T, .int .i64 64, .int .i64 5, .int .i64 100, .int .i64 50, .int .i64 10, .int .i64 20, .int .i64 a0, .int .i64 2147483648, .int .i64 4294967296, .int .i64 1073741824, .int .i64 0, .int .i64 1099511627776, .int .i64 64, .int .i64 4, .int .i64 4], .int .i64 a1, .int .i64 d] W fun e w' => e = .returned (.int .i64 r) ∧ Below W.heap.size W w') := ⟨fun d r W hr => gate_Deadline.calls T 64 5 100 50 10 20 a0 2147483648 4294967296 1073741824 0 1099511627776 64 4 4 a1 d r W (by rw [gatedl T a0 a1 d H0.out H1.out, hr])⟩
    obtain ⟨x, hx⟩ : ∃ x, dlR a0 a1 a = x := ⟨_, rfl⟩
    obtain ⟨y, hy⟩ : ∃ x, dlR a0 a1 b = x := ⟨_, rfl⟩
    obtain ⟨F, hF⟩ : ∃ x, addR a1 a0 = x := ⟨_, rfl⟩
    have HXY : Aside0 (x ≤ y) := ⟨by have := HAB.out; rw [← hx, ← hy]; unfold dlR; split <;> split <;> omega⟩
    have HX2 : Aside0 (dlR a0 a1 x = x) := ⟨by rw [← hx]; exact dl_twice⟩
    have HXF : Aside0 ((a > F ∧ x = F) ∨ (¬ a > F ∧ x = a)) := ⟨by rw [← hx, ← hF]; unfold dlR; split <;> omega⟩
    have HX := Aside0.mk hx
    have HY := Aside0.mk hy
    have HR : Aside0 (∀ W : World, Calls Tryd.prog 18 #[.int .i64 a0, .int .i64 a1, .int .i64 9223372036854775807] W fun e w' => e = .returned (.int .i64 F) ∧ Below W.heap.size W w') := ⟨fun W => overfallref14_Deadline.calls 20 a0 a1 9223372036854775807 F W (by rw [show (20 : Nat) = 0 + 20 from rfl, refdl 0 a0 a1 _ H0.out H1.out, add_most, hF])⟩
    clear hx hy hF
    go_upto_region 6 with fail
    refine Go.Proofs.YtknjfohbpchmpaaDoorRx.region_laterL (by kernel_rfl) (by kernel_rfl) (by kernel_rfl) ?_
    repeat (first
      | (refine Go.Proofs.YtknjfohbpchmpaaDoorQl.wpQuiet_load_row rfl 25 (.tmp 9) rfl g1 rfl 25 _ _ _ (Go.Proofs.YtknjfohbpchmpaaDoorQl.lw_heap B1.out) Tryd.underlying25 rfl (by kernel_rfl) ?_; simp only [Act.put, List.setIfInBounds_toArray, List.set_cons_succ, List.set_cons_zero])
      | go_big_quiet_step (first | (go_at_call 17; first | with_reducible exact later_call (HD.out _ _ _ HX.out) | with_reducible exact later_call (HD.out _ _ _ HY.out))))
    refine wpQuiet_nil ?_
    rintro w5 ⟨⟨_, hb4⟩, rfl⟩
    have B3 := Aside0.mk (hk_below hb4 (hk_lt B1.out) B1.out)
    have HB3 := Aside0.mk (HB.out.trans (hb4.mono HB.out.size))
    clear hb4 B1 HB
    go_wp2_with fail
    with_reducible refine (HR.out _).mono ?_
    rintro e w6 ⟨rfl, hb6⟩
    have B6 := Aside0.mk (hk_below hb6 (hk_lt B3.out) B3.out)
    have HB6 := Aside0.mk (HB3.out.trans (hb6.mono HB3.out.size))
    clear hb6 B3 HB3 HR
    have hxy := HXY.out
    rcases HXF.out with ⟨h1, h2⟩ | ⟨h1, h2⟩
    · subst h2
      clear HXF
      have k1 : (x == a) = false := by simp; omega
      have hxa : x ≤ a := by omega
      by_cases h3 : x ≤ a1
      · by_cases h4 : a ≤ a1
        · clear h1
          go_wp2_with (first | (refine Go.Proofs.YtknjfohbpchmpaaDoorQl.wpList_load_w (by rfl) 25 (.tmp 9) rfl g1 rfl 25 _ _ _ B6.out Tryd.underlying25 rfl (by kernel_rfl) ?_; simp only [Act.put, List.setIfInBounds_toArray, List.set_cons_succ, List.set_cons_zero]) | (go_at_call 17; with_reducible refine (HD.out _ _ _ HX2.out).mono ?_; rintro e w7 ⟨rfl, hb7⟩; have HB7 := Aside0.mk (HB6.out.trans (hb7.mono HB6.out.size)); clear hb7))
          go_ret
          exact ⟨by first | rfl | (simp [h3, h4]; done) | (simp [h3]; done) | (simp; omega), HB7.out⟩
        · clear h1
          go_wp2_with (first | (refine Go.Proofs.YtknjfohbpchmpaaDoorQl.wpList_load_w (by rfl) 25 (.tmp 9) rfl g1 rfl 25 _ _ _ B6.out Tryd.underlying25 rfl (by kernel_rfl) ?_; simp only [Act.put, List.setIfInBounds_toArray, List.set_cons_succ, List.set_cons_zero]) | (go_at_call 17; with_reducible refine (HD.out _ _ _ HX2.out).mono ?_; rintro e w7 ⟨rfl, hb7⟩; have HB7 := Aside0.mk (HB6.out.trans (hb7.mono HB6.out.size)); clear hb7))
          go_ret
          exact ⟨by first | rfl | (simp [h3, h4]; done) | (simp [h3]; done) | (simp; omega), HB7.out⟩
      · have h4 : ¬ a ≤ a1 := by omega
        clear h1
        go_wp2_with (first | (refine Go.Proofs.YtknjfohbpchmpaaDoorQl.wpList_load_w (by rfl) 25 (.tmp 9) rfl g1 rfl 25 _ _ _ B6.out Tryd.underlying25 rfl (by kernel_rfl) ?_; simp only [Act.put, List.setIfInBounds_toArray, List.set_cons_succ, List.set_cons_zero]) | (go_at_call 17; with_reducible refine (HD.out _ _ _ HX2.out).mono ?_; rintro e w7 ⟨rfl, hb7⟩; have HB7 := Aside0.mk (HB6.out.trans (hb7.mono HB6.out.size)); clear hb7))
        go_ret
        exact ⟨by first | rfl | (simp [h3, h4]; done) | (simp [h3]; done) | (simp; omega), HB7.out⟩
    · subst h2
      clear HXF
      have hxF : x ≤ F := by omega
      by_cases h3 : x ≤ a1
      · clear h1
        go_wp2_with (first | (refine Go.Proofs.YtknjfohbpchmpaaDoorQl.wpList_load_w (by rfl) 25 (.tmp 9) rfl g1 rfl 25 _ _ _ B6.out Tryd.underlying25 rfl (by kernel_rfl) ?_; simp only [Act.put, List.setIfInBounds_toArray, List.set_cons_succ, List.set_cons_zero]) | (go_at_call 17; with_reducible refine (HD.out _ _ _ HX2.out).mono ?_; rintro e w7 ⟨rfl, hb7⟩; have HB7 := Aside0.mk (HB6.out.trans (hb7.mono HB6.out.size)); clear hb7))
        go_ret
        exact ⟨by first | rfl | (simp [h3, h4]; done) | (simp [h3]; done) | (simp; omega), HB7.out⟩
      · have h4 : ¬ F ≤ a1 := by omega
        clear h1
        go_wp2_with (first | (refine Go.Proofs.YtknjfohbpchmpaaDoorQl.wpList_load_w (by rfl) 25 (.tmp 9) rfl g1 rfl 25 _ _ _ B6.out Tryd.underlying25 rfl (by kernel_rfl) ?_; simp only [Act.put, List.setIfInBounds_toArray, List.set_cons_succ, List.set_cons_zero]) | (go_at_call 17; with_reducible refine (HD.out _ _ _ HX2.out).mono ?_; rintro e w7 ⟨rfl, hb7⟩; have HB7 := Aside0.mk (HB6.out.trans (hb7.mono HB6.out.size)); clear hb7))
        go_ret
        exact ⟨by first | rfl | (simp [h3, h4]; done) | (simp [h3]; done) | (simp; omega), HB7.out⟩
end Go.Proofs.YtknjfohbpchmpaaDoor.Gt
