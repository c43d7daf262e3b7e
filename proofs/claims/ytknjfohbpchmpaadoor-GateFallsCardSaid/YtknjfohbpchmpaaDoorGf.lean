/- GateFalls, walked. -/
import Derived.Test.YtknjfohbpchmpaaDoorGe
import Derived.Test.YtknjfohbpchmpaaDoorQl
set_option linter.unusedVariables false
set_option linter.unusedSimpArgs false
namespace Go.Proofs.YtknjfohbpchmpaaDoor.Gt
open Go.RowKit Go.Proofs.YtknjfohbpchmpaaDoorW.PrintWords Go.Proofs.YtknjfohbpchmpaaDoorW.PrintLast Go.Proofs.YtknjfohbpchmpaaDoorW.PrintMore Go.Proofs.YtknjfohbpchmpaaDoorHk
open Go.Proofs.YtknjfohbpchmpaaDoor.PGateJudges
theorem falls_facts {T L l now A X B Y dl : Int} (ht : 1 ≤ T ∧ T ≤ 8) (hll : l ≤ L) (hA : 0 ≤ A ∧ A < T ∧ 0 ≤ X ∧ X < 128) (hB : 0 ≤ B ∧ B < T ∧ 0 ≤ Y ∧ Y < 128) (hk : A * 128 + X ≤ B * 128 + Y) (hq : judgeR T L now B Y dl = 0) :
    judgeR T L now A X dl = 0 ∧ judgeR T l now B Y dl = 0 := by
  rw [judge_in hB] at hq
  by_cases hd : dl ≤ now
  · rw [if_pos hd] at hq; omega
  · rw [if_neg hd] at hq
    have he : edgeOf T L ≤ edgeOf T l := by unfold edgeOf; split <;> split <;> omega
    by_cases h : B * 128 + Y ≥ edgeOf T L
    · rw [if_pos h] at hq; omega
    · exact ⟨by rw [judge_in hA, if_neg hd, if_neg (by omega)], by rw [judge_in hB, if_neg hd, if_neg (by omega)]⟩
theorem key_same (a x : Int) (h : 0 ≤ a ∧ a < 8 ∧ 0 ≤ x ∧ x < 128) (w : World) : Calls Tryd.prog 10 #[.int .i64 a, .int .i64 x] w fun e w' => e = .returned (.int .i64 (a * 128 + x)) ∧ w = w' := by
  go_enter Tryd.func10, Tryd.ntmps10
  go_wp2
  go_ret
  exact ⟨rfl, rfl⟩
set_option maxHeartbeats 3200000 in
set_option maxRecDepth 100000 in
theorem falls_row (a0 a1 a2 a3 a4 a5 a6 a7 a8 : Int) (w : World) (w0 : (Lit.int .u8 a0).wf = true) (w1 : (Lit.int .i64 a1).wf = true) (w2 : (Lit.int .i64 a2).wf = true) (w3 : (Lit.int .i64 a3).wf = true) (w4 : (Lit.int .u8 a4).wf = true) (w5 : (Lit.int .u8 a5).wf = true) (w6 : (Lit.int .u8 a6).wf = true) (w7 : (Lit.int .u8 a7).wf = true) (w8 : (Lit.int .i64 a8).wf = true) (ht : Tab w) :
    Calls Tryd.prog 3 #[.int .u8 a0, .int .i64 a1, .int .i64 a2, .int .i64 a3, .int .u8 a4, .int .u8 a5, .int .u8 a6, .int .u8 a7, .int .i64 a8] w fun e w' => e = .returned (.bool true) ∧ Below w.heap.size w w' := by
  have h0 := u8_of w0
  have h1 := i64_of w1
  have h2 := i64_of w2
  have h3 := i64_of w3
  have h4 := u8_of w4
  have h5 := u8_of w5
  have h6 := u8_of w6
  have h7 := u8_of w7
  have h8 := i64_of w8
  have HT := Aside0.mk ht
  clear w0 w1 w2 w3 w4 w5 w6 w7 w8 ht
  go_enter Tryd.func3, Tryd.ntmps3
  go_wp2_with fail
  with_reducible refine (awake_walk w HT.out).mono ?_
  rintro e w1 ⟨rfl, hb⟩
  have HB := Aside0.mk hb
  clear hb
  go_wp2_with fail
  with_reducible refine (few_walk a0 1000 h0 _).mono ?_
  rintro e w2 ⟨rfl, hb⟩
  have HB2 := Aside0.mk (HB.out.trans (hb.mono HB.out.size))
  clear hb HB
  have HB := HB2
  clear HB2
  unfold cfgC
  obtain ⟨T, hT⟩ : ∃ T : Int, T = 1 + a0 % 8 := ⟨_, rfl⟩
  have hT1 : 1 ≤ T := by omega
  have hT8 : T ≤ 8 := by omega
  rw [← hT]
  have HT0 := Aside0.mk hT
  clear hT
  go_upto_region 4 with fail
  have B1 := Aside0.mk (hk_new w2 (.cells #[.int .i64 T, .int .i64 64, .int .i64 5, .int .i64 100, .int .i64 50, .int .i64 10, .int .i64 20, .int .i64 1000, .int .i64 2147483648, .int .i64 4294967296, .int .i64 1073741824, .int .i64 0, .int .i64 1099511627776, .int .i64 64, .int .i64 4, .int .i64 4] 25))
  have HB0 := Aside0.mk (HB.out.alloc HB.out.size (.cells #[.int .i64 T, .int .i64 64, .int .i64 5, .int .i64 100, .int .i64 50, .int .i64 10, .int .i64 20, .int .i64 1000, .int .i64 2147483648, .int .i64 4294967296, .int .i64 1073741824, .int .i64 0, .int .i64 1099511627776, .int .i64 64, .int .i64 4, .int .i64 4] 25))
  clear HB
  have HB := HB0
  clear HB0
  generalize w2.alloc (.cells #[.int .i64 T, .int .i64 64, .int .i64 5, .int .i64 100, .int .i64 50, .int .i64 10, .int .i64 20, .int .i64 1000, .int .i64 2147483648, .int .i64 4294967296, .int .i64 1073741824, .int .i64 0, .int .i64 1099511627776, .int .i64 64, .int .i64 4, .int .i64 4] 25) = W at B1 HB ⊢
  generalize w2.heap.size = g1 at B1 ⊢
  have c0 : W.cell? ⟨g1, 0, none⟩ = some (.int .i64 T) := by rw [hk_cell B1.out]; rfl
  have c1 : W.cell? ⟨g1, 1, none⟩ = some (.int .i64 64) := by rw [hk_cell B1.out]; rfl
  have c2 : W.cell? ⟨g1, 2, none⟩ = some (.int .i64 5) := by rw [hk_cell B1.out]; rfl
  have c3 : W.cell? ⟨g1, 3, none⟩ = some (.int .i64 100) := by rw [hk_cell B1.out]; rfl
  have c4 : W.cell? ⟨g1, 4, none⟩ = some (.int .i64 50) := by rw [hk_cell B1.out]; rfl
  have c5 : W.cell? ⟨g1, 5, none⟩ = some (.int .i64 10) := by rw [hk_cell B1.out]; rfl
  have c6 : W.cell? ⟨g1, 6, none⟩ = some (.int .i64 20) := by rw [hk_cell B1.out]; rfl
  have c7 : W.cell? ⟨g1, 7, none⟩ = some (.int .i64 1000) := by rw [hk_cell B1.out]; rfl
  have c8 : W.cell? ⟨g1, 8, none⟩ = some (.int .i64 2147483648) := by rw [hk_cell B1.out]; rfl
  have c9 : W.cell? ⟨g1, 9, none⟩ = some (.int .i64 4294967296) := by rw [hk_cell B1.out]; rfl
  have c10 : W.cell? ⟨g1, 10, none⟩ = some (.int .i64 1073741824) := by rw [hk_cell B1.out]; rfl
  have c11 : W.cell? ⟨g1, 11, none⟩ = some (.int .i64 0) := by rw [hk_cell B1.out]; rfl
  have c12 : W.cell? ⟨g1, 12, none⟩ = some (.int .i64 1099511627776) := by rw [hk_cell B1.out]; rfl
  have c13 : W.cell? ⟨g1, 13, none⟩ = some (.int .i64 64) := by rw [hk_cell B1.out]; rfl
  have c14 : W.cell? ⟨g1, 14, none⟩ = some (.int .i64 4) := by rw [hk_cell B1.out]; rfl
  have c15 : W.cell? ⟨g1, 15, none⟩ = some (.int .i64 4) := by rw [hk_cell B1.out]; rfl
  have HC := Aside0.mk c0
  clear c0 c1 c2 c3 c4 c5 c6 c7 c8 c9 c10 c11 c12 c13 c14 c15
  go_upto_if 32 with fail
  go_cut [1, 2] (fun v1 v2 wx => ∃ L l : Int, v1 = .int .i64 L ∧ v2 = .int .i64 l ∧ Aside0 (l ≤ L ∧ I64 L ∧ I64 l) ∧ wx = W)
  case first =>
    by_cases hs : a2 > a1
    · go_wp2_with fail
      go_meet
      exact ⟨a2, a1, rfl, rfl, ⟨by omega, h2, h1⟩, rfl⟩
    · go_wp2_with fail
      go_meet
      exact ⟨a1, a2, rfl, rfl, ⟨by omega, h1, h2⟩, rfl⟩
  case rest =>
    obtain ⟨L, l, rfl, rfl, HL, rfl⟩ := hcut
    have c0 := HC.out
    have hr := fun W => @lw_cell W
    have hgl : g1 < wc.heap.size := hk_lt B1.out
    obtain ⟨A, hA⟩ : ∃ A : Int, A = a4 % T := ⟨_, rfl⟩
    have hA0 : 0 ≤ A := by rw [hA]; exact Int.emod_nonneg _ (by omega)
    have hA1 : A < T := by rw [hA]; exact Int.emod_lt_of_pos _ (by omega)
    obtain ⟨B, hB⟩ : ∃ B : Int, B = a6 % T := ⟨_, rfl⟩
    have hB0 : 0 ≤ B := by rw [hB]; exact Int.emod_nonneg _ (by omega)
    have hB1 : B < T := by rw [hB]; exact Int.emod_lt_of_pos _ (by omega)
    have hTne : T ≠ 0 := by omega
    have HA := Aside0.mk hA
    have HBB := Aside0.mk hB
    clear hA hB
    go_upto_region 6 with fail
    refine Go.Proofs.YtknjfohbpchmpaaDoorRx.region_laterL (by kernel_rfl) (by kernel_rfl) (by kernel_rfl) ?_
    repeat (go_big_quiet_step (fail))
    refine wpQuiet_nil ?_
    rintro w4 ⟨⟨_, hb4⟩, rfl⟩
    have B2 := Aside0.mk (hk_below hb4 (hk_lt B1.out) B1.out)
    have HB2 := Aside0.mk (HB.out.trans (hb4.mono HB.out.size))
    clear hb4 hr hgl c0 HC
    try rw [← HA.out]
    try rw [← HBB.out]
    obtain ⟨X, hX⟩ : ∃ X : Int, X = a5 % 128 := ⟨_, rfl⟩
    have hX0 : 0 ≤ X := by omega
    have hX1 : X < 128 := by omega
    obtain ⟨Y, hY⟩ : ∃ Y : Int, Y = a7 % 128 := ⟨_, rfl⟩
    have hY0 : 0 ≤ Y := by omega
    have hY1 : Y < 128 := by omega
    have HX := Aside0.mk hX
    have HY := Aside0.mk hY
    clear hX hY
    go_upto_region 8 with fail
    try rw [← HX.out]
    try rw [← HY.out]
    go_upto_if 57 with (go_at_call 10; with_reducible refine (key_same _ _ (by omega) _).mono ?_; rintro e w' ⟨rfl, rfl⟩)
    go_cut [20, 21, 22, 23] (fun v1 v2 v3 v4 wx => ∃ a b x y : Int, v1 = .int .i64 a ∧ v2 = .int .i64 b ∧ v3 = .int .i64 x ∧ v4 = .int .i64 y ∧ Aside0 ((0 ≤ a ∧ a < T ∧ 0 ≤ x ∧ x < 128) ∧ (0 ≤ b ∧ b < T ∧ 0 ≤ y ∧ y < 128) ∧ a * 128 + x ≤ b * 128 + y) ∧ wx = w4)
    case first =>
      by_cases hs : A * 128 + X > B * 128 + Y
      · go_wp2_with fail
        go_meet
        exact ⟨B, A, Y, X, rfl, rfl, rfl, rfl, ⟨by omega, by omega, by omega⟩, rfl⟩
      · go_wp2_with fail
        go_meet
        exact ⟨A, B, X, Y, rfl, rfl, rfl, rfl, ⟨by omega, by omega, by omega⟩, rfl⟩
    case rest =>
      clear HA HBB HX HY hA0 hA1 hB0 hB1 hX0 hX1 hY0 hY1 hTne A B X Y h4 h5 h6 h7 h8 h1 h2 h3 h0 B1 HB HT HT0
      obtain ⟨A, B, X, Y, rfl, rfl, rfl, rfl, HS, hwc⟩ := hcut
      subst hwc
      have hA := HS.out.1
      have hB := HS.out.2.1
      have hL := HL.out
      obtain ⟨p, hp, HP⟩ : ∃ p : Int, judgeR T L a3 A X a8 = p ∧ Aside0 (∀ W : World, Calls Tryd.prog 11 #[.agg #[.int .i64 T, .int .i64 64, .int .i64 5, .int .i64 100, .int .i64 50, .int .i64 10, .int .i64 20, .int .i64 1000, .int .i64 2147483648, .int .i64 4294967296, .int .i64 1073741824, .int .i64 0, .int .i64 1099511627776, .int .i64 64, .int .i64 4, .int .i64 4], .int .i64 (L), .int .i64 a3, .int .i64 A, .int .i64 X, .int .i64 a8] W fun e w' => e = .returned (.int .u8 p) ∧ Below W.heap.size W w') := ⟨_, rfl, ⟨fun W => judge_walk T 1000 L a3 A X a8 (by omega) hL.2.1 (by omega) W⟩⟩
      obtain ⟨q, hq, HQ⟩ : ∃ q : Int, judgeR T L a3 B Y a8 = q ∧ Aside0 (∀ W : World, Calls Tryd.prog 11 #[.agg #[.int .i64 T, .int .i64 64, .int .i64 5, .int .i64 100, .int .i64 50, .int .i64 10, .int .i64 20, .int .i64 1000, .int .i64 2147483648, .int .i64 4294967296, .int .i64 1073741824, .int .i64 0, .int .i64 1099511627776, .int .i64 64, .int .i64 4, .int .i64 4], .int .i64 (L), .int .i64 a3, .int .i64 B, .int .i64 Y, .int .i64 a8] W fun e w' => e = .returned (.int .u8 q) ∧ Below W.heap.size W w') := ⟨_, rfl, ⟨fun W => judge_walk T 1000 L a3 B Y a8 (by omega) hL.2.1 (by omega) W⟩⟩
      obtain ⟨r, hr0, HR⟩ : ∃ r : Int, judgeR T l a3 B Y a8 = r ∧ Aside0 (∀ W : World, Calls Tryd.prog 11 #[.agg #[.int .i64 T, .int .i64 64, .int .i64 5, .int .i64 100, .int .i64 50, .int .i64 10, .int .i64 20, .int .i64 1000, .int .i64 2147483648, .int .i64 4294967296, .int .i64 1073741824, .int .i64 0, .int .i64 1099511627776, .int .i64 64, .int .i64 4, .int .i64 4], .int .i64 (l), .int .i64 a3, .int .i64 B, .int .i64 Y, .int .i64 a8] W fun e w' => e = .returned (.int .u8 r) ∧ Below W.heap.size W w') := ⟨_, rfl, ⟨fun W => judge_walk T 1000 l a3 B Y a8 (by omega) hL.2.2 (by omega) W⟩⟩
      have HF : Aside0 (q = 0 → p = 0 ∧ r = 0) := ⟨fun h => by
        have := falls_facts (by omega) hL.1 hA hB HS.out.2.2 (hq.trans h)
        exact ⟨hp ▸ this.1, hr0 ▸ this.2⟩⟩
      clear hp hq hr0 hL
      go_upto_region 10 with fail
      refine Go.Proofs.YtknjfohbpchmpaaDoorRx.region_laterL (by kernel_rfl) (by kernel_rfl) (by kernel_rfl) ?_
      repeat (first
        | (refine Go.Proofs.YtknjfohbpchmpaaDoorQl.wpQuiet_load_row rfl 25 (.tmp 19) rfl g1 rfl 25 _ _ _ (Go.Proofs.YtknjfohbpchmpaaDoorQl.lw_heap B2.out) Tryd.underlying25 rfl (by kernel_rfl) ?_; simp only [Act.put, List.setIfInBounds_toArray, List.set_cons_succ, List.set_cons_zero])
        | go_big_quiet_step (first | (go_at_call 11; first | with_reducible exact later_call (HP.out _) | with_reducible exact later_call (HQ.out _))))
      refine wpQuiet_nil ?_
      rintro w5 ⟨⟨_, hb4⟩, rfl⟩
      have B3 := Aside0.mk (hk_below hb4 (hk_lt B2.out) B2.out)
      have HB3 := Aside0.mk (HB2.out.trans (hb4.mono HB2.out.size))
      clear hb4 B2 HB2
      by_cases hq : q = 0
      · have hp := (HF.out hq).1
        have hrr := (HF.out hq).2
        subst hq hp hrr
        clear HF HP HQ
        go_wp2_with (first | (refine Go.Proofs.YtknjfohbpchmpaaDoorQl.wpList_load_w (by rfl) 25 (.tmp 19) rfl g1 rfl 25 _ _ _ B3.out Tryd.underlying25 rfl (by kernel_rfl) ?_; simp only [Act.put, List.setIfInBounds_toArray, List.set_cons_succ, List.set_cons_zero]))
        with_reducible refine (HR.out _).mono ?_
        rintro e w6 ⟨rfl, hb6⟩
        have HB6 := Aside0.mk (HB3.out.trans (hb6.mono HB3.out.size))
        clear hb6 B3 HB3 HR
        rcases (show (A = B ∧ X = Y) ∨ (A = B ∧ X ≠ Y) ∨ A < B from by have := HS.out.2.2; omega) with ⟨e1, e2⟩ | ⟨e1, e2⟩ | e1
        · clear HS
          subst e1 e2
          go_wp2_with (first | (go_at_call 10; with_reducible refine (key_same _ _ (by omega) _).mono ?_; rintro e w' ⟨rfl, rfl⟩))
          go_ret
          exact ⟨rfl, HB6.out⟩
        · clear HS
          subst e1
          have k1 : (X == Y) = false := by simpa using e2
          have k2 : (A * 128 + X == A * 128 + Y) = false := by simp; omega
          have k3 : decide (A * 128 + X = A * 128 + Y) = false := by simp; omega
          go_wp2_with (first | (go_at_call 10; with_reducible refine (key_same _ _ (by omega) _).mono ?_; rintro e w' ⟨rfl, rfl⟩))
          go_ret
          exact ⟨rfl, HB6.out⟩
        · clear HS
          have k1 : (A == B) = false := by simp; omega
          have k2 : (A * 128 + X == B * 128 + Y) = false := by simp; omega
          have k3 : A * 128 + X < B * 128 + Y := by omega
          go_wp2_with (first | (go_at_call 10; with_reducible refine (key_same _ _ (by omega) _).mono ?_; rintro e w' ⟨rfl, rfl⟩))
          go_ret
          exact ⟨rfl, HB6.out⟩
      · have hq1 : (q == 0) = false := by simpa using hq
        have hq2 : (q != 0) = true := by simpa using hq
        have hq3 : decide (q = 0) = false := by simpa using hq
        clear HF HP HQ HR
        rcases (show (A = B ∧ X = Y) ∨ (A = B ∧ X ≠ Y) ∨ A < B from by have := HS.out.2.2; omega) with ⟨e1, e2⟩ | ⟨e1, e2⟩ | e1
        · clear HS
          subst e1 e2
          go_wp2_with (first | (go_at_call 10; with_reducible refine (key_same _ _ (by omega) _).mono ?_; rintro e w' ⟨rfl, rfl⟩))
          go_ret
          exact ⟨rfl, HB3.out⟩
        · clear HS
          subst e1
          have k1 : (X == Y) = false := by simpa using e2
          have k2 : (A * 128 + X == A * 128 + Y) = false := by simp; omega
          have k3 : decide (A * 128 + X = A * 128 + Y) = false := by simp; omega
          go_wp2_with (first | (go_at_call 10; with_reducible refine (key_same _ _ (by omega) _).mono ?_; rintro e w' ⟨rfl, rfl⟩))
          go_ret
          exact ⟨rfl, HB3.out⟩
        · clear HS
          have k1 : (A == B) = false := by simp; omega
          have k2 : (A * 128 + X == B * 128 + Y) = false := by simp; omega
          have k3 : A * 128 + X < B * 128 + Y := by omega
          go_wp2_with (first | (go_at_call 10; with_reducible refine (key_same _ _ (by omega) _).mono ?_; rintro e w' ⟨rfl, rfl⟩))
          go_ret
          exact ⟨rfl, HB3.out⟩
end Go.Proofs.YtknjfohbpchmpaaDoor.Gt
