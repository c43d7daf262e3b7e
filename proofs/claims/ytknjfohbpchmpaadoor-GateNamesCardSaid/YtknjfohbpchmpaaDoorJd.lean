/- gate.Judge, walked. -/
import Derived.Test.YtknjfohbpchmpaaDoorJp
import Derived.Test.YtknjfohbpchmpaaDoorFn
import Derived.Deep.DeepCutAuto
import Derived.Deep.DeepMust
set_option linter.unusedVariables false
set_option linter.unusedSimpArgs false
namespace Go.Proofs.YtknjfohbpchmpaaDoor.Gt
open Go.RowKit Go.Proofs.YtknjfohbpchmpaaDoorW.PrintWords Go.Proofs.YtknjfohbpchmpaaDoorW.PrintLast Go.Proofs.YtknjfohbpchmpaaDoorW.PrintMore Go.Proofs.YtknjfohbpchmpaaDoorHk
open Go.Proofs.YtknjfohbpchmpaaDoor.PGateJudges
set_option maxHeartbeats 3200000 in
set_option maxRecDepth 100000 in
theorem judge_walk (t h level now tier cohort dl : Int) (ht : 0 ≤ t ∧ t ≤ 8) (hl : I64 level) (h1 : 0 ≤ tier ∧ tier < t ∧ 0 ≤ cohort ∧ cohort < 128) (w : World) :
    Calls Tryd.prog 11 #[.agg #[.int .i64 t, .int .i64 64, .int .i64 5, .int .i64 100, .int .i64 50, .int .i64 10, .int .i64 20, .int .i64 h, .int .i64 2147483648, .int .i64 4294967296, .int .i64 1073741824, .int .i64 0, .int .i64 1099511627776, .int .i64 64, .int .i64 4, .int .i64 4], .int .i64 level, .int .i64 now, .int .i64 tier, .int .i64 cohort, .int .i64 dl] w fun e w' => e = .returned (.int .u8 (judgeR t level now tier cohort dl)) ∧ Below w.heap.size w w' := by
  have hR : gate_Right.f t 64 5 100 50 10 20 h 2147483648 4294967296 1073741824 0 1099511627776 64 4 4 tier cohort = some true := by
    unfold gate_Right.f; rw [if_pos (by omega), if_pos (by omega), if_pos (by omega)]; simp; omega
  have HR := Aside0.mk hR
  have HJ := Aside0.mk (judge_in (level := level) (now := now) (dl := dl) h1)
  clear hR
  go_enter Tryd.func11, Tryd.ntmps11
  go_upto_region 1 with fail
  have B6 := Aside0.mk (hk_new w (.cells #[.int .i64 t, .int .i64 64, .int .i64 5, .int .i64 100, .int .i64 50, .int .i64 10, .int .i64 20, .int .i64 h, .int .i64 2147483648, .int .i64 4294967296, .int .i64 1073741824, .int .i64 0, .int .i64 1099511627776, .int .i64 64, .int .i64 4, .int .i64 4] 25))
  have HB := Aside0.mk ((Below.refl w.heap.size w).alloc (Nat.le_refl _) (.cells #[.int .i64 t, .int .i64 64, .int .i64 5, .int .i64 100, .int .i64 50, .int .i64 10, .int .i64 20, .int .i64 h, .int .i64 2147483648, .int .i64 4294967296, .int .i64 1073741824, .int .i64 0, .int .i64 1099511627776, .int .i64 64, .int .i64 4, .int .i64 4] 25))
  generalize w.alloc (.cells #[.int .i64 t, .int .i64 64, .int .i64 5, .int .i64 100, .int .i64 50, .int .i64 10, .int .i64 20, .int .i64 h, .int .i64 2147483648, .int .i64 4294967296, .int .i64 1073741824, .int .i64 0, .int .i64 1099511627776, .int .i64 64, .int .i64 4, .int .i64 4] 25) = W at B6 HB ⊢
  obtain ⟨g6, hg6⟩ : ∃ g, g = w.heap.size := ⟨_, rfl⟩
  have HG := Aside0.mk hg6
  rw [← hg6] at B6 ⊢
  clear hg6
  have c0 : W.cell? ⟨g6, 0, none⟩ = some (.int .i64 t) := by rw [hk_cell B6.out]; rfl
  have c1 : W.cell? ⟨g6, 1, none⟩ = some (.int .i64 64) := by rw [hk_cell B6.out]; rfl
  have c2 : W.cell? ⟨g6, 2, none⟩ = some (.int .i64 5) := by rw [hk_cell B6.out]; rfl
  have c3 : W.cell? ⟨g6, 3, none⟩ = some (.int .i64 100) := by rw [hk_cell B6.out]; rfl
  have c4 : W.cell? ⟨g6, 4, none⟩ = some (.int .i64 50) := by rw [hk_cell B6.out]; rfl
  have c5 : W.cell? ⟨g6, 5, none⟩ = some (.int .i64 10) := by rw [hk_cell B6.out]; rfl
  have c6 : W.cell? ⟨g6, 6, none⟩ = some (.int .i64 20) := by rw [hk_cell B6.out]; rfl
  have c7 : W.cell? ⟨g6, 7, none⟩ = some (.int .i64 h) := by rw [hk_cell B6.out]; rfl
  have c8 : W.cell? ⟨g6, 8, none⟩ = some (.int .i64 2147483648) := by rw [hk_cell B6.out]; rfl
  have c9 : W.cell? ⟨g6, 9, none⟩ = some (.int .i64 4294967296) := by rw [hk_cell B6.out]; rfl
  have c10 : W.cell? ⟨g6, 10, none⟩ = some (.int .i64 1073741824) := by rw [hk_cell B6.out]; rfl
  have c11 : W.cell? ⟨g6, 11, none⟩ = some (.int .i64 0) := by rw [hk_cell B6.out]; rfl
  have c12 : W.cell? ⟨g6, 12, none⟩ = some (.int .i64 1099511627776) := by rw [hk_cell B6.out]; rfl
  have c13 : W.cell? ⟨g6, 13, none⟩ = some (.int .i64 64) := by rw [hk_cell B6.out]; rfl
  have c14 : W.cell? ⟨g6, 14, none⟩ = some (.int .i64 4) := by rw [hk_cell B6.out]; rfl
  have c15 : W.cell? ⟨g6, 15, none⟩ = some (.int .i64 4) := by rw [hk_cell B6.out]; rfl
  go_wp2_with fail
  with_reducible refine (gate_Right.calls t 64 5 100 50 10 20 h 2147483648 4294967296 1073741824 0 1099511627776 64 4 4 tier cohort true _ HR.out).mono ?_
  rintro e w1 ⟨rfl, hb⟩
  have B7 := Aside0.mk (hk_below hb (hk_lt B6.out) B6.out)
  have HB1 := Aside0.mk (HB.out.trans (hb.mono HB.out.size))
  clear hb c0 c1 c2 c3 c4 c5 c6 c7 c8 c9 c10 c11 c12 c13 c14 c15
  by_cases hd : dl ≤ now
  · have hj : judgeR t level now tier cohort dl = 3 := by rw [HJ.out, if_pos hd]
    have HJ3 := Aside0.mk hj
    clear hj
    go_wp2_with fail
    go_ret
    exact ⟨by rw [HJ3.out]; rfl, HB1.out⟩
  · have HK : Aside0 (∀ W : World, Calls Tryd.prog 10 #[.int .i64 tier, .int .i64 cohort] W fun e w' => e = .returned (.int .i64 (tier * 128 + cohort)) ∧ Below W.heap.size W w') := ⟨fun W =>
      (gate_Key.calls tier cohort (tier * 128 + cohort) W (by unfold gate_Key.f wrap64; congr 1; omega)).mono fun e w' hp => ⟨hp.1, hp.2.below⟩⟩
    have hE : gate_Edge.f t 64 5 100 50 10 20 h 2147483648 4294967296 1073741824 0 1099511627776 64 4 4 level = some (edgeOf t level) := by
      unfold gate_Edge.f conf_Config_Most.f
      simp only [Option.bind_some]
      rw [sub_edge t level ht hl]; rfl
    have HE : Aside0 (∀ W : World, Calls Tryd.prog 15 #[.agg #[.int .i64 t, .int .i64 64, .int .i64 5, .int .i64 100, .int .i64 50, .int .i64 10, .int .i64 20, .int .i64 h, .int .i64 2147483648, .int .i64 4294967296, .int .i64 1073741824, .int .i64 0, .int .i64 1099511627776, .int .i64 64, .int .i64 4, .int .i64 4], .int .i64 level] W fun e w' => e = .returned (.int .i64 (edgeOf t level)) ∧ Below W.heap.size W w') := ⟨fun W => gate_Edge.calls t 64 5 100 50 10 20 h 2147483648 4294967296 1073741824 0 1099511627776 64 4 4 level (edgeOf t level) W hE⟩
    obtain ⟨E, hEE⟩ : ∃ E, E = edgeOf t level := ⟨_, rfl⟩
    obtain ⟨Ky, hKy⟩ : ∃ K, K = tier * 128 + cohort := ⟨_, rfl⟩
    rw [← hEE] at HE HJ
    rw [← hKy] at HK HJ
    clear hE hEE hKy
    have hr := fun W => @lw_cell W
    have hgl : g6 < w1.heap.size := hk_lt B7.out
    have c0 : w1.cell? ⟨g6, 0, none⟩ = some (.int .i64 t) := by rw [hk_cell B7.out]; rfl
    have c1 : w1.cell? ⟨g6, 1, none⟩ = some (.int .i64 64) := by rw [hk_cell B7.out]; rfl
    have c2 : w1.cell? ⟨g6, 2, none⟩ = some (.int .i64 5) := by rw [hk_cell B7.out]; rfl
    have c3 : w1.cell? ⟨g6, 3, none⟩ = some (.int .i64 100) := by rw [hk_cell B7.out]; rfl
    have c4 : w1.cell? ⟨g6, 4, none⟩ = some (.int .i64 50) := by rw [hk_cell B7.out]; rfl
    have c5 : w1.cell? ⟨g6, 5, none⟩ = some (.int .i64 10) := by rw [hk_cell B7.out]; rfl
    have c6 : w1.cell? ⟨g6, 6, none⟩ = some (.int .i64 20) := by rw [hk_cell B7.out]; rfl
    have c7 : w1.cell? ⟨g6, 7, none⟩ = some (.int .i64 h) := by rw [hk_cell B7.out]; rfl
    have c8 : w1.cell? ⟨g6, 8, none⟩ = some (.int .i64 2147483648) := by rw [hk_cell B7.out]; rfl
    have c9 : w1.cell? ⟨g6, 9, none⟩ = some (.int .i64 4294967296) := by rw [hk_cell B7.out]; rfl
    have c10 : w1.cell? ⟨g6, 10, none⟩ = some (.int .i64 1073741824) := by rw [hk_cell B7.out]; rfl
    have c11 : w1.cell? ⟨g6, 11, none⟩ = some (.int .i64 0) := by rw [hk_cell B7.out]; rfl
    have c12 : w1.cell? ⟨g6, 12, none⟩ = some (.int .i64 1099511627776) := by rw [hk_cell B7.out]; rfl
    have c13 : w1.cell? ⟨g6, 13, none⟩ = some (.int .i64 64) := by rw [hk_cell B7.out]; rfl
    have c14 : w1.cell? ⟨g6, 14, none⟩ = some (.int .i64 4) := by rw [hk_cell B7.out]; rfl
    have c15 : w1.cell? ⟨g6, 15, none⟩ = some (.int .i64 4) := by rw [hk_cell B7.out]; rfl
    by_cases hk : Ky ≥ E
    · have HJ4 : Aside0 (judgeR t level now tier cohort dl = 4) := ⟨by rw [HJ.out, if_neg hd, if_pos hk]⟩
      go_upto_region 5 with fail
      refine region_later (by kernel_rfl) (by kernel_rfl) ?_
      repeat (go_big_quiet_step (first
        | (go_at_call 10; refine later_call (HK.out _))
        | (go_at_call 15; refine later_call (HE.out _))))
      refine wpQuiet_nil ?_
      rintro w4 ⟨⟨_, hb4⟩, rfl⟩
      have HF := Aside0.mk (HB1.out.trans (hb4.mono HB1.out.size))
      clear hb4
      go_wp2
      go_ret
      exact ⟨by rw [HJ4.out]; rfl, HF.out⟩
    · have HJ0 : Aside0 (judgeR t level now tier cohort dl = 0) := ⟨by rw [HJ.out, if_neg hd, if_neg hk]⟩
      go_upto_region 5 with fail
      refine region_later (by kernel_rfl) (by kernel_rfl) ?_
      repeat (go_big_quiet_step (first
        | (go_at_call 10; refine later_call (HK.out _))
        | (go_at_call 15; refine later_call (HE.out _))))
      refine wpQuiet_nil ?_
      rintro w4 ⟨⟨_, hb4⟩, rfl⟩
      have HF := Aside0.mk (HB1.out.trans (hb4.mono HB1.out.size))
      clear hb4
      go_wp2
      go_ret
      exact ⟨by rw [HJ0.out]; rfl, HF.out⟩
end Go.Proofs.YtknjfohbpchmpaaDoor.Gt
