-- PRINTED BY print.sh 35421559b90ae4d0a3588c463048766b98c2df88dd9212a6774a882060cdf62d: not written by this session
import Derived.Test.YtgackgdoikfmdaaPModeTurnsx0
import Derived.Test.YtgackgdoikfmdaaPModeTurnsx5
namespace Go.Proofs.Ytgackgdoikfmdaa.PModeTurns
open Go.RowKit Go.Proofs.YtgackgdoikfmdaaW.PrintWords Go.Proofs.YtgackgdoikfmdaaW.PrintLast Go.Proofs.YtgackgdoikfmdaaW.PrintMore
attribute [local go_sem] max2_int min2_int max_two min_two max_three min_three max_four min_four   -- for this text's walks alone
set_option linter.unusedVariables false
set_option linter.unusedSimpArgs false

/-! ### overfallref10_Turn: function 8 -/
def overfallref10_Turn.j0 : Nat → Int → Int → Int → Int → Int → Bool → Bool → Int → Int → Option (Bool × Int × Int)
  | 0, _, _, _, _, _, _, _, _, _ => none
  | k + 1, x1, x2, x4, x5, x6, x25, x198000, x198001, x198002 => if x25 = true then (some (x198000, x198001, x198002)) else (if x198000 = true then (if x6 > 0 then (if x5 ≥ x2 then (some (x198000, x198001, x198002)) else (some (!x198000, x4, IntKind.u64.wrap (x198002 + 1)))) else (some (!x198000, x4, IntKind.u64.wrap (x198002 + 1)))) else (if x6 ≤ 0 then (some (x198000, x198001, x198002)) else (if x5 < x1 then (some (x198000, x198001, x198002)) else (some (!x198000, x4, IntKind.u64.wrap (x198002 + 1))))))
def overfallref10_Turn.f (k : Nat) (a0_0 : Bool) (a0_1 : Int) (a0_2 : Int) (a1 : Int) (a2 : Int) (a3 : Int) (a4 : Int) (a5 : Int) (a6 : Int) : Option (Bool × Int × Int) := if a0_2 > 0 then ((overfallref02_Sub.f k a4 a0_1).bind fun t199 => (overfallref10_Turn.j0 k a1 a2 a4 a5 a6 (decide (t199 < a3)) a0_0 a0_1 a0_2)) else (overfallref10_Turn.j0 k a1 a2 a4 a5 a6 false a0_0 a0_1 a0_2)
theorem overfallref10_Turn.mono_l : ∀ k, (∀ y0 y1 y2 y3 y4 y5 y6 y7 y8, LeO (overfallref10_Turn.j0 k y0 y1 y2 y3 y4 y5 y6 y7 y8) (overfallref10_Turn.j0 (k + 1) y0 y1 y2 y3 y4 y5 y6 y7 y8))
  | 0 => fun _ _ _ _ _ _ _ _ _ r h => by simp [overfallref10_Turn.j0] at h
  | k + 1 => by
    have ih0 := overfallref10_Turn.mono_l k
    · intro y0 y1 y2 y3 y4 y5 y6 y7 y8
      unfold overfallref10_Turn.j0
      repeat' first
      | (with_reducible exact ih0 _ _ _ _ _ _ _ _ _)
      | (with_reducible exact overfallref02_Sub.mono _ _ _)
      | (with_reducible exact LeO.refl _)
      | (with_reducible exact LeO.none _)
      | (with_reducible refine LeO.ite ?_ ?_)
      | (with_reducible refine LeO.bind ?_ (fun _ => ?_))
      | exact ih0 _ _ _ _ _ _ _ _ _
      | exact overfallref02_Sub.mono _ _ _
      | exact LeO.none _
      | refine LeO.ite ?_ ?_
      | refine LeO.bind ?_ (fun _ => ?_)
theorem overfallref10_Turn.mono : ∀ a0 a1 a2 a3 a4 a5 a6 a7 a8 k, LeO (overfallref10_Turn.f k a0 a1 a2 a3 a4 a5 a6 a7 a8) (overfallref10_Turn.f (k + 1) a0 a1 a2 a3 a4 a5 a6 a7 a8) := by
  intro a0 a1 a2 a3 a4 a5 a6 a7 a8 k
  have ih0 := overfallref10_Turn.mono_l k
  unfold overfallref10_Turn.f
  repeat' first
      | (with_reducible exact ih0 _ _ _ _ _ _ _ _ _)
      | (with_reducible exact overfallref02_Sub.mono _ _ _)
      | (with_reducible exact LeO.refl _)
      | (with_reducible exact LeO.none _)
      | (with_reducible refine LeO.ite ?_ ?_)
      | (with_reducible refine LeO.bind ?_ (fun _ => ?_))
      | exact ih0 _ _ _ _ _ _ _ _ _
      | exact overfallref02_Sub.mono _ _ _
      | exact LeO.none _
      | refine LeO.ite ?_ ?_
      | refine LeO.bind ?_ (fun _ => ?_)
set_option maxHeartbeats 8000000 in
set_option maxRecDepth 100000 in
theorem overfallref10_Turn.calls (k : Nat) (a0_0 : Bool) (a0_1 : Int) (a0_2 : Int) (a1 : Int) (a2 : Int) (a3 : Int) (a4 : Int) (a5 : Int) (a6 : Int) (r1 : Bool) (r2 : Int) (r3 : Int) (w : World) (h : overfallref10_Turn.f k a0_0 a0_1 a0_2 a1 a2 a3 a4 a5 a6 = some (r1, r2, r3)) :
    Calls Try.prog 8 #[.agg #[.bool a0_0, .int .i64 a0_1, .int .u64 a0_2], .int .i64 a1, .int .i64 a2, .int .i64 a3, .int .i64 a4, .int .i64 a5, .int .i64 a6] w fun e w' => e = .returned (.agg #[.bool r1, .int .i64 r2, .int .u64 r3]) ∧ Below w.heap.size w w' := by
  have hu29 := Try.underlying29
  have HB := Aside0.mk (Below.refl w.heap.size w)
  have H : (if a0_2 > 0 then ((overfallref02_Sub.f k a4 a0_1).bind fun t199 => (overfallref10_Turn.j0 k a1 a2 a4 a5 a6 (decide (t199 < a3)) a0_0 a0_1 a0_2)) else (overfallref10_Turn.j0 k a1 a2 a4 a5 a6 false a0_0 a0_1 a0_2)) = some (r1, r2, r3) := h
  clear h
  have HC8 := Aside0.mk H
  clear H
  go_enter Try.func8, Try.ntmps8
  go_upto_region 1 with (first | ((with_reducible refine gate_dst (N := 7) rfl ?_); refine box_event ?hg (N := 7) ?hd (cs := #[.bool a0_0, .int .i64 a0_1, .int .u64 a0_2]) (t := 29) ?hr ?_; (case hd => rfl); (case hg => rfl); (case hr => first | (go_simp; done) | (go_simp; rfl)); intro gb197 hg w9 hbox hb; have n0_ := Aside0.mk (below_step (by repeat (first | (with_reducible first | exact HB.out | apply below_alloc | apply pw_below_drewN | apply below_drew1) | exact HB.out)) hb); have n1_ := Aside0.mk (hbox); have n2_ := Aside0.mk ((by rw [hg]; exact (below_size (by repeat (first | (with_reducible first | exact HB.out | apply below_alloc | apply pw_below_drewN | apply below_drew1) | exact HB.out))) : w.heap.size ≤ gb197)); have n3_ := Aside0.mk ((by rw [hg]; exact (below_size (by repeat (first | (with_reducible first | exact HB.out | apply below_alloc | apply pw_below_drewN | apply below_drew1) | exact HB.out))) : w.heap.size ≤ gb197)); clear HB; have HB := n0_; have BK197 := n1_; have GW197 := n2_; have GE197 := n3_; clear n0_ n1_ n2_ n3_; clear hb hbox hg) | ((with_reducible refine gate_dst (N := 14) rfl ?_); refine box_event ?hg (N := 14) ?hd (cs := #[.bool false, .int .i64 0, .int .u64 0]) (t := 29) ?hr ?_; (case hd => rfl); (case hg => rfl); (case hr => first | (go_simp; done) | (go_simp; rfl)); intro gb198 hg w10 hbox hb; have n0_ := Aside0.mk (blk_below (g := gb197) (o := .cells #[.bool a0_0, .int .i64 a0_1, .int .u64 a0_2] 29 (0, 0)) (by (with_reducible repeat (first | refine blk_drewN ?_ _ | refine blk_drew ?_ | refine blk_alloc ?_ _)); exact BK197.out) hb); have n1_ := Aside0.mk (below_step (by repeat (first | (with_reducible first | exact HB.out | apply below_alloc | apply pw_below_drewN | apply below_drew1 | refine below_set ?_ GE197.out) | exact HB.out)) hb); have n2_ := Aside0.mk (hbox); have n3_ := Aside0.mk ((by rw [hg]; exact (below_size (by repeat (first | (with_reducible first | exact HB.out | apply below_alloc | apply pw_below_drewN | apply below_drew1 | refine below_set ?_ GE197.out) | exact HB.out))) : w.heap.size ≤ gb198)); have n4_ := Aside0.mk ((by rw [hg]; exact (below_size (by repeat (first | (with_reducible first | exact HB.out | apply below_alloc | apply pw_below_drewN | apply below_drew1 | refine below_set ?_ GE197.out) | exact HB.out))) : w.heap.size ≤ gb198)); have n5_ := Aside0.mk ((by rw [hg]; exact Nat.ne_of_lt (blk_lt (g := gb197) (o := .cells #[.bool a0_0, .int .i64 a0_1, .int .u64 a0_2] 29 (0, 0)) (by (with_reducible repeat (first | refine blk_drewN ?_ _ | refine blk_drew ?_ | refine blk_alloc ?_ _)); exact BK197.out)) : gb197 ≠ gb198)); have n6_ := Aside0.mk ((by rw [hg]; exact Nat.ne_of_gt (blk_lt (g := gb197) (o := .cells #[.bool a0_0, .int .i64 a0_1, .int .u64 a0_2] 29 (0, 0)) (by (with_reducible repeat (first | refine blk_drewN ?_ _ | refine blk_drew ?_ | refine blk_alloc ?_ _)); exact BK197.out)) : gb198 ≠ gb197)); clear BK197; clear HB; have BK197 := n0_; have HB := n1_; have BK198 := n2_; have GW198 := n3_; have GE198 := n4_; have NB197_198 := n5_; have NB198_197 := n6_; clear n0_ n1_ n2_ n3_ n4_ n5_ n6_; clear hb hbox hg))
  (try simp only [Act.put, List.setIfInBounds_toArray, List.set_cons_zero, List.set_cons_succ])
  go_cut [25] (fun v25 wc => ∃ (kq : Nat) (x25_7 : Bool), v25 = .bool x25_7 ∧ Aside0 (overfallref10_Turn.j0 kq a1 a2 a4 a5 a6 x25_7 a0_0 a0_1 a0_2 = some (r1, r2, r3)) ∧ Aside0 (kq ≤ k) ∧ Aside0 (wc.heap[gb197]? = some (.cells #[.bool a0_0, .int .i64 a0_1, .int .u64 a0_2] 29 (0, 0))) ∧ Aside0 (wc.heap[gb198]? = some (.cells #[.bool false, .int .i64 0, .int .u64 0] 29 (0, 0))) ∧ Aside0 (Below w.heap.size w wc))
  case first =>
    have H := HC8.out
    clear HC8
    by_cases c11 : a0_2 > 0
    · rw [if_pos c11] at H
      have c11b0 : decide (0 < a0_2) = true := decide_eq_true c11
      clear c11
      (first | rw [c11b0] | (simp only [i64_w, i32_w]; rw [c11b0]) | skip)
      replace H := Option.bind_eq_some_iff.mp H
      obtain ⟨t199, A120, H⟩ := H
      replace H : (overfallref10_Turn.j0 k a1 a2 a4 a5 a6 (decide (t199 < a3)) a0_0 a0_1 a0_2) = some (r1, r2, r3) := H
      have A12 := Aside0.mk A120
      clear A120
      have H' := Aside0.mk H
      clear H
      have hnb13 := NB197_198.out
      have hnc13 := NB198_197.out
      have hcz14_0 : w10.cell? ⟨gb197, 0, none⟩ = some (.bool a0_0) := (blk_cell BK197.out 0).trans rfl
      have hcz14_1 : w10.cell? ⟨gb197, 1, none⟩ = some (.int .i64 a0_1) := (blk_cell BK197.out 1).trans rfl
      have hcz14_2 : w10.cell? ⟨gb197, 2, none⟩ = some (.int .u64 a0_2) := (blk_cell BK197.out 2).trans rfl
      have hfz14_0 := blk_frozen BK197.out 0
      have hfz14_1 := blk_frozen BK197.out 1
      have hfz14_2 := blk_frozen BK197.out 2
      go_wp2_with (first | (go_at_call 12; (with_reducible refine (overfallref02_Sub.calls k a4 a0_1 t199 _ A12.out).mono ?_); rintro e w15 ⟨rfl, hb⟩; have n0_ := Aside0.mk (blk_below (g := gb197) (o := .cells #[.bool a0_0, .int .i64 a0_1, .int .u64 a0_2] 29 (0, 0)) (by (with_reducible repeat (first | refine blk_drewN ?_ _ | refine blk_drew ?_ | refine blk_alloc ?_ _)); exact BK197.out) hb); have n1_ := Aside0.mk (blk_below (g := gb198) (o := .cells #[.bool false, .int .i64 0, .int .u64 0] 29 (0, 0)) (by (with_reducible repeat (first | refine blk_drewN ?_ _ | refine blk_drew ?_ | refine blk_alloc ?_ _)); exact BK198.out) hb); have n2_ := Aside0.mk (below_step (by repeat (first | (with_reducible first | exact HB.out | apply below_alloc | apply pw_below_drewN | apply below_drew1 | refine below_set ?_ GE197.out | refine below_set ?_ GE198.out) | exact HB.out)) hb); clear BK197; clear BK198; clear HB; have BK197 := n0_; have BK198 := n1_; have HB := n2_; clear n0_ n1_ n2_; (try clear hb); (try clear hb2); (try clear hk); (try clear hi)))
      go_meet
      case rel => exact ⟨_, (decide (t199 < a3)), (by first | rfl | (simp; done) | (simp [*]; done)), H', ⟨by first | omega | exact Nat.le_refl _⟩, ⟨by (with_reducible repeat (first | refine blk_drewN ?_ _ | refine blk_drew ?_ | refine blk_alloc ?_ _)); exact BK197.out⟩, ⟨by (with_reducible repeat (first | refine blk_drewN ?_ _ | refine blk_drew ?_ | refine blk_alloc ?_ _)); exact BK198.out⟩, ⟨by repeat (first | (with_reducible first | exact HB.out | apply below_alloc | apply pw_below_drewN | apply below_drew1 | refine below_set ?_ GE197.out | refine below_set ?_ GE198.out) | exact HB.out)⟩⟩
    · rw [if_neg c11] at H
      have c11b0 : decide (0 < a0_2) = false := decide_eq_false c11
      clear c11
      (first | rw [c11b0] | (simp only [i64_w, i32_w]; rw [c11b0]) | skip)
      have H' := Aside0.mk H
      clear H
      have hnb16 := NB197_198.out
      have hnc16 := NB198_197.out
      have hcz17_0 : w10.cell? ⟨gb197, 0, none⟩ = some (.bool a0_0) := (blk_cell BK197.out 0).trans rfl
      have hcz17_1 : w10.cell? ⟨gb197, 1, none⟩ = some (.int .i64 a0_1) := (blk_cell BK197.out 1).trans rfl
      have hcz17_2 : w10.cell? ⟨gb197, 2, none⟩ = some (.int .u64 a0_2) := (blk_cell BK197.out 2).trans rfl
      have hfz17_0 := blk_frozen BK197.out 0
      have hfz17_1 := blk_frozen BK197.out 1
      have hfz17_2 := blk_frozen BK197.out 2
      go_wp2
      go_meet
      case rel => exact ⟨_, (false), (by first | rfl | (simp; done) | (simp [*]; done)), H', ⟨by first | omega | exact Nat.le_refl _⟩, ⟨by (with_reducible repeat (first | refine blk_drewN ?_ _ | refine blk_drew ?_ | refine blk_alloc ?_ _)); exact BK197.out⟩, ⟨by (with_reducible repeat (first | refine blk_drewN ?_ _ | refine blk_drew ?_ | refine blk_alloc ?_ _)); exact BK198.out⟩, ⟨by repeat (first | (with_reducible first | exact HB.out | apply below_alloc | apply pw_below_drewN | apply below_drew1 | refine below_set ?_ GE197.out | refine below_set ?_ GE198.out) | exact HB.out)⟩⟩
  case rest =>
    clear HC8
    try clear c1
    try clear p2
    try clear c8
    try clear c11
    try clear c11b0
    try clear c13
    try clear c16
    try clear hcz14_0
    try clear hcz14_1
    try clear hcz14_2
    try clear hcz17_0
    try clear hcz17_1
    try clear hcz17_2
    try clear hfz14_0
    try clear hfz14_1
    try clear hfz14_2
    try clear hfz17_0
    try clear hfz17_1
    try clear hfz17_2
    obtain ⟨kq, x25_7, rfl, HA, HJ7, BK197, BK198, HB⟩ := hcut
    cases kq with
    | zero => exact absurd HA.out (by simp [overfallref10_Turn.j0])
    | succ kj7 =>
      have H := HA.out
      clear HA
      simp only [overfallref10_Turn.j0] at H
      by_cases c18 : x25_7 = true
      · subst c18
        have H1 : (some (a0_0, a0_1, a0_2)) = some (r1, r2, r3) := by rw [if_pos rfl] at H; exact H
        clear H
        have H := H1
        clear H1
        simp only [Option.some.injEq, Prod.mk.injEq] at H
        obtain ⟨rfl, rfl, rfl⟩ := H
        have hnb19 := NB197_198.out
        have hnc19 := NB198_197.out
        have hcz20_0 : wc.cell? ⟨gb197, 0, none⟩ = some (.bool a0_0) := (blk_cell BK197.out 0).trans rfl
        have hcz20_1 : wc.cell? ⟨gb197, 1, none⟩ = some (.int .i64 a0_1) := (blk_cell BK197.out 1).trans rfl
        have hcz20_2 : wc.cell? ⟨gb197, 2, none⟩ = some (.int .u64 a0_2) := (blk_cell BK197.out 2).trans rfl
        have hfz20_0 := blk_frozen BK197.out 0
        have hfz20_1 := blk_frozen BK197.out 1
        have hfz20_2 := blk_frozen BK197.out 2
        have hcz21_0 : wc.cell? ⟨gb198, 0, none⟩ = some (.bool false) := (blk_cell BK198.out 0).trans rfl
        have hcz21_1 : wc.cell? ⟨gb198, 1, none⟩ = some (.int .i64 0) := (blk_cell BK198.out 1).trans rfl
        have hcz21_2 : wc.cell? ⟨gb198, 2, none⟩ = some (.int .u64 0) := (blk_cell BK198.out 2).trans rfl
        have hfz21_0 := blk_frozen BK198.out 0
        have hfz21_1 := blk_frozen BK198.out 1
        have hfz21_2 := blk_frozen BK198.out 2
        go_wp2
        refine bodyPost_ret (results_cell_row rfl _ _ gb198 29 #[.bool a0_0, .int .i64 a0_1, .int .u64 a0_2] (0, 0) _ rfl (by (with_reducible repeat (first | refine blk_drewN ?_ _ | refine blk_drew ?_ | refine blk_alloc ?_ _)); refine blk_put (cs := #[.bool a0_0, .int .i64 a0_1, .int .u64 0]) ?_ 2 _ rfl; (with_reducible repeat (first | refine blk_drewN ?_ _ | refine blk_drew ?_ | refine blk_alloc ?_ _)); refine blk_put (cs := #[.bool a0_0, .int .i64 0, .int .u64 0]) ?_ 1 _ rfl; (with_reducible repeat (first | refine blk_drewN ?_ _ | refine blk_drew ?_ | refine blk_alloc ?_ _)); refine blk_put (cs := #[.bool false, .int .i64 0, .int .u64 0]) ?_ 0 _ rfl; (with_reducible repeat (first | refine blk_drewN ?_ _ | refine blk_drew ?_ | refine blk_alloc ?_ _)); exact BK198.out) Try.underlying29 rfl (by kernel_rfl)) rfl ?_
        exact ⟨by first | rfl | (simp [errW_none, errW_some] <;> rfl) | (simp [*, errW_none, errW_some] <;> rfl), by repeat (first | (with_reducible first | exact HB.out | apply below_alloc | apply pw_below_drewN | apply below_drew1 | refine below_set ?_ GE197.out | refine below_set ?_ GE198.out) | exact HB.out)⟩
      · replace c18 := Bool.eq_false_iff.mpr c18
        subst c18
        have H1 : (if a0_0 = true then (if a6 > 0 then (if a5 ≥ a2 then (some (a0_0, a0_1, a0_2)) else (some (!a0_0, a4, IntKind.u64.wrap (a0_2 + 1)))) else (some (!a0_0, a4, IntKind.u64.wrap (a0_2 + 1)))) else (if a6 ≤ 0 then (some (a0_0, a0_1, a0_2)) else (if a5 < a1 then (some (a0_0, a0_1, a0_2)) else (some (!a0_0, a4, IntKind.u64.wrap (a0_2 + 1)))))) = some (r1, r2, r3) := by rw [if_neg (show ¬ (false = true) by decide)] at H; exact H
        clear H
        have H := H1
        clear H1
        by_cases c22 : a0_0 = true
        · subst c22
          have H1 : (if a6 > 0 then (if a5 ≥ a2 then (some (true, a0_1, a0_2)) else (some (!true, a4, IntKind.u64.wrap (a0_2 + 1)))) else (some (!true, a4, IntKind.u64.wrap (a0_2 + 1)))) = some (r1, r2, r3) := by rw [if_pos rfl] at H; exact H
          clear H
          have H := H1
          clear H1
          by_cases c23 : a6 > 0
          · rw [if_pos c23] at H
            have c23b0 : decide (0 < a6) = true := decide_eq_true c23
            clear c23
            by_cases c24 : a5 ≥ a2
            · rw [if_pos c24] at H
              have c24b0 : decide (a2 ≤ a5) = true := decide_eq_true c24
              clear c24
              simp only [Option.some.injEq, Prod.mk.injEq] at H
              obtain ⟨rfl, rfl, rfl⟩ := H
              have hnb25 := NB197_198.out
              have hnc25 := NB198_197.out
              have hcz26_0 : wc.cell? ⟨gb197, 0, none⟩ = some (.bool true) := (blk_cell BK197.out 0).trans rfl
              have hcz26_1 : wc.cell? ⟨gb197, 1, none⟩ = some (.int .i64 a0_1) := (blk_cell BK197.out 1).trans rfl
              have hcz26_2 : wc.cell? ⟨gb197, 2, none⟩ = some (.int .u64 a0_2) := (blk_cell BK197.out 2).trans rfl
              have hfz26_0 := blk_frozen BK197.out 0
              have hfz26_1 := blk_frozen BK197.out 1
              have hfz26_2 := blk_frozen BK197.out 2
              have hcz27_0 : wc.cell? ⟨gb198, 0, none⟩ = some (.bool false) := (blk_cell BK198.out 0).trans rfl
              have hcz27_1 : wc.cell? ⟨gb198, 1, none⟩ = some (.int .i64 0) := (blk_cell BK198.out 1).trans rfl
              have hcz27_2 : wc.cell? ⟨gb198, 2, none⟩ = some (.int .u64 0) := (blk_cell BK198.out 2).trans rfl
              have hfz27_0 := blk_frozen BK198.out 0
              have hfz27_1 := blk_frozen BK198.out 1
              have hfz27_2 := blk_frozen BK198.out 2
              go_wp2
              refine bodyPost_ret (results_cell_row rfl _ _ gb198 29 #[.bool true, .int .i64 a0_1, .int .u64 a0_2] (0, 0) _ rfl (by (with_reducible repeat (first | refine blk_drewN ?_ _ | refine blk_drew ?_ | refine blk_alloc ?_ _)); refine blk_put (cs := #[.bool true, .int .i64 a0_1, .int .u64 0]) ?_ 2 _ rfl; (with_reducible repeat (first | refine blk_drewN ?_ _ | refine blk_drew ?_ | refine blk_alloc ?_ _)); refine blk_put (cs := #[.bool true, .int .i64 0, .int .u64 0]) ?_ 1 _ rfl; (with_reducible repeat (first | refine blk_drewN ?_ _ | refine blk_drew ?_ | refine blk_alloc ?_ _)); refine blk_put (cs := #[.bool false, .int .i64 0, .int .u64 0]) ?_ 0 _ rfl; (with_reducible repeat (first | refine blk_drewN ?_ _ | refine blk_drew ?_ | refine blk_alloc ?_ _)); exact BK198.out) Try.underlying29 rfl (by kernel_rfl)) rfl ?_
              exact ⟨by first | rfl | (simp [errW_none, errW_some] <;> rfl) | (simp [*, errW_none, errW_some] <;> rfl), by repeat (first | (with_reducible first | exact HB.out | apply below_alloc | apply pw_below_drewN | apply below_drew1 | refine below_set ?_ GE197.out | refine below_set ?_ GE198.out) | exact HB.out)⟩
            · rw [if_neg c24] at H
              have c24b0 : decide (a2 ≤ a5) = false := decide_eq_false c24
              clear c24
              simp only [Option.some.injEq, Prod.mk.injEq] at H
              obtain ⟨rfl, rfl, rfl⟩ := H
              have hnb28 := NB197_198.out
              have hnc28 := NB198_197.out
              have hcz29_0 : wc.cell? ⟨gb197, 0, none⟩ = some (.bool true) := (blk_cell BK197.out 0).trans rfl
              have hcz29_1 : wc.cell? ⟨gb197, 1, none⟩ = some (.int .i64 a0_1) := (blk_cell BK197.out 1).trans rfl
              have hcz29_2 : wc.cell? ⟨gb197, 2, none⟩ = some (.int .u64 a0_2) := (blk_cell BK197.out 2).trans rfl
              have hfz29_0 := blk_frozen BK197.out 0
              have hfz29_1 := blk_frozen BK197.out 1
              have hfz29_2 := blk_frozen BK197.out 2
              have hcz30_0 : wc.cell? ⟨gb198, 0, none⟩ = some (.bool false) := (blk_cell BK198.out 0).trans rfl
              have hcz30_1 : wc.cell? ⟨gb198, 1, none⟩ = some (.int .i64 0) := (blk_cell BK198.out 1).trans rfl
              have hcz30_2 : wc.cell? ⟨gb198, 2, none⟩ = some (.int .u64 0) := (blk_cell BK198.out 2).trans rfl
              have hfz30_0 := blk_frozen BK198.out 0
              have hfz30_1 := blk_frozen BK198.out 1
              have hfz30_2 := blk_frozen BK198.out 2
              go_wp2
              refine bodyPost_ret (results_cell_row rfl _ _ gb198 29 #[.bool (!true), .int .i64 a4, .int .u64 (IntKind.u64.wrap (a0_2 + 1))] (0, 0) _ rfl (by (with_reducible repeat (first | refine blk_drewN ?_ _ | refine blk_drew ?_ | refine blk_alloc ?_ _)); refine blk_put (cs := #[.bool (!true), .int .i64 a4, .int .u64 0]) ?_ 2 _ rfl; (with_reducible repeat (first | refine blk_drewN ?_ _ | refine blk_drew ?_ | refine blk_alloc ?_ _)); refine blk_put (cs := #[.bool (!true), .int .i64 0, .int .u64 0]) ?_ 1 _ rfl; (with_reducible repeat (first | refine blk_drewN ?_ _ | refine blk_drew ?_ | refine blk_alloc ?_ _)); refine blk_put (cs := #[.bool false, .int .i64 0, .int .u64 0]) ?_ 0 _ rfl; (with_reducible repeat (first | refine blk_drewN ?_ _ | refine blk_drew ?_ | refine blk_alloc ?_ _)); refine blk_far ?_ NB198_197.out _; (with_reducible repeat (first | refine blk_drewN ?_ _ | refine blk_drew ?_ | refine blk_alloc ?_ _)); refine blk_far ?_ NB198_197.out _; (with_reducible repeat (first | refine blk_drewN ?_ _ | refine blk_drew ?_ | refine blk_alloc ?_ _)); refine blk_far ?_ NB198_197.out _; (with_reducible repeat (first | refine blk_drewN ?_ _ | refine blk_drew ?_ | refine blk_alloc ?_ _)); exact BK198.out) Try.underlying29 rfl (by kernel_rfl)) rfl ?_
              exact ⟨by first | rfl | (simp [errW_none, errW_some] <;> rfl) | (simp [*, errW_none, errW_some] <;> rfl), by repeat (first | (with_reducible first | exact HB.out | apply below_alloc | apply pw_below_drewN | apply below_drew1 | refine below_set ?_ GE197.out | refine below_set ?_ GE198.out) | exact HB.out)⟩
          · rw [if_neg c23] at H
            have c23b0 : decide (0 < a6) = false := decide_eq_false c23
            clear c23
            simp only [Option.some.injEq, Prod.mk.injEq] at H
            obtain ⟨rfl, rfl, rfl⟩ := H
            have hnb31 := NB197_198.out
            have hnc31 := NB198_197.out
            have hcz32_0 : wc.cell? ⟨gb197, 0, none⟩ = some (.bool true) := (blk_cell BK197.out 0).trans rfl
            have hcz32_1 : wc.cell? ⟨gb197, 1, none⟩ = some (.int .i64 a0_1) := (blk_cell BK197.out 1).trans rfl
            have hcz32_2 : wc.cell? ⟨gb197, 2, none⟩ = some (.int .u64 a0_2) := (blk_cell BK197.out 2).trans rfl
            have hfz32_0 := blk_frozen BK197.out 0
            have hfz32_1 := blk_frozen BK197.out 1
            have hfz32_2 := blk_frozen BK197.out 2
            have hcz33_0 : wc.cell? ⟨gb198, 0, none⟩ = some (.bool false) := (blk_cell BK198.out 0).trans rfl
            have hcz33_1 : wc.cell? ⟨gb198, 1, none⟩ = some (.int .i64 0) := (blk_cell BK198.out 1).trans rfl
            have hcz33_2 : wc.cell? ⟨gb198, 2, none⟩ = some (.int .u64 0) := (blk_cell BK198.out 2).trans rfl
            have hfz33_0 := blk_frozen BK198.out 0
            have hfz33_1 := blk_frozen BK198.out 1
            have hfz33_2 := blk_frozen BK198.out 2
            go_wp2
            refine bodyPost_ret (results_cell_row rfl _ _ gb198 29 #[.bool (!true), .int .i64 a4, .int .u64 (IntKind.u64.wrap (a0_2 + 1))] (0, 0) _ rfl (by (with_reducible repeat (first | refine blk_drewN ?_ _ | refine blk_drew ?_ | refine blk_alloc ?_ _)); refine blk_put (cs := #[.bool (!true), .int .i64 a4, .int .u64 0]) ?_ 2 _ rfl; (with_reducible repeat (first | refine blk_drewN ?_ _ | refine blk_drew ?_ | refine blk_alloc ?_ _)); refine blk_put (cs := #[.bool (!true), .int .i64 0, .int .u64 0]) ?_ 1 _ rfl; (with_reducible repeat (first | refine blk_drewN ?_ _ | refine blk_drew ?_ | refine blk_alloc ?_ _)); refine blk_put (cs := #[.bool false, .int .i64 0, .int .u64 0]) ?_ 0 _ rfl; (with_reducible repeat (first | refine blk_drewN ?_ _ | refine blk_drew ?_ | refine blk_alloc ?_ _)); refine blk_far ?_ NB198_197.out _; (with_reducible repeat (first | refine blk_drewN ?_ _ | refine blk_drew ?_ | refine blk_alloc ?_ _)); refine blk_far ?_ NB198_197.out _; (with_reducible repeat (first | refine blk_drewN ?_ _ | refine blk_drew ?_ | refine blk_alloc ?_ _)); refine blk_far ?_ NB198_197.out _; (with_reducible repeat (first | refine blk_drewN ?_ _ | refine blk_drew ?_ | refine blk_alloc ?_ _)); exact BK198.out) Try.underlying29 rfl (by kernel_rfl)) rfl ?_
            exact ⟨by first | rfl | (simp [errW_none, errW_some] <;> rfl) | (simp [*, errW_none, errW_some] <;> rfl), by repeat (first | (with_reducible first | exact HB.out | apply below_alloc | apply pw_below_drewN | apply below_drew1 | refine below_set ?_ GE197.out | refine below_set ?_ GE198.out) | exact HB.out)⟩
        · replace c22 := Bool.eq_false_iff.mpr c22
          subst c22
          have H1 : (if a6 ≤ 0 then (some (false, a0_1, a0_2)) else (if a5 < a1 then (some (false, a0_1, a0_2)) else (some (!false, a4, IntKind.u64.wrap (a0_2 + 1))))) = some (r1, r2, r3) := by rw [if_neg (show ¬ (false = true) by decide)] at H; exact H
          clear H
          have H := H1
          clear H1
          by_cases c34 : a6 ≤ 0
          · rw [if_pos c34] at H
            have c34b0 : decide (a6 ≤ 0) = true := decide_eq_true c34
            clear c34
            simp only [Option.some.injEq, Prod.mk.injEq] at H
            obtain ⟨rfl, rfl, rfl⟩ := H
            have hnb35 := NB197_198.out
            have hnc35 := NB198_197.out
            have hcz36_0 : wc.cell? ⟨gb197, 0, none⟩ = some (.bool false) := (blk_cell BK197.out 0).trans rfl
            have hcz36_1 : wc.cell? ⟨gb197, 1, none⟩ = some (.int .i64 a0_1) := (blk_cell BK197.out 1).trans rfl
            have hcz36_2 : wc.cell? ⟨gb197, 2, none⟩ = some (.int .u64 a0_2) := (blk_cell BK197.out 2).trans rfl
            have hfz36_0 := blk_frozen BK197.out 0
            have hfz36_1 := blk_frozen BK197.out 1
            have hfz36_2 := blk_frozen BK197.out 2
            have hcz37_0 : wc.cell? ⟨gb198, 0, none⟩ = some (.bool false) := (blk_cell BK198.out 0).trans rfl
            have hcz37_1 : wc.cell? ⟨gb198, 1, none⟩ = some (.int .i64 0) := (blk_cell BK198.out 1).trans rfl
            have hcz37_2 : wc.cell? ⟨gb198, 2, none⟩ = some (.int .u64 0) := (blk_cell BK198.out 2).trans rfl
            have hfz37_0 := blk_frozen BK198.out 0
            have hfz37_1 := blk_frozen BK198.out 1
            have hfz37_2 := blk_frozen BK198.out 2
            go_wp2
            refine bodyPost_ret (results_cell_row rfl _ _ gb198 29 #[.bool false, .int .i64 a0_1, .int .u64 a0_2] (0, 0) _ rfl (by (with_reducible repeat (first | refine blk_drewN ?_ _ | refine blk_drew ?_ | refine blk_alloc ?_ _)); refine blk_put (cs := #[.bool false, .int .i64 a0_1, .int .u64 0]) ?_ 2 _ rfl; (with_reducible repeat (first | refine blk_drewN ?_ _ | refine blk_drew ?_ | refine blk_alloc ?_ _)); refine blk_put (cs := #[.bool false, .int .i64 0, .int .u64 0]) ?_ 1 _ rfl; (with_reducible repeat (first | refine blk_drewN ?_ _ | refine blk_drew ?_ | refine blk_alloc ?_ _)); refine blk_put (cs := #[.bool false, .int .i64 0, .int .u64 0]) ?_ 0 _ rfl; (with_reducible repeat (first | refine blk_drewN ?_ _ | refine blk_drew ?_ | refine blk_alloc ?_ _)); exact BK198.out) Try.underlying29 rfl (by kernel_rfl)) rfl ?_
            exact ⟨by first | rfl | (simp [errW_none, errW_some] <;> rfl) | (simp [*, errW_none, errW_some] <;> rfl), by repeat (first | (with_reducible first | exact HB.out | apply below_alloc | apply pw_below_drewN | apply below_drew1 | refine below_set ?_ GE197.out | refine below_set ?_ GE198.out) | exact HB.out)⟩
          · rw [if_neg c34] at H
            have c34b0 : decide (a6 ≤ 0) = false := decide_eq_false c34
            clear c34
            by_cases c38 : a5 < a1
            · rw [if_pos c38] at H
              have c38b0 : decide (a5 < a1) = true := decide_eq_true c38
              clear c38
              simp only [Option.some.injEq, Prod.mk.injEq] at H
              obtain ⟨rfl, rfl, rfl⟩ := H
              have hnb39 := NB197_198.out
              have hnc39 := NB198_197.out
              have hcz40_0 : wc.cell? ⟨gb197, 0, none⟩ = some (.bool false) := (blk_cell BK197.out 0).trans rfl
              have hcz40_1 : wc.cell? ⟨gb197, 1, none⟩ = some (.int .i64 a0_1) := (blk_cell BK197.out 1).trans rfl
              have hcz40_2 : wc.cell? ⟨gb197, 2, none⟩ = some (.int .u64 a0_2) := (blk_cell BK197.out 2).trans rfl
              have hfz40_0 := blk_frozen BK197.out 0
              have hfz40_1 := blk_frozen BK197.out 1
              have hfz40_2 := blk_frozen BK197.out 2
              have hcz41_0 : wc.cell? ⟨gb198, 0, none⟩ = some (.bool false) := (blk_cell BK198.out 0).trans rfl
              have hcz41_1 : wc.cell? ⟨gb198, 1, none⟩ = some (.int .i64 0) := (blk_cell BK198.out 1).trans rfl
              have hcz41_2 : wc.cell? ⟨gb198, 2, none⟩ = some (.int .u64 0) := (blk_cell BK198.out 2).trans rfl
              have hfz41_0 := blk_frozen BK198.out 0
              have hfz41_1 := blk_frozen BK198.out 1
              have hfz41_2 := blk_frozen BK198.out 2
              go_wp2
              refine bodyPost_ret (results_cell_row rfl _ _ gb198 29 #[.bool false, .int .i64 a0_1, .int .u64 a0_2] (0, 0) _ rfl (by (with_reducible repeat (first | refine blk_drewN ?_ _ | refine blk_drew ?_ | refine blk_alloc ?_ _)); refine blk_put (cs := #[.bool false, .int .i64 a0_1, .int .u64 0]) ?_ 2 _ rfl; (with_reducible repeat (first | refine blk_drewN ?_ _ | refine blk_drew ?_ | refine blk_alloc ?_ _)); refine blk_put (cs := #[.bool false, .int .i64 0, .int .u64 0]) ?_ 1 _ rfl; (with_reducible repeat (first | refine blk_drewN ?_ _ | refine blk_drew ?_ | refine blk_alloc ?_ _)); refine blk_put (cs := #[.bool false, .int .i64 0, .int .u64 0]) ?_ 0 _ rfl; (with_reducible repeat (first | refine blk_drewN ?_ _ | refine blk_drew ?_ | refine blk_alloc ?_ _)); exact BK198.out) Try.underlying29 rfl (by kernel_rfl)) rfl ?_
              exact ⟨by first | rfl | (simp [errW_none, errW_some] <;> rfl) | (simp [*, errW_none, errW_some] <;> rfl), by repeat (first | (with_reducible first | exact HB.out | apply below_alloc | apply pw_below_drewN | apply below_drew1 | refine below_set ?_ GE197.out | refine below_set ?_ GE198.out) | exact HB.out)⟩
            · rw [if_neg c38] at H
              have c38b0 : decide (a5 < a1) = false := decide_eq_false c38
              clear c38
              simp only [Option.some.injEq, Prod.mk.injEq] at H
              obtain ⟨rfl, rfl, rfl⟩ := H
              have hnb42 := NB197_198.out
              have hnc42 := NB198_197.out
              have hcz43_0 : wc.cell? ⟨gb197, 0, none⟩ = some (.bool false) := (blk_cell BK197.out 0).trans rfl
              have hcz43_1 : wc.cell? ⟨gb197, 1, none⟩ = some (.int .i64 a0_1) := (blk_cell BK197.out 1).trans rfl
              have hcz43_2 : wc.cell? ⟨gb197, 2, none⟩ = some (.int .u64 a0_2) := (blk_cell BK197.out 2).trans rfl
              have hfz43_0 := blk_frozen BK197.out 0
              have hfz43_1 := blk_frozen BK197.out 1
              have hfz43_2 := blk_frozen BK197.out 2
              have hcz44_0 : wc.cell? ⟨gb198, 0, none⟩ = some (.bool false) := (blk_cell BK198.out 0).trans rfl
              have hcz44_1 : wc.cell? ⟨gb198, 1, none⟩ = some (.int .i64 0) := (blk_cell BK198.out 1).trans rfl
              have hcz44_2 : wc.cell? ⟨gb198, 2, none⟩ = some (.int .u64 0) := (blk_cell BK198.out 2).trans rfl
              have hfz44_0 := blk_frozen BK198.out 0
              have hfz44_1 := blk_frozen BK198.out 1
              have hfz44_2 := blk_frozen BK198.out 2
              go_wp2
              refine bodyPost_ret (results_cell_row rfl _ _ gb198 29 #[.bool (!false), .int .i64 a4, .int .u64 (IntKind.u64.wrap (a0_2 + 1))] (0, 0) _ rfl (by (with_reducible repeat (first | refine blk_drewN ?_ _ | refine blk_drew ?_ | refine blk_alloc ?_ _)); refine blk_put (cs := #[.bool (!false), .int .i64 a4, .int .u64 0]) ?_ 2 _ rfl; (with_reducible repeat (first | refine blk_drewN ?_ _ | refine blk_drew ?_ | refine blk_alloc ?_ _)); refine blk_put (cs := #[.bool (!false), .int .i64 0, .int .u64 0]) ?_ 1 _ rfl; (with_reducible repeat (first | refine blk_drewN ?_ _ | refine blk_drew ?_ | refine blk_alloc ?_ _)); refine blk_put (cs := #[.bool false, .int .i64 0, .int .u64 0]) ?_ 0 _ rfl; (with_reducible repeat (first | refine blk_drewN ?_ _ | refine blk_drew ?_ | refine blk_alloc ?_ _)); refine blk_far ?_ NB198_197.out _; (with_reducible repeat (first | refine blk_drewN ?_ _ | refine blk_drew ?_ | refine blk_alloc ?_ _)); refine blk_far ?_ NB198_197.out _; (with_reducible repeat (first | refine blk_drewN ?_ _ | refine blk_drew ?_ | refine blk_alloc ?_ _)); refine blk_far ?_ NB198_197.out _; (with_reducible repeat (first | refine blk_drewN ?_ _ | refine blk_drew ?_ | refine blk_alloc ?_ _)); exact BK198.out) Try.underlying29 rfl (by kernel_rfl)) rfl ?_
              exact ⟨by first | rfl | (simp [errW_none, errW_some] <;> rfl) | (simp [*, errW_none, errW_some] <;> rfl), by repeat (first | (with_reducible first | exact HB.out | apply below_alloc | apply pw_below_drewN | apply below_drew1 | refine below_set ?_ GE197.out | refine below_set ?_ GE198.out) | exact HB.out)⟩

end Go.Proofs.Ytgackgdoikfmdaa.PModeTurns
