/- awake, walked. -/
import Derived.Test.YtknjfohbpchmpaaDoorJd
import Derived.Test.YtknjfohbpchmpaaDoorLd
set_option linter.unusedVariables false
set_option linter.unusedSimpArgs false
namespace Go.Proofs.YtknjfohbpchmpaaDoor.Gt
open Go.RowKit Go.Proofs.YtknjfohbpchmpaaDoorW.PrintWords Go.Proofs.YtknjfohbpchmpaaDoorW.PrintLast Go.Proofs.YtknjfohbpchmpaaDoorW.PrintMore Go.Proofs.YtknjfohbpchmpaaDoorHk
open Go.Proofs.YtknjfohbpchmpaaDoor.PGateJudges
theorem tab_later {w w' : World} (h : Tab w) (hb : Below w.heap.size w w') : Tab w' := Go.Joins.tab_stays gSpace h hb (Nat.le_refl _)
set_option maxHeartbeats 3200000 in
set_option maxRecDepth 100000 in
theorem awake_walk (w : World) (ht : Tab w) : Calls Tryd.prog 8 #[] w fun e w' => e = .returned (.bool true) ∧ Below w.heap.size w w' := by
  have HT := Aside0.mk ht
  clear ht
  go_enter Tryd.func8, Tryd.ntmps8
  go_wp2_with fail
  with_reducible refine (conf_Default.calls 4 64 5 100 50 10 20 1000 2147483648 4294967296 1073741824 0 1099511627776 64 4 4 _ rfl).mono ?_
  rintro e w1 ⟨rfl, hb⟩
  have HB := Aside0.mk hb
  clear hb
  go_upto_region 2 with fail
  have B1 := Aside0.mk (hk_new w1 (.cells #[.int .i64 4, .int .i64 64, .int .i64 5, .int .i64 100, .int .i64 50, .int .i64 10, .int .i64 20, .int .i64 1000, .int .i64 2147483648, .int .i64 4294967296, .int .i64 1073741824, .int .i64 0, .int .i64 1099511627776, .int .i64 64, .int .i64 4, .int .i64 4] 25))
  have HB0 := Aside0.mk (HB.out.alloc HB.out.size (.cells #[.int .i64 4, .int .i64 64, .int .i64 5, .int .i64 100, .int .i64 50, .int .i64 10, .int .i64 20, .int .i64 1000, .int .i64 2147483648, .int .i64 4294967296, .int .i64 1073741824, .int .i64 0, .int .i64 1099511627776, .int .i64 64, .int .i64 4, .int .i64 4] 25))
  clear HB
  have HB := HB0
  clear HB0
  generalize w1.alloc (.cells #[.int .i64 4, .int .i64 64, .int .i64 5, .int .i64 100, .int .i64 50, .int .i64 10, .int .i64 20, .int .i64 1000, .int .i64 2147483648, .int .i64 4294967296, .int .i64 1073741824, .int .i64 0, .int .i64 1099511627776, .int .i64 64, .int .i64 4, .int .i64 4] 25) = W at B1 HB ⊢
  generalize w1.heap.size = g1 at B1 ⊢
  have c0 : W.cell? ⟨g1, 0, none⟩ = some (.int .i64 4) := by rw [hk_cell B1.out]; rfl
  have c1 : W.cell? ⟨g1, 1, none⟩ = some (.int .i64 64) := by rw [hk_cell B1.out]; rfl
  have c2 : W.cell? ⟨g1, 2, none⟩ = some (.int .i64 5) := by rw [hk_cell B1.out]; rfl
  have c3 : W.cell? ⟨g1, 3, none⟩ = some (.int .i64 100) := by rw [hk_cell B1.out]; rfl
  have c4 : W.cell? ⟨g1, 4, none⟩ = some (.int .i64 50) := by rw [hk_cell B1.out]; rfl
  have c5 : W.cell? ⟨g1, 5, none⟩ = some (.int .i64 10) := by rw [hk_cell B1.out]; rfl
  have c6 : W.cell? ⟨g1, 6, none⟩ = some (.int .i64 20) := by rw [hk_cell B1.out]; rfl
  have c7 : W.cell? ⟨g1, 7, none⟩ = some (.int .i64 1000) := by rw [hk_cell B1.out]; rfl
  have c8 : W.cell? ⟨g1, 8, none⟩ = some (.int .i64 2147483648) := by rw [hk_cell B1.out]; rfl
  have c9 : W.cell? ⟨g1, 9, none⟩ = some (.int .i64 4294967296) := by rw [hk_cell B1.out]; rfl
  have c10 : W.cell? ⟨g1, 10, none⟩ = some (.int .i64 1073741824) := by rw [hk_cell B1.out]; rfl
  have c11 : W.cell? ⟨g1, 11, none⟩ = some (.int .i64 0) := by rw [hk_cell B1.out]; rfl
  have c12 : W.cell? ⟨g1, 12, none⟩ = some (.int .i64 1099511627776) := by rw [hk_cell B1.out]; rfl
  have c13 : W.cell? ⟨g1, 13, none⟩ = some (.int .i64 64) := by rw [hk_cell B1.out]; rfl
  have c14 : W.cell? ⟨g1, 14, none⟩ = some (.int .i64 4) := by rw [hk_cell B1.out]; rfl
  have c15 : W.cell? ⟨g1, 15, none⟩ = some (.int .i64 4) := by rw [hk_cell B1.out]; rfl
  go_wp2_with fail
  with_reducible refine (judge_walk 4 1000 128 0 3 0 9 (by omega) (by unfold I64; omega) (by omega) _).mono ?_
  rintro e w2 ⟨rfl, hb⟩
  have B2 := Aside0.mk (hk_below hb (hk_lt B1.out) B1.out)
  have HB2 := Aside0.mk (HB.out.trans (hb.mono HB.out.size))
  clear hb B1 HB
  have B1 := B2
  have HB := HB2
  clear B2 HB2
  clear c0 c1 c2 c3 c4 c5 c6 c7 c8 c9 c10 c11 c12 c13 c14 c15
  have c0 : w2.cell? ⟨g1, 0, none⟩ = some (.int .i64 4) := by rw [hk_cell B1.out]; rfl
  have c1 : w2.cell? ⟨g1, 1, none⟩ = some (.int .i64 64) := by rw [hk_cell B1.out]; rfl
  have c2 : w2.cell? ⟨g1, 2, none⟩ = some (.int .i64 5) := by rw [hk_cell B1.out]; rfl
  have c3 : w2.cell? ⟨g1, 3, none⟩ = some (.int .i64 100) := by rw [hk_cell B1.out]; rfl
  have c4 : w2.cell? ⟨g1, 4, none⟩ = some (.int .i64 50) := by rw [hk_cell B1.out]; rfl
  have c5 : w2.cell? ⟨g1, 5, none⟩ = some (.int .i64 10) := by rw [hk_cell B1.out]; rfl
  have c6 : w2.cell? ⟨g1, 6, none⟩ = some (.int .i64 20) := by rw [hk_cell B1.out]; rfl
  have c7 : w2.cell? ⟨g1, 7, none⟩ = some (.int .i64 1000) := by rw [hk_cell B1.out]; rfl
  have c8 : w2.cell? ⟨g1, 8, none⟩ = some (.int .i64 2147483648) := by rw [hk_cell B1.out]; rfl
  have c9 : w2.cell? ⟨g1, 9, none⟩ = some (.int .i64 4294967296) := by rw [hk_cell B1.out]; rfl
  have c10 : w2.cell? ⟨g1, 10, none⟩ = some (.int .i64 1073741824) := by rw [hk_cell B1.out]; rfl
  have c11 : w2.cell? ⟨g1, 11, none⟩ = some (.int .i64 0) := by rw [hk_cell B1.out]; rfl
  have c12 : w2.cell? ⟨g1, 12, none⟩ = some (.int .i64 1099511627776) := by rw [hk_cell B1.out]; rfl
  have c13 : w2.cell? ⟨g1, 13, none⟩ = some (.int .i64 64) := by rw [hk_cell B1.out]; rfl
  have c14 : w2.cell? ⟨g1, 14, none⟩ = some (.int .i64 4) := by rw [hk_cell B1.out]; rfl
  have c15 : w2.cell? ⟨g1, 15, none⟩ = some (.int .i64 4) := by rw [hk_cell B1.out]; rfl
  rw [show judgeR 4 128 0 3 0 9 = 4 from by decide]
  go_wp2_with fail
  with_reducible refine (judge_walk 4 1000 128 0 2 127 9 (by omega) (by unfold I64; omega) (by omega) _).mono ?_
  rintro e w3 ⟨rfl, hb⟩
  have B2 := Aside0.mk (hk_below hb (hk_lt B1.out) B1.out)
  have HB2 := Aside0.mk (HB.out.trans (hb.mono HB.out.size))
  clear hb B1 HB
  have B1 := B2
  have HB := HB2
  clear B2 HB2
  clear c0 c1 c2 c3 c4 c5 c6 c7 c8 c9 c10 c11 c12 c13 c14 c15
  rw [show judgeR 4 128 0 2 127 9 = 0 from by decide]
  go_wp2_with fail
  with_reducible refine (name_walk 4 (by omega) _ (tab_later HT.out HB.out)).mono ?_
  rintro e w4 ⟨rfl, hb⟩
  have HF := Aside0.mk (HB.out.trans (hb.mono HB.out.size))
  clear hb
  rw [show nameOf 4 = ⟨#[99, 117, 116, 111, 102, 102]⟩ from by rfl]
  go_wp2
  go_ret
  exact ⟨rfl, HF.out⟩
end Go.Proofs.YtknjfohbpchmpaaDoor.Gt
