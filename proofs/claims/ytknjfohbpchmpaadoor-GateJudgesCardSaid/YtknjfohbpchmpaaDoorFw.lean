/- few, walked. -/
import Derived.Test.YtknjfohbpchmpaaDoorFn
import Derived.Test.YtknjfohbpchmpaaDoorGp1
import Derived.Test.YtknjfohbpchmpaaDoorPs
import Derived.Deep.DeepCutAuto
set_option linter.unusedVariables false
set_option linter.unusedSimpArgs false
namespace Go.Proofs.YtknjfohbpchmpaaDoor.Gt
open Go.RowKit Go.Proofs.YtknjfohbpchmpaaDoorW.PrintWords Go.Proofs.YtknjfohbpchmpaaDoorW.PrintLast Go.Proofs.YtknjfohbpchmpaaDoorW.PrintMore Go.Proofs.YtknjfohbpchmpaaDoorHk
open Go.Proofs.YtknjfohbpchmpaaDoor.PGateJudges
/-- A config with so many tiers and that horizon. -/
def cfgC (t h : Int) : Array Value := #[.int .i64 t, .int .i64 64, .int .i64 5, .int .i64 100, .int .i64 50, .int .i64 10, .int .i64 20, .int .i64 h, .int .i64 2147483648, .int .i64 4294967296, .int .i64 1073741824, .int .i64 0, .int .i64 1099511627776, .int .i64 64, .int .i64 4, .int .i64 4]
set_option maxHeartbeats 3200000 in
set_option maxRecDepth 100000 in
theorem few_walk (a h : Int) (ha : 0 ≤ a ∧ a ≤ 255) (w : World) : Calls Tryd.prog 9 #[.int .u8 a, .int .i64 h] w fun e w' => e = .returned (.agg (cfgC (1 + a % 8) h)) ∧ Below w.heap.size w w' := by
  unfold cfgC
  go_enter Tryd.func9, Tryd.ntmps9
  go_wp2_with fail
  with_reducible refine (conf_Default.calls 4 64 5 100 50 10 20 1000 2147483648 4294967296 1073741824 0 1099511627776 64 4 4 _ rfl).mono ?_
  rintro e w1 ⟨rfl, hb⟩
  have HB := Aside0.mk (((Below.refl w.heap.size w).alloc (Nat.le_refl _) (.cells #[.int .i64 0, .int .i64 0, .int .i64 0, .int .i64 0, .int .i64 0, .int .i64 0, .int .i64 0, .int .i64 0, .int .i64 0, .int .i64 0, .int .i64 0, .int .i64 0, .int .i64 0, .int .i64 0, .int .i64 0, .int .i64 0] 25)).trans (hb.mono (World.grownBy_alloc w _ none).size))
  have B4 := Aside0.mk (hk_alloc (hk_below hb (hk_lt (hk_new w (.cells #[.int .i64 0, .int .i64 0, .int .i64 0, .int .i64 0, .int .i64 0, .int .i64 0, .int .i64 0, .int .i64 0, .int .i64 0, .int .i64 0, .int .i64 0, .int .i64 0, .int .i64 0, .int .i64 0, .int .i64 0, .int .i64 0] 25))) (hk_new w (.cells #[.int .i64 0, .int .i64 0, .int .i64 0, .int .i64 0, .int .i64 0, .int .i64 0, .int .i64 0, .int .i64 0, .int .i64 0, .int .i64 0, .int .i64 0, .int .i64 0, .int .i64 0, .int .i64 0, .int .i64 0, .int .i64 0] 25))) (.cells #[.int .i64 4, .int .i64 64, .int .i64 5, .int .i64 100, .int .i64 50, .int .i64 10, .int .i64 20, .int .i64 1000, .int .i64 2147483648, .int .i64 4294967296, .int .i64 1073741824, .int .i64 0, .int .i64 1099511627776, .int .i64 64, .int .i64 4, .int .i64 4] 25))
  have B5 := Aside0.mk (hk_new w1 (.cells #[.int .i64 4, .int .i64 64, .int .i64 5, .int .i64 100, .int .i64 50, .int .i64 10, .int .i64 20, .int .i64 1000, .int .i64 2147483648, .int .i64 4294967296, .int .i64 1073741824, .int .i64 0, .int .i64 1099511627776, .int .i64 64, .int .i64 4, .int .i64 4] 25))
  have HB2 := Aside0.mk (HB.out.alloc HB.out.size (.cells #[.int .i64 4, .int .i64 64, .int .i64 5, .int .i64 100, .int .i64 50, .int .i64 10, .int .i64 20, .int .i64 1000, .int .i64 2147483648, .int .i64 4294967296, .int .i64 1073741824, .int .i64 0, .int .i64 1099511627776, .int .i64 64, .int .i64 4, .int .i64 4] 25))
  have hne : w.heap.size ≠ w1.heap.size := Nat.ne_of_lt (Nat.lt_of_lt_of_le (hk_lt (hk_new w (.cells #[.int .i64 0, .int .i64 0, .int .i64 0, .int .i64 0, .int .i64 0, .int .i64 0, .int .i64 0, .int .i64 0, .int .i64 0, .int .i64 0, .int .i64 0, .int .i64 0, .int .i64 0, .int .i64 0, .int .i64 0, .int .i64 0] 25))) hb.size)
  have HG5 := Aside0.mk HB.out.size
  obtain ⟨T, hT⟩ : ∃ T, T = 1 + a % 8 := ⟨_, rfl⟩
  clear hb HB
  go_upto_region 2 with fail
  generalize w1.alloc (.cells #[.int .i64 4, .int .i64 64, .int .i64 5, .int .i64 100, .int .i64 50, .int .i64 10, .int .i64 20, .int .i64 1000, .int .i64 2147483648, .int .i64 4294967296, .int .i64 1073741824, .int .i64 0, .int .i64 1099511627776, .int .i64 64, .int .i64 4, .int .i64 4] 25) = W at B4 B5 HB2 ⊢
  generalize w1.heap.size = g5 at B5 hne HG5 ⊢
  have y0 : W.cell? ⟨g5, 0, none⟩ = some (.int .i64 4) := by rw [hk_cell B5.out]; rfl
  have y7 : W.cell? ⟨g5, 7, none⟩ = some (.int .i64 1000) := by rw [hk_cell B5.out]; rfl
  have f0 := hk_frozen B5.out 0
  have f7 := hk_frozen B5.out 7
  have hT2 : IntKind.i64.wrap (1 + a % 8) = 1 + a % 8 := IntWalk.i64_in _ (by omega)
  have HT := Aside0.mk hT
  clear hT
  go_upto_region 3 with fail
  have D5 : Aside0 (((W.setCell ⟨g5, 0, none⟩ (.int .i64 (1 + a % 8))).setCell ⟨g5, 7, none⟩ (.int .i64 h)).heap[g5]? = some (.cells #[.int .i64 (1 + a % 8), .int .i64 64, .int .i64 5, .int .i64 100, .int .i64 50, .int .i64 10, .int .i64 20, .int .i64 h, .int .i64 2147483648, .int .i64 4294967296, .int .i64 1073741824, .int .i64 0, .int .i64 1099511627776, .int .i64 64, .int .i64 4, .int .i64 4] 25)) := ⟨hk_set (hk_set B5.out 0 _) 7 _⟩
  have D4 : Aside0 (((W.setCell ⟨g5, 0, none⟩ (.int .i64 (1 + a % 8))).setCell ⟨g5, 7, none⟩ (.int .i64 h)).heap[w.heap.size]? = some (.cells #[.int .i64 0, .int .i64 0, .int .i64 0, .int .i64 0, .int .i64 0, .int .i64 0, .int .i64 0, .int .i64 0, .int .i64 0, .int .i64 0, .int .i64 0, .int .i64 0, .int .i64 0, .int .i64 0, .int .i64 0, .int .i64 0] 25)) := ⟨hk_far (p := ⟨g5, 7, none⟩) (hk_far (p := ⟨g5, 0, none⟩) B4.out hne _) hne _⟩
  have HB3 := Aside0.mk ((HB2.out.setCell (p := ⟨g5, 0, none⟩) HG5.out (.int .i64 (1 + a % 8))).setCell (p := ⟨g5, 7, none⟩) HG5.out (.int .i64 h))
  clear B4 B5 HB2 y0 y7 f0 f7
  generalize (W.setCell ⟨g5, 0, none⟩ (.int .i64 (1 + a % 8))).setCell ⟨g5, 7, none⟩ (.int .i64 h) = W2 at D5 D4 HB3 ⊢
  obtain ⟨g4, hg4⟩ : ∃ g4, g4 = w.heap.size := ⟨_, rfl⟩
  have HG4 := Aside0.mk hg4
  rw [← hg4] at D4 hne ⊢
  clear hg4
  have c0 : W2.cell? ⟨g5, 0, none⟩ = some (.int .i64 (1 + a % 8)) := by rw [hk_cell D5.out]; rfl
  have c1 : W2.cell? ⟨g5, 1, none⟩ = some (.int .i64 64) := by rw [hk_cell D5.out]; rfl
  have c2 : W2.cell? ⟨g5, 2, none⟩ = some (.int .i64 5) := by rw [hk_cell D5.out]; rfl
  have c3 : W2.cell? ⟨g5, 3, none⟩ = some (.int .i64 100) := by rw [hk_cell D5.out]; rfl
  have c4 : W2.cell? ⟨g5, 4, none⟩ = some (.int .i64 50) := by rw [hk_cell D5.out]; rfl
  have c5 : W2.cell? ⟨g5, 5, none⟩ = some (.int .i64 10) := by rw [hk_cell D5.out]; rfl
  have c6 : W2.cell? ⟨g5, 6, none⟩ = some (.int .i64 20) := by rw [hk_cell D5.out]; rfl
  have c7 : W2.cell? ⟨g5, 7, none⟩ = some (.int .i64 h) := by rw [hk_cell D5.out]; rfl
  have c8 : W2.cell? ⟨g5, 8, none⟩ = some (.int .i64 2147483648) := by rw [hk_cell D5.out]; rfl
  have c9 : W2.cell? ⟨g5, 9, none⟩ = some (.int .i64 4294967296) := by rw [hk_cell D5.out]; rfl
  have c10 : W2.cell? ⟨g5, 10, none⟩ = some (.int .i64 1073741824) := by rw [hk_cell D5.out]; rfl
  have c11 : W2.cell? ⟨g5, 11, none⟩ = some (.int .i64 0) := by rw [hk_cell D5.out]; rfl
  have c12 : W2.cell? ⟨g5, 12, none⟩ = some (.int .i64 1099511627776) := by rw [hk_cell D5.out]; rfl
  have c13 : W2.cell? ⟨g5, 13, none⟩ = some (.int .i64 64) := by rw [hk_cell D5.out]; rfl
  have c14 : W2.cell? ⟨g5, 14, none⟩ = some (.int .i64 4) := by rw [hk_cell D5.out]; rfl
  have c15 : W2.cell? ⟨g5, 15, none⟩ = some (.int .i64 4) := by rw [hk_cell D5.out]; rfl
  have z0 : W2.cell? ⟨g4, 0, none⟩ = some (.int .i64 0) := by rw [hk_cell D4.out]; rfl
  have z1 : W2.cell? ⟨g4, 1, none⟩ = some (.int .i64 0) := by rw [hk_cell D4.out]; rfl
  have z2 : W2.cell? ⟨g4, 2, none⟩ = some (.int .i64 0) := by rw [hk_cell D4.out]; rfl
  have z3 : W2.cell? ⟨g4, 3, none⟩ = some (.int .i64 0) := by rw [hk_cell D4.out]; rfl
  have z4 : W2.cell? ⟨g4, 4, none⟩ = some (.int .i64 0) := by rw [hk_cell D4.out]; rfl
  have z5 : W2.cell? ⟨g4, 5, none⟩ = some (.int .i64 0) := by rw [hk_cell D4.out]; rfl
  have z6 : W2.cell? ⟨g4, 6, none⟩ = some (.int .i64 0) := by rw [hk_cell D4.out]; rfl
  have z7 : W2.cell? ⟨g4, 7, none⟩ = some (.int .i64 0) := by rw [hk_cell D4.out]; rfl
  have z8 : W2.cell? ⟨g4, 8, none⟩ = some (.int .i64 0) := by rw [hk_cell D4.out]; rfl
  have z9 : W2.cell? ⟨g4, 9, none⟩ = some (.int .i64 0) := by rw [hk_cell D4.out]; rfl
  have z10 : W2.cell? ⟨g4, 10, none⟩ = some (.int .i64 0) := by rw [hk_cell D4.out]; rfl
  have z11 : W2.cell? ⟨g4, 11, none⟩ = some (.int .i64 0) := by rw [hk_cell D4.out]; rfl
  have z12 : W2.cell? ⟨g4, 12, none⟩ = some (.int .i64 0) := by rw [hk_cell D4.out]; rfl
  have z13 : W2.cell? ⟨g4, 13, none⟩ = some (.int .i64 0) := by rw [hk_cell D4.out]; rfl
  have z14 : W2.cell? ⟨g4, 14, none⟩ = some (.int .i64 0) := by rw [hk_cell D4.out]; rfl
  have z15 : W2.cell? ⟨g4, 15, none⟩ = some (.int .i64 0) := by rw [hk_cell D4.out]; rfl
  have f0 := hk_frozen D4.out 0
  have f1 := hk_frozen D4.out 1
  have f2 := hk_frozen D4.out 2
  have f3 := hk_frozen D4.out 3
  have f4 := hk_frozen D4.out 4
  have f5 := hk_frozen D4.out 5
  have f6 := hk_frozen D4.out 6
  have f7 := hk_frozen D4.out 7
  have f8 := hk_frozen D4.out 8
  have f9 := hk_frozen D4.out 9
  have f10 := hk_frozen D4.out 10
  have f11 := hk_frozen D4.out 11
  have f12 := hk_frozen D4.out 12
  have f13 := hk_frozen D4.out 13
  have f14 := hk_frozen D4.out 14
  have f15 := hk_frozen D4.out 15
  have hne' : g5 ≠ g4 := hne.symm
  go_wp2_with fail
  have hge : w.heap.size ≤ g4 := by rw [HG4.out]; exact Nat.le_refl _
  refine bodyPost_ret (results_cell_row rfl _ _ g4 25 #[.int .i64 (1 + a % 8), .int .i64 64, .int .i64 5, .int .i64 100, .int .i64 50, .int .i64 10, .int .i64 20, .int .i64 h, .int .i64 2147483648, .int .i64 4294967296, .int .i64 1073741824, .int .i64 0, .int .i64 1099511627776, .int .i64 64, .int .i64 4, .int .i64 4] (0, 0) _ rfl (put16 D4.out rfl _ _ _ _ _ _ _ _ _ _ _ _ _ _ _ _) Tryd.underlying25 rfl (by kernel_rfl)) rfl ?_
  exact ⟨rfl, ((((((((((((((((HB3.out.setCell (p := ⟨g4, 0, none⟩) hge _).setCell (p := ⟨g4, 1, none⟩) hge _).setCell (p := ⟨g4, 2, none⟩) hge _).setCell (p := ⟨g4, 3, none⟩) hge _).setCell (p := ⟨g4, 4, none⟩) hge _).setCell (p := ⟨g4, 5, none⟩) hge _).setCell (p := ⟨g4, 6, none⟩) hge _).setCell (p := ⟨g4, 7, none⟩) hge _).setCell (p := ⟨g4, 8, none⟩) hge _).setCell (p := ⟨g4, 9, none⟩) hge _).setCell (p := ⟨g4, 10, none⟩) hge _).setCell (p := ⟨g4, 11, none⟩) hge _).setCell (p := ⟨g4, 12, none⟩) hge _).setCell (p := ⟨g4, 13, none⟩) hge _).setCell (p := ⟨g4, 14, none⟩) hge _).setCell (p := ⟨g4, 15, none⟩) hge _)⟩
end Go.Proofs.YtknjfohbpchmpaaDoor.Gt
