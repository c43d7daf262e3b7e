/- GateEnds, walked. -/
import Derived.Test.YtknjfohbpchmpaaDoorAw
import Derived.Test.YtknjfohbpchmpaaDoorFw
import Derived.Test.YtknjfohbpchmpaaDoorRx
set_option linter.unusedVariables false
set_option linter.unusedSimpArgs false
namespace Go.Proofs.YtknjfohbpchmpaaDoor.Gt
open Go.RowKit Go.Proofs.YtknjfohbpchmpaaDoorW.PrintWords Go.Proofs.YtknjfohbpchmpaaDoorW.PrintLast Go.Proofs.YtknjfohbpchmpaaDoorW.PrintMore Go.Proofs.YtknjfohbpchmpaaDoorHk
open Go.Proofs.YtknjfohbpchmpaaDoor.PGateJudges
theorem u8_of {a : Int} (h : (Lit.int .u8 a).wf = true) : 0 ≤ a ∧ a ≤ 255 := by simpa [Lit.wf, IntKind.min, IntKind.max, IntKind.bits, IntKind.signed] using h
theorem u32_of {a : Int} (h : (Lit.int .u32 a).wf = true) : 0 ≤ a ∧ a ≤ 4294967295 := by simpa [Lit.wf, IntKind.min, IntKind.max, IntKind.bits, IntKind.signed] using h
theorem i64_of {a : Int} (h : (Lit.int .i64 a).wf = true) : -9223372036854775808 ≤ a ∧ a ≤ 9223372036854775807 := by simpa [Lit.wf, IntKind.min, IntKind.max, IntKind.bits, IntKind.signed] using h
theorem ends_n {t lv now a x dl : Int} {P : FuncId} {ar : Array Value} (hd : dl ≤ now) (W : World) (h : Calls Tryd.prog P ar W fun e w' => e = .returned (.int .u8 (judgeR t lv now a x dl)) ∧ Below W.heap.size W w') (hr : 0 ≤ a ∧ a < t ∧ 0 ≤ x ∧ x < 128) : Calls Tryd.prog P ar W fun e w' => e = .returned (.int .u8 3) ∧ Below W.heap.size W w' := by
  rw [judge_in hr, if_pos hd] at h; exact h
theorem ends_z {t b now a x dl : Int} {P : FuncId} {ar : Array Value} (hd : ¬ dl ≤ now) (W : World) (h : Calls Tryd.prog P ar W fun e w' => e = .returned (.int .u8 (judgeR t (-b) now a x dl)) ∧ Below W.heap.size W w') (hr : 0 ≤ a ∧ a < t ∧ 0 ≤ x ∧ x < 128) (hb : 0 ≤ b ∧ b ≤ 4294967295 ∧ t ≤ 8) : Calls Tryd.prog P ar W fun e w' => e = .returned (.int .u8 0) ∧ Below W.heap.size W w' := by
  rw [judge_in hr, if_neg hd, if_neg (by unfold edgeOf; rw [if_neg (by omega)]; omega)] at h; exact h
theorem ends_f {t b now a x dl : Int} {P : FuncId} {ar : Array Value} (hd : ¬ dl ≤ now) (W : World) (h : Calls Tryd.prog P ar W fun e w' => e = .returned (.int .u8 (judgeR t (t * 128 + b) now a x dl)) ∧ Below W.heap.size W w') (hr : 0 ≤ a ∧ a < t ∧ 0 ≤ x ∧ x < 128) (hb : 0 ≤ b ∧ b ≤ 4294967295 ∧ t ≤ 8) : Calls Tryd.prog P ar W fun e w' => e = .returned (.int .u8 4) ∧ Below W.heap.size W w' := by
  rw [judge_in hr, if_neg hd, if_pos (by unfold edgeOf; rw [if_neg (by omega)]; omega)] at h; exact h
set_option maxHeartbeats 3200000 in
set_option maxRecDepth 100000 in
theorem ends_row (a0 a1 a2 a3 a4 a5 : Int) (w : World) (w0 : (Lit.int .u8 a0).wf = true) (w1 : (Lit.int .u8 a1).wf = true) (w2 : (Lit.int .u8 a2).wf = true) (w3 : (Lit.int .i64 a3).wf = true) (w4 : (Lit.int .i64 a4).wf = true) (w5 : (Lit.int .u32 a5).wf = true) (ht : Tab w) :
    Calls Tryd.prog 4 #[.int .u8 a0, .int .u8 a1, .int .u8 a2, .int .i64 a3, .int .i64 a4, .int .u32 a5] w fun e w' => e = .returned (.bool true) ∧ Below w.heap.size w w' := by
  have h0 := u8_of w0
  have h1 := u8_of w1
  have h2 := u8_of w2
  have h3 := i64_of w3
  have h4 := i64_of w4
  have h5 := u32_of w5
  have HT := Aside0.mk ht
  clear w0 w1 w2 w3 w4 w5 ht
  go_enter Tryd.func4, Tryd.ntmps4
  go_wp2_with fail
  with_reducible refine (awake_walk w HT.out).mono ?_
  rintro e w1 ⟨rfl, hb⟩
  have HB := Aside0.mk hb
  clear hb
  go_wp2_with fail
  with_reducible refine (few_walk a0 1000 h0 _).mono ?_
  rintro e w2 ⟨rfl, hb⟩
  have HB2 := Aside0.mk (HB.out.trans (hb.mono HB.out.size))
  clear hb HB
  have HB := HB2
  clear HB2
  unfold cfgC
  obtain ⟨T, hT⟩ : ∃ T : Int, T = 1 + a0 % 8 := ⟨_, rfl⟩
  have hT1 : 1 ≤ T := by omega
  have hT8 : T ≤ 8 := by omega
  rw [← hT]
  have HT0 := Aside0.mk hT
  clear hT
  go_upto_region 4 with fail
  have B1 := Aside0.mk (hk_new w2 (.cells #[.int .i64 T, .int .i64 64, .int .i64 5, .int .i64 100, .int .i64 50, .int .i64 10, .int .i64 20, .int .i64 1000, .int .i64 2147483648, .int .i64 4294967296, .int .i64 1073741824, .int .i64 0, .int .i64 1099511627776, .int .i64 64, .int .i64 4, .int .i64 4] 25))
  have HB0 := Aside0.mk (HB.out.alloc HB.out.size (.cells #[.int .i64 T, .int .i64 64, .int .i64 5, .int .i64 100, .int .i64 50, .int .i64 10, .int .i64 20, .int .i64 1000, .int .i64 2147483648, .int .i64 4294967296, .int .i64 1073741824, .int .i64 0, .int .i64 1099511627776, .int .i64 64, .int .i64 4, .int .i64 4] 25))
  clear HB
  have HB := HB0
  clear HB0
  generalize w2.alloc (.cells #[.int .i64 T, .int .i64 64, .int .i64 5, .int .i64 100, .int .i64 50, .int .i64 10, .int .i64 20, .int .i64 1000, .int .i64 2147483648, .int .i64 4294967296, .int .i64 1073741824, .int .i64 0, .int .i64 1099511627776, .int .i64 64, .int .i64 4, .int .i64 4] 25) = W at B1 HB ⊢
  generalize w2.heap.size = g1 at B1 ⊢
  have c0 : W.cell? ⟨g1, 0, none⟩ = some (.int .i64 T) := by rw [hk_cell B1.out]; rfl
  have c1 : W.cell? ⟨g1, 1, none⟩ = some (.int .i64 64) := by rw [hk_cell B1.out]; rfl
  have c2 : W.cell? ⟨g1, 2, none⟩ = some (.int .i64 5) := by rw [hk_cell B1.out]; rfl
  have c3 : W.cell? ⟨g1, 3, none⟩ = some (.int .i64 100) := by rw [hk_cell B1.out]; rfl
  have c4 : W.cell? ⟨g1, 4, none⟩ = some (.int .i64 50) := by rw [hk_cell B1.out]; rfl
  have c5 : W.cell? ⟨g1, 5, none⟩ = some (.int .i64 10) := by rw [hk_cell B1.out]; rfl
  have c6 : W.cell? ⟨g1, 6, none⟩ = some (.int .i64 20) := by rw [hk_cell B1.out]; rfl
  have c7 : W.cell? ⟨g1, 7, none⟩ = some (.int .i64 1000) := by rw [hk_cell B1.out]; rfl
  have c8 : W.cell? ⟨g1, 8, none⟩ = some (.int .i64 2147483648) := by rw [hk_cell B1.out]; rfl
  have c9 : W.cell? ⟨g1, 9, none⟩ = some (.int .i64 4294967296) := by rw [hk_cell B1.out]; rfl
  have c10 : W.cell? ⟨g1, 10, none⟩ = some (.int .i64 1073741824) := by rw [hk_cell B1.out]; rfl
  have c11 : W.cell? ⟨g1, 11, none⟩ = some (.int .i64 0) := by rw [hk_cell B1.out]; rfl
  have c12 : W.cell? ⟨g1, 12, none⟩ = some (.int .i64 1099511627776) := by rw [hk_cell B1.out]; rfl
  have c13 : W.cell? ⟨g1, 13, none⟩ = some (.int .i64 64) := by rw [hk_cell B1.out]; rfl
  have c14 : W.cell? ⟨g1, 14, none⟩ = some (.int .i64 4) := by rw [hk_cell B1.out]; rfl
  have c15 : W.cell? ⟨g1, 15, none⟩ = some (.int .i64 4) := by rw [hk_cell B1.out]; rfl
  obtain ⟨A, hA⟩ : ∃ A : Int, A = a1 % T := ⟨_, rfl⟩
  have hA0 : 0 ≤ A := by rw [hA]; exact Int.emod_nonneg _ (by omega)
  have hA1 : A < T := by rw [hA]; exact Int.emod_lt_of_pos _ (by omega)
  obtain ⟨X, hX⟩ : ∃ X : Int, X = a2 % 128 := ⟨_, rfl⟩
  have hX0 : 0 ≤ X := by omega
  have hX1 : X < 128 := by omega
  have HA := Aside0.mk hA
  have HX := Aside0.mk hX
  clear hA hX
  go_upto_region 5 with fail
  try rw [← HA.out]
  try rw [← HX.out]
  clear h0 h1 h2
  have HM : Aside0 (∀ W : World, Calls Tryd.prog 12 #[.agg #[.int .i64 T, .int .i64 64, .int .i64 5, .int .i64 100, .int .i64 50, .int .i64 10, .int .i64 20, .int .i64 1000, .int .i64 2147483648, .int .i64 4294967296, .int .i64 1073741824, .int .i64 0, .int .i64 1099511627776, .int .i64 64, .int .i64 4, .int .i64 4]] W fun e w' => e = .returned (.int .i64 (T * 128)) ∧ Below W.heap.size W w') := ⟨fun W => conf_Config_Most.calls T 64 5 100 50 10 20 1000 2147483648 4294967296 1073741824 0 1099511627776 64 4 4 (T * 128) W (by unfold conf_Config_Most.f wrap64; congr 1; omega)⟩
  have hn : IntKind.i64.wrap (-a5) = -a5 := IntWalk.i64_in _ (by omega)
  have hp : IntKind.i64.wrap (T * 128 + a5) = T * 128 + a5 := IntWalk.i64_in _ (by omega)
  have hr := fun W => @lw_cell W
  have hgl : g1 < W.heap.size := hk_lt B1.out
  obtain ⟨p, q, hpq, HN, HP⟩ : ∃ p q : Int, ((a4 ≤ a3 ∧ p = 3 ∧ q = 3) ∨ (¬ a4 ≤ a3 ∧ p = 0 ∧ q = 4)) ∧ Aside0 (∀ W : World, Calls Tryd.prog 11 #[.agg #[.int .i64 T, .int .i64 64, .int .i64 5, .int .i64 100, .int .i64 50, .int .i64 10, .int .i64 20, .int .i64 1000, .int .i64 2147483648, .int .i64 4294967296, .int .i64 1073741824, .int .i64 0, .int .i64 1099511627776, .int .i64 64, .int .i64 4, .int .i64 4], .int .i64 (-a5), .int .i64 a3, .int .i64 A, .int .i64 X, .int .i64 a4] W fun e w' => e = .returned (.int .u8 p) ∧ Below W.heap.size W w') ∧ Aside0 (∀ W : World, Calls Tryd.prog 11 #[.agg #[.int .i64 T, .int .i64 64, .int .i64 5, .int .i64 100, .int .i64 50, .int .i64 10, .int .i64 20, .int .i64 1000, .int .i64 2147483648, .int .i64 4294967296, .int .i64 1073741824, .int .i64 0, .int .i64 1099511627776, .int .i64 64, .int .i64 4, .int .i64 4], .int .i64 (T * 128 + a5), .int .i64 a3, .int .i64 A, .int .i64 X, .int .i64 a4] W fun e w' => e = .returned (.int .u8 q) ∧ Below W.heap.size W w') := by
    by_cases hd : a4 ≤ a3
    · exact ⟨3, 3, .inl ⟨hd, rfl, rfl⟩, ⟨fun W => (ends_n hd W (judge_walk T 1000 (-a5) a3 A X a4 (by omega) (by unfold I64; omega) (by omega) W) (by omega))⟩, ⟨fun W => (ends_n hd W (judge_walk T 1000 (T * 128 + a5) a3 A X a4 (by omega) (by unfold I64; omega) (by omega) W) (by omega))⟩⟩
    · exact ⟨0, 4, .inr ⟨hd, rfl, rfl⟩, ⟨fun W => (ends_z hd W (judge_walk T 1000 (-a5) a3 A X a4 (by omega) (by unfold I64; omega) (by omega) W) (by omega) (by omega))⟩, ⟨fun W => (ends_f hd W (judge_walk T 1000 (T * 128 + a5) a3 A X a4 (by omega) (by unfold I64; omega) (by omega) W) (by omega) (by omega))⟩⟩
  have HPQ := Aside0.mk hpq
  clear hpq
  refine Go.Proofs.YtknjfohbpchmpaaDoorRx.region_laterL (by kernel_rfl) (by kernel_rfl) (by kernel_rfl) ?_
  repeat (go_big_quiet_step (first
    | (go_at_call 12; refine later_call (HM.out _))
    | (go_at_call 11; first | with_reducible exact later_call (HN.out _) | with_reducible exact later_call (HP.out _))))
  refine wpQuiet_nil ?_
  rintro w4 ⟨⟨_, hb4⟩, rfl⟩
  have HF := Aside0.mk (HB.out.trans (hb4.mono HB.out.size))
  clear hb4 hr hn hp
  clear c0 c1 c2 c3 c4 c5 c6 c7 c8 c9 c10 c11 c12 c13 c14 c15 HN HP HM
  rcases HPQ.out with ⟨hd, rfl, rfl⟩ | ⟨hd, rfl, rfl⟩ <;> clear HPQ <;> go_wp2 <;> go_ret <;> exact ⟨rfl, HF.out⟩
end Go.Proofs.YtknjfohbpchmpaaDoor.Gt
