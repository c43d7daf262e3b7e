/- The reference's arithmetic by digits, plain: its sum and difference of whole numbers are those that are cut at the ends. -/
import Derived.Test.YtknjfohbpchmpaaDoorGp4
import Derived.Test.YtknjfohbpchmpaaDoorJp
set_option linter.unusedVariables false
set_option linter.unusedSimpArgs false
namespace Go.Proofs.YtknjfohbpchmpaaDoor.Gt
open Go.RowKit Go.Proofs.YtknjfohbpchmpaaDoorW.PrintWords Go.Proofs.YtknjfohbpchmpaaDoorW.PrintLast Go.Proofs.YtknjfohbpchmpaaDoorW.PrintMore
open Go.Proofs.YtknjfohbpchmpaaDoor.PGateJudges
theorem w64_in {n : Int} (h : -9223372036854775808 ≤ n ∧ n ≤ 9223372036854775807) : wrap64 n = n := by unfold wrap64; omega
theorem u64_in {n : Int} (h : 0 ≤ n ∧ n < 18446744073709551616) : IntKind.u64.wrap n = n := by
  exact IntWalk.u64_in _ (by omega)
theorem dig_at (n : Int) (i : Nat) (p : Int) (hp : (2 : Int) ^ (16 * i) = p) (hi : i < 4) (hn : 0 ≤ n) (h0 : 0 < p) : wrap64 (Int.tmod (shr .u64 n (wrap64 (16 * (i : Int)))) 65536) = n / p % 65536 := by
  rw [w64_in (n := 16 * (i : Int)) (by omega)]
  have h1 : shr .u64 n (16 * (i : Int)) = n / p := by
    unfold shr
    rw [show min (16 * (i : Int)).toNat IntKind.u64.bits = 16 * i from by
      rw [show (16 * (i : Int)).toNat = 16 * i from by omega]; exact Nat.min_eq_left (by show 16 * i ≤ 64; omega), hp]
  rw [h1, Int.tmod_eq_emod_of_nonneg (Int.ediv_nonneg hn (by omega))]
  have := Int.emod_nonneg (n / p) (show (65536 : Int) ≠ 0 from by omega)
  have := Int.emod_lt_of_pos (n / p) (show (0 : Int) < 65536 from by omega)
  exact w64_in (by omega)
theorem digs (k : Nat) (lo : Int) (h : 0 ≤ lo) : overfallref01_Digits.f (k + 10) 0 lo = some [lo % 65536, lo / 65536 % 65536, lo / 4294967296 % 65536, lo / 281474976710656 % 65536, 0, 0, 0, 0] := by
  have d0 := dig_at lo 0 1 (by rfl) (by omega) h (by omega)
  have d1 := dig_at lo 1 65536 (by rfl) (by omega) h (by omega)
  have d2 := dig_at lo 2 4294967296 (by rfl) (by omega) h (by omega)
  have d3 := dig_at lo 3 281474976710656 (by rfl) (by omega) h (by omega)
  have e0 := dig_at 0 0 1 (by rfl) (by omega) (by omega) (by omega)
  have e1 := dig_at 0 1 65536 (by rfl) (by omega) (by omega) (by omega)
  have e2 := dig_at 0 2 4294967296 (by rfl) (by omega) (by omega) (by omega)
  have e3 := dig_at 0 3 281474976710656 (by rfl) (by omega) (by omega) (by omega)
  have c0 : wrap64 (0 + 1) = 1 := by unfold wrap64; omega
  have c1 : wrap64 (1 + 1) = 2 := by unfold wrap64; omega
  have c2 : wrap64 (2 + 1) = 3 := by unfold wrap64; omega
  have c3 : wrap64 (3 + 1) = 4 := by unfold wrap64; omega
  have g0 : (0 : Int) ≤ wrap64 (16 * 0) := by unfold wrap64; omega
  have g1 : (0 : Int) ≤ wrap64 (16 * 1) := by unfold wrap64; omega
  have g2 : (0 : Int) ≤ wrap64 (16 * 2) := by unfold wrap64; omega
  have g3 : (0 : Int) ≤ wrap64 (16 * 3) := by unfold wrap64; omega
  rw [show ((0 : Nat) : Int) = 0 from rfl] at d0 e0
  rw [show ((1 : Nat) : Int) = 1 from rfl] at d1 e1
  rw [show ((2 : Nat) : Int) = 2 from rfl] at d2 e2
  rw [show ((3 : Nat) : Int) = 3 from rfl] at d3 e3
  rw [Int.ediv_one] at d0
  have l0 (j : Nat) (x : List Int) (i hi lo' v i' : Int) (h1 : i < 4) (h2 : 0 ≤ wrap64 (16 * i)) (h3 : x.length < 17592186044416) (hv : wrap64 (Int.tmod (shr .u64 lo' (wrap64 (16 * i))) 65536) = v) (hi' : wrap64 (i + 1) = i') :
      overfallref01_Digits.l0 (j + 1) x i hi lo' = overfallref01_Digits.l0 j (x ++ [v]) i' hi lo' := by
    rw [overfallref01_Digits.l0, if_pos h1, if_pos h2, if_pos h3, hv, hi']
  have l1 (j : Nat) (x : List Int) (i hi lo' v i' : Int) (h1 : i < 4) (h2 : 0 ≤ wrap64 (16 * i)) (h3 : x.length < 17592186044416) (hv : wrap64 (Int.tmod (shr .u64 hi (wrap64 (16 * i))) 65536) = v) (hi' : wrap64 (i + 1) = i') :
      overfallref01_Digits.l1 (j + 1) x i hi lo' = overfallref01_Digits.l1 j (x ++ [v]) i' hi lo' := by
    rw [overfallref01_Digits.l1, if_pos h1, if_pos h2, if_pos h3, hv, hi']
  unfold overfallref01_Digits.f
  rw [l0 (k + 9) _ 0 _ _ _ _ (by omega) g0 (by simp) d0 c0, l0 (k + 8) _ 1 _ _ _ _ (by omega) g1 (by simp) d1 c1, l0 (k + 7) _ 2 _ _ _ _ (by omega) g2 (by simp) d2 c2, l0 (k + 6) _ 3 _ _ _ _ (by omega) g3 (by simp) d3 c3]
  rw [overfallref01_Digits.l0, if_neg (by omega)]
  rw [l1 (k + 4) _ 0 _ _ _ _ (by omega) g0 (by simp) e0 c0, l1 (k + 3) _ 1 _ _ _ _ (by omega) g1 (by simp) e1 c1, l1 (k + 2) _ 2 _ _ _ _ (by omega) g2 (by simp) e2 c2, l1 (k + 1) _ 3 _ _ _ _ (by omega) g3 (by simp) e3 c3]
  rw [overfallref01_Digits.l1, if_neg (by omega)]
  simp
def dOK (n : Int) : Prop := 0 ≤ n ∧ n < 65536
theorem vals8 (k : Nat) (a b c d e : Int) (ha : dOK a) (hb : dOK b) (hc : dOK c) (hd : dOK d) (he : dOK e) : overfallref01_Value.f (k + 5) [a, b, c, d, e, 0, 0, 0] = some (e, a + 65536 * b + 4294967296 * c + 281474976710656 * d) := by
  unfold dOK at ha hb hc hd he
  have st (j : Nat) (x : List Int) (i h l u v r s : Int) (hx : x.length = 8) (hi : 0 ≤ i ∧ i < 4) (hu : rd x i = u) (hv : rd x (i + 4) = v) (hr : h * 65536 + v = r) (hs : l * 65536 + u = s) (h1 : 0 ≤ h ∧ 0 ≤ l ∧ 0 ≤ u ∧ 0 ≤ v ∧ r < 18446744073709551616 ∧ s < 18446744073709551616) :
      overfallref01_Value.l0 (j + 1) x i h l = overfallref01_Value.l0 j x (i - 1) r s := by
    rw [overfallref01_Value.l0, if_pos (by omega), if_pos (by omega), if_pos (by omega), w64_in (n := i + 4) (by omega), if_pos (by omega), if_pos (by omega), w64_in (n := i - 1) (by omega), hu, hv, u64_in (n := h * 65536) (by omega), u64_in (n := v) (by omega), u64_in (n := h * 65536 + v) (by omega), u64_in (n := l * 65536) (by omega), u64_in (n := u) (by omega), u64_in (n := l * 65536 + u) (by omega), hr, hs]
  unfold overfallref01_Value.f
  rw [st (k + 4) _ 3 0 0 d 0 0 d rfl (by omega) rfl rfl (by omega) (by omega) (by omega),
    st (k + 3) _ (3 - 1) 0 d c 0 0 (d * 65536 + c) rfl (by omega) rfl rfl (by omega) (by omega) (by omega),
    st (k + 2) _ (3 - 1 - 1) 0 (d * 65536 + c) b 0 0 ((d * 65536 + c) * 65536 + b) rfl (by omega) rfl rfl (by omega) (by omega) (by omega),
    st (k + 1) _ (3 - 1 - 1 - 1) 0 ((d * 65536 + c) * 65536 + b) a e e (((d * 65536 + c) * 65536 + b) * 65536 + a) rfl (by omega) rfl rfl (by omega) (by omega) (by omega)]
  rw [overfallref01_Value.l0, if_neg (by omega)]
  congr 2; omega
theorem add_step (j : Nat) (x y : List Int) (c i u v z c' : Int) (hx : x.length = 8) (hy : y.length = 8) (hi : 0 ≤ i ∧ i < 8) (hu : rd x i = u) (hv : rd y i = v) (ku : dOK u) (kv : dOK v) (kc : 0 ≤ c ∧ c ≤ 1) (hz : (u + v + c) % 65536 = z) (hc : (u + v + c) / 65536 = c') :
    overfallref01_Add.l0 (j + 1) x y c i = overfallref01_Add.l0 j (x.set i.toNat z) y c' (i + 1) := by
  unfold dOK at ku kv
  rw [overfallref01_Add.l0, if_pos (by omega), if_pos (by omega), if_pos (by omega), if_pos (by omega), hu, hv, w64_in (n := u + v) (by omega), w64_in (n := u + v + c) (by omega), Int.tmod_eq_emod_of_nonneg (by omega), Int.tdiv_eq_ediv_of_nonneg (by omega), w64_in (n := (u + v + c) / 65536) (by omega), w64_in (n := i + 1) (by omega), hz, hc]
theorem dig_ok (n : Int) : dOK (n % 65536) := ⟨Int.emod_nonneg _ (by omega), Int.emod_lt_of_pos _ (by omega)⟩
theorem add8 (k : Nat) (X Y : Int) (hX : 0 ≤ X ∧ X < 18446744073709551616) (hY : 0 ≤ Y ∧ Y < 18446744073709551616) : ∃ h l b, overfallref01_Add.f (k + 20) 0 X 0 Y = some (h, l, b) ∧ 0 ≤ l ∧ l < 18446744073709551616 ∧ 0 ≤ h ∧ 18446744073709551616 * h + l = X + Y := by
  unfold overfallref01_Add.f
  rw [digs (k + 10) X hX.1, digs (k + 10) Y hY.1]
  obtain ⟨x0, hx0⟩ : ∃ x0, x0 = X % 65536 := ⟨_, rfl⟩
  obtain ⟨x1, hx1⟩ : ∃ x1, x1 = X / 65536 % 65536 := ⟨_, rfl⟩
  obtain ⟨x2, hx2⟩ : ∃ x2, x2 = X / 4294967296 % 65536 := ⟨_, rfl⟩
  obtain ⟨x3, hx3⟩ : ∃ x3, x3 = X / 281474976710656 % 65536 := ⟨_, rfl⟩
  obtain ⟨y0, hy0⟩ : ∃ y0, y0 = Y % 65536 := ⟨_, rfl⟩
  obtain ⟨y1, hy1⟩ : ∃ y1, y1 = Y / 65536 % 65536 := ⟨_, rfl⟩
  obtain ⟨y2, hy2⟩ : ∃ y2, y2 = Y / 4294967296 % 65536 := ⟨_, rfl⟩
  obtain ⟨y3, hy3⟩ : ∃ y3, y3 = Y / 281474976710656 % 65536 := ⟨_, rfl⟩
  have kx0 : dOK x0 := hx0 ▸ dig_ok _
  have kx1 : dOK x1 := hx1 ▸ dig_ok _
  have kx2 : dOK x2 := hx2 ▸ dig_ok _
  have kx3 : dOK x3 := hx3 ▸ dig_ok _
  have ky0 : dOK y0 := hy0 ▸ dig_ok _
  have ky1 : dOK y1 := hy1 ▸ dig_ok _
  have ky2 : dOK y2 := hy2 ▸ dig_ok _
  have ky3 : dOK y3 := hy3 ▸ dig_ok _
  have hXs : X = x0 + 65536 * x1 + 4294967296 * x2 + 281474976710656 * x3 := by omega
  have hYs : Y = y0 + 65536 * y1 + 4294967296 * y2 + 281474976710656 * y3 := by omega
  rw [← hx0, ← hx1, ← hx2, ← hx3, ← hy0, ← hy1, ← hy2, ← hy3]
  clear hx0 hx1 hx2 hx3 hy0 hy1 hy2 hy3
  simp only [Option.bind_some]
  obtain ⟨z0, hz0⟩ : ∃ z, (x0 + y0 + 0) % 65536 = z := ⟨_, rfl⟩
  obtain ⟨c0, hc0⟩ : ∃ z, (x0 + y0 + 0) / 65536 = z := ⟨_, rfl⟩
  obtain ⟨z1, hz1⟩ : ∃ z, (x1 + y1 + c0) % 65536 = z := ⟨_, rfl⟩
  obtain ⟨c1, hc1⟩ : ∃ z, (x1 + y1 + c0) / 65536 = z := ⟨_, rfl⟩
  obtain ⟨z2, hz2⟩ : ∃ z, (x2 + y2 + c1) % 65536 = z := ⟨_, rfl⟩
  obtain ⟨c2, hc2⟩ : ∃ z, (x2 + y2 + c1) / 65536 = z := ⟨_, rfl⟩
  obtain ⟨z3, hz3⟩ : ∃ z, (x3 + y3 + c2) % 65536 = z := ⟨_, rfl⟩
  obtain ⟨c3, hc3⟩ : ∃ z, (x3 + y3 + c2) / 65536 = z := ⟨_, rfl⟩
  have b0 : 0 ≤ c0 ∧ c0 ≤ 1 := by unfold dOK at kx0 ky0; omega
  have b1 : 0 ≤ c1 ∧ c1 ≤ 1 := by unfold dOK at kx1 ky1; omega
  have b2 : 0 ≤ c2 ∧ c2 ≤ 1 := by unfold dOK at kx2 ky2; omega
  have b3 : 0 ≤ c3 ∧ c3 ≤ 1 := by unfold dOK at kx3 ky3; omega
  have kz : dOK 0 := ⟨by omega, by omega⟩
  rw [add_step (k + 19) _ _ 0 0 x0 y0 z0 c0 rfl rfl (by omega) rfl rfl kx0 ky0 (by omega) hz0 hc0,
    add_step (k + 18) _ _ c0 (0 + 1) x1 y1 z1 c1 rfl rfl (by omega) rfl rfl kx1 ky1 b0 hz1 hc1,
    add_step (k + 17) _ _ c1 (0 + 1 + 1) x2 y2 z2 c2 rfl rfl (by omega) rfl rfl kx2 ky2 b1 hz2 hc2,
    add_step (k + 16) _ _ c2 (0 + 1 + 1 + 1) x3 y3 z3 c3 rfl rfl (by omega) rfl rfl kx3 ky3 b2 hz3 hc3,
    add_step (k + 15) _ _ c3 (0 + 1 + 1 + 1 + 1) 0 0 c3 0 rfl rfl (by omega) rfl rfl kz kz b3 (by omega) (by omega),
    add_step (k + 14) _ _ 0 (0 + 1 + 1 + 1 + 1 + 1) 0 0 0 0 rfl rfl (by omega) rfl rfl kz kz (by omega) (by omega) (by omega),
    add_step (k + 13) _ _ 0 (0 + 1 + 1 + 1 + 1 + 1 + 1) 0 0 0 0 rfl rfl (by omega) rfl rfl kz kz (by omega) (by omega) (by omega),
    add_step (k + 12) _ _ 0 (0 + 1 + 1 + 1 + 1 + 1 + 1 + 1) 0 0 0 0 rfl rfl (by omega) rfl rfl kz kz (by omega) (by omega) (by omega)]
  rw [overfallref01_Add.l0, if_neg (by omega)]
  have hv := vals8 (k + 6) z0 z1 z2 z3 c3 (hz0 ▸ dig_ok _) (hz1 ▸ dig_ok _) (hz2 ▸ dig_ok _) (hz3 ▸ dig_ok _) ⟨by omega, by omega⟩
  refine ⟨_, _, _, (congrArg (fun o => Option.bind o fun bt176 : Int × Int => some (bt176.1, bt176.2, decide ((0 : Int) > 0))) (show overfallref01_Value.f (k + 11) _ = _ from hv)), ?_, ?_, ?_, ?_⟩
  · unfold dOK at *; dsimp only; omega
  · unfold dOK at *; dsimp only; omega
  · exact b3.1
  · unfold dOK at *; dsimp only; omega
theorem sub_step (j : Nat) (x y : List Int) (c i u v z c' : Int) (hx : x.length = 8) (hy : y.length = 8) (hi : 0 ≤ i ∧ i < 8) (hu : rd x i = u) (hv : rd y i = v) (ku : dOK u) (kv : dOK v) (kc : 0 ≤ c ∧ c ≤ 1) (hz : (if u - v - c < 0 then u - v - c + 65536 else u - v - c) = z) (hc : (if u - v - c < 0 then (1 : Int) else 0) = c') :
    overfallref01_Sub.l0 (j + 1) x y c i = overfallref01_Sub.l0 j (x.set i.toNat z) y c' (i + 1) := by
  unfold dOK at ku kv
  rw [overfallref01_Sub.l0, if_pos (by omega), if_pos (by omega), if_pos (by omega), if_pos (by omega), hu, hv, w64_in (n := u - v) (by omega), w64_in (n := u - v - c) (by omega), w64_in (n := u - v - c + 65536) (by omega), w64_in (n := i + 1) (by omega)]
  by_cases h : u - v - c < 0
  · rw [if_pos h] at hz hc ⊢; rw [hz, hc]
  · rw [if_neg h] at hz hc ⊢; rw [hz, hc]
theorem sub8 (k : Nat) (X Y : Int) (hX : 0 ≤ X ∧ X < 18446744073709551616) (hY : 0 ≤ Y ∧ Y < 18446744073709551616) (hXY : Y ≤ X) : ∃ b, overfallref01_Sub.f (k + 20) 0 X 0 Y = some (0, X - Y, b) := by
  unfold overfallref01_Sub.f
  rw [digs (k + 10) X hX.1, digs (k + 10) Y hY.1]
  obtain ⟨x0, hx0⟩ : ∃ x0, x0 = X % 65536 := ⟨_, rfl⟩
  obtain ⟨x1, hx1⟩ : ∃ x1, x1 = X / 65536 % 65536 := ⟨_, rfl⟩
  obtain ⟨x2, hx2⟩ : ∃ x2, x2 = X / 4294967296 % 65536 := ⟨_, rfl⟩
  obtain ⟨x3, hx3⟩ : ∃ x3, x3 = X / 281474976710656 % 65536 := ⟨_, rfl⟩
  obtain ⟨y0, hy0⟩ : ∃ y0, y0 = Y % 65536 := ⟨_, rfl⟩
  obtain ⟨y1, hy1⟩ : ∃ y1, y1 = Y / 65536 % 65536 := ⟨_, rfl⟩
  obtain ⟨y2, hy2⟩ : ∃ y2, y2 = Y / 4294967296 % 65536 := ⟨_, rfl⟩
  obtain ⟨y3, hy3⟩ : ∃ y3, y3 = Y / 281474976710656 % 65536 := ⟨_, rfl⟩
  have kx0 : dOK x0 := hx0 ▸ dig_ok _
  have kx1 : dOK x1 := hx1 ▸ dig_ok _
  have kx2 : dOK x2 := hx2 ▸ dig_ok _
  have kx3 : dOK x3 := hx3 ▸ dig_ok _
  have ky0 : dOK y0 := hy0 ▸ dig_ok _
  have ky1 : dOK y1 := hy1 ▸ dig_ok _
  have ky2 : dOK y2 := hy2 ▸ dig_ok _
  have ky3 : dOK y3 := hy3 ▸ dig_ok _
  have hXs : X = x0 + 65536 * x1 + 4294967296 * x2 + 281474976710656 * x3 := by omega
  have hYs : Y = y0 + 65536 * y1 + 4294967296 * y2 + 281474976710656 * y3 := by omega
  rw [← hx0, ← hx1, ← hx2, ← hx3, ← hy0, ← hy1, ← hy2, ← hy3]
  clear hx0 hx1 hx2 hx3 hy0 hy1 hy2 hy3
  simp only [Option.bind_some]
  obtain ⟨z0, hz0⟩ : ∃ z, (if x0 - y0 - 0 < 0 then x0 - y0 - 0 + 65536 else x0 - y0 - 0) = z := ⟨_, rfl⟩
  obtain ⟨c0, hc0⟩ : ∃ z, (if x0 - y0 - 0 < 0 then (1 : Int) else 0) = z := ⟨_, rfl⟩
  obtain ⟨z1, hz1⟩ : ∃ z, (if x1 - y1 - c0 < 0 then x1 - y1 - c0 + 65536 else x1 - y1 - c0) = z := ⟨_, rfl⟩
  obtain ⟨c1, hc1⟩ : ∃ z, (if x1 - y1 - c0 < 0 then (1 : Int) else 0) = z := ⟨_, rfl⟩
  obtain ⟨z2, hz2⟩ : ∃ z, (if x2 - y2 - c1 < 0 then x2 - y2 - c1 + 65536 else x2 - y2 - c1) = z := ⟨_, rfl⟩
  obtain ⟨c2, hc2⟩ : ∃ z, (if x2 - y2 - c1 < 0 then (1 : Int) else 0) = z := ⟨_, rfl⟩
  obtain ⟨z3, hz3⟩ : ∃ z, (if x3 - y3 - c2 < 0 then x3 - y3 - c2 + 65536 else x3 - y3 - c2) = z := ⟨_, rfl⟩
  obtain ⟨c3, hc3⟩ : ∃ z, (if x3 - y3 - c2 < 0 then (1 : Int) else 0) = z := ⟨_, rfl⟩
  have b0 : 0 ≤ c0 ∧ c0 ≤ 1 := by unfold dOK at kx0 ky0; split at hc0 <;> omega
  have q0 : dOK z0 ∧ z0 = x0 - y0 - 0 + 65536 * c0 := by unfold dOK at *; split at hz0 <;> split at hc0 <;> omega
  have b1 : 0 ≤ c1 ∧ c1 ≤ 1 := by unfold dOK at kx1 ky1; split at hc1 <;> omega
  have q1 : dOK z1 ∧ z1 = x1 - y1 - c0 + 65536 * c1 := by unfold dOK at *; split at hz1 <;> split at hc1 <;> omega
  have b2 : 0 ≤ c2 ∧ c2 ≤ 1 := by unfold dOK at kx2 ky2; split at hc2 <;> omega
  have q2 : dOK z2 ∧ z2 = x2 - y2 - c1 + 65536 * c2 := by unfold dOK at *; split at hz2 <;> split at hc2 <;> omega
  have b3 : 0 ≤ c3 ∧ c3 ≤ 1 := by unfold dOK at kx3 ky3; split at hc3 <;> omega
  have q3 : dOK z3 ∧ z3 = x3 - y3 - c2 + 65536 * c3 := by unfold dOK at *; split at hz3 <;> split at hc3 <;> omega
  have kz : dOK 0 := ⟨by omega, by omega⟩
  rw [sub_step (k + 19) _ _ 0 0 x0 y0 z0 c0 rfl rfl (by omega) rfl rfl kx0 ky0 (by omega) hz0 hc0,
    sub_step (k + 18) _ _ c0 (0 + 1) x1 y1 z1 c1 rfl rfl (by omega) rfl rfl kx1 ky1 b0 hz1 hc1,
    sub_step (k + 17) _ _ c1 (0 + 1 + 1) x2 y2 z2 c2 rfl rfl (by omega) rfl rfl kx2 ky2 b1 hz2 hc2,
    sub_step (k + 16) _ _ c2 (0 + 1 + 1 + 1) x3 y3 z3 c3 rfl rfl (by omega) rfl rfl kx3 ky3 b2 hz3 hc3]
  have hc3 : c3 = 0 := by
    have := q0.1; have := q1.1; have := q2.1; have := q3.1
    unfold dOK at *; omega
  subst hc3
  rw [sub_step (k + 15) _ _ 0 (0 + 1 + 1 + 1 + 1) 0 0 0 0 rfl rfl (by omega) rfl rfl kz kz (by omega) (by simp) (by simp),
    sub_step (k + 14) _ _ 0 (0 + 1 + 1 + 1 + 1 + 1) 0 0 0 0 rfl rfl (by omega) rfl rfl kz kz (by omega) (by simp) (by simp),
    sub_step (k + 13) _ _ 0 (0 + 1 + 1 + 1 + 1 + 1 + 1) 0 0 0 0 rfl rfl (by omega) rfl rfl kz kz (by omega) (by simp) (by simp),
    sub_step (k + 12) _ _ 0 (0 + 1 + 1 + 1 + 1 + 1 + 1 + 1) 0 0 0 0 rfl rfl (by omega) rfl rfl kz kz (by omega) (by simp) (by simp)]
  rw [overfallref01_Sub.l0, if_neg (by omega)]
  have hv := vals8 (k + 6) z0 z1 z2 z3 0 q0.1 q1.1 q2.1 q3.1 kz
  refine ⟨decide ((0 : Int) > 0), (congrArg (fun o => Option.bind o fun bt194 : Int × Int => some (bt194.1, bt194.2, decide ((0 : Int) > 0))) (show overfallref01_Value.f (k + 11) _ = _ from hv)).trans ?_⟩
  dsimp only [Option.bind_some]
  congr 2
  have := q0.2; have := q1.2; have := q2.2; have := q3.2
  congr 1; omega
def addR (a b : Int) : Int := if a + b > 9223372036854775807 then 9223372036854775807 else if a + b < -9223372036854775808 then -9223372036854775808 else a + b
def backR (h l : Int) (s : Bool) : Int := if h > 0 ∨ l ≥ 9223372036854775808 then (if s = true then -9223372036854775808 else 9223372036854775807) else (if s = true then -l else l)
theorem back_eq (k : Nat) (h l : Int) (s : Bool) (h0 : 0 ≤ h) (hl : 0 ≤ l ∧ l < 18446744073709551616) : overfallref02_Back.f (k + 1) h l s = some (backR h l s) := by
  unfold overfallref02_Back.f backR
  by_cases h1 : h > 0
  · rw [if_pos h1, if_pos (.inl h1), overfallref02_Back.j0, if_pos rfl]; cases s <;> rfl
  · rw [if_neg h1, overfallref02_Back.j0]
    by_cases h2 : l ≥ 9223372036854775808
    · have e : (decide (l ≥ 9223372036854775808)) = true := by simpa using h2
      have e2 : (h > 0 ∨ l ≥ 9223372036854775808) := .inr h2
      simp only [e, e2]; cases s <;> simp
    · have e : (decide (l ≥ 9223372036854775808)) = false := by simpa using h2
      have e2 : ¬ (h > 0 ∨ l ≥ 9223372036854775808) := by omega
      have e3 : wrap64 (-l) = -l := w64_in (by omega)
      have e4 : wrap64 l = l := w64_in (by omega)
      simp only [e, e2, e3, e4]; cases s <;> simp
def sizeR (a : Int) : Int := if a ≥ 0 then a else -a
theorem size_eq (a : Int) (h : I64 a) : overfallref02_Size.f a = some (0, sizeR a, decide (a < 0)) := by
  unfold overfallref02_Size.f sizeR
  unfold I64 at h
  by_cases h0 : a ≥ 0
  · rw [if_pos h0, if_pos h0, u64_in (by omega), decide_eq_false (by omega)]
  · rw [if_neg h0, if_neg h0, w64_in (n := a + 1) (by omega), w64_in (n := -(a + 1)) (by omega), u64_in (n := -(a + 1)) (by omega), u64_in (n := -(a + 1) + 1) (by omega), decide_eq_true (by omega)]
    congr 2; congr 1; omega
theorem less_eq (x y : Int) : overfallref01_Less.f 0 x 0 y = some (decide (x < y)) := by
  unfold overfallref01_Less.f; rw [if_neg (by omega), if_pos rfl]
theorem refadd (k : Nat) (a b : Int) (ha : I64 a) (hb : I64 b) : overfallref02_Add.f (k + 20) a b = some (addR a b) := by
  unfold overfallref02_Add.f
  rw [size_eq a ha, size_eq b hb]
  simp only [Option.bind_some]
  have hx : 0 ≤ sizeR a ∧ sizeR a ≤ 9223372036854775808 := by unfold sizeR; unfold I64 at ha; split <;> omega
  have hy : 0 ≤ sizeR b ∧ sizeR b ≤ 9223372036854775808 := by unfold sizeR; unfold I64 at hb; split <;> omega
  by_cases hs : (decide (a < 0) == decide (b < 0)) = true
  · rw [if_pos hs]
    obtain ⟨h, l, bb, e, h1, h2, h3, h4⟩ := add8 k (sizeR a) (sizeR b) (by omega) (by omega)
    rw [e]
    simp only [Option.bind_some]
    rw [back_eq (k + 19) h l _ h3 ⟨h1, h2⟩]
    simp only [Option.bind_some, Option.some.injEq]
    unfold I64 at ha hb
    have hs2 : (a < 0 ↔ b < 0) := by simpa using hs
    unfold backR addR
    unfold sizeR at h4
    by_cases a0 : a < 0
    · have b0 := hs2.1 a0
      rw [if_neg (show ¬ a ≥ 0 by omega), if_neg (show ¬ b ≥ 0 by omega)] at h4
      rw [if_neg (show ¬ a + b > 9223372036854775807 by omega)]
      by_cases h5 : h > 0 ∨ l ≥ 9223372036854775808
      · rw [if_pos h5, if_pos (by simpa using a0)]; split <;> omega
      · rw [if_neg h5, if_pos (by simpa using a0), if_neg (by omega)]; omega
    · have b0 : ¬ b < 0 := fun h => a0 (hs2.2 h)
      rw [if_pos (show a ≥ 0 by omega), if_pos (show b ≥ 0 by omega)] at h4
      by_cases h5 : h > 0 ∨ l ≥ 9223372036854775808
      · rw [if_pos h5, if_neg (by simpa using a0)]; rw [if_pos (by omega)]
      · rw [if_neg h5, if_neg (by simpa using a0), if_neg (by omega), if_neg (by omega)]; omega
  · rw [if_neg hs, less_eq]
    simp only [Option.bind_some]
    have hs2 : ¬ (a < 0 ↔ b < 0) := by simpa using hs
    unfold I64 at ha hb
    by_cases hl : sizeR a < sizeR b
    · rw [if_pos (by simpa using hl)]
      obtain ⟨bb, e⟩ := sub8 k (sizeR b) (sizeR a) (by omega) (by omega) (by omega)
      rw [e]
      simp only [Option.bind_some]
      rw [back_eq (k + 19) 0 _ _ (by omega) (by omega)]
      simp only [Option.bind_some, Option.some.injEq]
      unfold backR addR
      unfold sizeR at hl ⊢
      by_cases a0 : a < 0
      · have b0 : ¬ b < 0 := fun h => hs2 ⟨fun _ => h, fun _ => a0⟩
        rw [if_neg (show ¬ a ≥ 0 by omega), if_pos (show b ≥ 0 by omega)] at hl ⊢
        rw [if_neg (by omega), if_neg (by simpa using b0), if_neg (by omega), if_neg (by omega)]; omega
      · have b0 : b < 0 := by
          rcases Classical.em (b < 0) with h | h
          · exact h
          · exact absurd ⟨fun x => absurd x a0, fun x => absurd x h⟩ hs2
        rw [if_pos (show a ≥ 0 by omega), if_neg (show ¬ b ≥ 0 by omega)] at hl ⊢
        by_cases h5 : -b - a ≥ 9223372036854775808
        · rw [if_pos (.inr h5), if_pos (by simpa using b0), if_neg (by omega), if_neg (by omega)]; omega
        · rw [if_neg (by omega), if_pos (by simpa using b0), if_neg (by omega), if_neg (by omega)]; omega
    · rw [if_neg (by simpa using hl)]
      obtain ⟨bb, e⟩ := sub8 k (sizeR a) (sizeR b) (by omega) (by omega) (by omega)
      rw [e]
      simp only [Option.bind_some]
      rw [back_eq (k + 19) 0 _ _ (by omega) (by omega)]
      simp only [Option.bind_some, Option.some.injEq]
      unfold backR addR
      unfold sizeR at hl ⊢
      by_cases a0 : a < 0
      · have b0 : ¬ b < 0 := fun h => hs2 ⟨fun _ => h, fun _ => a0⟩
        rw [if_neg (show ¬ a ≥ 0 by omega), if_pos (show b ≥ 0 by omega)] at hl ⊢
        by_cases h5 : -a - b ≥ 9223372036854775808
        · rw [if_pos (.inr h5), if_pos (by simpa using a0), if_neg (by omega), if_neg (by omega)]; omega
        · rw [if_neg (by omega), if_pos (by simpa using a0), if_neg (by omega), if_neg (by omega)]; omega
      · have b0 : b < 0 := by
          rcases Classical.em (b < 0) with h | h
          · exact h
          · exact absurd ⟨fun x => absurd x a0, fun x => absurd x h⟩ hs2
        rw [if_pos (show a ≥ 0 by omega), if_neg (show ¬ b ≥ 0 by omega)] at hl ⊢
        rw [if_neg (by omega), if_neg (by simpa using a0), if_neg (by omega), if_neg (by omega)]; omega
theorem refedge (k : Nat) (t b : Int) (ht : 0 ≤ t ∧ t ≤ 8) (hb : I64 b) : overfallref14_Edge.f (k + 20) t b = some (edgeOf t b) := by
  unfold overfallref14_Edge.f overfallref02_Sub.f
  rw [w64_in (n := 128 * t) (by omega)]
  unfold I64 at hb
  by_cases h : b = -9223372036854775808
  · rw [if_pos h, if_pos (by omega)]
    simp only [Option.bind_some, Option.some.injEq]
    unfold edgeOf; rw [if_pos (by omega)]
  · rw [if_neg h, w64_in (n := -b) (by omega), refadd k (128 * t) (-b) (by unfold I64; omega) (by unfold I64; omega)]
    simp only [Option.bind_some, Option.some.injEq]
    unfold edgeOf addR
    split <;> split <;> (try split) <;> omega
def dlR (h now d : Int) : Int := if d > addR now h then addR now h else d
theorem refdl (k : Nat) (h now d : Int) (hh : I64 h) (hn : I64 now) : overfallref14_Deadline.f (k + 20) h now d = some (dlR h now d) := by
  unfold overfallref14_Deadline.f dlR
  rw [refadd k now h hn hh]
  simp only [Option.bind_some]
  split <;> rfl
theorem fixadd (a b : Int) (ha : I64 a) (hb : I64 b) : fix_Add.f a b = some (addR a b) := by
  unfold fix_Add.f fix_end.f addR
  unfold I64 at ha hb
  by_cases a0 : a < 0
  · have d0 : decide (a < 0) = true := by simpa using a0
    by_cases b0 : b < 0
    · have d1 : decide (b < 0) = true := by simpa using b0
      by_cases hg : a + b < -9223372036854775808
      · have hw : wrap64 (a + b) = a + b + 18446744073709551616 := by unfold wrap64; omega
        have d2 : decide (wrap64 (a + b) < 0) = false := by simp; omega
        rw [d0, d1, d2, if_neg (show ¬ a + b > 9223372036854775807 by omega), if_pos hg]; rfl
      · have hw : wrap64 (a + b) = a + b := by unfold wrap64; omega
        have d2 : decide (wrap64 (a + b) < 0) = true := by simp; omega
        rw [d0, d1, d2, if_neg (show ¬ a + b > 9223372036854775807 by omega), if_neg hg, hw]; rfl
    · have d1 : decide (b < 0) = false := by simpa using b0
      have hw : wrap64 (a + b) = a + b := by unfold wrap64; omega
      rw [d0, d1, if_neg (show ¬ a + b > 9223372036854775807 by omega), if_neg (show ¬ a + b < -9223372036854775808 by omega), hw]; rfl
  · have d0 : decide (a < 0) = false := by simpa using a0
    by_cases b0 : b < 0
    · have d1 : decide (b < 0) = true := by simpa using b0
      have hw : wrap64 (a + b) = a + b := by unfold wrap64; omega
      rw [d0, d1, if_neg (show ¬ a + b > 9223372036854775807 by omega), if_neg (show ¬ a + b < -9223372036854775808 by omega), hw]; rfl
    · have d1 : decide (b < 0) = false := by simpa using b0
      by_cases hg : a + b > 9223372036854775807
      · have hw : wrap64 (a + b) = a + b - 18446744073709551616 := by unfold wrap64; omega
        have d2 : decide (wrap64 (a + b) < 0) = true := by simp; omega
        rw [d0, d1, d2, if_pos hg]; rfl
      · have hw : wrap64 (a + b) = a + b := by unfold wrap64; omega
        have d2 : decide (wrap64 (a + b) < 0) = false := by simp; omega
        rw [d0, d1, d2, if_neg hg, if_neg (show ¬ a + b < -9223372036854775808 by omega), hw]; rfl
theorem gatedl (t h now d : Int) (hh : I64 h) (hn : I64 now) : gate_Deadline.f t 64 5 100 50 10 20 h 2147483648 4294967296 1073741824 0 1099511627776 64 4 4 now d = some (dlR h now d) := by
  unfold gate_Deadline.f dlR
  rw [fixadd now h hn hh]
  simp only [Option.bind_some, Option.some.injEq]
  rfl
theorem refjudge (k : Nat) (t level now tier cohort dl : Int) (ht : 0 ≤ t ∧ t ≤ 8) (hl : I64 level) (h3 : I64 tier) (h4 : I64 cohort) : overfallref14_Judge.f (k + 20) t level now tier cohort dl = some (judgeR t level now tier cohort dl) := by
  unfold overfallref14_Judge.f overfallref14_Right.f overfallref14_Key.f judgeR rightOf
  by_cases hr : 0 ≤ tier ∧ tier < t ∧ 0 ≤ cohort ∧ cohort < 128
  · obtain ⟨a1, a2, a3, a4⟩ := hr
    rw [if_pos (by omega), if_pos (by omega), if_pos (by omega)]
    simp only [Option.bind_some]
    have e1 : decide (cohort ≤ 127) = true := by simp; omega
    have e2 : (decide (0 ≤ tier) && decide (tier < t) && decide (0 ≤ cohort) && decide (cohort < 128)) = true := by simp; omega
    rw [e1, e2, if_pos rfl, if_pos rfl]
    rw [refedge k t level ht hl, w64_in (n := 128 * tier) (by omega), w64_in (n := 128 * tier + cohort) (by omega)]
    simp only [Option.bind_some]
    split
    · rfl
    · split <;> split <;> first | rfl | omega
  · have e : (decide (0 ≤ tier) && decide (tier < t) && decide (0 ≤ cohort) && decide (cohort < 128)) = false := by
      rw [Bool.eq_false_iff]; simp; omega
    rw [e]
    split
    · split
      · split
        · rw [decide_eq_false (by omega)]; rfl
        · rfl
      · rfl
    · rfl
end Go.Proofs.YtknjfohbpchmpaaDoor.Gt
