/- The walks of awake and CallSizes. -/
import Derived.Test.YtbochokpfbimaaaNumW
set_option linter.unusedVariables false
set_option linter.unusedSimpArgs false
namespace Go.Proofs.Ytbochokpfbimaaa.PCallOps
open Go.RowKit Go.Proofs.YtbochokpfbimaaaW.PrintWords Go.Proofs.YtbochokpfbimaaaW.PrintLast Go.Proofs.YtbochokpfbimaaaW.PrintMore Go.Proofs.YtbochokpfbimaaaHk Go.Proofs.YtbochokpfbimaaaBs

/-- Number of nothing. -/
theorem number_nil (n : Int) (w : World) (hn : I64 n) : Calls Try.prog 9 #[.slice none 0 0, .int .i64 n] w (NumPost w (vb 10 (plain n))) :=
  number_walk none 0 [] n w (rb_nil w) (by simp) (fun _ => rfl) (by simp) hn

theorem equal_same (xs : List Int) : bytes_Equal.f xs xs = some true := by simp [bytes_Equal.f]
theorem drawn_below {w w' : World} (h : Drawn0 w w') : Below w.heap.size w w' := h.below

theorem rb_new (W : World) (xs : List Int) (h : xs.length ≤ 9223372036854775807) : Rb (W.alloc (.cells (nums .u8 xs).toArray 5)) (some ⟨W.heap.size, 0, none⟩) xs := by
  refine ⟨rfl, h, fun hp => ⟨_, rfl, fun j hj => ?_⟩⟩
  rw [add_plain]
  have := hk_cell (hk_new W (.cells (nums .u8 xs).toArray 5)) j
  rw [this]; simp [nums, List.getElem?_eq_getElem hj]
theorem equal_yes (A0 A1 : Option Addr) (c0 c1 : Nat) (xs : List Int) (w : World) (h0 : Rb w A0 xs) (h1 : Rb w A1 xs) (l0 : xs.length ≤ c0) (l1 : xs.length ≤ c1) :
    Calls Try.prog 12 #[.slice A0 xs.length c0, .slice A1 xs.length c1] w fun e w' => e = .returned (.bool true) ∧ Below w.heap.size w w' :=
  (bytes_Equal.calls A0 c0 xs A1 c1 xs true w h0.C l0 h1.C l1 (equal_same xs)).mono fun _ _ ⟨he, hd⟩ => ⟨he, hd.below⟩
theorem vb_m1 : vb 10 (plain (-1)) = [1] := by decide
theorem vb_64 : vb 10 (plain 64) = [128, 1] := by decide
set_option maxHeartbeats 1600000 in
set_option maxRecDepth 100000 in
theorem awake_walk (w : World) : Calls Try.prog 7 #[] w fun e w' => e = .returned (.bool true) ∧ Below w.heap.size w w' := by
  go_enter Try.func7, Try.ntmps7
  go_wp2_with fail
  refine (number_nil (-1) w (by unfold I64; omega)).mono ?_
  rw [vb_m1]
  rintro e w1 ⟨A1, c1, rfl, hl1, hr1, hb1⟩
  have HB1 := Aside0.mk hb1
  have HR1 := Aside0.mk hr1
  clear hb1 hr1
  go_wp2_with fail
  refine (equal_yes A1 (some ⟨w1.heap.size, 0, none⟩) c1 1 [1] _ (HR1.out.below ((Below.refl _ _).alloc (Nat.le_refl _) _)) (rb_new w1 [1] (by simp)) hl1 (by simp)).mono ?_
  rintro e w2 ⟨rfl, hb2⟩
  have HB2 := Aside0.mk (hk_then (HB1.out.alloc HB1.out.size _) hb2 (by have := HB1.out.size; simp; omega))
  clear hb2
  go_wp2_with fail
  refine (number_nil 64 w2 (by unfold I64; omega)).mono ?_
  rw [vb_64]
  rintro e w3 ⟨A3, c3, rfl, hl3, hr3, hb3⟩
  have HB3 := Aside0.mk (hk_then HB2.out hb3 HB2.out.size)
  have HR3 := Aside0.mk hr3
  clear hb3 hr3
  go_wp2_with fail
  refine (equal_yes A3 (some ⟨w3.heap.size, 0, none⟩) c3 2 [128, 1] _ (HR3.out.below ((Below.refl _ _).alloc (Nat.le_refl _) _)) (rb_new w3 [128, 1] (by simp)) hl3 (by simp)).mono ?_
  rintro e w4 ⟨rfl, hb4⟩
  have HB4 := Aside0.mk (hk_then (HB3.out.alloc HB3.out.size _) hb4 (by have := HB3.out.size; simp; omega))
  clear hb4
  go_wp2
  go_ret
  exact ⟨rfl, HB4.out⟩

theorem plain_eq {n : Int} (h : I64 n) : overfallref18_Plain.f n = some (plain n) := by
  unfold I64 at h
  unfold overfallref18_Plain.f plain
  by_cases h0 : n ≥ 0
  · rw [if_pos h0, if_pos h0, IntKind.wrap_u64, IntKind.wrap_u64]; congr 1; omega
  · rw [if_neg h0, if_neg h0, IntKind.wrap_u64, IntKind.wrap_u64, IntKind.wrap_u64]; unfold wrap64; congr 1; omega
theorem plain_walk (n : Int) (w : World) (h : I64 n) : Calls Try.prog 8 #[.int .i64 n] w fun e w' => e = .returned (.int .u64 (plain n)) ∧ Below w.heap.size w w' :=
  (overfallref18_Plain.calls n _ w (plain_eq h)).mono fun _ _ ⟨he, hd⟩ => ⟨he, hd.below⟩
theorem vb_len : ∀ (k : Nat) (x : Int), (vb k x).length ≤ k
  | 0, _ => by simp [vb]
  | k + 1, x => by
    unfold vb; split
    · simp; exact vb_len k _
    · simp
theorem vb_mono : ∀ (k : Nat) (x y : Int), x ≤ y → (vb k x).length ≤ (vb k y).length
  | 0, _, _, _ => by simp [vb]
  | k + 1, x, y, h => by
    unfold vb
    by_cases hx : 128 ≤ x
    · rw [if_pos hx, if_pos (by omega)]; simp; exact vb_mono k _ _ (by omega)
    · rw [if_neg hx]; split <;> simp

theorem vb_pos {x : Int} {L : Nat} (h : (vb 10 x).length = L) : 1 ≤ L := by
  have h1 : 0 < (vb 10 x).length := by unfold vb; split <;> simp
  omega
/-- What stands behind the two tests: from numbers of one order on. -/
def SizPost (w : World) (e : Ending) (w' : World) : Prop := e = .returned (.bool true) ∧ Below w.heap.size w w'
set_option maxHeartbeats 6400000 in
set_option maxRecDepth 100000 in
theorem sizes_A (a b b1 : Int) (w : World) (ha : I64 a) (hb : I64 b1) (hsg : (decide (a < 0) == decide (b < 0)) = false) (hw : wrap64 (-(wrap64 (b + 1))) = b1) : Calls Try.prog 3 #[.int .i64 a, .int .i64 b] w (SizPost w) := by
  have Ha := Aside0.mk ha; clear ha
  have Hb := Aside0.mk hb; clear hb
  by_cases hgt : plain b1 < plain a
  · have hgt' : decide (plain b1 < plain a) = true := by simpa using hgt
    have hpq : plain b1 ≤ plain a := by omega
    have Hpq := Aside0.mk hpq
    clear hgt hpq
    go_enter Try.func3, Try.ntmps3
    go_wp2_with fail
    with_reducible refine (awake_walk w).mono ?_
    rintro e w1 ⟨rfl, hb1⟩
    have HB1 := Aside0.mk hb1; clear hb1
    go_wp2_with fail
    with_reducible refine (plain_walk a w1 Ha.out).mono ?_
    rintro e w2 ⟨rfl, hb2⟩
    have HB2 := Aside0.mk (hk_then HB1.out hb2 HB1.out.size); clear hb2 HB1
    go_wp2_with fail
    with_reducible refine (plain_walk b1 w2 Hb.out).mono ?_
    rintro e w3 ⟨rfl, hb3⟩
    have HB3 := Aside0.mk (hk_then HB2.out hb3 HB2.out.size); clear hb3 HB2
    go_wp2_with fail
    with_reducible refine (number_nil b1 w3 Hb.out).mono ?_
    rintro e w4 ⟨A4, c4, rfl, hl4, hr4, hb4⟩
    have HB4 := Aside0.mk (hk_then HB3.out hb4 HB3.out.size)
    have hv4 := vb_len 10 (plain b1)
    have hmn := vb_mono 10 _ _ Hpq.out
    have hLx' := Aside0.mk (rfl : (vb 10 (plain b1)).length = (vb 10 (plain b1)).length)
    clear hb4 hr4 HB3
    generalize hLx : (vb 10 (plain b1)).length = Lx at hl4 hv4 hmn ⊢
    have HLx := Aside0.mk hLx; clear hLx hLx'
    go_wp2_with fail
    with_reducible refine (number_nil a w4 Ha.out).mono ?_
    rintro e w5 ⟨A5, c5, rfl, hl5, hr5, hb5⟩
    have HB5 := Aside0.mk (hk_then HB4.out hb5 HB4.out.size)
    have hv5 := vb_len 10 (plain a)
    clear hb5 hr5 HB4
    generalize (vb 10 (plain a)).length = Ly at *
    go_wp2_with fail
    with_reducible refine (plain_walk b1 w5 Hb.out).mono ?_
    rintro e w6 ⟨rfl, hb6⟩
    have HB6 := Aside0.mk (hk_then HB5.out hb6 HB5.out.size)
    have hpu := plain_u64 Hb.out
    unfold U64 at hpu
    clear hb6 HB5
    have hx1 : ((Lx : Int) == (Lx : Int)) = true := by simp
    have hx2 : decide (Lx ≤ Ly) = true := by simpa using hmn
    have hx3 : decide (Ly ≤ 10) = true := by simpa using hv5
    have hx4 : decide ((Lx : Int) ≤ (Ly : Int)) = true := by simp; omega
    have hx5 : decide ((Ly : Int) ≤ 10) = true := by simp; omega
    go_wp2_with fail
    go_loop [7, 8] (fun v7 v8 => ∃ (k m : Nat) (u : Int), v7 = .int .i64 m ∧ v8 = .int .u64 u ∧ 0 ≤ u ∧ u ≤ 18446744073709551615 ∧ u < 2 * 128 ^ k ∧ m ≤ Lx ∧ Aside0 (m + (vb (k + 1) u).length = Lx + 1)) (fun _ v8 => (intOf v8).toNat)
    case atStart => exact ⟨9, 1, plain b1, rfl, rfl, hpu.1, hpu.2, by omega, vb_pos HLx.out, ⟨by rw [HLx.out]; omega⟩⟩
    case round =>
      obtain ⟨k, m, u, rfl, rfl, hu0, hu1, huk, hm, HV⟩ := hrel
      by_cases hge : 128 ≤ u
      · obtain ⟨j, rfl⟩ : ∃ j, k = j + 1 := by
          cases k with
          | zero => simp at huk; omega
          | succ j => exact ⟨j, rfl⟩
        have huj : u / 128 < 2 * 128 ^ j := by rw [Int.pow_succ] at huk; omega
        have hV : Aside0 (m + 1 + (vb (j + 1) (u / 128)).length = Lx + 1) := ⟨by have := HV.out; rw [vb_big hge] at this; simp at this; omega⟩
        have hml : m + 1 ≤ Lx := by
          have h0 : 0 < (vb (j + 1) (u / 128)).length := by unfold vb; split <;> simp
          have := hV.out; omega
        clear huk HV
        go_wp2
        go_round
        case rel => exact ⟨j, m + 1, u / 128, by go_num, rfl, by omega, by omega, huj, hml, hV⟩
        case measure => simp [intOf]; omega
      · obtain rfl : m = Lx := by have := HV.out; rw [vb_small hge] at this; simp at this; omega
        clear huk HV
        go_wp2
        go_ret
        exact ⟨by first | rfl | simp [*], HB6.out⟩

  · have hgt' : decide (plain b1 < plain a) = false := by simpa using hgt
    have hpq : plain a ≤ plain b1 := by omega
    have Hpq := Aside0.mk hpq
    clear hgt hpq
    go_enter Try.func3, Try.ntmps3
    go_wp2_with fail
    with_reducible refine (awake_walk w).mono ?_
    rintro e w1 ⟨rfl, hb1⟩
    have HB1 := Aside0.mk hb1; clear hb1
    go_wp2_with fail
    with_reducible refine (plain_walk a w1 Ha.out).mono ?_
    rintro e w2 ⟨rfl, hb2⟩
    have HB2 := Aside0.mk (hk_then HB1.out hb2 HB1.out.size); clear hb2 HB1
    go_wp2_with fail
    with_reducible refine (plain_walk b1 w2 Hb.out).mono ?_
    rintro e w3 ⟨rfl, hb3⟩
    have HB3 := Aside0.mk (hk_then HB2.out hb3 HB2.out.size); clear hb3 HB2
    go_wp2_with fail
    with_reducible refine (number_nil a w3 Ha.out).mono ?_
    rintro e w4 ⟨A4, c4, rfl, hl4, hr4, hb4⟩
    have HB4 := Aside0.mk (hk_then HB3.out hb4 HB3.out.size)
    have hv4 := vb_len 10 (plain a)
    have hmn := vb_mono 10 _ _ Hpq.out
    have hLx' := Aside0.mk (rfl : (vb 10 (plain a)).length = (vb 10 (plain a)).length)
    clear hb4 hr4 HB3
    generalize hLx : (vb 10 (plain a)).length = Lx at hl4 hv4 hmn ⊢
    have HLx := Aside0.mk hLx; clear hLx hLx'
    go_wp2_with fail
    with_reducible refine (number_nil b1 w4 Hb.out).mono ?_
    rintro e w5 ⟨A5, c5, rfl, hl5, hr5, hb5⟩
    have HB5 := Aside0.mk (hk_then HB4.out hb5 HB4.out.size)
    have hv5 := vb_len 10 (plain b1)
    clear hb5 hr5 HB4
    generalize (vb 10 (plain b1)).length = Ly at *
    go_wp2_with fail
    with_reducible refine (plain_walk a w5 Ha.out).mono ?_
    rintro e w6 ⟨rfl, hb6⟩
    have HB6 := Aside0.mk (hk_then HB5.out hb6 HB5.out.size)
    have hpu := plain_u64 Ha.out
    unfold U64 at hpu
    clear hb6 HB5
    have hx1 : ((Lx : Int) == (Lx : Int)) = true := by simp
    have hx2 : decide (Lx ≤ Ly) = true := by simpa using hmn
    have hx3 : decide (Ly ≤ 10) = true := by simpa using hv5
    have hx4 : decide ((Lx : Int) ≤ (Ly : Int)) = true := by simp; omega
    have hx5 : decide ((Ly : Int) ≤ 10) = true := by simp; omega
    go_wp2_with fail
    go_loop [7, 8] (fun v7 v8 => ∃ (k m : Nat) (u : Int), v7 = .int .i64 m ∧ v8 = .int .u64 u ∧ 0 ≤ u ∧ u ≤ 18446744073709551615 ∧ u < 2 * 128 ^ k ∧ m ≤ Lx ∧ Aside0 (m + (vb (k + 1) u).length = Lx + 1)) (fun _ v8 => (intOf v8).toNat)
    case atStart => exact ⟨9, 1, plain a, rfl, rfl, hpu.1, hpu.2, by omega, vb_pos HLx.out, ⟨by rw [HLx.out]; omega⟩⟩
    case round =>
      obtain ⟨k, m, u, rfl, rfl, hu0, hu1, huk, hm, HV⟩ := hrel
      by_cases hge : 128 ≤ u
      · obtain ⟨j, rfl⟩ : ∃ j, k = j + 1 := by
          cases k with
          | zero => simp at huk; omega
          | succ j => exact ⟨j, rfl⟩
        have huj : u / 128 < 2 * 128 ^ j := by rw [Int.pow_succ] at huk; omega
        have hV : Aside0 (m + 1 + (vb (j + 1) (u / 128)).length = Lx + 1) := ⟨by have := HV.out; rw [vb_big hge] at this; simp at this; omega⟩
        have hml : m + 1 ≤ Lx := by
          have h0 : 0 < (vb (j + 1) (u / 128)).length := by unfold vb; split <;> simp
          have := hV.out; omega
        clear huk HV
        go_wp2
        go_round
        case rel => exact ⟨j, m + 1, u / 128, by go_num, rfl, by omega, by omega, huj, hml, hV⟩
        case measure => simp [intOf]; omega
      · obtain rfl : m = Lx := by have := HV.out; rw [vb_small hge] at this; simp at this; omega
        clear huk HV
        go_wp2
        go_ret
        exact ⟨by first | rfl | simp [*], HB6.out⟩

set_option maxHeartbeats 6400000 in
set_option maxRecDepth 100000 in
theorem sizes_B (a b : Int) (w : World) (ha : I64 a) (hb : I64 b) (hsg : (decide (a < 0) == decide (b < 0)) = true) : Calls Try.prog 3 #[.int .i64 a, .int .i64 b] w (SizPost w) := by
  have Ha := Aside0.mk ha; clear ha
  have Hb := Aside0.mk hb; clear hb
  by_cases hgt : plain b < plain a
  · have hgt' : decide (plain b < plain a) = true := by simpa using hgt
    have hpq : plain b ≤ plain a := by omega
    have Hpq := Aside0.mk hpq
    clear hgt hpq
    go_enter Try.func3, Try.ntmps3
    go_wp2_with fail
    with_reducible refine (awake_walk w).mono ?_
    rintro e w1 ⟨rfl, hb1⟩
    have HB1 := Aside0.mk hb1; clear hb1
    go_wp2_with fail
    with_reducible refine (plain_walk a w1 Ha.out).mono ?_
    rintro e w2 ⟨rfl, hb2⟩
    have HB2 := Aside0.mk (hk_then HB1.out hb2 HB1.out.size); clear hb2 HB1
    go_wp2_with fail
    with_reducible refine (plain_walk b w2 Hb.out).mono ?_
    rintro e w3 ⟨rfl, hb3⟩
    have HB3 := Aside0.mk (hk_then HB2.out hb3 HB2.out.size); clear hb3 HB2
    go_wp2_with fail
    with_reducible refine (number_nil b w3 Hb.out).mono ?_
    rintro e w4 ⟨A4, c4, rfl, hl4, hr4, hb4⟩
    have HB4 := Aside0.mk (hk_then HB3.out hb4 HB3.out.size)
    have hv4 := vb_len 10 (plain b)
    have hmn := vb_mono 10 _ _ Hpq.out
    have hLx' := Aside0.mk (rfl : (vb 10 (plain b)).length = (vb 10 (plain b)).length)
    clear hb4 hr4 HB3
    generalize hLx : (vb 10 (plain b)).length = Lx at hl4 hv4 hmn ⊢
    have HLx := Aside0.mk hLx; clear hLx hLx'
    go_wp2_with fail
    with_reducible refine (number_nil a w4 Ha.out).mono ?_
    rintro e w5 ⟨A5, c5, rfl, hl5, hr5, hb5⟩
    have HB5 := Aside0.mk (hk_then HB4.out hb5 HB4.out.size)
    have hv5 := vb_len 10 (plain a)
    clear hb5 hr5 HB4
    generalize (vb 10 (plain a)).length = Ly at *
    go_wp2_with fail
    with_reducible refine (plain_walk b w5 Hb.out).mono ?_
    rintro e w6 ⟨rfl, hb6⟩
    have HB6 := Aside0.mk (hk_then HB5.out hb6 HB5.out.size)
    have hpu := plain_u64 Hb.out
    unfold U64 at hpu
    clear hb6 HB5
    have hx1 : ((Lx : Int) == (Lx : Int)) = true := by simp
    have hx2 : decide (Lx ≤ Ly) = true := by simpa using hmn
    have hx3 : decide (Ly ≤ 10) = true := by simpa using hv5
    have hx4 : decide ((Lx : Int) ≤ (Ly : Int)) = true := by simp; omega
    have hx5 : decide ((Ly : Int) ≤ 10) = true := by simp; omega
    go_wp2_with fail
    go_loop [7, 8] (fun v7 v8 => ∃ (k m : Nat) (u : Int), v7 = .int .i64 m ∧ v8 = .int .u64 u ∧ 0 ≤ u ∧ u ≤ 18446744073709551615 ∧ u < 2 * 128 ^ k ∧ m ≤ Lx ∧ Aside0 (m + (vb (k + 1) u).length = Lx + 1)) (fun _ v8 => (intOf v8).toNat)
    case atStart => exact ⟨9, 1, plain b, rfl, rfl, hpu.1, hpu.2, by omega, vb_pos HLx.out, ⟨by rw [HLx.out]; omega⟩⟩
    case round =>
      obtain ⟨k, m, u, rfl, rfl, hu0, hu1, huk, hm, HV⟩ := hrel
      by_cases hge : 128 ≤ u
      · obtain ⟨j, rfl⟩ : ∃ j, k = j + 1 := by
          cases k with
          | zero => simp at huk; omega
          | succ j => exact ⟨j, rfl⟩
        have huj : u / 128 < 2 * 128 ^ j := by rw [Int.pow_succ] at huk; omega
        have hV : Aside0 (m + 1 + (vb (j + 1) (u / 128)).length = Lx + 1) := ⟨by have := HV.out; rw [vb_big hge] at this; simp at this; omega⟩
        have hml : m + 1 ≤ Lx := by
          have h0 : 0 < (vb (j + 1) (u / 128)).length := by unfold vb; split <;> simp
          have := hV.out; omega
        clear huk HV
        go_wp2
        go_round
        case rel => exact ⟨j, m + 1, u / 128, by go_num, rfl, by omega, by omega, huj, hml, hV⟩
        case measure => simp [intOf]; omega
      · obtain rfl : m = Lx := by have := HV.out; rw [vb_small hge] at this; simp at this; omega
        clear huk HV
        go_wp2
        go_ret
        exact ⟨by first | rfl | simp [*], HB6.out⟩

  · have hgt' : decide (plain b < plain a) = false := by simpa using hgt
    have hpq : plain a ≤ plain b := by omega
    have Hpq := Aside0.mk hpq
    clear hgt hpq
    go_enter Try.func3, Try.ntmps3
    go_wp2_with fail
    with_reducible refine (awake_walk w).mono ?_
    rintro e w1 ⟨rfl, hb1⟩
    have HB1 := Aside0.mk hb1; clear hb1
    go_wp2_with fail
    with_reducible refine (plain_walk a w1 Ha.out).mono ?_
    rintro e w2 ⟨rfl, hb2⟩
    have HB2 := Aside0.mk (hk_then HB1.out hb2 HB1.out.size); clear hb2 HB1
    go_wp2_with fail
    with_reducible refine (plain_walk b w2 Hb.out).mono ?_
    rintro e w3 ⟨rfl, hb3⟩
    have HB3 := Aside0.mk (hk_then HB2.out hb3 HB2.out.size); clear hb3 HB2
    go_wp2_with fail
    with_reducible refine (number_nil a w3 Ha.out).mono ?_
    rintro e w4 ⟨A4, c4, rfl, hl4, hr4, hb4⟩
    have HB4 := Aside0.mk (hk_then HB3.out hb4 HB3.out.size)
    have hv4 := vb_len 10 (plain a)
    have hmn := vb_mono 10 _ _ Hpq.out
    have hLx' := Aside0.mk (rfl : (vb 10 (plain a)).length = (vb 10 (plain a)).length)
    clear hb4 hr4 HB3
    generalize hLx : (vb 10 (plain a)).length = Lx at hl4 hv4 hmn ⊢
    have HLx := Aside0.mk hLx; clear hLx hLx'
    go_wp2_with fail
    with_reducible refine (number_nil b w4 Hb.out).mono ?_
    rintro e w5 ⟨A5, c5, rfl, hl5, hr5, hb5⟩
    have HB5 := Aside0.mk (hk_then HB4.out hb5 HB4.out.size)
    have hv5 := vb_len 10 (plain b)
    clear hb5 hr5 HB4
    generalize (vb 10 (plain b)).length = Ly at *
    go_wp2_with fail
    with_reducible refine (plain_walk a w5 Ha.out).mono ?_
    rintro e w6 ⟨rfl, hb6⟩
    have HB6 := Aside0.mk (hk_then HB5.out hb6 HB5.out.size)
    have hpu := plain_u64 Ha.out
    unfold U64 at hpu
    clear hb6 HB5
    have hx1 : ((Lx : Int) == (Lx : Int)) = true := by simp
    have hx2 : decide (Lx ≤ Ly) = true := by simpa using hmn
    have hx3 : decide (Ly ≤ 10) = true := by simpa using hv5
    have hx4 : decide ((Lx : Int) ≤ (Ly : Int)) = true := by simp; omega
    have hx5 : decide ((Ly : Int) ≤ 10) = true := by simp; omega
    go_wp2_with fail
    go_loop [7, 8] (fun v7 v8 => ∃ (k m : Nat) (u : Int), v7 = .int .i64 m ∧ v8 = .int .u64 u ∧ 0 ≤ u ∧ u ≤ 18446744073709551615 ∧ u < 2 * 128 ^ k ∧ m ≤ Lx ∧ Aside0 (m + (vb (k + 1) u).length = Lx + 1)) (fun _ v8 => (intOf v8).toNat)
    case atStart => exact ⟨9, 1, plain a, rfl, rfl, hpu.1, hpu.2, by omega, vb_pos HLx.out, ⟨by rw [HLx.out]; omega⟩⟩
    case round =>
      obtain ⟨k, m, u, rfl, rfl, hu0, hu1, huk, hm, HV⟩ := hrel
      by_cases hge : 128 ≤ u
      · obtain ⟨j, rfl⟩ : ∃ j, k = j + 1 := by
          cases k with
          | zero => simp at huk; omega
          | succ j => exact ⟨j, rfl⟩
        have huj : u / 128 < 2 * 128 ^ j := by rw [Int.pow_succ] at huk; omega
        have hV : Aside0 (m + 1 + (vb (j + 1) (u / 128)).length = Lx + 1) := ⟨by have := HV.out; rw [vb_big hge] at this; simp at this; omega⟩
        have hml : m + 1 ≤ Lx := by
          have h0 : 0 < (vb (j + 1) (u / 128)).length := by unfold vb; split <;> simp
          have := hV.out; omega
        clear huk HV
        go_wp2
        go_round
        case rel => exact ⟨j, m + 1, u / 128, by go_num, rfl, by omega, by omega, huj, hml, hV⟩
        case measure => simp [intOf]; omega
      · obtain rfl : m = Lx := by have := HV.out; rw [vb_small hge] at this; simp at this; omega
        clear huk HV
        go_wp2
        go_ret
        exact ⟨by first | rfl | simp [*], HB6.out⟩

theorem sizes_walk (a b : Int) (w : World) (ha : I64 a) (hb : I64 b) : Calls Try.prog 3 #[.int .i64 a, .int .i64 b] w (SizPost w) := by
  cases hsg : (decide (a < 0) == decide (b < 0))
  · exact sizes_A a b (-(b + 1)) w ha (by unfold I64 at *; omega) hsg (by unfold I64 at hb; unfold wrap64; omega)
  · exact sizes_B a b w ha hb hsg
theorem sizes_row (a b : Int) (w : World) (wa : (Lit.int .i64 a).wf = true) (wb : (Lit.int .i64 b).wf = true) : Calls Try.prog 3 #[.int .i64 a, .int .i64 b] w fun e w' => e = .returned (.bool true) ∧ Below w.heap.size w w' := by
  refine sizes_walk a b w ?_ ?_
  · simp [Lit.wf, IntKind.min, IntKind.max, IntKind.bits, IntKind.signed] at wa; unfold I64; omega
  · simp [Lit.wf, IntKind.min, IntKind.max, IntKind.bits, IntKind.signed] at wb; unfold I64; omega
end Go.Proofs.Ytbochokpfbimaaa.PCallOps
