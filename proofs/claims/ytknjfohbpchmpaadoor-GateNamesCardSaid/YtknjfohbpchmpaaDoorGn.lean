/- GateNames, walked. -/
import Derived.Test.YtknjfohbpchmpaaDoorGe
import Derived.Test.YtknjfohbpchmpaaDoorRf
set_option linter.unusedVariables false
set_option linter.unusedSimpArgs false
namespace Go.Proofs.YtknjfohbpchmpaaDoor.Gt
open Go.RowKit Go.Proofs.YtknjfohbpchmpaaDoorW.PrintWords Go.Proofs.YtknjfohbpchmpaaDoorW.PrintLast Go.Proofs.YtknjfohbpchmpaaDoorW.PrintMore Go.Proofs.YtknjfohbpchmpaaDoorHk
open Go.Proofs.YtknjfohbpchmpaaDoor.PGateJudges
def fnd (x : ByteArray) : Int := Lib.idxOfS nmS x
def fu (x : ByteArray) : Nat → Int
  | 0 => 0
  | k + 1 => if nmS.getD k ⟨#[]⟩ = x then (k : Int) + 1 else fu x k
theorem nm_ne (x : ByteArray) (h : ∀ k, k < 11 → nmS.getD k ⟨#[]⟩ ≠ x) : Lib.idxOfS nmS x = -1 ∧ fu x 11 = 0 := by
  have h0 := h 0 (by omega)
  have h1 := h 1 (by omega)
  have h2 := h 2 (by omega)
  have h3 := h 3 (by omega)
  have h4 := h 4 (by omega)
  have h5 := h 5 (by omega)
  have h6 := h 6 (by omega)
  have h7 := h 7 (by omega)
  have h8 := h 8 (by omega)
  have h9 := h 9 (by omega)
  have h10 := h 10 (by omega)
  constructor
  · exact Lib.idxFromS_miss x nmS 0 (fun j hj => h j hj)
  · unfold fu; rw [if_neg h10]; unfold fu; rw [if_neg h9]; unfold fu; rw [if_neg h8]; unfold fu; rw [if_neg h7]; unfold fu; rw [if_neg h6]; unfold fu; rw [if_neg h5]; unfold fu; rw [if_neg h4]; unfold fu; rw [if_neg h3]; unfold fu; rw [if_neg h2]; unfold fu; rw [if_neg h1]; unfold fu; rw [if_neg h0]; rfl
theorem nm_eq (k : Nat) (hk : k < 11) : Lib.idxOfS nmS (nmS.getD k ⟨#[]⟩) = (k : Int) ∧ fu (nmS.getD k ⟨#[]⟩) 11 = (k : Int) + 1 := by
  rcases (show k = 0 ∨ k = 1 ∨ k = 2 ∨ k = 3 ∨ k = 4 ∨ k = 5 ∨ k = 6 ∨ k = 7 ∨ k = 8 ∨ k = 9 ∨ k = 10 from by omega) with e | e | e | e | e | e | e | e | e | e | e <;> subst e <;> exact ⟨by decide +kernel, by decide +kernel⟩
theorem fnd_eq (x : ByteArray) : fnd x = fu x 11 - 1 ∧ 0 ≤ fu x 11 ∧ fu x 11 ≤ 11 := by
  unfold fnd
  by_cases h : ∃ k, k < 11 ∧ nmS.getD k ⟨#[]⟩ = x
  · obtain ⟨k, hk, rfl⟩ := h
    obtain ⟨h1, h2⟩ := nm_eq k hk
    rw [h1, h2]; omega
  · obtain ⟨h1, h2⟩ := nm_ne x (fun k hk e => h ⟨k, hk, e⟩)
    rw [h1, h2]; omega
set_option maxHeartbeats 3200000 in
set_option maxRecDepth 100000 in
theorem names_walk (w : World) : Calls Tryd.prog 21 #[] w fun e w' => e = .returned (.slice (some ⟨w.heap.size, 0, none⟩) 11 11) ∧ w' = w.alloc (.cells nmCells.toArray 9) := by
  go_enter Tryd.func21, Tryd.ntmps21
  go_wp2
  go_ret
  exact ⟨rfl, rfl⟩
set_option maxHeartbeats 3200000 in
set_option maxRecDepth 100000 in
theorem find_walk (x : ByteArray) (w : World) (ht : Tab w) : Calls Tryd.prog 22 #[.string x] w fun e w' => e = .returned (.tuple #[.int .u8 (fu x 11), .bool (decide (0 < fu x 11))]) ∧ Below w.heap.size w w' := by
  have hf := fields_walk w ht
  unfold allS at hf
  have HF := Aside0.mk hf
  clear hf
  have HB := Aside0.mk ((Below.refl w.heap.size w).alloc (Nat.le_refl _) (.cells nmCells.toArray 9))
  have HC := Aside0.mk (hk_new w (.cells nmCells.toArray 9))
  clear ht
  have HI : Aside0 (∀ W : World, W.heap[w.heap.size]? = some (.cells nmCells.toArray 9) → Calls Tryd.prog 29 #[.slice (some ⟨w.heap.size, 0, none⟩) 11 11, .string x] W fun e w' => e = .returned (.int .i64 (fnd x)) ∧ w' = W) := ⟨fun W hW => by
    have h := Tryd.slices_Index_string w.heap.size 0 11 11 nmS x W (by decide) (by decide) (fun j hj => by
      have hj2 : j < 11 := hj
      rw [Nat.zero_add, hk_cell hW]
      rcases (show j = 0 ∨ j = 1 ∨ j = 2 ∨ j = 3 ∨ j = 4 ∨ j = 5 ∨ j = 6 ∨ j = 7 ∨ j = 8 ∨ j = 9 ∨ j = 10 from by omega) with e | e | e | e | e | e | e | e | e | e | e <;> subst e <;> rfl)
    exact h⟩
  obtain ⟨i, hi⟩ : ∃ i, fnd x = i := ⟨_, rfl⟩
  obtain ⟨h1, h2, h3⟩ := fnd_eq x
  rw [hi] at HI h1
  have HE1 : Aside0 (wrap64 (i + 1) % 256 = fu x 11) := ⟨by rw [w64_in (by omega)]; omega⟩
  have HE2 : Aside0 (decide (0 ≤ i) = decide (0 < fu x 11)) := ⟨by rw [decide_eq_decide]; omega⟩
  clear h1 h2 h3 hi
  go_enter Tryd.func22, Tryd.ntmps22
  go_wp2_with fail
  with_reducible refine HF.out.mono ?_
  rintro e w1 ⟨rfl, hw⟩
  generalize w.alloc (.cells nmCells.toArray 9) = W at hw HB HC
  subst hw
  go_wp2_with fail
  with_reducible refine (HI.out _ HC.out).mono ?_
  rintro e w2 ⟨rfl, hw2⟩
  subst hw2
  go_wp2_with fail
  go_ret2
  rw [HE1.out, HE2.out]
  exact ⟨rfl, HB.out⟩
theorem str_ne {S : ByteArray} (h : S ≠ ⟨#[]⟩) : S.toList.isEmpty = false ∧ ¬ S.toList = [] := by
  have h1 : ¬ S.toList = [] := fun e => h (by rw [ByteArray.toList_eq] at e; exact ByteArray.ext (by simpa using e))
  exact ⟨by simpa using h1, h1⟩
theorem fu_hit {x : ByteArray} {k : Nat} (h : nmS.getD k ⟨#[]⟩ = x) : fu x (k + 1) = (k : Int) + 1 := by rw [fu, if_pos h]
theorem fu_miss {x : ByteArray} {k : Nat} (h : ¬ nmS.getD k ⟨#[]⟩ = x) : fu x (k + 1) = fu x k := by rw [fu, if_neg h]
theorem fu_rng (x : ByteArray) : ∀ k, 0 ≤ fu x k ∧ fu x k ≤ k := by
  intro k
  induction k with
  | zero => exact ⟨Int.le_refl _, Int.le_refl _⟩
  | succ k ih => unfold fu; split <;> omega
theorem nm_cells {W : World} {g : Nat} (h : W.heap[g]? = some (.cells nmCells.toArray 9)) : ∀ i, i < 11 → W.cell? ⟨g, i, none⟩ = some (.string (nmS.getD i ⟨#[]⟩)) := fun i hi => by
  rw [hk_cell h]
  rcases (show i = 0 ∨ i = 1 ∨ i = 2 ∨ i = 3 ∨ i = 4 ∨ i = 5 ∨ i = 6 ∨ i = 7 ∨ i = 8 ∨ i = 9 ∨ i = 10 from by omega) with e | e | e | e | e | e | e | e | e | e | e <;> subst e <;> rfl
set_option maxHeartbeats 3200000 in
set_option maxRecDepth 100000 in
theorem names_row (a0 : Int) (x : ByteArray) (w : World) (w0 : (Lit.int .u8 a0).wf = true) (ht : Tab w) :
    Calls Tryd.prog 7 #[.int .u8 a0, .string x] w fun e w' => e = .returned (.bool true) ∧ Below w.heap.size w w' := by
  have h0 := u8_of w0
  have HT := Aside0.mk ht
  clear w0 ht
  go_enter Tryd.func7, Tryd.ntmps7
  go_wp2_with fail
  with_reducible refine (awake_walk w HT.out).mono ?_
  rintro e w1 ⟨rfl, hb⟩
  have HB := Aside0.mk hb
  clear hb
  go_wp2_with fail
  with_reducible refine (names_walk w1).mono ?_
  rintro e w2 ⟨rfl, hw⟩
  have B2 := Aside0.mk (hk_new w1 (.cells nmCells.toArray 9))
  have HB2 := Aside0.mk (HB.out.alloc HB.out.size (.cells nmCells.toArray 9))
  rw [← hw] at B2 HB2
  clear hw HB
  generalize w1.heap.size = g at B2 ⊢
  obtain ⟨S, hS⟩ : ∃ S, nameOf a0 = S := ⟨_, rfl⟩
  go_upto_region 5 with fail
  go_cut [25] (fun v wx => v = .bool (decide (1 ≤ a0 ∧ a0 ≤ 11)) ∧ wx = w2)
  case first =>
    by_cases h1 : a0 ≥ 1
    · by_cases h2 : a0 ≤ 11
      · go_wp2_with fail
        go_meet
        exact ⟨congrArg Value.bool (decide_eq_true (p := 1 ≤ a0 ∧ a0 ≤ 11) ⟨h1, h2⟩).symm, rfl⟩
      · go_wp2_with fail
        go_meet
        exact ⟨congrArg Value.bool (decide_eq_false (p := 1 ≤ a0 ∧ a0 ≤ 11) (by omega)).symm, rfl⟩
    · go_wp2_with fail
      go_meet
      exact ⟨congrArg Value.bool (decide_eq_false (p := 1 ≤ a0 ∧ a0 ≤ 11) (by omega)).symm, rfl⟩
  case rest =>
  obtain ⟨rfl, rfl⟩ := hcut
  obtain ⟨D, hD⟩ : ∃ D, decide (1 ≤ a0 ∧ a0 ≤ 11) = D := ⟨_, rfl⟩
  rw [hD]
  have HD := Aside0.mk hD
  clear hD
  go_upto_if 25 with fail
  go_cut [6] (fun v wy => v = .string S ∧ wy = wc)
  case first =>
    cases D with
    | true =>
      have h3 : 1 ≤ a0 ∧ a0 ≤ 11 := of_decide_eq_true HD.out
      obtain ⟨i, hi⟩ : ∃ i : Nat, a0 = (i : Int) + 1 := ⟨(a0 - 1).toNat, by omega⟩
      subst hi
      have z := nm_cells B2.out i (by omega)
      have hn : nameOf ((i : Int) + 1) = nmS.getD i ⟨#[]⟩ := by unfold nameOf; rw [if_pos (by omega)]; congr 1
      rw [← hn, hS] at z
      have hi0 : (0 : Int) ≤ (i : Int) := by omega
      have hi1 : (i : Int) < 11 := by omega
      clear hn hS HD h3 h0
      go_wp2_with fail
      go_meet
      exact ⟨rfl, rfl⟩
    | false =>
      have h3 : ¬ (1 ≤ a0 ∧ a0 ≤ 11) := of_decide_eq_false HD.out
      have hn : S = ⟨#[]⟩ := by rw [← hS]; unfold nameOf; rw [if_neg h3]
      subst hn
      clear hS
      go_wp2_with fail
      go_meet
      exact ⟨rfl, rfl⟩
  case rest =>
    obtain ⟨rfl, rfl⟩ := hcut
    have HS := Aside0.mk hS
    clear hS HD
    go_wp2_with fail
    with_reducible refine (find_walk x _ (tab_later HT.out HB2.out)).mono ?_
    rintro e w3 ⟨rfl, hb⟩
    have B3 := Aside0.mk (hk_below hb (hk_lt B2.out) B2.out)
    have HB3 := Aside0.mk (HB2.out.trans (hb.mono HB2.out.size))
    clear hb HB2 B2
    go_wp2_with fail
    have HL : Aside0 (∀ k, k < 11 → w3.cell? ⟨g, k, none⟩ = some (.string (nmS.getD k ⟨#[]⟩))) := ⟨nm_cells B3.out⟩
    go_loop [9, 38] (fun f i => ∃ k : Nat, k ≤ 11 ∧ i = .int .i64 k ∧ f = .int .u8 (fu x k)) (fun _ i => 11 - (intOf i).toNat)
    case atStart => exact ⟨0, by omega, rfl, rfl⟩
    case round =>
      obtain ⟨k, hk, rfl, rfl⟩ := hrel
      by_cases hlt : k < 11
      · have z := HL.out k hlt
        obtain ⟨N, hN⟩ : ∃ N, nmS.getD k ⟨#[]⟩ = N := ⟨_, rfl⟩
        rw [hN] at z
        have HN := Aside0.mk hN
        clear hN
        by_cases he : N = x
        · have HF1 : Aside0 (fu x (k + 1) = (k : Int) + 1) := ⟨fu_hit (by rw [HN.out]; exact he)⟩
          subst he
          go_wp2_with fail
          go_round
          case rel => exact ⟨k + 1, by omega, by go_num, by rw [HF1.out]⟩
          case measure => simp [intOf]; omega
        · have HF1 : Aside0 (fu x (k + 1) = fu x k) := ⟨fu_miss (by rw [HN.out]; exact he)⟩
          have he2 : (N.toList == x.toList) = false := (Lib.bytes_beq_false_iff N x).2 he
          go_wp2_with fail
          go_round
          case rel => exact ⟨k + 1, by omega, by go_num, by rw [HF1.out]⟩
          case measure => simp [intOf]; omega
      · obtain rfl : k = 11 := by omega
        obtain ⟨F, hF⟩ : ∃ F, fu x 11 = F := ⟨_, rfl⟩
        rw [hF]
        have hF0 : 0 ≤ F ∧ F ≤ 11 := by rw [← hF]; exact fu_rng x 11
        clear hF HL hk hlt
        obtain ⟨A, q, hS2, HA⟩ : ∃ (A : Int) (q : Bool), ((q = true ∧ S ≠ ⟨#[]⟩ ∧ A = a0) ∨ (q = false ∧ S = ⟨#[]⟩)) ∧ Aside0 (∀ W : World, Tab W → Calls Tryd.prog 22 #[.string S] W fun e w' => e = .returned (.tuple #[.int .u8 A, .bool q]) ∧ Below W.heap.size W w') := by
          by_cases h3 : 1 ≤ a0 ∧ a0 ≤ 11
          · obtain ⟨i, hi⟩ : ∃ i : Nat, a0 = (i : Int) + 1 := ⟨(a0 - 1).toNat, by omega⟩
            have hn : nameOf a0 = nmS.getD i ⟨#[]⟩ := by rw [hi]; unfold nameOf; rw [if_pos (by omega)]; congr 1
            have hfi : fu S 11 = a0 := by rw [← HS.out, hn, (nm_eq i (by omega)).2, hi]
            refine ⟨a0, true, .inl ⟨rfl, ?_, rfl⟩, ⟨fun W hW => ?_⟩⟩
            · intro he
              rw [he] at hfi
              rw [show fu ⟨#[]⟩ 11 = 0 from by decide +kernel] at hfi
              omega
            · have := find_walk S W hW
              rw [hfi, decide_eq_true (show 0 < a0 by omega)] at this
              exact this
          · have hn : S = ⟨#[]⟩ := by rw [← HS.out]; unfold nameOf; rw [if_neg h3]
            refine ⟨0, false, .inr ⟨rfl, hn⟩, ⟨fun W hW => ?_⟩⟩
            have := find_walk S W hW
            rw [hn, show fu ⟨#[]⟩ 11 = 0 from by decide +kernel] at this
            rw [hn]
            exact this
        have HS2 := Aside0.mk hS2
        have HNW : Aside0 (∀ W : World, Tab W → Calls Tryd.prog 23 #[.int .u8 a0] W fun e w' => e = .returned (.string S) ∧ Below W.heap.size W w') := ⟨fun W hW => by
          have := name_walk a0 h0 W hW
          rw [HS.out] at this
          exact this⟩
        clear hS2 h0
        go_wp2_with fail
        with_reducible refine (HA.out _ (tab_later HT.out HB3.out)).mono ?_
        rintro e w4 ⟨rfl, hb⟩
        have HB4 := Aside0.mk (HB3.out.trans (hb.mono HB3.out.size))
        clear hb HB3 B3 HA
        go_wp2_with fail
        with_reducible refine (HNW.out _ (tab_later HT.out HB4.out)).mono ?_
        rintro e w5 ⟨rfl, hb⟩
        have HB5 := Aside0.mk (HB4.out.trans (hb.mono HB4.out.size))
        clear hb HB4 HNW
        rcases HS2.out with ⟨rfl, h2, rfl⟩ | ⟨rfl, rfl⟩
        · obtain ⟨e1, e2⟩ := str_ne h2
          clear HS2 h2
          go_wp2
          go_ret
          exact ⟨by first | rfl | (simp [e1, e2]; done), HB5.out⟩
        · clear HS2
          go_wp2
          go_ret
          exact ⟨by first | rfl | (simp; done), HB5.out⟩
end Go.Proofs.YtknjfohbpchmpaaDoor.Gt
