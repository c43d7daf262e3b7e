/- A call's bytes cut off within it are refused. -/
import Derived.Test.YtbochokpfbimaaaRscW
set_option linter.unusedVariables false
set_option linter.unusedSimpArgs false
namespace Go.Proofs.Ytbochokpfbimaaa.PCallOps
open Go.RowKit Go.Proofs.YtbochokpfbimaaaW.PrintWords Go.Proofs.YtbochokpfbimaaaW.PrintLast Go.Proofs.YtbochokpfbimaaaW.PrintMore Go.Proofs.YtbochokpfbimaaaHk Go.Proofs.YtbochokpfbimaaaBs

theorem read_high (xs : List Int) (hx : ∀ i : Nat, i < xs.length → 128 ≤ rd xs i) (hl : xs.length ≤ 9) : ∀ (d i : Nat) (u : Int) (k : Nat), i + d = xs.length → call_Read.l0 (2 * d + 1 + k) u xs (xs.length : Int) i = some (0, 0, 2)
  | 0, i, u, k, h => by
    rw [show 2 * 0 + 1 + k = k + 1 from by omega]
    simp only [call_Read.l0]
    rw [if_neg (by omega)]
  | d + 1, i, u, k, h => by
    rw [show 2 * (d + 1) + 1 + k = (2 * d + 1 + k) + 1 + 1 from by omega]
    have hi := hx i (by omega)
    have e7 : wrap64 (7 * (i : Int)) = 7 * i := by unfold wrap64; omega
    have e1 : wrap64 ((i : Int) + 1) = ((i + 1 : Nat) : Int) := by unfold wrap64; omega
    simp only [call_Read.l0]
    rw [if_pos (by omega), if_pos (by omega), if_pos (by omega), if_neg (by omega)]
    simp only [call_Read.j1, Bool.false_eq_true, if_false]
    rw [if_pos (by rw [e7]; omega), if_pos (by omega), e1]
    exact read_high xs hx hl d (i + 1) _ k (by omega)
theorem vb_high : ∀ (k : Nat) (u : Int) (i : Nat), i + 1 < (vb k u).length → 128 ≤ (vb k u).getD i 0
  | 0, u, i, h => by simp [vb] at h
  | k + 1, u, i, h => by
    by_cases hu : 128 ≤ u
    · rw [vb_big hu] at h ⊢
      cases i with
      | zero => simp; omega
      | succ i => simpa using vb_high k (u / 128) i (by simpa using h)
    · rw [vb_small hu] at h; simp at h
theorem read_cut (n : Int) (i : Nat) (hi : i < (vb 10 (plain n)).length) : call_Read.f 40 ((vb 10 (plain n)).take i) = some (0, ((0 : Nat) : Int), if i = 0 then 5 else 2) := by
  have hv := vb_len10 (plain n)
  by_cases h0 : i = 0
  · subst h0; rfl
  · have hlen : ((vb 10 (plain n)).take i).length = i := by simp; omega
    unfold call_Read.f
    rw [if_neg (by omega), if_neg h0]
    have := read_high ((vb 10 (plain n)).take i) (fun j hj => ?_) (by omega) i 0 0 (39 - 2 * i) (by omega)
    · rw [show 2 * i + 1 + (39 - 2 * i) = 40 from by omega] at this
      exact this
    · have h1 := vb_high 10 (plain n) j (by omega)
      have h2 : rd ((vb 10 (plain n)).take i) j = (vb 10 (plain n)).getD j 0 := by
        have hj' : j < i := by omega
        simp [rd, List.getElem?_take, hj']
      omega
/-- One step over a number that is cut off. -/
theorem step_cut (pre : List Int) (n : Int) (m i : Nat) (hm : m = pre.length) (hi : i < (vb 10 (plain n)).length) : Step (pre ++ (vb 10 (plain n)).take i) m 0 0 m 2 := by
  subst hm
  refine ⟨by simp, .inr ⟨rfl, 0, if i = 0 then 5 else 2, ?_, rfl, by omega, .inr ⟨by split <;> simp, rfl⟩⟩⟩
  rw [List.drop_left]; exact read_cut n i hi
theorem step_stop (l : List Int) (m : Nat) (h : m ≤ l.length) : Step l m 2 0 m 2 := ⟨h, .inl ⟨by decide, rfl, rfl, rfl⟩⟩
theorem bad_cut (x : O4) (hx : x.ok) (i : Nat) (h0 : 0 < i) (hi : i < x.bytes.length) : Bad (x.bytes.take i) := by
  obtain ⟨j, rfl⟩ : ∃ j, i = j + 1 := ⟨i - 1, by omega⟩
  obtain ⟨ht, hh, hn⟩ := hx
  have lt := vb_len10 (plain x.t)
  have lh := vb_len10 (plain x.h)
  have ln := vb_len10 (plain x.n)
  refine ⟨x.k, (nb [x.t, x.h, x.n]).take j, rfl, ?_⟩
  simp only [O4.bytes, nb, List.append_nil, List.length_cons, List.length_append] at hi
  simp only [nb, List.append_nil]
  by_cases h1 : j < (vb 10 (plain x.t)).length
  · have e : (vb 10 (plain x.t) ++ (vb 10 (plain x.h) ++ vb 10 (plain x.n))).take j = (vb 10 (plain x.t)).take j := by rw [List.take_append_of_le_length (by omega)]
    rw [e]
    have s1 := step_cut [x.k] x.t 1 j rfl h1
    exact ⟨_, _, _, _, _, _, _, _, s1, step_stop _ _ (by simp), step_stop _ _ (by simp)⟩
  · obtain ⟨q, rfl⟩ : ∃ q, j = (vb 10 (plain x.t)).length + q := ⟨j - (vb 10 (plain x.t)).length, by omega⟩
    rw [List.take_length_add_append]
    by_cases h2 : q < (vb 10 (plain x.h)).length
    · have e : (vb 10 (plain x.h) ++ vb 10 (plain x.n)).take q = (vb 10 (plain x.h)).take q := by rw [List.take_append_of_le_length (by omega)]
      rw [e]
      have s1 := step_good [x.k] ((vb 10 (plain x.h)).take q) x.t ht (by simp; omega) 1 rfl
      have s2 := step_cut (x.k :: vb 10 (plain x.t)) x.h (1 + (vb 10 (plain x.t)).length) q (by simp; omega) h2
      exact ⟨_, _, _, _, _, _, _, _, s1, by simpa using s2, step_stop _ _ (by simp; omega)⟩
    · obtain ⟨r, rfl⟩ : ∃ r, q = (vb 10 (plain x.h)).length + r := ⟨q - (vb 10 (plain x.h)).length, by omega⟩
      rw [List.take_length_add_append]
      have s1 := step_good [x.k] (vb 10 (plain x.h) ++ (vb 10 (plain x.n)).take r) x.t ht (by simp; omega) 1 rfl
      have s2 := step_good (x.k :: vb 10 (plain x.t)) ((vb 10 (plain x.n)).take r) x.h hh (by simp; omega) (1 + (vb 10 (plain x.t)).length) (by simp; omega)
      have s3 := step_cut (x.k :: (vb 10 (plain x.t) ++ vb 10 (plain x.h))) x.n (1 + (vb 10 (plain x.t)).length + (vb 10 (plain x.h)).length) r (by simp; omega) (by omega)
      exact ⟨_, _, _, _, _, _, _, _, s1, by simpa using s2, by simpa using s3⟩

/-- Where a script may be cut: at an end, or within a call. -/
theorem cut_at : ∀ (l : List O4) (hok : ∀ x ∈ l, x.ok) (k : Nat), k ≤ (sb l).length → ∃ j tail, j ≤ l.length ∧ (sb l).take k = sb (l.take j) ++ tail ∧ (tail = [] ∧ k = (sb (l.take j)).length ∨ Bad tail ∧ ∀ i, i ≤ l.length → k ≠ (sb (l.take i)).length)
  | [], _, k, hk => ⟨0, [], by simp, by simp [sb] at hk ⊢, .inl ⟨rfl, by simpa [sb] using hk⟩⟩
  | x :: l, hok, k, hk => by
    by_cases h : k < x.bytes.length
    · by_cases h0 : k = 0
      · subst h0; exact ⟨0, [], by simp, by simp [sb], .inl ⟨rfl, by simp [sb]⟩⟩
      · refine ⟨0, x.bytes.take k, by simp, ?_, .inr ⟨bad_cut x (hok x (by simp)) k (by omega) h, fun i hi => ?_⟩⟩
        · simp only [sb, List.take_zero, List.nil_append]; rw [List.take_append_of_le_length (by omega)]
        · cases i with
          | zero => simpa [sb] using h0
          | succ i => simp [sb]; omega
    · obtain ⟨q, rfl⟩ : ∃ q, k = x.bytes.length + q := ⟨k - x.bytes.length, by omega⟩
      obtain ⟨j, tail, hj, he, hc⟩ := cut_at l (fun y hy => hok y (by simp [hy])) q (by simp [sb] at hk; omega)
      refine ⟨j + 1, tail, by simpa using hj, ?_, ?_⟩
      · simp only [sb, List.take_succ_cons]; rw [List.take_length_add_append, he, List.append_assoc]
      · rcases hc with ⟨h1, h2⟩ | ⟨h1, h2⟩
        · exact .inl ⟨h1, by rw [List.take_succ_cons]; simp only [sb, List.length_append]; omega⟩
        · refine .inr ⟨h1, fun i hi => ?_⟩
          cases i with
          | zero => have := x.len; simp only [List.take_zero, sb, List.length_nil]; omega
          | succ i => have := h2 i (by simpa using hi); rw [List.take_succ_cons]; simp only [sb, List.length_append]; omega
end Go.Proofs.Ytbochokpfbimaaa.PCallOps
