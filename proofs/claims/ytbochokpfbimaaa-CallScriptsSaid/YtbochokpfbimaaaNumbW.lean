/- The walk of CallNumbers. -/
import Derived.Test.YtbochokpfbimaaaCloW
import Derived.Test.YtbochokpfbimaaaFlat
set_option linter.unusedVariables false
set_option linter.unusedSimpArgs false
namespace Go.Proofs.Ytbochokpfbimaaa.PCallOps
open Go.RowKit Go.Proofs.YtbochokpfbimaaaW.PrintWords Go.Proofs.YtbochokpfbimaaaW.PrintLast Go.Proofs.YtbochokpfbimaaaW.PrintMore Go.Proofs.YtbochokpfbimaaaHk Go.Proofs.YtbochokpfbimaaaBs
theorem min2_mn (k k' : IntKind) (x y : Int) : Builtin.min2 (.int k x) (.int k' y) = pure (.int k (mn x y)) := min2_int k k' x y
theorem mn_nat (a b : Nat) : mn (a : Int) (b : Int) = ((min a b : Nat) : Int) := by unfold mn; split <;> omega
attribute [local go_sem] min2_mn min_two
theorem read_walk (A : Option Addr) (c : Nat) (n : Int) (post : List Int) (w : World) (h : I64 n) (hl : post.length + 10 ≤ 140737488355328) (hr : Rb w A (vb 10 (plain n) ++ post)) (hc : (vb 10 (plain n) ++ post).length ≤ c) :
    Calls Try.prog 11 #[.slice A (vb 10 (plain n) ++ post).length c] w fun e w' => e = .returned (.tuple #[.int .i64 n, .int .i64 (vb 10 (plain n)).length, .int .i64 0]) ∧ Below w.heap.size w w' :=
  (call_Read.calls 40 A c _ _ _ _ w hr.C hc (read_back n h post hl)).mono fun _ _ ⟨he, hd⟩ => ⟨he, hd.below⟩
set_option maxHeartbeats 3200000 in
set_option maxRecDepth 100000 in
theorem numbers_walk (A : Option Addr) (c : Nat) (xs : List Int) (n : Int) (w : World) (hr : Rb w A xs) (hc : xs.length ≤ c) (hA : A = none → c = 0) (hl : xs.length ≤ 140737488351232) (hcm : c ≤ 9223372036854775807) (hn : I64 n) :
    Calls Try.prog 4 #[.slice A xs.length c, .int .i64 n] w fun e w' => e = .returned (.bool true) ∧ Below w.heap.size w w' := by
  obtain ⟨L, hL⟩ : ∃ L, L = min xs.length 40 := ⟨_, rfl⟩
  have hmn : mn (xs.length : Int) 40 = (L : Int) := by rw [hL]; exact mn_nat _ 40
  have hL0 : L ≤ xs.length := by omega
  have hL4 : L ≤ 40 := by omega
  obtain ⟨ys, hys⟩ : ∃ ys, ys = xs.take L := ⟨_, rfl⟩
  have hyl : ys.length = L := by rw [hys]; simp; omega
  have Hr := Aside0.mk (show Rb w A ys by rw [hys]; have := ReadsInt.take_ hr L hL0; rw [Rb, List.length_take, Nat.min_eq_left hL0]; exact this)
  have Hn := Aside0.mk hn; clear hn
  have HA := Aside0.mk hA; clear hA
  clear hL hys hr
  generalize xs.length = X at *
  go_enter Try.func4, Try.ntmps4
  go_wp2_with fail
  with_reducible refine (awake_walk w).mono ?_
  rintro e w1 ⟨rfl, hb1⟩
  have HR1 := Aside0.mk (Hr.out.below hb1)
  have HB1 := Aside0.mk hb1; clear hb1
  go_wp2_with fail
  subst hyl
  with_reducible refine (clone_walk A c ys w1 HR1.out (by omega) HA.out (by omega)).mono ?_
  rintro e w2 ⟨A2, c2, rfl, hg2, hb2⟩
  have HR2 := Aside0.mk (HR1.out.below hb2)
  have HB2 := Aside0.mk hb2
  have HG2 := Aside0.mk hg2
  clear hb2 hg2
  go_wp2_with (at_builtin; refine gb_append (w0 := w1) w1.heap.size rfl _ _ 25 5 rfl Try.underlying25 Try.info5 A2 c2 ys _ rfl rfl HG2.out HB2.out HB2.out.size (by omega) ?_; intro A3 c3 w3 hg3 hb3; have hle3 : ys.length ≤ c3 := by have := hg3.le; simp at this; omega)
  have HG3 := Aside0.mk hg3
  have hne3 : A3 = none → c3 = 0 := fun h => (hg3.nil h).2
  have hRt : Rb w3 A3 ys := by
    have h1 := ReadsInt.take_ hg3.reads ys.length (by simp)
    rw [List.take_left] at h1; exact h1
  have HB3 := Aside0.mk (hk_then HB1.out hb3 HB1.out.size)
  have HR3 := Aside0.mk (HR1.out.below hb3)
  clear hb3
  with_reducible refine (number_walk A3 c3 ys n w3 hRt hle3 hne3 (by omega) Hn.out).mono ?_
  obtain ⟨zs, hzs⟩ : ∃ zs, zs = vb 10 (plain n) := ⟨_, rfl⟩
  have hzl := vb_len10 (plain n)
  rw [← hzs] at hzl ⊢
  have HZ := Aside0.mk hzs
  rintro e w4 ⟨A4, c4, rfl, hl4, hr4, hb4⟩
  clear hRt hne3 hzs
  have hmn2 : mn (ys.length : Int) ((ys.length : Int) + (zs.length : Int)) = (ys.length : Int) := by unfold mn; split <;> omega
  have hl4' : ys.length + zs.length ≤ c4 := by simpa using hl4
  have hc4 : c4 ≠ ys.length := by omega
  have hRd : Rb w4 (Option.map (fun x => x.add ys.length) A4) zs := by
    have h1 := ReadsInt.drop_ (k := .u8) (c := c4) hr4 ys.length (by simp) (by simpa using hl4')
    rw [if_neg hc4, List.drop_left] at h1
    simpa [Rb] using h1
  have HB4 := Aside0.mk (hk_then HB3.out hb4 HB3.out.size)
  have HR4 := Aside0.mk (HR3.out.below hb4)
  have HP4 := Aside0.mk hr4
  obtain ⟨b3, o3, rfl, hcell⟩ := HG3.out.reads.addr (by simp)
  have hc90 := hcell ys.length (by simp)
  have hlt3 : b3 < w4.heap.size := Nat.lt_of_lt_of_le (World.block_lt_of_cell? w3 _ hc90) hb4.size
  have H90 := Aside0.mk ((hb4.cell (p := ⟨b3, o3 + ys.length, none⟩) (World.block_lt_of_cell? w3 _ hc90)).trans (hc90.trans (by simp : some (Value.int .u8 ((ys ++ [90]).getD ys.length 0)) = some (.int .u8 90))))
  clear hb4 hr4 hcell hc90 HG3 HR1 HB2 HG2 HB3 HR3
  go_wp2_with fail
  rw [HZ.out] at hRd
  have hrw := read_walk (Option.map (fun x => x.add ys.length) A4) (c4 - ys.length) n [] w4 Hn.out (by simp) (by simpa using hRd) (by rw [List.append_nil, ← HZ.out]; omega)
  rw [List.append_nil, ← HZ.out] at hrw
  have HRW := Aside0.mk hrw
  clear hRd hrw
  with_reducible refine HRW.out.mono ?_
  rintro e w5 ⟨rfl, hb5⟩
  have HB5 := Aside0.mk (hk_then HB4.out hb5 HB4.out.size)
  have HR5 := Aside0.mk (HR4.out.below hb5)
  have HP5 := Aside0.mk (HP4.out.below hb5)
  have H95 := Aside0.mk ((hb5.cell (p := ⟨b3, o3 + ys.length, none⟩) hlt3).trans H90.out)
  have hlt5 : b3 < w5.heap.size := Nat.lt_of_lt_of_le hlt3 hb5.size
  clear hb5 HRW HB4 HR4 HP4 H90
  go_wp2_with fail
  with_reducible refine (clone_walk A c ys w5 HR5.out (by omega) HA.out (by omega)).mono ?_
  rintro e w6 ⟨A6, c6, rfl, hg6, hb6⟩
  have HX6 := Aside0.mk hb6
  have HG6 := Aside0.mk hg6
  have hs6 := hb6.size
  clear hg6 hb6
  go_wp2_with fail
  have hrn := refnum_walk n w6 Hn.out
  rw [← HZ.out] at hrn
  have HRN := Aside0.mk hrn
  clear hrn
  with_reducible refine HRN.out.mono ?_
  rintro e w7 ⟨A7, c7, rfl, hl7, hr7, hb7⟩
  have HX7 := Aside0.mk (hk_then HX6.out hb7 HX6.out.size)
  have HG7 := Aside0.mk (HG6.out.below hb7)
  have HR7 := Aside0.mk hr7
  have hs7 := hb7.size
  clear hr7 hb7 HG6 HRN HX6
  go_wp2_with (at_builtin; refine gb_append_row (w0 := w7) w5.heap.size rfl _ _ 25 5 rfl Try.underlying25 Try.info5 A6 c6 ys zs A7 c7 rfl rfl HG7.out HR7.out (by omega) (Below.refl _ _) (by omega) (by omega) ?_; intro A8 c8 w8 hg8 hb8)
  have HX8 := Aside0.mk (HX7.out.trans hb8)
  have hs8 := hb8.size
  have HP8 := Aside0.mk (HP5.out.below HX8.out)
  have HR8 := Aside0.mk hg8.reads
  have hl8 : (ys ++ zs).length ≤ c8 := hg8.le
  have HB8 := Aside0.mk (hk_then HB5.out HX8.out HB5.out.size)
  have H98 := Aside0.mk ((HX8.out.cell (p := ⟨b3, o3 + ys.length, none⟩) hlt5).trans H95.out)
  have hlt8 : b3 < w8.heap.size := Nat.lt_of_lt_of_le hlt5 HX8.out.size
  have hq := equal_yes A4 A8 c4 c8 (ys ++ zs) w8 HP8.out HR8.out (by simpa using hl4') hl8
  rw [List.length_append] at hq
  have HQ := Aside0.mk hq
  clear hq hg8 hb8 HX7 HG7 HR7 HB5 HP5 H95 hs6 hs7 hl8
  with_reducible refine HQ.out.mono ?_
  rintro e w9 ⟨rfl, hb9⟩
  have HB9 := Aside0.mk (hk_then HB8.out hb9 HB8.out.size)
  have h99 := (hb9.cell (p := ⟨b3, o3 + ys.length, none⟩) hlt8).trans H98.out
  clear hb9 HB8 HP8 HR8 H98 HX8 HQ
  have hi0 : (0 : Int) ≤ (ys.length : Int) := by omega
  have hi1 : (ys.length : Int) < (ys.length : Int) + 1 := by omega
  have he1 : ((zs.length : Int) == (ys.length : Int) + (zs.length : Int) - (ys.length : Int)) = true := by rw [beq_iff_eq]; omega
  go_wp2
  go_ret
  exact ⟨rfl, HB9.out⟩
open Go.Proofs.YtbochokpfbimaaaFlat
/-- A slice of bytes that came in. -/
theorem rb_flat {w : World} {a : Option Addr} {len cap : Nat} (f : len ≤ cap ∧ cap ≤ maxLen ∧ (a = none → len = 0 ∧ cap = 0) ∧ ∀ ad, a = some ad → ∀ i, i < len → ∃ cs, Scs [some .u8] cs ∧ ∀ j, j < 1 → w.cell? (ad.add (i * 1 + j)) = cs[j]?) :
    ∃ xs : List Int, xs.length = len ∧ Rb w a xs ∧ ∀ x ∈ xs, 0 ≤ x ∧ x < 256 := by
  obtain ⟨hl, hc, h0, h1⟩ := f
  rcases a with _ | ad
  · obtain ⟨rfl, rfl⟩ := h0 rfl
    exact ⟨[], rfl, rb_nil w, by simp⟩
  · have h2 : ∀ i, i < len → ∃ x : Int, (0 ≤ x ∧ x < 256) ∧ w.cell? (ad.add i) = some (.int .u8 x) := by
      intro i hi
      obtain ⟨cs, hcs, h⟩ := h1 ad rfl i hi
      obtain _ | ⟨⟨x, rfl, wx⟩, hcs⟩ := hcs
      cases hcs
      refine ⟨x, ?_, by have := h 0 (by omega); simpa using this⟩
      simp [Lit.wf, IntKind.min, IntKind.max, IntKind.bits, IntKind.signed] at wx
      omega
    obtain ⟨f, hf⟩ := Go.Deep.choose_lt h2
    refine ⟨(List.range len).map f, by simp, ⟨rfl, by simp [maxLen] at hc ⊢; omega, fun _ => ⟨ad, rfl, fun j hj => ?_⟩⟩, ?_⟩
    · simp at hj; rw [(hf j hj).2]; simp [hj]
    · intro x hx
      simp only [List.mem_map, List.mem_range] at hx
      obtain ⟨i, hi, rfl⟩ := hx
      exact (hf i hi).1
theorem i64_wf {n : Int} (h : (Lit.int .i64 n).wf = true) : I64 n := by
  simp [Lit.wf, IntKind.min, IntKind.max, IntKind.bits, IntKind.signed] at h; unfold I64; omega
theorem numbers_row (a : Option Addr) (len cap : Nat) (n : Int) (w : World) (f : len ≤ cap ∧ cap ≤ maxLen ∧ (a = none → len = 0 ∧ cap = 0) ∧ ∀ ad, a = some ad → ∀ i, i < len → ∃ cs, Scs [some .u8] cs ∧ ∀ j, j < 1 → w.cell? (ad.add (i * 1 + j)) = cs[j]?)
    (hl : len * 1 ≤ 140737488351232) (wn : (Lit.int .i64 n).wf = true) : Calls Try.prog 4 #[.slice a len cap, .int .i64 n] w fun e w' => e = .returned (.bool true) ∧ Below w.heap.size w w' := by
  obtain ⟨xs, rfl, hr, _⟩ := rb_flat f
  exact numbers_walk a cap xs n w hr f.1 (fun h => (f.2.2.1 h).2) (by omega) (by have := f.2.1; simp only [maxLen] at this; omega) (i64_wf wn)
end Go.Proofs.Ytbochokpfbimaaa.PCallOps
