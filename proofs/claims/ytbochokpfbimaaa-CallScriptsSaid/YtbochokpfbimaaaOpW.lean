/- call.numbers, call.Op, call.Result, and the document's. -/
import Derived.Test.YtbochokpfbimaaaRdW
set_option linter.unusedVariables false
set_option linter.unusedSimpArgs false
namespace Go.Proofs.Ytbochokpfbimaaa.PCallOps
open Go.RowKit Go.Proofs.YtbochokpfbimaaaW.PrintWords Go.Proofs.YtbochokpfbimaaaW.PrintLast Go.Proofs.YtbochokpfbimaaaW.PrintMore Go.Proofs.YtbochokpfbimaaaHk Go.Proofs.YtbochokpfbimaaaBs

theorem wrap_i64_I64 (u : Int) : I64 (wrap64 u) := by unfold I64 wrap64; omega
/-- Numbers' bytes. -/
def nb : List Int → List Int
  | [] => []
  | n :: l => vb 10 (plain n) ++ nb l
theorem nb_snoc : ∀ (l : List Int) (n : Int), nb (l ++ [n]) = nb l ++ vb 10 (plain n)
  | [], n => by simp [nb]
  | m :: l, n => by simp [nb, nb_snoc l n]
theorem nb_len : ∀ l : List Int, (nb l).length ≤ 10 * l.length
  | [] => by simp [nb]
  | n :: l => by have := nb_len l; have := vb_len10 (plain n); simp [nb]; omega
theorem nb_take (l : List Int) (k : Nat) (hk : k < l.length) : nb (l.take (k + 1)) = nb (l.take k) ++ vb 10 (plain (l.getD k 0)) := by
  rw [List.take_succ_eq_append_getElem hk, nb_snoc]
  simp [List.getD, hk]

set_option maxHeartbeats 1600000 in
set_option maxRecDepth 100000 in
theorem numbers_all (A : Option Addr) (c : Nat) (xs ns : List Int) (b : Int) (bl cl : Nat) (w : World) (hr : Rb w A xs) (hc : xs.length ≤ c) (hA : A = none → c = 0) (hl : xs.length + 10 * ns.length + 20 ≤ 140737488355328)
    (hcl : ns.length ≤ cl) (hns : ∀ i, i < ns.length → w.cell? ⟨bl, i, none⟩ = some (.int .i64 (ns.getD i 0)) ∧ I64 (ns.getD i 0)) (hblt : bl < w.heap.size) :
    Calls Try.prog 22 #[.slice A xs.length c, .int .u8 b, .slice (some ⟨bl, 0, none⟩) ns.length cl] w (NumPost w (xs ++ b :: nb ns)) := by
  have Hr := Aside0.mk hr; clear hr
  have HA := Aside0.mk hA; clear hA
  have HN := Aside0.mk hns; clear hns
  have hlc : (xs.length : Int) ≤ c := by omega
  go_enter Try.func22, Try.ntmps22
  have hG := Aside0.mk (show Gb w.heap.size 5 w A xs.length xs from ⟨Hr.out, Nat.le_refl _, (fun h => ⟨by have := HA.out h; omega, by have := HA.out h; omega⟩), .inl rfl⟩)
  go_wp2_with (at_builtin; refine gb_append (w0 := w) w.heap.size rfl _ _ 25 5 rfl Try.underlying25 Try.info5 A xs.length xs _ rfl rfl hG.out (Below.refl _ _) (Nat.le_refl _) (by omega) ?_; intro A1 c1 w1 hg1 hb1)
  have HG1 := Aside0.mk hg1
  have HB1 := Aside0.mk hb1
  clear hg1 hb1 hG HA Hr
  go_loopw [0, 20] (fun v0 v20 wr => ∃ (k : Nat) (A2 : Option Addr) (c2 : Nat), k ≤ ns.length ∧ v0 = .slice A2 (xs ++ b :: nb (ns.take k)).length c2 ∧ v20 = .int .i64 k ∧ Aside0 (Rb wr A2 (xs ++ b :: nb (ns.take k)) ∧ (xs ++ b :: nb (ns.take k)).length ≤ c2 ∧ Below w.heap.size w wr))
    (fun _ i _ => ns.length - (intOf i).toNat)
  case atStart => exact ⟨0, A1, c1, Nat.zero_le _, by simp [nb], rfl, ⟨by simpa [nb] using HG1.out.reads, by simpa [nb] using HG1.out.le, HB1.out⟩⟩
  case round =>
    obtain ⟨k, A2, c2, hk, rfl, rfl, HI⟩ := hrel
    by_cases hlt : k < ns.length
    · obtain ⟨h1, h2⟩ := HN.out k hlt
      have q := (HI.out.2.2.cell (p := ⟨bl, k, none⟩) (World.block_lt_of_cell? w _ h1)).trans h1
      have H2 := Aside0.mk h2
      have hnb := nb_len (ns.take k)
      obtain ⟨ys, hys⟩ : ∃ ys, ys = xs ++ b :: nb (ns.take k) := ⟨_, rfl⟩
      have hyl : ys.length ≤ xs.length + 1 + 10 * ns.length := by rw [hys]; simp at hnb ⊢; omega
      rw [← hys] at HI ⊢
      have hy0 : 0 < ys.length := by rw [hys]; simp; omega
      have HY := Aside0.mk hys
      obtain ⟨x, hx⟩ : ∃ x, x = ns.getD k 0 := ⟨_, rfl⟩
      have HX := Aside0.mk hx
      rw [← hx] at q H2
      clear h1 h2 hnb hys hx
      go_wp2_with fail
      have hsome : A2 = none → c2 = 0 := fun h => by obtain ⟨_, _, h3, _⟩ := (HI.out.1).addr hy0; rw [h3] at h; cases h
      with_reducible refine (number_walk A2 c2 ys x wr HI.out.1 HI.out.2.1 hsome (by omega) H2.out).mono ?_
      rintro e w4 ⟨A3, c3, rfl, hc3, hr3, hb3⟩
      have HI3 := Aside0.mk (show Rb w4 A3 (ys ++ vb 10 (plain x)) ∧ (ys ++ vb 10 (plain x)).length ≤ c3 ∧ Below w.heap.size w w4 from ⟨hr3, hc3, hk_then HI.out.2.2 hb3 HI.out.2.2.size⟩)
      clear hc3 hr3 hb3 HI hsome
      go_wp2
      go_roundw
      case rel =>
        have e1 : xs ++ b :: nb (ns.take (k + 1)) = ys ++ vb 10 (plain x) := by rw [nb_take ns k hlt, ← HX.out, HY.out]; simp
        exact ⟨k + 1, A3, c3, hlt, by rw [e1, List.length_append], by simp, by rw [e1]; exact HI3⟩
      case measure => simp [intOf]; omega
    · obtain rfl : k = ns.length := by omega
      go_wp2
      go_ret
      rw [List.take_length] at HI
      exact ⟨A2, c2, by simp only [List.take_length]; rfl, HI.out.2.1, HI.out.1, HI.out.2.2⟩
theorem numbers_m (m : Nat) (A : Option Addr) (c : Nat) (xs ns : List Int) (b : Int) (bl cl : Nat) (w : World) (hm : ns.length = m) (hr : Rb w A xs) (hc : xs.length ≤ c) (hA : A = none → c = 0) (hl : xs.length + 10 * m + 20 ≤ 140737488355328)
    (hcl : m ≤ cl) (hns : ∀ i, i < m → w.cell? ⟨bl, i, none⟩ = some (.int .i64 (ns.getD i 0)) ∧ I64 (ns.getD i 0)) (hblt : bl < w.heap.size) :
    Calls Try.prog 22 #[.slice A xs.length c, .int .u8 b, .slice (some ⟨bl, 0, none⟩) m cl] w (NumPost w (xs ++ b :: nb ns)) := by
  subst hm; exact numbers_all A c xs ns b bl cl w hr hc hA hl hcl hns hblt

set_option maxHeartbeats 1600000 in
set_option maxRecDepth 100000 in
theorem op_walk (A : Option Addr) (c : Nat) (xs : List Int) (k t h n : Int) (w : World) (hr : Rb w A xs) (hc : xs.length ≤ c) (hA : A = none → c = 0) (hl : xs.length + 50 ≤ 140737488355328) (ht : I64 t) (hh : I64 h) (hn : I64 n) :
    Calls Try.prog 14 #[.slice A xs.length c, .agg #[.int .u8 k, .int .i64 t, .int .i64 h, .int .i64 n]] w (NumPost w (xs ++ k :: nb [t, h, n])) := by
  have Hr := Aside0.mk hr; clear hr
  have HA := Aside0.mk hA; clear hA
  have HT := Aside0.mk ht; clear ht
  have HH := Aside0.mk hh; clear hh
  have HN := Aside0.mk hn; clear hn
  go_enter Try.func14, Try.ntmps14
  go_wp2_with fail
  with_reducible refine (numbers_m 3 A c xs [t, h, n] k (w.heap.size + 1) 3 _ rfl ?hr hc HA.out (by omega) (by omega) ?hns ?hlt).mono ?_
  case hlt => simp
  case hr => exact Hr.out.below (((Below.refl _ _).alloc (Nat.le_refl _) _).alloc (by simp) _)
  case hns =>
    intro i hi
    have h3 : i = 0 ∨ i = 1 ∨ i = 2 := by omega
    rcases h3 with rfl | rfl | rfl
    · exact ⟨by go_simp, HT.out⟩
    · exact ⟨by go_simp, HH.out⟩
    · exact ⟨by go_simp, HN.out⟩
  rintro e w1 ⟨A1, c1, rfl, hc1, hr1, hb1⟩
  have HI := Aside0.mk (show Rb w1 A1 (xs ++ k :: nb [t, h, n]) ∧ (xs ++ k :: nb [t, h, n]).length ≤ c1 ∧ Below w.heap.size w w1 from ⟨hr1, hc1, hk_then (((Below.refl _ _).alloc (Nat.le_refl _) _).alloc (by simp) _) hb1 (by simp; omega)⟩)
  clear hr1 hc1 hb1
  go_wp2
  go_ret
  exact ⟨A1, c1, by simp, HI.out.2.1, HI.out.1, HI.out.2.2⟩

set_option maxHeartbeats 1600000 in
set_option maxRecDepth 100000 in
theorem result_walk (A : Option Addr) (c : Nat) (xs : List Int) (k u t h n : Int) (w : World) (hr : Rb w A xs) (hc : xs.length ≤ c) (hA : A = none → c = 0) (hl : xs.length + 60 ≤ 140737488355328) (hu : U64 u) (ht : I64 t) (hh : I64 h) (hn : I64 n) :
    Calls Try.prog 15 #[.slice A xs.length c, .agg #[.int .u8 k, .int .u64 u, .int .i64 t, .int .i64 h, .int .i64 n]] w (NumPost w (xs ++ k :: nb [wrap64 u, t, h, n])) := by
  have Hr := Aside0.mk hr; clear hr
  have HA := Aside0.mk hA; clear hA
  have HU : Aside0 (I64 (wrap64 u)) := ⟨wrap_i64_I64 u⟩; clear hu
  have HT := Aside0.mk ht; clear ht
  have HH := Aside0.mk hh; clear hh
  have HN := Aside0.mk hn; clear hn
  go_enter Try.func15, Try.ntmps15
  go_wp2_with fail
  with_reducible refine (numbers_m 4 A c xs [wrap64 u, t, h, n] k (w.heap.size + 1) 4 _ rfl ?hr hc HA.out (by omega) (by omega) ?hns ?hlt).mono ?_
  case hlt => simp
  case hr => exact Hr.out.below (((Below.refl _ _).alloc (Nat.le_refl _) _).alloc (by simp) _)
  case hns =>
    intro i hi
    have h3 : i = 0 ∨ i = 1 ∨ i = 2 ∨ i = 3 := by omega
    rcases h3 with rfl | rfl | rfl | rfl
    · exact ⟨by go_simp, HU.out⟩
    · exact ⟨by go_simp, HT.out⟩
    · exact ⟨by go_simp, HH.out⟩
    · exact ⟨by go_simp, HN.out⟩
  rintro e w1 ⟨A1, c1, rfl, hc1, hr1, hb1⟩
  have HI := Aside0.mk (show Rb w1 A1 (xs ++ k :: nb [wrap64 u, t, h, n]) ∧ (xs ++ k :: nb [wrap64 u, t, h, n]).length ≤ c1 ∧ Below w.heap.size w w1 from ⟨hr1, hc1, hk_then (((Below.refl _ _).alloc (Nat.le_refl _) _).alloc (by simp) _) hb1 (by simp; omega)⟩)
  clear hr1 hc1 hb1
  go_wp2
  go_ret
  exact ⟨A1, c1, by simp, HI.out.2.1, HI.out.1, HI.out.2.2⟩

theorem refop_eq (k t h n : Int) (ht : I64 t) (hh : I64 h) (hn : I64 n) : overfallref18_Op.f 40 k t h n = some (k :: nb [t, h, n]) := by
  have l1 := vb_len10 (plain t)
  have l2 := vb_len10 (plain h)
  have l3 := vb_len10 (plain n)
  simp only [overfallref18_Op.f, refnum_eq _ ht, refnum_eq _ hh, refnum_eq _ hn, Option.bind_some, nb, List.append_nil]
  rw [if_pos (by simp; omega), if_pos (by simp; omega), if_pos (by simp; omega)]
  simp
theorem refres_eq (k u t h n : Int) (ht : I64 t) (hh : I64 h) (hn : I64 n) : overfallref18_Result.f 40 k u t h n = some (k :: nb [wrap64 u, t, h, n]) := by
  have l0 := vb_len10 (plain (wrap64 u))
  have l1 := vb_len10 (plain t)
  have l2 := vb_len10 (plain h)
  have l3 := vb_len10 (plain n)
  simp only [overfallref18_Result.f, refnum_eq _ (wrap_i64_I64 u), refnum_eq _ ht, refnum_eq _ hh, refnum_eq _ hn, Option.bind_some, nb, List.append_nil]
  rw [if_pos (by simp; omega), if_pos (by simp; omega), if_pos (by simp; omega), if_pos (by simp; omega)]
  simp
theorem refop_walk (k t h n : Int) (w : World) (ht : I64 t) (hh : I64 h) (hn : I64 n) : Calls Try.prog 16 #[.agg #[.int .u8 k, .int .i64 t, .int .i64 h, .int .i64 n]] w (NumPost w (k :: nb [t, h, n])) :=
  (overfallref18_Op.calls 40 k t h n _ w (refop_eq k t h n ht hh hn)).mono fun _ w' ⟨v, he, hR, hb⟩ => by
    obtain ⟨A, c, rfl, hc, hC⟩ := Kd.R_reads hR
    exact ⟨A, c, he, hc, rb_of_C hC, hb⟩
theorem refres_walk (k u t h n : Int) (w : World) (ht : I64 t) (hh : I64 h) (hn : I64 n) : Calls Try.prog 17 #[.agg #[.int .u8 k, .int .u64 u, .int .i64 t, .int .i64 h, .int .i64 n]] w (NumPost w (k :: nb [wrap64 u, t, h, n])) :=
  (overfallref18_Result.calls 40 k u t h n _ w (refres_eq k u t h n ht hh hn)).mono fun _ w' ⟨v, he, hR, hb⟩ => by
    obtain ⟨A, c, rfl, hc, hC⟩ := Kd.R_reads hR
    exact ⟨A, c, he, hc, rb_of_C hC, hb⟩
end Go.Proofs.Ytbochokpfbimaaa.PCallOps
