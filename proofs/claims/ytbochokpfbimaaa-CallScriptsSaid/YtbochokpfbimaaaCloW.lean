/- bytes.Clone, and the document's Number. -/
import Derived.Test.YtbochokpfbimaaaPure
import Derived.Test.YtbochokpfbimaaaSizW
import Derived.WalkSpells
import Derived.Lib.SliceRun
set_option linter.unusedVariables false
set_option linter.unusedSimpArgs false
namespace Go.Proofs.Ytbochokpfbimaaa.PCallOps
open Go.RowKit Go.Proofs.YtbochokpfbimaaaW.PrintWords Go.Proofs.YtbochokpfbimaaaW.PrintLast Go.Proofs.YtbochokpfbimaaaW.PrintMore Go.Proofs.YtbochokpfbimaaaHk Go.Proofs.YtbochokpfbimaaaBs

/-- A slice of bytes of the call's own, or full. -/
def GbPost (w : World) (zs : List Int) (e : Ending) (w' : World) : Prop := ∃ A' c', e = .returned (.slice A' zs.length c') ∧ Gb w.heap.size 5 w' A' c' zs ∧ Below w.heap.size w w'
theorem gbPost {w w' : World} {zs : List Int} {A' : Option Addr} {c' m : Nat} {e : Ending} (he : e = .returned (.slice A' m c')) (hm : m = zs.length) (hg : Gb w.heap.size 5 w' A' c' zs) (hb : Below w.heap.size w w') : GbPost w zs e w' := by
  subst hm; exact ⟨A', c', he, hg, hb⟩

set_option maxHeartbeats 1600000 in
set_option maxRecDepth 100000 in
theorem clone_walk (A : Option Addr) (c : Nat) (xs : List Int) (w : World) (hr : Rb w A xs) (hc : xs.length ≤ c) (hA : A = none → c = 0) (hl : xs.length ≤ 140737488355328) :
    Calls Try.prog 10 #[.slice A xs.length c] w (GbPost w xs) := by
  have Hr := Aside0.mk hr; clear hr
  have hq := fun (w : World) (a : Option Addr) (n c : Nat) => Lib.run_eql_slice_nil (P := Try.prog) w 25 5 a n c 0 0 Try.underlying25
  rcases A with _ | ad
  · obtain rfl := hA rfl
    obtain rfl : xs = [] := List.eq_nil_of_length_eq_zero (by omega)
    clear hA
    go_enter Try.func10, Try.ntmps10
    go_wp2
    go_ret
    exact gbPost rfl rfl ⟨rb_nil _, by simp, fun _ => ⟨rfl, rfl⟩, .inl rfl⟩ (Below.refl _ _)
  · clear hA
    rcases Nat.eq_zero_or_pos xs.length with h0 | hp
    · obtain rfl : xs = [] := List.eq_nil_of_length_eq_zero h0
      clear h0
      go_enter Try.func10, Try.ntmps10
      go_wp2
      go_ret
      exact gbPost rfl rfl ⟨⟨rfl, by simp, fun h => by simp at h⟩, by simp, (fun h => by cases h), .inl rfl⟩ ((Below.refl _ _).alloc (Nat.le_refl _) _)
    · go_enter Try.func10, Try.ntmps10
      go_wp2_with (at_builtin; refine gb_append_row (w0 := w) w.heap.size rfl _ _ 25 5 rfl Try.underlying25 Try.info5 (some ⟨w.heap.size, 0, none⟩) 0 [] xs (some ad) c rfl rfl ⟨⟨rfl, by simp, fun h => by simp at h⟩, by simp, (fun h => by cases h), .inl rfl⟩ (Hr.out.below ((Below.refl _ _).alloc (Nat.le_refl _) _)) hp ((Below.refl _ _).alloc (Nat.le_refl _) _) (by simp) (by simpa using hl) ?_; intro A1 c1 w1 hg1 hb1)
      go_ret
      exact gbPost rfl (by simp) hg1 hb1

theorem refnum_run : ∀ (j : Nat) (x : Int) (ys : List Int) (k : Nat), 0 ≤ x → x < 2 * 128 ^ j → x ≤ 18446744073709551615 → ys.length + j ≤ 1000 → overfallref18_Number.l0 (j + 1 + k) x ys = some (ys ++ vb (j + 1) x)
  | j, x, ys, k, h0, hx, hx1, hl => by
    rw [show j + 1 + k = j + k + 1 from by omega]
    simp only [overfallref18_Number.l0]
    by_cases hge : 128 ≤ x
    · obtain ⟨j', rfl⟩ : ∃ j', j = j' + 1 := by
        cases j with
        | zero => simp at hx; exact absurd hge (by omega)
        | succ j' => exact ⟨j', rfl⟩
      have hx' := lt_succ j' x hx
      clear hx
      rw [if_pos (by omega), if_pos (by omega), vb_big hge]
      have e1 : IntKind.u64.wrap (x.tdiv 128) = x / 128 := by rw [Int.tdiv_eq_ediv_of_nonneg h0, IntKind.wrap_u64]; omega
      have e2 : IntKind.u64.wrap (x.tmod 128 + 128) % 256 = x % 128 + 128 := by rw [Int.tmod_eq_emod_of_nonneg h0, IntKind.wrap_u64]; omega
      rw [e1, e2, show j' + 1 + k = j' + 1 + k from rfl, refnum_run j' (x / 128) (ys ++ [x % 128 + 128]) k (by omega) hx' (by omega) (by simp; omega)]
      simp
    · clear hx
      rw [if_neg (by omega), if_pos (by omega), vb_small hge, show x % 256 = x from by omega]
theorem refnum_eq (n : Int) (h : I64 n) : overfallref18_Number.f 40 n = some (vb 10 (plain n)) := by
  have hp := plain_u64 h
  unfold U64 at hp
  unfold overfallref18_Number.f
  rw [plain_eq h]
  simp only [Option.bind_some]
  have := refnum_run 9 (plain n) [] 30 hp.1 (by omega) hp.2 (by simp)
  simpa using this
theorem refnum_walk (n : Int) (w : World) (h : I64 n) : Calls Try.prog 13 #[.int .i64 n] w (NumPost w (vb 10 (plain n))) :=
  (overfallref18_Number.calls 40 n _ w (refnum_eq n h)).mono fun _ w' ⟨v, he, hR, hb⟩ => by
    obtain ⟨A, c, rfl, hc, hC⟩ := Kd.R_reads hR
    exact ⟨A, c, he, hc, rb_of_C hC, hb⟩
end Go.Proofs.Ytbochokpfbimaaa.PCallOps
