/- call.Number: the bytes behind a slice of bytes, in new memory. -/
import Derived.Test.YtbochokpfbimaaaPCallOpsx
import Derived.Test.YtbochokpfbimaaaHk
import Derived.Test.YtbochokpfbimaaaBs
import Derived.ScopeJumps
import Derived.WalkMore
import Derived.ArgAppend
import Derived.Lib.Zigzag
set_option linter.unusedVariables false
set_option linter.unusedSimpArgs false
namespace Go.Proofs.Ytbochokpfbimaaa.PCallOps
open Go.RowKit Go.Proofs.YtbochokpfbimaaaW.PrintWords Go.Proofs.YtbochokpfbimaaaW.PrintLast Go.Proofs.YtbochokpfbimaaaW.PrintMore Go.Proofs.YtbochokpfbimaaaHk Go.Proofs.YtbochokpfbimaaaBs

def I64 (x : Int) : Prop := -9223372036854775808 ≤ x ∧ x ≤ 9223372036854775807
def U64 (x : Int) : Prop := 0 ≤ x ∧ x ≤ 18446744073709551615
/-- A number without a sign. -/
def plain (n : Int) : Int := if 0 ≤ n then 2 * n else -2 * n - 1
/-- Its groups of seven bits, at most k of them. -/
def vb : Nat → Int → List Int
  | 0, _ => []
  | k + 1, u => if 128 ≤ u then (u % 128 + 128) :: vb k (u / 128) else [u]
theorem plain_u64 {n : Int} (h : I64 n) : U64 (plain n) := by unfold I64 at h; unfold U64 plain; split <;> omega

theorem zig (n : Int) (h : I64 n) : bits .xor .u64 (IntKind.u64.wrap (wrap64 (n * 2))) (IntKind.u64.wrap (n / 9223372036854775808)) = plain n := by
  unfold I64 at h
  unfold plain
  by_cases h0 : 0 ≤ n
  · rw [if_pos h0]
    have e1 : IntKind.u64.wrap (wrap64 (n * 2)) = (((2 * n).toNat : Nat) : Int) := by
      rw [IntKind.wrap_u64]; unfold wrap64; omega
    have e2 : IntKind.u64.wrap (n / 9223372036854775808) = ((0 : Nat) : Int) := by
      rw [IntKind.wrap_u64]; omega
    rw [e1, e2, bits_xor_u64_nat _ _ (by omega) (by omega), Nat.xor_zero]
    omega
  · rw [if_neg h0]
    have e1 : IntKind.u64.wrap (wrap64 (n * 2)) = (((2 * n + 18446744073709551616).toNat : Nat) : Int) := by
      rw [IntKind.wrap_u64]; unfold wrap64; omega
    have e2 : IntKind.u64.wrap (n / 9223372036854775808) = ((2 ^ 64 - 1 : Nat) : Int) := by
      rw [IntKind.wrap_u64]; omega
    rw [e1, e2, bits_xor_u64_nat _ _ (by omega) (by decide), Nat.xor_comm, Go.Lib.xor_ones64 _ (by omega)]
    omega

theorem or128 : ∀ m : Nat, m < 256 → m ||| 128 = m % 128 + 128 := by decide +kernel
theorem or7 (x : Int) (h : 0 ≤ x) : bits BinOp.or IntKind.u8 (x % 256) 128 = x % 128 + 128 := by
  rw [u8_or _ _ (by omega) (by omega) (by omega) (by omega), show ((128 : Int).toNat) = 128 from rfl, or128 _ (by omega)]
  omega
theorem vb_big {k : Nat} {x : Int} (h : 128 ≤ x) : vb (k + 1) x = (x % 128 + 128) :: vb k (x / 128) := by rw [vb, if_pos h]
theorem vb_small {k : Nat} {x : Int} (h : ¬ 128 ≤ x) : vb (k + 1) x = [x] := by rw [vb, if_neg h]
/-- What the post says, shut for the walk. -/
def NumPost (w : World) (zs : List Int) (e : Ending) (w' : World) : Prop := ∃ A' c', e = .returned (.slice A' zs.length c') ∧ zs.length ≤ c' ∧ Rb w' A' zs ∧ Below w.heap.size w w'
theorem numPost {w w' : World} {zs ys : List Int} {A' : Option Addr} {c' m : Nat} {e : Ending} (he : e = .returned (.slice A' m c')) (hm : m = ys.length) (hz : ys = zs) (hg : Gb w.heap.size 5 w' A' c' ys) (hb : Below w.heap.size w w') : NumPost w zs e w' := by
  subst hz; subst hm; exact ⟨A', c', he, hg.le, hg.reads, hb⟩

theorem Try.info5 : (Try.prog.info? 5).map (fun i => (i.zero, i.size, i.bytes)) = some (some (.int .u8 0), 1, 1) := by kernel_rfl
set_option maxHeartbeats 1600000 in
set_option maxRecDepth 100000 in
theorem number_walk (A : Option Addr) (c : Nat) (xs : List Int) (n : Int) (w : World) (hr : Rb w A xs) (hc : xs.length ≤ c) (hA : A = none → c = 0) (hl : xs.length + 10 ≤ 140737488355328) (hn : I64 n) :
    Calls Try.prog 9 #[.slice A xs.length c, .int .i64 n] w (NumPost w (xs ++ vb 10 (plain n))) := by
  have Hr := Aside0.mk hr; clear hr
  have HA := Aside0.mk hA; clear hA
  go_enter Try.func9, Try.ntmps9
  go_wp2
  refine wp_scope_jumps 0 (fun a' wr => ∃ (k : Nat) (x : Int) (A' : Option Addr) (c' : Nat) (ys : List Int) (u0 u1 u2 u3 u4 u7 u8 u9 u10 u11 u12 u13 u14 u15 u16 u17 u18 u19 u20 u21 u22 u23 u24 u25 u26 u27 u28 u29 u30 u31 u32 u33 u34 : Value), a' = { tmps := #[u0, u1, u2, u3, u4, .int .u64 x, .slice A' ys.length c', u7, u8, u9, u10, u11, u12, u13, u14, u15, u16, u17, u18, u19, u20, u21, u22, u23, u24, u25, u26, u27, u28, u29, u30, u31, u32, u33, u34], defers := [] } ∧
      Gb w.heap.size 5 wr A' c' ys ∧ Below w.heap.size w wr ∧ Aside0 (ys ++ vb (k + 1) x = xs ++ vb 10 (plain n)) ∧ ys.length + k ≤ xs.length + 9 ∧ 0 ≤ x ∧ x < 2 * 128 ^ k ∧ x ≤ 18446744073709551615) (fun a' _ => (intOf (a'.tmps.getD 5 undef)).toNat) (by rfl) ?_ ?_
  · have hz := zig n hn
    have hp := plain_u64 hn
    unfold U64 at hp
    obtain ⟨x, hx⟩ : ∃ x, x = plain n := ⟨_, rfl⟩
    rw [← hx] at hz hp
    have Hx := Aside0.mk hx; clear hx
    go_wp2
    have hG := Aside0.mk (show Gb w.heap.size 5 w A xs.length xs from ⟨Hr.out, Nat.le_refl _, (fun h => ⟨by have := HA.out h; omega, by have := HA.out h; omega⟩), .inl rfl⟩)
    clear hz
    go_step3
    by_cases hge : 128 ≤ x
    · go_wp2_with (at_builtin; refine gb_append (w0 := w) w.heap.size rfl _ _ 25 5 rfl Try.underlying25 Try.info5 A xs.length xs _ rfl rfl hG.out (Below.refl _ _) (Nat.le_refl _) (by omega) ?_; intro A1 c1 w1 hg1 hb1)
      go_step3
      refine ⟨rfl, 8, x / 128, A1, c1, _, _, _, _, _, _, _, _, _, _, _, _, _, _, _, _, _, _, _, _, _, _, _, _, _, _, _, _, _, _, _, _, _, _, by simp only [List.length_append, List.length_cons, List.length_nil]; rfl, hg1, hb1, ⟨?_⟩, by simp, by omega, by omega, by omega⟩
      rw [or7 x hp.1, ← Hx.out, vb_big hge, List.append_assoc]; rfl
    · go_wp2_with (at_builtin; refine gb_append (w0 := w) w.heap.size rfl _ _ 25 5 rfl Try.underlying25 Try.info5 A xs.length xs _ rfl rfl hG.out (Below.refl _ _) (Nat.le_refl _) (by omega) ?_; intro A1 c1 w1 hg1 hb1)
      simp only [Exit.jump]
      go_ret
      refine numPost rfl (by simp) ?_ hg1 hb1
      rw [← Hx.out, vb_small (by omega)]
  · rintro a' wr ⟨k, x, A', c', ys, u0, u1, u2, u3, u4, u7, u8, u9, u10, u11, u12, u13, u14, u15, u16, u17, u18, u19, u20, u21, u22, u23, u24, u25, u26, u27, u28, u29, u30, u31, u32, u33, u34, rfl, hg, hb, hv, hyk, hx0, hxk, hx1⟩
    have hG := Aside0.mk hg; clear hg
    have HB := Aside0.mk hb; clear hb
    by_cases hge : 128 ≤ x
    · obtain ⟨j, rfl⟩ : ∃ j, k = j + 1 := by
        cases k with
        | zero => simp at hxk; omega
        | succ j => exact ⟨j, rfl⟩
      have hxj : x / 128 < 2 * 128 ^ j := by rw [Int.pow_succ] at hxk; omega
      clear hxk
      go_wp2_with (at_builtin; refine gb_append (w0 := w) w.heap.size rfl _ _ 25 5 rfl Try.underlying25 Try.info5 A' c' ys _ rfl rfl hG.out HB.out HB.out.size (by omega) ?_; intro A1 c1 w1 hg1 hb1)
      go_step3
      refine ⟨rfl, ⟨j, x / 128, A1, c1, _, _, _, _, _, _, _, _, _, _, _, _, _, _, _, _, _, _, _, _, _, _, _, _, _, _, _, _, _, _, _, _, _, _, by simp only [List.length_append, List.length_cons, List.length_nil]; rfl, hg1, hb1, ⟨?_⟩, by simp; omega, by omega, hxj, by omega⟩, by simp [intOf]; omega⟩
      rw [or7 x hx0, ← hv.out, vb_big hge, List.append_assoc]; rfl
    · clear hxk
      go_wp2_with (at_builtin; refine gb_append (w0 := w) w.heap.size rfl _ _ 25 5 rfl Try.underlying25 Try.info5 A' c' ys _ rfl rfl hG.out HB.out HB.out.size (by omega) ?_; intro A1 c1 w1 hg1 hb1)
      simp only [Exit.jump]
      go_ret
      refine numPost rfl (by simp) ?_ hg1 hb1
      rw [← hv.out, vb_small (by omega)]
end Go.Proofs.Ytbochokpfbimaaa.PCallOps
