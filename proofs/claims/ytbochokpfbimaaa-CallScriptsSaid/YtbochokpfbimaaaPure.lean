/- Numbers as bytes: what is written is read again. -/
import Derived.Test.YtbochokpfbimaaaNumW
set_option linter.unusedVariables false
set_option linter.unusedSimpArgs false
namespace Go.Proofs.Ytbochokpfbimaaa.PCallOps
open Go.RowKit Go.Proofs.YtbochokpfbimaaaW.PrintWords Go.Proofs.YtbochokpfbimaaaW.PrintLast Go.Proofs.YtbochokpfbimaaaW.PrintMore Go.Proofs.YtbochokpfbimaaaHk Go.Proofs.YtbochokpfbimaaaBs

theorem vb_len10 (x : Int) : 1 ≤ (vb 10 x).length ∧ (vb 10 x).length ≤ 10 := by
  have : ∀ (k : Nat) (x : Int), (vb k x).length ≤ k := by
    intro k
    induction k with
    | zero => intro x; simp [vb]
    | succ k ih => intro x; unfold vb; split <;> simp [ih]
  refine ⟨?_, this 10 x⟩
  unfold vb; split <;> simp
theorem andnot128 : ∀ m : Nat, m < 256 → Go.bits .andNot .u8 (m : Int) 128 = ((m % 128 : Nat) : Int) := by decide +kernel
theorem andnot7 (b : Int) (h0 : 0 ≤ b) (h1 : b < 256) : Go.bits .andNot .u8 b 128 = b % 128 := by
  obtain ⟨m, rfl⟩ := Int.eq_ofNat_of_zero_le h0
  rw [andnot128 m (by omega)]; omega

theorem or_add (u g : Int) (i : Nat) (hu0 : 0 ≤ u) (hu : u < 2 ^ i) (hg : 0 ≤ g) (hs : u + g * 2 ^ i ≤ 18446744073709551615) : Go.bits .or .u64 u (g * 2 ^ i) = u + g * 2 ^ i := by
  obtain ⟨a, rfl⟩ := Int.eq_ofNat_of_zero_le hu0
  obtain ⟨b, rfl⟩ := Int.eq_ofNat_of_zero_le hg
  have hu' : a < 2 ^ i := by have : ((a : Nat) : Int) < ((2 ^ i : Nat) : Int) := by push_cast; exact hu
                             omega
  have hs' : a + b * 2 ^ i ≤ 18446744073709551615 := by
    have : ((a + b * 2 ^ i : Nat) : Int) ≤ 18446744073709551615 := by push_cast; exact hs
    omega
  have e : ((b : Int) * 2 ^ i) = ((b * 2 ^ i : Nat) : Int) := by push_cast; rfl
  rw [e, u64_or _ _ (by omega) (by omega) (by omega) (by omega), Int.toNat_natCast, Int.toNat_natCast, Nat.or_comm, Nat.mul_comm, ← Nat.two_pow_add_eq_or_of_lt hu']
  push_cast; omega

/-- Back: with a sign. -/
def unz (u : Int) : Int := if u % 2 = 0 then u / 2 else -(u / 2) - 1
theorem unz_plain {n : Int} (h : I64 n) : unz (plain n) = n := by
  unfold I64 at h; unfold unz plain
  by_cases h0 : 0 ≤ n
  · rw [if_pos h0, if_pos (by omega)]; omega
  · rw [if_neg h0, if_neg (by omega)]; omega
theorem xor_m1 (x : Int) (h0 : 0 ≤ x) (h1 : x < 9223372036854775808) : Go.bits .xor .i64 x (-1) = -x - 1 := by
  obtain ⟨a, rfl⟩ := Int.eq_ofNat_of_zero_le h0
  have := Go.Lib.i64_not a (by omega)
  rw [← this]
  show IntKind.i64.wrap ((BitVec.ofInt 64 (a : Int) ^^^ BitVec.ofInt 64 (-1)).toNat : Int) = IntKind.i64.wrap ((BitVec.ofInt 64 (-1) ^^^ BitVec.ofInt 64 (a : Int)).toNat : Int)
  rw [BitVec.xor_comm]
theorem xor_0 (x : Int) (h0 : 0 ≤ x) (h1 : x < 9223372036854775808) : Go.bits .xor .i64 x 0 = x := by
  obtain ⟨a, rfl⟩ := Int.eq_ofNat_of_zero_le h0
  show IntKind.i64.wrap ((BitVec.ofInt 64 (a : Int) ^^^ BitVec.ofInt 64 0).toNat : Int) = _
  have : BitVec.ofInt 64 0 = 0#64 := by decide
  rw [this, BitVec.xor_zero, BitVec.ofInt_natCast, BitVec.toNat_ofNat, Nat.mod_eq_of_lt (by omega), IntKind.wrap_i64]
  omega
theorem fin_unz (u : Int) (h0 : 0 ≤ u) (h1 : u ≤ 18446744073709551615) : Go.bits .xor .i64 (wrap64 (u / 2)) (wrap64 (-(wrap64 (Go.bits .and .u64 u 1)))) = unz u := by
  rw [Go.Lib.u64_and1 u h0 (by omega)]
  unfold unz
  have e1 : wrap64 (u / 2) = u / 2 := by unfold wrap64; omega
  rw [e1]
  by_cases h : u % 2 = 0
  · rw [if_pos h, h]
    have : wrap64 (-(wrap64 0)) = 0 := by unfold wrap64; omega
    rw [this, xor_0 _ (by omega) (by omega)]
  · rw [if_neg h, show u % 2 = 1 from by omega]
    have : wrap64 (-(wrap64 1)) = -1 := by unfold wrap64; omega
    rw [this, xor_m1 _ (by omega) (by omega)]

theorem rd_mid (pre post : List Int) (b : Int) (i : Int) (h : (pre.length : Int) = i) : rd (pre ++ b :: post) i = b := by
  subst h; simp [rd]

theorem shl_small (g : Int) (m : Nat) (hm : m ≤ 9) (h0 : 0 ≤ g * 2 ^ (7 * m)) (h1 : g * 2 ^ (7 * m) ≤ 18446744073709551615) : shl .u64 g (7 * (m : Int)) = g * 2 ^ (7 * m) := by
  unfold shl
  have h2 : min (7 * (m : Int)).toNat IntKind.u64.bits = 7 * m := by
    have h3 : IntKind.u64.bits = 64 := rfl
    rw [h3]; omega
  rw [h2, IntKind.wrap_u64]
  generalize g * 2 ^ (7 * m) = G at *
  omega
theorem read_step (k : Nat) (u : Int) (l : List Int) (b : Int) (m : Nat) (hm9 : m ≤ 9) (hb0 : 0 ≤ b) (hb : b < 256) (hl : m < l.length) (hll : l.length ≤ 140737488355328) (hrd : rd l m = b) (h9 : m = 9 → b ≤ 1)
    (hu0 : 0 ≤ u) (hu : u < 2 ^ (7 * m)) (hs : u + b % 128 * 2 ^ (7 * m) ≤ 18446744073709551615) :
    call_Read.l0 (k + 2) u l l.length m = if b ≥ 128 then call_Read.l0 k (u + b % 128 * 2 ^ (7 * m)) l l.length ((m + 1 : Nat) : Int) else if b = 0 ∧ 0 < m then some (0, 0, 2) else some (unz (u + b % 128 * 2 ^ (7 * m)), ((m + 1 : Nat) : Int), 0) := by
  have e1 : wrap64 (7 * (m : Int)) = 7 * (m : Int) := by unfold wrap64; omega
  have e2 : Go.bits .andNot .u8 b 128 = b % 128 := andnot7 b hb0 hb
  have e3 : IntKind.u64.wrap (b % 128) = b % 128 := by rw [IntKind.wrap_u64]; omega
  have hp : (0 : Int) < 2 ^ (7 * m) := Int.pow_pos (by decide)
  have hge : (0:Int) ≤ b % 128 * 2 ^ (7 * m) := Int.mul_nonneg (by omega) (Int.le_of_lt hp)
  have e5 : Go.bits .or .u64 u (b % 128 * 2 ^ (7 * m)) = u + b % 128 * 2 ^ (7 * m) := or_add u (b % 128) (7 * m) hu0 hu (by omega) hs
  have e4 : shl .u64 (b % 128) (7 * (m : Int)) = b % 128 * 2 ^ (7 * m) := shl_small _ m hm9 hge (by clear hu hp e5; generalize b % 128 * 2 ^ (7 * m) = G at *; omega)
  have e6 : wrap64 ((m : Int) + 1) = ((m + 1 : Nat) : Int) := by unfold wrap64; omega
  have hf := fin_unz (u + b % 128 * 2 ^ (7 * m)) (by clear hu hp e5 e4; generalize b % 128 * 2 ^ (7 * m) = G at *; omega) hs
  clear hp hu hge
  generalize b % 128 * 2 ^ (7 * m) = G at *
  have j : ∀ d : Bool, d = false → call_Read.j1 (k + 1) u (m : Int) b l l.length m d = if b ≥ 128 then call_Read.l0 k (u + G) l l.length ((m + 1 : Nat) : Int) else if b = 0 ∧ 0 < m then some (0, 0, 2) else some (unz (u + G), ((m + 1 : Nat) : Int), 0) := by
    intro d hd
    subst hd
    simp only [call_Read.j1, e1, e2, e3, e4, e5, e6, hf]
    rw [if_neg (by decide), if_pos (by omega)]
    by_cases hb2 : b ≥ 128
    · rw [if_pos hb2, if_pos hb2]
    · rw [if_neg hb2, if_neg hb2]
      by_cases h3 : b = 0
      · rw [if_pos h3]
        by_cases h4 : (m : Int) > 0
        · rw [if_pos h4, if_pos ⟨h3, by omega⟩]
        · rw [if_neg h4, if_neg (fun h => h4 (by omega))]
      · rw [if_neg h3, if_neg (fun h => h3 h.1)]
  simp only [call_Read.l0]
  rw [if_pos (by omega), if_pos (by omega), if_pos (by omega), hrd]
  by_cases h : (m : Int) = 9
  · rw [if_pos h]; exact j _ (by have := h9 (by omega); simp; omega)
  · rw [if_neg h]; exact j _ rfl

theorem run_bound (K P x u : Int) (hKP : K * P = 9223372036854775808) (hx : x < 2 * K) (hu : u < P) (hP : 0 < P) : u + x * P ≤ 18446744073709551615 := by
  have h1 : x * P ≤ (2 * K - 1) * P := Int.mul_le_mul_of_nonneg_right (by omega) (Int.le_of_lt hP)
  have h2 : (2 * K - 1) * P = 2 * (K * P) - P := by rw [Int.sub_mul, Int.mul_assoc, Int.one_mul]
  rw [h2, hKP] at h1
  generalize x * P = A at *
  omega
theorem pow128 (j m : Nat) (h : m + j = 9) : (128 : Int) ^ j * 2 ^ (7 * m) = 9223372036854775808 := by
  rw [show (128 : Int) = 2 ^ 7 from by simp, ← Int.pow_mul, ← Int.pow_add, show 7 * j + 7 * m = 63 from by omega]; simp
theorem part_le (P x u : Int) (hP : 0 < P) (hx : 0 ≤ x) (h : u + x * P ≤ 18446744073709551615) : u + x % 128 * P ≤ 18446744073709551615 := by
  have : x % 128 * P ≤ x * P := Int.mul_le_mul_of_nonneg_right (by omega) (Int.le_of_lt hP)
  generalize x % 128 * P = A at *
  generalize x * P = B at *
  omega
theorem part_nonneg (P x u : Int) (hP : 0 < P) (hu : 0 ≤ u) : 0 ≤ u + x % 128 * P := by
  have : 0 ≤ x % 128 * P := Int.mul_nonneg (by omega) (Int.le_of_lt hP)
  generalize x % 128 * P = A at *
  omega
theorem pow_next (m : Nat) : (2 : Int) ^ (7 * (m + 1)) = 128 * 2 ^ (7 * m) := by
  rw [show 7 * (m + 1) = 7 + 7 * m from by omega, Int.pow_add]; simp
theorem part_lt (m : Nat) (x u : Int) (hP : (0:Int) < 2 ^ (7 * m)) (hu : u < 2 ^ (7 * m)) : u + x % 128 * 2 ^ (7 * m) < 2 ^ (7 * (m + 1)) := by
  rw [pow_next]
  generalize (2:Int) ^ (7 * m) = P at *
  have : x % 128 * P ≤ 127 * P := Int.mul_le_mul_of_nonneg_right (by omega) (Int.le_of_lt hP)
  generalize x % 128 * P = A at *
  omega
theorem part_sum (m : Nat) (x u : Int) : u + x % 128 * 2 ^ (7 * m) + x / 128 * 2 ^ (7 * (m + 1)) = u + x * 2 ^ (7 * m) := by
  rw [pow_next, ← Int.mul_assoc, Int.add_assoc, ← Int.add_mul, show x % 128 + x / 128 * 128 = x from by omega]
theorem lt_succ (j : Nat) (x : Int) (h : x < 2 * 128 ^ (j + 1)) : x / 128 < 2 * 128 ^ j := by
  rw [Int.pow_succ] at h
  generalize (128:Int) ^ j = K at *
  omega

theorem read_run : ∀ (j m : Nat) (u x : Int) (pre post : List Int) (k : Nat), pre.length = m → m + j = 9 → 0 ≤ u → u < 2 ^ (7 * m) → 0 ≤ x → x < 2 * 128 ^ j → (m = 0 ∨ 0 < x) → (pre ++ vb (j + 1) x ++ post).length ≤ 140737488355328 →
    call_Read.l0 (2 * (j + 1) + k) u (pre ++ vb (j + 1) x ++ post) ((pre ++ vb (j + 1) x ++ post).length : Int) m = some (unz (u + x * 2 ^ (7 * m)), ((m + (vb (j + 1) x).length : Nat) : Int), 0)
  | j, m, u, x, pre, post, k, hp, hj, hu0, hu, hx0, hx, hc, hl => by
    have hpm : (0 : Int) < 2 ^ (7 * m) := Int.pow_pos (by decide)
    have hs : u + x * 2 ^ (7 * m) ≤ 18446744073709551615 := run_bound _ _ x u (pow128 j m hj) hx hu hpm
    by_cases hge : 128 ≤ x
    · obtain ⟨j', rfl⟩ : ∃ j', j = j' + 1 := by
        cases j with
        | zero => simp at hx; exact absurd hge (by omega)
        | succ j' => exact ⟨j', rfl⟩
      have hx' := lt_succ j' x hx
      have hps := part_le _ x u hpm hx0 hs
      have hpn := part_nonneg _ x u hpm hu0
      have hpl := part_lt m x u hpm hu
      have hpe := part_sum m x u
      rw [vb_big hge] at hl ⊢
      clear hx hs
      have hb : (x % 128 + 128) % 128 = x % 128 := by clear hps hpn hpl hpe hu hpm hx'; omega
      have hll : m < (pre ++ (x % 128 + 128) :: vb (j' + 1) (x / 128) ++ post).length := by rw [List.length_append, List.length_append, List.length_cons, hp]; clear hps hpn hpl hpe hu hpm hx'; omega
      have st := read_step (2 * (j' + 1) + k) u (pre ++ (x % 128 + 128) :: vb (j' + 1) (x / 128) ++ post) (x % 128 + 128) m (by clear hps hpn hpl hpe hu hpm hx'; omega) (by clear hps hpn hpl hpe hu hpm hx'; omega) (by clear hps hpn hpl hpe hu hpm hx'; omega) hll hl
        (by rw [List.append_assoc, List.cons_append]; exact rd_mid _ _ _ _ (by rw [hp])) (by clear hps hpn hpl hpe hu hpm hx'; omega) hu0 hu (by rw [hb]; exact hps)
      rw [hb] at st
      have ih := read_run j' (m + 1) (u + x % 128 * 2 ^ (7 * m)) (x / 128) (pre ++ [x % 128 + 128]) post k (by simp [hp]) (by clear hps hpn hpl hpe hu hpm hx'; omega) hpn hpl (by clear hps hpn hpl hpe hu hpm hx'; omega) hx' (.inr (by clear hps hpn hpl hpe hu hpm hx'; omega)) (by simpa using hl)
      have e1 : pre ++ [x % 128 + 128] ++ vb (j' + 1) (x / 128) ++ post = pre ++ (x % 128 + 128) :: vb (j' + 1) (x / 128) ++ post := by simp
      rw [e1, hpe] at ih
      rw [show 2 * (j' + 1 + 1) + k = 2 * (j' + 1) + k + 2 from by clear hps hpn hpl hpe hu hpm hx'; omega, st, if_pos (by clear hps hpn hpl hpe hu hpm hx'; omega), ih]
      simp only [List.length_cons]
      congr 3
      clear hps hpn hpl hpe hu hpm hx'; omega
    · rw [vb_small hge] at hl ⊢
      have hb : x % 128 = x := by clear hs hu hpm hx; omega
      have hx1 : m = 9 → x ≤ 1 := by
        intro h
        obtain rfl : j = 0 := by clear hs hu hpm hx; omega
        simp at hx; clear hs hu hpm; omega
      clear hx
      have st := read_step (2 * j + k) u (pre ++ [x] ++ post) x m (by clear hs hu hpm; omega) hx0 (by clear hs hu hpm; omega) (by rw [List.length_append, List.length_append, hp]; simp; clear hs hu hpm; omega) hl
        (by rw [List.append_assoc]; exact rd_mid _ _ _ _ (by rw [hp])) hx1 hu0 hu (by rw [hb]; exact hs)
      rw [hb] at st
      rw [show 2 * (j + 1) + k = 2 * j + k + 2 from by clear hs hu hpm; omega, st, if_neg (by clear hs hu hpm; omega), if_neg (by clear hs hu hpm; omega)]
      simp

theorem read_back (n : Int) (h : I64 n) (post : List Int) (hl : post.length + 10 ≤ 140737488355328) : call_Read.f 40 (vb 10 (plain n) ++ post) = some (n, (((vb 10 (plain n)).length : Nat) : Int), 0) := by
  have hp := plain_u64 h
  unfold U64 at hp
  have hlen := vb_len10 (plain n)
  unfold call_Read.f
  rw [if_neg (by simp; omega)]
  have := read_run 9 0 0 (plain n) [] post 20 rfl rfl (by omega) (by simp) hp.1 (by omega) (.inl rfl) (by simp; omega)
  simp only [List.nil_append, Nat.zero_add, Int.mul_one, Int.zero_add] at this
  have e : (2 * (9 + 1) + 20) = 40 := rfl
  rw [e] at this
  simpa [unz_plain h] using this
end Go.Proofs.Ytbochokpfbimaaa.PCallOps
