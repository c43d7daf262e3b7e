/- append of nothing. -/
import Derived.Test.YtbochokpfbimaaaRoW
set_option linter.unusedVariables false
set_option linter.unusedSimpArgs false
namespace Go.Proofs.YtbochokpfbimaaaBs
open Go.RowKit Go.Proofs.YtbochokpfbimaaaW.PrintWords Go.Proofs.YtbochokpfbimaaaW.PrintLast Go.Proofs.YtbochokpfbimaaaW.PrintMore Go.Proofs.YtbochokpfbimaaaHk
theorem run_append_zero {P : Program} (w : World) (t ty e : TypeId) (i : TypeInfo) (ht : P.underlying t = some (.slice e)) (hi : P.info? e = some i) (A B : Option Addr) (n c cb : Nat) (hn : n ≤ c) :
    (Builtin.append_ #[t, t] ty #[.slice A n c, .slice B 0 cb]).run P w = .ok (.slice A n c) w := by
  cases A <;> cases B <;> simp [Builtin.append_, run_underlying ht, sizeOf, typeInfo, hi, Builtin.lenOf, hn, Builtin.firstCells, storeCells, loadCells, loadCellsFrom, Result.andThen]
section
variable {P : Program} {ops : Array Oper} {rest : List Oper} {o : Oper} {a : Act} {Q : Exit → Act → World → Prop}
theorem append_zero {w : World} (hgd : o.guard = none) (s x : Operand) (t e : TypeId) (i : TypeInfo)
    (ho : o.op = .call { callee := .builtin .append, args := #[s, x], argTypes := #[t, t] }) (ht : P.underlying t = some (.slice e)) (hi : P.info? e = some i)
    (A B : Option Addr) (n c cb : Nat) (hn : n ≤ c) (hs : a.eval s = .slice A n c) (hx : a.eval x = .slice B 0 cb)
    (h : wpList P ops Q rest (a.put o.dst (.slice A n c)) w) : wpList P ops Q (o :: rest) a w := by
  refine wpList_plain hgd fun K hK => ?_
  have hrun := run_append_zero (P := P) w t o.type e i ht hi A B n c cb hn
  unfold Oper.wp
  simp [execOp, ho, resolve, invoke, builtin, hs, hx, hrun, Result.andThen]
  exact hK _ _ h
/-- append(v, ys...). -/
theorem gb_append_any {w0 W : World} (base : Nat) (hgd : o.guard = none) (s x : Operand) (t e : TypeId)
    (ho : o.op = .call { callee := .builtin .append, args := #[s, x], argTypes := #[t, t] })
    (ht : P.underlying t = some (.slice e)) (hinfo : (P.info? e).map (fun i => (i.zero, i.size, i.bytes)) = some (some (.int .u8 0), 1, 1))
    (A : Option Addr) (c : Nat) (zs ys : List Int) (B : Option Addr) (cb : Nat) (hs : a.eval s = .slice A zs.length c) (hx : a.eval x = .slice B ys.length cb)
    (H : Gb base e W A c zs) (HR : Rb W B ys) (HB : Below base w0 W) (hbase : base ≤ W.heap.size) (hl : zs.length + ys.length ≤ 140737488355328)
    (h : ∀ A1 c1 w1, Gb base e w1 A1 c1 (zs ++ ys) → Below base w0 w1 → wpList P ops Q rest (a.put o.dst (.slice A1 (zs ++ ys).length c1)) w1) :
    wpList P ops Q (o :: rest) a W := by
  rcases Nat.eq_zero_or_pos ys.length with h0 | hp
  · obtain rfl : ys = [] := List.eq_nil_of_length_eq_zero h0
    obtain ⟨i0, hi, hzz⟩ := Option.map_eq_some_iff.1 hinfo
    refine append_zero hgd s x t e i0 ho ht hi A B zs.length c cb H.le hs hx ?_
    have := h A c W (by simpa using H) HB
    simpa using this
  · exact gb_append_row base hgd s x t e ho ht hinfo A c zs ys B cb hs hx H HR hp HB hbase hl h
end
end Go.Proofs.YtbochokpfbimaaaBs
namespace Go.Proofs.Ytbochokpfbimaaa.PCallOps
open Go.RowKit Go.Proofs.YtbochokpfbimaaaHk Go.Proofs.YtbochokpfbimaaaBs
theorem step_good (pre post : List Int) (n : Int) (hn : I64 n) (hl : post.length + 10 ≤ 140737488355328) (m : Nat) (hm : m = pre.length) : Step (pre ++ (vb 10 (plain n) ++ post)) m 0 n (m + (vb 10 (plain n)).length) 0 := by
  subst hm
  refine ⟨by simp, .inr ⟨rfl, (vb 10 (plain n)).length, 0, ?_, rfl, ?_, .inl ⟨rfl, rfl⟩⟩⟩
  · rw [List.drop_left]; exact read_back n hn post hl
  · have := vb_len10 (plain n); omega
/-- The three steps of a call's bytes. -/
theorem op_steps (k t h n : Int) (post : List Int) (ht : I64 t) (hh : I64 h) (hn : I64 n) (hl : post.length + 100 ≤ 140737488355328) :
    ∃ n1 n2, Step (k :: (nb [t, h, n] ++ post)) 1 0 t n1 0 ∧ Step (k :: (nb [t, h, n] ++ post)) n1 0 h n2 0 ∧ Step (k :: (nb [t, h, n] ++ post)) n2 0 n (1 + (nb [t, h, n]).length) 0 := by
  have l1 := vb_len10 (plain t)
  have l2 := vb_len10 (plain h)
  have l3 := vb_len10 (plain n)
  refine ⟨1 + (vb 10 (plain t)).length, 1 + (vb 10 (plain t)).length + (vb 10 (plain h)).length, ?_, ?_, ?_⟩
  · have := step_good [k] (vb 10 (plain h) ++ (vb 10 (plain n) ++ post)) t ht (by simp; omega) 1 rfl
    simpa [nb] using this
  · have := step_good (k :: vb 10 (plain t)) (vb 10 (plain n) ++ post) h hh (by simp; omega) (1 + (vb 10 (plain t)).length) (by simp; omega)
    simpa [nb] using this
  · have := step_good (k :: (vb 10 (plain t) ++ vb 10 (plain h))) post n hn (by omega) (1 + (vb 10 (plain t)).length + (vb 10 (plain h)).length) (by simp; omega)
    have e : 1 + (nb [t, h, n]).length = 1 + (vb 10 (plain t)).length + (vb 10 (plain h)).length + (vb 10 (plain n)).length := by simp [nb]; omega
    rw [e]; simpa [nb] using this
theorem res_steps (k u t h n : Int) (post : List Int) (hu : I64 u) (ht : I64 t) (hh : I64 h) (hn : I64 n) (hl : post.length + 100 ≤ 140737488355328) :
    ∃ n1 n2 n3, Step (k :: (nb [u, t, h, n] ++ post)) 1 0 u n1 0 ∧ Step (k :: (nb [u, t, h, n] ++ post)) n1 0 t n2 0 ∧ Step (k :: (nb [u, t, h, n] ++ post)) n2 0 h n3 0 ∧ Step (k :: (nb [u, t, h, n] ++ post)) n3 0 n (1 + (nb [u, t, h, n]).length) 0 := by
  have l0 := vb_len10 (plain u)
  have l1 := vb_len10 (plain t)
  have l2 := vb_len10 (plain h)
  have l3 := vb_len10 (plain n)
  refine ⟨1 + (vb 10 (plain u)).length, 1 + (vb 10 (plain u)).length + (vb 10 (plain t)).length, 1 + (vb 10 (plain u)).length + (vb 10 (plain t)).length + (vb 10 (plain h)).length, ?_, ?_, ?_, ?_⟩
  · have := step_good [k] (vb 10 (plain t) ++ (vb 10 (plain h) ++ (vb 10 (plain n) ++ post))) u hu (by simp; omega) 1 rfl
    simpa [nb] using this
  · have := step_good (k :: vb 10 (plain u)) (vb 10 (plain h) ++ (vb 10 (plain n) ++ post)) t ht (by simp; omega) (1 + (vb 10 (plain u)).length) (by simp; omega)
    simpa [nb] using this
  · have := step_good (k :: (vb 10 (plain u) ++ vb 10 (plain t))) (vb 10 (plain n) ++ post) h hh (by simp; omega) (1 + (vb 10 (plain u)).length + (vb 10 (plain t)).length) (by simp; omega)
    simpa [nb] using this
  · have := step_good (k :: (vb 10 (plain u) ++ (vb 10 (plain t) ++ vb 10 (plain h)))) post n hn (by omega) (1 + (vb 10 (plain u)).length + (vb 10 (plain t)).length + (vb 10 (plain h)).length) (by simp; omega)
    have e : 1 + (nb [u, t, h, n]).length = 1 + (vb 10 (plain u)).length + (vb 10 (plain t)).length + (vb 10 (plain h)).length + (vb 10 (plain n)).length := by simp [nb]; omega
    rw [e]; simpa [nb] using this
theorem wrapwrap (u : Int) (hu : U64 u) : wrap64 u % 18446744073709551616 = u := by unfold U64 at hu; unfold wrap64; omega

theorem readop_back (A : Option Addr) (c : Nat) (k t h n : Int) (post : List Int) (w : World) (ht : I64 t) (hh : I64 h) (hn : I64 n) (hl : post.length + 100 ≤ 140737488355328) (m : Nat)
    (hr : Rb w A (k :: nb [t, h, n] ++ post)) (hm : m = (k :: nb [t, h, n] ++ post).length) (hc : m ≤ c) :
    Calls Try.prog 18 #[.slice A m c] w fun e w' => e = .returned (.tuple #[.agg #[.int .u8 k, .int .i64 t, .int .i64 h, .int .i64 n], .int .i64 (k :: nb [t, h, n]).length, .int .i64 0]) ∧ Below w.heap.size w w' := by
  subst hm
  obtain ⟨n1, n2, h1, h2, h3⟩ := op_steps k t h n post ht hh hn hl
  have hlen := nb_len [t, h, n]
  have := readop_ok A c k (nb [t, h, n] ++ post) w hr hc (by simp at hlen ⊢; omega) t h n n1 n2 _ 0 0 h1 h2 h3
  simpa [Int.add_comm, Nat.add_comm] using this
theorem readres_back (A : Option Addr) (c : Nat) (k u t h n : Int) (post : List Int) (w : World) (hu : U64 u) (ht : I64 t) (hh : I64 h) (hn : I64 n) (hl : post.length + 100 ≤ 140737488355328) (m : Nat)
    (hr : Rb w A (k :: nb [wrap64 u, t, h, n] ++ post)) (hm : m = (k :: nb [wrap64 u, t, h, n] ++ post).length) (hc : m ≤ c) :
    Calls Try.prog 19 #[.slice A m c] w fun e w' => e = .returned (.tuple #[.agg #[.int .u8 k, .int .u64 u, .int .i64 t, .int .i64 h, .int .i64 n], .int .i64 (k :: nb [wrap64 u, t, h, n]).length, .int .i64 0]) ∧ Below w.heap.size w w' := by
  subst hm
  obtain ⟨n1, n2, n3, h1, h2, h3, h4⟩ := res_steps k (wrap64 u) t h n post (wrap_i64_I64 u) ht hh hn hl
  have hlen := nb_len [wrap64 u, t, h, n]
  have := readres_ok A c k (nb [wrap64 u, t, h, n] ++ post) w hr hc (by simp at hlen ⊢; omega) (wrap64 u) t h n n1 n2 n3 _ 0 0 0 h1 h2 h3 h4
  rw [wrapwrap u hu] at this
  simpa [Int.add_comm, Nat.add_comm] using this
end Go.Proofs.Ytbochokpfbimaaa.PCallOps
