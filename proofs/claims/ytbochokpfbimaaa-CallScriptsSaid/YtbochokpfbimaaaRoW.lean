/- call.ReadOp and call.ReadResult. -/
import Derived.Test.YtbochokpfbimaaaOpW
import Derived.Outline
set_option linter.unusedVariables false
set_option linter.unusedSimpArgs false
namespace Go.Proofs.Ytbochokpfbimaaa.PCallOps
open Go.RowKit Go.Proofs.YtbochokpfbimaaaW.PrintWords Go.Proofs.YtbochokpfbimaaaW.PrintLast Go.Proofs.YtbochokpfbimaaaW.PrintMore Go.Proofs.YtbochokpfbimaaaHk Go.Proofs.YtbochokpfbimaaaBs

theorem results_cell_row2 {P : Program} {fn : Func} {p u v : Tmp} {ty : TypeId} (h : fn.results = #[.cell p ty, .tmp u, .tmp v]) (tmps : Array Value) (w : World) (g : Nat) (t : TypeId) (cs : Array Value) (fr : Nat × Nat) (d : TypeDesc)
    (hp : tmps.getD p undef = .pointer (some ⟨g, 0, none⟩)) (hg : w.heap[g]? = some (.cells cs t fr))
    (hu : P.underlying ty = some d) (hd : (match d with | .struct _ | .array _ _ => true | _ => false) = true) (hi : (P.info? ty).map (·.size) = some cs.size) :
    (results fn tmps).run P w = .ok (.tuple #[.agg cs, tmps.getD u undef, tmps.getD v undef]) w := by
  have hp' : tmps[p]?.getD undef = .pointer (some ⟨g, 0, none⟩) := by simpa using hp
  simp [results, h, hp', asAddr, run_loadVar_row w g t ty cs fr d hg hu hd hi]

theorem blk_new1 (w : World) (o o' : Obj) : ((w.alloc o).alloc o').heap[w.heap.size + 1]? = some o' := by
  have h := blk_new (w.alloc o) o'
  have e : (w.alloc o).heap.size = w.heap.size + 1 := by simp
  rwa [e] at h
/-- One number of the reader's. -/
def Step (l : List Int) (n : Nat) (e v : Int) (n' : Nat) (e' : Int) : Prop :=
  n ≤ l.length ∧ ((e ≠ 0 ∧ v = 0 ∧ n' = n ∧ e' = e) ∨ (e = 0 ∧ ∃ (k : Nat) (ee : Int), call_Read.f 40 (l.drop n) = some (v, (k : Int), ee) ∧ n' = n + k ∧ k ≤ 100 ∧ (ee = 0 ∧ e' = 0 ∨ (ee = 2 ∨ ee = 5) ∧ e' = 2)))
theorem step_walk (g : Nat) (A0 : Option Addr) (c0 : Nat) (l : List Int) (n n' : Nat) (v e e' : Int) (w0 w : World) (hI : IsR w0 w g A0 c0 l n e) (hB : Below w0.heap.size w0 w) (hll : l.length ≤ 140737488355328) (h : Step l n e v n' e') :
    Calls Try.prog 24 #[.pointer (some ⟨g, 0, none⟩)] w (RdPost w0 w g A0 c0 l (.int .i64 v) n' e') := by
  obtain ⟨hn, ⟨he, rfl, rfl, rfl⟩ | ⟨rfl, k, ee, hR, rfl, hk, hee⟩⟩ := h
  · exact number_err g A0 c0 l n' e' w0 w hI hB he
  · have := number_ok g A0 c0 l n v k ee e' w0 w hI hB hn hll (by omega) hR hee
    simpa using this

set_option maxHeartbeats 1600000 in
set_option maxRecDepth 100000 in
theorem readop_ok (A : Option Addr) (c : Nat) (b : Int) (l : List Int) (w : World) (hr : Rb w A (b :: l)) (hc : (b :: l).length ≤ c) (hll : (b :: l).length ≤ 140737488355328)
    (v1 v2 v3 : Int) (n1 n2 n3 : Nat) (e1 e2 : Int) (h1 : Step (b :: l) 1 0 v1 n1 e1) (h2 : Step (b :: l) n1 e1 v2 n2 e2) (h3 : Step (b :: l) n2 e2 v3 n3 0) :
    Calls Try.prog 18 #[.slice A (b :: l).length c] w fun e w' => e = .returned (.tuple #[.agg #[.int .u8 b, .int .i64 v1, .int .i64 v2, .int .i64 v3], .int .i64 n3, .int .i64 0]) ∧ Below w.heap.size w w' := by
  have HR := Aside0.mk hr; clear hr
  have H1 := Aside0.mk h1; clear h1
  have H2 := Aside0.mk h2; clear h2
  have H3 := Aside0.mk h3; clear h3
  have HLL := Aside0.mk hll; clear hll
  have HC := Aside0.mk hc; clear hc
  obtain ⟨m, hm⟩ : ∃ m, m = (b :: l).length := ⟨_, rfl⟩
  have HM := Aside0.mk hm
  rw [← hm]; clear hm
  go_enter Try.func18, Try.ntmps18
  go_wp2_with fail
  have HI0 : Aside0 (IsR w ((w.alloc (.cells #[.int .u8 0, .int .i64 0, .int .i64 0, .int .i64 0] 36)).alloc (.cells #[.slice A m c, .int .i64 0, .int .i64 0] 61)) (w.heap.size + 1) A c (b :: l) 0 0) := ⟨⟨by rw [← HM.out]; exact blk_new1 w _ _, by omega, HR.out, HC.out⟩⟩
  have HB0 : Aside0 (Below w.heap.size w ((w.alloc (.cells #[.int .u8 0, .int .i64 0, .int .i64 0, .int .i64 0] 36)).alloc (.cells #[.slice A m c, .int .i64 0, .int .i64 0] 61))) := ⟨((Below.refl _ _).alloc (Nat.le_refl _) _).alloc (by simp) _⟩
  have hb0 : ((w.alloc (.cells #[.int .u8 0, .int .i64 0, .int .i64 0, .int .i64 0] 36)).alloc (.cells #[.slice A m c, .int .i64 0, .int .i64 0] 61)).heap[w.heap.size]? = some (.cells #[.int .u8 0, .int .i64 0, .int .i64 0, .int .i64 0] 36) := blk_alloc (blk_new w _) _
  have HK0 := Aside0.mk hb0; clear hb0
  with_reducible refine (byte_walk (w.heap.size + 1) A c b l 0 0 w _ HI0.out HB0.out).mono ?_
  rintro e w1 ⟨rfl, hi1, hb1, hk1⟩
  have HK1 := Aside0.mk (hk1.blk HK0.out (by omega) (by simp))
  have HI1 : Aside0 (IsR w w1 (w.heap.size + 1) A c (b :: l) ((1 : Nat) : Int) 0) := ⟨hi1⟩
  have HB1 := Aside0.mk hb1
  clear hi1 hb1 hk1 HK0 HI0 HB0
  go_wp2_with fail
  with_reducible refine (step_walk (w.heap.size + 1) A c (b :: l) 1 n1 v1 0 e1 w w1 HI1.out HB1.out HLL.out H1.out).mono ?_
  rintro e w2 ⟨rfl, hi2, hb2, hk2⟩
  have HK2 := Aside0.mk (hk2.blk HK1.out (by omega) (by simp))
  have HI2 := Aside0.mk hi2
  have HB2 := Aside0.mk hb2
  clear hi2 hb2 hk2 HK1 HI1 HB1
  go_wp2_with fail
  with_reducible refine (step_walk (w.heap.size + 1) A c (b :: l) n1 n2 v2 e1 e2 w w2 HI2.out HB2.out HLL.out H2.out).mono ?_
  rintro e w3 ⟨rfl, hi3, hb3, hk3⟩
  have HK3 := Aside0.mk (hk3.blk HK2.out (by omega) (by simp))
  have HI3 := Aside0.mk hi3
  have HB3 := Aside0.mk hb3
  clear hi3 hb3 hk3 HK2 HI2 HB2
  go_wp2_with fail
  with_reducible refine (step_walk (w.heap.size + 1) A c (b :: l) n2 n3 v3 e2 0 w w3 HI3.out HB3.out HLL.out H3.out).mono ?_
  rintro e w4 ⟨rfl, hi4, hb4, hk4⟩
  have HK4 := Aside0.mk (hk4.blk HK3.out (by omega) (by simp))
  have HI4 := Aside0.mk hi4
  have HB4 := Aside0.mk hb4
  clear hi4 hb4 hk4 HK3 HI3 HB3
  skip
  have q1 := HI4.out.q1
  have q2 := HI4.out.q2
  have hg := HI4.out.lt
  have hlt : w.heap.size < w4.heap.size := by omega
  have hne1 : w4.heap.size ≠ w.heap.size + 1 := by omega
  have hne2 : w4.heap.size ≠ w.heap.size := by omega
  have hne3 : w.heap.size ≠ w4.heap.size := by omega
  have hne4 : w.heap.size + 1 ≠ w4.heap.size := by omega
  have hs0 := hk_cell HK4.out 0
  have hf0 := hk_frozen HK4.out 0
  have hs1 := hk_cell HK4.out 1
  have hf1 := hk_frozen HK4.out 1
  have hs2 := hk_cell HK4.out 2
  have hf2 := hk_frozen HK4.out 2
  have hs3 := hk_cell HK4.out 3
  have hf3 := hk_frozen HK4.out 3
  generalize hgb : w.heap.size = gb at *
  go_wp2_with fail
  go_region

  go_wp2
  refine bodyPost_ret (results_cell_row2 rfl _ _ gb 36 #[.int .u8 b, .int .i64 v1, .int .i64 v2, .int .i64 v3] (0, 0) _ rfl (by (with_reducible repeat (first | refine blk_drewN ?_ _ | refine blk_drew ?_ | refine blk_alloc ?_ _)); refine blk_put (cs := #[.int .u8 b, .int .i64 v1, .int .i64 v2, .int .i64 0]) ?_ 3 _ rfl; refine blk_put (cs := #[.int .u8 b, .int .i64 v1, .int .i64 0, .int .i64 0]) ?_ 2 _ rfl; refine blk_put (cs := #[.int .u8 b, .int .i64 0, .int .i64 0, .int .i64 0]) ?_ 1 _ rfl; refine blk_put (cs := #[.int .u8 0, .int .i64 0, .int .i64 0, .int .i64 0]) ?_ 0 _ rfl; (with_reducible repeat (first | refine blk_drewN ?_ _ | refine blk_drew ?_ | refine blk_alloc ?_ _)); exact HK4.out) Try.underlying36 rfl (by kernel_rfl)) rfl ?_
  exact ⟨by first | rfl | (simp <;> rfl), by repeat (first | (with_reducible first | exact HB4.out | apply below_alloc | apply pw_below_drewN | apply below_drew1 | refine below_set ?_ (by omega)) | (rw [hgb]; exact HB4.out))⟩
set_option maxHeartbeats 1600000 in
set_option maxRecDepth 100000 in
theorem readop_no (A : Option Addr) (c : Nat) (b : Int) (l : List Int) (w : World) (hr : Rb w A (b :: l)) (hc : (b :: l).length ≤ c) (hll : (b :: l).length ≤ 140737488355328)
    (v1 v2 v3 : Int) (n1 n2 n3 : Nat) (e1 e2 e3 : Int) (h1 : Step (b :: l) 1 0 v1 n1 e1) (h2 : Step (b :: l) n1 e1 v2 n2 e2) (h3 : Step (b :: l) n2 e2 v3 n3 e3) (hne : (e3 != 0) = true) :
    Calls Try.prog 18 #[.slice A (b :: l).length c] w fun e w' => e = .returned (.tuple #[.agg #[.int .u8 0, .int .i64 0, .int .i64 0, .int .i64 0], .int .i64 0, .int .i64 e3]) ∧ Below w.heap.size w w' := by
  have HR := Aside0.mk hr; clear hr
  have H1 := Aside0.mk h1; clear h1
  have H2 := Aside0.mk h2; clear h2
  have H3 := Aside0.mk h3; clear h3
  have HLL := Aside0.mk hll; clear hll
  have HC := Aside0.mk hc; clear hc
  obtain ⟨m, hm⟩ : ∃ m, m = (b :: l).length := ⟨_, rfl⟩
  have HM := Aside0.mk hm
  rw [← hm]; clear hm
  go_enter Try.func18, Try.ntmps18
  go_wp2_with fail
  have HI0 : Aside0 (IsR w ((w.alloc (.cells #[.int .u8 0, .int .i64 0, .int .i64 0, .int .i64 0] 36)).alloc (.cells #[.slice A m c, .int .i64 0, .int .i64 0] 61)) (w.heap.size + 1) A c (b :: l) 0 0) := ⟨⟨by rw [← HM.out]; exact blk_new1 w _ _, by omega, HR.out, HC.out⟩⟩
  have HB0 : Aside0 (Below w.heap.size w ((w.alloc (.cells #[.int .u8 0, .int .i64 0, .int .i64 0, .int .i64 0] 36)).alloc (.cells #[.slice A m c, .int .i64 0, .int .i64 0] 61))) := ⟨((Below.refl _ _).alloc (Nat.le_refl _) _).alloc (by simp) _⟩
  have hb0 : ((w.alloc (.cells #[.int .u8 0, .int .i64 0, .int .i64 0, .int .i64 0] 36)).alloc (.cells #[.slice A m c, .int .i64 0, .int .i64 0] 61)).heap[w.heap.size]? = some (.cells #[.int .u8 0, .int .i64 0, .int .i64 0, .int .i64 0] 36) := blk_alloc (blk_new w _) _
  have HK0 := Aside0.mk hb0; clear hb0
  with_reducible refine (byte_walk (w.heap.size + 1) A c b l 0 0 w _ HI0.out HB0.out).mono ?_
  rintro e w1 ⟨rfl, hi1, hb1, hk1⟩
  have HK1 := Aside0.mk (hk1.blk HK0.out (by omega) (by simp))
  have HI1 : Aside0 (IsR w w1 (w.heap.size + 1) A c (b :: l) ((1 : Nat) : Int) 0) := ⟨hi1⟩
  have HB1 := Aside0.mk hb1
  clear hi1 hb1 hk1 HK0 HI0 HB0
  go_wp2_with fail
  with_reducible refine (step_walk (w.heap.size + 1) A c (b :: l) 1 n1 v1 0 e1 w w1 HI1.out HB1.out HLL.out H1.out).mono ?_
  rintro e w2 ⟨rfl, hi2, hb2, hk2⟩
  have HK2 := Aside0.mk (hk2.blk HK1.out (by omega) (by simp))
  have HI2 := Aside0.mk hi2
  have HB2 := Aside0.mk hb2
  clear hi2 hb2 hk2 HK1 HI1 HB1
  go_wp2_with fail
  with_reducible refine (step_walk (w.heap.size + 1) A c (b :: l) n1 n2 v2 e1 e2 w w2 HI2.out HB2.out HLL.out H2.out).mono ?_
  rintro e w3 ⟨rfl, hi3, hb3, hk3⟩
  have HK3 := Aside0.mk (hk3.blk HK2.out (by omega) (by simp))
  have HI3 := Aside0.mk hi3
  have HB3 := Aside0.mk hb3
  clear hi3 hb3 hk3 HK2 HI2 HB2
  go_wp2_with fail
  with_reducible refine (step_walk (w.heap.size + 1) A c (b :: l) n2 n3 v3 e2 e3 w w3 HI3.out HB3.out HLL.out H3.out).mono ?_
  rintro e w4 ⟨rfl, hi4, hb4, hk4⟩
  have HK4 := Aside0.mk (hk4.blk HK3.out (by omega) (by simp))
  have HI4 := Aside0.mk hi4
  have HB4 := Aside0.mk hb4
  clear hi4 hb4 hk4 HK3 HI3 HB3
  skip
  have q1 := HI4.out.q1
  have q2 := HI4.out.q2
  have hg := HI4.out.lt
  have hlt : w.heap.size < w4.heap.size := by omega
  have hne1 : w4.heap.size ≠ w.heap.size + 1 := by omega
  have hne2 : w4.heap.size ≠ w.heap.size := by omega
  have hne3 : w.heap.size ≠ w4.heap.size := by omega
  have hne4 : w.heap.size + 1 ≠ w4.heap.size := by omega
  have hs0 := hk_cell HK4.out 0
  have hf0 := hk_frozen HK4.out 0
  have hs1 := hk_cell HK4.out 1
  have hf1 := hk_frozen HK4.out 1
  have hs2 := hk_cell HK4.out 2
  have hf2 := hk_frozen HK4.out 2
  have hs3 := hk_cell HK4.out 3
  have hf3 := hk_frozen HK4.out 3
  generalize hgb : w.heap.size = gb at *
  go_wp2_with fail
  go_region

  go_wp2
  refine bodyPost_ret (results_cell_row2 rfl _ _ gb 36 #[.int .u8 0, .int .i64 0, .int .i64 0, .int .i64 0] (0, 0) _ rfl (by (with_reducible repeat (first | refine blk_drewN ?_ _ | refine blk_drew ?_ | refine blk_alloc ?_ _)); refine blk_put (cs := #[.int .u8 0, .int .i64 0, .int .i64 0, .int .i64 0]) ?_ 3 _ rfl; refine blk_put (cs := #[.int .u8 0, .int .i64 0, .int .i64 0, .int .i64 0]) ?_ 2 _ rfl; refine blk_put (cs := #[.int .u8 0, .int .i64 0, .int .i64 0, .int .i64 0]) ?_ 1 _ rfl; refine blk_put (cs := #[.int .u8 0, .int .i64 0, .int .i64 0, .int .i64 0]) ?_ 0 _ rfl; (with_reducible repeat (first | refine blk_drewN ?_ _ | refine blk_drew ?_ | refine blk_alloc ?_ _)); exact HK4.out) Try.underlying36 rfl (by kernel_rfl)) rfl ?_
  exact ⟨by first | rfl | (simp <;> rfl), by repeat (first | (with_reducible first | exact HB4.out | apply below_alloc | apply pw_below_drewN | apply below_drew1 | refine below_set ?_ (by omega)) | (rw [hgb]; exact HB4.out))⟩
set_option maxHeartbeats 1600000 in
set_option maxRecDepth 100000 in
theorem readres_ok (A : Option Addr) (c : Nat) (b : Int) (l : List Int) (w : World) (hr : Rb w A (b :: l)) (hc : (b :: l).length ≤ c) (hll : (b :: l).length ≤ 140737488355328)
    (v1 v2 v3 v4 : Int) (n1 n2 n3 n4 : Nat) (e1 e2 e3 : Int) (h1 : Step (b :: l) 1 0 v1 n1 e1) (h2 : Step (b :: l) n1 e1 v2 n2 e2) (h3 : Step (b :: l) n2 e2 v3 n3 e3) (h4 : Step (b :: l) n3 e3 v4 n4 0) :
    Calls Try.prog 19 #[.slice A (b :: l).length c] w fun e w' => e = .returned (.tuple #[.agg #[.int .u8 b, .int .u64 (v1 % 18446744073709551616), .int .i64 v2, .int .i64 v3, .int .i64 v4], .int .i64 n4, .int .i64 0]) ∧ Below w.heap.size w w' := by
  have HR := Aside0.mk hr; clear hr
  have H1 := Aside0.mk h1; clear h1
  have H2 := Aside0.mk h2; clear h2
  have H3 := Aside0.mk h3; clear h3
  have H4 := Aside0.mk h4; clear h4
  have HLL := Aside0.mk hll; clear hll
  have HC := Aside0.mk hc; clear hc
  obtain ⟨m, hm⟩ : ∃ m, m = (b :: l).length := ⟨_, rfl⟩
  have HM := Aside0.mk hm
  rw [← hm]; clear hm
  go_enter Try.func19, Try.ntmps19
  go_wp2_with fail
  have HI0 : Aside0 (IsR w ((w.alloc (.cells #[.int .u8 0, .int .u64 0, .int .i64 0, .int .i64 0, .int .i64 0] 38)).alloc (.cells #[.slice A m c, .int .i64 0, .int .i64 0] 61)) (w.heap.size + 1) A c (b :: l) 0 0) := ⟨⟨by rw [← HM.out]; exact blk_new1 w _ _, by omega, HR.out, HC.out⟩⟩
  have HB0 : Aside0 (Below w.heap.size w ((w.alloc (.cells #[.int .u8 0, .int .u64 0, .int .i64 0, .int .i64 0, .int .i64 0] 38)).alloc (.cells #[.slice A m c, .int .i64 0, .int .i64 0] 61))) := ⟨((Below.refl _ _).alloc (Nat.le_refl _) _).alloc (by simp) _⟩
  have hb0 : ((w.alloc (.cells #[.int .u8 0, .int .u64 0, .int .i64 0, .int .i64 0, .int .i64 0] 38)).alloc (.cells #[.slice A m c, .int .i64 0, .int .i64 0] 61)).heap[w.heap.size]? = some (.cells #[.int .u8 0, .int .u64 0, .int .i64 0, .int .i64 0, .int .i64 0] 38) := blk_alloc (blk_new w _) _
  have HK0 := Aside0.mk hb0; clear hb0
  with_reducible refine (byte_walk (w.heap.size + 1) A c b l 0 0 w _ HI0.out HB0.out).mono ?_
  rintro e w1 ⟨rfl, hi1, hb1, hk1⟩
  have HK1 := Aside0.mk (hk1.blk HK0.out (by omega) (by simp))
  have HI1 : Aside0 (IsR w w1 (w.heap.size + 1) A c (b :: l) ((1 : Nat) : Int) 0) := ⟨hi1⟩
  have HB1 := Aside0.mk hb1
  clear hi1 hb1 hk1 HK0 HI0 HB0
  go_wp2_with fail
  with_reducible refine (step_walk (w.heap.size + 1) A c (b :: l) 1 n1 v1 0 e1 w w1 HI1.out HB1.out HLL.out H1.out).mono ?_
  rintro e w2 ⟨rfl, hi2, hb2, hk2⟩
  have HK2 := Aside0.mk (hk2.blk HK1.out (by omega) (by simp))
  have HI2 := Aside0.mk hi2
  have HB2 := Aside0.mk hb2
  clear hi2 hb2 hk2 HK1 HI1 HB1
  go_wp2_with fail
  with_reducible refine (step_walk (w.heap.size + 1) A c (b :: l) n1 n2 v2 e1 e2 w w2 HI2.out HB2.out HLL.out H2.out).mono ?_
  rintro e w3 ⟨rfl, hi3, hb3, hk3⟩
  have HK3 := Aside0.mk (hk3.blk HK2.out (by omega) (by simp))
  have HI3 := Aside0.mk hi3
  have HB3 := Aside0.mk hb3
  clear hi3 hb3 hk3 HK2 HI2 HB2
  go_wp2_with fail
  with_reducible refine (step_walk (w.heap.size + 1) A c (b :: l) n2 n3 v3 e2 e3 w w3 HI3.out HB3.out HLL.out H3.out).mono ?_
  rintro e w4 ⟨rfl, hi4, hb4, hk4⟩
  have HK4 := Aside0.mk (hk4.blk HK3.out (by omega) (by simp))
  have HI4 := Aside0.mk hi4
  have HB4 := Aside0.mk hb4
  clear hi4 hb4 hk4 HK3 HI3 HB3
  go_wp2_with fail
  with_reducible refine (step_walk (w.heap.size + 1) A c (b :: l) n3 n4 v4 e3 0 w w4 HI4.out HB4.out HLL.out H4.out).mono ?_
  rintro e w5 ⟨rfl, hi5, hb5, hk5⟩
  have HK5 := Aside0.mk (hk5.blk HK4.out (by omega) (by simp))
  have HI5 := Aside0.mk hi5
  have HB5 := Aside0.mk hb5
  clear hi5 hb5 hk5 HK4 HI4 HB4
  skip
  have q1 := HI5.out.q1
  have q2 := HI5.out.q2
  have hg := HI5.out.lt
  have hlt : w.heap.size < w5.heap.size := by omega
  have hne1 : w5.heap.size ≠ w.heap.size + 1 := by omega
  have hne2 : w5.heap.size ≠ w.heap.size := by omega
  have hne3 : w.heap.size ≠ w5.heap.size := by omega
  have hne4 : w.heap.size + 1 ≠ w5.heap.size := by omega
  have hs0 := hk_cell HK5.out 0
  have hf0 := hk_frozen HK5.out 0
  have hs1 := hk_cell HK5.out 1
  have hf1 := hk_frozen HK5.out 1
  have hs2 := hk_cell HK5.out 2
  have hf2 := hk_frozen HK5.out 2
  have hs3 := hk_cell HK5.out 3
  have hf3 := hk_frozen HK5.out 3
  have hs4 := hk_cell HK5.out 4
  have hf4 := hk_frozen HK5.out 4
  generalize hgb : w.heap.size = gb at *
  go_wp2_with fail
  go_region

  go_wp2
  refine bodyPost_ret (results_cell_row2 rfl _ _ gb 38 #[.int .u8 b, .int .u64 (v1 % 18446744073709551616), .int .i64 v2, .int .i64 v3, .int .i64 v4] (0, 0) _ rfl (by (with_reducible repeat (first | refine blk_drewN ?_ _ | refine blk_drew ?_ | refine blk_alloc ?_ _)); refine blk_put (cs := #[.int .u8 b, .int .u64 (v1 % 18446744073709551616), .int .i64 v2, .int .i64 v3, .int .i64 0]) ?_ 4 _ rfl; refine blk_put (cs := #[.int .u8 b, .int .u64 (v1 % 18446744073709551616), .int .i64 v2, .int .i64 0, .int .i64 0]) ?_ 3 _ rfl; refine blk_put (cs := #[.int .u8 b, .int .u64 (v1 % 18446744073709551616), .int .i64 0, .int .i64 0, .int .i64 0]) ?_ 2 _ rfl; refine blk_put (cs := #[.int .u8 b, .int .u64 0, .int .i64 0, .int .i64 0, .int .i64 0]) ?_ 1 _ rfl; refine blk_put (cs := #[.int .u8 0, .int .u64 0, .int .i64 0, .int .i64 0, .int .i64 0]) ?_ 0 _ rfl; (with_reducible repeat (first | refine blk_drewN ?_ _ | refine blk_drew ?_ | refine blk_alloc ?_ _)); exact HK5.out) Try.underlying38 rfl (by kernel_rfl)) rfl ?_
  exact ⟨by first | rfl | (simp <;> rfl), by repeat (first | (with_reducible first | exact HB5.out | apply below_alloc | apply pw_below_drewN | apply below_drew1 | refine below_set ?_ (by omega)) | (rw [hgb]; exact HB5.out))⟩

end Go.Proofs.Ytbochokpfbimaaa.PCallOps
