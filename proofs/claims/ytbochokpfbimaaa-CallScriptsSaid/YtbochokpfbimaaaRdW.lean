/- The reader: a number, and a call or an answer out of bytes. -/
import Derived.Test.YtbochokpfbimaaaCloW
import Derived.Outline
set_option linter.unusedVariables false
set_option linter.unusedSimpArgs false
namespace Go.Proofs.Ytbochokpfbimaaa.PCallOps
open Go.RowKit Go.Proofs.YtbochokpfbimaaaW.PrintWords Go.Proofs.YtbochokpfbimaaaW.PrintLast Go.Proofs.YtbochokpfbimaaaW.PrintMore Go.Proofs.YtbochokpfbimaaaHk Go.Proofs.YtbochokpfbimaaaBs

theorem Rb.drop {w : World} {A : Option Addr} {xs : List Int} {c : Nat} (h : Rb w A xs) (i : Nat) (hi : i ≤ xs.length) (hc : xs.length ≤ c) : Rb w (if c = i then A else Option.map (fun x => x.add i) A) (xs.drop i) := by
  have h1 := ReadsInt.drop_ (k := .u8) (c := c) h i hi hc
  rw [Rb, List.length_drop]; exact h1

/-- A reader at block g: its bytes, how many were read, its error. -/
structure IsR (w0 W : World) (g : Nat) (A0 : Option Addr) (c0 : Nat) (l : List Int) (n e : Int) : Prop where
  heap : W.heap[g]? = some (.cells #[.slice A0 l.length c0, .int .i64 n, .int .i64 e] 61)
  base : w0.heap.size ≤ g
  reads : Rb w0 A0 l
  le : l.length ≤ c0
theorem IsR.lt {w0 W : World} {g : Nat} {A0 : Option Addr} {c0 : Nat} {l : List Int} {n e : Int} (h : IsR w0 W g A0 c0 l n e) : g < W.heap.size := hk_lt h.heap
theorem IsR.q0 {w0 W : World} {g : Nat} {A0 : Option Addr} {c0 : Nat} {l : List Int} {n e : Int} (h : IsR w0 W g A0 c0 l n e) : W.cell? ⟨g, 0, none⟩ = some (.slice A0 l.length c0) := hk_cell h.heap 0
theorem IsR.q1 {w0 W : World} {g : Nat} {A0 : Option Addr} {c0 : Nat} {l : List Int} {n e : Int} (h : IsR w0 W g A0 c0 l n e) : W.cell? ⟨g, 1, none⟩ = some (.int .i64 n) := hk_cell h.heap 1
theorem IsR.q2 {w0 W : World} {g : Nat} {A0 : Option Addr} {c0 : Nat} {l : List Int} {n e : Int} (h : IsR w0 W g A0 c0 l n e) : W.cell? ⟨g, 2, none⟩ = some (.int .i64 e) := hk_cell h.heap 2
theorem IsR.fz {w0 W : World} {g : Nat} {A0 : Option Addr} {c0 : Nat} {l : List Int} {n e : Int} (h : IsR w0 W g A0 c0 l n e) (i : Nat) : W.frozen? ⟨g, i, none⟩ = false := hk_frozen h.heap i
theorem IsR.set1 {w0 W : World} {g : Nat} {A0 : Option Addr} {c0 : Nat} {l : List Int} {n e : Int} (h : IsR w0 W g A0 c0 l n e) (x : Int) : IsR w0 (W.setCell ⟨g, 1, none⟩ (.int .i64 x)) g A0 c0 l x e := ⟨hk_set h.heap 1 _, h.base, h.reads, h.le⟩
theorem IsR.set2 {w0 W : World} {g : Nat} {A0 : Option Addr} {c0 : Nat} {l : List Int} {n e : Int} (h : IsR w0 W g A0 c0 l n e) (x : Int) : IsR w0 (W.setCell ⟨g, 2, none⟩ (.int .i64 x)) g A0 c0 l n x := ⟨hk_set h.heap 2 _, h.base, h.reads, h.le⟩
theorem IsR.below {w0 W W1 : World} {g : Nat} {A0 : Option Addr} {c0 : Nat} {l : List Int} {n e : Int} (h : IsR w0 W g A0 c0 l n e) (hb : Below W.heap.size W W1) : IsR w0 W1 g A0 c0 l n e := ⟨hk_below hb h.lt h.heap, h.base, h.reads, h.le⟩
/-- What a reader's post says, shut for the walk. -/
def RdPost (w0 w : World) (g : Nat) (A0 : Option Addr) (c0 : Nat) (l : List Int) (r : Value) (n e : Int) (x : Ending) (w' : World) : Prop := x = .returned r ∧ IsR w0 w' g A0 c0 l n e ∧ Below w0.heap.size w0 w' ∧ KeepBut w w' g none

set_option maxHeartbeats 1600000 in
set_option maxRecDepth 100000 in
theorem byte_walk (g : Nat) (A0 : Option Addr) (c0 : Nat) (b : Int) (l : List Int) (n e : Int) (w0 w : World) (hI : IsR w0 w g A0 c0 (b :: l) n e) (hB : Below w0.heap.size w0 w) :
    Calls Try.prog 23 #[.pointer (some ⟨g, 0, none⟩)] w (RdPost w0 w g A0 c0 (b :: l) (.int .u8 b) 1 e) := by
  have HI := Aside0.mk hI
  have HB := Aside0.mk hB
  have q0 := hI.q0
  have q1 := hI.q1
  have f1 := hI.fz 1
  obtain ⟨bb, bo, rfl, hc⟩ := (hI.reads).addr (by simp)
  have hc0 := hc 0 (by simp)
  have hcell : w.cell? ⟨bb, bo, none⟩ = some (.int .u8 b) := by
    have h1 := hB.cell (World.block_lt_of_cell? w0 _ hc0)
    simpa using h1.trans hc0
  have hne : bb ≠ g := by have := World.block_lt_of_cell? w0 _ hc0; have := hI.base; simp at *; omega
  have hne' : g ≠ bb := fun h => hne h.symm
  clear hI hB hc hc0
  go_enter Try.func23, Try.ntmps23
  go_wp2
  go_ret
  exact ⟨rfl, HI.out.set1 1, HB.out.setCell HI.out.base _, (KeepBut.refl _ _ _).set_ _ _⟩

set_option maxHeartbeats 1600000 in
set_option maxRecDepth 100000 in
theorem fails_walk (g : Nat) (A0 : Option Addr) (c0 : Nat) (l : List Int) (n e ee : Int) (w0 w : World) (hI : IsR w0 w g A0 c0 l n e) (hB : Below w0.heap.size w0 w) (hee : ee = 2 ∨ ee = 5) :
    Calls Try.prog 25 #[.pointer (some ⟨g, 0, none⟩), .int .i64 ee] w (RdPost w0 w g A0 c0 l (.tuple #[]) n 2) := by
  have HI := Aside0.mk hI
  have HB := Aside0.mk hB
  have q2 := hI.q2
  have f2 := hI.fz 2
  clear hI hB
  rcases hee with rfl | rfl
  all_goals
    go_enter Try.func25, Try.ntmps25
    go_wp2
    go_end0
    exact ⟨rfl, HI.out.set2 2, HB.out.setCell HI.out.base _, (KeepBut.refl _ _ _).set_ _ _⟩

set_option maxHeartbeats 1600000 in
set_option maxRecDepth 100000 in
theorem number_err (g : Nat) (A0 : Option Addr) (c0 : Nat) (l : List Int) (n e : Int) (w0 w : World) (hI : IsR w0 w g A0 c0 l n e) (hB : Below w0.heap.size w0 w) (he : e ≠ 0) :
    Calls Try.prog 24 #[.pointer (some ⟨g, 0, none⟩)] w (RdPost w0 w g A0 c0 l (.int .i64 0) n e) := by
  have HI := Aside0.mk hI
  have HB := Aside0.mk hB
  have q2 := hI.q2
  have hne : (e != 0) = true := by simpa using he
  clear hB hI
  go_enter Try.func24, Try.ntmps24
  go_wp2
  go_ret
  exact ⟨rfl, HI.out, HB.out, KeepBut.refl _ _ _⟩

set_option maxHeartbeats 1600000 in
set_option maxRecDepth 100000 in
theorem number_ok (g : Nat) (A0 : Option Addr) (c0 : Nat) (l : List Int) (n : Nat) (v k ee e2 : Int) (w0 w : World) (hI : IsR w0 w g A0 c0 l n 0) (hB : Below w0.heap.size w0 w) (hn : n ≤ l.length) (hll : l.length ≤ 140737488355328) (hk : 0 ≤ k ∧ k ≤ 100)
    (hR : call_Read.f 40 (l.drop n) = some (v, k, ee)) (hee : ee = 0 ∧ e2 = 0 ∨ (ee = 2 ∨ ee = 5) ∧ e2 = 2) :
    Calls Try.prog 24 #[.pointer (some ⟨g, 0, none⟩)] w (RdPost w0 w g A0 c0 l (.int .i64 v) (n + k) e2) := by
  have HI := Aside0.mk hI
  have HB := Aside0.mk hB
  have q0 := hI.q0
  have q1 := hI.q1
  have q2 := hI.q2
  have hgl := hI.lt
  have hle := hI.le
  have hr := fun W => @lw_cell W
  have HR := Aside0.mk hR
  have HRd := Aside0.mk (Rb.drop ((hI.reads).below HB.out) n hn hle)
  have hdl : (l.drop n).length = l.length - n := by simp
  clear hB hI hR
  obtain ⟨xs, hxs⟩ : ∃ xs, xs = l.drop n := ⟨_, rfl⟩
  rw [← hxs] at HR HRd hdl
  have HDL := Aside0.mk hdl
  clear hxs hdl
  have hx1 : l.length - n = xs.length := HDL.out.symm
  have hlow : (n : Int) ≤ (l.length : Int) := by omega
  obtain ⟨A1, hA1⟩ : ∃ A1, A1 = (if c0 = n then A0 else Option.map (fun x => x.add n) A0) := ⟨_, rfl⟩
  rw [← hA1] at HRd
  have hcl : xs.length ≤ c0 - n := by omega
  by_cases hcn : c0 = n
  all_goals
    first | rw [if_pos hcn] at hA1 | rw [if_neg hcn] at hA1
    subst hA1
    rcases hee with ⟨rfl, rfl⟩ | ⟨he5, rfl⟩
    · go_enter Try.func24, Try.ntmps24
      go_wp2_with fail
      refine region_later (by kernel_rfl) (by kernel_rfl) ?_
      repeat (go_big_quiet_step (first | (go_at_call 11; refine later_call ((call_Read.calls 40 _ _ xs v k 0 _ ((HRd.out.below (Subtype.property _)).C) (by omega) HR.out).mono fun _ _ hh => ⟨hh.1, hh.2.below⟩))))
      refine wpQuiet_nil ?_
      rintro w4 ⟨⟨_, hb4⟩, rfl⟩
      have HI4 := Aside0.mk (HI.out.below hb4)
      have HB4 := Aside0.mk (hk_then HB.out hb4 HB.out.size)
      have HK4 := Aside0.mk (KeepBut.of_below hb4 g none)
      clear hb4 q0 q1 q2 HI HB
      have q1 := HI4.out.q1
      have f1 := HI4.out.fz 1
      go_wp2
      go_ret
      exact ⟨rfl, HI4.out.set1 _, HB4.out.setCell HI4.out.base _, HK4.out.set_ _ _⟩
    · have hne : ee ≠ 0 := by omega
      have hne' : (ee != 0) = true := by simpa using hne
      have HE5 := Aside0.mk he5
      clear he5 hne
      go_enter Try.func24, Try.ntmps24
      go_wp2_with fail
      refine region_later (by kernel_rfl) (by kernel_rfl) ?_
      repeat (go_big_quiet_step (first | (go_at_call 11; refine later_call ((call_Read.calls 40 _ _ xs v k ee _ ((HRd.out.below (Subtype.property _)).C) (by omega) HR.out).mono fun _ _ hh => ⟨hh.1, hh.2.below⟩))))
      refine wpQuiet_nil ?_
      rintro w4 ⟨⟨_, hb4⟩, rfl⟩
      have HI4 := Aside0.mk (HI.out.below hb4)
      have HB4 := Aside0.mk (hk_then HB.out hb4 HB.out.size)
      have HK4 := Aside0.mk (KeepBut.of_below hb4 g none)
      clear hb4 q0 q1 q2 HI HB
      go_wp2_with fail
      with_reducible refine (fails_walk g _ c0 l n 0 ee w0 w4 HI4.out HB4.out HE5.out).mono ?_
      rintro e w5 ⟨rfl, hi5, hb5, hk5⟩
      have HI5 := Aside0.mk hi5
      have HB5 := Aside0.mk hb5
      have HK5 := Aside0.mk (HK4.out.trans hk5 (.inl rfl))
      have q1 := hi5.q1
      have f1 := hi5.fz 1
      clear hi5 hb5 hk5 HI4 HB4 HK4
      go_wp2
      go_ret
      exact ⟨rfl, HI5.out.set1 _, HB5.out.setCell HI5.out.base _, HK5.out.set_ _ _⟩
end Go.Proofs.Ytbochokpfbimaaa.PCallOps
