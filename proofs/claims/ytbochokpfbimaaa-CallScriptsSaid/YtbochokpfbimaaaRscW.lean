/- call.ReadScript. -/
import Derived.Test.YtbochokpfbimaaaScrW
import Derived.Outline
set_option linter.unusedVariables false
set_option linter.unusedSimpArgs false
namespace Go.Proofs.Ytbochokpfbimaaa.PCallOps
open Go.RowKit Go.Proofs.YtbochokpfbimaaaW.PrintWords Go.Proofs.YtbochokpfbimaaaW.PrintLast Go.Proofs.YtbochokpfbimaaaW.PrintMore Go.Proofs.YtbochokpfbimaaaHk Go.Proofs.YtbochokpfbimaaaBs

theorem sc_at : ∀ (l : List O4) (i j : Nat), i < l.length → j < 4 → (sc l)[i * 4 + j]? = (l.getD i .nil).cells[j]?
  | [], i, j, hi, _ => by simp at hi
  | o :: l, 0, j, _, hj => by
    have h4 : o.cells.length = 4 := rfl
    have e : (o :: l).getD 0 .nil = o := rfl
    rw [e, sc, Nat.zero_mul, Nat.zero_add, List.getElem?_append_left (by omega)]
  | o :: l, i + 1, j, hi, hj => by
    have h4 : o.cells.length = 4 := rfl
    have e : (o :: l).getD (i + 1) .nil = l.getD i .nil := rfl
    rw [e, sc, List.getElem?_append_right (by omega), h4, show (i + 1) * 4 + j - 4 = i * 4 + j from by omega]
    exact sc_at l i j (by simpa using hi) hj
theorem add_none' (b o n : Nat) : (⟨b, o, none⟩ : Addr).add n = ⟨b, o + n, none⟩ := by unfold Addr.add; split <;> simp_all
theorem ro_own {w : World} {base : Nat} {v : Value} {n : Nat} {l : List O4} (h : w.ownsRow base 36 4 v n (sc l)) (hn : n = l.length) (hok : ∀ i, i < l.length → (l.getD i .nil).ok) : ∃ A c, v = .slice A n c ∧ n ≤ c ∧ Ro w A l := by
  subst hn
  have hc := h
  rcases h.2 with ⟨rfl, h0⟩ | ⟨g, cap, cur, rfl, h1, h2, h3, h4, h5, h6⟩
  · exact ⟨none, 0, by rw [h0], by omega, fun i hi => by omega⟩
  · refine ⟨_, cap, rfl, h3, fun i hi => ⟨g, 0, rfl, hok i hi, ?_, ?_, ?_, ?_⟩⟩
    · have := hc.cells (g := g) rfl (i * 4) (.int .u8 (l.getD i .nil).k) (by have := sc_at l i 0 hi (by omega); simpa [O4.cells] using this)
      rwa [add_none'] at this
    · have := hc.cells (g := g) rfl (i * 4 + 1) (.int .i64 (l.getD i .nil).t) (by have := sc_at l i 1 hi (by omega); simpa [O4.cells] using this)
      rwa [add_none', ← Nat.add_assoc] at this
    · have := hc.cells (g := g) rfl (i * 4 + 2) (.int .i64 (l.getD i .nil).h) (by have := sc_at l i 2 hi (by omega); simpa [O4.cells] using this)
      rwa [add_none', ← Nat.add_assoc] at this
    · have := hc.cells (g := g) rfl (i * 4 + 3) (.int .i64 (l.getD i .nil).n) (by have := sc_at l i 3 hi (by omega); simpa [O4.cells] using this)
      rwa [add_none', ← Nat.add_assoc] at this

/-- Bytes that a call's reader refuses, with ErrForm. -/
def Bad (xs : List Int) : Prop := ∃ b l, xs = b :: l ∧ ∃ v1 v2 v3 n1 n2 n3 e1 e2, Step (b :: l) 1 0 v1 n1 e1 ∧ Step (b :: l) n1 e1 v2 n2 e2 ∧ Step (b :: l) n2 e2 v3 n3 2
theorem bad_walk (A : Option Addr) (c : Nat) (xs : List Int) (w : World) (h : Bad xs) (hr : Rb w A xs) (hc : xs.length ≤ c) (hl : xs.length ≤ 140737488355328) :
    Calls Try.prog 18 #[.slice A xs.length c] w fun e w' => e = .returned (.tuple #[.agg #[.int .u8 0, .int .i64 0, .int .i64 0, .int .i64 0], .int .i64 0, .int .i64 2]) ∧ Below w.heap.size w w' := by
  obtain ⟨b, l, rfl, v1, v2, v3, n1, n2, n3, e1, e2, h1, h2, h3⟩ := h
  exact readop_no A c b l w hr hc hl v1 v2 v3 n1 n2 n3 e1 e2 2 h1 h2 h3 (by decide)
def slen : Value → Nat
  | .slice _ n _ => n
  | _ => 0
/-- What ReadScript answers. -/
def RsPost (w : World) (ops : List O4) (tail : List Int) (e : Ending) (w' : World) : Prop :=
  (tail = [] ∧ ∃ A c, e = .returned (.tuple #[.slice A ops.length c, .int .i64 0]) ∧ ops.length ≤ c ∧ Ro w' A ops ∧ Below w.heap.size w w') ∨
  (tail ≠ [] ∧ e = .returned (.tuple #[.slice none 0 0, .int .i64 2]) ∧ Below w.heap.size w w')

theorem Try.info36 : (Try.prog.info? 36).map (fun i => (i.zero, i.size, i.bytes)) = some (some (.agg #[.int .u8 0, .int .i64 0, .int .i64 0, .int .i64 0]), 4, 32) := by kernel_rfl
set_option maxHeartbeats 3200000 in
set_option maxRecDepth 100000 in
theorem readscript_walk (A : Option Addr) (c : Nat) (ops : List O4) (tail : List Int) (m : Nat) (w : World) (hr : Rb w A (sb ops ++ tail)) (hm : m = (sb ops ++ tail).length) (hc : m ≤ c) (hl : ops.length ≤ 30) (hok : ∀ i, i < ops.length → (ops.getD i .nil).ok) (ht : tail = [] ∨ Bad tail) (htl : tail.length ≤ 1000) :
    Calls Try.prog 21 #[.slice A m c] w (RsPost w ops tail) := by
  have HR := Aside0.mk hr; clear hr
  have HM := Aside0.mk hm; clear hm
  have HOK := Aside0.mk hok; clear hok
  have HT := Aside0.mk ht; clear ht
  go_enter Try.func21, Try.ntmps21
  go_wp2_with fail
  go_loopw [0, 4] (fun v0 v4 wr => ∃ (i : Nat) (A2 : Option Addr) (m2 c2 : Nat), i ≤ ops.length ∧ v0 = .slice A2 m2 c2 ∧ m2 ≤ c2 ∧ Aside0 (m2 = (sb (ops.drop i) ++ tail).length ∧ Rb w A2 (sb (ops.drop i) ++ tail) ∧ Below w.heap.size w wr ∧ wr.ownsRow w.heap.size 36 4 v4 i (sc (ops.take i))))
    (fun v0 _ _ => slen v0)
  case atStart => exact ⟨0, A, m, c, Nat.zero_le _, rfl, hc, ⟨by simpa using HM.out, by simpa using HR.out, Below.refl _ _, by simpa [sc] using World.ownsRow_nil w w.heap.size 36 4⟩⟩
  case round =>
    obtain ⟨i, A2, m2, c2, hi, rfl, hmc, HI⟩ := hrel
    have hml : m2 ≤ 5000 := by have h1 := HI.out.1; have h2 := sb_len (ops.drop i); simp at h1 h2; omega
    by_cases hlt : i < ops.length
    · obtain ⟨x, hx⟩ : ∃ x, x = ops.getD i .nil := ⟨_, rfl⟩
      have HX := Aside0.mk hx
      have hok := HOK.out i hlt
      rw [← hx] at hok
      have hsd := sb_drop ops i hlt
      rw [← hx] at hsd
      obtain ⟨rest, hrest⟩ : ∃ rest, rest = sb (ops.drop (i + 1)) ++ tail := ⟨_, rfl⟩
      have hrl : rest.length ≤ 3000 := by have h2 := sb_len (ops.drop (i + 1)); rw [hrest]; simp at h2 ⊢; omega
      have HREST := Aside0.mk hrest
      have hI := HI.out
      rw [hsd, List.append_assoc, ← hrest] at hI
      obtain ⟨hI1, hI2, hI3, hI4⟩ := hI
      have hpos : 0 < m2 := by rw [hI1]; have := x.len; simp; omega
      have hro := readop_back A2 c2 x.k x.t x.h x.n rest wr hok.1 hok.2.1 hok.2.2 (by omega) m2 (hI2.below hI3) hI1 hmc
      obtain ⟨q, hq⟩ : ∃ q, q = (x.k :: nb [x.t, x.h, x.n]).length := ⟨_, rfl⟩
      have hq1 : q ≤ 31 := by have := x.len; rw [hq]; exact this.2
      have hqm : m2 = q + rest.length := by rw [hI1, hq]; simp [O4.bytes]; omega
      rw [← hq] at hro
      have HQ := Aside0.mk hq
      have HRO := Aside0.mk hro
      have HI1 := Aside0.mk hI1
      have HI2 := Aside0.mk hI2
      have HI3 := Aside0.mk hI3
      have HI4 := Aside0.mk hI4
      have HOKX := Aside0.mk hok
      have hqn : (q : Int) ≤ (m2 : Int) := by omega
      have hqm' : m2 - q = rest.length := by omega
      have HQM := Aside0.mk hqm
      have HQM' := Aside0.mk hqm'
      clear hro hI1 hI2 hI3 hI4 hok hq hrest hsd hx HI hqm hqm'
      go_wp2_with fail
      with_reducible refine HRO.out.mono ?_
      rintro e w4 ⟨rfl, hb4⟩
      have HB4 := Aside0.mk (hk_then HI3.out hb4 HI3.out.size)
      have hrd : Rb w (if c2 = q then A2 else Option.map (fun z => z.add q) A2) rest := by
        have h1 := Rb.drop HI2.out q (by rw [HQ.out]; simp [O4.bytes]) (c := c2) (by rw [← HI1.out]; exact hmc)
        have e1 : (x.bytes ++ rest).drop q = rest := by rw [HQ.out]; exact List.drop_left
        rwa [e1] at h1
      have HRD := Aside0.mk hrd
      clear hrd
      have HO4 := Aside0.mk (pw_own_below HI4.out hb4)
      have HBA : Aside0 (Below w.heap.size w (w4.alloc (.cells #[.int .u8 x.k, .int .i64 x.t, .int .i64 x.h, .int .i64 x.n] 36))) := ⟨HB4.out.alloc HB4.out.size _⟩
      have HX4 : Aside0 (Value.slice (some ⟨w4.heap.size + 1, 0, none⟩) 1 1 = Value.slice (some ⟨(w4.alloc (.cells #[.int .u8 x.k, .int .i64 x.t, .int .i64 x.h, .int .i64 x.n] 36)).heap.size, 0, none⟩) 1 1) := ⟨by simp⟩
      have HONE : Aside0 (∀ u ∈ [Value.int .u8 x.k, .int .i64 x.t, .int .i64 x.h, .int .i64 x.n], u.oneCell' = true) := ⟨by simp [Value.oneCell']⟩
      clear hb4
      by_cases hcq : c2 = q
      all_goals
        go_wp2_with (at_builtin; go_loud (refine print_append_cells (w0 := w) w.heap.size rfl (.tmp 20) (.tmp 22) 50 36 _ 4 32 rfl Try.underlying50 Try.info36 rfl (by decide) (by decide) _ i _ [.int .u8 x.k, .int .i64 x.t, .int .i64 x.h, .int .i64 x.n] rfl HX4.out rfl HONE.out (HO4.out.alloc _) HBA.out HBA.out.size (by omega) ?_; intro v5 w5 ho5 hb5 _ _))
        have e2 : sc (ops.take (i + 1)) = sc (ops.take i) ++ [.int .u8 x.k, .int .i64 x.t, .int .i64 x.h, .int .i64 x.n] := by rw [sc_take ops i hlt, ← HX.out]; rfl
        rw [← e2] at ho5
        have hrd := HRD.out
        first | rw [if_pos hcq] at hrd | rw [if_neg hcq] at hrd
        rw [HREST.out] at hrd
        exact ⟨⟨i + 1, _, _, _, hlt, rfl, by omega, ⟨by rw [HQM'.out, HREST.out], hrd, hb5, ho5⟩⟩, by simp only [slen]; have := HQ.out; have := HQM'.out; have := HQM.out; simp at *; omega⟩
    · obtain rfl : i = ops.length := by omega
      have hI := HI.out
      rw [List.drop_length, List.take_length] at hI
      simp only [sb, List.nil_append] at hI
      have HI' := Aside0.mk hI
      rcases HT.out with rfl | hbad
      · have hm0 : m2 = 0 := hI.1
        subst hm0
        obtain ⟨A5, c5, hv, hc5, hro5⟩ := ro_own hI.2.2.2 rfl HOK.out
        subst hv
        have HRO5 := Aside0.mk hro5
        clear hI hro5 HI
        go_wp2
        go_ret2
        exact .inl ⟨rfl, A5, c5, rfl, hc5, HRO5.out, HI'.out.2.2.1⟩
      · have hne : tail ≠ [] := by obtain ⟨b, l, rfl, _⟩ := hbad; simp
        have hpos : 0 < m2 := by rw [hI.1]; exact List.length_pos_iff.2 hne
        have hbw := bad_walk A2 c2 tail wr hbad (hI.2.1.below hI.2.2.1) (by rw [← hI.1]; exact hmc) (by omega)
        rw [← hI.1] at hbw
        have HBW := Aside0.mk hbw
        have HNE := Aside0.mk hne
        clear hI hbw hbad hne HI
        go_wp2_with fail
        with_reducible refine HBW.out.mono ?_
        rintro e w4 ⟨rfl, hb4⟩
        have HB4 := Aside0.mk (hk_then HI'.out.2.2.1 hb4 HI'.out.2.2.1.size)
        clear hb4
        go_wp2
        go_ret2
        exact .inr ⟨HNE.out, rfl, HB4.out.alloc HB4.out.size _⟩
end Go.Proofs.Ytbochokpfbimaaa.PCallOps
