/- call.Script and call.ReadScript. -/
import Derived.Test.YtbochokpfbimaaaApz
import Derived.Outline
set_option linter.unusedVariables false
set_option linter.unusedSimpArgs false
namespace Go.Proofs.Ytbochokpfbimaaa.PCallOps
open Go.RowKit Go.Proofs.YtbochokpfbimaaaW.PrintWords Go.Proofs.YtbochokpfbimaaaW.PrintLast Go.Proofs.YtbochokpfbimaaaW.PrintMore Go.Proofs.YtbochokpfbimaaaHk Go.Proofs.YtbochokpfbimaaaBs

/-- A call: kind, tier, cohort, number. -/
structure O4 where
  (k t h n : Int)
def O4.bytes (o : O4) : List Int := o.k :: nb [o.t, o.h, o.n]
def O4.cells (o : O4) : List Value := [.int .u8 o.k, .int .i64 o.t, .int .i64 o.h, .int .i64 o.n]
def O4.ok (o : O4) : Prop := I64 o.t ∧ I64 o.h ∧ I64 o.n
def O4.nil : O4 := ⟨0, 0, 0, 0⟩
def sb : List O4 → List Int
  | [] => []
  | o :: l => o.bytes ++ sb l
def sc : List O4 → List Value
  | [] => []
  | o :: l => o.cells ++ sc l
theorem sb_append : ∀ l m : List O4, sb (l ++ m) = sb l ++ sb m
  | [], m => rfl
  | o :: l, m => by simp [sb, sb_append l m]
theorem sc_append : ∀ l m : List O4, sc (l ++ m) = sc l ++ sc m
  | [], m => rfl
  | o :: l, m => by simp [sc, sc_append l m]
theorem O4.len (o : O4) : 4 ≤ o.bytes.length ∧ o.bytes.length ≤ 31 := by
  have l1 := vb_len10 (plain o.t)
  have l2 := vb_len10 (plain o.h)
  have l3 := vb_len10 (plain o.n)
  simp [O4.bytes, nb]; omega
theorem sb_len : ∀ l : List O4, (sb l).length ≤ 31 * l.length
  | [] => by simp [sb]
  | o :: l => by have := sb_len l; have := o.len; simp [sb]; omega
theorem sc_len : ∀ l : List O4, (sc l).length = 4 * l.length
  | [] => rfl
  | o :: l => by simp [sc, O4.cells, sc_len l]; omega
theorem sb_take (l : List O4) (i : Nat) (hi : i < l.length) : sb (l.take (i + 1)) = sb (l.take i) ++ (l.getD i .nil).bytes := by
  rw [List.take_succ_eq_append_getElem hi, sb_append]
  simp [sb, List.getD, hi]
theorem sc_take (l : List O4) (i : Nat) (hi : i < l.length) : sc (l.take (i + 1)) = sc (l.take i) ++ (l.getD i .nil).cells := by
  rw [List.take_succ_eq_append_getElem hi, sc_append]
  simp [sc, List.getD, hi]
theorem sb_drop (l : List O4) (i : Nat) (hi : i < l.length) : sb (l.drop i) = (l.getD i .nil).bytes ++ sb (l.drop (i + 1)) := by
  rw [List.drop_eq_getElem_cons hi]
  simp [sb, List.getD, hi]

/-- A slice of calls: its cells. -/
def Ro (w : World) (A : Option Addr) (l : List O4) : Prop :=
  ∀ i, i < l.length → ∃ b o, A = some ⟨b, o, none⟩ ∧ (l.getD i .nil).ok ∧ w.cell? ⟨b, o + i * 4, none⟩ = some (.int .u8 (l.getD i .nil).k) ∧ w.cell? ⟨b, o + i * 4 + 1, none⟩ = some (.int .i64 (l.getD i .nil).t) ∧ w.cell? ⟨b, o + i * 4 + 2, none⟩ = some (.int .i64 (l.getD i .nil).h) ∧ w.cell? ⟨b, o + i * 4 + 3, none⟩ = some (.int .i64 (l.getD i .nil).n)
theorem Ro.below {w w1 : World} {A : Option Addr} {l : List O4} (h : Ro w A l) (hb : Below w.heap.size w w1) : Ro w1 A l := fun i hi => by
  obtain ⟨b, o, hA, hok, h0, h1, h2, h3⟩ := h i hi
  exact ⟨b, o, hA, hok, (hb.cell (World.block_lt_of_cell? w _ h0)).trans h0, (hb.cell (World.block_lt_of_cell? w _ h1)).trans h1, (hb.cell (World.block_lt_of_cell? w _ h2)).trans h2, (hb.cell (World.block_lt_of_cell? w _ h3)).trans h3⟩

set_option maxHeartbeats 1600000 in
set_option maxRecDepth 100000 in
theorem script_walk (A : Option Addr) (c : Nat) (ops : List O4) (w : World) (hr : Ro w A ops) (hc : ops.length ≤ c) (hl : ops.length ≤ 30) :
    Calls Try.prog 20 #[.slice A ops.length c] w (NumPost w (sb ops)) := by
  have HN := Aside0.mk hr; clear hr
  go_enter Try.func20, Try.ntmps20
  go_wp2_with fail
  go_loopw [3, 8] (fun v3 v8 wr => ∃ (i : Nat) (A2 : Option Addr) (c2 : Nat), i ≤ ops.length ∧ v3 = .slice A2 (sb (ops.take i)).length c2 ∧ v8 = .int .i64 i ∧ Aside0 (Rb wr A2 (sb (ops.take i)) ∧ (sb (ops.take i)).length ≤ c2 ∧ (A2 = none → c2 = 0) ∧ Below w.heap.size w wr))
    (fun _ i _ => ops.length - (intOf i).toNat)
  case atStart => exact ⟨0, none, 0, Nat.zero_le _, by simp [sb], rfl, ⟨rb_nil w, by simp [sb], fun _ => rfl, Below.refl _ _⟩⟩
  case round =>
    obtain ⟨i, A2, c2, hi, rfl, rfl, HI⟩ := hrel
    by_cases hlt : i < ops.length
    · obtain ⟨b, o, rfl, hok, h0, h1, h2, h3⟩ := (HN.out.below HI.out.2.2.2) i hlt
      have hbl := World.block_lt_of_cell? wr _ h0
      have hbl' : b < wr.heap.size := by simpa using hbl
      have hne : wr.heap.size ≠ b := by omega
      have hne' : b ≠ wr.heap.size := by omega
      obtain ⟨x, hx⟩ : ∃ x, x = ops.getD i .nil := ⟨_, rfl⟩
      have HX := Aside0.mk hx
      rw [← hx] at hok h0 h1 h2 h3
      have HOK : Aside0 (I64 x.t ∧ I64 x.h ∧ I64 x.n) := ⟨hok⟩
      have hsl := sb_len (ops.take i)
      obtain ⟨ys, hys⟩ : ∃ ys, ys = sb (ops.take i) := ⟨_, rfl⟩
      have hyl : ys.length ≤ 1000 := by rw [hys]; simp at hsl; omega
      rw [← hys] at HI ⊢
      have HY := Aside0.mk hys
      clear hx hok hys hsl hbl
      go_wp2_with fail
      have HA : Aside0 (Below wr.heap.size wr (wr.alloc (.cells #[.int .u8 x.k, .int .i64 x.t, .int .i64 x.h, .int .i64 x.n] 36))) := ⟨(Below.refl _ _).alloc (Nat.le_refl _) _⟩
      with_reducible refine (op_walk A2 c2 ys x.k x.t x.h x.n _ (HI.out.1.below HA.out) HI.out.2.1 HI.out.2.2.1 (by omega) HOK.out.1 HOK.out.2.1 HOK.out.2.2).mono ?_
      rintro e w4 ⟨A3, c3, rfl, hc3, hr3, hb3⟩
      have hpos : 0 < (ys ++ x.k :: nb [x.t, x.h, x.n]).length := by simp; omega
      have hsome : A3 = none → c3 = 0 := fun h => by obtain ⟨_, _, h3, _⟩ := hr3.addr hpos; rw [h3] at h; cases h
      have HI3 := Aside0.mk (show Rb w4 A3 (ys ++ x.bytes) ∧ (ys ++ x.bytes).length ≤ c3 ∧ (A3 = none → c3 = 0) ∧ Below w.heap.size w w4 from ⟨hr3, hc3, hsome, hk_then (HI.out.2.2.2.alloc HI.out.2.2.2.size _) hb3 (by have := HI.out.2.2.2.size; simp; omega)⟩)
      clear hc3 hr3 hb3 HI HA hpos hsome h0 h1 h2 h3
      go_wp2
      go_roundw
      case rel =>
        have e1 : sb (ops.take (i + 1)) = ys ++ x.bytes := by rw [sb_take ops i hlt, ← HX.out, HY.out]
        have e2 : ys.length + ((nb [x.t, x.h, x.n]).length + 1) = (ys ++ x.bytes).length := by simp [O4.bytes]
        exact ⟨i + 1, A3, c3, hlt, by rw [e1, ← e2], by simp, by rw [e1]; exact HI3⟩
      case measure => simp [intOf]; omega
    · obtain rfl : i = ops.length := by omega
      go_wp2
      go_ret
      rw [List.take_length] at HI
      exact ⟨A2, c2, by simp only [List.take_length]; rfl, HI.out.2.1, HI.out.1, HI.out.2.2.2⟩
end Go.Proofs.Ytbochokpfbimaaa.PCallOps
