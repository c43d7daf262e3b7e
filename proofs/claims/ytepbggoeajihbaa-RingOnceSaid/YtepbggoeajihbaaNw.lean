/- New. -/
import Derived.Test.YtepbggoeajihbaaRg
import Derived.Laws.MakeOwn
import Derived.LoopTactic
import Derived.Outline
set_option linter.unusedVariables false
set_option linter.unusedSimpArgs false
namespace Go.Proofs.Ytepbggoeajihbaa.Ring
open Go.RowKit Go.Proofs.YtepbggoeajihbaaW.PrintWords Go.Proofs.YtepbggoeajihbaaW.PrintLast Go.Proofs.YtepbggoeajihbaaW.PrintMore Go.Proofs.YtepbggoeajihbaaHk

/-- A new ring. -/
def newR (n : Nat) : RS := ⟨n, 0, 0, fun i => if i < n then (i : Int) else 0, fun _ => 0⟩
def NwPost (w : World) (n : Nat) (e : Ending) (w' : World) : Prop := ∃ g sb, e = .returned (.tuple #[.pointer (some ⟨g, 0, none⟩), .int .i64 0]) ∧ IsRing w' g sb (newR n) ∧ w.heap.size ≤ g ∧ w.heap.size ≤ sb ∧ Below w.heap.size w w'
theorem info71 : (Try.prog.info? 71).map (fun i => (i.zero, i.size, i.bytes)) = some (some (.agg #[.int .u64 0, .int .u64 0]), 2, 16) := by kernel_rfl
theorem make_slots (n : Nat) : madeCells #[.int .u64 0, .int .u64 0] (n * 2) = slotCells n (fun _ => 0) (fun _ => 0) := by
  apply Array.ext
  · simp [madeCells, slotCells]
  · intro j h1 h2
    have hj : j < n * 2 := by simpa [slotCells] using h2
    simp only [madeCells, slotCells, Array.getElem_map, Array.getElem_range, Array.getElem_ofFn]
    rcases (show j % 2 = 0 ∨ j % 2 = 1 from by omega) with e | e <;> simp [e]
theorem zero_cells : (Value.agg #[.int .u64 0, .int .u64 0]).cells = #[.int .u64 0, .int .u64 0] := by kernel_rfl
theorem run_slots (n : Nat) (hn : n ≤ 8) (W : World) : (Instr.makeSlice 62 (.int .i64 n) (.int .i64 n)).run Try.prog W = .ok (.slice (some ⟨W.heap.size, 0, none⟩) n n) (W.alloc (.cells (slotCells n (fun _ => 0) (fun _ => 0)) 71)) := by
  obtain ⟨i, hi, hz0, hz1, hz2⟩ := info_parts info71
  have := run_make (P := Try.prog) W 62 71 i _ (by kernel_rfl) hi hz0 .i64 .i64 n n (by omega) (Int.le_refl _) (by rw [hz2]; omega) (by omega)
  rw [this, hz1, zero_cells, Int.toNat_natCast, make_slots]
/-- After k rounds. -/
structure NwInv (w : World) (n k : Nat) (wr : World) : Prop where
  slots : wr.heap[w.heap.size]? = some (.cells (slotCells n (fun j => if j < k then (j : Int) else 0) (fun _ => 0)) 71)
  ring : wr.heap[w.heap.size + 1]? = some (.cells #[.int .u64 0, .int .u64 0, .slice (some ⟨w.heap.size, 0, none⟩) n n] 69)
  below : Below w.heap.size w wr
theorem nw_start (w : World) (n : Nat) : NwInv w n 0 ((w.alloc (.cells (slotCells n (fun _ => 0) (fun _ => 0)) 71)).alloc (.cells #[.int .u64 0, .int .u64 0, .slice (some ⟨w.heap.size, 0, none⟩) n n] 69)) :=
  ⟨hk_alloc (hk_new _ _) _, by have := hk_new (w.alloc (.cells (slotCells n (fun _ => 0) (fun _ => 0)) 71)) (.cells #[.int .u64 0, .int .u64 0, .slice (some ⟨w.heap.size, 0, none⟩) n n] 69); simpa using this, ((Below.refl _ _).alloc (Nat.le_refl _) _).alloc (by simp) _⟩
theorem nw_next {w wr : World} {n k : Nat} (h : NwInv w n k wr) (hk : k < n) : NwInv w n (k + 1) (wr.setCell ⟨w.heap.size, k * 2, none⟩ (.int .u64 k)) := by
  refine ⟨?_, hk_far h.ring (by simp) _, h.below.setCell (by simp) _⟩
  rw [hk_set h.slots, slot_set_num]
  have e : upd (fun j => if j < k then (j : Int) else 0) k k = fun j => if j < k + 1 then (j : Int) else 0 := by
    funext j
    unfold upd
    by_cases e : j = k
    · subst e; simp
    · rw [if_neg e]; show (if j < k then (j : Int) else 0) = _; by_cases e2 : j < k
      · rw [if_pos e2, if_pos (by omega)]
      · rw [if_neg e2, if_neg (by omega)]
  rw [e]
theorem nw_end {w wr : World} {n k : Nat} (h : NwInv w n k wr) (hk : k ≤ n) (hl : ¬ k < n) (hn : n = 2 ∨ n = 4 ∨ n = 8) : NwPost w n (.returned (.tuple #[.pointer (some ⟨w.heap.size + 1, 0, none⟩), .int .i64 0])) wr := by
  have e : k = n := by omega
  subst e
  refine ⟨w.heap.size + 1, w.heap.size, rfl, ⟨h.ring, ?_, by omega, hn, ?_⟩, by omega, by omega, h.below⟩
  · exact h.slots
  · refine ⟨by simp [U64, newR], by simp [U64, newR], fun i => ?_, fun i => by simp [U64, newR]⟩
    simp only [U64, newR]; split <;> omega
set_option maxHeartbeats 1600000 in
set_option maxRecDepth 100000 in
theorem new_walk (n : Nat) (hn : n = 2 ∨ n = 4 ∨ n = 8) (w : World) : Calls Try.prog 10 #[.int .i64 n] w (NwPost w n) := by
  have h1 : decide ((n : Int) < 2) = false := by simp; omega
  have h2 : decide (64 < (n : Int)) = false := by simp; omega
  have h3 : (bits .and .i64 (n : Int) (n - 1 : Int) == 0) = true := by rcases hn with rfl | rfl | rfl <;> decide +kernel
  have h4 : (bits .and .i64 (n : Int) (n - 1 : Int) != 0) = false := by rcases hn with rfl | rfl | rfl <;> decide +kernel
  have hb1 : 2 ≤ n := by omega
  have hb2 : n ≤ 8 := by omega
  have hmk := fun W => run_slots n hb2 W
  have HN := Aside0.mk hn; clear hn
  go_enter Try.func10, Try.ntmps10
  go_wp2_with fail
  have HS0 := blk_new w (.cells (slotCells n (fun _ => 0) (fun _ => 0)) 71)
  have HI : Aside0 (NwInv w n 0 ((w.alloc (.cells (slotCells n (fun _ => 0) (fun _ => 0)) 71)).alloc (.cells #[.int .u64 0, .int .u64 0, .slice (some ⟨w.heap.size, 0, none⟩) n n] 69))) := ⟨nw_start w n⟩
  clear HS0 hmk
  go_loopw [28] (fun c wr => ∃ k : Nat, k ≤ n ∧ c = .int .i64 k ∧ Aside0 (NwInv w n k wr)) (fun c _ => n - (intOf c).toNat)
  case atStart => exact ⟨0, by omega, rfl, HI⟩
  case round =>
    obtain ⟨k, hk, rfl, HJ⟩ := hrel
    by_cases hlt : k < n
    · have q2 := hk_cell HJ.out.ring 2
      have hl0 : (0 : Int) ≤ (k : Int) := by omega
      have hkw : (k : Int) % 18446744073709551616 = k := by omega
      have hcell : wr.cell? ⟨w.heap.size, k * 2, none⟩ = some (.int .u64 0) := by
        rw [hk_cell HJ.out.slots, slot_num _ _ _ _ hlt]; simp
      have hfr : wr.frozen? ⟨w.heap.size, k * 2, none⟩ = false := hk_frozen HJ.out.slots _
      have HC := Aside0.mk hcell
      have HF := Aside0.mk hfr
      clear hcell hfr
      go_wp2_with fail
      with_reducible refine (store_walk w.heap.size (k * 2) _ k wr HC.out HF.out).mono ?_
      rintro e w2 ⟨rfl, rfl⟩
      have HJ2 := Aside0.mk (nw_next HJ.out hlt)
      clear q2
      go_wp2_with fail
      go_roundw
      case rel => exact ⟨k + 1, by omega, by go_num, HJ2⟩
      case measure => simp [intOf]; omega
    · have hkn : ¬ ((k : Int) < n) := by omega
      go_wp2_with fail
      go_ret2
      exact nw_end HJ.out hk hlt HN.out
end Go.Proofs.Ytepbggoeajihbaa.Ring
