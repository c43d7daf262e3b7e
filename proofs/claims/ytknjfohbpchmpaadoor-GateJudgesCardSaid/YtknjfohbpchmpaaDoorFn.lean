/- gate.Name; awake. -/
import Derived.Test.YtknjfohbpchmpaaDoorSh
import Derived.Test.YtknjfohbpchmpaaDoorWSized
import Derived.Test.YtknjfohbpchmpaaDoorWMore
import Derived.Test.YtknjfohbpchmpaaDoorGp0
import Derived.Test.YtknjfohbpchmpaaDoorHk
import Derived.Deep.DeepMust
import Derived.Lib.SmallJoins
set_option linter.unusedVariables false
set_option linter.unusedSimpArgs false
namespace Go.Proofs.YtknjfohbpchmpaaDoor.Gt
open Go.RowKit Go.Proofs.YtknjfohbpchmpaaDoorW.PrintWords Go.Proofs.YtknjfohbpchmpaaDoorW.PrintLast Go.Proofs.YtknjfohbpchmpaaDoorW.PrintMore Go.Proofs.YtknjfohbpchmpaaDoorHk

def allS : ByteArray := ⟨#[97, 100, 109, 105, 116, 116, 101, 100, 32, 105, 110, 118, 97, 108, 105, 100, 32, 101, 120, 112, 105, 114, 101, 100, 32, 99, 117, 116, 111, 102, 102, 32, 102, 117, 108, 108, 32, 100, 114, 97, 105, 110, 105, 110, 103, 32, 100, 105, 115, 112, 97, 116, 99, 104, 101, 100, 32, 101, 109, 112, 116, 121, 32, 99, 108, 111, 115, 101, 100, 32, 100, 111, 110, 101, 32, 98, 117, 115, 121]⟩
def nmL : List (List UInt8) := [[97, 100, 109, 105, 116, 116, 101, 100], [105, 110, 118, 97, 108, 105, 100], [101, 120, 112, 105, 114, 101, 100], [99, 117, 116, 111, 102, 102], [102, 117, 108, 108], [100, 114, 97, 105, 110, 105, 110, 103], [100, 105, 115, 112, 97, 116, 99, 104, 101, 100], [101, 109, 112, 116, 121], [99, 108, 111, 115, 101, 100], [100, 111, 110, 101], [98, 117, 115, 121]]
def nmS : List ByteArray := nmL.map fun l => ⟨l.toArray⟩
theorem fields_all : Lib.fields allS.data.toList = nmL := by kernel_rfl
theorem ascii_all : ∀ (j : Nat) b, allS.data.toList[j]? = some b → b.toNat < 128 := by
  have h : allS.data.toList.all (fun b => decide (b.toNat < 128)) = true := by kernel_rfl
  intro j b hb
  simpa using List.all_eq_true.1 h b (List.mem_of_getElem? hb)
abbrev Tab (w : World) : Prop := Lib.TabIs Tryd.prog w "strings.asciiSpace" .u8 Lib.asciiSpaceTab
def nmCells : List Value := nmS.map Value.string
theorem fields_walk (w : World) (ht : Tab w) : Calls Tryd.prog 30 #[.string allS] w fun e w' => e = .returned (.slice (some ⟨w.heap.size, 0, none⟩) 11 11) ∧ w' = w.alloc (.cells nmCells.toArray 9) := by
  have h := Tryd.strings_Fields allS w (by decide) ascii_all ht
  rw [fields_all] at h
  refine h.mono ?_
  rintro e w' ⟨rfl, rfl⟩
  exact ⟨rfl, rfl⟩
def nameOf (a : Int) : ByteArray := if 1 ≤ a ∧ a ≤ 11 then nmS.getD (a.toNat - 1) ⟨#[]⟩ else ⟨#[]⟩
set_option maxRecDepth 100000 in
theorem name_walk (a : Int) (ha : 0 ≤ a ∧ a ≤ 255) (w : World) (ht : Tab w) : Calls Tryd.prog 23 #[.int .u8 a] w fun e w' => e = .returned (.string (nameOf a)) ∧ Below w.heap.size w w' := by
  have hf := fields_walk w ht
  unfold allS at hf
  have HF := Aside0.mk hf
  clear hf
  have HB := Aside0.mk ((Below.refl w.heap.size w).alloc (Nat.le_refl _) (.cells nmCells.toArray 9))
  have HC := Aside0.mk (hk_new w (.cells nmCells.toArray 9))
  clear ht
  go_enter Tryd.func23, Tryd.ntmps23
  go_wp2_with fail
  with_reducible refine HF.out.mono ?_
  rintro e w1 ⟨rfl, hw⟩
  generalize w.alloc (.cells nmCells.toArray 9) = W at hw HB HC
  subst hw
  have hgl := hk_lt HC.out
  have hcell : ∀ i, i < 11 → w1.cell? ⟨w.heap.size, i, none⟩ = some (.string (nmS.getD i ⟨#[]⟩)) := fun i hi => by
    rw [hk_cell HC.out]
    rcases (show i = 0 ∨ i = 1 ∨ i = 2 ∨ i = 3 ∨ i = 4 ∨ i = 5 ∨ i = 6 ∨ i = 7 ∨ i = 8 ∨ i = 9 ∨ i = 10 from by omega) with e | e | e | e | e | e | e | e | e | e | e <;> subst e <;> rfl
  by_cases h1 : a < 1
  · have hn : nameOf a = ⟨#[]⟩ := by unfold nameOf; rw [if_neg (by omega)]
    have HN := Aside0.mk hn
    clear hn hcell
    go_wp2_with fail
    go_ret
    exact ⟨by rw [HN.out]; rfl, HB.out⟩
  · by_cases h2 : 11 < a
    · have hn : nameOf a = ⟨#[]⟩ := by unfold nameOf; rw [if_neg (by omega)]
      have HN := Aside0.mk hn
      clear hn hcell
      go_wp2_with fail
      go_ret
      exact ⟨by rw [HN.out]; rfl, HB.out⟩
    · obtain ⟨i, hi⟩ : ∃ i : Nat, a = (i : Int) + 1 := ⟨(a - 1).toNat, by omega⟩
      subst hi
      have hi11 : i < 11 := by omega
      have hn : nameOf ((i : Int) + 1) = nmS.getD i ⟨#[]⟩ := by unfold nameOf; rw [if_pos (by omega)]; congr 1
      have HN := Aside0.mk hn
      have z := hcell i hi11
      obtain ⟨S, hS⟩ : ∃ S, S = nmS.getD i ⟨#[]⟩ := ⟨_, rfl⟩
      rw [← hS] at z hn
      have HS := Aside0.mk hn
      have hi0 : (0 : Int) ≤ (i : Int) := by omega
      clear hn hcell hS HN h1 h2
      go_wp2_with fail
      go_ret
      exact ⟨by rw [HS.out]; rfl, HB.out⟩
end Go.Proofs.YtknjfohbpchmpaaDoor.Gt
