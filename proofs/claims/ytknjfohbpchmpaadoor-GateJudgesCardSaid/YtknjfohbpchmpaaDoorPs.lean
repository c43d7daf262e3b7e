/- Sixteen stores. -/
import Derived.Test.YtknjfohbpchmpaaDoorHk
set_option linter.unusedVariables false
set_option linter.unusedSimpArgs false
namespace Go.Proofs.YtknjfohbpchmpaaDoor.Gt
open Go.RowKit Go.Proofs.YtknjfohbpchmpaaDoorHk
theorem set16 (cs : Array Value) (hs : cs.size = 16) (x0 x1 x2 x3 x4 x5 x6 x7 x8 x9 x10 x11 x12 x13 x14 x15 : Value) : ((((((((((((((((cs.setIfInBounds 0 x0).setIfInBounds 1 x1).setIfInBounds 2 x2).setIfInBounds 3 x3).setIfInBounds 4 x4).setIfInBounds 5 x5).setIfInBounds 6 x6).setIfInBounds 7 x7).setIfInBounds 8 x8).setIfInBounds 9 x9).setIfInBounds 10 x10).setIfInBounds 11 x11).setIfInBounds 12 x12).setIfInBounds 13 x13).setIfInBounds 14 x14).setIfInBounds 15 x15) = #[x0, x1, x2, x3, x4, x5, x6, x7, x8, x9, x10, x11, x12, x13, x14, x15] := by
  apply Array.ext
  · simp [hs]
  · intro i h1 h2
    have hi : i < 16 := by simpa using h2
    rcases (show i = 0 ∨ i = 1 ∨ i = 2 ∨ i = 3 ∨ i = 4 ∨ i = 5 ∨ i = 6 ∨ i = 7 ∨ i = 8 ∨ i = 9 ∨ i = 10 ∨ i = 11 ∨ i = 12 ∨ i = 13 ∨ i = 14 ∨ i = 15 from by omega) with e | e | e | e | e | e | e | e | e | e | e | e | e | e | e | e <;> subst e <;> simp [Array.getElem_setIfInBounds, hs]
theorem put16 {w : World} {g : Nat} {t : TypeId} {cs : Array Value} (h : w.heap[g]? = some (.cells cs t)) (hs : cs.size = 16) (x0 x1 x2 x3 x4 x5 x6 x7 x8 x9 x10 x11 x12 x13 x14 x15 : Value) : ((((((((((((((((w.setCell ⟨g, 0, none⟩ x0).setCell ⟨g, 1, none⟩ x1).setCell ⟨g, 2, none⟩ x2).setCell ⟨g, 3, none⟩ x3).setCell ⟨g, 4, none⟩ x4).setCell ⟨g, 5, none⟩ x5).setCell ⟨g, 6, none⟩ x6).setCell ⟨g, 7, none⟩ x7).setCell ⟨g, 8, none⟩ x8).setCell ⟨g, 9, none⟩ x9).setCell ⟨g, 10, none⟩ x10).setCell ⟨g, 11, none⟩ x11).setCell ⟨g, 12, none⟩ x12).setCell ⟨g, 13, none⟩ x13).setCell ⟨g, 14, none⟩ x14).setCell ⟨g, 15, none⟩ x15).heap[g]? = some (.cells #[x0, x1, x2, x3, x4, x5, x6, x7, x8, x9, x10, x11, x12, x13, x14, x15] t) := by
  rw [← set16 cs hs x0 x1 x2 x3 x4 x5 x6 x7 x8 x9 x10 x11 x12 x13 x14 x15]
  exact (hk_set (hk_set (hk_set (hk_set (hk_set (hk_set (hk_set (hk_set (hk_set (hk_set (hk_set (hk_set (hk_set (hk_set (hk_set (hk_set h 0 x0) 1 x1) 2 x2) 3 x3) 4 x4) 5 x5) 6 x6) 7 x7) 8 x8) 9 x9) 10 x10) 11 x11) 12 x12) 13 x13) 14 x14) 15 x15)
end Go.Proofs.YtknjfohbpchmpaaDoor.Gt
