/- Small words on blocks of cells: what a world holds at a block, that a call has changed nothing that was there, and regions that draw their order over such calls. -/
import Derived.WalkKit
import Derived.ProofKit
import Derived.Deep.QuietTactic
import Derived.BigQuiet
set_option linter.unusedVariables false
namespace Go.Proofs.YtknjfohbpchmpaaDoorHk
open Go.RowKit

theorem hk_lt {w : World} {g : Nat} {o : Obj} (h : w.heap[g]? = some o) : g < w.heap.size := (Array.getElem?_eq_some_iff.1 h).1
theorem hk_cell {w : World} {g : Nat} {t : TypeId} {cs : Array Value} {fr : Nat × Nat} (h : w.heap[g]? = some (.cells cs t fr)) (i : Nat) : w.cell? ⟨g, i, none⟩ = cs[i]? := by simp [World.cell?, h]
theorem hk_frozen {w : World} {g : Nat} {t : TypeId} {cs : Array Value} (h : w.heap[g]? = some (.cells cs t)) (i : Nat) : w.frozen? ⟨g, i, none⟩ = false := by simp [World.frozen?, h]
theorem hk_below {w w1 : World} {B g : Nat} {o : Obj} (hb : Below B w w1) (hg : g < B) (h : w.heap[g]? = some o) : w1.heap[g]? = some o := (hb.block g hg).trans h
theorem hk_alloc {w : World} {g : Nat} {o : Obj} (h : w.heap[g]? = some o) (o' : Obj) : (w.alloc o').heap[g]? = some o := (Below.heap_alloc w o' g (hk_lt h)).trans h
theorem hk_new (w : World) (o : Obj) : (w.alloc o).heap[w.heap.size]? = some o := by show (w.heap.push o)[w.heap.size]? = _; simp
theorem hk_set {w : World} {g : Nat} {t : TypeId} {cs : Array Value} {fr : Nat × Nat} (h : w.heap[g]? = some (.cells cs t fr)) (i : Nat) (u : Value) : (w.setCell ⟨g, i, none⟩ u).heap[g]? = some (.cells (cs.setIfInBounds i u) t fr) := by
  simp [World.setCell, Array.getElem?_modify, h]
theorem hk_far {w : World} {g : Nat} {o : Obj} (h : w.heap[g]? = some o) {p : Addr} (hp : g ≠ p.block) (u : Value) : (w.setCell p u).heap[g]? = some o := (Below.heap_setCell w p u g hp).trans h
/-- Below its first number a later world is as the first was. -/
theorem hk_then {B B' : Nat} {w w1 w2 : World} (h : Below B w w1) (k : Below B' w1 w2) (hB : B ≤ B') : Below B w w2 := h.trans (k.mono hB)
/-- As rules for the walk: what lies below a number reads as it did. -/
theorem bcell {B : Nat} {w w1 : World} (hb : Below B w w1) : (∀ b o, b < B → w1.cell? ⟨b, o, none⟩ = w.cell? ⟨b, o, none⟩) ∧ (∀ b o, b < B → w1.frozen? ⟨b, o, none⟩ = w.frozen? ⟨b, o, none⟩) :=
  ⟨fun b o h => hb.cell (p := ⟨b, o, none⟩) h, fun b o h => hb.frozen (p := ⟨b, o, none⟩) h⟩

/-- The worlds that hold all that W holds, unchanged. -/
def LW (W : World) := { u : World // Below W.heap.size W u }
instance (W : World) : Nonempty (LW W) := ⟨⟨W, Below.refl _ _⟩⟩
theorem lw_cell {W : World} (u : LW W) (b o : Nat) (h : b < W.heap.size) : u.1.cell? ⟨b, o, none⟩ = W.cell? ⟨b, o, none⟩ := u.2.cell (p := ⟨b, o, none⟩) h
theorem lw_drew {W : World} : Below W.heap.size W { W with drawn := W.drawn + 1 } := ⟨rfl, rfl, rfl, Nat.le_refl _, fun _ _ => rfl⟩
/-- A region that draws its order, whose operations read what was there before it and whose calls leave that alone: one walk in the order of the text. -/
theorem region_later {P : Program} {id : Nat} {Q : Exit → Act → World → Prop} {a : Act} {W : World} {l : List Oper} (hm : P.follows .mixedOrders = true) (hB : Region.lexB .any l.toArray = true)
    (h : wpQuiet P l.toArray (fun w' => ∃ u : LW W, w' = u.1) (fun a' => ∀ w', (∃ u : LW W, w' = u.1) → Q .normal a' w') l a) : (Code.region id l.toArray true).wp P Q a W :=
  wp_region_quiet (C := fun w' => ∃ u : LW W, w' = u.1) hm hB ⟨⟨_, lw_drew⟩, rfl⟩ (by simpa using h)
/-- A callee's contract in such a region. -/
theorem later_call {P : Program} {f : FuncId} {args : Array Value} {W : World} {u : LW W} {v : Value} (h : Calls P f args u.1 fun e w' => e = .returned v ∧ Below u.1.heap.size u.1 w') :
    Calls P f args u.1 fun e w'' => e = .returned v ∧ ∃ u' : LW W, w'' = u'.1 :=
  h.mono fun _ w' ⟨he, hb⟩ => ⟨he, ⟨w', hk_then u.2 hb u.2.size⟩, rfl⟩
end Go.Proofs.YtknjfohbpchmpaaDoorHk
