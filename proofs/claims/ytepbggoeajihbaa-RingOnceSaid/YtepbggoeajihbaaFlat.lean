/- Arguments that are structs, or slices of structs, of whole numbers and bools: what their cells hold. -/
import Derived.WalkKit
import Derived.ProofKit
import Derived.OpenShut
import Derived.Below
import Derived.SizedLaws
import Derived.ChangeOld
import Derived.Deep.Slices
namespace Go.Proofs.YtepbggoeajihbaaFlat
open Go.ChangeShapes Go.WideShapes Go.RowKit Go.Deep

/-- The cells of a type of plain numbers and bools, in order: a number's kind; none: a bool. -/
def scalF (P : Program) (rec : TypeId → Option (List (Option IntKind))) : List Field → Nat → Option (List (Option IntKind))
  | [], _ => some []
  | f :: r, o => if f.offset = o then
      match rec f.type with
      | some ks => if P.cellsOf f.type = ks.length then
          match scalF P rec r (o + ks.length) with
          | some ls => some (ks ++ ls)
          | none => none
        else none
      | none => none
    else none
def scal (P : Program) : Nat → TypeId → Option (List (Option IntKind))
  | 0, _ => none
  | d + 1, t => match P.underlying t with
    | some .bool => some [none]
    | some (.int k) => some [some k]
    | some (.struct fs) => match scalF P (scal P d) fs.toList 0 with
      | some ks => if P.cellsOf t = ks.length then some ks else none
      | none => none
    | _ => none

/-- A cell of a kind. -/
def Sc : Option IntKind → Value → Prop
  | some k, v => ∃ n, v = .int k n ∧ (Lit.int k n).wf = true
  | none, v => ∃ b, v = .bool b
/-- Cells of kinds. -/
inductive Scs : List (Option IntKind) → List Value → Prop
  | nil : Scs [] []
  | cons {k ks v vs} : Sc k v → Scs ks vs → Scs (k :: ks) (v :: vs)
theorem Scs.app {a b : List (Option IntKind)} {x y : List Value} (h : Scs a x) (k : Scs b y) : Scs (a ++ b) (x ++ y) := by
  induction h with
  | nil => exact k
  | cons h _ ih => exact .cons h ih
theorem Scs.len {a : List (Option IntKind)} {x : List Value} (h : Scs a x) : x.length = a.length := by
  induction h with
  | nil => rfl
  | cons _ _ ih => simp [ih]

section
variable {H : Type} {enc : TypeId × Value → H} {P : Program} {w : World} {base : Nat} {spare : Nat → Bool} {held : Bool}

theorem scalF_reads (d : Nat) (IH : ∀ t ks, scal P d t = some ks → ∀ n cs y, DataW.trod enc P w base spare held n t cs = some y → Scs ks cs) :
    ∀ (l : List Field) (o : Nat) (ks : List (Option IntKind)) (cs : List Value), scalF P (scal P d) l o = some ks →
      (∀ f ∈ l, ∃ n y, DataW.trod enc P w base spare held n f.type ((cs.drop f.offset).take (P.cellsOf f.type)) = some y) → cs.length = o + ks.length → Scs ks (cs.drop o)
  | [], o, ks, cs, h, _, hl => by
    simp [scalF] at h; subst h
    simp at hl; rw [List.drop_of_length_le (by omega)]; exact .nil
  | f :: r, o, ks, cs, h, hf, hl => by
    simp only [scalF] at h
    split at h
    · rename_i ho
      split at h
      · rename_i k1 hk1
        split at h
        · rename_i hc
          split at h
          · rename_i k2 hk2
            injection h with h; subst h
            obtain ⟨n, y, hy⟩ := hf f (by simp)
            have h1 := IH _ _ hk1 _ _ _ hy
            have h2 := scalF_reads d IH r (o + k1.length) k2 cs hk2 (fun g hg => hf g (by simp [hg])) (by simp at hl; omega)
            have e : cs.drop o = (cs.drop o).take k1.length ++ cs.drop (o + k1.length) := by rw [← List.drop_drop]; exact (List.take_append_drop _ _).symm
            rw [e]
            rw [ho, hc] at h1
            exact h1.app h2
          · cases h
        · cases h
      · cases h
    · cases h

theorem scal_reads : ∀ (d : Nat) (t : TypeId) (ks : List (Option IntKind)), scal P d t = some ks → ∀ n cs y, DataW.trod enc P w base spare held n t cs = some y → Scs ks cs
  | 0, _, _, h, _, _, _, _ => by simp [scal] at h
  | d + 1, t, ks, h, n, cs, y, hy => by
    simp only [scal] at h
    split at h
    · rename_i hu
      injection h with h; subst h
      obtain ⟨b, rfl, _⟩ := DataW.trod_bool hu hy
      exact .cons ⟨b, rfl⟩ .nil
    · rename_i k hu
      injection h with h; subst h
      obtain ⟨m, rfl, _, hw⟩ := DataW.trod_int hu hy
      exact .cons ⟨m, rfl, hw⟩ .nil
    · rename_i fs hu
      split at h
      · rename_i k1 hk1
        split at h
        · rename_i hc
          injection h with h; subst h
          obtain ⟨xs, m, _, _, hlen, hxs, hf⟩ := DataW.trod_struct hu hy
          have := scalF_reads d (scal_reads d) fs.toList 0 k1 cs hk1 (by
            intro f hfm
            obtain ⟨i, hi, rfl⟩ := List.getElem_of_mem hfm
            have hi' : i < fs.size := by simpa using hi
            have h1 := hf i fs[i] (by simp [Array.getElem?_eq_getElem hi'])
            rw [List.getElem?_eq_getElem (by omega : i < xs.length)] at h1
            exact ⟨m, _, by simpa using h1⟩) (by omega)
          simpa using this
        · cases h
      · cases h
    · cases h

/-- A struct by value. -/
theorem open_flat {d t ks v x ps} (hs : scal P d t = some ks) (h : DataW.Trod enc P w base spare held t v x ps) : Scs ks v.cells.toList := by
  obtain ⟨n, hn⟩ := h
  exact scal_reads d t ks hs n _ _ hn

/-- A slice of such: nil, or cells. -/
theorem open_flats {d t e ks len cap a x ps} (ht : P.underlying t = some (.slice e)) (hs : scal P d e = some ks) (hc : P.cellsOf e = ks.length) (h : DataW.Trod enc P w base spare held t (.slice a len cap) x ps) :
    len ≤ cap ∧ cap ≤ maxLen ∧ (a = none → len = 0 ∧ cap = 0) ∧ ∀ ad, a = some ad → ∀ i, i < len → ∃ cs, Scs ks cs ∧ ∀ j, j < ks.length → w.cell? (ad.add (i * ks.length + j)) = cs[j]? := by
  obtain ⟨n, hn⟩ := h
  rcases open_slice ht hn with ⟨hcs, _⟩ | ⟨ad, l, c, m, q, D, Pl, hcs, _, hl, hm, hmm, _, hel⟩
  · simp [Value.cells] at hcs
    obtain ⟨rfl, rfl, rfl⟩ := hcs
    exact ⟨Nat.le_refl _, Nat.zero_le _, fun _ => ⟨rfl, rfl⟩, fun ad h => by cases h⟩
  · simp [Value.cells] at hcs
    obtain ⟨rfl, rfl, rfl⟩ := hcs
    refine ⟨hl, hm, (fun h => by cases h), fun ad' he i hi => ?_⟩
    injection he with he; subst he
    obtain ⟨cs, h1, h2⟩ := hel i (by rw [hmm]; split <;> omega)
    have h3 := scal_reads d e ks hs q _ _ h2
    refine ⟨cs, h3, fun j hj => ?_⟩
    rw [hc] at h1
    have h4 := World.cells?_some h1
    rw [← add_add]
    exact h4.2.2 j (by omega)

theorem sized_len {len cap : Nat} {t e : TypeId} {a : Option Addr} {x : DataW H} {ps : List MemPlace} {ts : List TypeId} {ds : List (DataW H)} {j : Nat}
    (hsz : (DataW.weightsEach P ts ds).all (· ≤ reachBytes) = true) (ht : ts[j]? = some t) (hd : ds[j]? = some x) (hu : P.underlying t = some (.slice e)) {B : Nat} (hB : P.bytesOf e = B)
    (h : DataW.Trod enc P w base spare held t (.slice a len cap) x ps) : len * B ≤ 140737488351232 := by
  obtain ⟨n, hn⟩ := h
  rcases open_slice hu hn with ⟨hcs, _⟩ | ⟨ad, l, c, m, q, D, Pl, hcs, _, hl, hm, hmm, hx, hel⟩
  · simp [Value.cells] at hcs
    obtain ⟨rfl, rfl, rfl⟩ := hcs
    simp
  · simp [Value.cells] at hcs
    obtain ⟨rfl, rfl, rfl⟩ := hcs
    simp only [Prod.mk.injEq] at hx
    obtain ⟨rfl, _⟩ := hx
    have := sized_slice hsz ht hd hu
    rw [hB] at this
    simp [reachBytes] at this
    refine Nat.le_trans (Nat.mul_le_mul_right B (Nat.le_add_right len (m - len))) this
end
end Go.Proofs.YtepbggoeajihbaaFlat
