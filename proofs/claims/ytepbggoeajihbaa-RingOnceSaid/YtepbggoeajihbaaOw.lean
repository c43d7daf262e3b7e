/- The own picks: what both RingOnce and RingOrders build first. -/
import Derived.Test.YtepbggoeajihbaaPg
import Derived.Test.YtepbggoeajihbaaPt
import Derived.Maps.Own
import Derived.Maps.OwnOps
import Derived.Maps.OwnSet
import Derived.Maps.Views
set_option linter.unusedVariables false
set_option linter.unusedSimpArgs false
namespace Go.Proofs.Ytepbggoeajihbaa.Ring
open Go.RowKit Go.Proofs.YtepbggoeajihbaaW.PrintWords Go.Proofs.YtepbggoeajihbaaW.PrintLast Go.Proofs.YtepbggoeajihbaaW.PrintMore Go.Proofs.YtepbggoeajihbaaHk
open Go.Proofs.YtepbggoeajihbaaFlat

def pickCells (p : PK) : List Value := [.int .u8 p.t, .int .u8 p.d, .int .u64 p.v]
def pickRow (l : List PK) : List Value := l.flatMap pickCells
def ownPk (ps : List PK) (i : Nat) : PK := ⟨(ps.getD i ⟨0, 0, 0⟩).t, (ps.getD i ⟨0, 0, 0⟩).d, i + 1⟩
def ownOf (ps : List PK) (k : Nat) : List PK := (List.range k).map (ownPk ps)
theorem ownOf_len (ps : List PK) (k : Nat) : (ownOf ps k).length = k := by simp [ownOf]
theorem ownOf_succ (ps : List PK) (k : Nat) : ownOf ps (k + 1) = ownOf ps k ++ [ownPk ps k] := by simp [ownOf, List.range_succ]
theorem ownOf_get (ps : List PK) (k i : Nat) (h : i < k) : (ownOf ps k).getD i ⟨0, 0, 0⟩ = ownPk ps i := by simp [ownOf, List.getD_eq_getElem?_getD, h]
theorem own_own (ps : List PK) (k : Nat) : Own (ownOf ps k) := fun i hi => by
  rw [ownOf_len] at hi; rw [ownOf_get ps k i hi]; rfl
theorem pickRow_snoc (l : List PK) (p : PK) : pickRow l ++ pickCells p = pickRow (l ++ [p]) := by simp [pickRow]
theorem pickCells_get (p : PK) : (pickCells p)[0]? = some (.int .u8 p.t) ∧ (pickCells p)[1]? = some (.int .u8 p.d) ∧ (pickCells p)[2]? = some (.int .u64 p.v) := ⟨rfl, rfl, rfl⟩
theorem pickRow_get (l : List PK) (k j : Nat) (hk : k < l.length) (hj : j < 3) : (pickRow l)[k * 3 + j]? = (pickCells (l.getD k ⟨0, 0, 0⟩))[j]? := by
  induction l generalizing k with
  | nil => simp at hk
  | cons d l ih =>
    have e : pickRow (d :: l) = pickCells d ++ pickRow l := rfl
    rw [e]
    have hl : (pickCells d).length = 3 := rfl
    cases k with
    | zero => rw [List.getElem?_append_left (by rw [hl]; omega), Nat.zero_mul, Nat.zero_add]; rfl
    | succ k =>
      rw [List.getElem?_append_right (by rw [hl]; omega), hl, show (k + 1) * 3 + j - 3 = k * 3 + j from by omega, ih k (by simpa using hk)]
      simp
theorem info49 : (Try.prog.info? 49).map (fun i => (i.zero, i.size, i.bytes)) = some (some (.agg #[.int .u8 0, .int .u8 0, .int .u64 0]), 3, 16) := by kernel_rfl
/-- The row of own picks, as the run's argument. -/
theorem own_form {wr : World} {base : Nat} {v : Value} {l : List PK} (h : wr.ownsRow base 49 3 v l.length (pickRow l)) (hok : ∀ k, k < l.length → PickOk (l.getD k ⟨0, 0, 0⟩)) :
    ∃ A cap, v = .slice A l.length cap ∧ PicksAt wr A l ∧ (∀ ad, A = some ad → ad.block < wr.heap.size) := by
  rcases h.2 with ⟨hv, h0⟩ | ⟨g, cap, cur, hv, hb, hg, hnc, hcm, hcs, htake⟩
  · exact ⟨none, 0, by rw [hv, h0], fun k hk => by omega, fun ad h => nomatch h⟩
  · refine ⟨some ⟨g, 0, none⟩, cap, hv, fun k hk => ⟨hok k hk, g, 0, rfl, ?_⟩, fun ad h => by injection h with h; rw [← h]; exact hk_lt hg⟩
    have key : ∀ j, j < 3 → wr.cell? ⟨g, k * 3 + j, none⟩ = (pickCells (l.getD k ⟨0, 0, 0⟩))[j]? := by
      intro j hj
      rw [hk_cell hg]
      have h1 := pickRow_get l k j hk hj
      rw [← htake, List.getElem?_take_of_lt (by omega)] at h1
      simpa using h1
    have e0 : 0 + k * 3 = k * 3 := by omega
    have e1 : 0 + k * 3 + 1 = k * 3 + 1 := by omega
    have e2 : 0 + k * 3 + 2 = k * 3 + 2 := by omega
    rw [e0]
    exact ⟨key 0 (by omega), key 1 (by omega), key 2 (by omega)⟩
theorem own_ok {w : World} {A : Option Addr} {ps : List PK} {k : Nat} (h : PicksAt w A ps) (hk : k ≤ ps.length) (hm : k ≤ 9223372036854775807) : ∀ i, i < (ownOf ps k).length → PickOk ((ownOf ps k).getD i ⟨0, 0, 0⟩) := fun i hi => by
  rw [ownOf_len] at hi; rw [ownOf_get ps k i hi]
  have := (h i (by omega)).ok
  exact ⟨this.t, this.d, by show 0 ≤ (i : Int) + 1 ∧ (i : Int) + 1 ≤ 18446744073709551615; omega⟩
theorem OutAt.below2 {B : Nat} {wr w' : World} {A : Option Addr} {l : List DS} (h : OutAt wr A l) (hA : ∀ g, A = some ⟨g, 0, none⟩ → g < B) (hb : Below B wr w') : OutAt w' A l := fun k hk => by
  obtain ⟨g, hg, hc⟩ := h k hk
  exact ⟨g, hg, fun j hj => (hb.cell (p := ⟨g, k * 6 + j, none⟩) (hA g hg)).trans (hc j hj)⟩
open Go.Maps in
theorem key32 : Keyed Try.prog 32 := int_keyed Try.underlying32
theorem key_u64 (x : Int) (h : U64 x) : keyOf Try.prog 32 (.int .u64 x) = some (.int .u64 x) := by
  refine Go.Maps.keyOf_int_mk Try.underlying32 ?_
  unfold U64 at h
  simp [Lit.wf, IntKind.min, IntKind.max, IntKind.bits, IntKind.signed]; omega
def doneV (d : DS) : Value := .agg #[.int .i64 d.kind, .int .u64 d.v, .int .i64 d.beg, .int .i64 d.fin, .bool d.well, .int .i64 d.ret]
def encD (d : DS) : DataW Nat := .agg [.lit (.int .i64 d.kind), .lit (.int .u64 d.v), .lit (.int .i64 d.beg), .lit (.int .i64 d.fin), .lit (.bool d.well), .lit (.int .i64 d.ret)]
def Rd (v : Value) : Option (DataW Nat × List MemPlace) :=
  match v with
  | .agg a => match a.toList with
    | [.int .i64 k, .int .u64 x, .int .i64 b, .int .i64 f, .bool e, .int .i64 r] => some (encD ⟨k, x, b, f, e, r, 0⟩, [])
    | _ => none
  | _ => none
theorem Rd_mk (d : DS) : Rd (doneV d) = some (encD d, []) := rfl
theorem Rd_inv {v : Value} {d : DS} {ps : List MemPlace} (h : Rd v = some (encD d, ps)) : v = doneV d := by
  unfold Rd at h
  split at h
  · rename_i a
    split at h
    · rename_i k x b f e r ha
      simp only [encD, Option.some.injEq, Prod.mk.injEq, DataW.agg.injEq, List.cons.injEq, DataW.lit.injEq, Lit.int.injEq, Lit.bool.injEq, true_and, and_true] at h
      obtain ⟨⟨h1, h2, h3, h4, h5, h6⟩, _⟩ := h
      subst h1; subst h2; subst h3; subst h4; subst h5; subst h6
      unfold doneV
      rw [← ha]
    · cases h
  · cases h
theorem zero57 (w : World) : (zeroValue 57).run Try.prog w = .ok (doneV zeroD) w := by kernel_rfl
/-- What the map of pops says. -/
def MapOk (l : List DS) (D : DataW Nat) : Prop := ∀ key : Int, (Go.Maps.has D (.int .u64 key) = false ∧ ∀ z, D.atKey (.int .u64 key) z = z) ∨
  (Go.Maps.has D (.int .u64 key) = true ∧ ∃ x ∈ l, x.kind = 2 ∧ x.well = true ∧ x.v = key ∧ ∀ z, D.atKey (.int .u64 key) z = encD x)
theorem mapOk_empty (l : List DS) : MapOk l (.map []) := fun key => .inl ⟨rfl, fun z => rfl⟩
theorem mapOk_put {l : List DS} {D : DataW Nat} (h : MapOk l D) (hD : Go.Maps.IsMap D) (x : DS) (hx : x ∈ l) (hk : x.kind = 2) (hw : x.well = true) : MapOk l (D.put (.int .u64 x.v) (encD x)) := fun key => by
  by_cases e : key = x.v
  · subst e
    exact .inr ⟨Go.Maps.has_put_same hD (by trivial) _, x, hx, hk, hw, rfl, fun z => Go.Maps.atKey_put_same hD (by trivial) _ _⟩
  · have hne : Lit.int .u64 key ≠ .int .u64 x.v := fun h2 => by injection h2; contradiction
    rcases h key with ⟨h1, h2⟩ | ⟨h1, y, hy, hyk, hyw, hyv, h2⟩
    · exact .inl ⟨by rw [Go.Maps.has_put_other hne]; exact h1, fun z => by rw [Go.Maps.atKey_put_other hne]; exact h2 z⟩
    · exact .inr ⟨by rw [Go.Maps.has_put_other hne]; exact h1, y, hy, hyk, hyw, hyv, fun z => by rw [Go.Maps.atKey_put_other hne]; exact h2 z⟩
theorem look_done {w : World} {b n : Nat} {D : DataW Nat} {l : List DS} (h : w.ownsMap Try.prog 32 Rd b n D) (hd : MapOk l D) (x : Int) (hx : U64 x) :
    ∃ y B, (Instr.lookup 59 (.map (some b)) (.int .u64 x) true).run Try.prog w = .ok (.tuple #[doneV y, .bool B]) w ∧ (B = true → y ∈ l ∧ y.kind = 2 ∧ y.well = true ∧ y.v = x) := by
  obtain ⟨v, ps, hrun, hv⟩ := h.look_ok key32 Try.underlying59 (zero57 w) (Rd_mk zeroD) (key_u64 x hx)
  rcases hd x with ⟨h1, h2⟩ | ⟨h1, y, hy, hyk, hyw, hyv, h2⟩
  · rw [h2] at hv
    rw [Rd_inv hv, h1] at hrun
    exact ⟨zeroD, false, hrun, fun e => nomatch e⟩
  · rw [h2] at hv
    rw [Rd_inv hv, h1] at hrun
    exact ⟨y, true, hrun, fun _ => ⟨hy, hyk, hyw, hyv⟩⟩
theorem kept_below {w w1 : World} {b n : Nat} {D : DataW Nat} {B : Nat} (h : w.ownsMap Try.prog 32 Rd b n D) (hb : Below B w w1) (hB : b < B) : w1.ownsMap Try.prog 32 Rd b n D := by
  obtain ⟨es, clock, hh, r⟩ := h
  exact ⟨es, clock, (hb.block b hB).trans hh, r⟩
/-- The values of those that ended well. -/
theorem own_vals {ps : List PK} {c : Nat} (hc : c = 2 ∨ c = 4 ∨ c = 8) (ho : Own ps) : ∀ d ∈ (run ps (openU c)).out, d.well = true → U64 d.v := by
  intro d hd hw
  have hk : runLen ps ≤ 200 := by unfold runLen; omega
  have hl : runLen ps ≤ ps.length := by unfold runLen; omega
  have hV := invV_run hc ho (runLen ps) (by omega) hl
  have hI := invA_run (invA_open c hc) ps (runLen ps) (by omega)
  have hHT := hI.ring.hT
  unfold run at hd
  unfold U64
  by_cases hk2 : d.kind = 2
  · obtain ⟨h1, h2, h3⟩ := (hV.o1 d hd hw).2 hk2
    have := hV.i1 d.pl h1 (by omega); omega
  · obtain ⟨h1, h2, h3⟩ := (hV.o1 d hd hw).1 hk2
    have := hV.i1 d.pl h1 (by omega); omega
end Go.Proofs.Ytepbggoeajihbaa.Ring
