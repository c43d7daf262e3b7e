/- The team: run. -/
import Derived.Test.YtepbggoeajihbaaTb
import Derived.Deep.DeepCutAuto
set_option linter.unusedVariables false
set_option linter.unusedSimpArgs false
namespace Go.Proofs.Ytepbggoeajihbaa.Ring
open Go.RowKit Go.Proofs.YtepbggoeajihbaaW.PrintWords Go.Proofs.YtepbggoeajihbaaW.PrintLast Go.Proofs.YtepbggoeajihbaaW.PrintMore Go.Proofs.YtepbggoeajihbaaHk
open Go.Proofs.YtepbggoeajihbaaRx
attribute [local go_sem ↓] Go.wp_at_zero Go.wp_at_succ

def doneCell (d : DS) (j : Nat) : Value := if j = 0 then .int .i64 d.kind else if j = 1 then .int .u64 d.v else if j = 2 then .int .i64 d.beg else if j = 3 then .int .i64 d.fin else if j = 4 then .bool d.well else .int .i64 d.ret
def doneCells (d : DS) : List Value := [.int .i64 d.kind, .int .u64 d.v, .int .i64 d.beg, .int .i64 d.fin, .bool d.well, .int .i64 d.ret]
def nowCells (f : Nat → DS) : Array Value := Array.ofFn (n := 36) fun k => doneCell (f (k.val / 6)) (k.val % 6)
theorem upF_upF {α : Type} (f : Nat → α) (i : Nat) (x y : α) : upF (upF f i x) i y = upF f i y := by funext j; unfold upF; split <;> rfl
theorem now_get (f : Nat → DS) (i j : Nat) (hi : i < 6) (hj : j < 6) : (nowCells f)[i * 6 + j]? = some (doneCell (f i) j) := by
  have h : i * 6 + j < 36 := by omega
  have h1 : (i * 6 + j) / 6 = i := by omega
  have h2 : (i * 6 + j) % 6 = j := by omega
  simp [nowCells, h, h1, h2]
theorem now_set (f : Nat → DS) (i j : Nat) (hi : i < 6) (hj : j < 6) (d : DS) (hd : ∀ k, k < 6 → k ≠ j → doneCell d k = doneCell (f i) k) : (nowCells f).setIfInBounds (i * 6 + j) (doneCell d j) = nowCells (upF f i d) := by
  apply Array.ext
  · simp [nowCells]
  · intro k h1 h2
    have hk : k < 36 := by simpa [nowCells] using h2
    rw [Array.getElem_setIfInBounds (by simpa [nowCells] using hk)]
    simp only [nowCells, Array.getElem_ofFn]
    by_cases e : i * 6 + j = k
    · subst e
      have h1 : (i * 6 + j) / 6 = i := by omega
      have h2 : (i * 6 + j) % 6 = j := by omega
      rw [if_pos rfl, h1, h2, upF_same]
    · rw [if_neg e]
      by_cases e2 : k / 6 = i
      · rw [e2, upF_same]; exact (hd (k % 6) (by omega) (by omega)).symm
      · rw [upF_ne _ _ _ e2]
def outCells (l : List DS) : List Value := l.flatMap doneCells
theorem outCells_len (l : List DS) : (outCells l).length = l.length * 6 := by
  induction l with
  | nil => rfl
  | cons d l ih => simp [outCells, doneCells] at ih ⊢; omega
theorem outCells_snoc (l : List DS) (d : DS) : outCells l ++ doneCells d = outCells (l ++ [d]) := by simp [outCells]
def zeroNow : Nat → DS := fun _ => zeroD
/-- What run's loop keeps. -/
structure RunInv (B : Nat) (w : World) (p : TW) (nw k : Nat) (v6 : Value) (u : US) (ga gb : Nat → Nat) (wr : World) : Prop where
  team : IsTeam B wr p ga gb u.r u.act
  now : wr.heap[nw]? = some (.cells (nowCells u.now) 78)
  out : wr.ownsRow w.heap.size 57 6 v6 u.out.length (outCells u.out)
  below : Below B w wr
  inv : InvA k u
  kind : ∀ i a, u.act i = some a → (u.now i).kind = kindOf a
  six : ∀ i, 6 ≤ i → u.act i = none
  ret : ∀ i, 0 ≤ (u.now i).ret ∧ (u.now i).ret ≤ k
  len : u.out.length ≤ k
  old : w.heap.size ≤ nw
  ge0 : B ≤ w.heap.size
theorem rown_ne {w : World} {base size n g : Nat} {e t : TypeId} {v : Value} {xs : List Value} {cs : Array Value} (h : w.ownsRow base e size v n xs) (hb : w.heap[g]? = some (.cells cs t)) (ht : e ≠ t) : v.ownBlock ≠ some g := by
  rcases h.2 with ⟨hv, _⟩ | ⟨g', cap, cur, hv, _, hg, _⟩
  · rw [hv]; simp [Value.ownBlock]
  · rw [hv]; intro e2
    simp [Value.ownBlock] at e2
    subst e2
    rw [hg] at hb; injection hb with hb; injection hb with h1 h2; exact ht h2
theorem rown_block {w w' : World} {base size n : Nat} {e : TypeId} {v : Value} {xs : List Value} (h : w.ownsRow base e size v n xs) (hm : ∀ k, v.ownBlock = some k → k < w.heap.size → w'.heap[k]? = w.heap[k]?) : w'.ownsRow base e size v n xs := by
  have hl := h.lt
  rcases h with ⟨h1, h2⟩
  refine ⟨h1, ?_⟩
  rcases h2 with h2 | ⟨g, cap, cur, hv, hb, hg, r⟩
  · exact .inl h2
  · exact .inr ⟨g, cap, cur, hv, hb, by rw [hm g (by rw [hv]; rfl) (hl g (by rw [hv]; rfl)).2]; exact hg, r⟩
theorem PickAt.below' {B : Nat} {w w' : World} {A : Option Addr} {k : Nat} {p : PK} (h : PickAt w A k p) (hb : Below B w w') (hl : ∀ ad, A = some ad → ad.block < B) : PickAt w' A k p := by
  obtain ⟨ho, ab, ao, h1, h2, h3, h4⟩ := h
  have hl : ab < B := hl _ h1
  exact ⟨ho, ab, ao, h1, (hb.cell (p := ⟨ab, ao + k * 3, none⟩) hl).trans h2, (hb.cell (p := ⟨ab, ao + k * 3 + 1, none⟩) hl).trans h3, (hb.cell (p := ⟨ab, ao + k * 3 + 2, none⟩) hl).trans h4⟩
theorem RunInv.bw {B : Nat} {w : World} {p : TW} {nw k : Nat} {v6 : Value} {u : US} {ga gb : Nat → Nat} {wr : World} (h : RunInv B w p nw k v6 u ga gb wr) : B ≤ wr.heap.size := h.team.bw
theorem RunInv.alloc {B : Nat} {w : World} {p : TW} {nw k : Nat} {v6 : Value} {u : US} {ga gb : Nat → Nat} {wr : World} (h : RunInv B w p nw k v6 u ga gb wr) (o : Obj) : RunInv B w p nw k v6 u ga gb (wr.alloc o) :=
  ⟨h.team.below ((Below.refl _ _).alloc (Nat.le_refl _) _), hk_alloc h.now _, h.out.alloc _, h.below.alloc h.bw _, h.inv, h.kind, h.six, h.ret, h.len, h.old, h.ge0⟩
theorem now_six (f : Nat → DS) (i : Nat) (hi : i < 6) (d : DS) :
    ((((((nowCells f).setIfInBounds (i * 6) (.int .i64 d.kind)).setIfInBounds (i * 6 + 1) (.int .u64 d.v)).setIfInBounds (i * 6 + 2) (.int .i64 d.beg)).setIfInBounds (i * 6 + 3) (.int .i64 d.fin)).setIfInBounds (i * 6 + 4) (.bool d.well)).setIfInBounds (i * 6 + 5) (.int .i64 d.ret) = nowCells (upF f i d) := by
  have e0 := now_set f i 0 hi (by omega) { f i with kind := d.kind } (fun k h1 h2 => by rcases (show k = 1 ∨ k = 2 ∨ k = 3 ∨ k = 4 ∨ k = 5 from by omega) with e | e | e | e | e <;> subst e <;> rfl)
  have e1 := now_set (upF f i { f i with kind := d.kind }) i 1 hi (by omega) { f i with kind := d.kind, v := d.v } (fun k h1 h2 => by rw [upF_same]; rcases (show k = 0 ∨ k = 2 ∨ k = 3 ∨ k = 4 ∨ k = 5 from by omega) with e | e | e | e | e <;> subst e <;> rfl)
  have e2 := now_set (upF f i { f i with kind := d.kind, v := d.v }) i 2 hi (by omega) { f i with kind := d.kind, v := d.v, beg := d.beg } (fun k h1 h2 => by rw [upF_same]; rcases (show k = 0 ∨ k = 1 ∨ k = 3 ∨ k = 4 ∨ k = 5 from by omega) with e | e | e | e | e <;> subst e <;> rfl)
  have e3 := now_set (upF f i { f i with kind := d.kind, v := d.v, beg := d.beg }) i 3 hi (by omega) { f i with kind := d.kind, v := d.v, beg := d.beg, fin := d.fin } (fun k h1 h2 => by rw [upF_same]; rcases (show k = 0 ∨ k = 1 ∨ k = 2 ∨ k = 4 ∨ k = 5 from by omega) with e | e | e | e | e <;> subst e <;> rfl)
  have e4 := now_set (upF f i { f i with kind := d.kind, v := d.v, beg := d.beg, fin := d.fin }) i 4 hi (by omega) { f i with kind := d.kind, v := d.v, beg := d.beg, fin := d.fin, well := d.well } (fun k h1 h2 => by rw [upF_same]; rcases (show k = 0 ∨ k = 1 ∨ k = 2 ∨ k = 3 ∨ k = 5 from by omega) with e | e | e | e | e <;> subst e <;> rfl)
  have e5 := now_set (upF f i { f i with kind := d.kind, v := d.v, beg := d.beg, fin := d.fin, well := d.well }) i 5 hi (by omega) d (fun k h1 h2 => by rw [upF_same]; rcases (show k = 0 ∨ k = 1 ∨ k = 2 ∨ k = 3 ∨ k = 4 from by omega) with e | e | e | e | e <;> subst e <;> rfl)
  simp only [upF_upF] at e1 e2 e3 e4 e5
  rw [show (nowCells f).setIfInBounds (i * 6) (.int .i64 d.kind) = _ from e0, show (nowCells (upF f i { f i with kind := d.kind })).setIfInBounds (i * 6 + 1) (.int .u64 d.v) = _ from e1]
  rw [show (nowCells (upF f i { f i with kind := d.kind, v := d.v })).setIfInBounds (i * 6 + 2) (.int .i64 d.beg) = _ from e2]
  rw [show (nowCells (upF f i { f i with kind := d.kind, v := d.v, beg := d.beg })).setIfInBounds (i * 6 + 3) (.int .i64 d.fin) = _ from e3]
  rw [show (nowCells (upF f i { f i with kind := d.kind, v := d.v, beg := d.beg, fin := d.fin })).setIfInBounds (i * 6 + 4) (.bool d.well) = _ from e4]
  exact e5
theorem runTo_begin {ps : List PK} {k iN c : Nat} {u : US} {q : PK} (hu : u = runTo ps k (openU c)) (hq : q = ps.getD k ⟨0, 0, 0⟩) (ht : thread q = iN) (ha : u.act iN = none) : runTo ps (k + 1) (openU c) = doBegin k iN q.d q.v u := by
  unfold runTo
  rw [← hu, ← hq]; unfold pickStep; rw [ht, ha]
theorem runTo_step {ps : List PK} {k iN c : Nat} {u : US} {q : PK} {a : AS} (hu : u = runTo ps k (openU c)) (hq : q = ps.getD k ⟨0, 0, 0⟩) (ht : thread q = iN) (ha : u.act iN = some a) : runTo ps (k + 1) (openU c) = doStep k iN a u := by
  unfold runTo
  rw [← hu, ← hq]; unfold pickStep; rw [ht, ha]
/-- Blocks of other types stay when the block of now is written. -/
theorem IsTeam.far {B : Nat} {w : World} {p : TW} {ga gb : Nat → Nat} {r : RS} {act : Nat → Option AS} {nw : Nat} {cs : Array Value} (h : IsTeam B w p ga gb r act) (hn : w.heap[nw]? = some (.cells cs 78)) (j : Nat) (v : Value) : IsTeam B (w.setCell ⟨nw, j, none⟩ v) p ga gb r act := by
  have hfar : ∀ {b : Nat} {cb : Array Value} {t : TypeId}, w.heap[b]? = some (.cells cb t) → t ≠ 78 → (w.setCell ⟨nw, j, none⟩ v).heap[b]? = some (.cells cb t) := fun h1 h2 => hk_far (p := ⟨nw, j, none⟩) h1 (blk_ne h1 hn h2) _
  obtain ⟨c1, h1, h2⟩ := h.doc.num
  obtain ⟨c2, h3, h4⟩ := h.doc.val
  exact ⟨hfar h.team (by decide), ⟨hfar h.ring.ring (by decide), hfar h.ring.slots (by decide), h.ring.ne, h.ring.ok⟩, ⟨hfar h.doc.ring (by decide), ⟨c1, hfar h1 (by decide), h2⟩, ⟨c2, hfar h3 (by decide), h4⟩, h.doc.ne⟩,
    fun i a hi ha => ⟨⟨hfar (h.acts i a hi ha).1.act (by decide), (h.acts i a hi ha).1.ok⟩, ⟨hfar (h.acts i a hi ha).2.act (by decide)⟩⟩, h.da, h.db, h.ge, h.gea, by have := h.bw; simpa [World.setCell] using this⟩
/-- team, now, out, at a world; what a store into now leaves. -/
structure TNO (B : Nat) (w : World) (p : TW) (nw : Nat) (v6 : Value) (l : List DS) (r : RS) (act : Nat → Option AS) (ga gb : Nat → Nat) (cs : Array Value) (wr : World) : Prop where
  team : IsTeam B wr p ga gb r act
  now : wr.heap[nw]? = some (.cells cs 78)
  out : wr.ownsRow w.heap.size 57 6 v6 l.length (outCells l)
  below : Below B w wr
  nb : B ≤ nw
  bww : B ≤ w.heap.size
theorem TNO.set {B : Nat} {w : World} {p : TW} {nw : Nat} {v6 : Value} {l : List DS} {r : RS} {act : Nat → Option AS} {ga gb : Nat → Nat} {cs : Array Value} {wr : World} (h : TNO B w p nw v6 l r act ga gb cs wr) (j : Nat) (v : Value) : TNO B w p nw v6 l r act ga gb (cs.setIfInBounds j v) (wr.setCell ⟨nw, j, none⟩ v) :=
  ⟨h.team.far h.now j v, hk_set h.now j v, rown_block h.out (fun i hi hl => Below.heap_setCell wr ⟨nw, j, none⟩ v i (fun e => rown_ne h.out h.now (by decide) (by rw [hi, e]))), h.below.setCell (p := ⟨nw, j, none⟩) h.nb _, h.nb, h.bww⟩
theorem TNO.drew {B : Nat} {w : World} {p : TW} {nw : Nat} {v6 : Value} {l : List DS} {r : RS} {act : Nat → Option AS} {ga gb : Nat → Nat} {cs : Array Value} {wr : World} (h : TNO B w p nw v6 l r act ga gb cs wr) : TNO B w p nw v6 l r act ga gb cs wr.drew :=
  ⟨h.team.drew, h.now, h.out, ⟨h.below.os, h.below.tape, h.below.output, h.below.size, h.below.block⟩, h.nb, h.bww⟩
theorem run_begin {B : Nat} {w W1 w2 : World} {p : TW} {nw k iN : Nat} {v6 : Value} {u : US} {ga gb ga2 gb2 : Nat → Nat} {q : PK} {K : Int} (h : RunInv B w p nw k v6 u ga gb W1) (ht : IsTeam B w2 p ga2 gb2 u.r (upF u.act iN (some (beginA q.d q.v))))
    (hn : w2.heap[nw]? = some (.cells (nowCells u.now) 78)) (ho : w2.ownsRow w.heap.size 57 6 v6 u.out.length (outCells u.out)) (hb : Below B w w2) (hi : iN < 6) (ha : u.act iN = none) (hK : K = kindOf (beginA q.d q.v)) :
    RunInv B w p nw (k + 1) v6 (doBegin k iN q.d q.v u) ga2 gb2 ((((((w2.setCell ⟨nw, iN * 6, none⟩ (.int .i64 K)).setCell ⟨nw, iN * 6 + 1, none⟩ (.int .u64 q.v)).setCell ⟨nw, iN * 6 + 2, none⟩ (.int .i64 k)).setCell ⟨nw, iN * 6 + 3, none⟩ (.int .i64 0)).setCell ⟨nw, iN * 6 + 4, none⟩ (.bool false)).setCell ⟨nw, iN * 6 + 5, none⟩ (.int .i64 0)).drew := by
  have t0 : TNO B w p nw v6 u.out u.r (upF u.act iN (some (beginA q.d q.v))) ga2 gb2 (nowCells u.now) w2 := ⟨ht, hn, ho, hb, Nat.le_trans h.ge0 h.old, h.ge0⟩
  have t6 := ((((((t0.set (iN * 6) (.int .i64 K)).set (iN * 6 + 1) (.int .u64 q.v)).set (iN * 6 + 2) (.int .i64 k)).set (iN * 6 + 3) (.int .i64 0)).set (iN * 6 + 4) (.bool false)).set (iN * 6 + 5) (.int .i64 0)).drew
  have e := now_six u.now iN hi ⟨K, q.v, k, 0, false, 0, 0⟩
  rw [e] at t6
  subst hK
  refine ⟨t6.team, t6.now, t6.out, t6.below, by have := invA_begin h.inv k iN q.d q.v; exact this, fun j b hj => ?_, fun j hj => ?_, fun j => ?_, Nat.le_succ_of_le h.len, h.old, h.ge0⟩
  · simp only [doBegin] at hj ⊢
    by_cases ej : j = iN
    · subst ej; rw [upF_same] at hj ⊢; rw [← Option.some.inj hj]
    · rw [upF_ne _ _ _ ej] at hj ⊢; exact h.kind j b hj
  · simp only [doBegin]; rw [upF_ne _ _ _ (by omega)]; exact h.six j hj
  · simp only [doBegin]
    by_cases ej : j = iN
    · subst ej; rw [upF_same]; simp; omega
    · rw [upF_ne _ _ _ ej]; have := h.ret j; omega
theorem upF_self {α : Type} (f : Nat → α) (i : Nat) : upF f i (f i) = f := by funext j; unfold upF; split; rename_i h; rw [h]; rfl
theorem run_mid {B : Nat} {w W1 w2 : World} {p : TW} {nw k iN : Nat} {v6 : Value} {u : US} {ga gb : Nat → Nat} {a : AS} (h : RunInv B w p nw k v6 u ga gb W1) (ht : IsTeam B w2 p ga gb (stepR u.r a) (upF u.act iN (some (stepA u.r a)))) (hk : Keep (SSet p ga gb iN) W1 w2) (hi : iN < 6) (ha : u.act iN = some a) :
    TNO B w p nw v6 u.out (stepR u.r a) (upF u.act iN (some (stepA u.r a))) ga gb (nowCells u.now) w2 := by
  have hA := h.team.acts iN a hi ha
  obtain ⟨c1, hn, _⟩ := h.team.doc.num
  obtain ⟨c2, hv, _⟩ := h.team.doc.val
  have nS : ∀ {b : Nat} {cs : Array Value} {t : TypeId}, W1.heap[b]? = some (.cells cs t) → (t = 78 ∨ t = 57) → ¬ SSet p ga gb iN b := by
    rintro b cs t hb ht (e | e | e | e | e | e | e)
    · exact blk_ne hb hA.1.act (by rcases ht with e | e <;> subst e <;> decide) e
    · exact blk_ne hb h.team.ring.ring (by rcases ht with e | e <;> subst e <;> decide) e
    · exact blk_ne hb h.team.ring.slots (by rcases ht with e | e <;> subst e <;> decide) e
    · exact blk_ne hb hA.2.act (by rcases ht with e | e <;> subst e <;> decide) e
    · exact blk_ne hb h.team.doc.ring (by rcases ht with e | e <;> subst e <;> decide) e
    · exact blk_ne hb hn (by rcases ht with e | e <;> subst e <;> decide) e
    · exact blk_ne hb hv (by rcases ht with e | e <;> subst e <;> decide) e
  refine ⟨ht, hk.blk h.now (nS h.now (.inl rfl)), ?_, h.below.trans (hk.below h.bw (fun j hj hS => ?_)), Nat.le_trans h.ge0 h.old, h.ge0⟩
  · refine rown_block h.out (fun j hj hl => hk.block j hl (fun hS => ?_))
    rcases h.out.2 with ⟨hv, _⟩ | ⟨g', cap, cur, hv, _, hg, _⟩
    · rw [hv] at hj; simp [Value.ownBlock] at hj
    · rw [hv] at hj; simp [Value.ownBlock] at hj; subst hj
      exact nS hg (.inr rfl) hS
  · have hge := h.team.ge
    have hga := h.team.gea iN a hi ha
    rcases hS with e | e | e | e | e | e | e <;> omega
theorem run_next {B : Nat} {w W1 w2 : World} {p : TW} {nw k iN : Nat} {v6 : Value} {u : US} {ga gb : Nat → Nat} {a : AS} {cs : Array Value} {d : DS} (h : RunInv B w p nw k v6 u ga gb W1)
    (t : TNO B w p nw v6 u.out (stepR u.r a) (upF u.act iN (some (stepA u.r a))) ga gb cs w2) (hi : iN < 6) (ha : u.act iN = some a) (hs : StepCase u.r a (stepR u.r a) (stepA u.r a)) (h5 : (stepA u.r a).next ≠ 5)
    (hc : cs = nowCells (upF u.now iN d)) (hd : d = oneD a (stepA u.r a) (u.now iN)) (hk : k ≤ 1000) :
    RunInv B w p nw (k + 1) v6 (doStep k iN a u) ga gb w2 := by
  have e1 : (doStep k iN a u).act = upF u.act iN (some (stepA u.r a)) := by simp only [doStep]; rw [if_neg h5]
  have e2 : (doStep k iN a u).now = upF u.now iN d := by simp only [doStep]; rw [if_neg h5, hd]
  have e3 : (doStep k iN a u).out = u.out := by simp only [doStep]; rw [if_neg h5]
  refine ⟨by rw [e1]; exact t.team, by rw [e2, ← hc]; exact t.now, by rw [e3]; exact t.out, t.below, by have := invA_step h.inv (by omega) k iN a ha; exact this, fun j b hj => ?_, fun j hj => ?_, fun j => ?_, by rw [e3]; exact Nat.le_succ_of_le h.len, h.old, h.ge0⟩
  · rw [e1] at hj; rw [e2]
    by_cases ej : j = iN
    · subst ej; rw [upF_same] at hj ⊢; rw [← Option.some.inj hj, hd]
      have := h.kind j a ha
      unfold oneD kindOf; rw [step_pops hs]
      split <;> exact this
    · rw [upF_ne _ _ _ ej] at hj ⊢; exact h.kind j b hj
  · rw [e1, upF_ne _ _ _ (by omega)]; exact h.six j hj
  · rw [e2]
    by_cases ej : j = iN
    · subst ej; rw [upF_same, hd]; have := h.ret j; unfold oneD; split
      · show 0 ≤ (u.now j).ret + 1 ∧ (u.now j).ret + 1 ≤ _; omega
      · omega
    · rw [upF_ne _ _ _ ej]; have := h.ret j; omega
theorem info57 : (Try.prog.info? 57).map (fun i => (i.zero, i.size, i.bytes)) = some (some (.agg #[.int .i64 0, .int .u64 0, .int .i64 0, .int .i64 0, .bool false, .int .i64 0]), 6, 48) := by kernel_rfl
theorem now_fin (f : Nat → DS) (i : Nat) (hi : i < 6) (x : Int) (b : Bool) : ((nowCells f).setIfInBounds (i * 6 + 3) (.int .i64 x)).setIfInBounds (i * 6 + 4) (.bool b) = nowCells (upF f i { f i with fin := x, well := b }) := by
  have e3 := now_set f i 3 hi (by omega) { f i with fin := x } (fun k h1 h2 => by rcases (show k = 0 ∨ k = 1 ∨ k = 2 ∨ k = 4 ∨ k = 5 from by omega) with e | e | e | e | e <;> subst e <;> rfl)
  have e4 := now_set (upF f i { f i with fin := x }) i 4 hi (by omega) { f i with fin := x, well := b } (fun k h1 h2 => by rw [upF_same]; rcases (show k = 0 ∨ k = 1 ∨ k = 2 ∨ k = 3 ∨ k = 5 from by omega) with e | e | e | e | e <;> subst e <;> rfl)
  rw [upF_upF] at e4
  rw [show (nowCells f).setIfInBounds (i * 6 + 3) (.int .i64 x) = _ from e3]
  exact e4
theorem doneCell_get (d : DS) (j : Nat) (hj : j < 6) : (doneCells d)[j]? = some (doneCell d j) := by
  rcases (show j = 0 ∨ j = 1 ∨ j = 2 ∨ j = 3 ∨ j = 4 ∨ j = 5 from by omega) with e | e | e | e | e | e <;> subst e <;> rfl
theorem now_same {f : Nat → DS} {i : Nat} {d d' : DS} (h : doneCells d = doneCells d') : nowCells (upF f i d) = nowCells (upF f i d') := by
  apply Array.ext
  · simp [nowCells]
  · intro k h1 h2
    simp only [nowCells, Array.getElem_ofFn]
    by_cases e : k / 6 = i
    · rw [e, upF_same, upF_same]
      have h3 := doneCell_get d (k % 6) (by omega)
      have h4 := doneCell_get d' (k % 6) (by omega)
      rw [h, h4] at h3
      exact (Option.some.inj h3).symm
    · rw [upF_ne _ _ _ e, upF_ne _ _ _ e]
theorem TNO.app {B : Nat} {w : World} {p : TW} {nw : Nat} {v6 v1 : Value} {l : List DS} {d : DS} {r : RS} {act : Nat → Option AS} {ga gb : Nat → Nat} {cs : Array Value} {W w6 : World} (h : TNO B w p nw v6 l r act ga gb cs W)
    (hown : w6.ownsRow w.heap.size 57 6 v1 (l.length + 1) (outCells l ++ doneCells d)) (hb : Below w.heap.size W w6) (hg : W.grownBy w6 v6.ownBlock) : TNO B w p nw v1 (l ++ [d]) r act ga gb cs w6 := by
  have hfar : ∀ {b : Nat} {cb : Array Value} {t : TypeId}, W.heap[b]? = some (.cells cb t) → 57 ≠ t → w6.heap[b]? = some (.cells cb t) := fun h1 h2 => (hg.block _ (hk_lt h1) (fun e => rown_ne h.out h1 h2 e.symm)).trans h1
  obtain ⟨c1, h1, h2⟩ := h.team.doc.num
  obtain ⟨c2, h3, h4⟩ := h.team.doc.val
  refine ⟨⟨hfar h.team.team (by decide), ⟨hfar h.team.ring.ring (by decide), hfar h.team.ring.slots (by decide), h.team.ring.ne, h.team.ring.ok⟩, ⟨hfar h.team.doc.ring (by decide), ⟨c1, hfar h1 (by decide), h2⟩, ⟨c2, hfar h3 (by decide), h4⟩, h.team.doc.ne⟩,
    fun i a hi ha => ⟨⟨hfar (h.team.acts i a hi ha).1.act (by decide), (h.team.acts i a hi ha).1.ok⟩, ⟨hfar (h.team.acts i a hi ha).2.act (by decide)⟩⟩, h.team.da, h.team.db, h.team.ge, h.team.gea, Nat.le_trans h.team.bw hg.size⟩, hfar h.now (by decide), ?_, ?_, h.nb, h.bww⟩
  · rw [List.length_append, ← outCells_snoc]; exact hown
  · exact h.below.trans ⟨hb.os, hb.tape, hb.output, hb.size, fun i hi => hg.block i (Nat.lt_of_lt_of_le hi h.team.bw) (fun e => by have := (h.out.lt i e.symm).1; have := h.bww; omega)⟩
theorem run_end {B : Nat} {w W1 W6 : World} {p : TW} {nw k iN : Nat} {v6 v1 : Value} {u : US} {ga gb : Nat → Nat} {a : AS} {d : DS} (h : RunInv B w p nw k v6 u ga gb W1)
    (t : TNO B w p nw v1 (u.out ++ [d]) (stepR u.r a) (upF u.act iN (some (stepA u.r a))) ga gb (nowCells (upF u.now iN d)) W6) (hi : iN < 6) (ha : u.act iN = some a) (hs : StepCase u.r a (stepR u.r a) (stepA u.r a)) (h5 : (stepA u.r a).next = 5)
    (hd : d = endD k (stepA u.r a) (oneD a (stepA u.r a) (u.now iN))) (hk : k ≤ 1000) :
    RunInv B w p nw (k + 1) v1 (doStep k iN a u) ga gb (((W6.setCell ⟨p.tb, 2 + iN, none⟩ (.pointer none)).setCell ⟨p.tb, 8 + iN, none⟩ (.pointer none)).drew) := by
  have e1 : (doStep k iN a u).act = upF u.act iN none := by simp only [doStep]; rw [if_pos h5]
  have e2 : (doStep k iN a u).now = upF u.now iN d := by simp only [doStep]; rw [if_pos h5, hd]
  have e3 : (doStep k iN a u).out = u.out ++ [d] := by simp only [doStep]; rw [if_pos h5, hd]
  have hfar : ∀ {b : Nat} {cb : Array Value} {t' : TypeId}, W6.heap[b]? = some (.cells cb t') → t' ≠ 55 → (((W6.setCell ⟨p.tb, 2 + iN, none⟩ (.pointer none)).setCell ⟨p.tb, 8 + iN, none⟩ (.pointer none)).drew).heap[b]? = some (.cells cb t') :=
    fun h1 h2 => hk_far (p := ⟨p.tb, 8 + iN, none⟩) (hk_far (p := ⟨p.tb, 2 + iN, none⟩) h1 (blk_ne h1 t.team.team h2) _) (blk_ne h1 t.team.team h2) _
  have hact : ∀ j b, upF u.act iN none j = some b → j ≠ iN ∧ u.act j = some b := by
    intro j b hb
    by_cases e : j = iN
    · subst e; rw [upF_same] at hb; cases hb
    · rw [upF_ne _ _ _ e] at hb; exact ⟨e, hb⟩
  have hact2 : ∀ j b, upF u.act iN none j = some b → upF u.act iN (some (stepA u.r a)) j = some b := fun j b hb => by rw [upF_ne _ _ _ (hact j b hb).1]; exact (hact j b hb).2
  have hbel : Below B W6 (((W6.setCell ⟨p.tb, 2 + iN, none⟩ (.pointer none)).setCell ⟨p.tb, 8 + iN, none⟩ (.pointer none)).drew) := by
    have := (((Below.refl B W6).setCell (p := ⟨p.tb, 2 + iN, none⟩) t.team.ge.1 (.pointer none)).setCell (p := ⟨p.tb, 8 + iN, none⟩) t.team.ge.1 (.pointer none))
    exact ⟨this.os, this.tape, this.output, this.size, this.block⟩
  have hga : ∀ (g : Nat → Nat), updV (fun j => actPtr (upF u.act iN (some (stepA u.r a)) j) (g j)) iN (.pointer none) = fun j => actPtr (upF u.act iN none j) (g j) := by
    intro g; funext j; unfold updV
    by_cases e : j = iN
    · subst e; rw [upF_same]; simp [actPtr]
    · rw [upF_ne _ _ _ e, if_neg e]; show actPtr (upF u.act iN (some (stepA u.r a)) j) (g j) = _; rw [upF_ne _ _ _ e]
  obtain ⟨c1, hn1, hn2⟩ := t.team.doc.num
  obtain ⟨c2, hv1, hv2⟩ := t.team.doc.val
  refine ⟨?_, by rw [e2]; exact hfar t.now (by decide), ?_, t.below.trans hbel, by have := invA_step h.inv (by omega) k iN a ha; exact this, fun j b hj => ?_, fun j hj => ?_, fun j => ?_, by rw [e3]; have := h.len; simp; exact this, h.old, h.ge0⟩
  · rw [e1]
    refine ⟨?_, ⟨hfar t.team.ring.ring (by decide), hfar t.team.ring.slots (by decide), t.team.ring.ne, t.team.ring.ok⟩, ⟨hfar t.team.doc.ring (by decide), ⟨c1, hfar hn1 (by decide), hn2⟩, ⟨c2, hfar hv1 (by decide), hv2⟩, t.team.doc.ne⟩, fun j b hj hb => ?_, fun i j x y hi hj hx hy => t.team.da i j x y hi hj (hact2 _ _ hx) (hact2 _ _ hy), fun i j x y hi hj hx hy => t.team.db i j x y hi hj (hact2 _ _ hx) (hact2 _ _ hy), t.team.ge, fun j b hj hb => t.team.gea j b hj (hact2 _ _ hb), Nat.le_trans t.team.bw hbel.size⟩
    · show ((W6.setCell ⟨p.tb, 2 + iN, none⟩ (.pointer none)).setCell ⟨p.tb, 8 + iN, none⟩ (.pointer none)).heap[p.tb]? = _
      rw [hk_set (hk_set t.team.team (2 + iN) _) (8 + iN) _, team_set_a _ _ _ _ hi, team_set_b _ _ _ _ hi, hga ga, hga gb]
    · have := t.team.acts j b hj (hact2 _ _ hb)
      exact ⟨⟨hfar this.1.act (by decide), this.1.ok⟩, ⟨hfar this.2.act (by decide)⟩⟩
  · rw [e3]
    refine rown_block t.out (fun j hj hl => ?_)
    have hne : j ≠ p.tb := fun e => rown_ne t.out t.team.team (by decide) (by rw [hj, e])
    exact (Below.heap_setCell _ ⟨p.tb, 8 + iN, none⟩ (.pointer none) j hne).trans (Below.heap_setCell W6 ⟨p.tb, 2 + iN, none⟩ (.pointer none) j hne)
  · rw [e1] at hj; rw [e2, upF_ne _ _ _ (hact j b hj).1]; exact h.kind j b (hact j b hj).2
  · rw [e1, upF_ne _ _ _ (by omega)]; exact h.six j hj
  · rw [e2]
    by_cases ej : j = iN
    · subst ej; rw [upF_same, hd]; have := h.ret j; unfold endD oneD; split
      · show 0 ≤ (u.now j).ret + 1 ∧ (u.now j).ret + 1 ≤ _; omega
      · show 0 ≤ (u.now j).ret ∧ (u.now j).ret ≤ _; omega
    · rw [upF_ne _ _ _ ej]; have := h.ret j; omega
def RunPost (B : Nat) (w : World) (p : TW) (u : US) (e : Ending) (w' : World) : Prop :=
  ∃ v6 ga gb, e = .returned (.tuple #[v6, .bool true]) ∧ IsTeam B w' p ga gb u.r u.act ∧ w'.ownsRow w.heap.size 57 6 v6 u.out.length (outCells u.out) ∧ Below B w w'
theorem now_zero : nowCells zeroNow = #[.int .i64 0, .int .u64 0, .int .i64 0, .int .i64 0, .bool false, .int .i64 0, .int .i64 0, .int .u64 0, .int .i64 0, .int .i64 0, .bool false, .int .i64 0, .int .i64 0, .int .u64 0, .int .i64 0, .int .i64 0, .bool false, .int .i64 0, .int .i64 0, .int .u64 0, .int .i64 0, .int .i64 0, .bool false, .int .i64 0, .int .i64 0, .int .u64 0, .int .i64 0, .int .i64 0, .bool false, .int .i64 0, .int .i64 0, .int .u64 0, .int .i64 0, .int .i64 0, .bool false, .int .i64 0] := by
  kernel_rfl
theorem run_start {B : Nat} {w : World} {p : TW} {c : Nat} (hc : c = 2 ∨ c = 4 ∨ c = 8) (h : IsTeam B w p (fun _ => 0) (fun _ => 0) (newR c) (fun _ => none)) (cs : Array Value) (hcs : nowCells zeroNow = cs) : RunInv B w p w.heap.size 0 (.slice none 0 0) (openU c) (fun _ => 0) (fun _ => 0) (w.alloc (.cells cs 78)) := by
  subst hcs
  exact ⟨h.below ((Below.refl _ _).alloc (Nat.le_refl _) _), hk_new _ _, ⟨rfl, .inl ⟨rfl, rfl⟩⟩, (Below.refl _ _).alloc h.bw _, invA_open c hc, fun i a hh => (nomatch hh), fun i _ => rfl, fun i => by simp [openU, zeroD], by simp [openU], Nat.le_refl _, h.bw⟩
theorem run_last {B : Nat} {w wr : World} {p : TW} {nw k c len : Nat} {v6 : Value} {ps : List PK} {ga gb : Nat → Nat} (h : RunInv B w p nw k v6 (runTo ps k (openU c)) ga gb wr) (hl : ps.length = len) (hk : k ≤ len) (hk2 : k ≤ 200) (hd : ¬ k < len ∨ ¬ k < 200) : RunPost B w p (run ps (openU c)) (.returned (.tuple #[v6, .bool true])) wr := by
  have e : runLen ps = k := by unfold runLen; rw [hl]; omega
  unfold run; rw [e]
  exact ⟨v6, ga, gb, rfl, h.team, h.out, h.below⟩
set_option maxHeartbeats 6400000 in
set_option maxRecDepth 100000 in
theorem run_walk (B c : Nat) (hc : c = 2 ∨ c = 4 ∨ c = 8) (p : TW) (A : Option Addr) (ps : List PK) (len cap : Nat) (w : World) (h : IsTeam B w p (fun _ => 0) (fun _ => 0) (newR c) (fun _ => none)) (hlen : ps.length = len) (hps : PicksAt w A ps) (hpb : 0 < len → ∀ ad, A = some ad → ad.block < B) (hlm : len ≤ 9223372036854775807) :
    Calls Try.prog 20 #[.pointer (some ⟨p.tb, 0, none⟩), .slice A len cap] w (RunPost B w p (run ps (openU c))) := by
  have H := Aside0.mk h
  have HPS := Aside0.mk hps
  have HPB := Aside0.mk hpb
  have HLEN := Aside0.mk hlen
  have HC := Aside0.mk hc
  have hu49 := Try.underlying49
  clear h hps hpb hlen hc
  go_enter Try.func20, Try.ntmps20
  go_wp2_with fail
  go_loopw [6, 14] (fun v6 v14 wr => ∃ (k : Nat), k ≤ len ∧ k ≤ 200 ∧ v14 = .int .i64 k ∧ Aside0 (∃ ga gb, RunInv B w p w.heap.size k v6 (runTo ps k (openU c)) ga gb wr)) (fun _ v14 _ => len - (intOf v14).toNat)
  case atStart => exact ⟨0, by omega, by omega, rfl, ⟨⟨_, _, run_start HC.out H.out _ now_zero⟩⟩⟩
  case round =>
    obtain ⟨k, hk, hk2, rfl, HJ⟩ := hrel
    obtain ⟨ga, gb, hJ⟩ := HJ.out
    have HJJ := Aside0.mk hJ
    clear HJ
    by_cases hlt : k < len
    · have hpk := HPS.out k (by rw [HLEN.out]; exact hlt)
      obtain ⟨q, hpe⟩ : ∃ p, p = ps.getD k ⟨0, 0, 0⟩ := ⟨_, rfl⟩
      rw [← hpe] at hpk
      have HPE := Aside0.mk hpe
      clear hpe
      have hpk2 := hpk.below' hJ.below (HPB.out (by omega))
      obtain ⟨ab, ao, hA, e0, e1, e2⟩ := hpk2.at_
      have hab : ab < wr.heap.size := World.block_lt_of_cell? wr _ e0
      subst hA
      have hPD := Aside0.mk hpk.ok
      have hpt := hpk.ok.t
      have hpd := hpk.ok.d
      have hpv : 0 ≤ q.v ∧ q.v ≤ 18446744073709551615 := hpk.ok.v
      clear hpk hpk2
      have hk0 : (0 : Int) ≤ (k : Int) := by omega
      by_cases h200 : k < 200
      · obtain ⟨iN, hiN⟩ : ∃ iN : Nat, (iN : Int) = q.t % 6 := ⟨(q.t % 6).toNat, by omega⟩
        have hi6 : iN < 6 := by omega
        have hit : q.t % 6 = (iN : Int) := hiN.symm
        have hi0 : (0 : Int) ≤ (iN : Int) := by omega
        have hi6' : (iN : Int) < 6 := by omega
        have hth : Aside0 (thread q = iN) := ⟨by unfold thread; omega⟩
        obtain ⟨u, hu⟩ : ∃ u, u = runTo ps k (openU c) := ⟨_, rfl⟩
        have HU := Aside0.mk (hu.trans rfl)
        rw [← hu] at hJ HJJ
        have hwz := hJ.bw
        have W1 : Aside0 (RunInv B w p w.heap.size k u6 u ga gb (wr.alloc (.cells #[.int .u8 q.t, .int .u8 q.d, .int .u64 q.v] 49))) := ⟨hJ.alloc _⟩
        have P1 := Aside0.mk (blk_new wr (.cells #[.int .u8 q.t, .int .u8 q.d, .int .u64 q.v] 49))
        clear hu hiN
        cases hact : u.act iN with
        | none =>
          have za : wr.cell? ⟨p.tb, 2 + iN, none⟩ = some (.pointer none) := by rw [hk_cell hJ.team.team, team_a _ _ _ _ hi6, hact]; rfl
          have HACT := Aside0.mk hact
          have htl := hk_lt hJ.team.team
          clear hJ HJJ hact
          go_wp2_with fail
          with_reducible refine (begin_walk B p ga gb u.r u.act iN q.d q.v _ W1.out.team hi6 HACT.out hpd hPD.out.v).mono ?_
          intro e w2 hp
          obtain ⟨he, ga2, gb2, ht2, hk2⟩ := bOut hp
          subst he
          have HT2 := Aside0.mk ht2
          have HP2 := Aside0.mk (hk2.blk P1.out (blk_ne P1.out W1.out.team.team (by decide)))
          have HNW2 := Aside0.mk (hk2.blk W1.out.now (blk_ne W1.out.now W1.out.team.team (by decide)))
          have HO2 := Aside0.mk (rown_block W1.out.out (fun j hj hj2 => hk2.block j hj2 (fun e => rown_ne W1.out.out W1.out.team.team (by decide) (by rw [hj, e]))))
          have HB2 := Aside0.mk (W1.out.below.trans (hk2.below (B := B) W1.out.bw (fun j hj e => by have e : j = p.tb := e; have := W1.out.team.ge.1; omega)))
          have b0 := ht2.acts iN (beginA q.d q.v) hi6 (upF_same _ _ _)
          obtain ⟨K, hK⟩ : ∃ K, K = kindOf (beginA q.d q.v) := ⟨_, rfl⟩
          have HK := Aside0.mk hK
          have z1 : w2.cell? ⟨p.tb, 8 + iN, none⟩ = some (.pointer (some ⟨gb2 iN, 0, none⟩)) := by rw [hk_cell ht2.team, team_b _ _ _ _ hi6, upF_same]; rfl
          have z2 : w2.cell? ⟨gb2 iN, 0, none⟩ = some (.int .i64 K) := by rw [hk_cell b0.2.act, hK]; rfl
          have z3 := hk_cell HP2.out 2
          have n0 := (hk_cell HNW2.out (iN * 6)).trans (now_get u.now iN 0 hi6 (by omega))
          have n1 := (hk_cell HNW2.out (iN * 6 + 1)).trans (now_get u.now iN 1 hi6 (by omega))
          have n2 := (hk_cell HNW2.out (iN * 6 + 2)).trans (now_get u.now iN 2 hi6 (by omega))
          have n3 := (hk_cell HNW2.out (iN * 6 + 3)).trans (now_get u.now iN 3 hi6 (by omega))
          have n4 := (hk_cell HNW2.out (iN * 6 + 4)).trans (now_get u.now iN 4 hi6 (by omega))
          have n5 := (hk_cell HNW2.out (iN * 6 + 5)).trans (now_get u.now iN 5 hi6 (by omega))
          have f0 := hk_frozen HNW2.out (iN * 6)
          have f1 := hk_frozen HNW2.out (iN * 6 + 1)
          have f2 := hk_frozen HNW2.out (iN * 6 + 2)
          have f3 := hk_frozen HNW2.out (iN * 6 + 3)
          have f4 := hk_frozen HNW2.out (iN * 6 + 4)
          have f5 := hk_frozen HNW2.out (iN * 6 + 5)
          have hg1 : w.heap.size ≠ p.tb := blk_ne W1.out.now W1.out.team.team (by decide)
          have hg2 : w.heap.size ≠ gb2 iN := blk_ne HNW2.out b0.2.act (by decide)
          have hg3 : w.heap.size ≠ wr.heap.size := blk_ne HNW2.out HP2.out (by decide)
          clear hp ht2 hk2 b0 hK za e0 e1 e2
          go_wp2_with fail
          go_region_held3 (fun w' => w'.cell? ⟨p.tb, 8 + iN, none⟩ = some (.pointer (some ⟨gb2 iN, 0, none⟩)) ∧ w'.cell? ⟨gb2 iN, 0, none⟩ = some (.int .i64 K) ∧ w'.cell? ⟨wr.heap.size, 2, none⟩ = some (.int .u64 q.v)) (first | go_keep) (fail)
          go_wp2_with fail
          have HN := Aside0.mk (run_begin (q := q) W1.out HT2.out HNW2.out HO2.out HB2.out hi6 HACT.out HK.out)
          go_roundw
          case rel => exact ⟨k + 1, by omega, by omega, by go_num, ⟨⟨_, _, by rw [runTo_begin HU.out HPE.out hth.out HACT.out]; exact HN.out⟩⟩⟩
          case measure => simp [intOf]; omega
        | some a =>
          have hok := hJ.inv.acts iN a hact
          have hnx := hok.nx
          have HWL := Aside0.mk hok.wl
          have HNX := Aside0.mk hnx
          have HACT := Aside0.mk hact
          have za : wr.cell? ⟨p.tb, 2 + iN, none⟩ = some (.pointer (some ⟨ga iN, 0, none⟩)) := by rw [hk_cell hJ.team.team, team_a _ _ _ _ hi6, hact]; rfl
          have zb : wr.cell? ⟨p.tb, 8 + iN, none⟩ = some (.pointer (some ⟨gb iN, 0, none⟩)) := by rw [hk_cell hJ.team.team, team_b _ _ _ _ hi6, hact]; rfl
          have hab2 := hJ.team.acts iN a hi6 hact
          obtain ⟨D0, hD0⟩ : ∃ D0, D0 = dnext a.next := ⟨_, rfl⟩
          have zc : wr.cell? ⟨gb iN, 1, none⟩ = some (.int .i64 D0) := by rw [hk_cell hab2.2.act, hD0]; rfl
          have htl := hk_lt hJ.team.team
          have hgl := hk_lt hab2.2.act
          have hsc := step_case hJ.inv.ring (by omega) hok
          have HSC := Aside0.mk hsc
          clear hJ HJJ hact hok hab2 hsc
          by_cases h0 : a.next = 0
          · have hgt : decide (1 < D0) = false := by rw [hD0, h0]; rfl
            have hA1 : Aside0 ((stepA u.r a).next = 1) := ⟨by unfold stepA; rw [h0]; rfl⟩
            have hA0 : Aside0 (a.next = 0) := ⟨h0⟩
            obtain ⟨D1, hD1⟩ : ∃ D1, D1 = dnext (stepA u.r a).next := ⟨_, rfl⟩
            have HD1 := Aside0.mk hD1
            clear hD0 h0 hnx hD1
            go_wp2_with fail
            with_reducible refine (tstep_walk B p ga gb u.r u.act iN a _ W1.out.team hi6 HACT.out HWL.out HNX.out).mono ?_
            intro e w2 hp
            obtain ⟨he, ht2, hk2⟩ := tsOut hp
            subst he
            have T2 : Aside0 (TNO B w p w.heap.size u6 u.out (stepR u.r a) (upF u.act iN (some (stepA u.r a))) ga gb (nowCells u.now) w2) := ⟨run_mid W1.out ht2 hk2 hi6 HACT.out⟩
            have hb2 := ht2.acts iN (stepA u.r a) hi6 (upF_same _ _ _)
            have HB2 := Aside0.mk hb2
            have y2 : w2.cell? ⟨p.tb, 8 + iN, none⟩ = some (.pointer (some ⟨gb iN, 0, none⟩)) := by rw [hk_cell ht2.team, team_b _ _ _ _ hi6, upF_same]; rfl
            have y1 : w2.cell? ⟨p.tb, 2 + iN, none⟩ = some (.pointer (some ⟨ga iN, 0, none⟩)) := by rw [hk_cell ht2.team, team_a _ _ _ _ hi6, upF_same]; rfl
            have y3 : w2.cell? ⟨gb iN, 1, none⟩ = some (.int .i64 D1) := by rw [hk_cell hb2.2.act, HD1.out]; rfl
            clear hp ht2 hk2 hb2 za zb zc e0 e1 e2
            have hEn : ((stepA u.r a).next == 5) = false := by rw [hA1.out]; rfl
            go_wp2_with fail
            with_reducible refine (ended_walk (ga iN) p.g _ w2 HB2.out.1).mono ?_
            rintro e w3 ⟨rfl, rfl⟩
            rw [hEn]
            have HN := Aside0.mk (run_next W1.out T2.out hi6 HACT.out HSC.out (by rw [hA1.out]; decide) (d := u.now iN) (by rw [upF_self]) (by unfold oneD again; rw [hA0.out]; simp) (by omega))
            go_wp2_with fail
            go_roundw
            case rel => exact ⟨k + 1, by omega, by omega, by go_num, ⟨⟨_, _, by rw [runTo_step HU.out HPE.out hth.out HACT.out]; exact HN.out⟩⟩⟩
            case measure => simp [intOf]; omega
          · by_cases hz : (stepA u.r a).next = 0
            · have hA1 : Aside0 ((stepA u.r a).next = 0) := ⟨hz⟩
              have hgt : decide (1 < D0) = true := by rw [hD0]; unfold dnext; rw [if_neg (by omega)]; simp; omega
              have hnx2 : a.next = 1 ∨ a.next = 2 ∨ a.next = 3 := by omega
              have HNX2 := Aside0.mk hnx2
              obtain ⟨D1, hD1⟩ : ∃ D1, D1 = dnext (stepA u.r a).next := ⟨_, rfl⟩
              have HD1 := Aside0.mk hD1
              have hd1 : (D1 == 1) = true := by rw [hD1, hz]; rfl
              have hAg : Aside0 (again a (stepA u.r a) = true) := ⟨by unfold again; rw [hz]; simp; omega⟩
              have hrt := W1.out.ret iN
              obtain ⟨rt, hrt0⟩ : ∃ rt, rt = (u.now iN).ret := ⟨_, rfl⟩
              have HRT := Aside0.mk hrt0
              rw [← hrt0] at hrt
              clear hD0 h0 hnx hD1 hz hnx2 hrt0
              go_wp2_with fail
              with_reducible refine (tstep_walk B p ga gb u.r u.act iN a _ W1.out.team hi6 HACT.out HWL.out HNX.out).mono ?_
              intro e w2 hp
              obtain ⟨he, ht2, hk2⟩ := tsOut hp
              subst he
              have T2 : Aside0 (TNO B w p w.heap.size u6 u.out (stepR u.r a) (upF u.act iN (some (stepA u.r a))) ga gb (nowCells u.now) w2) := ⟨run_mid W1.out ht2 hk2 hi6 HACT.out⟩
              have hb2 := ht2.acts iN (stepA u.r a) hi6 (upF_same _ _ _)
              have HB2 := Aside0.mk hb2
              have y2 : w2.cell? ⟨p.tb, 8 + iN, none⟩ = some (.pointer (some ⟨gb iN, 0, none⟩)) := by rw [hk_cell ht2.team, team_b _ _ _ _ hi6, upF_same]; rfl
              have y1 : w2.cell? ⟨p.tb, 2 + iN, none⟩ = some (.pointer (some ⟨ga iN, 0, none⟩)) := by rw [hk_cell ht2.team, team_a _ _ _ _ hi6, upF_same]; rfl
              have y3 : w2.cell? ⟨gb iN, 1, none⟩ = some (.int .i64 D1) := by rw [hk_cell hb2.2.act, HD1.out]; rfl
              clear hp ht2 hk2 hb2 za zb zc e0 e1 e2
              have n5 : w2.cell? ⟨w.heap.size, iN * 6 + 5, none⟩ = some (.int .i64 rt) := (hk_cell T2.out.now (iN * 6 + 5)).trans (by rw [now_get u.now iN 5 hi6 (by omega), HRT.out]; rfl)
              have f5 := hk_frozen T2.out.now (iN * 6 + 5)
              have hg1 : w.heap.size ≠ p.tb := blk_ne T2.out.now T2.out.team.team (by decide)
              have T3 := Aside0.mk (T2.out.set (iN * 6 + 5) (.int .i64 (rt + 1)))
              have HB3 := Aside0.mk (T3.out.team.acts iN _ hi6 (upF_same _ _ _))
              have hEn : ((stepA u.r a).next == 5) = false := by rw [hA1.out]; rfl
              go_wp2_with fail
              with_reducible refine (ended_walk (ga iN) p.g _ _ HB3.out.1).mono ?_
              rintro e w3 ⟨rfl, rfl⟩
              rw [hEn]
              have HN := Aside0.mk (run_next W1.out T3.out hi6 HACT.out HSC.out (by rw [hA1.out]; decide) (d := { u.now iN with ret := rt + 1 }) (now_set u.now iN 5 hi6 (by omega) { u.now iN with ret := rt + 1 } (fun j h1 h2 => by rcases (show j = 0 ∨ j = 1 ∨ j = 2 ∨ j = 3 ∨ j = 4 from by omega) with e | e | e | e | e <;> subst e <;> rfl)) (by unfold oneD; rw [if_pos hAg.out, HRT.out]) (by omega))
              go_wp2_with fail
              go_roundw
              case rel => exact ⟨k + 1, by omega, by omega, by go_num, ⟨⟨_, _, by rw [runTo_step HU.out HPE.out hth.out HACT.out]; exact HN.out⟩⟩⟩
              case measure => simp [intOf]; omega
            · by_cases hf : (stepA u.r a).next = 5
              · have hA1 : Aside0 ((stepA u.r a).next = 5) := ⟨hf⟩
                have hAg : Aside0 (oneD a (stepA u.r a) (u.now iN) = u.now iN) := ⟨by unfold oneD again; simp [hz]⟩
                have hgt : decide (1 < D0) = true := by rw [hD0]; unfold dnext; rw [if_neg (by omega)]; simp; omega
                have hnx2 : a.next = 1 ∨ a.next = 2 ∨ a.next = 3 := by omega
                have HNX2 := Aside0.mk hnx2
                obtain ⟨D1, hD1⟩ : ∃ D1, D1 = dnext (stepA u.r a).next := ⟨_, rfl⟩
                have HD1 := Aside0.mk hD1
                have hd1 : (D1 == 1) = false := by rw [hD1, hf]; rfl
                have hEn : ((stepA u.r a).next == 5) = true := by rw [hf]; rfl
                have HEn := Aside0.mk hEn
                have hKD := W1.out.kind iN a HACT.out
                clear hD0 h0 hnx hD1 hz hnx2 hf hEn
                go_wp2_with fail
                with_reducible refine (tstep_walk B p ga gb u.r u.act iN a _ W1.out.team hi6 HACT.out HWL.out HNX.out).mono ?_
                intro e w2 hp
                obtain ⟨he, ht2, hk2⟩ := tsOut hp
                subst he
                have T2 : Aside0 (TNO B w p w.heap.size u6 u.out (stepR u.r a) (upF u.act iN (some (stepA u.r a))) ga gb (nowCells u.now) w2) := ⟨run_mid W1.out ht2 hk2 hi6 HACT.out⟩
                have hb2 := ht2.acts iN (stepA u.r a) hi6 (upF_same _ _ _)
                have HB2 := Aside0.mk hb2
                have y2 : w2.cell? ⟨p.tb, 8 + iN, none⟩ = some (.pointer (some ⟨gb iN, 0, none⟩)) := by rw [hk_cell ht2.team, team_b _ _ _ _ hi6, upF_same]; rfl
                have y1 : w2.cell? ⟨p.tb, 2 + iN, none⟩ = some (.pointer (some ⟨ga iN, 0, none⟩)) := by rw [hk_cell ht2.team, team_a _ _ _ _ hi6, upF_same]; rfl
                have y3 : w2.cell? ⟨gb iN, 1, none⟩ = some (.int .i64 D1) := by rw [hk_cell hb2.2.act, HD1.out]; rfl
                clear hp ht2 hk2 hb2 za zb zc e0 e1 e2
                go_wp2_with fail
                with_reducible refine (ended_walk (ga iN) p.g _ w2 HB2.out.1).mono ?_
                rintro e w3 ⟨rfl, rfl⟩
                rw [HEn.out]
                have hg1 : w.heap.size ≠ p.tb := blk_ne T2.out.now T2.out.team.team (by decide)
                have n3 := (hk_cell T2.out.now (iN * 6 + 3)).trans (now_get u.now iN 3 hi6 (by omega))
                have n4 := (hk_cell T2.out.now (iN * 6 + 4)).trans (now_get u.now iN 4 hi6 (by omega))
                have f3 := hk_frozen T2.out.now (iN * 6 + 3)
                have f4 := hk_frozen T2.out.now (iN * 6 + 4)
                obtain ⟨wl, hwl⟩ : ∃ wl, wl = (stepA u.r a).well := ⟨_, rfl⟩
                have HWl := Aside0.mk hwl
                have HOK : Aside0 (Calls Try.prog 15 #[.pointer (some ⟨ga iN, 0, none⟩)] w3.drew fun e w' => e = .returned (.bool wl) ∧ w' = w3.drew) := ⟨by rw [hwl]; exact ok_walk (ga iN) p.g _ _ ⟨HB2.out.1.act, HB2.out.1.ok⟩⟩
                clear hwl
                go_wp2_with fail
                go_region_held3 (fun w' => w'.cell? ⟨p.tb, 2 + iN, none⟩ = some (.pointer (some ⟨ga iN, 0, none⟩))) (first | go_keep) (first | (go_at_call 15; (with_reducible refine HOK.out.mono ?_); rintro e w4 ⟨rfl, rfl⟩))
                have HA1 := hA1
                have T4 : Aside0 (TNO B w p w.heap.size u6 u.out (stepR u.r a) (upF u.act iN (some (stepA u.r a))) ga gb (nowCells (upF u.now iN { u.now iN with fin := k, well := wl })) (((w3.setCell ⟨w.heap.size, iN * 6 + 3, none⟩ (.int .i64 k)).setCell ⟨w.heap.size, iN * 6 + 4, none⟩ (.bool wl)).drew)) := ⟨by
                  have := ((T2.out.set (iN * 6 + 3) (.int .i64 k)).set (iN * 6 + 4) (.bool wl)).drew
                  rw [now_fin u.now iN hi6 k wl] at this
                  exact this⟩
                have HB4 := Aside0.mk (T4.out.team.acts iN _ hi6 (upF_same _ _ _))
                generalize ((w3.setCell ⟨w.heap.size, iN * 6 + 3, none⟩ (.int .i64 k)).setCell ⟨w.heap.size, iN * 6 + 4, none⟩ (.bool wl)).drew = W4 at T4 HB4 ⊢
                obtain ⟨K, hK⟩ : ∃ K, K = (u.now iN).kind := ⟨_, rfl⟩
                have hKa : K = kindOf a := hK.trans hKD
                have n0 : W4.cell? ⟨w.heap.size, iN * 6, none⟩ = some (.int .i64 K) := (hk_cell T4.out.now (iN * 6)).trans ((now_get _ iN 0 hi6 (by omega)).trans (by rw [upF_same, hK]; rfl))
                have n1 : W4.cell? ⟨w.heap.size, iN * 6 + 1, none⟩ = some (.int .u64 (u.now iN).v) := (hk_cell T4.out.now (iN * 6 + 1)).trans ((now_get _ iN 1 hi6 (by omega)).trans (by rw [upF_same]; rfl))
                have f1 := hk_frozen T4.out.now (iN * 6 + 1)
                have x3 : W4.cell? ⟨p.tb, 2 + iN, none⟩ = some (.pointer (some ⟨ga iN, 0, none⟩)) := by rw [hk_cell T4.out.team.team, team_a _ _ _ _ hi6, upF_same]; rfl
                have HKa := Aside0.mk hKa
                have HKn := Aside0.mk hK
                obtain ⟨dd, hdd⟩ : ∃ dd, dd = endD k (stepA u.r a) (u.now iN) := ⟨_, rfl⟩
                have HDD : Aside0 (dd = endD k (stepA u.r a) (oneD a (stepA u.r a) (u.now iN))) := ⟨by rw [hAg.out]; exact hdd⟩
                have HDD0 := Aside0.mk hdd
                clear n3 n4 f3 f4 hd1 hgt y1 y2 y3 hK hKa hdd hKD
                cases hpp : a.pops with
                | false =>
                  have HPP := Aside0.mk hpp
                  have hk2 : (K == 2) = false := by rw [HKa.out]; unfold kindOf; rw [hpp]; rfl
                  have T5 : Aside0 (TNO B w p w.heap.size u6 u.out (stepR u.r a) (upF u.act iN (some (stepA u.r a))) ga gb (nowCells (upF u.now iN dd)) W4) := ⟨by
                    have := T4.out
                    rw [now_same (f := u.now) (i := iN) (d := dd) (d' := { u.now iN with fin := k, well := wl }) (by rw [HDD0.out]; unfold endD doneCells; rw [if_neg (by rw [← HKn.out, HKa.out]; unfold kindOf; rw [hpp]; decide), HWl.out])]
                    exact this⟩
                  have hdk : K = dd.kind := by rw [HDD0.out]; exact HKn.out
                  obtain ⟨V5, hV5⟩ : ∃ V5, V5 = dd.v := ⟨_, rfl⟩
                  have HDV := Aside0.mk hV5
                  have HDK := Aside0.mk hdk
                  clear hpp hV5 hdk
                  go_upto_region 20 with fail
                  generalize W4 = W5 at T5 ⊢
                  clear n0 n1 f1 x3 T4 HB4
                  have W1k := W1.out.len
                  have hrow := T5.out.out
                  have m0 : W5.cell? ⟨w.heap.size, iN * 6, none⟩ = some (.int .i64 K) := (hk_cell T5.out.now (iN * 6)).trans ((now_get _ iN 0 hi6 (by omega)).trans (by rw [upF_same, HDK.out]; rfl))
                  have m1 : W5.cell? ⟨w.heap.size, iN * 6 + 1, none⟩ = some (.int .u64 V5) := (hk_cell T5.out.now (iN * 6 + 1)).trans ((now_get _ iN 1 hi6 (by omega)).trans (by rw [upF_same, HDV.out]; rfl))
                  have m2 : W5.cell? ⟨w.heap.size, iN * 6 + 2, none⟩ = some (.int .i64 dd.beg) := (hk_cell T5.out.now (iN * 6 + 2)).trans ((now_get _ iN 2 hi6 (by omega)).trans (by rw [upF_same]; rfl))
                  have m3 : W5.cell? ⟨w.heap.size, iN * 6 + 3, none⟩ = some (.int .i64 dd.fin) := (hk_cell T5.out.now (iN * 6 + 3)).trans ((now_get _ iN 3 hi6 (by omega)).trans (by rw [upF_same]; rfl))
                  have m4 : W5.cell? ⟨w.heap.size, iN * 6 + 4, none⟩ = some (.bool dd.well) := (hk_cell T5.out.now (iN * 6 + 4)).trans ((now_get _ iN 4 hi6 (by omega)).trans (by rw [upF_same]; rfl))
                  have m5 : W5.cell? ⟨w.heap.size, iN * 6 + 5, none⟩ = some (.int .i64 dd.ret) := (hk_cell T5.out.now (iN * 6 + 5)).trans ((now_get _ iN 5 hi6 (by omega)).trans (by rw [upF_same]; rfl))
                  have hbs : w.heap.size ≤ W5.heap.size := Nat.le_of_lt (hk_lt T5.out.now)
                  have HDL : Aside0 (doneCells dd = [.int .i64 K, .int .u64 V5, .int .i64 dd.beg, .int .i64 dd.fin, .bool dd.well, .int .i64 dd.ret]) := ⟨by rw [HDK.out, HDV.out]; rfl⟩
                  have HROW := Aside0.mk hrow
                  have hlb : (u.out.length + 1) * 48 ≤ 140737488355328 := by omega
                  clear hrow
                  go_wp2_with (at_builtin; refine print_append_cells (w0 := W5) w.heap.size (by rfl) (.tmp 124) (.tmp 128) 41 57 (.agg #[.int .i64 0, .int .u64 0, .int .i64 0, .int .i64 0, .bool false, .int .i64 0]) 6 48 rfl Try.underlying41 info57 rfl (by omega) (by omega) u6 u.out.length (outCells u.out) [.int .i64 K, .int .u64 V5, .int .i64 dd.beg, .int .i64 dd.fin, .bool dd.well, .int .i64 dd.ret] rfl rfl rfl (by simp [Value.oneCell']) HROW.out (Below.refl _ _) hbs hlb ?_; intro v1 W6 hown hbel hg _)
                  have T6 := Aside0.mk (T5.out.app (d := dd) (by rw [HDL.out]; exact hown) hbel hg)
                  have x1 : W6.cell? ⟨p.tb, 2 + iN, none⟩ = some (.pointer (some ⟨ga iN, 0, none⟩)) := by rw [hk_cell T6.out.team.team, team_a _ _ _ _ hi6, upF_same]; rfl
                  have x2 : W6.cell? ⟨p.tb, 8 + iN, none⟩ = some (.pointer (some ⟨gb iN, 0, none⟩)) := by rw [hk_cell T6.out.team.team, team_b _ _ _ _ hi6, upF_same]; rfl
                  have g1 := hk_frozen T6.out.team.team (2 + iN)
                  have g2 := hk_frozen T6.out.team.team (8 + iN)
                  clear hown hbel hg m0 m1 m2 m3 m4 m5
                  go_wp2_with fail
                  go_region
                  have HN := Aside0.mk (run_end W1.out T6.out hi6 HACT.out HSC.out HA1.out HDD.out (by omega))
                  go_wp2_with fail
                  go_roundw
                  case rel => exact ⟨k + 1, by omega, by omega, by go_num, ⟨⟨_, _, by rw [runTo_step HU.out HPE.out hth.out HACT.out]; exact HN.out⟩⟩⟩
                  case measure => simp [intOf]; omega
                | true =>
                  have HPP := Aside0.mk hpp
                  have hk2 : (K == 2) = true := by rw [HKa.out]; unfold kindOf; rw [hpp]; rfl
                  obtain ⟨V5, hV5⟩ : ∃ V5, V5 = valueOf (stepA u.r a) := ⟨_, rfl⟩
                  have HVW : Aside0 (Calls Try.prog 16 #[.pointer (some ⟨ga iN, 0, none⟩)] W4 fun e w' => e = .returned (.int .u64 V5) ∧ w' = W4) := ⟨by rw [hV5]; exact value_walk (ga iN) p.g _ _ HB4.out.1⟩
                  have T5 : Aside0 (TNO B w p w.heap.size u6 u.out (stepR u.r a) (upF u.act iN (some (stepA u.r a))) ga gb (nowCells (upF u.now iN dd)) (W4.setCell ⟨w.heap.size, iN * 6 + 1, none⟩ (.int .u64 V5))) := ⟨by
                    have := T4.out.set (iN * 6 + 1) (.int .u64 V5)
                    have e := now_set (upF u.now iN { u.now iN with fin := k, well := wl }) iN 1 hi6 (by omega) { u.now iN with fin := k, well := wl, v := V5 } (fun j h1 h2 => by rw [upF_same]; rcases (show j = 0 ∨ j = 2 ∨ j = 3 ∨ j = 4 ∨ j = 5 from by omega) with e | e | e | e | e <;> subst e <;> rfl)
                    rw [upF_upF] at e
                    rw [show ((nowCells (upF u.now iN { u.now iN with fin := k, well := wl })).setIfInBounds (iN * 6 + 1) (.int .u64 V5)) = _ from e] at this
                    rw [now_same (f := u.now) (i := iN) (d := dd) (d' := { u.now iN with fin := k, well := wl, v := V5 }) (by rw [HDD0.out]; unfold endD doneCells; rw [if_pos (by rw [← HKn.out, HKa.out]; unfold kindOf; rw [hpp]; rfl), HWl.out, hV5])]
                    exact this⟩
                  have hdk : K = dd.kind := by rw [HDD0.out]; exact HKn.out
                  have hdv : V5 = dd.v := by rw [HDD0.out, hV5]; unfold endD; simp only; rw [if_pos (by rw [← HKn.out, HKa.out]; unfold kindOf; rw [hpp]; rfl)]
                  have HDV := Aside0.mk hdv
                  have HDK := Aside0.mk hdk
                  clear hpp hV5 hdk hdv
                  go_wp2_with fail
                  with_reducible refine HVW.out.mono ?_
                  rintro e w5 ⟨rfl, rfl⟩
                  go_upto_region 20 with fail
                  generalize w5.setCell ⟨w.heap.size, iN * 6 + 1, none⟩ (.int .u64 V5) = W5 at T5 ⊢
                  clear n0 n1 f1 x3 T4 HB4 HVW
                  have W1k := W1.out.len
                  have hrow := T5.out.out
                  have m0 : W5.cell? ⟨w.heap.size, iN * 6, none⟩ = some (.int .i64 K) := (hk_cell T5.out.now (iN * 6)).trans ((now_get _ iN 0 hi6 (by omega)).trans (by rw [upF_same, HDK.out]; rfl))
                  have m1 : W5.cell? ⟨w.heap.size, iN * 6 + 1, none⟩ = some (.int .u64 V5) := (hk_cell T5.out.now (iN * 6 + 1)).trans ((now_get _ iN 1 hi6 (by omega)).trans (by rw [upF_same, HDV.out]; rfl))
                  have m2 : W5.cell? ⟨w.heap.size, iN * 6 + 2, none⟩ = some (.int .i64 dd.beg) := (hk_cell T5.out.now (iN * 6 + 2)).trans ((now_get _ iN 2 hi6 (by omega)).trans (by rw [upF_same]; rfl))
                  have m3 : W5.cell? ⟨w.heap.size, iN * 6 + 3, none⟩ = some (.int .i64 dd.fin) := (hk_cell T5.out.now (iN * 6 + 3)).trans ((now_get _ iN 3 hi6 (by omega)).trans (by rw [upF_same]; rfl))
                  have m4 : W5.cell? ⟨w.heap.size, iN * 6 + 4, none⟩ = some (.bool dd.well) := (hk_cell T5.out.now (iN * 6 + 4)).trans ((now_get _ iN 4 hi6 (by omega)).trans (by rw [upF_same]; rfl))
                  have m5 : W5.cell? ⟨w.heap.size, iN * 6 + 5, none⟩ = some (.int .i64 dd.ret) := (hk_cell T5.out.now (iN * 6 + 5)).trans ((now_get _ iN 5 hi6 (by omega)).trans (by rw [upF_same]; rfl))
                  have hbs : w.heap.size ≤ W5.heap.size := Nat.le_of_lt (hk_lt T5.out.now)
                  have HDL : Aside0 (doneCells dd = [.int .i64 K, .int .u64 V5, .int .i64 dd.beg, .int .i64 dd.fin, .bool dd.well, .int .i64 dd.ret]) := ⟨by rw [HDK.out, HDV.out]; rfl⟩
                  have HROW := Aside0.mk hrow
                  have hlb : (u.out.length + 1) * 48 ≤ 140737488355328 := by omega
                  clear hrow
                  go_wp2_with (at_builtin; refine print_append_cells (w0 := W5) w.heap.size (by rfl) (.tmp 124) (.tmp 128) 41 57 (.agg #[.int .i64 0, .int .u64 0, .int .i64 0, .int .i64 0, .bool false, .int .i64 0]) 6 48 rfl Try.underlying41 info57 rfl (by omega) (by omega) u6 u.out.length (outCells u.out) [.int .i64 K, .int .u64 V5, .int .i64 dd.beg, .int .i64 dd.fin, .bool dd.well, .int .i64 dd.ret] rfl rfl rfl (by simp [Value.oneCell']) HROW.out (Below.refl _ _) hbs hlb ?_; intro v1 W6 hown hbel hg _)
                  have T6 := Aside0.mk (T5.out.app (d := dd) (by rw [HDL.out]; exact hown) hbel hg)
                  have x1 : W6.cell? ⟨p.tb, 2 + iN, none⟩ = some (.pointer (some ⟨ga iN, 0, none⟩)) := by rw [hk_cell T6.out.team.team, team_a _ _ _ _ hi6, upF_same]; rfl
                  have x2 : W6.cell? ⟨p.tb, 8 + iN, none⟩ = some (.pointer (some ⟨gb iN, 0, none⟩)) := by rw [hk_cell T6.out.team.team, team_b _ _ _ _ hi6, upF_same]; rfl
                  have g1 := hk_frozen T6.out.team.team (2 + iN)
                  have g2 := hk_frozen T6.out.team.team (8 + iN)
                  clear hown hbel hg m0 m1 m2 m3 m4 m5
                  go_wp2_with fail
                  go_region
                  have HN := Aside0.mk (run_end W1.out T6.out hi6 HACT.out HSC.out HA1.out HDD.out (by omega))
                  go_wp2_with fail
                  go_roundw
                  case rel => exact ⟨k + 1, by omega, by omega, by go_num, ⟨⟨_, _, by rw [runTo_step HU.out HPE.out hth.out HACT.out]; exact HN.out⟩⟩⟩
                  case measure => simp [intOf]; omega
              · have hA1 : Aside0 ((stepA u.r a).next ≠ 5) := ⟨hf⟩
                have hAg : Aside0 (again a (stepA u.r a) = false) := ⟨by unfold again; simp [hz]⟩
                have hgt : decide (1 < D0) = true := by rw [hD0]; unfold dnext; rw [if_neg (by omega)]; simp; omega
                have hnx2 : a.next = 1 ∨ a.next = 2 ∨ a.next = 3 := by omega
                have HNX2 := Aside0.mk hnx2
                obtain ⟨D1, hD1⟩ : ∃ D1, D1 = dnext (stepA u.r a).next := ⟨_, rfl⟩
                have HD1 := Aside0.mk hD1
                have hd1 : (D1 == 1) = false := by rw [hD1]; unfold dnext; rw [if_neg hf]; simp; omega
                clear hD0 h0 hnx hD1 hz hnx2 hf
                go_wp2_with fail
                with_reducible refine (tstep_walk B p ga gb u.r u.act iN a _ W1.out.team hi6 HACT.out HWL.out HNX.out).mono ?_
                intro e w2 hp
                obtain ⟨he, ht2, hk2⟩ := tsOut hp
                subst he
                have T2 : Aside0 (TNO B w p w.heap.size u6 u.out (stepR u.r a) (upF u.act iN (some (stepA u.r a))) ga gb (nowCells u.now) w2) := ⟨run_mid W1.out ht2 hk2 hi6 HACT.out⟩
                have hb2 := ht2.acts iN (stepA u.r a) hi6 (upF_same _ _ _)
                have HB2 := Aside0.mk hb2
                have y2 : w2.cell? ⟨p.tb, 8 + iN, none⟩ = some (.pointer (some ⟨gb iN, 0, none⟩)) := by rw [hk_cell ht2.team, team_b _ _ _ _ hi6, upF_same]; rfl
                have y1 : w2.cell? ⟨p.tb, 2 + iN, none⟩ = some (.pointer (some ⟨ga iN, 0, none⟩)) := by rw [hk_cell ht2.team, team_a _ _ _ _ hi6, upF_same]; rfl
                have y3 : w2.cell? ⟨gb iN, 1, none⟩ = some (.int .i64 D1) := by rw [hk_cell hb2.2.act, HD1.out]; rfl
                clear hp ht2 hk2 hb2 za zb zc e0 e1 e2
                have hEn : ((stepA u.r a).next == 5) = false := by simpa using hA1.out
                go_wp2_with fail
                with_reducible refine (ended_walk (ga iN) p.g _ w2 HB2.out.1).mono ?_
                rintro e w3 ⟨rfl, rfl⟩
                rw [hEn]
                have HN := Aside0.mk (run_next W1.out T2.out hi6 HACT.out HSC.out (by exact hA1.out) (d := u.now iN) (by rw [upF_self]) (by unfold oneD; rw [hAg.out]; simp) (by omega))
                go_wp2_with fail
                go_roundw
                case rel => exact ⟨k + 1, by omega, by omega, by go_num, ⟨⟨_, _, by rw [runTo_step HU.out HPE.out hth.out HACT.out]; exact HN.out⟩⟩⟩
                case measure => simp [intOf]; omega
      · have WL := Aside0.mk (run_last (HJJ.out.alloc (.cells #[.int .u8 q.t, .int .u8 q.d, .int .u64 q.v] 49)) HLEN.out hk hk2 (.inr h200))
        have hd2 : decide (200 ≤ (k : Int)) = true := by simp; omega
        clear hJ HJJ h200
        go_wp2_with fail
        go_ret2
        exact WL.out
    · have WL := Aside0.mk (run_last hJ HLEN.out hk hk2 (.inl hlt))
      clear hJ HJJ
      go_wp2_with fail
      go_ret2
      exact WL.out
end Go.Proofs.Ytepbggoeajihbaa.Ring
