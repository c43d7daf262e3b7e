/- The team: rest. -/
import Derived.Test.YtepbggoeajihbaaRn
import Derived.Test.YtepbggoeajihbaaPk
set_option linter.unusedVariables false
set_option linter.unusedSimpArgs false
namespace Go.Proofs.Ytepbggoeajihbaa.Ring
open Go.RowKit Go.Proofs.YtepbggoeajihbaaW.PrintWords Go.Proofs.YtepbggoeajihbaaW.PrintLast Go.Proofs.YtepbggoeajihbaaW.PrintMore Go.Proofs.YtepbggoeajihbaaHk
open Go.Proofs.YtepbggoeajihbaaRx
attribute [local go_sem ↓] Go.wp_at_zero Go.wp_at_succ

/-- A team, and the two rows that rest fills. -/
structure RsInv (B : Nat) (w : World) (p : TW) (ga gb : Nat → Nat) (v5 v6 : Value) (r : RS) (act : Nat → Option AS) (xs ys : List Int) (wr : World) : Prop where
  team : IsTeam B wr p ga gb r act
  r5 : wr.ownsRow w.heap.size 32 1 v5 xs.length (nums .u64 xs)
  r6 : wr.ownsRow w.heap.size 32 1 v6 ys.length (nums .u64 ys)
  apart : v5.ownBlock = none ∨ v5.ownBlock ≠ v6.ownBlock
  below : Below B w wr
  bww : B ≤ w.heap.size
  nv : p.d.nb < w.heap.size ∧ p.d.vb < w.heap.size
  wsz : w.heap.size ≤ wr.heap.size
  far57 : ∀ (b : Nat) (cs : Array Value), w.heap[b]? = some (.cells cs 57) → wr.heap[b]? = some (.cells cs 57)
/-- At the head of rest's inner loop: thread i has done j steps. -/
structure RsAt (B : Nat) (w : World) (p : TW) (ga gb : Nat → Nat) (u0 : US) (i j : Nat) (l : List DS) (v5 v6 : Value) (wr : World) : Prop where
  out : (goOn i j (restTo i u0)).out = u0.out ++ l
  rs : RsInv B w p ga gb v5 v6 (goOn i j (restTo i u0)).r (goOn i j (restTo i u0)).act (popsOf l) (pushesOf l) wr
  len : l.length ≤ 21 * i + j
def RestPost (B : Nat) (w : World) (p : TW) (u : US) (e : Ending) (w' : World) : Prop :=
  ∃ v5 v6 ga gb l, e = .returned (.tuple #[v5, v6, .bool true]) ∧ (rest u).out = u.out ++ l ∧ RsInv B w p ga gb v5 v6 (rest u).r (rest u).act (popsOf l) (pushesOf l) w'
theorem pops_len (l : List DS) : (popsOf l).length ≤ l.length := by unfold popsOf; rw [List.length_map]; exact List.length_filter_le _ _
theorem pushes_len (l : List DS) : (pushesOf l).length ≤ l.length := by unfold pushesOf; rw [List.length_map]; exact List.length_filter_le _ _
theorem pops_end {l : List DS} {d : DS} {x : Int} (hw : d.well = true) (hk : d.kind = 2) (hv : d.v = x) : popsOf l ++ [x] = popsOf (l ++ [d]) ∧ pushesOf l = pushesOf (l ++ [d]) := by
  rw [popsOf_snoc, pushesOf_snoc, hw, hk, hv]; simp
theorem push_end {l : List DS} {d : DS} {x : Int} (hw : d.well = true) (hk : d.kind ≠ 2) (hv : d.v = x) : popsOf l = popsOf (l ++ [d]) ∧ pushesOf l ++ [x] = pushesOf (l ++ [d]) := by
  have h : (d.kind == 2) = false := by simpa using hk
  rw [popsOf_snoc, pushesOf_snoc, hw, hv, h]; simp
theorem rs_row_far {B : Nat} {w wr : World} {p : TW} {ga gb : Nat → Nat} {v : Value} {r : RS} {act : Nat → Option AS} {i n : Nat} {a : AS} {xs : List Value} (ht : IsTeam B wr p ga gb r act) (hi : i < 6) (ha : act i = some a) (hv : wr.ownsRow w.heap.size 32 1 v n xs) (nv : p.d.nb < w.heap.size ∧ p.d.vb < w.heap.size) (k : Nat) (hk : v.ownBlock = some k) : ¬ SSet p ga gb i k := by
  have hA := ht.acts i a hi ha
  have hl := hv.lt k hk
  rintro (e | e | e | e | e | e | e)
  · exact rown_ne hv hA.1.act (by decide) (by rw [hk, e])
  · exact rown_ne hv ht.ring.ring (by decide) (by rw [hk, e])
  · exact rown_ne hv ht.ring.slots (by decide) (by rw [hk, e])
  · exact rown_ne hv hA.2.act (by decide) (by rw [hk, e])
  · exact rown_ne hv ht.doc.ring (by decide) (by rw [hk, e])
  · omega
  · omega
theorem rs_mid {B : Nat} {w wr w2 : World} {p : TW} {ga gb : Nat → Nat} {v5 v6 : Value} {r r' : RS} {act act' : Nat → Option AS} {xs ys : List Int} {i : Nat} {a : AS} (h : RsInv B w p ga gb v5 v6 r act xs ys wr) (hi : i < 6) (ha : act i = some a)
    (ht : IsTeam B w2 p ga gb r' act') (hk : Keep (SSet p ga gb i) wr w2) : RsInv B w p ga gb v5 v6 r' act' xs ys w2 := by
  have nS : ∀ (b : Nat) (cs : Array Value), wr.heap[b]? = some (.cells cs 57) → ¬ SSet p ga gb i b := by
    have hA := h.team.acts i a hi ha
    obtain ⟨c1, hn, _⟩ := h.team.doc.num
    obtain ⟨c2, hv, _⟩ := h.team.doc.val
    rintro b cs hb (e | e | e | e | e | e | e)
    · exact blk_ne hb hA.1.act (by decide) e
    · exact blk_ne hb h.team.ring.ring (by decide) e
    · exact blk_ne hb h.team.ring.slots (by decide) e
    · exact blk_ne hb hA.2.act (by decide) e
    · exact blk_ne hb h.team.doc.ring (by decide) e
    · exact blk_ne hb hn (by decide) e
    · exact blk_ne hb hv (by decide) e
  refine ⟨ht, rown_block h.r5 (fun k hk1 hl => hk.block k hl (rs_row_far h.team hi ha h.r5 h.nv k hk1)), rown_block h.r6 (fun k hk1 hl => hk.block k hl (rs_row_far h.team hi ha h.r6 h.nv k hk1)), h.apart, h.below.trans (hk.below h.team.bw (fun j hj hS => ?_)), h.bww, h.nv, Nat.le_trans h.wsz hk.size, fun b cs hb => hk.blk (h.far57 b cs hb) (nS b cs (h.far57 b cs hb))⟩
  have hge := h.team.ge
  have hga := h.team.gea i a hi ha
  rcases hS with e | e | e | e | e | e | e <;> omega
/-- What grew a row of type 32 that lies behind the team. -/
theorem team_grown {B : Nat} {w W w6 : World} {p : TW} {ga gb : Nat → Nat} {v : Value} {r : RS} {act : Nat → Option AS} {n : Nat} {xs : List Value} (ht : IsTeam B W p ga gb r act) (hv : W.ownsRow w.heap.size 32 1 v n xs) (nv : p.d.nb < w.heap.size ∧ p.d.vb < w.heap.size) (hg : W.grownBy w6 v.ownBlock) : IsTeam B w6 p ga gb r act := by
  have hfar : ∀ {b : Nat} {cb : Array Value} {t : TypeId}, W.heap[b]? = some (.cells cb t) → 32 ≠ t → w6.heap[b]? = some (.cells cb t) := fun h1 h2 => (hg.block _ (hk_lt h1) (fun e => rown_ne hv h1 h2 e.symm)).trans h1
  have hlow : ∀ {b : Nat} {o : Obj}, W.heap[b]? = some o → b < w.heap.size → w6.heap[b]? = some o := fun h1 h2 => (hg.block _ (hk_lt h1) (fun e => by have := (hv.lt _ e.symm).1; omega)).trans h1
  obtain ⟨c1, h1, h2⟩ := ht.doc.num
  obtain ⟨c2, h3, h4⟩ := ht.doc.val
  exact ⟨hfar ht.team (by decide), ⟨hfar ht.ring.ring (by decide), hfar ht.ring.slots (by decide), ht.ring.ne, ht.ring.ok⟩, ⟨hfar ht.doc.ring (by decide), ⟨c1, hlow h1 nv.1, h2⟩, ⟨c2, hlow h3 nv.2, h4⟩, ht.doc.ne⟩,
    fun i a hi ha => ⟨⟨hfar (ht.acts i a hi ha).1.act (by decide), (ht.acts i a hi ha).1.ok⟩, ⟨hfar (ht.acts i a hi ha).2.act (by decide)⟩⟩, ht.da, ht.db, ht.ge, ht.gea, Nat.le_trans ht.bw hg.size⟩
theorem below_rows {B : Nat} {w W w6 : World} {v : Value} {n : Nat} {xs : List Value} (hB : B ≤ w.heap.size) (hBW : B ≤ W.heap.size) (hv : W.ownsRow w.heap.size 32 1 v n xs) (hg : W.grownBy w6 v.ownBlock) : Below B W w6 :=
  ⟨hg.os, hg.tape, hg.output, hg.size, fun i hi => hg.block i (Nat.lt_of_lt_of_le hi hBW) (fun e => by have := (hv.lt i e.symm).1; omega)⟩
theorem rs_app5 {B : Nat} {w W w6 : World} {p : TW} {ga gb : Nat → Nat} {v5 v6 v1 : Value} {r : RS} {act : Nat → Option AS} {xs ys : List Int} {x : Int} (h : RsInv B w p ga gb v5 v6 r act xs ys W)
    (hown : w6.ownsRow w.heap.size 32 1 v1 (xs ++ [x]).length (nums .u64 (xs ++ [x]))) (hg : W.grownBy w6 v5.ownBlock) (hat : v1.ownBlock = v5.ownBlock ∨ ∃ b, v1.ownBlock = some b ∧ W.heap.size ≤ b) : RsInv B w p ga gb v1 v6 r act (xs ++ [x]) ys w6 := by
  have hr6 : w6.ownsRow w.heap.size 32 1 v6 ys.length (nums .u64 ys) := rown_block h.r6 (fun k hk hl => hg.block k hl (fun e => by
    rcases h.apart with e2 | e2
    · rw [e2] at e; cases e
    · exact e2 (e.symm.trans hk.symm)))
  refine ⟨team_grown h.team h.r5 h.nv hg, hown, hr6, ?_, h.below.trans (below_rows h.bww h.team.bw h.r5 hg), h.bww, h.nv, Nat.le_trans h.wsz hg.size, fun b cs hb => (hg.block b (hk_lt (h.far57 b cs hb)) (fun e => rown_ne h.r5 (h.far57 b cs hb) (by decide) e.symm)).trans (h.far57 b cs hb)⟩
  rcases hat with e | ⟨b, e, hb⟩
  · rw [e]; exact h.apart
  · right; rw [e]; intro e2
    have := (h.r6.lt b e2.symm).2; omega
theorem rs_app6 {B : Nat} {w W w6 : World} {p : TW} {ga gb : Nat → Nat} {v5 v6 v1 : Value} {r : RS} {act : Nat → Option AS} {xs ys : List Int} {x : Int} (h : RsInv B w p ga gb v5 v6 r act xs ys W)
    (hown : w6.ownsRow w.heap.size 32 1 v1 (ys ++ [x]).length (nums .u64 (ys ++ [x]))) (hg : W.grownBy w6 v6.ownBlock) (hat : v1.ownBlock = v6.ownBlock ∨ ∃ b, v1.ownBlock = some b ∧ W.heap.size ≤ b) : RsInv B w p ga gb v5 v1 r act xs (ys ++ [x]) w6 := by
  have hap : v6.ownBlock = none ∨ v6.ownBlock ≠ v5.ownBlock := by
    rcases h.apart with e | e
    · rw [e]; cases v6.ownBlock <;> simp
    · exact .inr (Ne.symm e)
  have hr5 : w6.ownsRow w.heap.size 32 1 v5 xs.length (nums .u64 xs) := rown_block h.r5 (fun k hk hl => hg.block k hl (fun e => by
    rcases hap with e2 | e2
    · rw [e2] at e; cases e
    · exact e2 (e.symm.trans hk.symm)))
  refine ⟨team_grown h.team h.r6 h.nv hg, hr5, hown, ?_, h.below.trans (below_rows h.bww h.team.bw h.r6 hg), h.bww, h.nv, Nat.le_trans h.wsz hg.size, fun b cs hb => (hg.block b (hk_lt (h.far57 b cs hb)) (fun e => rown_ne h.r6 (h.far57 b cs hb) (by decide) e.symm)).trans (h.far57 b cs hb)⟩
  rcases hat with e | ⟨b, e, hb⟩
  · rw [e]; exact h.apart
  · rcases h.apart with e2 | e2
    · exact .inl e2
    · right; rw [e]; intro e3
      have := (h.r5.lt b e3).2; omega
theorem rs_nil {B : Nat} {w W6 : World} {p : TW} {ga gb : Nat → Nat} {v5 v6 : Value} {r : RS} {act : Nat → Option AS} {xs ys : List Int} {iN : Nat} {a : AS} (t : RsInv B w p ga gb v5 v6 r (upF act iN (some a)) xs ys W6) (hi : iN < 6) :
    RsInv B w p ga gb v5 v6 r (upF act iN none) xs ys (((W6.setCell ⟨p.tb, 2 + iN, none⟩ (.pointer none)).setCell ⟨p.tb, 8 + iN, none⟩ (.pointer none)).drew) := by
  have hfar : ∀ {b : Nat} {cb : Array Value} {t' : TypeId}, W6.heap[b]? = some (.cells cb t') → t' ≠ 55 → (((W6.setCell ⟨p.tb, 2 + iN, none⟩ (.pointer none)).setCell ⟨p.tb, 8 + iN, none⟩ (.pointer none)).drew).heap[b]? = some (.cells cb t') :=
    fun h1 h2 => hk_far (p := ⟨p.tb, 8 + iN, none⟩) (hk_far (p := ⟨p.tb, 2 + iN, none⟩) h1 (blk_ne h1 t.team.team h2) _) (blk_ne h1 t.team.team h2) _
  have hact : ∀ j b, upF act iN none j = some b → j ≠ iN ∧ act j = some b := by
    intro j b hb
    by_cases e : j = iN
    · subst e; rw [upF_same] at hb; cases hb
    · rw [upF_ne _ _ _ e] at hb; exact ⟨e, hb⟩
  have hact2 : ∀ j b, upF act iN none j = some b → upF act iN (some a) j = some b := fun j b hb => by rw [upF_ne _ _ _ (hact j b hb).1]; exact (hact j b hb).2
  have hbel : Below B W6 (((W6.setCell ⟨p.tb, 2 + iN, none⟩ (.pointer none)).setCell ⟨p.tb, 8 + iN, none⟩ (.pointer none)).drew) := by
    have := (((Below.refl B W6).setCell (p := ⟨p.tb, 2 + iN, none⟩) t.team.ge.1 (.pointer none)).setCell (p := ⟨p.tb, 8 + iN, none⟩) t.team.ge.1 (.pointer none))
    exact ⟨this.os, this.tape, this.output, this.size, this.block⟩
  have hga : ∀ (g : Nat → Nat), updV (fun j => actPtr (upF act iN (some a) j) (g j)) iN (.pointer none) = fun j => actPtr (upF act iN none j) (g j) := by
    intro g; funext j; unfold updV
    by_cases e : j = iN
    · subst e; rw [upF_same]; simp [actPtr]
    · rw [upF_ne _ _ _ e, if_neg e]; show actPtr (upF act iN (some a) j) (g j) = _; rw [upF_ne _ _ _ e]
  have hrow : ∀ {v : Value} {n : Nat} {zs : List Value}, W6.ownsRow w.heap.size 32 1 v n zs → (((W6.setCell ⟨p.tb, 2 + iN, none⟩ (.pointer none)).setCell ⟨p.tb, 8 + iN, none⟩ (.pointer none)).drew).ownsRow w.heap.size 32 1 v n zs := by
    intro v n zs hv
    refine rown_block hv (fun j hj hl => ?_)
    have hne : j ≠ p.tb := fun e => rown_ne hv t.team.team (by decide) (by rw [hj, e])
    exact (Below.heap_setCell _ ⟨p.tb, 8 + iN, none⟩ (.pointer none) j hne).trans (Below.heap_setCell W6 ⟨p.tb, 2 + iN, none⟩ (.pointer none) j hne)
  obtain ⟨c1, hn1, hn2⟩ := t.team.doc.num
  obtain ⟨c2, hv1, hv2⟩ := t.team.doc.val
  refine ⟨?_, hrow t.r5, hrow t.r6, t.apart, t.below.trans hbel, t.bww, t.nv, Nat.le_trans t.wsz hbel.size, fun b cs hb => hfar (t.far57 b cs hb) (by decide)⟩
  refine ⟨?_, ⟨hfar t.team.ring.ring (by decide), hfar t.team.ring.slots (by decide), t.team.ring.ne, t.team.ring.ok⟩, ⟨hfar t.team.doc.ring (by decide), ⟨c1, hfar hn1 (by decide), hn2⟩, ⟨c2, hfar hv1 (by decide), hv2⟩, t.team.doc.ne⟩, fun j b hj hb => ?_, fun i j x y hi hj hx hy => t.team.da i j x y hi hj (hact2 _ _ hx) (hact2 _ _ hy), fun i j x y hi hj hx hy => t.team.db i j x y hi hj (hact2 _ _ hx) (hact2 _ _ hy), t.team.ge, fun j b hj hb => t.team.gea j b hj (hact2 _ _ hb), Nat.le_trans t.team.bw hbel.size⟩
  · show ((W6.setCell ⟨p.tb, 2 + iN, none⟩ (.pointer none)).setCell ⟨p.tb, 8 + iN, none⟩ (.pointer none)).heap[p.tb]? = _
    rw [hk_set (hk_set t.team.team (2 + iN) _) (8 + iN) _, team_set_a _ _ _ _ hi, team_set_b _ _ _ _ hi, hga ga, hga gb]
  · have := t.team.acts j b hj (hact2 _ _ hb)
    exact ⟨⟨hfar this.1.act (by decide), this.1.ok⟩, ⟨hfar this.2.act (by decide)⟩⟩
theorem goOn_step {i j : Nat} {u : US} {a : AS} (h : (goOn i j u).act i = some a) : goOn i (j + 1) u = doStep 1000 i a (goOn i j u) := by rw [goOn_snoc, h]
/-- The act goes on. -/
theorem rs_go {B : Nat} {w w2 : World} {p : TW} {ga gb : Nat → Nat} {u0 : US} {i j : Nat} {l : List DS} {v5 v6 : Value} {a : AS} (ho : (goOn i j (restTo i u0)).out = u0.out ++ l) (hl : l.length ≤ 21 * i + j) (ha : (goOn i j (restTo i u0)).act i = some a) (h5 : (stepA (goOn i j (restTo i u0)).r a).next ≠ 5)
    (h : RsInv B w p ga gb v5 v6 (stepR (goOn i j (restTo i u0)).r a) (upF (goOn i j (restTo i u0)).act i (some (stepA (goOn i j (restTo i u0)).r a))) (popsOf l) (pushesOf l) w2) : RsAt B w p ga gb u0 i (j + 1) l v5 v6 w2 := by
  have e := goOn_step ha
  refine ⟨?_, ?_, by omega⟩
  · rw [e]; simp only [doStep]; rw [if_neg h5]; exact ho
  · rw [e]; simp only [doStep]; rw [if_neg h5]; exact h
/-- The act ends. -/
theorem rs_fin {B : Nat} {w w2 : World} {p : TW} {ga gb : Nat → Nat} {u0 : US} {i j : Nat} {l : List DS} {v5 v6 : Value} {a : AS} {d : DS} {xs ys : List Int} (ho : (goOn i j (restTo i u0)).out = u0.out ++ l) (hl : l.length ≤ 21 * i + j) (ha : (goOn i j (restTo i u0)).act i = some a) (h5 : (stepA (goOn i j (restTo i u0)).r a).next = 5)
    (hd : d = endD 1000 (stepA (goOn i j (restTo i u0)).r a) (oneD a (stepA (goOn i j (restTo i u0)).r a) ((goOn i j (restTo i u0)).now i)))
    (hx : xs = popsOf (l ++ [d])) (hy : ys = pushesOf (l ++ [d]))
    (h : RsInv B w p ga gb v5 v6 (stepR (goOn i j (restTo i u0)).r a) (upF (goOn i j (restTo i u0)).act i none) xs ys w2) : RsAt B w p ga gb u0 i (j + 1) (l ++ [d]) v5 v6 w2 := by
  have e := goOn_step ha
  refine ⟨?_, ?_, by simp; omega⟩
  · rw [e]; simp only [doStep]; rw [if_pos h5, ← hd, ho, List.append_assoc]
  · rw [e]; simp only [doStep]; rw [if_pos h5, ← hx, ← hy]; exact h
/-- The thread is done. -/
theorem rs_next {B : Nat} {w w2 : World} {p : TW} {ga gb : Nat → Nat} {u0 : US} {i j : Nat} {l : List DS} {v5 v6 : Value} (h : RsAt B w p ga gb u0 i j l v5 v6 w2) (hj : j ≤ 20) (hn : (goOn i j (restTo i u0)).act i = none) : RsAt B w p ga gb u0 (i + 1) 0 l v5 v6 w2 := by
  have e : goOn (i + 1) 0 (restTo (i + 1) u0) = goOn i j (restTo i u0) := by
    show goOn i 20 (restTo i u0) = _
    have := goOn_stop hn (20 - j)
    rw [show j + (20 - j) = 20 from by omega] at this
    exact this
  exact ⟨by rw [e]; exact h.out, by rw [e]; exact h.rs, by have := h.len; omega⟩
theorem rs_inv {u : US} {c : Int} (hI : InvA c u) (hkv : KV u) (hc0 : 0 ≤ c) (hc : c ≤ 500) (i j : Nat) (hi : i ≤ 6) (hj : j ≤ 20) : InvA (c + 200) (goOn i j (restTo i u)) ∧ KV (goOn i j (restTo i u)) ∧ (j = 20 → (goOn i j (restTo i u)).act i = none) := by
  have h1 := invA_restTo hI (by omega) i (by omega)
  have hk : KV (restTo i u) := by
    clear h1
    induction i with
    | zero => exact hkv
    | succ i ih =>
      have h2 := invA_restTo hI (by omega) i (by omega)
      unfold restTo
      exact kv_goOn (ih (by omega)) h2 (by omega) 20 (by omega)
  refine ⟨invA_mono (invA_goOn j h1 (by omega)) (by omega), kv_goOn hk h1 (by omega) j (by omega), fun e => ?_⟩
  subst e
  exact goOn_ends 20 h1 (by omega) (fun a _ => by have := left_le (restTo i u).r a; omega)
theorem rs_start {B : Nat} {w : World} {p : TW} {ga gb : Nat → Nat} {u : US} (h : IsTeam B w p ga gb u.r u.act) : RsAt B w p ga gb u 0 0 [] (.slice none 0 0) (.slice none 0 0) w := by
  refine ⟨by simp [goOn, restTo], ⟨h, ⟨by simp [popsOf, nums], .inl ⟨rfl, rfl⟩⟩, ⟨by simp [pushesOf, nums], .inl ⟨rfl, rfl⟩⟩, .inl rfl, Below.refl _ _, h.bw, ⟨h.doc.num.lt, h.doc.val.lt⟩, Nat.le_refl _, fun _ _ h => h⟩, by simp⟩
set_option maxHeartbeats 6400000 in
set_option maxRecDepth 100000 in
theorem rest_walk (B : Nat) (p : TW) (ga gb : Nat → Nat) (u : US) (c : Int) (w : World) (h : IsTeam B w p ga gb u.r u.act) (hI : InvA c u) (hc0 : 0 ≤ c) (hc : c ≤ 500) (hkv : KV u) :
    Calls Try.prog 21 #[.pointer (some ⟨p.tb, 0, none⟩)] w (RestPost B w p u) := by
  have HI := Aside0.mk hI
  have HKV := Aside0.mk hkv
  have H0 := Aside0.mk (rs_start h)
  clear h hI hkv
  go_enter Try.func21, Try.ntmps21
  go_wp2_with fail
  go_loopw [5, 6, 9] (fun v5 v6 v9 wr => ∃ (i : Nat), i ≤ 6 ∧ v9 = .int .i64 i ∧ Aside0 (∃ l, RsAt B w p ga gb u i 0 l v5 v6 wr)) (fun _ _ v9 _ => 6 - (intOf v9).toNat)
  case atStart => exact ⟨0, by omega, rfl, ⟨⟨_, H0.out⟩⟩⟩
  case round =>
    obtain ⟨i, hi, rfl, HJ⟩ := hrel
    obtain ⟨l0, hJ⟩ := HJ.out
    have HJJ := Aside0.mk hJ
    clear HJ hJ
    obtain ⟨wo, rfl⟩ : ∃ wo : World, wo = wr := ⟨_, rfl⟩
    by_cases hi6 : i < 6
    · have hi0 : (0 : Int) ≤ (i : Int) := by omega
      have hi6' : (i : Int) < 6 := by omega
      go_wp2_with fail
      go_loopw [5, 6, 8] (fun v5 v6 v8 wr => ∃ (j : Nat), j ≤ 20 ∧ v8 = .int .i64 j ∧ Aside0 (∃ l, RsAt B w p ga gb u i j l v5 v6 wr)) (fun _ _ v8 _ => 20 - (intOf v8).toNat)
      case atStart => exact ⟨0, by omega, rfl, ⟨⟨_, HJJ.out⟩⟩⟩
      case round =>
        obtain ⟨j, hj, rfl, HJ2⟩ := hrel
        obtain ⟨l, hJ2⟩ := HJ2.out
        have hU := rs_inv HI.out HKV.out hc0 hc i j (by omega) hj
        cases hact : (goOn i j (restTo i u)).act i with
        | none =>
          have za : wr.cell? ⟨p.tb, 2 + i, none⟩ = some (.pointer none) := by rw [hk_cell hJ2.rs.team.team, team_a _ _ _ _ hi6, hact]; rfl
          have HN := Aside0.mk (rs_next hJ2 hj hact)
          clear hJ2 hact hU HJ2
          go_wp2_with fail
          go_roundw
          case rel => exact ⟨i + 1, by omega, by go_num, ⟨⟨_, HN.out⟩⟩⟩
          case measure => simp [intOf]; omega
        | some a =>
          have hj20 : j < 20 := by
            rcases Nat.lt_or_ge j 20 with h | h
            · exact h
            · have := hU.2.2 (by omega); rw [hact] at this; cases this
          have HU := Aside0.mk hU
          obtain ⟨U1, hU1⟩ : ∃ U1, U1 = goOn i j (restTo i u) := ⟨_, rfl⟩
          have HU1 := Aside0.mk hU1
          have hok := hU.1.acts i a hact
          have HACT := Aside0.mk hact
          have hsc := Aside0.mk (step_case hU.1.ring (by omega) hok)
          have HWL := Aside0.mk hok.wl
          have HNX := Aside0.mk hok.nx
          have HRS := Aside0.mk hJ2.rs
          have HOUT := Aside0.mk hJ2.out
          have hlen := hJ2.len
          have hkd := (hU.2.1 i a hact)
          have za : wr.cell? ⟨p.tb, 2 + i, none⟩ = some (.pointer (some ⟨ga i, 0, none⟩)) := by rw [hk_cell hJ2.rs.team.team, team_a _ _ _ _ hi6, hact]; rfl
          have hgt : decide (500 < (j : Int)) = false := by simp; omega
          rw [← hU1] at HACT hsc HRS HOUT hkd
          have HKD := Aside0.mk hkd
          clear hU hJ2 hact hok hU1 HJ2 hkd
          go_wp2_with fail
          with_reducible refine (tstep_walk B p ga gb U1.r U1.act i a wr HRS.out.team hi6 HACT.out HWL.out HNX.out).mono ?_
          intro e w2 hp
          obtain ⟨he, ht2, hk2⟩ := tsOut hp
          subst he
          have R2 := Aside0.mk (rs_mid HRS.out hi6 HACT.out ht2 hk2)
          have HB2 := Aside0.mk (ht2.acts i (stepA U1.r a) hi6 (upF_same _ _ _))
          have y1 : w2.cell? ⟨p.tb, 2 + i, none⟩ = some (.pointer (some ⟨ga i, 0, none⟩)) := by rw [hk_cell ht2.team, team_a _ _ _ _ hi6, upF_same]; rfl
          have y2 : w2.cell? ⟨p.tb, 8 + i, none⟩ = some (.pointer (some ⟨gb i, 0, none⟩)) := by rw [hk_cell ht2.team, team_b _ _ _ _ hi6, upF_same]; rfl
          clear hp ht2 hk2 za
          by_cases h5 : (stepA U1.r a).next = 5
          · have HA5 := Aside0.mk h5
            have HEn : Aside0 (((stepA U1.r a).next == 5) = true) := ⟨by rw [h5]; rfl⟩
            obtain ⟨dd, hdd⟩ : ∃ dd, dd = endD 1000 (stepA U1.r a) (oneD a (stepA U1.r a) (U1.now i)) := ⟨_, rfl⟩
            have HDD := Aside0.mk hdd
            have hon : oneD a (stepA U1.r a) (U1.now i) = U1.now i := by unfold oneD again; rw [h5]; simp
            rw [hon] at hdd
            obtain ⟨K, hK⟩ : ∃ K, K = kindOf (stepA U1.r a) := ⟨_, rfl⟩
            have hKa : kindOf (stepA U1.r a) = kindOf a := by unfold kindOf; rw [step_pops hsc.out]
            have hKn : dd.kind = K := by rw [hdd, hK, hKa]; exact HKD.out.1
            have hwd : dd.well = (stepA U1.r a).well := by rw [hdd]; rfl
            have k0 : w2.cell? ⟨gb i, 0, none⟩ = some (.int .i64 K) := by rw [hk_cell HB2.out.2.act, hK]; rfl
            have k4 : w2.cell? ⟨gb i, 4, none⟩ = some (.int .u64 (stepA U1.r a).value) := by rw [hk_cell HB2.out.2.act]; rfl
            have HVD : Aside0 (dd.v = if dd.kind = 2 then valueOf (stepA U1.r a) else (U1.now i).v) := ⟨by rw [hdd]; rfl⟩
            have HKN := Aside0.mk hKn
            have HKK := Aside0.mk (hK.trans hKa)
            have HWD := Aside0.mk hwd
            clear hdd hon hK hKa hKn hwd h5
            cases hwl : (stepA U1.r a).well with
            | false =>
              have HX : Aside0 (popsOf l = popsOf (l ++ [dd])) := ⟨by rw [popsOf_snoc, HWD.out, hwl]; simp⟩
              have HY : Aside0 (pushesOf l = pushesOf (l ++ [dd])) := ⟨by rw [pushesOf_snoc, HWD.out, hwl]; simp⟩
              have HWl := Aside0.mk hwl
              clear hwl k0 k4
              go_wp2_with fail
              with_reducible refine (ended_walk (ga i) p.g _ w2 HB2.out.1).mono ?_
              rintro e w3 ⟨rfl, rfl⟩
              rw [HEn.out]
              go_wp2_with fail
              with_reducible refine (ok_walk (ga i) p.g _ _ HB2.out.1).mono ?_
              rintro e WW ⟨rfl, rfl⟩
              rw [HWl.out]
              have R5 := R2
              clear y1 y2
              have x1 : WW.cell? ⟨p.tb, 2 + i, none⟩ = some (.pointer (some ⟨ga i, 0, none⟩)) := by rw [hk_cell R5.out.team.team, team_a _ _ _ _ hi6, upF_same]; rfl
              have x2 : WW.cell? ⟨p.tb, 8 + i, none⟩ = some (.pointer (some ⟨gb i, 0, none⟩)) := by rw [hk_cell R5.out.team.team, team_b _ _ _ _ hi6, upF_same]; rfl
              have g1 := hk_frozen R5.out.team.team (2 + i)
              have g2 := hk_frozen R5.out.team.team (8 + i)
              have HN : Aside0 (RsAt B w p ga gb u i (j + 1) (l ++ [dd]) u5 u6 _) := ⟨by
                have e := HU1.out
                subst e
                exact rs_fin HOUT.out hlen HACT.out HA5.out HDD.out HX.out HY.out (rs_nil R5.out hi6)⟩
              go_wp2_with fail
              go_region
              go_wp2_with fail
              go_roundw
              case rel => exact ⟨j + 1, by omega, by go_num, ⟨⟨_, HN.out⟩⟩⟩
              case measure => simp [intOf]; omega
            | true =>
              cases hpp : a.pops with
              | true =>
            have hk2 : (K == 2) = true := by rw [HKK.out]; unfold kindOf; rw [hpp]; rfl
            have HXY := pops_end (l := l) (d := dd) (x := valueOf (stepA U1.r a)) (HWD.out.trans hwl) (by rw [HKN.out]; simpa using hk2) (by rw [HVD.out, if_pos (by rw [HKN.out]; simpa using hk2)])
            have HX := Aside0.mk HXY.1
            have HY := Aside0.mk HXY.2
            have HWl := Aside0.mk hwl
            have HLB : Aside0 (((popsOf l).length + 1) * 8 ≤ 140737488355328) := ⟨by have := pops_len l; omega⟩
            have hbs := R2.out.wsz
            have HVW := Aside0.mk (value_walk (ga i) p.g _ w2 HB2.out.1)
            obtain ⟨V5, hV5⟩ : ∃ V5, V5 = valueOf (stepA U1.r a) := ⟨_, rfl⟩
            rw [← hV5] at HX HVW
            clear hwl hpp k4 HXY hV5
            go_wp2_with fail
            with_reducible refine (ended_walk (ga i) p.g _ w2 HB2.out.1).mono ?_
            rintro e w3 ⟨rfl, rfl⟩
            rw [HEn.out]
            go_wp2_with fail
            with_reducible refine (ok_walk (ga i) p.g _ _ HB2.out.1).mono ?_
            rintro e w4 ⟨rfl, rfl⟩
            rw [HWl.out]
            go_wp2_with fail
            with_reducible refine HVW.out.mono ?_
            rintro e w5 ⟨rfl, rfl⟩
            clear y1 y2 k0
            go_wp2_with (at_builtin; refine print_append_num (w0 := w5) w.heap.size (by rfl) (.tmp 69) (.tmp 77) 44 32 .u64 8 rfl Try.underlying44 info32 (by omega) u5 (popsOf l) V5 rfl rfl R2.out.r5 (Below.refl _ _) hbs HLB.out ?_; intro v1 WW hown _ hg hat)
            have R5 := Aside0.mk (rs_app5 R2.out hown hg hat)
            clear hown hg hat
            have x1 : WW.cell? ⟨p.tb, 2 + i, none⟩ = some (.pointer (some ⟨ga i, 0, none⟩)) := by rw [hk_cell R5.out.team.team, team_a _ _ _ _ hi6, upF_same]; rfl
            have x2 : WW.cell? ⟨p.tb, 8 + i, none⟩ = some (.pointer (some ⟨gb i, 0, none⟩)) := by rw [hk_cell R5.out.team.team, team_b _ _ _ _ hi6, upF_same]; rfl
            have g1 := hk_frozen R5.out.team.team (2 + i)
            have g2 := hk_frozen R5.out.team.team (8 + i)
            have HN : Aside0 (RsAt B w p ga gb u i (j + 1) (l ++ [dd]) v1 u6 _) := ⟨by
              have e := HU1.out
              subst e
              exact rs_fin HOUT.out hlen HACT.out HA5.out HDD.out HX.out HY.out (rs_nil R5.out hi6)⟩
            go_wp2_with fail
            go_region
            go_wp2_with fail
            go_roundw
            case rel => exact ⟨j + 1, by omega, by go_num, ⟨⟨_, HN.out⟩⟩⟩
            case measure => simp [intOf]; omega
              | false =>
            have hk2 : (K == 2) = false := by rw [HKK.out]; unfold kindOf; rw [hpp]; rfl
            have hkk : K ≠ 2 := by simpa using hk2
            have HXY := push_end (l := l) (d := dd) (x := (stepA U1.r a).value) (HWD.out.trans hwl) (by rw [HKN.out]; exact hkk) (by rw [HVD.out, if_neg (by rw [HKN.out]; exact hkk), step_value hsc.out hpp]; exact HKD.out.2 hpp)
            have HX := Aside0.mk HXY.1
            have HY := Aside0.mk HXY.2
            have HWl := Aside0.mk hwl
            have HLB : Aside0 (((pushesOf l).length + 1) * 8 ≤ 140737488355328) := ⟨by have := pushes_len l; omega⟩
            have hbs := R2.out.wsz
            clear hwl hpp HXY hkk
            go_wp2_with fail
            with_reducible refine (ended_walk (ga i) p.g _ w2 HB2.out.1).mono ?_
            rintro e w3 ⟨rfl, rfl⟩
            rw [HEn.out]
            go_wp2_with fail
            with_reducible refine (ok_walk (ga i) p.g _ _ HB2.out.1).mono ?_
            rintro e w4 ⟨rfl, rfl⟩
            rw [HWl.out]
            go_wp2_with (at_builtin; refine print_append_num (w0 := w4) w.heap.size (by rfl) (.tmp 37) (.tmp 47) 44 32 .u64 8 rfl Try.underlying44 info32 (by omega) u6 (pushesOf l) (stepA U1.r a).value rfl rfl R2.out.r6 (Below.refl _ _) hbs HLB.out ?_; intro v1 WW hown _ hg hat)
            have R5 := Aside0.mk (rs_app6 R2.out hown hg hat)
            clear hown hg hat y1 y2 k0 k4
            have x1 : WW.cell? ⟨p.tb, 2 + i, none⟩ = some (.pointer (some ⟨ga i, 0, none⟩)) := by rw [hk_cell R5.out.team.team, team_a _ _ _ _ hi6, upF_same]; rfl
            have x2 : WW.cell? ⟨p.tb, 8 + i, none⟩ = some (.pointer (some ⟨gb i, 0, none⟩)) := by rw [hk_cell R5.out.team.team, team_b _ _ _ _ hi6, upF_same]; rfl
            have g1 := hk_frozen R5.out.team.team (2 + i)
            have g2 := hk_frozen R5.out.team.team (8 + i)
            have HN : Aside0 (RsAt B w p ga gb u i (j + 1) (l ++ [dd]) u5 v1 _) := ⟨by
              have e := HU1.out
              subst e
              exact rs_fin HOUT.out hlen HACT.out HA5.out HDD.out HX.out HY.out (rs_nil R5.out hi6)⟩
            go_wp2_with fail
            go_region
            go_wp2_with fail
            go_roundw
            case rel => exact ⟨j + 1, by omega, by go_num, ⟨⟨_, HN.out⟩⟩⟩
            case measure => simp [intOf]; omega
          · have hEn : ((stepA U1.r a).next == 5) = false := by simpa using h5
            have HEn := Aside0.mk hEn
            have HN : Aside0 (RsAt B w p ga gb u i (j + 1) l u5 u6 w2) := ⟨by
              have e := HU1.out
              subst e
              exact rs_go HOUT.out hlen HACT.out h5 R2.out⟩
            clear hEn h5
            go_wp2_with fail
            with_reducible refine (ended_walk (ga i) p.g _ w2 HB2.out.1).mono ?_
            rintro e w3 ⟨rfl, rfl⟩
            rw [HEn.out]
            go_wp2_with fail
            go_roundw
            case rel => exact ⟨j + 1, by omega, by go_num, ⟨⟨_, HN.out⟩⟩⟩
            case measure => simp [intOf]; omega
    · have hi7 : i = 6 := by omega
      have HE := Aside0.mk hi7
      have WL : Aside0 (RestPost B w p u (.returned (.tuple #[u5, u6, .bool true])) wo) := ⟨by
        have e := HE.out
        subst e
        exact ⟨_, _, ga, gb, l0, rfl, HJJ.out.out, HJJ.out.rs⟩⟩
      clear hi7
      go_wp2_with fail
      go_ret3
      exact WL.out
end Go.Proofs.Ytepbggoeajihbaa.Ring
