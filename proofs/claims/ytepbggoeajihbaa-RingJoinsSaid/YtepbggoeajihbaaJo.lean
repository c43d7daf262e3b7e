/- RingJoins, walked. -/
import Derived.Test.YtepbggoeajihbaaAl
import Derived.Test.YtepbggoeajihbaaPj
import Derived.Deep.DeepCutAuto
import Derived.Outline
set_option linter.unusedVariables false
set_option linter.unusedSimpArgs false
namespace Go.Proofs.Ytepbggoeajihbaa.Ring
open Go.RowKit Go.Proofs.YtepbggoeajihbaaW.PrintWords Go.Proofs.YtepbggoeajihbaaW.PrintLast Go.Proofs.YtepbggoeajihbaaW.PrintMore Go.Proofs.YtepbggoeajihbaaHk
open Go.Proofs.YtepbggoeajihbaaFlat

/-- A join's first step, and its second. -/
def JPost (w : World) (b g sb : Nat) (r : RS) (a : AS) (t : Bool) (e : Ending) (w' : World) : Prop := e = .returned (.bool t) ∧ IsRing w' g sb r ∧ IsAct w' b g a ∧ Keep (fun i => i = b ∨ i = g ∨ i = sb) w w'
theorem jOut {w w' : World} {b g sb : Nat} {r : RS} {a : AS} {t : Bool} {e : Ending} (h : JPost w b g sb r a t e w') : e = .returned (.bool t) ∧ IsRing w' g sb r ∧ IsAct w' b g a ∧ Keep (fun i => i = b ∨ i = g ∨ i = sb) w w' := h
theorem join1 (b g sb : Nat) (r : RS) (T v : Int) (w : World) (hT : r.T = T) (h0 : 0 ≤ T) (h1 : T ≤ 100000) (hR : IsRing w g sb r) (h : IsAct w b g (joinA v)) (hbg : b ≠ g) (hbs : b ≠ sb) :
    Calls Try.prog 13 #[.pointer (some ⟨b, 0, none⟩)] w (JPost w b g sb { r with T := T + 1 } (joinedA T v) false) := by
  refine (step_walk b g sb r (joinA v) w hR h hbg hbs).mono fun e w' hp => ?_
  obtain ⟨he, hr, ha, hk⟩ := stepOut hp
  subst hT
  obtain ⟨e1, e2⟩ := join_step (r := r) v h0 h1
  rw [e2] at he ha; rw [e1] at hr
  exact ⟨he, hr, ha, hk⟩
theorem join2 (b g sb : Nat) (r : RS) (p v : Int) (w : World) (h0 : 0 ≤ p) (h1 : p ≤ 100000) (hR : IsRing w g sb r) (h : IsAct w b g (joinedA p v)) (hbg : b ≠ g) (hbs : b ≠ sb) :
    Calls Try.prog 13 #[.pointer (some ⟨b, 0, none⟩)] w (JPost w b g sb { r with num := upd r.num (slotOf r p) (p + 1), val := upd r.val (slotOf r p) v } ⟨false, 5, 0, p, v, true⟩ true) := by
  refine (step_walk b g sb r (joinedA p v) w hR h hbg hbs).mono fun e w' hp => ?_
  obtain ⟨he, hr, ha, hk⟩ := stepOut hp
  obtain ⟨e1, e2⟩ := joined_step (r := r) p v h0 h1
  rw [e2] at he ha; rw [e1] at hr
  exact ⟨he, hr, ha, hk⟩
def ptr (b : Nat) : Value := .pointer (some ⟨b, 0, none⟩)
/-- At a round's head. -/
structure JoInv (w : World) (g sb c ro : Nat) (R : RS) (wr : World) : Prop where
  ring : IsRing wr g sb R
  q : QInv 1000 R []
  n : R.n = c
  T : R.T = (c : Int) * ro
  below : Below w.heap.size w wr
theorem jplace (b g : Nat) (T v : Int) (w : World) (h : IsAct w b g (joinedA T v)) : Calls Try.prog 14 #[.pointer (some ⟨b, 0, none⟩)] w fun e w' => e = .returned (.int .u64 T) ∧ w' = w := place_walk b g _ w h
def ptrs (bs : Nat → Nat) (i : Nat) : List Value := (List.range i).map fun j => ptr (bs j)
theorem ptrs_len (bs : Nat → Nat) (i : Nat) : (ptrs bs i).length = i := by simp [ptrs]
theorem ptrs_succ (bs : Nat → Nat) (i b : Nat) : ptrs bs i ++ [ptr b] = ptrs (fun j => if j = i then b else bs j) (i + 1) := by
  unfold ptrs
  rw [List.range_succ, List.map_append]
  congr 1
  · refine List.map_congr_left fun j hj => ?_
    have := List.mem_range.1 hj
    show ptr (bs j) = ptr (if j = i then b else bs j)
    rw [if_neg (by omega)]
  · simp
theorem ptrs_get (bs : Nat → Nat) (i j : Nat) (hj : j < i) : (ptrs bs i)[j]? = some (ptr (bs j)) := by simp [ptrs, hj]
theorem ptrs_set (bs : Nat → Nat) (i j b : Nat) : (ptrs bs i).set j (ptr b) = ptrs (fun a => if a = j then b else bs a) i := by
  apply List.ext_getElem?
  intro a
  simp only [ptrs, List.getElem?_set, List.getElem?_map, List.length_map, List.length_range]
  by_cases e : j = a
  · subst e; by_cases h : j < i <;> simp [h]
  · have e2 : ¬ a = j := fun h => e h.symm
    rw [if_neg e]; by_cases h : a < i <;> simp [h, e2]
/-- After i joins. -/
structure J1Inv (w : World) (g sb c ro i : Nat) (R : RS) (bs : Nat → Nat) (v : Value) (wr : World) : Prop where
  ring : IsRing wr g sb { R with T := (c : Int) * ro + i }
  row : wr.ownsRow w.heap.size 30 1 v (ptrs bs i).length (ptrs bs i)
  acts : ∀ j, j < i → IsAct wr (bs j) g (joinedA ((c : Int) * ro + j) (100 * ro + j))
  inj : ∀ a b, a < i → b < i → bs a = bs b → a = b
  old : ∀ j, j < i → w.heap.size ≤ bs j
  below : Below w.heap.size w wr
theorem own_ne {w : World} {base size n g : Nat} {e t : TypeId} {v : Value} {xs : List Value} {cs : Array Value} (h : w.ownsRow base e size v n xs) (hb : w.heap[g]? = some (.cells cs t)) (ht : e ≠ t) : v.ownBlock ≠ some g := by
  rcases h.2 with ⟨hv, _⟩ | ⟨g', cap, cur, hv, _, hg, _⟩
  · rw [hv]; simp [Value.ownBlock]
  · rw [hv]; intro e2
    simp [Value.ownBlock] at e2
    subst e2
    rw [hg] at hb; injection hb with hb; injection hb with h1 h2; exact ht h2
theorem own_block {w w' : World} {base size n : Nat} {e : TypeId} {v : Value} {xs : List Value} (h : w.ownsRow base e size v n xs) (hm : ∀ k, v.ownBlock = some k → k < w.heap.size → w'.heap[k]? = w.heap[k]?) : w'.ownsRow base e size v n xs := by
  have hl := h.lt
  rcases h with ⟨h1, h2⟩
  refine ⟨h1, ?_⟩
  rcases h2 with h2 | ⟨g, cap, cur, hv, hb, hg, r⟩
  · exact .inl h2
  · exact .inr ⟨g, cap, cur, hv, hb, by rw [hm g (by rw [hv]; rfl) (hl g (by rw [hv]; rfl)).2]; exact hg, r⟩
theorem own_step {w w' : World} {base size n b g sb : Nat} {v : Value} {xs : List Value} {R : RS} {a : AS} (h : w.ownsRow base 30 size v n xs) (hr : IsRing w g sb R) (ha : IsAct w b g a) (hk : Keep (fun i => i = b ∨ i = g ∨ i = sb) w w') : w'.ownsRow base 30 size v n xs :=
  own_block h (fun k hk1 hk2 => hk.block k hk2 (by
    rintro (e | e | e)
    · exact own_ne h ha.act (by decide) (by rw [hk1, e])
    · exact own_ne h hr.ring (by decide) (by rw [hk1, e])
    · exact own_ne h hr.slots (by decide) (by rw [hk1, e])))
theorem act_ring_ne {w : World} {b g sb : Nat} {R : RS} {a : AS} (hr : IsRing w g sb R) (ha : IsAct w b g a) : b ≠ g ∧ b ≠ sb := ⟨blk_ne ha.act hr.ring (by decide), blk_ne ha.act hr.slots (by decide)⟩
theorem j1_next {w wr wa wb wc : World} {g sb c ro i : Nat} {R : RS} {bs : Nat → Nat} {v v1 : Value} (h : J1Inv w g sb c ro i R bs v wr)
    (ha : IsAct wa wr.heap.size g (joinA (100 * ro + i))) (hba : Below wr.heap.size wr wa) (hr : IsRing wb g sb { R with T := (c : Int) * ro + i + 1 })
    (hb : IsAct wb wr.heap.size g (joinedA ((c : Int) * ro + i) (100 * ro + i))) (hk : Keep (fun j => j = wr.heap.size ∨ j = g ∨ j = sb) wa wb)
    (hrow : wb.ownsRow w.heap.size 30 1 v (ptrs bs i).length (ptrs bs i)) (hown : wc.ownsRow w.heap.size 30 1 v1 (ptrs bs i ++ [ptr wr.heap.size]).length (ptrs bs i ++ [ptr wr.heap.size])) (hbel : Below w.heap.size w wc) (hg : wb.grownBy wc v.ownBlock) :
    J1Inv w g sb c ro (i + 1) R (fun j => if j = i then wr.heap.size else bs j) v1 wc := by
  have hgr : ∀ {b : Nat} {cs : Array Value} {t : TypeId}, wb.heap[b]? = some (.cells cs t) → 30 ≠ t → wc.heap[b]? = some (.cells cs t) := fun h1 h2 => grown_blk hg h1 (own_ne hrow h1 h2)
  refine ⟨⟨?_, hgr hr.slots (by decide), hr.ne, ?_⟩, ?_, ?_, ?_, ?_, hbel⟩
  · rw [hgr hr.ring (by decide), show ((c : Int) * ro + ((i + 1 : Nat) : Int)) = (c : Int) * ro + i + 1 from by omega]
  · rw [show ((c : Int) * ro + ((i + 1 : Nat) : Int)) = (c : Int) * ro + i + 1 from by omega]; exact hr.ok
  · rw [← ptrs_succ]; exact hown
  · intro j hj
    by_cases e : j = i
    · subst e; simp only [if_true]; exact ⟨hgr hb.act (by decide), hb.ok⟩
    · simp only [if_neg e]
      have h1 := h.acts j (by omega)
      have hlt := hk_lt h1.act
      have hne := act_ring_ne h.ring h1
      have h2 := h1.below hba
      exact ⟨hgr (hk.blk h2.act (by rintro (e1 | e1 | e1); omega; exact hne.1 e1; exact hne.2 e1)) (by decide), h2.ok⟩
  · intro a b ha' hb' e
    by_cases ea : a = i <;> by_cases eb : b = i
    · omega
    · rw [if_pos ea, if_neg eb] at e
      have := hk_lt (h.acts b (by omega)).act; omega
    · rw [if_neg ea, if_pos eb] at e
      have := hk_lt (h.acts a (by omega)).act; omega
    · rw [if_neg ea, if_neg eb] at e
      exact h.inj a b (by omega) (by omega) e
  · intro j hj
    by_cases e : j = i
    · subst e; simp only [if_true]; exact h.below.size
    · simp only [if_neg e]; exact h.old j (by omega)
theorem ptrs_swp (bs : Nat → Nat) (n i j : Nat) : ((ptrs bs n).set i (ptr (bs j))).set j (ptr (bs i)) = ptrs (swp bs i j) n := by
  rw [ptrs_set, ptrs_set]
  congr 1; funext a; unfold swp
  by_cases h1 : a = i <;> by_cases h2 : a = j
  · subst h1; subst h2; simp
  · simp [h1, h2]; intro h; rw [h]
  · simp [h1, h2]; intro h; rw [h]
  · simp [h1, h2]
/-- Behind i second steps. -/
structure J2Inv (w : World) (g sb c ro gl cl i : Nat) (r : RS) (bs f : Nat → Nat) (wr : World) : Prop where
  ring : IsRing wr g sb r
  j : JInv 1100 r ((c : Int) * ro) (fun m => 100 * (ro : Int) + m) f i
  n : r.n = c
  row : wr.ownsRow w.heap.size 30 1 (.slice (some ⟨gl, 0, none⟩) c cl) c (ptrs bs c)
  acts : ∀ j, i ≤ j → j < c → IsAct wr (bs j) g (joinedA ((c : Int) * ro + f j) (100 * ro + f j))
  inj : ∀ a b, a < c → b < c → bs a = bs b → a = b
  below : Below w.heap.size w wr
theorem J2Inv.drew {w wr : World} {g sb c ro gl cl i : Nat} {r : RS} {bs f : Nat → Nat} (h : J2Inv w g sb c ro gl cl i r bs f wr) : J2Inv w g sb c ro gl cl i r bs f wr.drew :=
  ⟨⟨h.ring.ring, h.ring.slots, h.ring.ne, h.ring.ok⟩, h.j, h.n, h.row, fun j h1 h2 => ⟨(h.acts j h1 h2).act, (h.acts j h1 h2).ok⟩, h.inj, ⟨h.below.os, h.below.tape, h.below.output, h.below.size, h.below.block⟩⟩
theorem swp_cases (f : Nat → Nat) (i j a : Nat) : (a = i ∧ swp f i j a = f j) ∨ (a ≠ i ∧ a = j ∧ swp f i j a = f i) ∨ (a ≠ i ∧ a ≠ j ∧ swp f i j a = f a) := by
  unfold swp
  by_cases h1 : a = i
  · exact .inl ⟨h1, by simp [h1]⟩
  · by_cases h2 : a = j
    · exact .inr (.inl ⟨h1, h2, by simp [h1, h2]; intro h; omega⟩)
    · exact .inr (.inr ⟨h1, h2, by simp [h1, h2]⟩)
theorem row_at {w : World} {base c gl cl : Nat} {bs : Nat → Nat} (h : w.ownsRow base 30 1 (.slice (some ⟨gl, 0, none⟩) c cl) c (ptrs bs c)) (j : Nat) (hj : j < c) : w.cell? ⟨gl, j, none⟩ = some (ptr (bs j)) :=
  (h.cellAt j (by omega)).trans (ptrs_get bs c j hj)
theorem row_blk {w : World} {base c gl cl : Nat} {xs : List Value} (h : w.ownsRow base 30 1 (.slice (some ⟨gl, 0, none⟩) c cl) c xs) : base ≤ gl ∧ ∃ cs, w.heap[gl]? = some (.cells cs 30) := by
  rcases h.2 with ⟨hv, _⟩ | ⟨g', cap, cur, hv, hb, hg, _⟩
  · simp at hv
  · simp at hv; obtain ⟨rfl, rfl⟩ := hv; exact ⟨hb, _, hg⟩
theorem j2_swap {w wr : World} {g sb c ro gl cl i jj : Nat} {r : RS} {bs f : Nat → Nat} (h : J2Inv w g sb c ro gl cl i r bs f wr) (hij : i ≤ jj) (hj : jj < c) :
    J2Inv w g sb c ro gl cl i r (swp bs i jj) (swp f i jj) ((wr.setCell ⟨gl, i, none⟩ (ptr (bs jj))).setCell ⟨gl, jj, none⟩ (ptr (bs i))) := by
  obtain ⟨hbg, cs, hgl⟩ := row_blk h.row
  have hfar : ∀ {b : Nat} {cb : Array Value} {t : TypeId}, wr.heap[b]? = some (.cells cb t) → t ≠ 30 → ((wr.setCell ⟨gl, i, none⟩ (ptr (bs jj))).setCell ⟨gl, jj, none⟩ (ptr (bs i))).heap[b]? = some (.cells cb t) :=
    fun h1 h2 => hk_far (p := ⟨gl, jj, none⟩) (hk_far (p := ⟨gl, i, none⟩) h1 (blk_ne h1 hgl h2) _) (blk_ne h1 hgl h2) _
  refine ⟨⟨hfar h.ring.ring (by decide), hfar h.ring.slots (by decide), h.ring.ne, h.ring.ok⟩, j_swap h.j hij (by rw [h.n]; exact hj), h.n, ?_, ?_, ?_, (h.below.setCell (p := ⟨gl, i, none⟩) hbg _).setCell (p := ⟨gl, jj, none⟩) hbg _⟩
  · rw [← ptrs_swp]; exact ((h.row.stored i _).1.stored jj _).1
  · intro a h1 h2
    rcases swp_cases bs i jj a with ⟨e, e1⟩ | ⟨_, e, e1⟩ | ⟨e, e2, e1⟩ <;> rcases swp_cases f i jj a with ⟨d, d1⟩ | ⟨_, d, d1⟩ | ⟨d, d2, d1⟩ <;> (try omega)
    · rw [e1, d1]; have := h.acts jj hij hj; exact ⟨hfar this.act (by decide), this.ok⟩
    · rw [e1, d1]; have := h.acts i (Nat.le_refl _) (by omega); exact ⟨hfar this.act (by decide), this.ok⟩
    · rw [e1, d1]; have := h.acts a h1 h2; exact ⟨hfar this.act (by decide), this.ok⟩
  · intro a b ha hb e
    rcases swp_cases bs i jj a with ⟨ea, e1⟩ | ⟨_, ea, e1⟩ | ⟨ea, _, e1⟩ <;> rcases swp_cases bs i jj b with ⟨eb, e2⟩ | ⟨_, eb, e2⟩ | ⟨eb, _, e2⟩ <;> rw [e1, e2] at e <;> (try omega) <;> (have := h.inj _ _ (by omega) (by omega) e; omega)
theorem j2_next {w wr w3 : World} {g sb c ro gl cl i : Nat} {r : RS} {bs f : Nat → Nat} (h : J2Inv w g sb c ro gl cl i r bs f wr) (hi : i < c) (hbase : w.heap.size ≤ bs i)
    (hg : w.heap.size ≤ g) (hsb : w.heap.size ≤ sb)
    (hr : IsRing w3 g sb { r with num := upd r.num (slotOf r ((c : Int) * ro + f i)) ((c : Int) * ro + f i + 1), val := upd r.val (slotOf r ((c : Int) * ro + f i)) (100 * ro + f i) }) (hk : Keep (fun j => j = bs i ∨ j = g ∨ j = sb) wr w3) :
    J2Inv w g sb c ro gl cl (i + 1) { r with num := upd r.num (slotOf r ((c : Int) * ro + f i)) ((c : Int) * ro + f i + 1), val := upd r.val (slotOf r ((c : Int) * ro + f i)) (100 * ro + f i) } bs f w3 := by
  refine ⟨hr, j_take h.j (by rw [h.n]; exact hi), h.n, own_step h.row h.ring (h.acts i (Nat.le_refl _) hi) hk, fun a h1 h2 => ?_, h.inj, h.below.trans (hk.below h.below.size (fun j hj hS => by omega))⟩
  have h3 := h.acts a (by omega) h2
  have hne := act_ring_ne h.ring h3
  exact h3.keep hk (by rintro (e | e | e); exact absurd (h.inj a i h2 hi e) (by omega); exact hne.1 e; exact hne.2 e)
/-- Behind i pops. -/
def vals (ro c i : Nat) : List Int := ((List.range c).map fun m : Nat => 100 * (ro : Int) + (m : Int)).drop i
theorem vals_cons (ro c i : Nat) (hi : i < c) : vals ro c i = (100 * (ro : Int) + i) :: vals ro c (i + 1) := by
  unfold vals
  rw [List.drop_eq_getElem_cons (by simpa using hi)]
  simp
theorem vals_end (ro c : Nat) : vals ro c c = [] := by unfold vals; simp
structure J3Inv (w : World) (g sb c ro i : Nat) (R : RS) (wr : World) : Prop where
  ring : IsRing wr g sb R
  q : QInv 1100 R (vals ro c i)
  n : R.n = c
  T : R.T = (c : Int) * ro + c
  below : Below w.heap.size w wr
theorem j3_start {w wr : World} {g sb c ro gl cl : Nat} {r : RS} {bs f : Nat → Nat} (h : J2Inv w g sb c ro gl cl c r bs f wr) : J3Inv w g sb c ro 0 r wr := by
  have hj := h.j
  have hn := h.n
  subst hn
  exact ⟨h.ring, j_end hj, rfl, hj.hT, h.below⟩
theorem j3_end {w wr : World} {g sb c ro : Nat} {R : RS} (h : J3Inv w g sb c ro c R wr) (h1 : (c : Int) * ro + c ≤ 1000) : JoInv w g sb c (ro + 1) R wr := by
  have hq := h.q
  rw [vals_end] at hq
  have e : (c : Int) * ((ro + 1 : Nat) : Int) = (c : Int) * ro + c := by rw [show ((ro + 1 : Nat) : Int) = (ro : Int) + 1 from by omega, Int.mul_add, Int.mul_one]
  exact ⟨h.ring, ⟨hq.n3, hq.h0, hq.hT, hq.le, by rw [h.T]; exact h1, hq.full, hq.free⟩, h.n, by rw [e]; exact h.T, h.below⟩
theorem info30 : (Try.prog.info? 30).map (fun i => (i.zero, i.size, i.bytes)) = some (some (.pointer none), 1, 8) := by kernel_rfl
theorem j1_start {w wo : World} {g sb c ro : Nat} {R : RS} (h : JoInv w g sb c ro R wo) : J1Inv w g sb c ro 0 R (fun _ => 0) (.slice none 0 0) wo := by
  have e : R = { R with T := (c : Int) * ro + ((0 : Nat) : Int) } := by rw [show (c : Int) * ro + ((0 : Nat) : Int) = R.T from by rw [h.T]; omega]
  exact ⟨by rw [← e]; exact h.ring, ⟨by simp [ptrs], .inl ⟨rfl, by simp [ptrs]⟩⟩, fun j hj => by omega, fun a b ha => by omega, fun j hj => by omega, h.below⟩
theorem j2_start {w wo wr : World} {g sb c ro : Nat} {R : RS} {bs : Nat → Nat} {v : Value} (h : JoInv w g sb c ro R wo) (hL : J1Inv w g sb c ro c R bs v wr) (hc : 2 ≤ c) :
    ∃ gl cl, v = .slice (some ⟨gl, 0, none⟩) c cl ∧ (∀ j, j < c → w.heap.size ≤ bs j) ∧ J2Inv w g sb c ro gl cl 0 { R with T := (c : Int) * ro + c } bs (fun a => a) wr := by
  have hrow := hL.row
  rw [ptrs_len] at hrow
  obtain ⟨gl, cl, hv⟩ : ∃ gl cl, v = .slice (some ⟨gl, 0, none⟩) c cl := by
    rcases hrow.2 with ⟨_, h0⟩ | ⟨g', cap, cur, hv, _⟩
    · omega
    · exact ⟨g', cap, hv⟩
  subst hv
  have hj : JInv 1100 { R with T := (c : Int) * ro + c } ((c : Int) * ro) (fun m => 100 * (ro : Int) + m) (fun a => a) 0 := by
    have := j_start h.q (T0 := (c : Int) * ro) h.T.symm (fun m => 100 * (ro : Int) + m) { R with T := (c : Int) * ro + c } (by rw [h.n])
    exact ⟨this.n3, this.h0, this.hH, this.hT, by have := this.tc; omega, this.lt, this.inj, this.sur, this.done⟩
  exact ⟨gl, cl, rfl, hL.old, ⟨hL.ring, hj, h.n, hrow, fun j _ hj => hL.acts j hj, hL.inj, hL.below⟩⟩
set_option maxHeartbeats 6400000 in
set_option maxRecDepth 100000 in
theorem joins_walk (n rounds : Int) (A : Option Addr) (len cap : Nat) (w : World) (hn : 0 ≤ n ∧ n ≤ 255) (hro : 0 ≤ rounds ∧ rounds ≤ 255) (hlm : len ≤ 9223372036854775807)
    (hps : ∀ k, k < len → ∃ ab ao o, A = some ⟨ab, ao, none⟩ ∧ w.cell? ⟨ab, ao + k, none⟩ = some (.int .u8 o) ∧ 0 ≤ o ∧ o ≤ 255) :
    Calls Try.prog 3 #[.int .u8 n, .slice A len cap, .int .u8 rounds] w fun e w' => e = .returned (.bool true) ∧ Below w.heap.size w w' := by
  have HPS := Aside0.mk hps
  obtain ⟨c, hc⟩ : ∃ c, c = capOf n := ⟨_, rfl⟩
  have hc3 : c = 2 ∨ c = 4 ∨ c = 8 := by rw [hc]; unfold capOf; split <;> (try split) <;> simp
  have HC3 := Aside0.mk hc3
  have HCP : Aside0 (∀ W, Calls Try.prog 11 #[.int .u8 n] W fun e w' => e = .returned (.int .i64 c) ∧ w' = W) := ⟨fun W => by rw [hc]; exact capacity_walk n hn W⟩
  have HNW := Aside0.mk (fun W => new_walk c hc3 W)
  have hc2 : 2 ≤ c := by omega
  have hc8 : c ≤ 8 := by omega
  obtain ⟨M, hM⟩ : ∃ M : Nat, (M : Int) = 1 + rounds % 5 := ⟨(1 + rounds % 5).toNat, by omega⟩
  have HM := Aside0.mk hM
  have hM5 : M ≤ 5 := by omega
  clear hps hc hc3 hn hM
  go_enter Try.func3, Try.ntmps3
  go_wp2_with fail
  with_reducible refine (awake_walk _).mono ?_
  rintro e w1 ⟨rfl, hb1⟩
  have HB1 := Aside0.mk hb1
  clear hb1
  go_wp2_with fail
  with_reducible refine (HCP.out _).mono ?_
  rintro e w2 ⟨rfl, rfl⟩
  go_wp2_with fail
  with_reducible refine (HNW.out _).mono ?_
  intro e w2 hp
  obtain ⟨g, sb, he, hr, hg, hsb, hb⟩ := nwOut hp
  subst he
  have hg : w.heap.size ≤ g := Nat.le_trans HB1.out.size hg
  have hsb : w.heap.size ≤ sb := Nat.le_trans HB1.out.size hsb
  have HI : Aside0 (JoInv w g sb c 0 (newR c) w2) := ⟨hr, q_ok (q_new c HC3.out) 1000 (by omega), rfl, by simp [newR], HB1.out.trans (hb.mono HB1.out.size)⟩
  clear hp hr hb
  go_wp2_with fail
  with_reducible refine (HCP.out _).mono ?_
  rintro e w3 ⟨rfl, rfl⟩
  go_wp2_with fail
  rw [← HM.out]
  go_loopw [35] (fun v35 wr => ∃ (k : Nat), k ≤ M ∧ v35 = .int .i64 k ∧ Aside0 (∃ R, JoInv w g sb c k R wr)) (fun v35 _ => M - (intOf v35).toNat)
  case atStart => exact ⟨0, by omega, rfl, ⟨_, HI.out⟩⟩
  case round =>
    obtain ⟨ro, hk, rfl, HJ⟩ := hrel
    obtain ⟨R, hJ⟩ := HJ.out
    have HJJ := Aside0.mk hJ
    clear HJ hJ
    obtain ⟨wo, rfl⟩ : ∃ wo : World, wo = wr := ⟨_, rfl⟩
    by_cases hlt : ro < M
    · go_wp2_with fail
      go_loopw [11, 39] (fun v11 v39 wr => ∃ (i : Nat), i ≤ c ∧ v39 = .int .i64 i ∧ Aside0 (∃ bs, J1Inv w g sb c ro i R bs v11 wr)) (fun _ v39 _ => c - (intOf v39).toNat)
      case atStart => exact ⟨0, by omega, rfl, ⟨⟨fun _ => 0, j1_start HJJ.out⟩⟩⟩
      case round =>
        obtain ⟨i, hi, rfl, HL⟩ := hrel
        obtain ⟨bs, hL⟩ := HL.out
        have HLL := Aside0.mk hL
        have hwz : w.heap.size ≤ wr.heap.size := hL.below.size
        clear HL hL
        by_cases hic : i < c
        · have hv : U64 (100 * (ro : Int) + i) := by unfold U64; omega
          have HV := Aside0.mk hv
          have HT : Aside0 (0 ≤ (c : Int) * ro + i ∧ (c : Int) * ro + i ≤ 100000) := ⟨by
            have h1 := HC3.out
            rcases h1 with e | e | e <;> rw [e] <;> omega⟩
          have hT0 : 0 ≤ (c : Int) * ro := by rcases HC3.out with e | e | e <;> rw [e] <;> omega
          have hT1 : (c : Int) * ro ≤ 100 := by rcases HC3.out with e | e | e <;> rw [e] <;> omega
          clear hv
          go_wp2_with fail
          with_reducible refine (join_walk g (100 * (ro : Int) + i) wr HV.out).mono ?_
          intro e wa hp
          obtain ⟨he, ha, hba, hsa⟩ := newOut hp
          subst he
          have HA := Aside0.mk ha
          have HBA := Aside0.mk hba
          have HRA := Aside0.mk (HLL.out.ring.below hba)
          have HNE := Aside0.mk (act_ring_ne HRA.out ha)
          have HRW := Aside0.mk (own_block HLL.out.row (fun k _ hk => hba.block k hk) : wa.ownsRow w.heap.size 30 1 u11 (ptrs bs i).length (ptrs bs i))
          clear hp ha hba hsa
          go_wp2_with fail
          with_reducible refine (join1 wr.heap.size g sb _ ((c : Int) * ro + i) (100 * (ro : Int) + i) wa rfl HT.out.1 HT.out.2 HRA.out HA.out HNE.out.1 HNE.out.2).mono ?_
          intro e wb hp
          obtain ⟨he, hr, hb, hk⟩ := jOut hp
          subst he
          have HR := Aside0.mk hr
          have HB := Aside0.mk hb
          have HK := Aside0.mk hk
          have HRWB := Aside0.mk (own_step HRW.out HRA.out HA.out hk)
          have hwzb : w.heap.size ≤ wb.heap.size := Nat.le_trans hwz (Nat.le_trans HBA.out.size hk.size)
          have HBEL := Aside0.mk (HLL.out.below.trans ((HBA.out.mono hwz).trans (hk.below (B := w.heap.size) (Nat.le_trans hwz HBA.out.size) (fun j hj hS => by omega))))
          clear hp hr hb hk
          have hpl := ptrs_len bs i
          have HPL : Aside0 (((ptrs bs i).length + 1) * 8 ≤ 140737488355328) := ⟨by rw [hpl]; omega⟩
          clear hpl
          go_wp2_with fail
          with_reducible refine (jplace wr.heap.size g _ _ wb HB.out).mono ?_
          rintro e wb2 ⟨rfl, rfl⟩
          go_wp2_with (at_builtin; refine print_append (w0 := w) w.heap.size (by rfl) (.tmp 62) (.tmp 64) 29 30 (.pointer none) 8 rfl Try.underlying29 info30 rfl (by omega) u11 (ptrs bs i) (ptr wr.heap.size) rfl rfl rfl HRWB.out HBEL.out hwzb HPL.out ?_; intro v1 wc hown hbel hg _)
          have HN := Aside0.mk (j1_next HLL.out HA.out HBA.out HR.out HB.out HK.out HRWB.out hown hbel hg)
          clear hown hbel hg
          go_wp2_with fail
          go_roundw
          case rel => exact ⟨i + 1, by omega, by go_num, ⟨⟨_, HN.out⟩⟩⟩
          case measure => simp [intOf]; omega
        · have hic2 : ¬ ((i : Int) < c) := by omega
          have hce : c = i := by omega
          subst hce
          obtain ⟨gl, cl, hv, h2⟩ := j2_start HJJ.out HLL.out hc2
          subst hv
          have H20 := Aside0.mk h2
          clear h2 HLL
          go_wp2_with fail
          obtain ⟨wo2, hwo2⟩ : ∃ wo2 : World, wo2 = wr := ⟨_, rfl⟩
          subst hwo2
          go_loopw [68] (fun v68 wr => ∃ (i : Nat), i ≤ c ∧ v68 = .int .i64 i ∧ Aside0 (∃ r bs f, (∀ j, j < c → w.heap.size ≤ bs j) ∧ J2Inv w g sb c ro gl cl i r bs f wr)) (fun v68 _ => c - (intOf v68).toNat)
          case atStart => exact ⟨0, by omega, rfl, ⟨_, _, _, H20.out⟩⟩
          case round =>
            obtain ⟨i, hi, rfl, HM2⟩ := hrel
            obtain ⟨r, bs, f, hbb, hJ2⟩ := HM2.out
            have H2 := Aside0.mk hJ2
            have HBB := Aside0.mk hbb
            clear HM2 hbb
            by_cases hic : i < c
            · have hgl0 : gl < wr.heap.size := (hJ2.row.lt gl rfl).2
              by_cases hil : i < len
              · obtain ⟨ab, ao, o, hA, ho, ho1, ho2⟩ := HPS.out i hil
                have hab := World.block_lt_of_cell? w _ ho
                have ho' := (hJ2.below.cell (p := ⟨ab, ao + i, none⟩) hab).trans ho
                clear ho
                subst hA
                obtain ⟨jj, hjj⟩ : ∃ jj : Nat, (jj : Int) = i + o % ((c : Int) - i) := ⟨(i + o % ((c : Int) - i)).toNat, by have := Int.emod_nonneg o (show ((c : Int) - i) ≠ 0 by omega); omega⟩
                have hjc : jj < c := by have := Int.emod_lt_of_pos o (show 0 < ((c : Int) - i) by omega); omega
                have hij : i ≤ jj := by have := Int.emod_nonneg o (show ((c : Int) - i) ≠ 0 by omega); omega
                have hjj2 : (i : Int) + o % ((c : Int) - i) = jj := hjj.symm
                have hnz : (((c : Int) - i) == 0) = false := by simp; omega
                have z1 : wr.cell? ⟨gl, i, none⟩ = some (.pointer (some ⟨bs i, 0, none⟩)) := row_at hJ2.row i hic
                have z2 : wr.cell? ⟨gl, jj, none⟩ = some (.pointer (some ⟨bs jj, 0, none⟩)) := row_at hJ2.row jj hjc
                have y1 := hJ2.row.frozenAt i
                have y2 := hJ2.row.frozenAt jj
                have hi0 : (0 : Int) ≤ (i : Int) := by omega
                have hj0 : (0 : Int) ≤ (jj : Int) := by omega
                have hi1 : (i : Int) < (c : Int) := by omega
                have hj1 : (jj : Int) < (c : Int) := by omega
                clear hjj hJ2
                by_cases hje : i = jj
                · subst hje
                  go_wp2_with fail
                  go_region
                  have H3 : Aside0 (J2Inv w g sb c ro gl cl i r (swp bs i i) (swp f i i) (((wr.setCell ⟨gl, i, none⟩ (.pointer (some ⟨bs i, 0, none⟩))).setCell ⟨gl, i, none⟩ (.pointer (some ⟨bs i, 0, none⟩))).drew)) := ⟨(j2_swap H2.out hij hjc).drew⟩
                  have HBB3 : Aside0 (∀ j, j < c → w.heap.size ≤ swp bs i i j) := ⟨fun j hj => by
                    rcases swp_cases bs i i j with ⟨_, e⟩ | ⟨_, _, e⟩ | ⟨_, _, e⟩ <;> rw [e]
                    · exact HBB.out i hjc
                    · exact HBB.out i hic
                    · exact HBB.out j hj⟩
                  generalize ((wr.setCell ⟨gl, i, none⟩ (.pointer (some ⟨bs i, 0, none⟩))).setCell ⟨gl, i, none⟩ (.pointer (some ⟨bs i, 0, none⟩))).drew = W2 at H3 ⊢
                  generalize swp bs i i = bs3 at H3 HBB3
                  generalize swp f i i = f3 at H3
                  clear z1 z2 y1 y2 H2 HBB
                  have z3 : W2.cell? ⟨gl, i, none⟩ = some (.pointer (some ⟨bs3 i, 0, none⟩)) := row_at H3.out.row i hic
                  have HN3 := Aside0.mk (act_ring_ne H3.out.ring (H3.out.acts i (Nat.le_refl _) hic))
                  have HP3 : Aside0 (0 ≤ (c : Int) * ro + f3 i ∧ (c : Int) * ro + f3 i ≤ 100000) := ⟨by have h1 := H3.out.j.h0; have h2 := H3.out.j.lt i (by rw [H3.out.n]; exact hic); have h3 := H3.out.j.tc; have h4 := H3.out.j.hT; rw [H3.out.n] at h2 h4; omega⟩
                  go_wp2_with fail
                  with_reducible refine (join2 (bs3 i) g sb r ((c : Int) * ro + f3 i) (100 * (ro : Int) + f3 i) W2 HP3.out.1 HP3.out.2 H3.out.ring (H3.out.acts i (Nat.le_refl _) hic) HN3.out.1 HN3.out.2).mono ?_
                  intro e W3 hp
                  obtain ⟨he, hr3, hb3, hk3⟩ := jOut hp
                  subst he
                  have HB3 := Aside0.mk hb3
                  have H4 := Aside0.mk (j2_next H3.out hic (HBB3.out i hic) hg hsb hr3 hk3)
                  clear hp hr3 hb3 hk3 z3
                  have z4 : W3.cell? ⟨gl, i, none⟩ = some (.pointer (some ⟨bs3 i, 0, none⟩)) := row_at H4.out.row i hic
                  go_wp2_with fail
                  with_reducible refine (ok_walk (bs3 i) g _ W3 HB3.out).mono ?_
                  rintro e W4 ⟨rfl, rfl⟩
                  go_wp2_with fail
                  with_reducible refine (value_walk (bs3 i) g _ _ HB3.out).mono ?_
                  rintro e W4 ⟨rfl, rfl⟩
                  have hvz : valueOf ⟨false, 5, 0, (c : Int) * ro + f3 i, 100 * (ro : Int) + f3 i, true⟩ = 0 := rfl
                  rw [hvz]
                  clear hvz
                  go_wp2_with fail
                  go_roundw
                  case rel => exact ⟨i + 1, by omega, by go_num, ⟨⟨_, _, _, HBB3.out, H4.out⟩⟩⟩
                  case measure => simp [intOf]; omega
                · have hne2 : jj ≠ i := fun e => hje e.symm
                  go_wp2_with fail
                  go_region
                  have H3 : Aside0 (J2Inv w g sb c ro gl cl i r (swp bs i jj) (swp f i jj) (((wr.setCell ⟨gl, i, none⟩ (.pointer (some ⟨bs jj, 0, none⟩))).setCell ⟨gl, jj, none⟩ (.pointer (some ⟨bs i, 0, none⟩))).drew)) := ⟨(j2_swap H2.out hij hjc).drew⟩
                  have HBB3 : Aside0 (∀ j, j < c → w.heap.size ≤ swp bs i jj j) := ⟨fun j hj => by
                    rcases swp_cases bs i jj j with ⟨_, e⟩ | ⟨_, _, e⟩ | ⟨_, _, e⟩ <;> rw [e]
                    · exact HBB.out jj hjc
                    · exact HBB.out i hic
                    · exact HBB.out j hj⟩
                  generalize ((wr.setCell ⟨gl, i, none⟩ (.pointer (some ⟨bs jj, 0, none⟩))).setCell ⟨gl, jj, none⟩ (.pointer (some ⟨bs i, 0, none⟩))).drew = W2 at H3 ⊢
                  generalize swp bs i jj = bs3 at H3 HBB3
                  generalize swp f i jj = f3 at H3
                  clear z1 z2 y1 y2 H2 HBB
                  have z3 : W2.cell? ⟨gl, i, none⟩ = some (.pointer (some ⟨bs3 i, 0, none⟩)) := row_at H3.out.row i hic
                  have HN3 := Aside0.mk (act_ring_ne H3.out.ring (H3.out.acts i (Nat.le_refl _) hic))
                  have HP3 : Aside0 (0 ≤ (c : Int) * ro + f3 i ∧ (c : Int) * ro + f3 i ≤ 100000) := ⟨by have h1 := H3.out.j.h0; have h2 := H3.out.j.lt i (by rw [H3.out.n]; exact hic); have h3 := H3.out.j.tc; have h4 := H3.out.j.hT; rw [H3.out.n] at h2 h4; omega⟩
                  go_wp2_with fail
                  with_reducible refine (join2 (bs3 i) g sb r ((c : Int) * ro + f3 i) (100 * (ro : Int) + f3 i) W2 HP3.out.1 HP3.out.2 H3.out.ring (H3.out.acts i (Nat.le_refl _) hic) HN3.out.1 HN3.out.2).mono ?_
                  intro e W3 hp
                  obtain ⟨he, hr3, hb3, hk3⟩ := jOut hp
                  subst he
                  have HB3 := Aside0.mk hb3
                  have H4 := Aside0.mk (j2_next H3.out hic (HBB3.out i hic) hg hsb hr3 hk3)
                  clear hp hr3 hb3 hk3 z3
                  have z4 : W3.cell? ⟨gl, i, none⟩ = some (.pointer (some ⟨bs3 i, 0, none⟩)) := row_at H4.out.row i hic
                  go_wp2_with fail
                  with_reducible refine (ok_walk (bs3 i) g _ W3 HB3.out).mono ?_
                  rintro e W4 ⟨rfl, rfl⟩
                  go_wp2_with fail
                  with_reducible refine (value_walk (bs3 i) g _ _ HB3.out).mono ?_
                  rintro e W4 ⟨rfl, rfl⟩
                  have hvz : valueOf ⟨false, 5, 0, (c : Int) * ro + f3 i, 100 * (ro : Int) + f3 i, true⟩ = 0 := rfl
                  rw [hvz]
                  clear hvz
                  go_wp2_with fail
                  go_roundw
                  case rel => exact ⟨i + 1, by omega, by go_num, ⟨⟨_, _, _, HBB3.out, H4.out⟩⟩⟩
                  case measure => simp [intOf]; omega
              · have z1 : wr.cell? ⟨gl, i, none⟩ = some (.pointer (some ⟨bs i, 0, none⟩)) := row_at hJ2.row i hic
                have y1 := hJ2.row.frozenAt i
                have hi0 : (0 : Int) ≤ (i : Int) := by omega
                have hi1 : (i : Int) < (c : Int) := by omega
                have hij : i ≤ i := Nat.le_refl _
                have hjc := hic
                clear hJ2
                go_wp2_with fail
                go_region
                have H3 : Aside0 (J2Inv w g sb c ro gl cl i r (swp bs i i) (swp f i i) (((wr.setCell ⟨gl, i, none⟩ (.pointer (some ⟨bs i, 0, none⟩))).setCell ⟨gl, i, none⟩ (.pointer (some ⟨bs i, 0, none⟩))).drew)) := ⟨(j2_swap H2.out hij hjc).drew⟩
                have HBB3 : Aside0 (∀ j, j < c → w.heap.size ≤ swp bs i i j) := ⟨fun j hj => by
                  rcases swp_cases bs i i j with ⟨_, e⟩ | ⟨_, _, e⟩ | ⟨_, _, e⟩ <;> rw [e]
                  · exact HBB.out i hjc
                  · exact HBB.out i hic
                  · exact HBB.out j hj⟩
                generalize ((wr.setCell ⟨gl, i, none⟩ (.pointer (some ⟨bs i, 0, none⟩))).setCell ⟨gl, i, none⟩ (.pointer (some ⟨bs i, 0, none⟩))).drew = W2 at H3 ⊢
                generalize swp bs i i = bs3 at H3 HBB3
                generalize swp f i i = f3 at H3
                clear z1 y1 H2 HBB
                have z3 : W2.cell? ⟨gl, i, none⟩ = some (.pointer (some ⟨bs3 i, 0, none⟩)) := row_at H3.out.row i hic
                have HN3 := Aside0.mk (act_ring_ne H3.out.ring (H3.out.acts i (Nat.le_refl _) hic))
                have HP3 : Aside0 (0 ≤ (c : Int) * ro + f3 i ∧ (c : Int) * ro + f3 i ≤ 100000) := ⟨by have h1 := H3.out.j.h0; have h2 := H3.out.j.lt i (by rw [H3.out.n]; exact hic); have h3 := H3.out.j.tc; have h4 := H3.out.j.hT; rw [H3.out.n] at h2 h4; omega⟩
                go_wp2_with fail
                with_reducible refine (join2 (bs3 i) g sb r ((c : Int) * ro + f3 i) (100 * (ro : Int) + f3 i) W2 HP3.out.1 HP3.out.2 H3.out.ring (H3.out.acts i (Nat.le_refl _) hic) HN3.out.1 HN3.out.2).mono ?_
                intro e W3 hp
                obtain ⟨he, hr3, hb3, hk3⟩ := jOut hp
                subst he
                have HB3 := Aside0.mk hb3
                have H4 := Aside0.mk (j2_next H3.out hic (HBB3.out i hic) hg hsb hr3 hk3)
                clear hp hr3 hb3 hk3 z3
                have z4 : W3.cell? ⟨gl, i, none⟩ = some (.pointer (some ⟨bs3 i, 0, none⟩)) := row_at H4.out.row i hic
                go_wp2_with fail
                with_reducible refine (ok_walk (bs3 i) g _ W3 HB3.out).mono ?_
                rintro e W4 ⟨rfl, rfl⟩
                go_wp2_with fail
                with_reducible refine (value_walk (bs3 i) g _ _ HB3.out).mono ?_
                rintro e W4 ⟨rfl, rfl⟩
                have hvz : valueOf ⟨false, 5, 0, (c : Int) * ro + f3 i, 100 * (ro : Int) + f3 i, true⟩ = 0 := rfl
                rw [hvz]
                clear hvz
                go_wp2_with fail
                go_roundw
                case rel => exact ⟨i + 1, by omega, by go_num, ⟨⟨_, _, _, HBB3.out, H4.out⟩⟩⟩
                case measure => simp [intOf]; omega
            · have hic3 : ¬ ((i : Int) < c) := by omega
              have hce : c = i := by omega
              subst hce
              have H30 := Aside0.mk (j3_start hJ2)
              clear hJ2 H2 HBB
              go_wp2_with fail
              obtain ⟨wo3, hwo3⟩ : ∃ wo3 : World, wo3 = wr := ⟨_, rfl⟩
              subst hwo3
              go_loopw [125] (fun v125 wr => ∃ (i : Nat), i ≤ c ∧ v125 = .int .i64 i ∧ Aside0 (∃ R, J3Inv w g sb c ro i R wr)) (fun v125 _ => c - (intOf v125).toNat)
              case atStart => exact ⟨0, by omega, rfl, ⟨⟨_, H30.out⟩⟩⟩
              case round =>
                obtain ⟨i, hi, rfl, HM3⟩ := hrel
                obtain ⟨R3, hJ3⟩ := HM3.out
                have H3 := Aside0.mk hJ3
                clear HM3
                by_cases hic : i < c
                · have hq := hJ3.q
                  rw [vals_cons ro c i hic] at hq
                  obtain ⟨R4, A4, s4, o4, v4, q4, n4, T4, _⟩ := q_pop hq (by omega)
                  have S4 := Aside0.mk s4
                  have O4 := Aside0.mk o4
                  have V4 := Aside0.mk v4
                  have Q4 := Aside0.mk q4
                  have N4 := Aside0.mk (n4.trans hJ3.n)
                  have T4' := Aside0.mk (T4.trans hJ3.T)
                  clear hq s4 o4 v4 q4 n4 T4 hJ3
                  go_wp2_with fail
                  with_reducible refine (trypop_walk g sb R3 R4 A4 wr H3.out.ring S4.out).mono ?_
                  intro e w4 hp
                  obtain ⟨he, hr, hk⟩ := tryOut hp
                  subst he
                  rw [O4.out, V4.out]
                  have H4 := Aside0.mk (show J3Inv w g sb c ro (i + 1) R4 w4 from ⟨hr, Q4.out, N4.out, T4'.out, H3.out.below.trans (hk.ring_below H3.out.below.size hg hsb)⟩)
                  clear hp hr hk
                  go_wp2_with fail
                  go_roundw
                  case rel => exact ⟨i + 1, by omega, by go_num, ⟨⟨_, H4.out⟩⟩⟩
                  case measure => simp [intOf]; omega
                · have hic4 : ¬ ((i : Int) < c) := by omega
                  have hce : c = i := by omega
                  subst hce
                  have H5 := Aside0.mk (j3_end hJ3 (by rcases HC3.out with e | e | e <;> rw [e] <;> omega))
                  clear hJ3 H3
                  go_wp2_with fail
                  go_roundw
                  case rel => exact ⟨ro + 1, by omega, by go_num, ⟨⟨_, H5.out⟩⟩⟩
                  case measure => simp [intOf]; omega
    · have hM1 : ¬ ((ro : Int) < M) := by omega
      obtain ⟨A1, s1, o1, v1⟩ := q_empty HJJ.out.q (by omega)
      obtain ⟨R2, A2, s2, o2, _, _, _, _⟩ := q_push HJJ.out.q (by omega) 1 (by have := HJJ.out.q.n3; simp; omega)
      have S1 := Aside0.mk s1
      have O1 := Aside0.mk o1
      have S2 := Aside0.mk s2
      have O2 := Aside0.mk o2
      clear s1 o1 v1 s2 o2
      go_wp2_with fail
      with_reducible refine (trypop_walk g sb R R A1 wo HJJ.out.ring S1.out).mono ?_
      intro e w4 hp
      obtain ⟨he, hr, hk⟩ := tryOut hp
      subst he
      rw [O1.out]
      have HR := Aside0.mk hr
      have HB4 := Aside0.mk (HJJ.out.below.trans (hk.ring_below HJJ.out.below.size hg hsb))
      clear hp hr hk
      go_wp2_with fail
      with_reducible refine (trypush_walk g sb R 1 R2 A2 w4 HR.out (by simp [U64]) S2.out).mono ?_
      intro e w5 hp
      obtain ⟨he, hr, hk⟩ := tryOut hp
      subst he
      rw [O2.out]
      have HB5 := Aside0.mk (HB4.out.trans (hk.ring_below HB4.out.size hg hsb))
      clear hp hr hk
      go_wp2
      go_ret
      exact ⟨rfl, HB5.out⟩
theorem joins_row (n : Int) (a : Option Addr) (len cap : Nat) (rounds : Int) (w : World) (wn : (Lit.int .u8 n).wf = true)
    (f : len ≤ cap ∧ cap ≤ maxLen ∧ (a = none → len = 0 ∧ cap = 0) ∧ ∀ ad, a = some ad → ∀ i, i < len → ∃ cs, Scs [some .u8] cs ∧ ∀ j, j < 1 → w.cell? (ad.add (i * 1 + j)) = cs[j]?) (hl : len * 1 ≤ 140737488351232) (wr : (Lit.int .u8 rounds).wf = true) :
    Calls Try.prog 3 #[.int .u8 n, .slice a len cap, .int .u8 rounds] w fun e w' => e = .returned (.bool true) ∧ Below w.heap.size w w' := by
  refine joins_walk n rounds a len cap w (u8_of wn) (u8_of wr) (by omega) fun k hk => ?_
  obtain ⟨_, _, h0, h1⟩ := f
  rcases a with _ | ⟨ab, ao, sp⟩
  · have := (h0 rfl).1; omega
  · have hs : sp = none := by
      obtain ⟨cs, hcs, hc⟩ := h1 _ rfl 0 (by omega)
      have h2 := hc 0 (by omega)
      obtain _ | ⟨⟨n, rfl, _⟩, _⟩ := hcs
      simp [Addr.add, World.cell?] at h2
      split at h2
      · split at h2
        · cases h2
        · rename_i hn; simpa using hn
      · cases h2
    subst hs
    obtain ⟨cs, hcs, hc⟩ := h1 _ rfl k hk
    obtain _ | ⟨⟨x, rfl, wx⟩, hcs⟩ := hcs
    cases hcs
    have := hc 0 (by omega); rw [add_none, Nat.mul_one, Nat.add_zero] at this
    exact ⟨ab, ao, x, rfl, this, u8_of wx⟩
end Go.Proofs.Ytepbggoeajihbaa.Ring
