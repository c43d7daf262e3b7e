/- The team: open, begin, step. -/
import Derived.Test.YtepbggoeajihbaaAl
import Derived.Test.YtepbggoeajihbaaRx
import Derived.Deep.RegionHeld3
import Derived.Deep.DrawnRows
import Derived.Outline
set_option linter.unusedVariables false
set_option linter.unusedSimpArgs false
namespace Go.Proofs.Ytepbggoeajihbaa.Ring
open Go.RowKit Go.Proofs.YtepbggoeajihbaaW.PrintWords Go.Proofs.YtepbggoeajihbaaW.PrintLast Go.Proofs.YtepbggoeajihbaaW.PrintMore Go.Proofs.YtepbggoeajihbaaHk
open Go.Proofs.YtepbggoeajihbaaRx
attribute [local go_sem ↓] Go.wp_at_zero Go.wp_at_succ

/-- Where a team lies. -/
structure TW where
  tb : Nat
  g : Nat
  sb : Nat
  d : DW
def actPtr (act : Option AS) (b : Nat) : Value := match act with
  | none => .pointer none
  | some _ => .pointer (some ⟨b, 0, none⟩)
def teamCells (p : TW) (fa fb : Nat → Value) : Array Value := Array.ofFn (n := 14) fun k =>
  if k.val = 0 then .pointer (some ⟨p.g, 0, none⟩) else if k.val = 1 then .pointer (some ⟨p.d.x, 0, none⟩) else if k.val < 8 then fa (k.val - 2) else fb (k.val - 8)
def updV (f : Nat → Value) (i : Nat) (v : Value) : Nat → Value := fun j => if j = i then v else f j
theorem team_r (p : TW) (fa fb : Nat → Value) : (teamCells p fa fb)[0]? = some (.pointer (some ⟨p.g, 0, none⟩)) := by simp [teamCells]
theorem team_x (p : TW) (fa fb : Nat → Value) : (teamCells p fa fb)[1]? = some (.pointer (some ⟨p.d.x, 0, none⟩)) := by simp [teamCells]
theorem team_a (p : TW) (fa fb : Nat → Value) (i : Nat) (hi : i < 6) : (teamCells p fa fb)[2 + i]? = some (fa i) := by
  have h : 2 + i < 14 := by omega
  have h1 : 2 + i < 8 := by omega
  have h2 : 2 + i - 2 = i := by omega
  have h3 : ¬ 2 + i = 0 := by omega
  have h4 : ¬ 2 + i = 1 := by omega
  simp [teamCells, h, h1, h2, h3, h4]
theorem team_b (p : TW) (fa fb : Nat → Value) (i : Nat) (hi : i < 6) : (teamCells p fa fb)[8 + i]? = some (fb i) := by
  have h : 8 + i < 14 := by omega
  have h1 : ¬ 8 + i < 8 := by omega
  have h2 : 8 + i - 8 = i := by omega
  have h3 : ¬ 8 + i = 0 := by omega
  have h4 : ¬ 8 + i = 1 := by omega
  simp [teamCells, h, h1, h2, h3, h4]
theorem team_set_a (p : TW) (fa fb : Nat → Value) (i : Nat) (hi : i < 6) (v : Value) : (teamCells p fa fb).setIfInBounds (2 + i) v = teamCells p (updV fa i v) fb := by
  apply Array.ext
  · simp [teamCells]
  · intro j h1 h2
    have hj : j < 14 := by simpa [teamCells] using h2
    rw [Array.getElem_setIfInBounds (by simpa [teamCells] using hj)]
    simp only [teamCells, Array.getElem_ofFn, updV]
    by_cases e : 2 + i = j
    · rw [if_pos e, if_neg (by omega), if_neg (by omega), if_pos (by omega), if_pos (by omega)]
    · rw [if_neg e]
      by_cases a : j = 0
      · rw [if_pos a, if_pos a]
      · rw [if_neg a, if_neg a]
        by_cases b : j = 1
        · rw [if_pos b, if_pos b]
        · rw [if_neg b, if_neg b]
          by_cases c : j < 8
          · rw [if_pos c, if_pos c, if_neg (by omega)]
          · rw [if_neg c, if_neg c]
theorem team_set_b (p : TW) (fa fb : Nat → Value) (i : Nat) (hi : i < 6) (v : Value) : (teamCells p fa fb).setIfInBounds (8 + i) v = teamCells p fa (updV fb i v) := by
  apply Array.ext
  · simp [teamCells]
  · intro j h1 h2
    have hj : j < 14 := by simpa [teamCells] using h2
    rw [Array.getElem_setIfInBounds (by simpa [teamCells] using hj)]
    simp only [teamCells, Array.getElem_ofFn, updV]
    by_cases e : 8 + i = j
    · rw [if_pos e, if_neg (by omega), if_neg (by omega), if_neg (by omega), if_pos (by omega)]
    · rw [if_neg e]
      by_cases a : j = 0
      · rw [if_pos a, if_pos a]
      · rw [if_neg a, if_neg a]
        by_cases b : j = 1
        · rw [if_pos b, if_pos b]
        · rw [if_neg b, if_neg b]
          by_cases c : j < 8
          · rw [if_pos c, if_pos c]
          · rw [if_neg c, if_neg c, if_neg (by omega)]
/-- A team: its ring, the document's, and the acts of its threads. -/
structure IsTeam (B : Nat) (w : World) (p : TW) (ga gb : Nat → Nat) (r : RS) (act : Nat → Option AS) : Prop where
  team : w.heap[p.tb]? = some (.cells (teamCells p (fun i => actPtr (act i) (ga i)) (fun i => actPtr (act i) (gb i))) 55)
  ring : IsRing w p.g p.sb r
  doc : IsDoc w p.d r
  acts : ∀ i a, i < 6 → act i = some a → IsAct w (ga i) p.g a ∧ IsDAct w (gb i) a
  da : ∀ i j a b, i < 6 → j < 6 → act i = some a → act j = some b → ga i = ga j → i = j
  db : ∀ i j a b, i < 6 → j < 6 → act i = some a → act j = some b → gb i = gb j → i = j
  ge : B ≤ p.tb ∧ B ≤ p.g ∧ B ≤ p.sb ∧ B ≤ p.d.x ∧ B ≤ p.d.nb ∧ B ≤ p.d.vb
  gea : ∀ i a, i < 6 → act i = some a → B ≤ ga i ∧ B ≤ gb i
  bw : B ≤ w.heap.size
def OpenPost (w : World) (n : Nat) (e : Ending) (w' : World) : Prop := ∃ p, e = .returned (.pointer (some ⟨p.tb, 0, none⟩)) ∧ IsTeam w.heap.size w' p (fun _ => 0) (fun _ => 0) (newR n) (fun _ => none) ∧ Below w.heap.size w w'
theorem team_zero (p : TW) : teamCells p (fun _ => .pointer none) (fun _ => .pointer none) = #[.pointer (some ⟨p.g, 0, none⟩), .pointer (some ⟨p.d.x, 0, none⟩), .pointer none, .pointer none, .pointer none, .pointer none, .pointer none, .pointer none, .pointer none, .pointer none, .pointer none, .pointer none, .pointer none, .pointer none] := by
  apply Array.ext
  · simp [teamCells]
  · intro j h1 h2
    have hj : j < 14 := by simpa [teamCells] using h1
    simp only [teamCells, Array.getElem_ofFn]
    rcases (show j = 0 ∨ j = 1 ∨ j = 2 ∨ j = 3 ∨ j = 4 ∨ j = 5 ∨ j = 6 ∨ j = 7 ∨ j = 8 ∨ j = 9 ∨ j = 10 ∨ j = 11 ∨ j = 12 ∨ j = 13 from by omega) with e | e | e | e | e | e | e | e | e | e | e | e | e | e <;> subst e <;> rfl
theorem dnOut {w w' : World} {n : Nat} {e : Ending} (h : DnPost w n e w') : ∃ p : DW, e = .returned (.pointer (some ⟨p.x, 0, none⟩)) ∧ IsDoc w' p (newR n) ∧ w.heap.size ≤ p.x ∧ w.heap.size ≤ p.nb ∧ w.heap.size ≤ p.vb ∧ Below w.heap.size w w' := h
set_option maxHeartbeats 3200000 in
set_option maxRecDepth 100000 in
theorem open_walk (n : Int) (hn : 0 ≤ n ∧ n ≤ 255) (w : World) : Calls Try.prog 19 #[.int .u8 n] w (OpenPost w (capOf n)) := by
  obtain ⟨c, hc⟩ : ∃ c, c = capOf n := ⟨_, rfl⟩
  have hc3 : c = 2 ∨ c = 4 ∨ c = 8 := by rw [hc]; unfold capOf; split <;> (try split) <;> simp
  have HCP : Aside0 (∀ W, Calls Try.prog 11 #[.int .u8 n] W fun e w' => e = .returned (.int .i64 c) ∧ w' = W) := ⟨fun W => by rw [hc]; exact capacity_walk n hn W⟩
  have HNW := Aside0.mk (fun W => new_walk c hc3 W)
  have HDN := Aside0.mk (fun W => dnew_walk c hc3 W)
  rw [← hc]
  clear hc hc3 hn
  go_enter Try.func19, Try.ntmps19
  go_wp2_with fail
  with_reducible refine (HCP.out _).mono ?_
  rintro e w2 ⟨rfl, rfl⟩
  go_wp2_with fail
  with_reducible refine (HNW.out _).mono ?_
  intro e w3 hp
  obtain ⟨g, sb, he, hr, hg, hsb, hb⟩ := nwOut hp
  subst he
  have HR := Aside0.mk hr
  have HB := Aside0.mk hb
  clear hp hr hb
  go_wp2_with fail
  with_reducible refine (HCP.out _).mono ?_
  rintro e w4 ⟨rfl, rfl⟩
  go_wp2_with fail
  with_reducible refine (HDN.out _).mono ?_
  intro e w4 hp
  obtain ⟨d, he, hd, h1, h2, h3, hb⟩ := dnOut hp
  subst he
  have HD := Aside0.mk hd
  have HB2 := Aside0.mk hb
  clear hp hd hb
  go_wp2
  go_ret
  have hz := HB.out.size
  have hz2 := HB2.out.size
  refine ⟨⟨w4.heap.size, g, sb, d⟩, rfl, ⟨?_, ?_, ?_, fun i a _ h => (nomatch h), fun i j a b _ _ h => (nomatch h), fun i j a b _ _ h => (nomatch h), ?_, fun i a _ h => (nomatch h), ?_⟩, ?_⟩
  · rw [hk_new]; rw [show (fun i => actPtr ((fun _ => none : Nat → Option AS) i) ((fun _ => 0) i)) = (fun _ => Value.pointer none) from rfl, team_zero]
  · exact (HR.out.below HB2.out).below ((Below.refl _ _).alloc (Nat.le_refl _) _)
  · exact HD.out.keep (Keep.of_below (S := fun _ => False) ((Below.refl w4.heap.size w4).alloc (Nat.le_refl _) _)) id id id
  · simp only; omega
  · simp; omega
  · exact (HB.out.trans (HB2.out.mono hz)).alloc (by omega) _

/-- The blocks that a thread's step writes. -/
def SSet (p : TW) (ga gb : Nat → Nat) (i : Nat) (k : Nat) : Prop := k = ga i ∨ k = p.g ∨ k = p.sb ∨ k = gb i ∨ k = p.d.x ∨ k = p.d.nb ∨ k = p.d.vb
def TSPost (B : Nat) (w : World) (p : TW) (ga gb : Nat → Nat) (r : RS) (act : Nat → Option AS) (i : Nat) (a : AS) (e : Ending) (w' : World) : Prop :=
  e = .returned (.bool true) ∧ IsTeam B w' p ga gb (stepR r a) (upF act i (some (stepA r a))) ∧ Keep (SSet p ga gb i) w w'
theorem tsOut {B : Nat} {w w' : World} {p : TW} {ga gb : Nat → Nat} {r : RS} {act : Nat → Option AS} {i : Nat} {a : AS} {e : Ending} (h : TSPost B w p ga gb r act i a e w') :
    e = .returned (.bool true) ∧ IsTeam B w' p ga gb (stepR r a) (upF act i (some (stepA r a))) ∧ Keep (SSet p ga gb i) w w' := h
theorem later_same {P : Program} {f : FuncId} {args : Array Value} {W : World} {u : LW W} {v : Value} (h : Calls P f args u.1 fun e w' => e = .returned v ∧ w' = u.1) :
    Calls P f args u.1 fun e w'' => e = .returned v ∧ ∃ u' : LW W, w'' = u'.1 :=
  later_call (h.mono fun _ _ hh => ⟨hh.1, by rw [hh.2]; exact Below.refl _ _⟩)
theorem dnext_ended (x : Int) (h : x = 0 ∨ x = 1 ∨ x = 2 ∨ x = 3 ∨ x = 4 ∨ x = 5) : (dnext x == 0) = (x == 5) := by
  rcases h with e | e | e | e | e | e <;> subst e <;> rfl
theorem blk_ne' {w : World} {a b : Nat} {ca cb : Array Value} {ta tb : TypeId} (ha : w.heap[a]? = some (.cells ca ta)) (hb : w.heap[b]? = some (.cells cb tb)) (ht : ta ≠ tb) : b ≠ a := fun e => blk_ne ha hb ht e.symm
theorem act_upF (act : Nat → Option AS) (ga : Nat → Nat) (i : Nat) (a a' : AS) (hi : act i = some a) : (fun j => actPtr (upF act i (some a') j) (ga j)) = fun j => actPtr (act j) (ga j) := by
  funext j
  by_cases e : j = i
  · subst e; rw [upF_same, hi]; rfl
  · rw [upF_ne _ _ _ e]
/-- What a step of the thread's act and of the document's leaves of a team. -/
theorem team_step {B : Nat} {w w1 w2 : World} {p : TW} {ga gb : Nat → Nat} {r r' : RS} {act : Nat → Option AS} {i : Nat} {a a' : AS} (h : IsTeam B w p ga gb r act) (hi : i < 6) (ha : act i = some a)
    (k1 : Keep (fun k => k = ga i ∨ k = p.g ∨ k = p.sb) w w1) (hr : IsRing w1 p.g p.sb r') (h1 : IsAct w1 (ga i) p.g a')
    (k2 : Keep (DSet p.d (gb i)) w1 w2) (hd : IsDoc w2 p.d r') (h2 : IsDAct w2 (gb i) a') :
    IsTeam B w2 p ga gb r' (upF act i (some a')) ∧ Keep (SSet p ga gb i) w w2 := by
  have hA := (h.acts i a hi ha).1
  have hD := (h.acts i a hi ha).2
  obtain ⟨c1, hn, _⟩ := h.doc.num
  obtain ⟨c2, hv, _⟩ := h.doc.val
  have kk : Keep (SSet p ga gb i) w w2 := (k1.mono (fun k _ hk => by rcases hk with e | e | e; exact .inl e; exact .inr (.inl e); exact .inr (.inr (.inl e)))).trans
    (k2.mono (fun k _ hk => by rcases hk with e | e | e | e; exact .inr (.inr (.inr (.inl e))); exact .inr (.inr (.inr (.inr (.inl e)))); exact .inr (.inr (.inr (.inr (.inr (.inl e))))); exact .inr (.inr (.inr (.inr (.inr (.inr e)))))))
  have nD : ∀ {k : Nat} {cs : Array Value} {t : TypeId}, w.heap[k]? = some (.cells cs t) → t ≠ 81 → t ≠ 92 → t ≠ 32 → ¬ DSet p.d (gb i) k := by
    rintro k cs t hk h1 h2 h3 (e | e | e | e)
    · exact blk_ne hk hD.act h1 e
    · exact blk_ne hk h.doc.ring h2 e
    · exact blk_ne hk hn h3 e
    · exact blk_ne hk hv h3 e
  have nR : ∀ {k : Nat} {cs : Array Value} {t : TypeId}, w.heap[k]? = some (.cells cs t) → t ≠ 74 → t ≠ 69 → t ≠ 71 → ¬ (k = ga i ∨ k = p.g ∨ k = p.sb) := by
    rintro k cs t hk h1 h2 h3 (e | e | e)
    · exact blk_ne hk hA.act h1 e
    · exact blk_ne hk h.ring.ring h2 e
    · exact blk_ne hk h.ring.slots h3 e
  have hact : ∀ j b, j < 6 → upF act i (some a') j = some b → (j = i ∧ b = a') ∨ (j ≠ i ∧ act j = some b) := by
    intro j b hj hb
    by_cases e : j = i
    · subst e; rw [upF_same] at hb; exact .inl ⟨rfl, (Option.some.inj hb).symm⟩
    · rw [upF_ne _ _ _ e] at hb; exact .inr ⟨e, hb⟩
  have hact2 : ∀ j b, j < 6 → upF act i (some a') j = some b → ∃ b', act j = some b' := by
    intro j b hj hb
    rcases hact j b hj hb with ⟨e, _⟩ | ⟨_, e⟩
    · subst e; exact ⟨a, ha⟩
    · exact ⟨b, e⟩
  refine ⟨⟨?_, ?_, hd, ?_, ?_, ?_, h.ge, ?_, Nat.le_trans h.bw kk.size⟩, kk⟩
  · rw [act_upF act ga i a a' ha, act_upF act gb i a a' ha]
    exact k2.blk (k1.blk h.team (nR h.team (by decide) (by decide) (by decide))) (nD h.team (by decide) (by decide) (by decide))
  · exact hr.keep k2 (nD h.ring.ring (by decide) (by decide) (by decide)) (nD h.ring.slots (by decide) (by decide) (by decide))
  · intro j b hj hb
    rcases hact j b hj hb with ⟨e, e2⟩ | ⟨e, e2⟩
    · subst e; subst e2
      exact ⟨h1.keep k2 (nD hA.act (by decide) (by decide) (by decide)), h2⟩
    · have hb2 := h.acts j b hj e2
      refine ⟨(hb2.1.keep k1 ?_).keep k2 (nD hb2.1.act (by decide) (by decide) (by decide)), (hb2.2.keep k1 (nR hb2.2.act (by decide) (by decide) (by decide))).keep k2 ?_⟩
      · rintro (e3 | e3 | e3)
        · exact e (h.da j i b a hj hi e2 ha e3)
        · exact blk_ne hb2.1.act h.ring.ring (by decide) e3
        · exact blk_ne hb2.1.act h.ring.slots (by decide) e3
      · rintro (e3 | e3 | e3 | e3)
        · exact e (h.db j i b a hj hi e2 ha e3)
        · exact blk_ne hb2.2.act h.doc.ring (by decide) e3
        · exact blk_ne hb2.2.act hn (by decide) e3
        · exact blk_ne hb2.2.act hv (by decide) e3
  · intro j k x y hj hk hx hy e
    obtain ⟨x', hx'⟩ := hact2 j x hj hx
    obtain ⟨y', hy'⟩ := hact2 k y hk hy
    exact h.da j k x' y' hj hk hx' hy' e
  · intro j k x y hj hk hx hy e
    obtain ⟨x', hx'⟩ := hact2 j x hj hx
    obtain ⟨y', hy'⟩ := hact2 k y hk hy
    exact h.db j k x' y' hj hk hx' hy' e
  · intro j b hj hb
    obtain ⟨b', hb'⟩ := hact2 j b hj hb
    exact h.gea j b' hj hb'
theorem IsTeam.drew {B : Nat} {w : World} {p : TW} {ga gb : Nat → Nat} {r : RS} {act : Nat → Option AS} (h : IsTeam B w p ga gb r act) : IsTeam B w.drew p ga gb r act :=
  ⟨h.team, ⟨h.ring.ring, h.ring.slots, h.ring.ne, h.ring.ok⟩, h.doc.drew, fun i a hi ha => ⟨⟨(h.acts i a hi ha).1.act, (h.acts i a hi ha).1.ok⟩, ⟨(h.acts i a hi ha).2.act⟩⟩, h.da, h.db, h.ge, h.gea, h.bw⟩
theorem IsTeam.below {B : Nat} {w w' : World} {p : TW} {ga gb : Nat → Nat} {r : RS} {act : Nat → Option AS} (h : IsTeam B w p ga gb r act) (hb : Below w.heap.size w w') : IsTeam B w' p ga gb r act :=
  ⟨hk_below hb (hk_lt h.team) h.team, h.ring.below hb, h.doc.keep (Keep.of_below (S := fun _ => False) hb) id id id, fun i a hi ha => ⟨(h.acts i a hi ha).1.below hb, (h.acts i a hi ha).2.below hb⟩, h.da, h.db, h.ge, h.gea, Nat.le_trans h.bw hb.size⟩
theorem team_cells {B : Nat} {w : World} {p : TW} {ga gb : Nat → Nat} {r : RS} {act : Nat → Option AS} {i : Nat} {a : AS} (h : IsTeam B w p ga gb r (upF act i (some a))) (hi : i < 6) : w.cell? ⟨p.tb, 1, none⟩ = some (.pointer (some ⟨p.d.x, 0, none⟩)) ∧ w.cell? ⟨p.tb, 8 + i, none⟩ = some (.pointer (some ⟨gb i, 0, none⟩)) :=
  ⟨by rw [hk_cell h.team, team_x], by rw [hk_cell h.team, team_b _ _ _ _ hi, upF_same]; rfl⟩
theorem act_ring_ne' {B : Nat} {w : World} {p : TW} {ga gb : Nat → Nat} {r : RS} {act : Nat → Option AS} {i : Nat} {a : AS} (h : IsTeam B w p ga gb r act) (hA : IsAct w (ga i) p.g a ∧ IsDAct w (gb i) a) : ga i ≠ p.g ∧ ga i ≠ p.sb := ⟨blk_ne hA.1.act h.ring.ring (by decide), blk_ne hA.1.act h.ring.slots (by decide)⟩
set_option maxHeartbeats 6400000 in
set_option maxRecDepth 100000 in
theorem tstep_walk (B : Nat) (p : TW) (ga gb : Nat → Nat) (r : RS) (act : Nat → Option AS) (i : Nat) (a : AS) (w : World) (h : IsTeam B w p ga gb r act) (hi : i < 6) (ha : act i = some a) (hw : a.well = false) (hn : a.next = 0 ∨ a.next = 1 ∨ a.next = 2 ∨ a.next = 3) :
    Calls Try.prog 36 #[.pointer (some ⟨p.tb, 0, none⟩), .int .i64 i] w (TSPost B w p ga gb r act i a) := by
  have H := Aside0.mk h
  have hA := h.acts i a hi ha
  have HA := Aside0.mk hA
  have q1 : w.cell? ⟨p.tb, 2 + i, none⟩ = some (.pointer (some ⟨ga i, 0, none⟩)) := by rw [hk_cell h.team, team_a _ _ _ _ hi, ha]; rfl
  have hi0 : (0 : Int) ≤ (i : Int) := by omega
  have hi6 : (i : Int) < 6 := by omega
  have HW := Aside0.mk hw
  have HN := Aside0.mk hn
  have HAI := Aside0.mk ha
  have hne := act_ring_ne' h hA
  clear h hA hw hn ha
  go_enter Try.func36, Try.ntmps36
  go_wp2_with fail
  with_reducible refine (step_walk (ga i) p.g p.sb r a w H.out.ring HA.out.1 hne.1 hne.2).mono ?_
  intro e w1 hp
  obtain ⟨he, hr, h1, hk⟩ := stepOut hp
  subst he
  have HR1 := Aside0.mk hr
  have H1 := Aside0.mk h1
  have K1 := Aside0.mk hk
  have NT : Aside0 (¬ (p.tb = ga i ∨ p.tb = p.g ∨ p.tb = p.sb)) := ⟨by
    rintro (e | e | e)
    · exact blk_ne H.out.team HA.out.1.act (by decide) e
    · exact blk_ne H.out.team H.out.ring.ring (by decide) e
    · exact blk_ne H.out.team H.out.ring.slots (by decide) e⟩
  have T1 := Aside0.mk (hk.blk H.out.team NT.out)
  have D1 : Aside0 (IsDoc w1 p.d r) := ⟨H.out.doc.keep hk (by
      rintro (e | e | e)
      · exact blk_ne H.out.doc.ring HA.out.1.act (by decide) e
      · exact blk_ne H.out.doc.ring H.out.ring.ring (by decide) e
      · exact blk_ne H.out.doc.ring H.out.ring.slots (by decide) e) (by
      obtain ⟨c1, hn, _⟩ := H.out.doc.num
      rintro (e | e | e)
      · exact blk_ne hn HA.out.1.act (by decide) e
      · exact blk_ne hn H.out.ring.ring (by decide) e
      · exact blk_ne hn H.out.ring.slots (by decide) e) (by
      obtain ⟨c1, hn, _⟩ := H.out.doc.val
      rintro (e | e | e)
      · exact blk_ne hn HA.out.1.act (by decide) e
      · exact blk_ne hn H.out.ring.ring (by decide) e
      · exact blk_ne hn H.out.ring.slots (by decide) e)⟩
  have A1 : Aside0 (IsDAct w1 (gb i) a) := ⟨HA.out.2.keep hk (by
      rintro (e | e | e)
      · exact blk_ne HA.out.2.act HA.out.1.act (by decide) e
      · exact blk_ne HA.out.2.act H.out.ring.ring (by decide) e
      · exact blk_ne HA.out.2.act H.out.ring.slots (by decide) e)⟩
  have q2 : w1.cell? ⟨p.tb, 1, none⟩ = some (.pointer (some ⟨p.d.x, 0, none⟩)) := by rw [hk_cell T1.out, team_x]
  have q3 : w1.cell? ⟨p.tb, 8 + i, none⟩ = some (.pointer (some ⟨gb i, 0, none⟩)) := by rw [hk_cell T1.out, team_b _ _ _ _ hi, HAI.out]; rfl
  have HDS := Aside0.mk (fun W (hd : IsDoc W p.d r) (hb : IsDAct W (gb i) a) => dstep_walk p.d (gb i) r a W hd hb H.out.ring.ok HA.out.1.ok HW.out HN.out)
  have D1D : Aside0 (IsDoc w1.drew p.d r) := ⟨D1.out.drew⟩
  have A1D : Aside0 (IsDAct w1.drew (gb i) a) := ⟨⟨A1.out.act⟩⟩
  obtain ⟨E, hE⟩ : ∃ E, E = ((stepA r a).next == 5) := ⟨_, rfl⟩
  have HE := Aside0.mk hE
  rw [← hE]
  clear hp hr h1 hk hE q1 hne
  go_wp2_with fail
  go_region_held3 (fun w' => w'.cell? ⟨p.tb, 1, none⟩ = some (.pointer (some ⟨p.d.x, 0, none⟩)) ∧ w'.cell? ⟨p.tb, 8 + i, none⟩ = some (.pointer (some ⟨gb i, 0, none⟩))) (first | go_keep | exact q45) (first | (go_at_call 44; with_reducible refine (HDS.out _ D1D.out A1D.out).mono ?_; intro e w2 hp; obtain ⟨he, hd, h2, hk⟩ := docOut hp; subst he; have HT2 := Aside0.mk (team_step H.out hi HAI.out K1.out HR1.out H1.out (Keep.trans (Keep.drew (Keep.refl _ _)) hk) hd h2); have q45 := team_cells HT2.out.1 hi))
  have HT := HT2
  have hr := fun W => @lw_cell W
  obtain ⟨D, hD⟩ : ∃ D, D = dnext (stepA r a).next := ⟨_, rfl⟩
  have HAA := Aside0.mk (HT.out.1.acts i (stepA r a) hi (upF_same _ _ _))
  have b1 : w2.cell? ⟨gb i, 1, none⟩ = some (.int .i64 D) := by rw [hk_cell HAA.out.2.act, hD]; rfl
  have b3 := hk_cell HAA.out.2.act 3
  have b5 := hk_cell HAA.out.2.act 5
  have q4 : w2.cell? ⟨p.tb, 0, none⟩ = some (.pointer (some ⟨p.g, 0, none⟩)) := by rw [hk_cell HT.out.1.team, team_r]
  have q5 : w2.cell? ⟨p.tb, 1, none⟩ = some (.pointer (some ⟨p.d.x, 0, none⟩)) := q45.1
  have q6 : w2.cell? ⟨p.tb, 2 + i, none⟩ = some (.pointer (some ⟨ga i, 0, none⟩)) := by rw [hk_cell HT.out.1.team, team_a _ _ _ _ hi, upF_same]; rfl
  have q7 : w2.cell? ⟨p.tb, 8 + i, none⟩ = some (.pointer (some ⟨gb i, 0, none⟩)) := q45.2
  have x0 := hk_cell HT.out.1.doc.ring 0
  have x1 := hk_cell HT.out.1.doc.ring 1
  have hDE : (D == 0) = E := by rw [hD, HE.out]; exact dnext_ended _ (by have := HAA.out.1.ok.2.2.2; exact this)
  have l1 := hk_lt HT.out.1.team
  have l2 := hk_lt HAA.out.2.act
  have l3 := hk_lt HT.out.1.doc.ring
  have HEN := Aside0.mk (fun W (hW : IsAct W (ga i) p.g (stepA r a)) => (by rw [HE.out]; exact ended_walk (ga i) p.g _ W hW : Calls Try.prog 26 #[.pointer (some ⟨ga i, 0, none⟩)] W fun e w' => e = .returned (.bool E) ∧ w' = W))
  have hEE : (E == E) = true := by simp
  clear q45 hD
  go_wp2_with fail
  refine region_laterL (by as_aux_lemma => kernel_rfl) (by as_aux_lemma => kernel_rfl) (by as_aux_lemma => kernel_rfl) ?_
  simp only [List.append_eq, List.cons_append, List.nil_append]
  repeat (go_big_quiet_step (first
    | (go_at_call 26; refine later_same (HEN.out _ (HAA.out.1.below (Subtype.property _))))
    | (go_at_call 15; refine later_same (ok_walk _ _ _ _ (HAA.out.1.below (Subtype.property _))))
    | (go_at_call 16; refine later_same (value_walk _ _ _ _ (HAA.out.1.below (Subtype.property _))))
    | (go_at_call 45; refine later_same (dvalue_walk _ _ _ (HAA.out.2.below (Subtype.property _))))
    | (go_at_call 14; refine later_same (place_walk _ _ _ _ (HAA.out.1.below (Subtype.property _))))
    | (go_at_call 22; refine later_same (tail_walk _ _ _ _ (HT.out.1.ring.below (Subtype.property _))))
    | (go_at_call 23; refine later_same (head_walk _ _ _ _ (HT.out.1.ring.below (Subtype.property _))))))
  refine wpQuiet_nil ?_
  rintro w4 ⟨⟨_, hb4⟩, rfl⟩
  go_wp2
  go_ret
  exact ⟨rfl, HT.out.1.below hb4, HT.out.2.trans (Keep.of_below hb4)⟩
end Go.Proofs.Ytepbggoeajihbaa.Ring
