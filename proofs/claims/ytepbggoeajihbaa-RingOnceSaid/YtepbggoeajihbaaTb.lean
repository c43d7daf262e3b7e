/- The team: begin. -/
import Derived.Test.YtepbggoeajihbaaTm
set_option linter.unusedVariables false
set_option linter.unusedSimpArgs false
namespace Go.Proofs.Ytepbggoeajihbaa.Ring
open Go.RowKit Go.Proofs.YtepbggoeajihbaaW.PrintWords Go.Proofs.YtepbggoeajihbaaW.PrintLast Go.Proofs.YtepbggoeajihbaaW.PrintMore Go.Proofs.YtepbggoeajihbaaHk
attribute [local go_sem ↓] Go.wp_at_zero Go.wp_at_succ

def BPost (B : Nat) (w : World) (p : TW) (ga gb : Nat → Nat) (r : RS) (act : Nat → Option AS) (i : Nat) (a : AS) (e : Ending) (w' : World) : Prop :=
  e = .returned (.tuple #[]) ∧ ∃ ga' gb', IsTeam B w' p ga' gb' r (upF act i (some a)) ∧ Keep (fun k => k = p.tb) w w'
theorem bOut {B : Nat} {w w' : World} {p : TW} {ga gb : Nat → Nat} {r : RS} {act : Nat → Option AS} {i : Nat} {a : AS} {e : Ending} (h : BPost B w p ga gb r act i a e w') :
  e = .returned (.tuple #[]) ∧ ∃ ga' gb', IsTeam B w' p ga' gb' r (upF act i (some a)) ∧ Keep (fun k => k = p.tb) w w' := h
theorem upd_actPtr (act : Nat → Option AS) (ga : Nat → Nat) (i bA : Nat) (a : AS) : (updV (fun j => actPtr (act j) (ga j)) i (.pointer (some ⟨bA, 0, none⟩))) = fun j => actPtr (upF act i (some a) j) ((fun k => if k = i then bA else ga k) j) := by
  funext j
  unfold updV
  by_cases e : j = i
  · subst e; rw [upF_same]; simp [actPtr]
  · rw [upF_ne _ _ _ e]; simp [e]
/-- Two new acts, stored. -/
theorem team_begin {B : Nat} {w w2 : World} {p : TW} {ga gb : Nat → Nat} {r : RS} {act : Nat → Option AS} {i bA bD : Nat} {a : AS} (h : IsTeam B w p ga gb r act) (hi : i < 6) (ha : act i = none)
    (hb : Below w.heap.size w w2) (hA : IsAct w2 bA p.g a) (hD : IsDAct w2 bD a) (h1 : w.heap.size ≤ bA) (h2 : w.heap.size ≤ bD) :
    ∃ ga' gb', IsTeam B ((w2.setCell ⟨p.tb, 2 + i, none⟩ (.pointer (some ⟨bA, 0, none⟩))).setCell ⟨p.tb, 8 + i, none⟩ (.pointer (some ⟨bD, 0, none⟩))) p ga' gb' r (upF act i (some a)) ∧
      Keep (fun k => k = p.tb) w ((w2.setCell ⟨p.tb, 2 + i, none⟩ (.pointer (some ⟨bA, 0, none⟩))).setCell ⟨p.tb, 8 + i, none⟩ (.pointer (some ⟨bD, 0, none⟩))) := by
  have T := h.below hb
  have hfar : ∀ {b : Nat} {cb : Array Value} {t : TypeId}, w2.heap[b]? = some (.cells cb t) → t ≠ 55 → ((w2.setCell ⟨p.tb, 2 + i, none⟩ (.pointer (some ⟨bA, 0, none⟩))).setCell ⟨p.tb, 8 + i, none⟩ (.pointer (some ⟨bD, 0, none⟩))).heap[b]? = some (.cells cb t) :=
    fun h1 h2 => hk_far (p := ⟨p.tb, 8 + i, none⟩) (hk_far (p := ⟨p.tb, 2 + i, none⟩) h1 (blk_ne h1 T.team h2) _) (blk_ne h1 T.team h2) _
  have hact : ∀ j b, j < 6 → upF act i (some a) j = some b → (j = i ∧ b = a) ∨ (j ≠ i ∧ act j = some b) := by
    intro j b hj hb
    by_cases e : j = i
    · subst e; rw [upF_same] at hb; exact .inl ⟨rfl, (Option.some.inj hb).symm⟩
    · rw [upF_ne _ _ _ e] at hb; exact .inr ⟨e, hb⟩
  have k2 : Keep (fun k => k = p.tb) w ((w2.setCell ⟨p.tb, 2 + i, none⟩ (.pointer (some ⟨bA, 0, none⟩))).setCell ⟨p.tb, 8 + i, none⟩ (.pointer (some ⟨bD, 0, none⟩))) := ((Keep.of_below (S := fun k => k = p.tb) hb).set rfl _ _).set rfl _ _
  refine ⟨fun k => if k = i then bA else ga k, fun k => if k = i then bD else gb k, ⟨?_, ⟨hfar T.ring.ring (by decide), hfar T.ring.slots (by decide), T.ring.ne, T.ring.ok⟩, ?_, ?_, ?_, ?_, T.ge, ?_, Nat.le_trans h.bw k2.size⟩, k2⟩
  · rw [hk_set (hk_set T.team (2 + i) _) (8 + i) _, team_set_a _ _ _ _ hi, team_set_b _ _ _ _ hi, upd_actPtr act ga i bA a, upd_actPtr act gb i bD a]
  · obtain ⟨c1, hn, hn2⟩ := T.doc.num
    obtain ⟨c2, hv, hv2⟩ := T.doc.val
    exact ⟨hfar T.doc.ring (by decide), ⟨c1, hfar hn (by decide), hn2⟩, ⟨c2, hfar hv (by decide), hv2⟩, T.doc.ne⟩
  · intro j b hj hb
    rcases hact j b hj hb with ⟨e, e2⟩ | ⟨e, e2⟩
    · subst e; subst e2; simp only [if_true]; exact ⟨⟨hfar hA.act (by decide), hA.ok⟩, ⟨hfar hD.act (by decide)⟩⟩
    · simp only [if_neg e]
      have := T.acts j b hj e2
      exact ⟨⟨hfar this.1.act (by decide), this.1.ok⟩, ⟨hfar this.2.act (by decide)⟩⟩
  · intro j k x y hj hk hx hy e
    rcases hact j x hj hx with ⟨e1, _⟩ | ⟨e1, e2⟩ <;> rcases hact k y hk hy with ⟨f1, _⟩ | ⟨f1, f2⟩
    · omega
    · rw [if_pos e1, if_neg f1] at e
      have := hk_lt (h.acts k y hk f2).1.act; omega
    · rw [if_neg e1, if_pos f1] at e
      have := hk_lt (h.acts j x hj e2).1.act; omega
    · rw [if_neg e1, if_neg f1] at e
      exact h.da j k x y hj hk e2 f2 e
  · intro j k x y hj hk hx hy e
    rcases hact j x hj hx with ⟨e1, _⟩ | ⟨e1, e2⟩ <;> rcases hact k y hk hy with ⟨f1, _⟩ | ⟨f1, f2⟩
    · omega
    · rw [if_pos e1, if_neg f1] at e
      have := hk_lt (h.acts k y hk f2).2.act; omega
    · rw [if_neg e1, if_pos f1] at e
      have := hk_lt (h.acts j x hj e2).2.act; omega
    · rw [if_neg e1, if_neg f1] at e
      exact h.db j k x y hj hk e2 f2 e
  · intro j b hj hb
    rcases hact j b hj hb with ⟨e, e2⟩ | ⟨e, e2⟩
    · subst e; simp only [if_true]; have := h.bw; omega
    · simp only [if_neg e]; exact h.gea j b hj e2
theorem store_keep {w : World} {b o o' : Nat} {u : Value} {v : Option Value} (hne : o' ≠ o) (h : w.cell? ⟨b, o, none⟩ = v) : (w.setCell ⟨b, o', none⟩ u).cell? ⟨b, o, none⟩ = v :=
  (World.cell?_setCell_other w _ _ _ (by intro e; injection e with _ e2; exact hne e2)).trans h
set_option maxHeartbeats 6400000 in
set_option maxRecDepth 100000 in
theorem begin_walk (B : Nat) (p : TW) (ga gb : Nat → Nat) (r : RS) (act : Nat → Option AS) (i : Nat) (d v : Int) (w : World) (h : IsTeam B w p ga gb r act) (hi : i < 6) (ha : act i = none) (hd : 0 ≤ d ∧ d ≤ 255) (hv : U64 v) :
    Calls Try.prog 35 #[.pointer (some ⟨p.tb, 0, none⟩), .int .i64 i, .int .u8 d, .int .u64 v] w (BPost B w p ga gb r act i (beginA d v)) := by
  have H := Aside0.mk h
  have HAI := Aside0.mk ha
  have HV := Aside0.mk hv
  have T0 : Aside0 (w.drew.heap[p.tb]? = _) := ⟨h.team⟩
  have q0 : w.cell? ⟨p.tb, 0, none⟩ = some (.pointer (some ⟨p.g, 0, none⟩)) := by rw [hk_cell h.team, team_r]
  have hi0 : (0 : Int) ≤ (i : Int) := by omega
  have hi6 : (i : Int) < 6 := by omega
  have htl := hk_lt h.team
  have HB0 : Aside0 (Below w.heap.size w w.drew) := ⟨⟨rfl, rfl, rfl, Nat.le_refl _, fun _ _ => rfl⟩⟩
  clear h ha hv
  by_cases hk : d % 4 < 2
  · have hdk : decide (d % 4 < 2) = true := by simpa using hk
    have HE : Aside0 (beginA d v = ⟨false, 0, 0, 0, v, false⟩) := ⟨by unfold beginA; rw [if_pos hk]; rfl⟩
    clear hk
    go_enter Try.func35, Try.ntmps35
    go_wp2_with fail
    go_region_held3 (fun w' => w'.cell? ⟨p.tb, 0, none⟩ = some (.pointer (some ⟨p.g, 0, none⟩))) (first | go_keep | exact qA | exact qD | exact store_keep (by omega) qA | exact store_keep (by omega) qD | exact store_keep (by omega) (store_keep (by omega) qA) | exact store_keep (by omega) (store_keep (by omega) qD)) (first
      | (go_at_call 33; (with_reducible refine (push_walk p.g v _ HV.out).mono ?_); intro e wA hp; obtain ⟨he, hA, hbA, hsA⟩ := newOut hp; subst he; have TA := Aside0.mk (hk_below hbA (by first | exact hk_lt TD.out | exact hk_lt T0.out) (by first | exact TD.out | exact T0.out)); have HA := Aside0.mk hA; have HBA := Aside0.mk hbA; have qA : wA.cell? ⟨p.tb, 0, none⟩ = some (.pointer (some ⟨p.g, 0, none⟩)) := (by rw [hk_cell TA.out, team_r]); have zA : wA.cell? ⟨p.tb, 2 + i, none⟩ = some (.pointer none) := (by rw [hk_cell TA.out, team_a _ _ _ _ hi, HAI.out]; rfl); have yA : wA.cell? ⟨p.tb, 8 + i, none⟩ = some (.pointer none) := (by rw [hk_cell TA.out, team_b _ _ _ _ hi, HAI.out]; rfl); have fA := hk_frozen TA.out (2 + i); have eA := hk_frozen TA.out (8 + i); clear hA hbA hsA hp)
      | (go_at_call 43; refine (dbegin_walk false v _).mono ?_; rintro e wD ⟨rfl, hD, hbD, hsD⟩; have TD := Aside0.mk (hk_below hbD (by first | exact hk_lt TA.out | exact hk_lt T0.out) (by first | exact TA.out | exact T0.out)); have HD := Aside0.mk hD; have HBD := Aside0.mk hbD; have qD : wD.cell? ⟨p.tb, 0, none⟩ = some (.pointer (some ⟨p.g, 0, none⟩)) := (by rw [hk_cell TD.out, team_r]); have zD : wD.cell? ⟨p.tb, 2 + i, none⟩ = some (.pointer none) := (by rw [hk_cell TD.out, team_a _ _ _ _ hi, HAI.out]; rfl); have yD : wD.cell? ⟨p.tb, 8 + i, none⟩ = some (.pointer none) := (by rw [hk_cell TD.out, team_b _ _ _ _ hi, HAI.out]; rfl); have fD := hk_frozen TD.out (2 + i); have eD := hk_frozen TD.out (8 + i); clear hD hbD hsD))
    go_wp2
    go_end0
    have hz := HBA.out.size
    exact ⟨rfl, by rw [HE.out]; exact team_begin H.out hi HAI.out (HB0.out.trans (HBA.out.trans (HBD.out.mono hz))) (HA.out.below HBD.out) HD.out (Nat.le_refl _) hz⟩
  · have hdk : decide (d % 4 < 2) = false := by simpa using hk
    have HE : Aside0 (beginA d v = ⟨true, 0, 0, 0, 0, false⟩) := ⟨by unfold beginA; rw [if_neg hk]; rfl⟩
    clear hk
    go_enter Try.func35, Try.ntmps35
    go_wp2_with fail
    go_region_held3 (fun w' => w'.cell? ⟨p.tb, 0, none⟩ = some (.pointer (some ⟨p.g, 0, none⟩))) (first | go_keep | exact qA | exact qD | exact store_keep (by omega) qA | exact store_keep (by omega) qD | exact store_keep (by omega) (store_keep (by omega) qA) | exact store_keep (by omega) (store_keep (by omega) qD)) (first
      | (go_at_call 32; (with_reducible refine (pop_walk p.g _).mono ?_); intro e wA hp; obtain ⟨he, hA, hbA, hsA⟩ := newOut hp; subst he; have TA := Aside0.mk (hk_below hbA (by first | exact hk_lt TD.out | exact hk_lt T0.out) (by first | exact TD.out | exact T0.out)); have HA := Aside0.mk hA; have HBA := Aside0.mk hbA; have qA : wA.cell? ⟨p.tb, 0, none⟩ = some (.pointer (some ⟨p.g, 0, none⟩)) := (by rw [hk_cell TA.out, team_r]); have zA : wA.cell? ⟨p.tb, 2 + i, none⟩ = some (.pointer none) := (by rw [hk_cell TA.out, team_a _ _ _ _ hi, HAI.out]; rfl); have yA : wA.cell? ⟨p.tb, 8 + i, none⟩ = some (.pointer none) := (by rw [hk_cell TA.out, team_b _ _ _ _ hi, HAI.out]; rfl); have fA := hk_frozen TA.out (2 + i); have eA := hk_frozen TA.out (8 + i); clear hA hbA hsA hp)
      | (go_at_call 43; refine (dbegin_walk true 0 _).mono ?_; rintro e wD ⟨rfl, hD, hbD, hsD⟩; have TD := Aside0.mk (hk_below hbD (by first | exact hk_lt TA.out | exact hk_lt T0.out) (by first | exact TA.out | exact T0.out)); have HD := Aside0.mk hD; have HBD := Aside0.mk hbD; have qD : wD.cell? ⟨p.tb, 0, none⟩ = some (.pointer (some ⟨p.g, 0, none⟩)) := (by rw [hk_cell TD.out, team_r]); have zD : wD.cell? ⟨p.tb, 2 + i, none⟩ = some (.pointer none) := (by rw [hk_cell TD.out, team_a _ _ _ _ hi, HAI.out]; rfl); have yD : wD.cell? ⟨p.tb, 8 + i, none⟩ = some (.pointer none) := (by rw [hk_cell TD.out, team_b _ _ _ _ hi, HAI.out]; rfl); have fD := hk_frozen TD.out (2 + i); have eD := hk_frozen TD.out (8 + i); clear hD hbD hsD))
    go_wp2
    go_end0
    have hz := HBA.out.size
    exact ⟨rfl, by rw [HE.out]; exact team_begin H.out hi HAI.out (HB0.out.trans (HBA.out.trans (HBD.out.mono hz))) (HA.out.below HBD.out) HD.out (Nat.le_refl _) hz⟩
end Go.Proofs.Ytepbggoeajihbaa.Ring
