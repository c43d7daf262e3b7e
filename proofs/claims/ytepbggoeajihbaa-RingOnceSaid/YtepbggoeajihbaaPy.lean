/- RingPlays, walked. -/
import Derived.Test.YtepbggoeajihbaaRs
set_option linter.unusedVariables false
set_option linter.unusedSimpArgs false
namespace Go.Proofs.Ytepbggoeajihbaa.Ring
open Go.RowKit Go.Proofs.YtepbggoeajihbaaW.PrintWords Go.Proofs.YtepbggoeajihbaaW.PrintLast Go.Proofs.YtepbggoeajihbaaW.PrintMore Go.Proofs.YtepbggoeajihbaaHk
open Go.Proofs.YtepbggoeajihbaaFlat

theorem openOut {w w' : World} {n : Nat} {e : Ending} (h : OpenPost w n e w') : ∃ p, e = .returned (.pointer (some ⟨p.tb, 0, none⟩)) ∧ IsTeam w.heap.size w' p (fun _ => 0) (fun _ => 0) (newR n) (fun _ => none) ∧ Below w.heap.size w w' := h
theorem runOut {B : Nat} {w w' : World} {p : TW} {u : US} {e : Ending} (h : RunPost B w p u e w') : ∃ v6 ga gb, e = .returned (.tuple #[v6, .bool true]) ∧ IsTeam B w' p ga gb u.r u.act ∧ w'.ownsRow w.heap.size 57 6 v6 u.out.length (outCells u.out) ∧ Below B w w' := h
theorem restOut {B : Nat} {w w' : World} {p : TW} {u : US} {e : Ending} (h : RestPost B w p u e w') :
  ∃ v5 v6 ga gb l, e = .returned (.tuple #[v5, v6, .bool true]) ∧ (rest u).out = u.out ++ l ∧ RsInv B w p ga gb v5 v6 (rest u).r (rest u).act (popsOf l) (pushesOf l) w' := h
theorem picks_lt {w : World} {A : Option Addr} {ps : List PK} (h : PicksAt w A ps) : 0 < ps.length → ∀ ad, A = some ad → ad.block < w.heap.size := by
  intro hp ad ha
  obtain ⟨ab, ao, hA, e, _⟩ := (h 0 hp).at_
  rw [hA] at ha; injection ha with ha; subst ha
  exact World.block_lt_of_cell? w _ e
theorem picks_below {w w' : World} {A : Option Addr} {ps : List PK} (h : PicksAt w A ps) (hb : Below w.heap.size w w') : PicksAt w' A ps := fun k hk => (h k hk).below hb
theorem run_inv {ps : List PK} {c : Nat} (hc : c = 2 ∨ c = 4 ∨ c = 8) : InvA 200 (run ps (openU c)) ∧ KV (run ps (openU c)) := by
  have hk : runLen ps ≤ 200 := by unfold runLen; omega
  exact ⟨invA_mono (invA_run (invA_open c hc) ps (runLen ps) (by omega)) (by omega), kv_run hc (runLen ps) (by omega)⟩
end Go.Proofs.Ytepbggoeajihbaa.Ring
namespace Go.Proofs.Ytepbggoeajihbaa.Ring
open Go.RowKit Go.Proofs.YtepbggoeajihbaaW.PrintWords Go.Proofs.YtepbggoeajihbaaW.PrintLast Go.Proofs.YtepbggoeajihbaaW.PrintMore Go.Proofs.YtepbggoeajihbaaHk
open Go.Proofs.YtepbggoeajihbaaFlat
theorem capOf_three (n : Int) : capOf n = 2 ∨ capOf n = 4 ∨ capOf n = 8 := by unfold capOf; split <;> (try split) <;> simp
set_option maxHeartbeats 3200000 in
set_option maxRecDepth 100000 in
theorem plays_walk (n : Int) (A : Option Addr) (ps : List PK) (len cap : Nat) (w : World) (hn : 0 ≤ n ∧ n ≤ 255) (hlen : ps.length = len) (hps : PicksAt w A ps) (hlm : len ≤ 9223372036854775807) :
    Calls Try.prog 4 #[.int .u8 n, .slice A len cap] w fun e w' => e = .returned (.bool true) ∧ Below w.heap.size w w' := by
  have HPS := Aside0.mk hps
  have HLEN := Aside0.mk hlen
  have HN := Aside0.mk hn
  clear hps hlen hn
  go_enter Try.func4, Try.ntmps4
  go_wp2_with fail
  with_reducible refine (awake_walk _).mono ?_
  rintro e w1 ⟨rfl, hb1⟩
  have HB1 := Aside0.mk hb1
  clear hb1
  go_wp2_with fail
  with_reducible refine (open_walk n HN.out w1).mono ?_
  intro e w2 hp
  obtain ⟨p, he, ht, hb⟩ := openOut hp
  subst he
  have HT := Aside0.mk ht
  have HB2 := Aside0.mk hb
  have HP2 := Aside0.mk (picks_below (picks_below HPS.out HB1.out) hb)
  have HPL : Aside0 (0 < len → ∀ ad, A = some ad → ad.block < w1.heap.size) := ⟨fun h => picks_lt (picks_below HPS.out HB1.out) (by rw [HLEN.out]; exact h)⟩
  clear hp ht hb
  go_wp2_with fail
  with_reducible refine (run_walk w1.heap.size (capOf n) (capOf_three n) p A ps len cap w2 HT.out HLEN.out HP2.out HPL.out hlm).mono ?_
  intro e w3 hp
  obtain ⟨v6, ga, gb, he, ht, ho, hb⟩ := runOut hp
  subst he
  have HT3 := Aside0.mk ht
  have HB3 := Aside0.mk hb
  have HI := Aside0.mk (run_inv (ps := ps) (capOf_three n))
  clear hp ht ho hb
  go_wp2_with fail
  with_reducible refine (rest_walk w1.heap.size p ga gb _ 200 w3 HT3.out HI.out.1 (by omega) (by omega) HI.out.2).mono ?_
  intro e w4 hp
  obtain ⟨v5, v7, ga4, gb4, l, he, _, hr⟩ := restOut hp
  subst he
  have HB4 := Aside0.mk hr.below
  clear hp hr
  go_wp2
  go_ret
  refine ⟨rfl, HB1.out.trans (((HB2.out.trans HB3.out).trans HB4.out).mono HB1.out.size)⟩
theorem plays_row (n : Int) (a : Option Addr) (len cap : Nat) (w : World) (wn : (Lit.int .u8 n).wf = true)
    (f : len ≤ cap ∧ cap ≤ maxLen ∧ (a = none → len = 0 ∧ cap = 0) ∧ ∀ ad, a = some ad → ∀ i, i < len → ∃ cs, Scs [some .u8, some .u8, some .u64] cs ∧ ∀ j, j < 3 → w.cell? (ad.add (i * 3 + j)) = cs[j]?) (hl : len * 16 ≤ 140737488351232) :
    Calls Try.prog 4 #[.int .u8 n, .slice a len cap] w fun e w' => e = .returned (.bool true) ∧ Below w.heap.size w w' := by
  obtain ⟨ps, hp, hps⟩ := picks_of f
  exact plays_walk n a ps len cap w (u8_of wn) hp hps (by omega)
end Go.Proofs.Ytepbggoeajihbaa.Ring
