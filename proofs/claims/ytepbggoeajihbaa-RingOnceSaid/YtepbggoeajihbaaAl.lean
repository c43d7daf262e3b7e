/- RingAlone, walked. -/
import Derived.Test.YtepbggoeajihbaaAw
import Derived.Test.YtepbggoeajihbaaWQPut
import Derived.Test.YtepbggoeajihbaaFlat
import Derived.LoopTactic
import Derived.Outline
set_option linter.unusedVariables false
set_option linter.unusedSimpArgs false
namespace Go.Proofs.Ytepbggoeajihbaa.Ring
open Go.RowKit Go.Proofs.YtepbggoeajihbaaW.PrintWords Go.Proofs.YtepbggoeajihbaaW.PrintLast Go.Proofs.YtepbggoeajihbaaW.PrintMore Go.Proofs.YtepbggoeajihbaaHk
open Go.Proofs.YtepbggoeajihbaaFlat

/-- What picks read as. -/
structure PickOk (p : PK) : Prop where
  t : 0 ≤ p.t ∧ p.t ≤ 255
  d : 0 ≤ p.d ∧ p.d ≤ 255
  v : U64 p.v
structure PickAt (w : World) (A : Option Addr) (k : Nat) (p : PK) : Prop where
  ok : PickOk p
  at_ : ∃ ab ao, A = some ⟨ab, ao, none⟩ ∧ w.cell? ⟨ab, ao + k * 3, none⟩ = some (.int .u8 p.t) ∧ w.cell? ⟨ab, ao + k * 3 + 1, none⟩ = some (.int .u8 p.d) ∧ w.cell? ⟨ab, ao + k * 3 + 2, none⟩ = some (.int .u64 p.v)
def PicksAt (w : World) (A : Option Addr) (ps : List PK) : Prop := ∀ k, k < ps.length → PickAt w A k (ps.getD k ⟨0, 0, 0⟩)
theorem add_none (b o n : Nat) : (⟨b, o, none⟩ : Addr).add n = ⟨b, o + n, none⟩ := by unfold Addr.add; split <;> simp_all
theorem picks_of {w : World} {a : Option Addr} {len cap : Nat} (f : len ≤ cap ∧ cap ≤ maxLen ∧ (a = none → len = 0 ∧ cap = 0) ∧ ∀ ad, a = some ad → ∀ i, i < len → ∃ cs, Scs [some .u8, some .u8, some .u64] cs ∧ ∀ j, j < 3 → w.cell? (ad.add (i * 3 + j)) = cs[j]?) :
    ∃ ps : List PK, ps.length = len ∧ PicksAt w a ps := by
  obtain ⟨_, _, h0, h1⟩ := f
  have key : ∀ k, k < len → ∃ p, PickAt w a k p := by
    intro k hk
    rcases a with _ | ⟨ab, ao, sp⟩
    · have := (h0 rfl).1; omega
    · have hs : sp = none := by
        obtain ⟨cs, hcs, hc⟩ := h1 _ rfl 0 (by omega)
        have h2 := hc 0 (by omega)
        obtain _ | ⟨⟨n, rfl, _⟩, _⟩ := hcs
        simp [Addr.add, World.cell?] at h2
        split at h2
        · split at h2
          · cases h2
          · rename_i hn; simpa using hn
        · cases h2
      subst hs
      obtain ⟨cs, hcs, hc⟩ := h1 _ rfl k hk
      obtain _ | ⟨⟨x, rfl, wx⟩, hcs⟩ := hcs
      obtain _ | ⟨⟨y, rfl, wy⟩, hcs⟩ := hcs
      obtain _ | ⟨⟨z, rfl, wz⟩, hcs⟩ := hcs
      cases hcs
      refine ⟨⟨x, y, z⟩, ⟨?_, ?_, ?_⟩, ab, ao, rfl, ?_, ?_, ?_⟩
      · simpa [Lit.wf, IntKind.min, IntKind.max, IntKind.signed, IntKind.bits] using wx
      · simpa [Lit.wf, IntKind.min, IntKind.max, IntKind.signed, IntKind.bits] using wy
      · simpa [Lit.wf, IntKind.min, IntKind.max, IntKind.signed, IntKind.bits, U64] using wz
      · have := hc 0 (by omega); rw [add_none] at this; exact this
      · have := hc 1 (by omega); rw [add_none] at this; exact this
      · have := hc 2 (by omega); rw [add_none] at this; exact this
  have build : ∀ m, m ≤ len → ∃ ps : List PK, ps.length = m ∧ PicksAt w a ps := by
    intro m
    induction m with
    | zero => exact fun _ => ⟨[], rfl, fun k hk => by simp at hk⟩
    | succ m ih =>
      intro hm
      obtain ⟨ps, hl, hp⟩ := ih (by omega)
      obtain ⟨p, hpa⟩ := key m (by omega)
      refine ⟨ps ++ [p], by simp [hl], fun k hk => ?_⟩
      simp [hl] at hk
      by_cases e : k < m
      · have := hp k (by omega)
        rwa [show (ps ++ [p]).getD k ⟨0, 0, 0⟩ = ps.getD k ⟨0, 0, 0⟩ from by simp [List.getD_eq_getElem?_getD, List.getElem?_append_left (show k < ps.length by omega)]]
      · obtain rfl : k = m := by omega
        have : (ps ++ [p]).getD k ⟨0, 0, 0⟩ = p := by simp [List.getD_eq_getElem?_getD, ← hl]
        rw [this]; exact hpa
  exact build len (Nat.le_refl _)
theorem PickAt.below {w w' : World} {A : Option Addr} {k : Nat} {p : PK} (h : PickAt w A k p) (hb : Below w.heap.size w w') : PickAt w' A k p := by
  obtain ⟨ho, ab, ao, h1, h2, h3, h4⟩ := h
  have hl : ab < w.heap.size := World.block_lt_of_cell? w _ h2
  exact ⟨ho, ab, ao, h1, (hb.cell (p := ⟨ab, ao + k * 3, none⟩) hl).trans h2, (hb.cell (p := ⟨ab, ao + k * 3 + 1, none⟩) hl).trans h3, (hb.cell (p := ⟨ab, ao + k * 3 + 2, none⟩) hl).trans h4⟩

/-- What the loop keeps. -/
structure AlInv (w : World) (g sb n k : Nat) (v7 : Value) (q : List Int) (R : RS) (wr : World) : Prop where
  ring : IsRing wr g sb R
  inv : QInv k R q
  row : (Kd.int .u64).Q 32 wr w.heap.size (fun _ => True) v7 q
  below : Below w.heap.size w wr
  n : R.n = n
  g : w.heap.size ≤ g
  sb : w.heap.size ≤ sb
theorem infoU64 : (Try.prog.info? 32).map (fun i => (i.zero, i.size, i.bytes)) = some (some (.int .u64 0), (Kd.int .u64).sz, 8) := by kernel_rfl
theorem alone_row {g sb base : Nat} {R : RS} {w w' : World} {v : Value} {q : List Int} (h : (Kd.int .u64).Q 32 w base (fun _ => True) v q) (hk : Keep (fun i => i = g ∨ i = sb) w w') (hr : IsRing w g sb R) : (Kd.int .u64).Q 32 w' base (fun _ => True) v q := by
  have h1 := Kd.Q_types h hr.ring (by intro t ht; simp [Kd.int, Kd.scalar] at ht; subst ht; decide)
  have h2 := Kd.Q_types h1 hr.slots (by intro t ht; simp [Kd.int, Kd.scalar] at ht; subst ht; decide)
  exact Kd.Q_mono (Kd.Q_step h2 (fun i hi hlt => hk.block i hlt (by rintro (e | e); exact hi.1.2 e; exact hi.2 e))) (fun _ _ => trivial)
theorem alone_ring {g sb base : Nat} {R : RS} {w w' : World} {v : Value} {q : List Int} (h : IsRing w g sb R) (hg : w.grownBy w' v.ownBlock) (hq : (Kd.int .u64).Q 32 w base (fun _ => True) v q) : IsRing w' g sb R :=
  ⟨(hg.block g (hk_lt h.ring) (Kd.Q_ne hq h.ring (by decide))).trans h.ring, (hg.block sb (hk_lt h.slots) (Kd.Q_ne hq h.slots (by decide))).trans h.slots, h.ne, h.ok⟩
set_option maxHeartbeats 3200000 in
set_option maxRecDepth 100000 in
theorem alone_walk (n : Int) (A : Option Addr) (ps : List PK) (len cap : Nat) (w : World) (hn : 0 ≤ n ∧ n ≤ 255) (hlen : ps.length = len) (hps : PicksAt w A ps) (hlm : len ≤ 9223372036854775807) :
    Calls Try.prog 7 #[.int .u8 n, .slice A len cap] w fun e w' => e = .returned (.bool true) ∧ Below w.heap.size w w' := by
  have HPS := Aside0.mk hps
  have HLEN := Aside0.mk hlen
  obtain ⟨c, hc⟩ : ∃ c, c = capOf n := ⟨_, rfl⟩
  have hc3 : c = 2 ∨ c = 4 ∨ c = 8 := by rw [hc]; unfold capOf; split <;> (try split) <;> simp
  have HC3 := Aside0.mk hc3
  have HCP : Aside0 (∀ W, Calls Try.prog 11 #[.int .u8 n] W fun e w' => e = .returned (.int .i64 c) ∧ w' = W) := ⟨fun W => by rw [hc]; exact capacity_walk n hn W⟩
  have HNW := Aside0.mk (fun W => new_walk c hc3 W)
  have hu49 := Try.underlying49
  clear hps hlen hc hc3 hn
  go_enter Try.func7, Try.ntmps7
  go_wp2_with fail
  with_reducible refine (awake_walk _).mono ?_
  rintro e w1 ⟨rfl, hb1⟩
  have HB1 := Aside0.mk hb1
  clear hb1
  go_wp2_with fail
  with_reducible refine (HCP.out _).mono ?_
  rintro e w2 ⟨rfl, rfl⟩
  go_wp2_with fail
  with_reducible refine (HNW.out _).mono ?_
  intro e w2 hp
  obtain ⟨g, sb, he, hr, hg, hsb, hb⟩ := nwOut hp
  subst he
  have HI : Aside0 (AlInv w g sb c 0 (.slice none 0 0) [] (newR c) w2) := ⟨hr, q_new c HC3.out, Kd.Q_nil _ _ _ _ _, HB1.out.trans (hb.mono HB1.out.size), rfl, Nat.le_trans HB1.out.size hg, Nat.le_trans HB1.out.size hsb⟩
  clear hp hr hb hg hsb
  go_wp2_with fail
  go_loopw [7, 23] (fun v7 v23 wr => ∃ (k : Nat), k ≤ len ∧ k ≤ 200 ∧ v23 = .int .i64 k ∧ Aside0 (∃ q R, AlInv w g sb c k v7 q R wr)) (fun _ v23 _ => len - (intOf v23).toNat)
  case atStart => exact ⟨0, by omega, by omega, rfl, ⟨_, _, HI.out⟩⟩
  case round =>
    obtain ⟨k, hk, hk2, rfl, HJ⟩ := hrel
    obtain ⟨q, R, hJ⟩ := HJ.out
    have HJJ := Aside0.mk hJ
    clear HJ
    by_cases hlt : k < len
    · have hpk := HPS.out k (by rw [HLEN.out]; exact hlt)
      obtain ⟨p, hpe⟩ : ∃ p, p = ps.getD k ⟨0, 0, 0⟩ := ⟨_, rfl⟩
      rw [← hpe] at hpk
      clear hpe
      have hpk2 := hpk.below (hJ.below)
      obtain ⟨ab, ao, hA, e0, e1, e2⟩ := hpk2.at_
      have hab : ab < wr.heap.size := World.block_lt_of_cell? wr _ e0
      subst hA
      have hPD := Aside0.mk hpk.ok
      have hpt := hpk.ok.t
      have hpd := hpk.ok.d
      have hpv : 0 ≤ p.v ∧ p.v ≤ 18446744073709551615 := hpk.ok.v
      have hwz : w.heap.size ≤ wr.heap.size := hJ.below.size
      clear hpk hpk2
      have hk0 : (0 : Int) ≤ (k : Int) := by omega
      by_cases h200 : k < 200
      · by_cases hev : p.d % 2 = 0
        · have ht : (p.d % 2 == 0) = true := by simpa using hev
          clear hev
          have RG := Aside0.mk (hJ.ring.below ((Below.refl _ _).alloc (Nat.le_refl _) (.cells #[.int .u8 p.t, .int .u8 p.d, .int .u64 p.v] 49)))
          have hqi := hJ.inv
          have hgl := hJ.g
          have hsl := hJ.sb
          obtain ⟨A', c', hv, hlc⟩ := Kd.Q_slice hJ.row
          have HB := Aside0.mk (hJ.below.alloc hwz (.cells #[.int .u8 p.t, .int .u8 p.d, .int .u64 p.v] 49))
          have HROW := Aside0.mk (Kd.Q_alloc hJ.row (.cells #[.int .u8 p.t, .int .u8 p.d, .int .u64 p.v] 49))
          subst hv
          have hRn := hJ.n
          have hle := hqi.le
          have HP := Aside0.mk (blk_new wr (.cells #[.int .u8 p.t, .int .u8 p.d, .int .u64 p.v] 49))
          have hne : wr.heap.size ≠ g ∧ wr.heap.size ≠ sb := ⟨by have := hk_lt hJ.ring.ring; omega, by have := hk_lt hJ.ring.slots; omega⟩
          have HNE := Aside0.mk hne
          have hL8 : q.length ≤ 8 := by have := hqi.n3; omega
          clear hne hJ HJJ
          by_cases hroom : q.length < c
          · obtain ⟨R1, A1, s1, o1, q1, n1, _, _⟩ := q_push hqi (by omega) p.v (by rw [hRn]; exact hroom)
            have S1 := Aside0.mk s1
            have O1 := Aside0.mk o1
            have Q1 := Aside0.mk q1
            have N1 := Aside0.mk (n1.trans hRn)
            have hd : decide (q.length < c) = true := by simpa using hroom
            clear s1 o1 q1 n1 hqi hRn hle
            go_wp2_with fail
            with_reducible refine (HCP.out _).mono ?_
            rintro e w3 ⟨rfl, rfl⟩
            go_wp2_with fail
            with_reducible refine (trypush_walk g sb R p.v R1 A1 _ RG.out hPD.out.v S1.out).mono ?_
            intro e w3 hp
            obtain ⟨he, hr, hkp⟩ := tryOut hp
            subst he
            rw [O1.out]
            have RG1 := Aside0.mk hr
            have HB3 := Aside0.mk (HB.out.trans (hkp.ring_below (by simp; omega) hgl hsl))
            have HP3 := Aside0.mk (hkp.blk HP.out (by rintro (e | e); exact HNE.out.1 e; exact HNE.out.2 e))
            have HROW3 := Aside0.mk (show (Kd.int .u64).Q 32 w3 w.heap.size (fun _ => True) (.slice A' q.length c') q from alone_row HROW.out hkp RG.out)
            have hz3 : w.heap.size ≤ w3.heap.size := HB3.out.size
            have z2 := hk_cell HP3.out 2
            clear hp hr hkp e0 e1 e2
            go_wp2_with (at_builtin; refine Kd.Q_append (Kd.int .u64) (w0 := w) w.heap.size (by rfl) (.tmp 46) (.tmp 49) 44 32 (.int .u64 0) 8 rfl Try.underlying44 infoU64 rfl (by decide) (by omega) (.slice A' q.length c') q p.v [.int .u64 p.v] (fun _ => True) (fun _ => False) rfl rfl rfl (fun _ h => h.elim) (fun _ _ => trivial) HROW3.out HB3.out hz3 (by omega) ?_; intro v1 w4 hrow4 hb4 hg4 _)
            have HN4 := Aside0.mk (show AlInv w g sb c (k + 1) v1 (q ++ [p.v]) R1 w4 from ⟨alone_ring RG1.out hg4 HROW3.out, Q1.out, hrow4, hb4, N1.out, hgl, hsl⟩)
            clear hrow4 hb4 hg4
            go_wp2_with fail
            go_roundw
            case rel => exact ⟨k + 1, by omega, by omega, by go_num, ⟨⟨_, _, HN4.out⟩⟩⟩
            case measure => simp [intOf]; omega
          · obtain ⟨A1, s1, o1⟩ := q_full hqi (by omega) p.v (by rw [hRn]; exact hroom)
            have S1 := Aside0.mk s1
            have O1 := Aside0.mk o1
            have Q1 := Aside0.mk (q_ok hqi (k + 1 : Nat) (by omega))
            have N1 := Aside0.mk hRn
            have hd : decide (q.length < c) = false := by simpa using hroom
            clear s1 o1 hqi hRn hle
            go_wp2_with fail
            with_reducible refine (HCP.out _).mono ?_
            rintro e w3 ⟨rfl, rfl⟩
            go_wp2_with fail
            with_reducible refine (trypush_walk g sb R p.v R A1 _ RG.out hPD.out.v S1.out).mono ?_
            intro e w3 hp
            obtain ⟨he, hr, hkp⟩ := tryOut hp
            subst he
            rw [O1.out]
            have HB3 := HB.out.trans (hkp.ring_below (by simp; omega) hgl hsl)
            have HN4 := Aside0.mk (show AlInv w g sb c (k + 1) (.slice A' q.length c') q R w3 from ⟨hr, Q1.out, alone_row HROW.out hkp RG.out, HB3, N1.out, hgl, hsl⟩)
            clear hp hr hkp e0 e1 e2 HB3
            go_wp2_with fail
            go_roundw
            case rel => exact ⟨k + 1, by omega, by omega, by go_num, ⟨⟨_, _, HN4.out⟩⟩⟩
            case measure => simp [intOf]; omega
        · have ht : (p.d % 2 == 0) = false := by simpa using hev
          clear hev
          have RG := Aside0.mk (hJ.ring.below ((Below.refl _ _).alloc (Nat.le_refl _) (.cells #[.int .u8 p.t, .int .u8 p.d, .int .u64 p.v] 49)))
          have hqi := hJ.inv
          have hgl := hJ.g
          have hsl := hJ.sb
          have HB := Aside0.mk (hJ.below.alloc hwz (.cells #[.int .u8 p.t, .int .u8 p.d, .int .u64 p.v] 49))
          have HROW := Aside0.mk (Kd.Q_alloc hJ.row (.cells #[.int .u8 p.t, .int .u8 p.d, .int .u64 p.v] 49))
          have hRn := hJ.n
          clear hJ HJJ
          obtain _ | ⟨x, q⟩ := q
          · obtain ⟨A1, s1, o1, v1⟩ := q_empty hqi (by omega)
            have S1 := Aside0.mk s1
            have O1 := Aside0.mk o1
            have V1 := Aside0.mk v1
            have Q1 := Aside0.mk (q_ok hqi (k + 1 : Nat) (by omega))
            have N1 := Aside0.mk hRn
            obtain ⟨A', c', hv, hlc⟩ := Kd.Q_slice HROW.out
            subst hv
            clear s1 o1 v1 hqi hRn hlc
            go_wp2_with fail
            with_reducible refine (trypop_walk g sb R R A1 _ RG.out S1.out).mono ?_
            intro e w3 hp
            obtain ⟨he, hr, hkp⟩ := tryOut hp
            subst he
            rw [O1.out, V1.out]
            have HB3 := HB.out.trans (hkp.ring_below (by simp; omega) hgl hsl)
            have HN4 := Aside0.mk (show AlInv w g sb c (k + 1) (.slice A' ([] : List Int).length c') [] R w3 from ⟨hr, Q1.out, alone_row HROW.out hkp RG.out, HB3, N1.out, hgl, hsl⟩)
            clear hp hr hkp e0 e1 e2 HB3
            go_wp2_with fail
            go_roundw
            case rel => exact ⟨k + 1, by omega, by omega, by go_num, ⟨⟨_, _, HN4.out⟩⟩⟩
            case measure => simp [intOf]; omega
          · obtain ⟨R1, A1, s1, o1, v1, q1, n1, _, _⟩ := q_pop hqi (by omega)
            have S1 := Aside0.mk s1
            have O1 := Aside0.mk o1
            have V1 := Aside0.mk v1
            have Q1 := Aside0.mk (q_ok q1 (k + 1 : Nat) (by omega))
            have N1 := Aside0.mk (n1.trans hRn)
            obtain ⟨g', o', c', hv, _, _, _, _⟩ := Kd.Q_form HROW.out (by simp)
            have hlc := (Kd.Q_slice HROW.out)
            have hle := hqi.le
            have hn3 := hqi.n3
            subst hv
            have hlen8 : q.length + 1 ≤ 8 := by simp at hle; omega
            have hc1 : q.length + 1 ≤ c' := by obtain ⟨A2, c2, h1, h2⟩ := hlc; injection h1 with h3 h4 h5; subst h5; simpa using h2
            simp only [List.length_cons] at HROW
            clear s1 o1 v1 q1 n1 hqi hRn hlc hle hn3
            obtain ⟨i71, hi71, _, hz71, _⟩ := info_parts infoU64
            obtain ⟨V, hV⟩ : ∃ V, V = Value.slice (if c' = 1 then some ⟨g', o', none⟩ else (some ⟨g', o', none⟩ : Option Addr).map (·.add (1 * 1))) (q.length + 1 - 1) (c' - 1) := ⟨_, rfl⟩
            have hcut : ∀ W : World, (Instr.slice 44 (.slice (some ⟨g', o', none⟩) (q.length + 1) c') (some (.int .i64 1)) none none).run Try.prog W = .ok V W := fun W => by rw [hV]; exact cut_from 44 32 .i64 Try.underlying44 hi71 1 hz71 _ _ _ 1 (by omega) (by omega) W
            have HV := Aside0.mk hV
            clear hV hi71 hz71
            go_wp2_with fail
            with_reducible refine (trypop_walk g sb R R1 A1 _ RG.out S1.out).mono ?_
            intro e w3 hp
            obtain ⟨he, hr, hkp⟩ := tryOut hp
            subst he
            rw [O1.out, V1.out]
            have HB3 := HB.out.trans (hkp.ring_below (by simp; omega) hgl hsl)
            have hrow3 := alone_row HROW.out hkp RG.out
            have c0 : w3.cell? ⟨g', o', none⟩ = some (.int .u64 x) := (Kd.Q_cell (0 : Int) hrow3 0 (by omega) (by omega)).1
            have hrow4 : (Kd.int .u64).Q 32 w3 w.heap.size (fun _ => True) V q := by rw [HV.out]; exact Kd.Q_drop (k := 1) hrow3 (by simp)
            have HN4 := Aside0.mk (show AlInv w g sb c (k + 1) V q R1 w3 from ⟨hr, Q1.out, hrow4, HB3, N1.out, hgl, hsl⟩)
            have hgt : decide (0 < q.length + 1) = true := by simp
            clear hp hr hkp e0 e1 e2 HB3 hrow3 hrow4
            go_wp2_with fail
            go_roundw
            case rel => exact ⟨k + 1, by omega, by omega, by go_num, ⟨⟨_, _, HN4.out⟩⟩⟩
            case measure => simp [intOf]; omega
      · have RG := Aside0.mk (hJ.ring.below ((Below.refl _ _).alloc (Nat.le_refl _) (.cells #[.int .u8 p.t, .int .u8 p.d, .int .u64 p.v] 49)))
        have hqi := hJ.inv
        obtain ⟨A', c', hv, _⟩ := Kd.Q_slice hJ.row
        have hB := Aside0.mk (hJ.below.alloc hwz (.cells #[.int .u8 p.t, .int .u8 p.d, .int .u64 p.v] 49))
        subst hv
        have hT := hqi.hT
        have h0 := hqi.h0
        have htc := hqi.tc
        have hle := hqi.le
        have hRn : (c : Int) = R.n := by rw [hJ.n]
        have hn3 := hqi.n3
        clear hqi hJ
        obtain ⟨L, hL⟩ : ∃ L, L = q.length := ⟨_, rfl⟩
        have HL := Aside0.mk hL
        rw [← hL] at hT hle ⊢
        clear hL
        have HT : Aside0 (IntKind.u64.wrap (R.T - R.H) = (L : Int)) := ⟨by rw [IntKind.wrap_u64, hT]; omega⟩
        have HRN := Aside0.mk hRn
        have hLb : L ≤ 8 := by omega
        clear hT hRn hle
        go_wp2_with fail
        with_reducible refine (tail_walk g sb R _ RG.out).mono ?_
        rintro e w3 ⟨rfl, rfl⟩
        go_wp2_with fail
        with_reducible refine (head_walk g sb R _ RG.out).mono ?_
        rintro e w3 ⟨rfl, rfl⟩
        have hTT : (IntKind.u64.wrap (R.T - R.H) == (L : Int)) = true := by rw [HT.out]; simp
        go_wp2_with fail
        with_reducible refine (cap_walk g sb R _ RG.out).mono ?_
        rintro e w3 ⟨rfl, rfl⟩
        rw [← HRN.out]
        go_wp2_with fail
        with_reducible refine (HCP.out _).mono ?_
        rintro e w3 ⟨rfl, rfl⟩
        go_wp2
        go_ret
        exact ⟨rfl, hB.out⟩
    · have RG := Aside0.mk (hJ.ring)
      have hqi := hJ.inv
      obtain ⟨A', c', hv, _⟩ := Kd.Q_slice hJ.row
      have hB := Aside0.mk (hJ.below)
      subst hv
      have hT := hqi.hT
      have h0 := hqi.h0
      have htc := hqi.tc
      have hle := hqi.le
      have hRn : (c : Int) = R.n := by rw [hJ.n]
      have hn3 := hqi.n3
      clear hqi hJ
      obtain ⟨L, hL⟩ : ∃ L, L = q.length := ⟨_, rfl⟩
      have HL := Aside0.mk hL
      rw [← hL] at hT hle ⊢
      clear hL
      have HT : Aside0 (IntKind.u64.wrap (R.T - R.H) = (L : Int)) := ⟨by rw [IntKind.wrap_u64, hT]; omega⟩
      have HRN := Aside0.mk hRn
      have hLb : L ≤ 8 := by omega
      clear hT hRn hle
      go_wp2_with fail
      with_reducible refine (tail_walk g sb R _ RG.out).mono ?_
      rintro e w3 ⟨rfl, rfl⟩
      go_wp2_with fail
      with_reducible refine (head_walk g sb R _ RG.out).mono ?_
      rintro e w3 ⟨rfl, rfl⟩
      have hTT : (IntKind.u64.wrap (R.T - R.H) == (L : Int)) = true := by rw [HT.out]; simp
      go_wp2_with fail
      with_reducible refine (cap_walk g sb R _ RG.out).mono ?_
      rintro e w3 ⟨rfl, rfl⟩
      rw [← HRN.out]
      go_wp2_with fail
      with_reducible refine (HCP.out _).mono ?_
      rintro e w3 ⟨rfl, rfl⟩
      go_wp2
      go_ret
      exact ⟨rfl, hB.out⟩
end Go.Proofs.Ytepbggoeajihbaa.Ring
namespace Go.Proofs.Ytepbggoeajihbaa.Ring
open Go.RowKit Go.Proofs.YtepbggoeajihbaaFlat
theorem u8_of {n : Int} (h : (Lit.int .u8 n).wf = true) : 0 ≤ n ∧ n ≤ 255 := by simpa [Lit.wf, IntKind.min, IntKind.max, IntKind.signed, IntKind.bits] using h
theorem alone_row_ (n : Int) (a : Option Addr) (len cap : Nat) (w : World) (wn : (Lit.int .u8 n).wf = true)
    (f : len ≤ cap ∧ cap ≤ maxLen ∧ (a = none → len = 0 ∧ cap = 0) ∧ ∀ ad, a = some ad → ∀ i, i < len → ∃ cs, Scs [some .u8, some .u8, some .u64] cs ∧ ∀ j, j < 3 → w.cell? (ad.add (i * 3 + j)) = cs[j]?) (hl : len * 16 ≤ 140737488351232) :
    Calls Try.prog 7 #[.int .u8 n, .slice a len cap] w fun e w' => e = .returned (.bool true) ∧ Below w.heap.size w w' := by
  obtain ⟨ps, hp, hps⟩ := picks_of f
  exact alone_walk n a ps len cap w (u8_of wn) hp hps (by omega)
end Go.Proofs.Ytepbggoeajihbaa.Ring
