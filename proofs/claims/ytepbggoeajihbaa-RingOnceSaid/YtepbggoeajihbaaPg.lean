/- RingProgress, walked. -/
import Derived.Test.YtepbggoeajihbaaPy
import Derived.Test.YtepbggoeajihbaaPr
set_option linter.unusedVariables false
set_option linter.unusedSimpArgs false
namespace Go.Proofs.Ytepbggoeajihbaa.Ring
open Go.RowKit Go.Proofs.YtepbggoeajihbaaW.PrintWords Go.Proofs.YtepbggoeajihbaaW.PrintLast Go.Proofs.YtepbggoeajihbaaW.PrintMore Go.Proofs.YtepbggoeajihbaaHk
open Go.Proofs.YtepbggoeajihbaaFlat Go.Proofs.YtepbggoeajihbaaRx

/-- What the records' row reads as. -/
def OutAt (wr : World) (A : Option Addr) (l : List DS) : Prop := ∀ k, k < l.length → ∃ g, A = some ⟨g, 0, none⟩ ∧ ∀ j, j < 6 → wr.cell? ⟨g, k * 6 + j, none⟩ = some (doneCell (l.getD k zeroD) j)
theorem outCells_get (l : List DS) (k j : Nat) (hk : k < l.length) (hj : j < 6) : (outCells l)[k * 6 + j]? = some (doneCell (l.getD k zeroD) j) := by
  induction l generalizing k with
  | nil => simp at hk
  | cons d l ih =>
    have e : outCells (d :: l) = doneCells d ++ outCells l := rfl
    rw [e]
    have hl : (doneCells d).length = 6 := rfl
    cases k with
    | zero => rw [List.getElem?_append_left (by rw [hl]; omega), Nat.zero_mul, Nat.zero_add, doneCell_get d j hj]; rfl
    | succ k =>
      rw [List.getElem?_append_right (by rw [hl]; omega), hl, show (k + 1) * 6 + j - 6 = k * 6 + j from by omega, ih k (by simpa using hk)]
      simp
theorem out_form {wr : World} {base : Nat} {v : Value} {l : List DS} (h : wr.ownsRow base 57 6 v l.length (outCells l)) : ∃ A cap, v = .slice A l.length cap ∧ OutAt wr A l ∧ (∀ g, A = some ⟨g, 0, none⟩ → g < wr.heap.size) ∧ l.length ≤ cap := by
  rcases h.2 with ⟨hv, h0⟩ | ⟨g, cap, cur, hv, hb, hg, hnc, hcm, hcs, htake⟩
  · exact ⟨none, 0, by rw [hv, h0], fun k hk => by omega, (fun g hg => nomatch hg), by omega⟩
  · refine ⟨some ⟨g, 0, none⟩, cap, hv, fun k hk => ⟨g, rfl, fun j hj => ?_⟩, fun g' hg' => by injection hg' with e; injection e with e1; rw [← e1]; exact hk_lt hg, hnc⟩
    rw [hk_cell hg]
    have h1 := outCells_get l k j hk hj
    rw [← htake, List.getElem?_take_of_lt (by omega)] at h1
    simpa using h1
theorem OutAt.below {wr w' : World} {A : Option Addr} {l : List DS} (h : OutAt wr A l) (hA : ∀ g, A = some ⟨g, 0, none⟩ → g < wr.heap.size) (hb : Below wr.heap.size wr w') : OutAt w' A l := fun k hk => by
  obtain ⟨g, hg, hc⟩ := h k hk
  exact ⟨g, hg, fun j hj => (hb.cell (p := ⟨g, k * 6 + j, none⟩) (hA g hg)).trans (hc j hj)⟩
theorem retSum_take (l : List DS) (k : Nat) (hk : k < l.length) : retSum (l.take (k + 1)) = retSum (l.take k) + (l.getD k zeroD).ret := by
  rw [List.take_succ_eq_append_getElem hk, retSum_snoc]; congr 2; simp [hk]
/-- retries are not many. -/
theorem ret_bound {ps : List PK} {c : Nat} : ∀ k : Nat, (∀ i, 0 ≤ ((runTo ps k (openU c)).now i).ret ∧ ((runTo ps k (openU c)).now i).ret ≤ k) ∧ (∀ d ∈ (runTo ps k (openU c)).out, 0 ≤ d.ret ∧ d.ret ≤ k) ∧ (runTo ps k (openU c)).out.length ≤ k := by
  intro k
  induction k with
  | zero => exact ⟨fun i => by simp [runTo, openU, zeroD], fun d hd => by simp [runTo, openU] at hd, by simp [runTo, openU]⟩
  | succ k ih =>
    obtain ⟨h1, h2, h3⟩ := ih
    have hone : ∀ (a : AS) (i : Nat), 0 ≤ (oneD a (stepA (runTo ps k (openU c)).r a) ((runTo ps k (openU c)).now i)).ret ∧ (oneD a (stepA (runTo ps k (openU c)).r a) ((runTo ps k (openU c)).now i)).ret ≤ k + 1 := by
      intro a i; have := h1 i; unfold oneD; split
      · show 0 ≤ ((runTo ps k (openU c)).now i).ret + 1 ∧ ((runTo ps k (openU c)).now i).ret + 1 ≤ _; omega
      · omega
    unfold runTo pickStep
    split
    · refine ⟨fun i => ?_, fun d hd => ?_, ?_⟩
      · simp only [doBegin]; unfold upF; split
        · simp; omega
        · have := h1 i; omega
      · have := h2 d hd; omega
      · show (runTo ps k (openU c)).out.length ≤ k + 1; omega
    · rename_i a ha
      refine ⟨fun i => ?_, fun d hd => ?_, ?_⟩
      · simp only [doStep]; unfold upF; split
        · split
          · unfold endD; simp only; have := hone a (thread (ps.getD k ⟨0, 0, 0⟩)); omega
          · have := hone a (thread (ps.getD k ⟨0, 0, 0⟩)); omega
        · have := h1 i; omega
      · simp only [doStep] at hd
        split at hd
        · rcases List.mem_append.1 hd with hd | hd
          · have := h2 d hd; omega
          · have hd := List.mem_singleton.1 hd; subst hd; unfold endD; simp only; have := hone a (thread (ps.getD k ⟨0, 0, 0⟩)); omega
        · have := h2 d hd; omega
      · simp only [doStep]; split
        · simp; omega
        · omega
theorem retSum_bound (l : List DS) (h : ∀ d ∈ l, 0 ≤ d.ret ∧ d.ret ≤ 200) : ∀ k, 0 ≤ retSum (l.take k) ∧ retSum (l.take k) ≤ 200 * k := by
  intro k
  induction k with
  | zero => simp [retSum]
  | succ k ih =>
    by_cases hk : k < l.length
    · rw [retSum_take l k hk]
      have : l.getD k zeroD ∈ l := by simp [List.getD_eq_getElem?_getD, hk]
      have := h _ this; omega
    · rw [List.take_of_length_le (by omega)]; rw [List.take_of_length_le (by omega)] at ih; omega
set_option maxHeartbeats 3200000 in
set_option maxRecDepth 100000 in
theorem progress_walk (n : Int) (A : Option Addr) (ps : List PK) (len cap : Nat) (w : World) (hn : 0 ≤ n ∧ n ≤ 255) (hlen : ps.length = len) (hps : PicksAt w A ps) (hlm : len ≤ 9223372036854775807) :
    Calls Try.prog 8 #[.int .u8 n, .slice A len cap] w fun e w' => e = .returned (.bool true) ∧ Below w.heap.size w w' := by
  have HPS := Aside0.mk hps
  have HLEN := Aside0.mk hlen
  have HN := Aside0.mk hn
  clear hps hlen hn
  go_enter Try.func8, Try.ntmps8
  go_wp2_with fail
  with_reducible refine (awake_walk _).mono ?_
  rintro e w1 ⟨rfl, hb1⟩
  have HB1 := Aside0.mk hb1
  clear hb1
  go_wp2_with fail
  with_reducible refine (open_walk n HN.out w1).mono ?_
  intro e w2 hp
  obtain ⟨p, he, ht, hb⟩ := openOut hp
  subst he
  have HT := Aside0.mk ht
  have HB2 := Aside0.mk hb
  have HP2 := Aside0.mk (picks_below (picks_below HPS.out HB1.out) hb)
  have HPL : Aside0 (0 < len → ∀ ad, A = some ad → ad.block < w1.heap.size) := ⟨fun h => picks_lt (picks_below HPS.out HB1.out) (by rw [HLEN.out]; exact h)⟩
  clear hp ht hb
  go_wp2_with fail
  with_reducible refine (run_walk w1.heap.size (capOf n) (capOf_three n) p A ps len cap w2 HT.out HLEN.out HP2.out HPL.out hlm).mono ?_
  intro e w3 hp
  obtain ⟨v6, ga, gb, he, ht, ho, hb⟩ := runOut hp
  subst he
  have HT3 := Aside0.mk ht
  have HB3 := Aside0.mk (HB1.out.trans ((HB2.out.trans hb).mono HB1.out.size))
  obtain ⟨A6, c6, hv6, hout, hA6, hc6⟩ := out_form ho
  subst hv6
  have HPR := Aside0.mk (progress (ps := ps) (capOf_three n))
  have hnn := run_nonneg (ps := ps) (capOf_three n)
  have hrk : runLen ps ≤ 200 := by unfold runLen; omega
  have hrb := ret_bound (ps := ps) (c := capOf n) (runLen ps)
  obtain ⟨l, hl⟩ : ∃ l, l = (run ps (openU (capOf n))).out := ⟨_, rfl⟩
  have HRB : Aside0 (∀ d ∈ l, 0 ≤ d.ret ∧ d.ret ≤ 200) := ⟨fun d hd => by rw [hl] at hd; have := hrb.2.1 d hd; omega⟩
  have hll : l.length ≤ 200 := by rw [hl]; have := hrb.2.2; unfold run; omega
  obtain ⟨T, hT⟩ : ∃ T, T = (run ps (openU (capOf n))).r.T := ⟨_, rfl⟩
  obtain ⟨Hd, hHd⟩ : ∃ Hd, Hd = (run ps (openU (capOf n))).r.H := ⟨_, rfl⟩
  have HTW : Aside0 (∀ W, IsRing W p.g p.sb (run ps (openU (capOf n))).r → Calls Try.prog 22 #[.pointer (some ⟨p.g, 0, none⟩)] W fun e w' => e = .returned (.int .u64 T) ∧ w' = W) := ⟨fun W hW => by rw [hT]; exact tail_walk p.g p.sb _ W hW⟩
  have HHW : Aside0 (∀ W, IsRing W p.g p.sb (run ps (openU (capOf n))).r → Calls Try.prog 23 #[.pointer (some ⟨p.g, 0, none⟩)] W fun e w' => e = .returned (.int .u64 Hd) ∧ w' = W) := ⟨fun W hW => by rw [hHd]; exact head_walk p.g p.sb _ W hW⟩
  rw [← hl, ← hT, ← hHd] at HPR
  rw [← hl] at hout hc6
  rw [← hT, ← hHd] at hnn
  rw [← hl]
  have HOUT := Aside0.mk hout
  have HA6 := Aside0.mk hA6
  clear hp ht ho hb hl hT hHd hout hA6 hrb hrk
  go_wp2_with fail
  go_loopw [8, 25] (fun v8 v25 wr => ∃ k : Nat, k ≤ l.length ∧ v25 = .int .i64 k ∧ Aside0 (v8 = .int .i64 (retSum (l.take k)) ∧ Below w3.heap.size w3 wr)) (fun _ v25 _ => l.length - (intOf v25).toNat)
  case atStart => exact ⟨0, by omega, rfl, ⟨⟨by simp [retSum], Below.refl _ _⟩⟩⟩
  case round =>
    obtain ⟨k, hk, rfl, HJ⟩ := hrel
    have hv8 := HJ.out.1
    subst hv8
    have hrs := retSum_bound l HRB.out k
    obtain ⟨S, hS⟩ : ∃ S, S = retSum (l.take k) := ⟨_, rfl⟩
    have HS := Aside0.mk hS
    rw [← hS] at hrs ⊢
    have HBW := Aside0.mk HJ.out.2
    clear HJ hS
    by_cases hlt : k < l.length
    · obtain ⟨g, hg, hc⟩ := (HOUT.out.below HA6.out HBW.out) k hlt
      have hgl : g < wr.heap.size := Nat.lt_of_lt_of_le (HA6.out g hg) HBW.out.size
      subst hg
      obtain ⟨d, hd⟩ : ∃ d, d = l.getD k zeroD := ⟨_, rfl⟩
      rw [← hd] at hc
      have z0 : wr.cell? ⟨g, k * 6, none⟩ = some (.int .i64 d.kind) := hc 0 (by omega)
      have z1 : wr.cell? ⟨g, k * 6 + 1, none⟩ = some (.int .u64 d.v) := hc 1 (by omega)
      have z2 : wr.cell? ⟨g, k * 6 + 2, none⟩ = some (.int .i64 d.beg) := hc 2 (by omega)
      have z3 : wr.cell? ⟨g, k * 6 + 3, none⟩ = some (.int .i64 d.fin) := hc 3 (by omega)
      have z4 : wr.cell? ⟨g, k * 6 + 4, none⟩ = some (.bool d.well) := hc 4 (by omega)
      have z5 : wr.cell? ⟨g, k * 6 + 5, none⟩ = some (.int .i64 d.ret) := hc 5 (by omega)
      have hk0 : (0 : Int) ≤ (k : Int) := by omega
      have hdr : 0 ≤ d.ret ∧ d.ret ≤ 200 := HRB.out d (by rw [hd]; simp [List.getD_eq_getElem?_getD, hlt])
      have HNX : Aside0 (S + d.ret = retSum (l.take (k + 1))) := ⟨by rw [retSum_take l k hlt, HS.out, hd]⟩
      have HB9 := Aside0.mk (HBW.out.alloc HBW.out.size (.cells #[.int .i64 d.kind, .int .u64 d.v, .int .i64 d.beg, .int .i64 d.fin, .bool d.well, .int .i64 d.ret] 57))
      clear hc hd
      go_wp2_with fail
      go_roundw
      case rel => exact ⟨k + 1, by omega, by go_num, ⟨⟨by rw [HNX.out], HB9.out⟩⟩⟩
      case measure => simp [intOf]; omega
    · have hkl : l.take k = l := List.take_of_length_le (by omega)
      have HKL : Aside0 (S ≤ 5 * (T + Hd)) := ⟨by rw [HS.out, hkl]; exact HPR.out⟩
      have HTE := Aside0.mk (HT3.out.below HBW.out)
      have q0 : wr.cell? ⟨p.tb, 0, none⟩ = some (.pointer (some ⟨p.g, 0, none⟩)) := by rw [hk_cell HTE.out.team, team_r]
      have hr := fun W => @lw_cell W
      have htl := hk_lt HTE.out.team
      have hle : decide (S ≤ 5 * (T + Hd)) = true := by simpa using HKL.out
      have hw1 : IntKind.u64.wrap (T + Hd) = T + Hd := by rw [IntKind.wrap_u64]; omega
      have hw2 : IntKind.i64.wrap (T + Hd) = T + Hd := IntWalk.i64_in _ (by omega)
      have hw3 : IntKind.i64.wrap (5 * (T + Hd)) = 5 * (T + Hd) := IntWalk.i64_in _ (by omega)
      clear hkl
      go_wp2_with fail
      refine region_laterL (by kernel_rfl) (by kernel_rfl) (by kernel_rfl) ?_
      repeat (go_big_quiet_step (first
        | (go_at_call 22; refine later_same (HTW.out _ (HTE.out.ring.below (Subtype.property _))))
        | (go_at_call 23; refine later_same (HHW.out _ (HTE.out.ring.below (Subtype.property _))))))
      refine wpQuiet_nil ?_
      rintro w4 ⟨⟨_, hb4⟩, rfl⟩
      have HF := Aside0.mk (HB3.out.trans ((HBW.out.trans (hb4.mono HBW.out.size)).mono HB3.out.size))
      clear hb4
      go_wp2
      go_ret
      exact ⟨rfl, HF.out⟩
theorem progress_row (n : Int) (a : Option Addr) (len cap : Nat) (w : World) (wn : (Lit.int .u8 n).wf = true)
    (f : len ≤ cap ∧ cap ≤ maxLen ∧ (a = none → len = 0 ∧ cap = 0) ∧ ∀ ad, a = some ad → ∀ i, i < len → ∃ cs, Scs [some .u8, some .u8, some .u64] cs ∧ ∀ j, j < 3 → w.cell? (ad.add (i * 3 + j)) = cs[j]?) (hl : len * 16 ≤ 140737488351232) :
    Calls Try.prog 8 #[.int .u8 n, .slice a len cap] w fun e w' => e = .returned (.bool true) ∧ Below w.heap.size w w' := by
  obtain ⟨ps, hp, hps⟩ := picks_of f
  exact progress_walk n a ps len cap w (u8_of wn) hp hps (by omega)
end Go.Proofs.Ytepbggoeajihbaa.Ring
