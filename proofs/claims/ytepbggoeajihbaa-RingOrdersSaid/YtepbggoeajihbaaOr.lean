/- RingOrders, walked. -/
import Derived.Test.YtepbggoeajihbaaOw
import Derived.Maps.OwnIn
import Derived.Deep.DeepMust
import Derived.Deep.DeepCutAuto
set_option linter.unusedVariables false
set_option linter.unusedSimpArgs false
namespace Go.Proofs.Ytepbggoeajihbaa.Ring
open Go.RowKit Go.Proofs.YtepbggoeajihbaaW.PrintWords Go.Proofs.YtepbggoeajihbaaW.PrintLast Go.Proofs.YtepbggoeajihbaaW.PrintMore Go.Proofs.YtepbggoeajihbaaHk
open Go.Proofs.YtepbggoeajihbaaFlat Go.Proofs.YtepbggoeajihbaaRx
set_option maxHeartbeats 3200000 in
set_option maxRecDepth 100000 in
theorem orders_walk (n : Int) (A : Option Addr) (ps : List PK) (len cap : Nat) (w : World) (hn : 0 ≤ n ∧ n ≤ 255) (hlen : ps.length = len) (hps : PicksAt w A ps) (hlm : len * 16 ≤ 140737488351232) :
    Calls Try.prog 6 #[.int .u8 n, .slice A len cap] w fun e w' => e = .returned (.bool true) ∧ Below w.heap.size w w' := by
  have HPS := Aside0.mk hps
  have HLEN := Aside0.mk hlen
  have HN := Aside0.mk hn
  have hu49 := Try.underlying49
  clear hps hlen hn
  go_enter Try.func6, Try.ntmps6
  go_wp2_with fail
  with_reducible refine (awake_walk _).mono ?_
  rintro e w1 ⟨rfl, hb1⟩
  have HB1 := Aside0.mk hb1
  clear hb1
  go_wp2_with fail
  go_loopw [5, 26] (fun v5 v26 wr => ∃ k : Nat, k ≤ len ∧ v26 = .int .i64 k ∧ Aside0 (wr.ownsRow w1.heap.size 49 3 v5 k (pickRow (ownOf ps k)) ∧ Below w1.heap.size w1 wr)) (fun _ v26 _ => len - (intOf v26).toNat)
  case atStart => exact ⟨0, by omega, rfl, ⟨⟨⟨rfl, .inl ⟨rfl, rfl⟩⟩, Below.refl _ _⟩⟩⟩
  case round =>
    obtain ⟨k, hk, rfl, HJ⟩ := hrel
    by_cases hlt : k < len
    · have hpk := HPS.out k (by rw [HLEN.out]; exact hlt)
      obtain ⟨q, hpe⟩ : ∃ p, p = ps.getD k ⟨0, 0, 0⟩ := ⟨_, rfl⟩
      rw [← hpe] at hpk
      have HPE := Aside0.mk hpe
      clear hpe
      have hpk2 := (hpk.below HB1.out).below HJ.out.2
      obtain ⟨ab, ao, hA, e0, e1, e2⟩ := hpk2.at_
      have hab : ab < wr.heap.size := World.block_lt_of_cell? wr _ e0
      subst hA
      have hpt := hpk.ok.t
      have hpd := hpk.ok.d
      have hpv : 0 ≤ q.v ∧ q.v ≤ 18446744073709551615 := hpk.ok.v
      clear hpk hpk2
      have hk0 : (0 : Int) ≤ (k : Int) := by omega
      go_upto_region 8 with fail
      have HP1 := Aside0.mk (hk_new wr (.cells #[.int .u8 q.t, .int .u8 q.d, .int .u64 (k + 1)] 49))
      have HR1 := Aside0.mk (HJ.out.1.alloc (.cells #[.int .u8 q.t, .int .u8 q.d, .int .u64 (k + 1)] 49))
      have HW1 := Aside0.mk (HJ.out.2.alloc HJ.out.2.size (.cells #[.int .u8 q.t, .int .u8 q.d, .int .u64 (k + 1)] 49))
      generalize wr.alloc (.cells #[.int .u8 q.t, .int .u8 q.d, .int .u64 (k + 1)] 49) = W at HP1 HR1 HW1 ⊢
      generalize wr.heap.size = g at HP1 ⊢
      have z0 : W.cell? ⟨g, 0, none⟩ = some (.int .u8 q.t) := by rw [hk_cell HP1.out]; rfl
      have z1 : W.cell? ⟨g, 1, none⟩ = some (.int .u8 q.d) := by rw [hk_cell HP1.out]; rfl
      have z2 : W.cell? ⟨g, 2, none⟩ = some (.int .u64 (k + 1)) := by rw [hk_cell HP1.out]; rfl
      have hbs : w1.heap.size ≤ W.heap.size := HW1.out.size
      have hlb : (k + 1) * 16 ≤ 140737488355328 := by omega
      have HQ : Aside0 (pickCells (ownPk ps k) = [.int .u8 q.t, .int .u8 q.d, .int .u64 (k + 1)]) := ⟨by rw [HPE.out]; rfl⟩
      clear HJ e0 e1 e2 hab
      go_wp2_with (at_builtin; go_must (refine print_append_cells (w0 := w1) w1.heap.size (by rfl) (.tmp 35) (.tmp 37) 38 49 (.agg #[.int .u8 0, .int .u8 0, .int .u64 0]) 3 16 rfl Try.underlying38 info49 rfl (by omega) (by omega) u5 k (pickRow (ownOf ps k)) [.int .u8 q.t, .int .u8 q.d, .int .u64 (k + 1)] rfl rfl rfl (by simp [Value.oneCell']) HR1.out HW1.out hbs hlb ?_); intro v1 W6 hown hbel hg _)
      have HN : Aside0 (W6.ownsRow w1.heap.size 49 3 v1 (k + 1) (pickRow (ownOf ps (k + 1))) ∧ Below w1.heap.size w1 W6) := ⟨by rw [ownOf_succ, ← pickRow_snoc, HQ.out]; exact hown, hbel⟩
      clear hown hbel hg z0 z1 z2
      go_wp2_with fail
      go_roundw
      case rel => exact ⟨k + 1, by omega, by go_num, HN⟩
      case measure => simp [intOf]; omega
    · have hkl : k = len := by omega
      subst hkl
      obtain ⟨A5, c5, hv5, hPO, hA5⟩ := own_form (l := ownOf ps k) (by rw [ownOf_len]; exact HJ.out.1) (own_ok (HPS.out) (by rw [HLEN.out]; exact Nat.le_refl _) (by omega))
      rw [ownOf_len] at hv5
      subst hv5
      have HPO := Aside0.mk hPO
      have HA5 := Aside0.mk hA5
      have HBW := Aside0.mk (HJ.out.2)
      clear HJ hPO hA5
      go_wp2_with fail
      with_reducible refine (open_walk n HN.out wr).mono ?_
      intro e w2 hp
      obtain ⟨p, he, ht, hb⟩ := openOut hp
      subst he
      have HT := Aside0.mk ht
      have HB2 := Aside0.mk hb
      have HP2 := Aside0.mk (picks_below HPO.out hb)
      clear hp ht hb
      go_wp2_with fail
      with_reducible refine (run_walk wr.heap.size (capOf n) (capOf_three n) p A5 (ownOf ps k) k c5 w2 HT.out (ownOf_len ps k) HP2.out (fun _ => HA5.out) (by omega)).mono ?_
      intro e w3 hp
      obtain ⟨v9, ga, gb, he, ht, ho, hb⟩ := runOut hp
      subst he
      have HB3 := Aside0.mk ((HBW.out.trans ((HB2.out.trans hb).mono HBW.out.size)))
      obtain ⟨A9, c9, hv9, hout, hA9, hc9⟩ := out_form ho
      subst hv9
      have HOR := Aside0.mk (orders (capOf_three n) (own_own ps k))
      have hrb := (ret_bound (ps := ownOf ps k) (c := capOf n) (runLen (ownOf ps k))).2.2
      have hrk : runLen (ownOf ps k) ≤ 200 := by unfold runLen; omega
      obtain ⟨l, hl⟩ : ∃ l, l = (run (ownOf ps k) (openU (capOf n))).out := ⟨_, rfl⟩
      have hll : l.length ≤ 200 := by rw [hl]; unfold run; omega
      rw [← hl] at HOR hout hc9
      rw [← hl]
      have HOUT := Aside0.mk hout
      have HA9 := Aside0.mk hA9
      clear hp ht ho hb hout hA9 hrb hrk
      have HV := Aside0.mk (own_vals (capOf_three n) (own_own ps k))
      rw [← hl] at HV
      clear hl
      have hmm := @run_makeMap Try.prog
      obtain ⟨mb, hmb⟩ : ∃ mb, mb = w3.heap.size := ⟨_, rfl⟩
      have HM0 : Aside0 ((w3.alloc (.map #[] 0)).ownsMap Try.prog 32 Rd mb 0 (.map [])) := ⟨by rw [hmb]; exact World.ownsMap_made w3 Try.prog 32 Rd⟩
      have HMB := Aside0.mk hmb
      have HB4 : Aside0 (Below mb w3 (w3.alloc (.map #[] 0))) := ⟨by rw [hmb]; exact (Below.refl _ _).alloc (Nat.le_refl _) _⟩
      go_wp2_with fail
      rw [← hmb]
      have HOUT4 : Aside0 (OutAt (w3.alloc (.map #[] 0)) A9 l) := ⟨HOUT.out.below HA9.out (by rw [← hmb]; exact HB4.out)⟩
      have hsz : mb < (w3.alloc (.map #[] 0)).heap.size := HM0.out.lt
      rw [← hmb] at HA9
      have HBB : Aside0 (w1.heap.size ≤ mb) := ⟨by rw [hmb]; exact HB3.out.size⟩
      generalize w3.alloc (.map #[] 0) = W3 at HM0 HB4 HOUT4 hsz ⊢
      clear hmm HOUT HMB hmb
      go_loopw [53] (fun v53 wr => ∃ k : Nat, k ≤ l.length ∧ v53 = .int .i64 k ∧ Aside0 (∃ D, wr.ownsMap Try.prog 32 Rd mb k D ∧ MapOk l D ∧ Below mb W3 wr)) (fun v53 _ => l.length - (intOf v53).toNat)
      case atStart => exact ⟨0, by omega, rfl, ⟨⟨_, HM0.out, mapOk_empty l, Below.refl _ _⟩⟩⟩
      case round =>
        obtain ⟨i, hi, rfl, HJ⟩ := hrel
        obtain ⟨D, hD⟩ := HJ.out
        have HD := Aside0.mk hD
        clear HJ hD
        by_cases hlt : i < l.length
        · obtain ⟨g, hg, hc⟩ := (HOUT4.out.below2 HA9.out HD.out.2.2) i hlt
          have hgl : g < wr.heap.size := Nat.lt_of_lt_of_le (Nat.lt_trans (HA9.out g hg) hsz) HD.out.2.2.size
          subst hg
          obtain ⟨d, hd⟩ : ∃ d, d = l.getD i zeroD := ⟨_, rfl⟩
          rw [← hd] at hc
          have hdm : d ∈ l := by rw [hd]; simp [List.getD_eq_getElem?_getD, hlt]
          have z0 : wr.cell? ⟨g, i * 6, none⟩ = some (.int .i64 d.kind) := hc 0 (by omega)
          have z1 : wr.cell? ⟨g, i * 6 + 1, none⟩ = some (.int .u64 d.v) := hc 1 (by omega)
          have z2 : wr.cell? ⟨g, i * 6 + 2, none⟩ = some (.int .i64 d.beg) := hc 2 (by omega)
          have z3 : wr.cell? ⟨g, i * 6 + 3, none⟩ = some (.int .i64 d.fin) := hc 3 (by omega)
          have z4 : wr.cell? ⟨g, i * 6 + 4, none⟩ = some (.bool d.well) := hc 4 (by omega)
          have z5 : wr.cell? ⟨g, i * 6 + 5, none⟩ = some (.int .i64 d.ret) := hc 5 (by omega)
          have hi0 : (0 : Int) ≤ (i : Int) := by omega
          have hmw : mb < wr.heap.size := HD.out.1.lt
          have HP1 := Aside0.mk (hk_new wr (.cells #[.int .i64 d.kind, .int .u64 d.v, .int .i64 d.beg, .int .i64 d.fin, .bool d.well, .int .i64 d.ret] 57))
          have HM1 := Aside0.mk (HD.out.1.alloc (.cells #[.int .i64 d.kind, .int .u64 d.v, .int .i64 d.beg, .int .i64 d.fin, .bool d.well, .int .i64 d.ret] 57))
          have HW1 := Aside0.mk (HD.out.2.2.alloc (by omega) (.cells #[.int .i64 d.kind, .int .u64 d.v, .int .i64 d.beg, .int .i64 d.fin, .bool d.well, .int .i64 d.ret] 57))
          have HMD := Aside0.mk HD.out.2.1
          have HDM := Aside0.mk hdm
          clear hc hd HD hdm
          go_upto_region 18 with fail
          generalize wr.alloc (.cells #[.int .i64 d.kind, .int .u64 d.v, .int .i64 d.beg, .int .i64 d.fin, .bool d.well, .int .i64 d.ret] 57) = W at HP1 HM1 HW1 ⊢
          generalize wr.heap.size = g1 at HP1 ⊢
          have y0 : W.cell? ⟨g1, 0, none⟩ = some (.int .i64 d.kind) := by rw [hk_cell HP1.out]; rfl
          have y1 : W.cell? ⟨g1, 1, none⟩ = some (.int .u64 d.v) := by rw [hk_cell HP1.out]; rfl
          have y2 : W.cell? ⟨g1, 2, none⟩ = some (.int .i64 d.beg) := by rw [hk_cell HP1.out]; rfl
          have y3 : W.cell? ⟨g1, 3, none⟩ = some (.int .i64 d.fin) := by rw [hk_cell HP1.out]; rfl
          have y4 : W.cell? ⟨g1, 4, none⟩ = some (.bool d.well) := by rw [hk_cell HP1.out]; rfl
          have y5 : W.cell? ⟨g1, 5, none⟩ = some (.int .i64 d.ret) := by rw [hk_cell HP1.out]; rfl
          clear z0 z1 z2 z3 z4 z5
          have hmw2 : mb < W.heap.size := HM1.out.lt
          obtain ⟨K, hK⟩ : ∃ K, K = d.kind := ⟨_, rfl⟩
          obtain ⟨wl, hwl⟩ : ∃ wl, wl = d.well := ⟨_, rfl⟩
          have HK := Aside0.mk hK
          have HWL := Aside0.mk hwl
          rw [← hK] at y0
          rw [← hwl] at y4
          clear hK hwl
          by_cases hk2 : K = 2
          · cases wl with
            | true =>
              subst hk2
              have HKY := Aside0.mk (key_u64 d.v (HV.out d HDM.out HWL.out.symm))
              have HRV := Aside0.mk (show Rd (.agg #[.int .i64 2, .int .u64 d.v, .int .i64 d.beg, .int .i64 d.fin, .bool true, .int .i64 d.ret]) = some (encD d, []) from by rw [HK.out, HWL.out]; rfl)
              go_wp2_with (at_mapUpdate; go_must (refine wpList_mapUpdate_own _ rfl _ _ _ 59 rfl 32 57 key32 Try.underlying59 Rd mb i D rfl HM1.out (by unfold maxLen; omega) _ _ _ rfl rfl HKY.out _ [] HRV.out ?_); intro w8 hown8 hgrow8)
              have HN : Aside0 (∃ D, w8.ownsMap Try.prog 32 Rd mb (i + 1) D ∧ MapOk l D ∧ Below mb W3 w8) := ⟨_, hown8, mapOk_put HMD.out HM1.out.isMap d HDM.out HK.out.symm HWL.out.symm, HW1.out.grown hgrow8 (by omega) (fun k hk => by injection hk with hk; omega)⟩
              clear hown8 hgrow8 y0 y1 y2 y3 y4 y5
              go_wp2_with fail
              go_roundw
              case rel => exact ⟨i + 1, by omega, by go_num, HN⟩
              case measure => simp [intOf]; omega
            | false =>
              have HN : Aside0 (∃ D, W.ownsMap Try.prog 32 Rd mb (i + 1) D ∧ MapOk l D ∧ Below mb W3 W) := ⟨_, HM1.out.mono (by omega), HMD.out, HW1.out⟩
              go_wp2_with fail
              go_roundw
              case rel => exact ⟨i + 1, by omega, by go_num, HN⟩
              case measure => simp [intOf]; omega
          · have HN : Aside0 (∃ D, W.ownsMap Try.prog 32 Rd mb (i + 1) D ∧ MapOk l D ∧ Below mb W3 W) := ⟨_, HM1.out.mono (by omega), HMD.out, HW1.out⟩
            go_wp2_with fail
            go_roundw
            case rel => exact ⟨i + 1, by omega, by go_num, HN⟩
            case measure => simp [intOf]; omega
        · have hkl : i = l.length := by omega
          subst hkl
          obtain ⟨w5, hw5⟩ : ∃ w5, w5 = wr := ⟨_, rfl⟩
          subst hw5
          have HM := Aside0.mk HD.out.1
          have HMD := Aside0.mk HD.out.2.1
          have HOUT5 := Aside0.mk (HOUT4.out.below2 HA9.out HD.out.2.2)
          have HB5 := Aside0.mk (HB3.out.trans (((HB4.out.trans HD.out.2.2).mono HBB.out)))
          have hmw : mb < w5.heap.size := HD.out.1.lt
          clear HD HM0 HB4 HOUT4 hsz
          go_wp2_with fail
          go_loopw [71] (fun v71 wr => ∃ i : Nat, i ≤ l.length ∧ v71 = .int .i64 i ∧ Aside0 (Below w5.heap.size w5 wr)) (fun v71 _ => l.length - (intOf v71).toNat)
          case atStart => exact ⟨0, by omega, rfl, ⟨Below.refl _ _⟩⟩
          case round =>
            obtain ⟨wo, hwo⟩ : ∃ wo, wo = wr := ⟨_, rfl⟩
            subst hwo
            obtain ⟨i, hi, rfl, HO⟩ := hrel
            by_cases hlt : i < l.length
            · obtain ⟨g, hg, hc⟩ := (HOUT5.out.below2 (fun g hg => Nat.lt_trans (HA9.out g hg) hmw) HO.out) i hlt
              have hgl : g < wo.heap.size := Nat.lt_of_lt_of_le (Nat.lt_trans (HA9.out g hg) hmw) HO.out.size
              subst hg
              obtain ⟨a, ha⟩ : ∃ d, d = l.getD i zeroD := ⟨_, rfl⟩
              rw [← ha] at hc
              have HAM : Aside0 (a ∈ l) := ⟨by rw [ha]; simp [List.getD_eq_getElem?_getD, hlt]⟩
              have z0 : wo.cell? ⟨g, i * 6, none⟩ = some (.int .i64 a.kind) := hc 0 (by omega)
              have z1 : wo.cell? ⟨g, i * 6 + 1, none⟩ = some (.int .u64 a.v) := hc 1 (by omega)
              have z2 : wo.cell? ⟨g, i * 6 + 2, none⟩ = some (.int .i64 a.beg) := hc 2 (by omega)
              have z3 : wo.cell? ⟨g, i * 6 + 3, none⟩ = some (.int .i64 a.fin) := hc 3 (by omega)
              have z4 : wo.cell? ⟨g, i * 6 + 4, none⟩ = some (.bool a.well) := hc 4 (by omega)
              have z5 : wo.cell? ⟨g, i * 6 + 5, none⟩ = some (.int .i64 a.ret) := hc 5 (by omega)
              have hi0 : (0 : Int) ≤ (i : Int) := by omega
              have HP1 := Aside0.mk (hk_new wo (.cells #[.int .i64 a.kind, .int .u64 a.v, .int .i64 a.beg, .int .i64 a.fin, .bool a.well, .int .i64 a.ret] 57))
              have HW1 := Aside0.mk (HO.out.alloc HO.out.size (.cells #[.int .i64 a.kind, .int .u64 a.v, .int .i64 a.beg, .int .i64 a.fin, .bool a.well, .int .i64 a.ret] 57))
              have HGA : Aside0 (w5.heap.size ≤ wo.heap.size) := ⟨HO.out.size⟩
              clear hc ha HO
              go_upto_region 24 with fail
              generalize wo.alloc (.cells #[.int .i64 a.kind, .int .u64 a.v, .int .i64 a.beg, .int .i64 a.fin, .bool a.well, .int .i64 a.ret] 57) = W at HP1 HW1 ⊢
              generalize wo.heap.size = g1 at HP1 HGA ⊢
              clear z0 z1 z2 z3 z4 z5
              go_wp2_with fail
              have hgW : g1 < W.heap.size := hk_lt HP1.out
              go_loopw [77] (fun v77 wr => ∃ j : Nat, j ≤ l.length ∧ v77 = .int .i64 j ∧ Aside0 (Below W.heap.size W wr)) (fun v77 _ => l.length - (intOf v77).toNat)
              case atStart => exact ⟨0, by omega, rfl, ⟨Below.refl _ _⟩⟩
              case round =>
                obtain ⟨j, hj, rfl, HQ⟩ := hrel
                obtain ⟨wq, hwq⟩ : ∃ wq, wq = wr := ⟨_, rfl⟩
                subst hwq
                by_cases hltj : j < l.length
                · have HWQ := Aside0.mk (HW1.out.trans (HQ.out.mono HW1.out.size))
                  obtain ⟨g', hg, hc⟩ := (HOUT5.out.below2 (fun g hg => Nat.lt_trans (HA9.out g hg) hmw) HWQ.out) j hltj
                  injection hg with hg
                  injection hg with hg
                  subst hg
                  have hgl2 : g < wq.heap.size := Nat.lt_of_lt_of_le (Nat.lt_trans (HA9.out g rfl) hmw) HWQ.out.size
                  obtain ⟨b, hb⟩ : ∃ d, d = l.getD j zeroD := ⟨_, rfl⟩
                  rw [← hb] at hc
                  have HBM : Aside0 (b ∈ l) := ⟨by rw [hb]; simp [List.getD_eq_getElem?_getD, hltj]⟩
                  have z0 : wq.cell? ⟨g, j * 6, none⟩ = some (.int .i64 b.kind) := hc 0 (by omega)
                  have z1 : wq.cell? ⟨g, j * 6 + 1, none⟩ = some (.int .u64 b.v) := hc 1 (by omega)
                  have z2 : wq.cell? ⟨g, j * 6 + 2, none⟩ = some (.int .i64 b.beg) := hc 2 (by omega)
                  have z3 : wq.cell? ⟨g, j * 6 + 3, none⟩ = some (.int .i64 b.fin) := hc 3 (by omega)
                  have z4 : wq.cell? ⟨g, j * 6 + 4, none⟩ = some (.bool b.well) := hc 4 (by omega)
                  have z5 : wq.cell? ⟨g, j * 6 + 5, none⟩ = some (.int .i64 b.ret) := hc 5 (by omega)
                  have hj0 : (0 : Int) ≤ (j : Int) := by omega
                  have hWq : W.heap.size ≤ wq.heap.size := HQ.out.size
                  have HP2 := Aside0.mk (hk_new wq (.cells #[.int .i64 b.kind, .int .u64 b.v, .int .i64 b.beg, .int .i64 b.fin, .bool b.well, .int .i64 b.ret] 57))
                  have HP1b := Aside0.mk ((((HQ.out.alloc HQ.out.size (.cells #[.int .i64 b.kind, .int .u64 b.v, .int .i64 b.beg, .int .i64 b.fin, .bool b.well, .int .i64 b.ret] 57)).block g1 hgW)).trans HP1.out)
                  have HW2 := Aside0.mk (HQ.out.alloc HQ.out.size (.cells #[.int .i64 b.kind, .int .u64 b.v, .int .i64 b.beg, .int .i64 b.fin, .bool b.well, .int .i64 b.ret] 57))
                  clear hc hb HQ
                  go_upto_region 27 with fail
                  generalize wq.alloc (.cells #[.int .i64 b.kind, .int .u64 b.v, .int .i64 b.beg, .int .i64 b.fin, .bool b.well, .int .i64 b.ret] 57) = W2 at HP2 HP1b HW2 ⊢
                  generalize wq.heap.size = g2 at HP2 hWq ⊢
                  clear z0 z1 z2 z3 z4 z5
                  obtain ⟨Ka, hKa⟩ : ∃ K, K = a.kind := ⟨_, rfl⟩
                  obtain ⟨wa, hwa⟩ : ∃ wl, wl = a.well := ⟨_, rfl⟩
                  obtain ⟨Kb, hKb⟩ : ∃ K, K = b.kind := ⟨_, rfl⟩
                  obtain ⟨wb, hwb⟩ : ∃ wl, wl = b.well := ⟨_, rfl⟩
                  have HKA := Aside0.mk hKa
                  have HKB := Aside0.mk hKb
                  have HWA := Aside0.mk hwa
                  have HWB := Aside0.mk hwb
                  have x0 : W2.cell? ⟨g1, 0, none⟩ = some (.int .i64 Ka) := by rw [hk_cell HP1b.out, hKa]; rfl
                  have x1 : W2.cell? ⟨g1, 1, none⟩ = some (.int .u64 a.v) := by rw [hk_cell HP1b.out]; rfl
                  have x3 : W2.cell? ⟨g1, 3, none⟩ = some (.int .i64 a.fin) := by rw [hk_cell HP1b.out]; rfl
                  have x4 : W2.cell? ⟨g1, 4, none⟩ = some (.bool wa) := by rw [hk_cell HP1b.out, hwa]; rfl
                  have y0 : W2.cell? ⟨g2, 0, none⟩ = some (.int .i64 Kb) := by rw [hk_cell HP2.out, hKb]; rfl
                  have y1 : W2.cell? ⟨g2, 1, none⟩ = some (.int .u64 b.v) := by rw [hk_cell HP2.out]; rfl
                  have y2 : W2.cell? ⟨g2, 2, none⟩ = some (.int .i64 b.beg) := by rw [hk_cell HP2.out]; rfl
                  have y4 : W2.cell? ⟨g2, 4, none⟩ = some (.bool wb) := by rw [hk_cell HP2.out, hwb]; rfl
                  clear hKa hwa hKb hwb
                  have HN : Aside0 (Below W.heap.size W W2) := HW2
                  by_cases hA : Ka = 0
                  · subst hA
                    by_cases hB : Kb = 0
                    · subst hB
                      cases wa with
                      | true =>
                        cases wb with
                        | true =>
                          by_cases hF : a.fin < b.beg
                          · have hmw2 : mb < w5.heap.size := hmw
                            have HW52 := Aside0.mk (HW1.out.trans (HW2.out.mono HW1.out.size))
                            obtain ⟨x, B1, hrun, hx⟩ := look_done (kept_below HM.out HW52.out hmw) HMD.out a.v (HV.out a HAM.out HWA.out.symm)
                            have hr1 : (Instr.lookup 59 (.map (some mb)) (.int .u64 a.v) true).run Try.prog W2 = .ok (.tuple #[.agg #[.int .i64 x.kind, .int .u64 x.v, .int .i64 x.beg, .int .i64 x.fin, .bool x.well, .int .i64 x.ret], .bool B1]) W2 := hrun
                            have HX := Aside0.mk hx
                            have hg2 : g2 < W2.heap.size := hk_lt HP2.out
                            have HP1c := Aside0.mk (hk_alloc HP1b.out (.cells #[.int .i64 x.kind, .int .u64 x.v, .int .i64 x.beg, .int .i64 x.fin, .bool x.well, .int .i64 x.ret] 57))
                            have HP2c := Aside0.mk (hk_alloc HP2.out (.cells #[.int .i64 x.kind, .int .u64 x.v, .int .i64 x.beg, .int .i64 x.fin, .bool x.well, .int .i64 x.ret] 57))
                            have HP3c := Aside0.mk (hk_new W2 (.cells #[.int .i64 x.kind, .int .u64 x.v, .int .i64 x.beg, .int .i64 x.fin, .bool x.well, .int .i64 x.ret] 57))
                            have HW3 := Aside0.mk (HW2.out.alloc HW2.out.size (.cells #[.int .i64 x.kind, .int .u64 x.v, .int .i64 x.beg, .int .i64 x.fin, .bool x.well, .int .i64 x.ret] 57))
                            have HW53 := Aside0.mk (HW52.out.alloc HW52.out.size (.cells #[.int .i64 x.kind, .int .u64 x.v, .int .i64 x.beg, .int .i64 x.fin, .bool x.well, .int .i64 x.ret] 57))
                            clear hrun hx HN
                            go_upto_region 29 with fail
                            generalize W2.alloc (.cells #[.int .i64 x.kind, .int .u64 x.v, .int .i64 x.beg, .int .i64 x.fin, .bool x.well, .int .i64 x.ret] 57) = W3x at HP1c HP2c HP3c HW3 HW53 ⊢
                            generalize W2.heap.size = g3 at HP3c ⊢
                            clear hr1 x0 x1 x3 x4 y0 y1 y2 y4
                            have y1 : W3x.cell? ⟨g2, 1, none⟩ = some (.int .u64 b.v) := by rw [hk_cell HP2c.out]; rfl
                            obtain ⟨y, B2, hrun, hy⟩ := look_done (kept_below HM.out HW53.out hmw) HMD.out b.v (HV.out b HBM.out HWB.out.symm)
                            have hr2 : (Instr.lookup 59 (.map (some mb)) (.int .u64 b.v) true).run Try.prog W3x = .ok (.tuple #[.agg #[.int .i64 y.kind, .int .u64 y.v, .int .i64 y.beg, .int .i64 y.fin, .bool y.well, .int .i64 y.ret], .bool B2]) W3x := hrun
                            have HY := Aside0.mk hy
                            have HP3d := Aside0.mk (hk_alloc HP3c.out (.cells #[.int .i64 y.kind, .int .u64 y.v, .int .i64 y.beg, .int .i64 y.fin, .bool y.well, .int .i64 y.ret] 57))
                            have HP4d := Aside0.mk (hk_new W3x (.cells #[.int .i64 y.kind, .int .u64 y.v, .int .i64 y.beg, .int .i64 y.fin, .bool y.well, .int .i64 y.ret] 57))
                            have HW4 := Aside0.mk (HW3.out.alloc HW3.out.size (.cells #[.int .i64 y.kind, .int .u64 y.v, .int .i64 y.beg, .int .i64 y.fin, .bool y.well, .int .i64 y.ret] 57))
                            clear hrun hy
                            go_upto_region 30 with fail
                            generalize W3x.alloc (.cells #[.int .i64 y.kind, .int .u64 y.v, .int .i64 y.beg, .int .i64 y.fin, .bool y.well, .int .i64 y.ret] 57) = W4 at HP3d HP4d HW4 ⊢
                            generalize W3x.heap.size = g4 at HP4d ⊢
                            clear hr2 y1
                            have HN : Aside0 (Below W.heap.size W W4) := HW4
                            have x2 : W4.cell? ⟨g3, 2, none⟩ = some (.int .i64 x.beg) := by rw [hk_cell HP3d.out]; rfl
                            have y3 : W4.cell? ⟨g4, 3, none⟩ = some (.int .i64 y.fin) := by rw [hk_cell HP4d.out]; rfl
                            cases B1 with
                            | true =>
                              cases B2 with
                              | true =>
                                have hle : x.beg ≤ y.fin := by
                                  obtain ⟨p1, p2, p3, p4⟩ := HX.out rfl
                                  obtain ⟨q1, q2, q3, q4⟩ := HY.out rfl
                                  exact HOR.out a b x y HAM.out HBM.out p1 q1 (by rw [← HKA.out]; decide) (by rw [← HKB.out]; decide) p2 q2 HWA.out.symm HWB.out.symm p3 q3 hF p4 q4
                                go_wp2_with fail
                                go_roundw
                                case rel => exact ⟨j + 1, by omega, by go_num, HN⟩
                                case measure => simp [intOf]; omega
                              | false =>
                                go_wp2_with fail
                                go_roundw
                                case rel => exact ⟨j + 1, by omega, by go_num, HN⟩
                                case measure => simp [intOf]; omega
                            | false =>
                              go_wp2_with fail
                              go_roundw
                              case rel => exact ⟨j + 1, by omega, by go_num, HN⟩
                              case measure => simp [intOf]; omega
                          · have hF2 : b.beg ≤ a.fin := by omega
                            go_wp2_with fail
                            go_roundw
                            case rel => exact ⟨j + 1, by omega, by go_num, HN⟩
                            case measure => simp [intOf]; omega
                        | false =>
                          go_wp2_with fail
                          go_roundw
                          case rel => exact ⟨j + 1, by omega, by go_num, HN⟩
                          case measure => simp [intOf]; omega
                      | false =>
                        go_wp2_with fail
                        go_roundw
                        case rel => exact ⟨j + 1, by omega, by go_num, HN⟩
                        case measure => simp [intOf]; omega
                    · go_wp2_with fail
                      go_roundw
                      case rel => exact ⟨j + 1, by omega, by go_num, HN⟩
                      case measure => simp [intOf]; omega
                  · go_wp2_with fail
                    go_roundw
                    case rel => exact ⟨j + 1, by omega, by go_num, HN⟩
                    case measure => simp [intOf]; omega
                · have hkl : j = l.length := by omega
                  subst hkl
                  have HN : Aside0 (Below w5.heap.size w5 wq) := ⟨HW1.out.trans (HQ.out.mono HW1.out.size)⟩
                  go_wp2_with fail
                  go_roundw
                  case rel => exact ⟨i + 1, by omega, by go_num, HN⟩
                  case measure => simp [intOf]; omega
            · have hkl : i = l.length := by omega
              subst hkl
              have HFI : Aside0 (Below w.heap.size w wo) := ⟨HB1.out.trans ((HB5.out.trans (HO.out.mono (Nat.le_trans HBB.out (Nat.le_of_lt hmw)))).mono HB1.out.size)⟩
              go_wp2
              go_ret
              exact ⟨rfl, HFI.out⟩
theorem orders_row (n : Int) (a : Option Addr) (len cap : Nat) (w : World) (wn : (Lit.int .u8 n).wf = true)
    (f : len ≤ cap ∧ cap ≤ maxLen ∧ (a = none → len = 0 ∧ cap = 0) ∧ ∀ ad, a = some ad → ∀ i, i < len → ∃ cs, Scs [some .u8, some .u8, some .u64] cs ∧ ∀ j, j < 3 → w.cell? (ad.add (i * 3 + j)) = cs[j]?) (hl : len * 16 ≤ 140737488351232) :
    Calls Try.prog 6 #[.int .u8 n, .slice a len cap] w fun e w' => e = .returned (.bool true) ∧ Below w.heap.size w w' := by
  obtain ⟨ps, hp, hps⟩ := picks_of f
  exact orders_walk n a ps len cap w (u8_of wn) hp hps hl
end Go.Proofs.Ytepbggoeajihbaa.Ring
