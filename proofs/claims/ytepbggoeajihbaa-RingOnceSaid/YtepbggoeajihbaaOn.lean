/- RingOnce, walked. -/
import Derived.Test.YtepbggoeajihbaaOa
import Derived.Deep.DeepMust
import Derived.Deep.DeepCutAuto
set_option linter.unusedVariables false
set_option linter.unusedSimpArgs false
namespace Go.Proofs.Ytepbggoeajihbaa.Ring
open Go.RowKit Go.Proofs.YtepbggoeajihbaaW.PrintWords Go.Proofs.YtepbggoeajihbaaW.PrintLast Go.Proofs.YtepbggoeajihbaaW.PrintMore Go.Proofs.YtepbggoeajihbaaHk
open Go.Proofs.YtepbggoeajihbaaFlat Go.Proofs.YtepbggoeajihbaaRx
set_option maxHeartbeats 3200000 in
set_option maxRecDepth 100000 in
theorem once_walk (n : Int) (A : Option Addr) (ps : List PK) (len cap : Nat) (w : World) (hn : 0 ≤ n ∧ n ≤ 255) (hlen : ps.length = len) (hps : PicksAt w A ps) (hlm : len * 16 ≤ 140737488351232) :
    Calls Try.prog 5 #[.int .u8 n, .slice A len cap] w fun e w' => e = .returned (.bool true) ∧ Below w.heap.size w w' := by
  have HPS := Aside0.mk hps
  have HLEN := Aside0.mk hlen
  have HN := Aside0.mk hn
  have hu49 := Try.underlying49
  clear hps hlen hn
  go_enter Try.func5, Try.ntmps5
  go_wp2_with fail
  with_reducible refine (awake_walk _).mono ?_
  rintro e w1 ⟨rfl, hb1⟩
  have HB1 := Aside0.mk hb1
  clear hb1
  go_wp2_with fail
  go_loopw [5, 26] (fun v5 v26 wr => ∃ k : Nat, k ≤ len ∧ v26 = .int .i64 k ∧ Aside0 (wr.ownsRow w1.heap.size 49 3 v5 k (pickRow (ownOf ps k)) ∧ Below w1.heap.size w1 wr)) (fun _ v26 _ => len - (intOf v26).toNat)
  case atStart => exact ⟨0, by omega, rfl, ⟨⟨⟨rfl, .inl ⟨rfl, rfl⟩⟩, Below.refl _ _⟩⟩⟩
  case round =>
    obtain ⟨k, hk, rfl, HJ⟩ := hrel
    by_cases hlt : k < len
    · have hpk := HPS.out k (by rw [HLEN.out]; exact hlt)
      obtain ⟨q, hpe⟩ : ∃ p, p = ps.getD k ⟨0, 0, 0⟩ := ⟨_, rfl⟩
      rw [← hpe] at hpk
      have HPE := Aside0.mk hpe
      clear hpe
      have hpk2 := (hpk.below HB1.out).below HJ.out.2
      obtain ⟨ab, ao, hA, e0, e1, e2⟩ := hpk2.at_
      have hab : ab < wr.heap.size := World.block_lt_of_cell? wr _ e0
      subst hA
      have hpt := hpk.ok.t
      have hpd := hpk.ok.d
      have hpv : 0 ≤ q.v ∧ q.v ≤ 18446744073709551615 := hpk.ok.v
      clear hpk hpk2
      have hk0 : (0 : Int) ≤ (k : Int) := by omega
      go_upto_region 8 with fail
      have HP1 := Aside0.mk (hk_new wr (.cells #[.int .u8 q.t, .int .u8 q.d, .int .u64 (k + 1)] 49))
      have HR1 := Aside0.mk (HJ.out.1.alloc (.cells #[.int .u8 q.t, .int .u8 q.d, .int .u64 (k + 1)] 49))
      have HW1 := Aside0.mk (HJ.out.2.alloc HJ.out.2.size (.cells #[.int .u8 q.t, .int .u8 q.d, .int .u64 (k + 1)] 49))
      generalize wr.alloc (.cells #[.int .u8 q.t, .int .u8 q.d, .int .u64 (k + 1)] 49) = W at HP1 HR1 HW1 ⊢
      generalize wr.heap.size = g at HP1 ⊢
      have z0 : W.cell? ⟨g, 0, none⟩ = some (.int .u8 q.t) := by rw [hk_cell HP1.out]; rfl
      have z1 : W.cell? ⟨g, 1, none⟩ = some (.int .u8 q.d) := by rw [hk_cell HP1.out]; rfl
      have z2 : W.cell? ⟨g, 2, none⟩ = some (.int .u64 (k + 1)) := by rw [hk_cell HP1.out]; rfl
      have hbs : w1.heap.size ≤ W.heap.size := HW1.out.size
      have hlb : (k + 1) * 16 ≤ 140737488355328 := by omega
      have HQ : Aside0 (pickCells (ownPk ps k) = [.int .u8 q.t, .int .u8 q.d, .int .u64 (k + 1)]) := ⟨by rw [HPE.out]; rfl⟩
      clear HJ e0 e1 e2 hab
      go_wp2_with (at_builtin; go_must (refine print_append_cells (w0 := w1) w1.heap.size (by rfl) (.tmp 35) (.tmp 37) 38 49 (.agg #[.int .u8 0, .int .u8 0, .int .u64 0]) 3 16 rfl Try.underlying38 info49 rfl (by omega) (by omega) u5 k (pickRow (ownOf ps k)) [.int .u8 q.t, .int .u8 q.d, .int .u64 (k + 1)] rfl rfl rfl (by simp [Value.oneCell']) HR1.out HW1.out hbs hlb ?_); intro v1 W6 hown hbel hg _)
      have HN : Aside0 (W6.ownsRow w1.heap.size 49 3 v1 (k + 1) (pickRow (ownOf ps (k + 1))) ∧ Below w1.heap.size w1 W6) := ⟨by rw [ownOf_succ, ← pickRow_snoc, HQ.out]; exact hown, hbel⟩
      clear hown hbel hg z0 z1 z2
      go_wp2_with fail
      go_roundw
      case rel => exact ⟨k + 1, by omega, by go_num, HN⟩
      case measure => simp [intOf]; omega
    · have hkl : k = len := by omega
      subst hkl
      obtain ⟨wb, hwb⟩ : ∃ wb, wb = wr := ⟨_, rfl⟩
      subst hwb
      obtain ⟨A5, c5, hv5, hPO, hA5⟩ := own_form (l := ownOf ps k) (by rw [ownOf_len]; exact HJ.out.1) (own_ok (HPS.out) (by rw [HLEN.out]; exact Nat.le_refl _) (by omega))
      rw [ownOf_len] at hv5
      subst hv5
      have HPO := Aside0.mk hPO
      have HA5 := Aside0.mk hA5
      have HBW := Aside0.mk (HJ.out.2)
      clear HJ hPO hA5
      go_wp2_with fail
      with_reducible refine (open_walk n HN.out wb).mono ?_
      intro e w2 hp
      obtain ⟨p, he, ht, hb⟩ := openOut hp
      subst he
      have HT := Aside0.mk ht
      have HB2 := Aside0.mk hb
      have HP2 := Aside0.mk (picks_below HPO.out hb)
      clear hp ht hb
      go_wp2_with fail
      with_reducible refine (run_walk wb.heap.size (capOf n) (capOf_three n) p A5 (ownOf ps k) k c5 w2 HT.out (ownOf_len ps k) HP2.out (fun _ => HA5.out) (by omega)).mono ?_
      intro e w3 hp
      obtain ⟨v9, ga, gb, he, ht, ho, hb⟩ := runOut hp
      subst he
      have HI := Aside0.mk (run_inv (ps := ownOf ps k) (capOf_three n))
      have HB3 := Aside0.mk hb
      have HO3 := Aside0.mk ho
      have HT3 := Aside0.mk ht
      clear hp ht ho hb
      go_wp2_with fail
      with_reducible refine (rest_walk wb.heap.size p ga gb _ 200 w3 HT3.out HI.out.1 (by omega) (by omega) HI.out.2).mono ?_
      intro e w4 hp
      obtain ⟨v11, v12, ga4, gb4, F, he, hF, hrs⟩ := restOut hp
      subst he
      have hat := at_rest (ps := ownOf ps k) (capOf_three n) (own_own ps k)
      have hrb := (ret_bound (ps := ownOf ps k) (c := capOf n) (runLen (ownOf ps k))).2.2
      have hrk : runLen (ownOf ps k) ≤ 200 := by unfold runLen; omega
      obtain ⟨l, hl⟩ : ∃ l, l = (run (ownOf ps k) (openU (capOf n))).out := ⟨_, rfl⟩
      have hll : l.length ≤ 200 := by rw [hl]; unfold run; omega
      rw [← hl] at HO3 hF
      obtain ⟨u, hu⟩ : ∃ u, u = rest (run (ownOf ps k) (openU (capOf n))) := ⟨_, rfl⟩
      rw [← hu] at hat hF hrs
      obtain ⟨T, hT⟩ : ∃ T, T = u.r.T := ⟨_, rfl⟩
      obtain ⟨N, hN⟩ : ∃ N, N = (u.r.T - u.r.H).toNat := ⟨_, rfl⟩
      obtain ⟨t, ht⟩ : ∃ t, t = (upto N).map fun i => u.V (u.r.H + i) := ⟨_, rfl⟩
      obtain ⟨C, hC⟩ : ∃ C, C = teamCells p (fun i => actPtr (u.act i) (ga4 i)) (fun i => actPtr (u.act i) (gb4 i)) := ⟨_, rfl⟩
      have HON : Aside0 (OnInv wb.heap.size w3.heap.size w2.heap.size w2 p C v9 v11 v12 u.r l (popsOf F) (pushesOf F) w4) := ⟨by rw [hC]; exact hrs.team.team, hrs.team.ring, row57_far HO3.out hrs.far57, hrs.r5, hrs.r6, hrs.apart, HB3.out.trans hrs.below, ⟨hrs.team.ge.2.1, hrs.team.ge.2.2.1⟩, hrs.bww, hrs.wsz⟩
      have HTC : Aside0 (C[0]? = some (.pointer (some ⟨p.g, 0, none⟩))) := ⟨by rw [hC]; rfl⟩
      have HAT := Aside0.mk hat
      have HPA := Aside0.mk (perm_all hat t l F hF (by rw [ht, hN]))
      have HWI := Aside0.mk (hat.winv (by omega))
      have HLN := Aside0.mk (rest_lens hat hF)
      have HVL := Aside0.mk (fun (xs : List Int) (hp : xs.Perm (pushesOf F ++ pushesOf l)) => once_vals hat hF hp)
      have HKI : Aside0 (∀ d ∈ l, d.kind = 0 ∨ d.kind = 2) := ⟨by rw [hl]; exact kinds_run (capOf_three n) _ (by omega)⟩
      have HHT : Aside0 (u.r.H ≤ u.r.T ∧ N ≤ 8) := ⟨by have := (hat.winv (by omega)).hT; have := (hat.winv (by omega)).tb; have := (hat.winv (by omega)).n3; omega⟩
      have HN := Aside0.mk hN
      have HTT := Aside0.mk ht
      obtain ⟨R1, A1, hs1, hta⟩ := try_first hN (hat.winv (by omega))
      obtain ⟨V1, hV1⟩ : ∃ V1, V1 = valueOf A1 := ⟨_, rfl⟩
      obtain ⟨b1, hb1⟩ : ∃ b1, b1 = A1.well := ⟨_, rfl⟩
      rw [← hV1, ← hb1] at hta
      have HTA := Aside0.mk hta
      have HTW : Aside0 (Calls Try.prog 17 #[.pointer (some ⟨p.g, 0, none⟩)] w4 (TryPost w4 p.g p.sb R1 (.tuple #[.int .u64 V1, .bool b1]))) := ⟨by rw [hV1, hb1]; exact trypop_walk p.g p.sb u.r R1 A1 w4 HON.out.ring hs1⟩
      have x0 : w4.cell? ⟨p.tb, 0, none⟩ = some (.pointer (some ⟨p.g, 0, none⟩)) := (hk_cell HON.out.team 0).trans HTC.out
      have hr := fun W => @lw_cell W
      have htl := hk_lt HON.out.team
      clear hp hrs hat hrb hrk hl hu hC hN ht hta hs1 hV1 hb1
      go_wp2_with fail
      with_reducible refine HTW.out.mono ?_
      intro e w5 hp
      obtain ⟨he, hri, hkp⟩ := tryOut hp
      subst he
      have HON5 := Aside0.mk (HON.out.tried hri hkp)
      clear hp hri hkp x0 htl
      go_wp2_with fail
      go_loopw [11, 13, 14] (fun v11 v13 v14 wr1 => ∃ (j : Nat) (b : Bool) (v : Int), v13 = .int .u64 v ∧ v14 = .bool b ∧ Aside0 (∃ R, OnInv wb.heap.size w3.heap.size w2.heap.size w2 p C v9 v11 v12 R l (popsOf F ++ t.take j) (pushesOf F) wr1 ∧ TryAt u.r u.V N j b v R)) (fun v11 _ _ _ => (popsOf F).length + N - lenOf v11)
      case atStart => exact ⟨0, b1, V1, rfl, rfl, ⟨⟨R1, by simpa using HON5.out, HTA.out⟩⟩⟩
      case round =>
        obtain ⟨j, b, v, rfl, rfl, HJ⟩ := hrel
        obtain ⟨R, hO, hT⟩ := HJ.out
        have HO := Aside0.mk hO
        have HT := Aside0.mk hT
        obtain ⟨wl, hwl⟩ : ∃ wl, wl = wr := ⟨_, rfl⟩
        subst hwl
        clear HJ hO hT
        cases b with
        | true =>
          have hjN := (HT.out.yes rfl).1
          have hlen : (popsOf F ++ t.take j).length = (popsOf F).length + j := by rw [HTT.out]; simp [upto]; omega
          have hlb : ((popsOf F ++ t.take j).length + 1) * 8 ≤ 140737488355328 := by rw [hlen]; have := HLN.out.1; have := HHT.out.2; omega
          have HLEN2 := Aside0.mk hlen
          have hbs := HO.out.b5.2
          clear hlen
          go_upto_region 19 with (at_builtin; go_must (refine print_append_num (w0 := wl) w3.heap.size (by rfl) (.tmp 75) (.tmp 77) 44 32 .u64 8 rfl Try.underlying44 info32 (by omega) u11 (popsOf F ++ t.take j) v rfl rfl HO.out.r11 (Below.refl _ _) hbs hlb ?_); intro v1 WW hown _ hg hat)
          have HO6 := Aside0.mk (HO.out.app11 hown hg hat)
          clear hown hg hat hlb hbs
          obtain ⟨R2, A2, hs2, hta⟩ := try_next HN.out HHT.out.1 HT.out
          obtain ⟨V2, hV2⟩ : ∃ V2, V2 = valueOf A2 := ⟨_, rfl⟩
          obtain ⟨b2, hb2⟩ : ∃ b2, b2 = A2.well := ⟨_, rfl⟩
          rw [← hV2, ← hb2] at hta
          have HTA2 := Aside0.mk hta
          have HTW2 : Aside0 (Calls Try.prog 17 #[.pointer (some ⟨p.g, 0, none⟩)] WW (TryPost WW p.g p.sb R2 (.tuple #[.int .u64 V2, .bool b2]))) := ⟨by rw [hV2, hb2]; exact trypop_walk p.g p.sb R R2 A2 WW HO6.out.ring hs2⟩
          have x0 : WW.cell? ⟨p.tb, 0, none⟩ = some (.pointer (some ⟨p.g, 0, none⟩)) := (hk_cell HO6.out.team 0).trans HTC.out
          have htl := hk_lt HO6.out.team
          have HV : Aside0 (v = u.V (u.r.H + j)) := ⟨(HT.out.yes rfl).2.1⟩
          have HTS : Aside0 (popsOf F ++ t.take j ++ [v] = popsOf F ++ t.take (j + 1)) := ⟨by rw [HTT.out, upto_take N j _ hjN, HV.out, List.append_assoc]⟩
          clear hta hs2 hV2 hb2
          go_wp2_with fail
          with_reducible refine HTW2.out.mono ?_
          intro e w8 hp
          obtain ⟨he, hri, hkp⟩ := tryOut hp
          subst he
          have HO8 := Aside0.mk (HO6.out.tried hri hkp)
          have HL1 : Aside0 (lenOf v1 = (popsOf F).length + j + 1) := ⟨by
            obtain ⟨A', c', hv', _⟩ := num_form HO6.out.r11
            rw [hv']; show (popsOf F ++ t.take j ++ [v]).length = _; rw [List.length_append, HLEN2.out]; rfl⟩
          have HL0 : Aside0 (lenOf u11 = (popsOf F).length + j) := ⟨by
            obtain ⟨A', c', hv', _⟩ := num_form HO.out.r11
            rw [hv']; exact HLEN2.out⟩
          clear hp hri hkp x0 htl
          go_wp2_with fail
          go_roundw
          case rel => exact ⟨j + 1, b2, V2, rfl, rfl, ⟨⟨R2, by rw [← HTS.out]; exact HO8.out, HTA2.out⟩⟩⟩
          case measure => rw [HL1.out, HL0.out]; omega
        | false => 
          have HR := Aside0.mk (show R.T = R.H from by have := (HT.out.no rfl).2; have := HT.out.T; omega)
          have HJN := Aside0.mk ((HT.out.no rfl).1)
          have htk : t.take j = t := by rw [HJN.out, HTT.out]; exact List.take_of_length_le (by simp [upto])
          rw [htk] at HO
          obtain ⟨A9, c9, hv9, _, _, hc9⟩ := out_form HO.out.out
          subst hv9
          clear htk HTW HON HON5 HTA
          go_wp2_with fail
          go_loopw [11, 12, 81] (fun v11 v12 v81 wr => ∃ i : Nat, i ≤ l.length ∧ v81 = .int .i64 i ∧ Aside0 (OnInv wb.heap.size w3.heap.size w2.heap.size w2 p C (.slice A9 l.length c9) v11 v12 R l (popsOf F ++ t ++ popsOf (l.take i)) (pushesOf F ++ pushesOf (l.take i)) wr)) (fun _ _ v81 _ => l.length - (intOf v81).toNat)
          case atStart => exact ⟨0, by omega, rfl, ⟨by simpa [popsOf, pushesOf] using HO.out⟩⟩
          case round =>
            obtain ⟨i, hi, rfl, HJ⟩ := hrel
            obtain ⟨wl2, hwl2⟩ : ∃ wl2, wl2 = wr := ⟨_, rfl⟩
            subst hwl2
            by_cases hlt : i < l.length
            · obtain ⟨A', c', hv', hOA, hOl, _⟩ := out_form HJ.out.out
              injection hv' with e1 e2 e3
              subst e1
              obtain ⟨g, hg, hc⟩ := hOA i hlt
              have hgl : g < wl2.heap.size := hOl g hg
              subst hg
              obtain ⟨d, hd⟩ : ∃ d, d = l.getD i zeroD := ⟨_, rfl⟩
              rw [← hd] at hc
              have hdm : d ∈ l := by rw [hd]; simp [List.getD_eq_getElem?_getD, hlt]
              have HTK : Aside0 (l.take (i + 1) = l.take i ++ [d]) := ⟨by rw [List.take_succ_eq_append_getElem hlt, hd]; simp [hlt]⟩
              have z0 : wl2.cell? ⟨g, i * 6, none⟩ = some (.int .i64 d.kind) := hc 0 (by omega)
              have z1 : wl2.cell? ⟨g, i * 6 + 1, none⟩ = some (.int .u64 d.v) := hc 1 (by omega)
              have z2 : wl2.cell? ⟨g, i * 6 + 2, none⟩ = some (.int .i64 d.beg) := hc 2 (by omega)
              have z3 : wl2.cell? ⟨g, i * 6 + 3, none⟩ = some (.int .i64 d.fin) := hc 3 (by omega)
              have z4 : wl2.cell? ⟨g, i * 6 + 4, none⟩ = some (.bool d.well) := hc 4 (by omega)
              have z5 : wl2.cell? ⟨g, i * 6 + 5, none⟩ = some (.int .i64 d.ret) := hc 5 (by omega)
              have hi0 : (0 : Int) ≤ (i : Int) := by omega
              have HKD := Aside0.mk (HKI.out d hdm)
              have HP1 := Aside0.mk (hk_new wl2 (.cells #[.int .i64 d.kind, .int .u64 d.v, .int .i64 d.beg, .int .i64 d.fin, .bool d.well, .int .i64 d.ret] 57))
              have HO1 := Aside0.mk (HJ.out.alloc (.cells #[.int .i64 d.kind, .int .u64 d.v, .int .i64 d.beg, .int .i64 d.fin, .bool d.well, .int .i64 d.ret] 57))
              clear hc hd hdm hOA hOl e2 e3 HJ
              go_upto_region 25 with fail
              generalize wl2.alloc (.cells #[.int .i64 d.kind, .int .u64 d.v, .int .i64 d.beg, .int .i64 d.fin, .bool d.well, .int .i64 d.ret] 57) = W at HP1 HO1 ⊢
              generalize wl2.heap.size = g1 at HP1 ⊢
              obtain ⟨K, hK⟩ : ∃ K, K = d.kind := ⟨_, rfl⟩
              obtain ⟨wl3, hwl3⟩ : ∃ wl, wl = d.well := ⟨_, rfl⟩
              have HK := Aside0.mk hK
              have HWL := Aside0.mk hwl3
              have y0 : W.cell? ⟨g1, 0, none⟩ = some (.int .i64 K) := by rw [hk_cell HP1.out, hK]; rfl
              have y1 : W.cell? ⟨g1, 1, none⟩ = some (.int .u64 d.v) := by rw [hk_cell HP1.out]; rfl
              have y4 : W.cell? ⟨g1, 4, none⟩ = some (.bool wl3) := by rw [hk_cell HP1.out, hwl3]; rfl
              clear z0 z1 z2 z3 z4 z5 hK hwl3
              have hbs := HO1.out.b5.2
              cases wl3 with
              | false =>
                have HXY : Aside0 (popsOf (l.take i) = popsOf (l.take (i + 1)) ∧ pushesOf (l.take i) = pushesOf (l.take (i + 1))) := ⟨by rw [HTK.out, popsOf_snoc, pushesOf_snoc, ← HWL.out]; simp⟩
                go_wp2_with fail
                go_roundw
                case rel => exact ⟨i + 1, by omega, by go_num, ⟨by rw [← HXY.out.1, ← HXY.out.2]; exact HO1.out⟩⟩
                case measure => simp [intOf]; omega
              | true =>
                by_cases hk0 : K = 0
                · have HXY := Aside0.mk (push_end (l := l.take i) (d := d) HWL.out.symm (by rw [← HK.out, hk0]; decide) rfl)
                  have hlb : ((pushesOf F ++ pushesOf (l.take i)).length + 1) * 8 ≤ 140737488355328 := by
                    have := HLN.out.2; have := pushes_len (l.take i); have : (l.take i).length ≤ i := by simp; omega
                    rw [List.length_append]; omega
                  subst hk0
                  go_upto_region 28 with (at_builtin; go_must (refine print_append_num (w0 := W) w3.heap.size (by rfl) (.tmp 98) (.tmp 101) 44 32 .u64 8 rfl Try.underlying44 info32 (by omega) u12 (pushesOf F ++ pushesOf (l.take i)) d.v rfl rfl HO1.out.r12 (Below.refl _ _) hbs hlb ?_); intro v1 WW hown _ hg hat)
                  have HO6 := Aside0.mk (HO1.out.app12 hown hg hat)
                  clear hown hg hat hlb hbs y0 y1 y4
                  go_wp2_with fail
                  go_roundw
                  case rel => exact ⟨i + 1, by omega, by go_num, ⟨by rw [HTK.out, ← HXY.out.1, ← HXY.out.2, ← List.append_assoc]; exact HO6.out⟩⟩
                  case measure => simp [intOf]; omega
                · have HXY := Aside0.mk (pops_end (l := l.take i) (d := d) HWL.out.symm (by have := HKD.out; rw [← HK.out] at this ⊢; omega) rfl)
                  have hlb : ((popsOf F ++ t ++ popsOf (l.take i)).length + 1) * 8 ≤ 140737488355328 := by
                    have := HLN.out.1; have := pops_len (l.take i); have : (l.take i).length ≤ i := by simp; omega
                    have h8 := HHT.out.2
                    have htl : t.length = N := by rw [HTT.out]; simp [upto]
                    rw [List.length_append, List.length_append, htl]; omega
                  go_upto_region 28 with (at_builtin; go_must (refine print_append_num (w0 := W) w3.heap.size (by rfl) (.tmp 85) (.tmp 88) 44 32 .u64 8 rfl Try.underlying44 info32 (by omega) u11 (popsOf F ++ t ++ popsOf (l.take i)) d.v rfl rfl HO1.out.r11 (Below.refl _ _) hbs hlb ?_); intro v1 WW hown _ hg hat)
                  have HO6 := Aside0.mk (HO1.out.app11 hown hg hat)
                  clear hown hg hat hlb hbs y0 y1 y4
                  go_wp2_with fail
                  go_roundw
                  case rel => exact ⟨i + 1, by omega, by go_num, ⟨by rw [HTK.out, ← HXY.out.1, ← HXY.out.2, ← List.append_assoc]; exact HO6.out⟩⟩
                  case measure => simp [intOf]; omega
            · have hkl : i = l.length := by omega
              subst hkl
              have HO4 : Aside0 (OnInv wb.heap.size w3.heap.size w2.heap.size w2 p C (.slice A9 l.length c9) u11 u12 R l (popsOf F ++ t ++ popsOf l) (pushesOf F ++ pushesOf l) wl2) := ⟨by have := HJ.out; rw [List.take_length] at this; exact this⟩
              clear HJ HO
              obtain ⟨xs, hxs⟩ : ∃ xs, xs = popsOf F ++ t ++ popsOf l := ⟨_, rfl⟩
              obtain ⟨ys, hys⟩ : ∃ ys, ys = pushesOf F ++ pushesOf l := ⟨_, rfl⟩
              rw [← hxs, ← hys] at HPA
              rw [← hxs, ← hys] at HO4
              rw [← hys] at HVL
              have HXL : Aside0 (ys.length ≤ 1000) := ⟨by
                rw [hys, List.length_append]
                have := HLN.out.2; have := pushes_len l; omega⟩
              clear hxs hys
              have hxy := HPA.out.2.length_eq
              obtain ⟨A11, c11, hv11, hn11, hl11, hc11⟩ := num_form HO4.out.r11
              obtain ⟨A12, c12, hv12, hn12, hl12, hc12⟩ := num_form HO4.out.r12
              rw [hxy] at hv11 hc11
              subst hv11
              subst hv12
              have hyl := HXL.out
              have HN11 := Aside0.mk hn11
              have HN12 := Aside0.mk hn12
              have HXY := Aside0.mk hxy
              have hmm := @run_makeMap Try.prog
              obtain ⟨mb, hmb⟩ : ∃ mb, mb = wl2.heap.size := ⟨_, rfl⟩
              have HM0 : Aside0 ((wl2.alloc (.map #[] 0)).ownsMap Try.prog 32 Rc mb 0 (.map [])) := ⟨by rw [hmb]; exact World.ownsMap_made wl2 Try.prog 32 Rc⟩
              have HB4 : Aside0 (Below mb wl2 (wl2.alloc (.map #[] 0))) := ⟨by rw [hmb]; exact (Below.refl _ _).alloc (Nat.le_refl _) _⟩
              have HL11 : Aside0 (∀ g, A11 = some ⟨g, 0, none⟩ → g < mb) := ⟨by rw [hmb]; exact hl11⟩
              have HL12 : Aside0 (∀ g, A12 = some ⟨g, 0, none⟩ → g < mb) := ⟨by rw [hmb]; exact hl12⟩
              have HMB := Aside0.mk hmb
              clear hn11 hn12 hxy hl11 hl12
              go_wp2_with fail
              rw [← hmb]
              clear hmb hmm
              go_loopw [107] (fun v107 wr => ∃ k : Nat, k ≤ ys.length ∧ v107 = .int .i64 k ∧ Aside0 (∃ D, wr.ownsMap Try.prog 32 Rc mb k D ∧ CntOk D (cnt (ys.take k)) ∧ Below mb wl2 wr)) (fun v107 _ => ys.length - (intOf v107).toNat)
              case atStart => exact ⟨0, by omega, rfl, ⟨⟨_, HM0.out, cnt_empty, HB4.out⟩⟩⟩
              case round =>
                obtain ⟨i, hi, rfl, HJ⟩ := hrel
                obtain ⟨D, hD⟩ := HJ.out
                obtain ⟨wm, hwm⟩ : ∃ wm, wm = wr := ⟨_, rfl⟩
                subst hwm
                have HD := Aside0.mk hD
                clear HJ hD
                by_cases hlt : i < ys.length
                · obtain ⟨g, hg, hc⟩ := HN12.out i hlt
                  have hgl := HL12.out g hg
                  have hc2 := (HD.out.2.2.cell (p := ⟨g, i, none⟩) hgl).trans hc
                  subst hg
                  obtain ⟨y, hy⟩ : ∃ y, y = ys.getD i 0 := ⟨_, rfl⟩
                  rw [← hy] at hc2
                  have hym : y ∈ ys := by rw [hy]; simp [List.getD_eq_getElem?_getD, hlt]
                  have hyv := HVL.out ys (List.Perm.refl _) y hym
                  have HKY := Aside0.mk (key_u64 y hyv)
                  obtain ⟨c, hcc⟩ : ∃ c, c = cnt (ys.take i) y := ⟨_, rfl⟩
                  have hr1 : (Instr.lookup 58 (.map (some mb)) (.int .u64 y) false).run Try.prog wm = .ok (.int .i64 c) wm := by rw [hcc]; exact look_cnt HD.out.1 HD.out.2.1 y hyv
                  have hcb : 0 ≤ c ∧ c ≤ 1000 := by
                    have h1 := cnt_bound (ys.take i) y; rw [← hcc] at h1
                    have : (ys.take i).length ≤ i := by simp; omega
                    omega
                  have hwc : IntKind.i64.wrap (c + 1) = c + 1 := IntWalk.i64_in _ (by omega)
                  have HVA := Aside0.mk (plainElem_int (H := Nat) Try.underlying3 (a := c + 1) (by simp [Lit.wf, IntKind.min, IntKind.max, IntKind.bits, IntKind.signed]; omega))
                  have hgl3 : g < wm.heap.size := Nat.lt_of_lt_of_le (Nat.lt_trans hgl HD.out.1.lt) (Nat.le_refl _)
                  have hi0 : (0 : Int) ≤ (i : Int) := by omega
                  have HCN : Aside0 (∀ x, (if x = y then c + 1 else cnt (ys.take i) x) = cnt (ys.take (i + 1)) x) := ⟨fun x => by rw [take_snoc ys i hlt, ← hy, cnt_snoc, hcc]⟩
                  have hU64 : 0 ≤ y ∧ y ≤ 18446744073709551615 := hyv
                  clear hc hcc hy hym hyv
                  go_wp2_with (at_mapUpdate; go_must (refine wpList_mapUpdate_own _ rfl _ _ _ 58 rfl 32 3 key32 Try.underlying58 Rc mb i D rfl HD.out.1 (by unfold maxLen; omega) _ _ _ rfl rfl HKY.out _ [] HVA.out ?_); intro w8 hown8 hgrow8)
                  have HNX : Aside0 (∃ D, w8.ownsMap Try.prog 32 Rc mb (i + 1) D ∧ CntOk D (cnt (ys.take (i + 1))) ∧ Below mb wl2 w8) := ⟨_, hown8, cnt_congr (cnt_put HD.out.2.1 y (c + 1)) HCN.out, HD.out.2.2.grown hgrow8 (Nat.le_of_lt HD.out.1.lt) (fun k hk => by injection hk with hk; omega)⟩
                  clear hown8 hgrow8 hr1 hc2
                  go_wp2_with fail
                  go_roundw
                  case rel => exact ⟨i + 1, by omega, by go_num, HNX⟩
                  case measure => simp [intOf]; omega
                · have hkl : i = ys.length := by omega
                  subst hkl
                  have HD5 : Aside0 (wm.ownsMap Try.prog 32 Rc mb ys.length D ∧ CntOk D (cnt ys) ∧ Below mb wl2 wm) := ⟨by have := HD.out; rw [List.take_length] at this; exact this⟩
                  clear HD
                  go_wp2_with fail
                  go_loopw [118] (fun v118 wr => ∃ k : Nat, k ≤ ys.length ∧ v118 = .int .i64 k ∧ Aside0 (∃ D, wr.ownsMap Try.prog 32 Rc mb (ys.length + k) D ∧ CntOk D (fun x => cnt ys x - cnt (xs.take k) x) ∧ Below mb wl2 wr)) (fun v118 _ => ys.length - (intOf v118).toNat)
                  case atStart => exact ⟨0, by omega, rfl, ⟨⟨_, HD5.out.1, cnt_congr HD5.out.2.1 (fun x => by simp [cnt]), HD5.out.2.2⟩⟩⟩
                  case round =>
                    obtain ⟨i, hi, rfl, HJ⟩ := hrel
                    obtain ⟨D2, hD⟩ := HJ.out
                    obtain ⟨wn, hwn⟩ : ∃ wn, wn = wr := ⟨_, rfl⟩
                    subst hwn
                    have HD := Aside0.mk hD
                    clear HJ hD
                    by_cases hlt : i < ys.length
                    · obtain ⟨g, hg, hc⟩ := HN11.out i (by rw [HXY.out]; exact hlt)
                      have hgl := HL11.out g hg
                      have hc2 := (HD.out.2.2.cell (p := ⟨g, i, none⟩) hgl).trans hc
                      subst hg
                      have hcd := cnt_down HPA.out.2 HPA.out.1 i (by rw [HXY.out]; exact hlt)
                      have hym0 : xs.getD i 0 ∈ xs := by simp [List.getD_eq_getElem?_getD, show i < xs.length from by rw [HXY.out]; exact hlt]
                      obtain ⟨y, hy⟩ : ∃ y, y = xs.getD i 0 := ⟨_, rfl⟩
                      rw [← hy] at hc2 hcd hym0
                      have hyv := HVL.out xs HPA.out.2 y hym0
                      have HKY := Aside0.mk (key_u64 y hyv)
                      have hr1 : (Instr.lookup 58 (.map (some mb)) (.int .u64 y) false).run Try.prog wn = .ok (.int .i64 1) wn := by
                        have h1 := look_cnt HD.out.1 HD.out.2.1 y hyv
                        have e1 : cnt ys y - cnt (xs.take i) y = 1 := by omega
                        simp only [e1] at h1; exact h1
                      have HVA := Aside0.mk (plainElem_int (H := Nat) Try.underlying3 (a := 0) (by decide))
                      have hgl3 : g < wn.heap.size := Nat.lt_trans hgl HD.out.1.lt
                      have hi0 : (0 : Int) ≤ (i : Int) := by omega
                      have HCN : Aside0 (∀ x, (if x = y then 0 else cnt ys x - cnt (xs.take i) x) = cnt ys x - cnt (xs.take (i + 1)) x) := ⟨fun x => by
                        rw [take_snoc xs i (by rw [HXY.out]; exact hlt), ← hy, cnt_snoc]
                        by_cases e : x = y
                        · subst e; simp; omega
                        · simp [e]⟩
                      have HYV := Aside0.mk hyv
                      have hU64 : 0 ≤ y ∧ y ≤ 18446744073709551615 := hyv
                      clear hc hy hym0 hyv hcd
                      go_upto_region 39 with (at_mapUpdate; go_must (refine wpList_mapUpdate_own _ rfl _ _ _ 58 rfl 32 3 key32 Try.underlying58 Rc mb (ys.length + i) D2 rfl HD.out.1 (by unfold maxLen; omega) _ (.int .i64 0) _ rfl rfl HKY.out _ [] HVA.out ?_); intro w8 hown8 hgrow8)
                      have hcd8 := cnt_put HD.out.2.1 y 0
                      have hr2 : (Instr.lookup 58 (.map (some mb)) (.int .u64 y) false).run Try.prog w8 = .ok (.int .i64 0) w8 := by
                        have h1 := look_cnt hown8 hcd8 y HYV.out
                        simpa using h1
                      have HNX : Aside0 (∃ D, w8.ownsMap Try.prog 32 Rc mb (ys.length + (i + 1)) D ∧ CntOk D (fun x => cnt ys x - cnt (xs.take (i + 1)) x) ∧ Below mb wl2 w8) := ⟨_, hown8, cnt_congr hcd8 HCN.out, HD.out.2.2.grown hgrow8 (Nat.le_of_lt HD.out.1.lt) (fun k hk => by injection hk with hk; omega)⟩
                      clear hown8 hgrow8 hr1 hc2 hcd8
                      go_wp2_with fail
                      go_roundw
                      case rel => exact ⟨i + 1, by omega, by go_num, HNX⟩
                      case measure => simp [intOf]; omega
                    · have HRE := Aside0.mk (HO4.out.ring.below (w' := wn) (by rw [← HMB.out]; exact HD.out.2.2))
                      have htl0 := hk_lt HO4.out.team
                      have q0 : wn.cell? ⟨p.tb, 0, none⟩ = some (.pointer (some ⟨p.g, 0, none⟩)) := (HD.out.2.2.cell (p := ⟨p.tb, 0, none⟩) (by rw [HMB.out]; exact htl0)).trans ((hk_cell HO4.out.team 0).trans HTC.out)
                      have htl : p.tb < wn.heap.size := Nat.lt_of_lt_of_le htl0 HD.out.2.2.size
                      have HTW : Aside0 (∀ W, IsRing W p.g p.sb R → Calls Try.prog 22 #[.pointer (some ⟨p.g, 0, none⟩)] W fun e w' => e = .returned (.int .u64 R.T) ∧ w' = W) := ⟨fun W hW => tail_walk p.g p.sb _ W hW⟩
                      have HHW : Aside0 (∀ W, IsRing W p.g p.sb R → Calls Try.prog 23 #[.pointer (some ⟨p.g, 0, none⟩)] W fun e w' => e = .returned (.int .u64 R.T) ∧ w' = W) := ⟨fun W hW => by rw [HR.out]; exact head_walk p.g p.sb _ W hW⟩
                      have HBF : Aside0 (Below w.heap.size w wn) := ⟨HB1.out.trans ((HBW.out.trans ((HB2.out.trans (HO4.out.below.trans (HD.out.2.2.mono (by rw [HMB.out]; exact Nat.le_trans HO4.out.b5.1 HO4.out.b5.2)))).mono HBW.out.size)).mono HB1.out.size)⟩
                      clear htl0
                      go_wp2_with fail
                      refine region_laterL (by kernel_rfl) (by kernel_rfl) (by kernel_rfl) ?_
                      repeat (go_big_quiet_step (first
                        | (go_at_call 22; refine later_same (HTW.out _ (HRE.out.below (Subtype.property _))))
                        | (go_at_call 23; refine later_same (HHW.out _ (HRE.out.below (Subtype.property _))))))
                      refine wpQuiet_nil ?_
                      rintro w4 ⟨⟨_, hb4⟩, rfl⟩
                      have HF := Aside0.mk (HBF.out.trans (hb4.mono HBF.out.size))
                      clear hb4
                      go_wp2
                      go_ret
                      exact ⟨rfl, HF.out⟩
theorem once_row (n : Int) (a : Option Addr) (len cap : Nat) (w : World) (wn : (Lit.int .u8 n).wf = true)
    (f : len ≤ cap ∧ cap ≤ maxLen ∧ (a = none → len = 0 ∧ cap = 0) ∧ ∀ ad, a = some ad → ∀ i, i < len → ∃ cs, Scs [some .u8, some .u8, some .u64] cs ∧ ∀ j, j < 3 → w.cell? (ad.add (i * 3 + j)) = cs[j]?) (hl : len * 16 ≤ 140737488351232) :
    Calls Try.prog 5 #[.int .u8 n, .slice a len cap] w fun e w' => e = .returned (.bool true) ∧ Below w.heap.size w w' := by
  obtain ⟨ps, hp, hps⟩ := picks_of f
  exact once_walk n a ps len cap w (u8_of wn) hp hps hl
end Go.Proofs.Ytepbggoeajihbaa.Ring
