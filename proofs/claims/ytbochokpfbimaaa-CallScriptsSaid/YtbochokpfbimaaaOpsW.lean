/- CallOps, walked. -/
import Derived.Test.YtbochokpfbimaaaApz
import Derived.Test.YtbochokpfbimaaaNumbW
import Derived.Deep.DeepCutAuto
import Derived.Deep.RegionHeld3
set_option linter.unusedVariables false
set_option linter.unusedSimpArgs false
namespace Go.Proofs.Ytbochokpfbimaaa.PCallOps
open Go.RowKit Go.Proofs.YtbochokpfbimaaaW.PrintWords Go.Proofs.YtbochokpfbimaaaW.PrintLast Go.Proofs.YtbochokpfbimaaaW.PrintMore Go.Proofs.YtbochokpfbimaaaHk Go.Proofs.YtbochokpfbimaaaBs
attribute [local go_sem] min2_mn min_two

theorem numOut {w w' : World} {zs : List Int} {e : Ending} (h : NumPost w zs e w') : ∃ A' c', e = .returned (.slice A' zs.length c') ∧ zs.length ≤ c' ∧ Rb w' A' zs ∧ Below w.heap.size w w' := h
theorem keep9 {B gb : Nat} {W W1 : World} {k t h n rk u rt rh rn : Int} (hb : Below B W W1) (h0 : gb + 1 < B) (hS : W.cell? ⟨gb, 0, none⟩ = some (.int .u8 k) ∧ W.cell? ⟨gb, 1, none⟩ = some (.int .i64 t) ∧ W.cell? ⟨gb, 2, none⟩ = some (.int .i64 h) ∧ W.cell? ⟨gb, 3, none⟩ = some (.int .i64 n) ∧ W.cell? ⟨gb + 1, 0, none⟩ = some (.int .u8 rk) ∧ W.cell? ⟨gb + 1, 1, none⟩ = some (.int .u64 u) ∧ W.cell? ⟨gb + 1, 2, none⟩ = some (.int .i64 rt) ∧ W.cell? ⟨gb + 1, 3, none⟩ = some (.int .i64 rh) ∧ W.cell? ⟨gb + 1, 4, none⟩ = some (.int .i64 rn)) : W1.cell? ⟨gb, 0, none⟩ = some (.int .u8 k) ∧ W1.cell? ⟨gb, 1, none⟩ = some (.int .i64 t) ∧ W1.cell? ⟨gb, 2, none⟩ = some (.int .i64 h) ∧ W1.cell? ⟨gb, 3, none⟩ = some (.int .i64 n) ∧ W1.cell? ⟨gb + 1, 0, none⟩ = some (.int .u8 rk) ∧ W1.cell? ⟨gb + 1, 1, none⟩ = some (.int .u64 u) ∧ W1.cell? ⟨gb + 1, 2, none⟩ = some (.int .i64 rt) ∧ W1.cell? ⟨gb + 1, 3, none⟩ = some (.int .i64 rh) ∧ W1.cell? ⟨gb + 1, 4, none⟩ = some (.int .i64 rn) := by
  obtain ⟨a0, a1, a2, a3, b0, b1, b2, b3, b4⟩ := hS
  have h1 : gb < B := by omega
  exact ⟨(hb.cell (p := ⟨gb, 0, none⟩) h1).trans a0, (hb.cell (p := ⟨gb, 1, none⟩) h1).trans a1, (hb.cell (p := ⟨gb, 2, none⟩) h1).trans a2, (hb.cell (p := ⟨gb, 3, none⟩) h1).trans a3, (hb.cell (p := ⟨gb + 1, 0, none⟩) h0).trans b0, (hb.cell (p := ⟨gb + 1, 1, none⟩) h0).trans b1, (hb.cell (p := ⟨gb + 1, 2, none⟩) h0).trans b2, (hb.cell (p := ⟨gb + 1, 3, none⟩) h0).trans b3, (hb.cell (p := ⟨gb + 1, 4, none⟩) h0).trans b4⟩
theorem undrew {B : Nat} {w w' : World} (h : Below B w.drew w') : Below B w w' := ⟨h.os, h.tape, h.output, h.size, h.block⟩
theorem op_nil (k t h n : Int) (w : World) (ht : I64 t) (hh : I64 h) (hn : I64 n) : Calls Try.prog 14 #[.slice none 0 0, .agg #[.int .u8 k, .int .i64 t, .int .i64 h, .int .i64 n]] w (NumPost w (k :: nb [t, h, n])) :=
  op_walk none 0 [] k t h n w (rb_nil w) (by simp) (fun _ => rfl) (by simp) ht hh hn
theorem result_nil (k u t h n : Int) (w : World) (hu : U64 u) (ht : I64 t) (hh : I64 h) (hn : I64 n) : Calls Try.prog 15 #[.slice none 0 0, .agg #[.int .u8 k, .int .u64 u, .int .i64 t, .int .i64 h, .int .i64 n]] w (NumPost w (k :: nb [wrap64 u, t, h, n])) :=
  result_walk none 0 [] k u t h n w (rb_nil w) (by simp) (fun _ => rfl) (by simp) hu ht hh hn

set_option maxHeartbeats 3200000 in
set_option maxRecDepth 100000 in
theorem ops_walk (k t h n rk u rt rh rn : Int) (A : Option Addr) (c : Nat) (xs : List Int) (w : World) (ht : I64 t) (hh : I64 h) (hn : I64 n) (hu : U64 u) (hrt : I64 rt) (hrh : I64 rh) (hrn : I64 rn)
    (hr : Rb w A xs) (hc : xs.length ≤ c) (hA : A = none → c = 0) (hl : xs.length ≤ 140737488351232) (hcm : c ≤ 9223372036854775807) :
    Calls Try.prog 5 #[.agg #[.int .u8 k, .int .i64 t, .int .i64 h, .int .i64 n], .agg #[.int .u8 rk, .int .u64 u, .int .i64 rt, .int .i64 rh, .int .i64 rn], .slice A xs.length c] w fun e w' => e = .returned (.bool true) ∧ Below w.heap.size w w' := by
  obtain ⟨L, hL⟩ : ∃ L, L = min xs.length 20 := ⟨_, rfl⟩
  have hmn : mn (xs.length : Int) 20 = (L : Int) := by rw [hL]; exact mn_nat _ 20
  have hL0 : L ≤ xs.length := by omega
  have hL4 : L ≤ 20 := by omega
  obtain ⟨ys, hys⟩ : ∃ ys, ys = xs.take L := ⟨_, rfl⟩
  have hyl : ys.length = L := by rw [hys]; simp; omega
  have Hr := Aside0.mk (show Rb w A ys by rw [hys]; have := ReadsInt.take_ hr L hL0; rw [Rb, List.length_take, Nat.min_eq_left hL0]; exact this)
  have HA := Aside0.mk hA; clear hA
  clear hL hys hr
  generalize xs.length = X at *
  have HOP := Aside0.mk (fun w => op_nil k t h n w ht hh hn)
  have HRES := Aside0.mk (fun w => result_nil rk u rt rh rn w hu hrt hrh hrn)
  have HROP := Aside0.mk (fun w => refop_walk k t h n w ht hh hn)
  have HRRES := Aside0.mk (fun w => refres_walk rk u rt rh rn w hrt hrh hrn)
  have HRO := Aside0.mk (fun A c post w m => readop_back A c k t h n post w ht hh hn (m := m))
  have HRR := Aside0.mk (fun A c post w m => readres_back A c rk u rt rh rn post w hu hrt hrh hrn (m := m))
  have hpl := nb_len [t, h, n]
  have hql := nb_len [wrap64 u, rt, rh, rn]
  obtain ⟨ps, hps⟩ : ∃ ps, ps = k :: nb [t, h, n] := ⟨_, rfl⟩
  obtain ⟨qs, hqs⟩ : ∃ qs, qs = rk :: nb [wrap64 u, rt, rh, rn] := ⟨_, rfl⟩
  have hpl1 : ps.length ≤ 31 := by rw [hps]; simp at hpl ⊢; omega
  have hql1 : qs.length ≤ 41 := by rw [hqs]; simp at hql ⊢; omega
  have hpl0 : 0 < ps.length := by rw [hps]; simp
  have hql0 : 0 < qs.length := by rw [hqs]; simp
  rw [← hps] at HOP HROP HRO
  rw [← hqs] at HRES HRRES HRR
  clear hps hqs hpl hql ht hh hn hu hrt hrh hrn
  go_enter Try.func5, Try.ntmps5
  go_wp2_with fail
  with_reducible refine (awake_walk _).mono ?_
  rintro e w1 ⟨rfl, hb1⟩
  have HO1 := Aside0.mk (hk_below hb1 (by simp; omega) (blk_alloc (blk_new w _) _))
  have HQ1 := Aside0.mk (hk_below hb1 (by simp) (blk_new1 w _ _))
  have HB1 := Aside0.mk (hk_then (((Below.refl _ _).alloc (Nat.le_refl _) _).alloc (by simp) _) hb1 (by simp; omega))
  have hs1 := hb1.size
  simp at hs1
  clear hb1
  have HR1 := Aside0.mk (Hr.out.below HB1.out)
  generalize hgb : w.heap.size = gb at *
  go_upto_region 4 with fail
  have hne1 : w1.heap.size ≠ gb := by omega
  have hne2 : w1.heap.size ≠ gb + 1 := by omega
  have hlt0 : gb < w1.heap.size := by omega
  have hlt1 : gb + 1 < w1.heap.size := by omega
  have o0 := hk_cell HO1.out 0
  have o1 := hk_cell HO1.out 1
  have o2 := hk_cell HO1.out 2
  have o3 := hk_cell HO1.out 3
  have p0 := hk_cell HQ1.out 0
  have p1 := hk_cell HQ1.out 1
  have p2 := hk_cell HQ1.out 2
  have p3 := hk_cell HQ1.out 3
  have p4 := hk_cell HQ1.out 4
  have HS : Aside0 (w1.cell? ⟨gb, 0, none⟩ = some (.int .u8 k) ∧ w1.cell? ⟨gb, 1, none⟩ = some (.int .i64 t) ∧ w1.cell? ⟨gb, 2, none⟩ = some (.int .i64 h) ∧ w1.cell? ⟨gb, 3, none⟩ = some (.int .i64 n) ∧ w1.cell? ⟨gb + 1, 0, none⟩ = some (.int .u8 rk) ∧ w1.cell? ⟨gb + 1, 1, none⟩ = some (.int .u64 u) ∧ w1.cell? ⟨gb + 1, 2, none⟩ = some (.int .i64 rt) ∧ w1.cell? ⟨gb + 1, 3, none⟩ = some (.int .i64 rh) ∧ w1.cell? ⟨gb + 1, 4, none⟩ = some (.int .i64 rn)) := ⟨o0, o1, o2, o3, p0, p1, p2, p3, p4⟩
  go_cut [7, 8] (fun v7 v8 wx => ∃ (A4 : Option Addr) (c4 : Nat) (A5 : Option Addr) (c5 : Nat), v7 = .slice A4 ps.length c4 ∧ v8 = .slice A5 qs.length c5 ∧ Aside0 (ps.length ≤ c4 ∧ Rb wx A4 ps ∧ qs.length ≤ c5 ∧ Rb wx A5 qs ∧ Below w1.heap.size w1 wx))
  case first =>
    go_region_held3 (fun w' => w'.cell? ⟨gb, 0, none⟩ = some (.int .u8 k) ∧ w'.cell? ⟨gb, 1, none⟩ = some (.int .i64 t) ∧ w'.cell? ⟨gb, 2, none⟩ = some (.int .i64 h) ∧ w'.cell? ⟨gb, 3, none⟩ = some (.int .i64 n) ∧ w'.cell? ⟨gb + 1, 0, none⟩ = some (.int .u8 rk) ∧ w'.cell? ⟨gb + 1, 1, none⟩ = some (.int .u64 u) ∧ w'.cell? ⟨gb + 1, 2, none⟩ = some (.int .i64 rt) ∧ w'.cell? ⟨gb + 1, 3, none⟩ = some (.int .i64 rh) ∧ w'.cell? ⟨gb + 1, 4, none⟩ = some (.int .i64 rn)) (first | exact HS.out | exact keep9 HB4.out (by simpa using hlt1) HS.out | exact keep9 HB5.out (Nat.lt_of_lt_of_le (by simpa using hlt1) HB4.out.size) (keep9 HB4.out (by simpa using hlt1) HS.out)) (first
      | (go_at_call 14; with_reducible refine (HOP.out _).mono ?_; intro e w2 hp4; obtain ⟨A4, c4, he4, hc4, hr4, hb4⟩ := numOut hp4; subst he4; clear hp4; obtain ⟨hce4, hf4⟩ := bcell hb4; have HB4 := Aside0.mk hb4; have HR4 := Aside0.mk (And.intro hc4 hr4); clear hb4 hc4 hr4)
      | (go_at_call 15; with_reducible refine (HRES.out _).mono ?_; intro e w3 hp5; obtain ⟨A5, c5, he5, hc5, hr5, hb5⟩ := numOut hp5; subst he5; clear hp5; obtain ⟨hce5, hf5⟩ := bcell hb5; have HB5 := Aside0.mk hb5; have HR5 := Aside0.mk (And.intro hc5 hr5); clear hb5 hc5 hr5))
    all_goals go_wp2_with fail
    all_goals go_meet
    case rel => exact ⟨A4, c4, A5, c5, rfl, rfl, ⟨HR4.out.1, HR4.out.2.below HB5.out, HR5.out.1, HR5.out.2, undrew (hk_then HB4.out HB5.out HB4.out.size)⟩⟩
  case rest =>
    obtain ⟨A4, c4, A5, c5, rfl, rfl, HI⟩ := hcut
    have HBc := Aside0.mk HI.out.2.2.2.2
    have HSc := Aside0.mk (keep9 HBc.out hlt1 HS.out)
    clear o0 o1 o2 o3 p0 p1 p2 p3 p4
    obtain ⟨o0, o1, o2, o3, p0, p1, p2, p3, p4⟩ := HSc.out
    go_wp2_with fail
    with_reducible refine (HROP.out _).mono ?_
    rintro e w5 ⟨A6, c6, rfl, hc6, hr6, hb6⟩
    have hne4 : A4 = none → c4 = 0 := fun h => by obtain ⟨_, _, h3, _⟩ := (HI.out.2.1).addr hpl0; rw [h3] at h; cases h
    have hne5 : A5 = none → c5 = 0 := fun h => by obtain ⟨_, _, h3, _⟩ := (HI.out.2.2.2.1).addr hql0; rw [h3] at h; cases h
    have HN4 := Aside0.mk hne4; have HN5 := Aside0.mk hne5; clear hne4 hne5
    have HP5 := Aside0.mk (HI.out.2.1.below hb6)
    have HQ5 := Aside0.mk (HI.out.2.2.2.1.below hb6)
    have HB5 := Aside0.mk (hk_then HBc.out hb6 HBc.out.size)
    have HR6 := Aside0.mk hr6
    have hc4 := HI.out.1
    have hc5 := HI.out.2.2.1
    clear hb6 hr6 o0 o1 o2 o3 p0 p1 p2 p3 p4
    go_wp2_with fail
    with_reducible refine (equal_yes A4 A6 c4 c6 ps w5 HP5.out HR6.out hc4 hc6).mono ?_
    rintro e w6 ⟨rfl, hb6⟩
    have HP6 := Aside0.mk (HP5.out.below hb6)
    have HQ6 := Aside0.mk (HQ5.out.below hb6)
    have HB6 := Aside0.mk (hk_then HB5.out hb6 HB5.out.size)
    have HS6 := Aside0.mk (keep9 HB6.out hlt1 HS.out)
    clear hb6 HP5 HQ5 HB5 HR6 hc6
    obtain ⟨o0, o1, o2, o3, p0, p1, p2, p3, p4⟩ := HS6.out
    go_wp2_with fail
    with_reducible refine (HRRES.out _).mono ?_
    rintro e w7 ⟨A8, c8, rfl, hc8, hr8, hb8⟩
    have HP7 := Aside0.mk (HP6.out.below hb8)
    have HQ7 := Aside0.mk (HQ6.out.below hb8)
    have HB7 := Aside0.mk (hk_then HB6.out hb8 HB6.out.size)
    have HR8 := Aside0.mk hr8
    clear hb8 hr8 o0 o1 o2 o3 p0 p1 p2 p3 p4 HP6 HQ6 HB6 HS6
    go_wp2_with fail
    with_reducible refine (equal_yes A5 A8 c5 c8 qs w7 HQ7.out HR8.out hc5 hc8).mono ?_
    rintro e w8 ⟨rfl, hb8⟩
    have HP8 := Aside0.mk (HP7.out.below hb8)
    have HQ8 := Aside0.mk (HQ7.out.below hb8)
    have HB8 := Aside0.mk (hk_then HB7.out hb8 HB7.out.size)
    clear hb8 HP7 HQ7 HB7 HR8 hc8
    go_wp2_with fail
    with_reducible refine (clone_walk A4 c4 ps w8 HP8.out hc4 HN4.out (by omega)).mono ?_
    rintro e w9 ⟨A9, c9, rfl, hg9, hb9⟩
    have HB9 := Aside0.mk (hk_then HB8.out hb9 HB8.out.size)
    have HY9 := Aside0.mk (HR1.out.below HB9.out)
    have HX9 := Aside0.mk hb9
    have HG9 := Aside0.mk hg9
    clear hb9 hg9 HP8
    subst hyl
    go_wp2_with (at_builtin; refine gb_append_any (w0 := w8) w8.heap.size rfl _ _ 25 5 rfl Try.underlying25 Try.info5 A9 c9 ps ys A c rfl rfl HG9.out HY9.out HX9.out HX9.out.size (by omega) ?_; intro A10 c10 w10 hg10 hb10)
    have HB10 := Aside0.mk (hk_then HB8.out hb10 HB8.out.size)
    have HQ10 := Aside0.mk (HQ8.out.below hb10)
    have HG10 := Aside0.mk hg10
    clear hb10 hg10 HG9 HX9 HB9 HY9 HQ8
    with_reducible refine (HRO.out A10 c10 ys w10 _ (by omega) HG10.out.reads (by simp) (by have := HG10.out.le; simp at this; omega)).mono ?_
    rintro e w11 ⟨rfl, hb11⟩
    have HB11 := Aside0.mk (hk_then HB10.out hb11 HB10.out.size)
    have HQ11 := Aside0.mk (HQ10.out.below hb11)
    have hs11 := HB11.out.size
    have HY11 := Aside0.mk (HR1.out.below HB11.out)
    clear hb11 HQ10 HB10 HG10
    go_wp2_with fail
    have HA12 : Aside0 (Below w11.heap.size w11 (w11.alloc (.cells #[.int .u8 k, .int .i64 t, .int .i64 h, .int .i64 n] 36))) := ⟨(Below.refl _ _).alloc (Nat.le_refl _) _⟩
    with_reducible refine (clone_walk A5 c5 qs _ (HQ11.out.below HA12.out) hc5 HN5.out (by omega)).mono ?_
    rintro e w13 ⟨A13, c13, rfl, hg13, hb13⟩
    have HE13 := Aside0.mk (hk_below hb13 (by simp) (blk_new w11 _))
    have HB13 := Aside0.mk (hk_then (HB11.out.alloc HB11.out.size _) hb13 (by simp; omega))
    have HY13 := Aside0.mk (HR1.out.below HB13.out)
    have HX13 := Aside0.mk hb13
    have HG13 := Aside0.mk hg13
    have hsz : (w11.alloc (.cells #[.int .u8 k, .int .i64 t, .int .i64 h, .int .i64 n] 36)).heap.size = w11.heap.size + 1 := by simp
    have HSZ := Aside0.mk hsz
    clear hb13 hg13 HQ11 HY11 HA12 hsz
    go_wp2_with (at_builtin; refine gb_append_any (w0 := w11.alloc (.cells #[.int .u8 k, .int .i64 t, .int .i64 h, .int .i64 n] 36)) (w11.alloc (.cells #[.int .u8 k, .int .i64 t, .int .i64 h, .int .i64 n] 36)).heap.size rfl _ _ 25 5 rfl Try.underlying25 Try.info5 A13 c13 qs ys A c rfl rfl HG13.out HY13.out HX13.out HX13.out.size (by omega) ?_; intro A14 c14 w14 hg14 hb14)
    have HE14 := Aside0.mk (hk_below hb14 (by simp) (blk_new w11 _))
    have HB14 := Aside0.mk (hk_then (HB11.out.alloc HB11.out.size _) hb14 (by simp; omega))
    have HG14 := Aside0.mk hg14
    clear hb14 hg14 HG13 HX13 HB13 HY13 HE13
    with_reducible refine (HRR.out A14 c14 ys w14 _ (by omega) HG14.out.reads (by simp) (by have := HG14.out.le; simp at this; omega)).mono ?_
    rintro e w15 ⟨rfl, hb15⟩
    have HE15 := Aside0.mk (hk_below hb15 (hk_lt HE14.out) HE14.out)
    have HB15 := Aside0.mk (hk_then HB14.out hb15 HB14.out.size)
    have hs15 := HB15.out.size
    have hlt15 := hk_lt HE15.out
    have hne15 : w11.heap.size ≠ w15.heap.size := by omega
    have hne15' : w15.heap.size ≠ w11.heap.size := by omega
    have hn6 : w15.heap.size ≠ gb := by omega
    have hn7 : w15.heap.size ≠ gb + 1 := by omega
    have hn8 : gb ≠ w15.heap.size := by omega
    have hn9 : gb + 1 ≠ w15.heap.size := by omega
    have hm6 : gb < w15.heap.size := by omega
    have hm7 : gb + 1 < w15.heap.size := by omega
    have HS15 := Aside0.mk (keep9 HB15.out hlt1 HS.out)
    clear hb15 HE14 HB14 HG14 HB11
    obtain ⟨o0, o1, o2, o3, p0, p1, p2, p3, p4⟩ := HS15.out
    have e0 := hk_cell HE15.out 0
    have e1 := hk_cell HE15.out 1
    have e2 := hk_cell HE15.out 2
    have e3 := hk_cell HE15.out 3
    go_upto_region 9 with fail
    go_wp2_with fail
    go_ret
    exact ⟨rfl, by rw [hgb]; exact (hk_then HB1.out HB15.out (by omega)).alloc (by omega) _⟩
open Go.Proofs.YtbochokpfbimaaaFlat
theorem u64_wf {n : Int} (h : (Lit.int .u64 n).wf = true) : U64 n := by
  simp [Lit.wf, IntKind.min, IntKind.max, IntKind.bits, IntKind.signed] at h; unfold U64; omega
theorem ops_row (k t h n rk u rt rh rn : Int) (a : Option Addr) (len cap : Nat) (w : World) (_w0 : (Lit.int .u8 k).wf = true) (w1 : (Lit.int .i64 t).wf = true) (w2 : (Lit.int .i64 h).wf = true) (w3 : (Lit.int .i64 n).wf = true)
    (_w4 : (Lit.int .u8 rk).wf = true) (w5 : (Lit.int .u64 u).wf = true) (w6 : (Lit.int .i64 rt).wf = true) (w7 : (Lit.int .i64 rh).wf = true) (w8 : (Lit.int .i64 rn).wf = true)
    (f : len ≤ cap ∧ cap ≤ maxLen ∧ (a = none → len = 0 ∧ cap = 0) ∧ ∀ ad, a = some ad → ∀ i, i < len → ∃ cs, Scs [some .u8] cs ∧ ∀ j, j < 1 → w.cell? (ad.add (i * 1 + j)) = cs[j]?)
    (hl : len * 1 ≤ 140737488351232) :
    Calls Try.prog 5 #[.agg #[.int .u8 k, .int .i64 t, .int .i64 h, .int .i64 n], .agg #[.int .u8 rk, .int .u64 u, .int .i64 rt, .int .i64 rh, .int .i64 rn], .slice a len cap] w fun e w' => e = .returned (.bool true) ∧ Below w.heap.size w w' := by
  obtain ⟨xs, rfl, hr, _⟩ := rb_flat f
  exact ops_walk k t h n rk u rt rh rn a cap xs w (i64_wf w1) (i64_wf w2) (i64_wf w3) (u64_wf w5) (i64_wf w6) (i64_wf w7) (i64_wf w8) hr f.1 (fun h => (f.2.2.1 h).2) (by omega) (by have := f.2.1; simp only [maxLen] at this; omega)
end Go.Proofs.Ytbochokpfbimaaa.PCallOps
