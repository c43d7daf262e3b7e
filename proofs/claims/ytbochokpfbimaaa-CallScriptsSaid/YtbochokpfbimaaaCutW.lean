/- CallScripts, walked. -/
import Derived.Test.YtbochokpfbimaaaBad
import Derived.Test.YtbochokpfbimaaaOpsW
import Derived.Maps.Own
import Derived.Maps.OwnOps
import Derived.Maps.OwnSet
import Derived.Maps.Views
set_option linter.unusedVariables false
set_option linter.unusedSimpArgs false
namespace Go.Proofs.Ytbochokpfbimaaa.PCallOps
open Go.RowKit Go.Proofs.YtbochokpfbimaaaW.PrintWords Go.Proofs.YtbochokpfbimaaaW.PrintLast Go.Proofs.YtbochokpfbimaaaW.PrintMore Go.Proofs.YtbochokpfbimaaaHk Go.Proofs.YtbochokpfbimaaaBs
open Go.Maps
attribute [local go_sem] min2_mn min_two

theorem key3 : Keyed Try.prog 3 := int_keyed Try.underlying3
theorem zero4 (w : World) : (zeroValue 4).run Try.prog w = .ok (.bool false) w := by kernel_rfl
noncomputable abbrev R4 : Value → Option (DataW Nat × List MemPlace) := plainElem (H := Nat) Try.prog 4
theorem key_of (x : Int) (h : I64 x) : keyOf Try.prog 3 (.int .i64 x) = some (.int .i64 x) := by
  refine keyOf_int_mk Try.underlying3 ?_
  unfold I64 at h
  simp [Lit.wf, IntKind.min, IntKind.max, IntKind.bits, IntKind.signed]; omega
/-- The map holds true at the numbers of a list, nothing else. -/
def Dn (D : DataW Nat) (L : List Int) : Prop := IsMap D ∧ ∀ x, D.atKey (.int .i64 x) (.lit (.bool false)) = .lit (.bool (L.contains x))
theorem dn_empty : Dn (.map []) [] := ⟨isMap_empty, fun x => by simp [DataW.atKey]⟩
theorem dn_put {D : DataW Nat} {L : List Int} (h : Dn D L) (y : Int) : Dn (D.put (.int .i64 y) (.lit (.bool true))) (L ++ [y]) := by
  refine ⟨h.1.put _ _, fun x => ?_⟩
  by_cases e : x = y
  · subst e; rw [atKey_put_same h.1 (by trivial)]; simp
  · rw [atKey_put_other (by intro h2; injection h2; contradiction), h.2 x]; simp [e]
theorem look_bool {w : World} {b n : Nat} {D : DataW Nat} {L : List Int} (h : w.ownsMap Try.prog 3 R4 b n D) (hd : Dn D L) (x : Int) (hx : I64 x) :
    (Instr.lookup 53 (.map (some b)) (.int .i64 x) false).run Try.prog w = .ok (.bool (L.contains x)) w := by
  obtain ⟨v, ps, hrun, hv⟩ := h.lookup key3 Try.underlying53 (zero4 w) (plainElem_bool Try.underlying4 false) (key_of x hx)
  rw [hd.2 x] at hv
  have : v = .bool (L.contains x) := by
    unfold R4 plainElem at hv
    rw [Try.underlying4] at hv
    cases v <;> simp_all
  rw [this] at hrun; exact hrun
/-- The ends of a script's calls. -/
def endsOf (l : List O4) : Nat → List Int
  | 0 => [0]
  | i + 1 => endsOf l i ++ [((sb (l.take (i + 1))).length : Int)]
theorem ends_mem (l : List O4) (x : Int) : ∀ i, (endsOf l i).contains x = true ↔ ∃ j, j ≤ i ∧ x = ((sb (l.take j)).length : Int)
  | 0 => by simp [endsOf, sb]
  | i + 1 => by
    have ih := ends_mem l x i
    simp only [List.contains_iff_mem] at ih ⊢
    simp only [endsOf, List.mem_append, List.mem_singleton, ih]
    constructor
    · rintro (⟨j, hj, e⟩ | e)
      · exact ⟨j, by omega, e⟩
      · exact ⟨i + 1, by omega, e⟩
    · rintro ⟨j, hj, e⟩
      rcases Nat.lt_or_ge j (i + 1) with h | h
      · exact .inl ⟨j, by omega, e⟩
      · obtain rfl : j = i + 1 := by omega
        exact .inr e

theorem kept_below {w w1 : World} {b n : Nat} {D : DataW Nat} {B : Nat} (h : w.ownsMap Try.prog 3 R4 b n D) (hb : Below B w w1) (hB : b < B) : w1.ownsMap Try.prog 3 R4 b n D := by
  obtain ⟨es, clock, hh, r⟩ := h
  exact ⟨es, clock, (hb.block b hB).trans hh, r⟩

set_option maxHeartbeats 3200000 in
set_option maxRecDepth 100000 in
theorem scripts_walk (A : Option Addr) (c len : Nat) (all : List O4) (cut : Int) (w : World) (hr0 : Ro w A all) (hlen : len = all.length) (hc0 : len ≤ c) (hcm : c ≤ 9223372036854775807) (hcut : 0 ≤ cut ∧ cut ≤ 65535) :
    Calls Try.prog 6 #[.slice A len c, .int .u16 cut] w fun e w' => e = .returned (.bool true) ∧ Below w.heap.size w w' := by
  obtain ⟨L, hL⟩ : ∃ L, L = min len 30 := ⟨_, rfl⟩
  have hmn : mn (len : Int) 30 = (L : Int) := by rw [hL]; exact mn_nat _ 30
  obtain ⟨ops, hops⟩ : ∃ ops, ops = all.take L := ⟨_, rfl⟩
  have hopl : ops.length = L := by rw [hops]; simp; omega
  have hr : Ro w A ops := by
    intro i hi
    obtain ⟨b, o, h⟩ := hr0 i (by omega)
    have e : ops.getD i .nil = all.getD i .nil := by
      have hi' : i < L := by omega
      rw [hops]; simp [List.getElem?_take, hi']
    rw [e]; exact ⟨b, o, h⟩
  have HN := Aside0.mk hr
  have hok : ∀ i, i < ops.length → (ops.getD i .nil).ok := fun i hi => by obtain ⟨_, _, _, h, _⟩ := hr i hi; exact h
  have HOK := Aside0.mk hok
  have hL0 : L ≤ len := by omega
  have hL4 : L ≤ 30 := by omega
  have hLc : L ≤ c := by omega
  clear hL hops hlen hr hr0 hok
  have hsl := sb_len ops
  have hsl' : (sb ops).length ≤ 930 := by omega
  clear hsl
  go_enter Try.func6, Try.ntmps6
  go_wp2_with fail
  with_reducible refine (awake_walk _).mono ?_
  rintro e w1 ⟨rfl, hb1⟩
  have HN1 := Aside0.mk (HN.out.below hb1)
  have HB1 := Aside0.mk hb1
  clear hb1
  go_wp2_with fail
  subst hopl
  with_reducible refine (script_walk A c ops w1 HN1.out hLc hL4).mono ?_
  rintro e w2 ⟨A5, c5, rfl, hc5, hr5, hb5⟩
  have HN2 := Aside0.mk (HN1.out.below hb5)
  have HP2 := Aside0.mk hr5
  have HB2 := Aside0.mk (hk_then HB1.out hb5 HB1.out.size)
  clear hb5 hr5 HN HN1 HB1
  have hmm := @run_makeMap Try.prog
  obtain ⟨w3, hrun3, hown3, hg3⟩ := (World.ownsMap_made w2 Try.prog 3 R4).update (e := 4) key3 Try.underlying53 (by decide) (key_of 0 (by unfold I64; omega)) (plainElem_bool Try.underlying4 true)
  have hd3 : Dn ((DataW.map [] : DataW Nat).put (.int .i64 0) (.lit (.bool true))) (endsOf ops 0) := dn_put dn_empty 0
  have HOW3 := Aside0.mk hown3
  have HD3 := Aside0.mk hd3
  have HBW3 : Aside0 (Below w2.heap.size w2 w3) := ⟨((Below.refl w2.heap.size w2).alloc (Nat.le_refl _) _).grown hg3 (by simp) (fun k hk => by cases hk; exact Nat.le_refl _)⟩
  clear hown3 hd3 hg3
  go_wp2_with fail
  have hmb3 : w2.heap.size < w3.heap.size := HOW3.out.lt
  obtain ⟨mb, hmb⟩ : ∃ mb, mb = w2.heap.size := ⟨_, rfl⟩
  have HMB := Aside0.mk hmb
  rw [← hmb] at HOW3 HBW3 hmb3 ⊢
  clear hmb hrun3 hmm
  go_loopw [6, 29] (fun v6 v29 wr => ∃ (i : Nat) (D : DataW Nat), i ≤ ops.length ∧ v29 = .int .i64 i ∧ Aside0 (wr.ownsRow (mb + 1) 5 1 v6 (sb (ops.take i)).length (nums .u8 (sb (ops.take i))) ∧ Below mb w2 wr ∧ mb < wr.heap.size ∧ wr.ownsMap Try.prog 3 R4 mb (i + 1) D ∧ Dn D (endsOf ops i)))
    (fun _ i _ => ops.length - (intOf i).toNat)
  case atStart => exact ⟨0, _, Nat.zero_le _, rfl, ⟨by simpa [sb, nums] using World.ownsRow_nil w3 (mb + 1) 5 1, HBW3.out, hmb3, HOW3.out, HD3.out⟩⟩
  case round =>
    obtain ⟨i, D, hi, rfl, HI⟩ := hrel
    by_cases hlt : i < ops.length
    · obtain ⟨b, o, rfl, _, h0, h1, h2, h3⟩ := HN2.out i hlt
      have hbl : b < w2.heap.size := by simpa using World.block_lt_of_cell? w2 _ h0
      have hbm : b < mb := by rw [HMB.out]; exact hbl
      have q0 := (HI.out.2.1.cell (p := ⟨b, o + i * 4, none⟩) hbm).trans h0
      have q1 := (HI.out.2.1.cell (p := ⟨b, o + i * 4 + 1, none⟩) hbm).trans h1
      have q2 := (HI.out.2.1.cell (p := ⟨b, o + i * 4 + 2, none⟩) hbm).trans h2
      have q3 := (HI.out.2.1.cell (p := ⟨b, o + i * 4 + 3, none⟩) hbm).trans h3
      have hmw := HI.out.2.2.1
      have hbw : b < wr.heap.size := by omega
      have hne : wr.heap.size ≠ b := by omega
      have hne' : b ≠ wr.heap.size := by omega
      obtain ⟨x, hx⟩ : ∃ x, x = ops.getD i .nil := ⟨_, rfl⟩
      have HX := Aside0.mk hx
      rw [← hx] at q0 q1 q2 q3
      have HOKX : Aside0 (I64 x.t ∧ I64 x.h ∧ I64 x.n) := ⟨by rw [hx]; exact HOK.out i hlt⟩
      have hsl := sb_len (ops.take i)
      obtain ⟨ys, hys⟩ : ∃ ys, ys = sb (ops.take i) := ⟨_, rfl⟩
      have hyl : ys.length ≤ 1000 := by rw [hys]; simp at hsl; omega
      rw [← hys] at HI
      have HY := Aside0.mk hys
      clear hx hys hsl h0 h1 h2 h3 hbl
      go_wp2_with fail
      have HA : Aside0 (Below wr.heap.size wr (wr.alloc (.cells #[.int .u8 x.k, .int .i64 x.t, .int .i64 x.h, .int .i64 x.n] 36))) := ⟨(Below.refl _ _).alloc (Nat.le_refl _) _⟩
      have HRO := Aside0.mk (fun w => refop_walk x.k x.t x.h x.n w HOKX.out.1 HOKX.out.2.1 HOKX.out.2.2)
      have hxl := x.len
      obtain ⟨zs, hzs⟩ : ∃ zs, zs = x.k :: nb [x.t, x.h, x.n] := ⟨_, rfl⟩
      have hzl : zs.length ≤ 31 := by rw [hzs]; exact hxl.2
      rw [← hzs] at HRO
      have HZ : Aside0 (zs = x.bytes) := ⟨hzs⟩
      clear hzs hxl
      with_reducible refine (HRO.out _).mono ?_
      rintro e w5 ⟨A6, c6, rfl, hc6, hr6, hb6⟩
      have HB5 := Aside0.mk (hk_then HA.out hb6 (by simp))
      have HO5 := Aside0.mk (pw_own_below HI.out.1 HB5.out)
      have HR6 := Aside0.mk hr6
      have hz5 : mb < w5.heap.size := Nat.lt_of_lt_of_le hmw HB5.out.size
      clear hb6 hr6 HA
      go_wp2_with (first
        | (at_builtin; (refine print_append_row (w0 := w5) (mb + 1) rfl (.tmp 33) (.tmp 35) 25 5 .u8 1 rfl Try.underlying25 Try.info5 (by decide) _ ys zs A6 zs.length c6 rfl rfl HO5.out HR6.out (Below.refl _ _) (by omega) (by omega) ?_; intro v7 w7 ho7 hb7 hg7 _; obtain ⟨A7, c7, hv7, hgb7⟩ := gb_of_own rfl ho7; subst hv7; clear hgb7; have HOM7 := Aside0.mk (kept_below (kept_below HI.out.2.2.2.1 HB5.out hmw) hb7 (by omega)); have HB7 := Aside0.mk (hk_then (hk_then HI.out.2.1 HB5.out (by omega)) hb7 (by omega)); have HO7 := Aside0.mk ho7; have hz7 : mb < w7.heap.size := Nat.lt_of_lt_of_le hz5 hb7.size; have HDn := Aside0.mk HI.out.2.2.2.2; have hyz : (ys ++ zs).length = ys.length + zs.length := (by simp); have HYZ := Aside0.mk hyz; clear hb7 hg7 ho7 HO5 HR6 HI hyz; have hkey := key_of ((ys.length : Int) + (zs.length : Int)) (by unfold I64; omega); have HKEY := Aside0.mk hkey; clear hkey))
        | (at_mapUpdate; (refine wpList_mapUpdate_own _ rfl (.tmp 37) (.tmp 39) (.const (.bool true)) 53 rfl 3 4 key3 Try.underlying53 R4 mb (i + 1) D rfl HOM7.out (by unfold maxLen; omega) _ _ _ rfl rfl HKEY.out _ [] (plainElem_bool Try.underlying4 true) ?_; intro w8 hown8 hgrow8)))
      have e1 : sb (ops.take (i + 1)) = ys ++ zs := by rw [sb_take ops i hlt, ← HX.out, HY.out, HZ.out]
      have hob : (Value.slice A7 (ys ++ zs).length c7).ownBlock ≠ some mb := fun h => by have := (HO7.out.lt mb h).1; omega
      have ho8 := HO7.out.kept hgrow8 (.inr hob)
      have hs8 := hgrow8.size
      have hdn8 := dn_put HDn.out ((ys.length : Int) + (zs.length : Int))
      have e2 : endsOf ops (i + 1) = endsOf ops i ++ [(ys.length : Int) + (zs.length : Int)] := by simp only [endsOf]; rw [e1, HYZ.out]; simp
      rw [← e2] at hdn8
      rw [HYZ.out] at ho8
      exact ⟨⟨i + 1, _, hlt, by simp, ⟨by rw [e1, HYZ.out]; exact ho8, HB7.out.grown hgrow8 (by omega) (fun k hk => by cases hk; exact Nat.le_refl _), by omega, hown8, hdn8⟩⟩, by simp [intOf]; omega⟩
    · obtain rfl : i = ops.length := by omega
      rw [List.take_length] at HI
      obtain ⟨A6, c6, hv6, hg6⟩ := gb_of_own rfl HI.out.1
      subst hv6
      have HG6 := Aside0.mk hg6
      have HPr := Aside0.mk (HP2.out.below (by rw [← HMB.out]; exact HI.out.2.1))
      have HNr := Aside0.mk (HN2.out.below (by rw [← HMB.out]; exact HI.out.2.1))
      have hmw := HI.out.2.2.1
      clear hg6
      go_wp2_with fail
      with_reducible refine (readscript_walk A5 c5 ops [] (sb ops).length wr (by rw [List.append_nil]; exact HPr.out) (by rw [List.append_nil]) hc5 hL4 HOK.out (.inl rfl) (by simp)).mono ?_
      rintro e w9 (⟨_, A8, c8, rfl, hc8, hro8, hb9⟩ | ⟨hno, _⟩)
      rotate_left
      · exact absurd rfl hno
      have HP9 := Aside0.mk (HPr.out.below hb9)
      have HN9 := Aside0.mk (HNr.out.below hb9)
      have HO9 := Aside0.mk hro8
      have HG9 := Aside0.mk (HG6.out.reads.below hb9)
      have hgl := HG6.out.le
      have HM9 := Aside0.mk (kept_below HI.out.2.2.2.1 hb9 hmw)
      have HD9 := Aside0.mk HI.out.2.2.2.2
      have HB9 := Aside0.mk (hk_then HI.out.2.1 hb9 (by omega))
      have hm9 : mb < w9.heap.size := Nat.lt_of_lt_of_le hmw hb9.size
      clear hb9 hro8 HPr HNr HG6 HI
      go_wp2_with fail
      with_reducible refine (equal_yes A5 A6 c5 c6 (sb ops) w9 HP9.out HG9.out hc5 hgl).mono ?_
      rintro e w10 ⟨rfl, hb10⟩
      have HP10 := Aside0.mk (HP9.out.below hb10)
      have HN10 := Aside0.mk (HN9.out.below hb10)
      have HO10 := Aside0.mk (HO9.out.below hb10)
      have HM10 := Aside0.mk (kept_below HM9.out hb10 hm9)
      have HB10 := Aside0.mk (hk_then HB9.out hb10 (by omega))
      have hm10 : mb < w10.heap.size := Nat.lt_of_lt_of_le hm9 hb10.size
      clear hb10 HP9 HN9 HO9 HM9 HB9 HG9 hm9 hgl
      go_wp2_with fail
      have hr := fun W => @lw_cell W
      go_loopw [63] (fun v63 wr => ∃ (i : Nat), i ≤ ops.length ∧ v63 = .int .i64 i ∧ Aside0 (Below w10.heap.size w10 wr))
        (fun i _ => ops.length - (intOf i).toNat)
      case atStart => exact ⟨0, Nat.zero_le _, rfl, ⟨Below.refl _ _⟩⟩
      case round =>
        obtain ⟨i, hi, rfl, HI⟩ := hrel
        by_cases hlt : i < ops.length
        · obtain ⟨b, o, hA, _, h0, h1, h2, h3⟩ := (HN10.out.below HI.out) i hlt
          obtain ⟨b', o', hA', _, g0, g1, g2, g3⟩ := (HO10.out.below HI.out) i hlt
          subst hA
          subst hA'
          have hbw : b < wr.heap.size := by simpa using World.block_lt_of_cell? wr _ h0
          have hbw' : b' < wr.heap.size := by simpa using World.block_lt_of_cell? wr _ g0
          have hlo : i < ops.length := hlt
          obtain ⟨x, hx⟩ : ∃ x, x = ops.getD i .nil := ⟨_, rfl⟩
          rw [← hx] at h0 h1 h2 h3 g0 g1 g2 g3
          clear hx
          go_wp2_with fail
          refine region_later (by kernel_rfl) (by kernel_rfl) ?_
          repeat (go_big_quiet_step (fail))
          refine wpQuiet_nil ?_
          rintro w4 ⟨⟨_, hb4⟩, rfl⟩
          have HI4 := Aside0.mk (hk_then HI.out hb4 HI.out.size)
          clear hb4 h0 h1 h2 h3 g0 g1 g2 g3
          go_wp2_with fail
          exact ⟨⟨i + 1, hlo, by simp, HI4⟩, by simp [intOf]; omega⟩
        · obtain rfl : i = ops.length := by omega
          have HPr := Aside0.mk (HP10.out.below HI.out)
          have HMr := Aside0.mk (kept_below HM10.out HI.out hm10)
          have HBr := Aside0.mk (hk_then HB10.out HI.out (by omega))
          have hmr : mb < wr.heap.size := Nat.lt_of_lt_of_le hm10 HI.out.size
          clear hr HI HN10 HO10 HM10 HB10 HP10 hm10
          obtain ⟨n, hn⟩ : ∃ n, n = (sb ops).length := ⟨_, rfl⟩
          have HNN := Aside0.mk hn
          have hn1 : n ≤ 930 := by omega
          rw [← hn] at hc5 ⊢
          obtain ⟨k, hke⟩ : ∃ k : Nat, cut % ((n : Int) + 1) = (k : Int) := ⟨(cut % ((n : Int) + 1)).toNat, by have := Int.emod_nonneg cut (show (n : Int) + 1 ≠ 0 by omega); omega⟩
          have hkn : k ≤ n := by have := Int.emod_lt_of_pos cut (show (0 : Int) < (n : Int) + 1 by omega); omega
          have hkc : (k : Int) ≤ (c5 : Int) := by omega
          obtain ⟨j, tail, hj, he, hcase⟩ := cut_at ops (fun x hx => by
            obtain ⟨q, hq, rfl⟩ := List.mem_iff_getElem.1 hx
            have := HOK.out q hq
            simpa [List.getD, hq] using this) k (by rw [← hn]; exact hkn)
          have htk : ((sb ops).take k).length = k := by rw [List.length_take]; omega
          have hrk : Rb wr A5 (sb (ops.take j) ++ tail) := by
            rw [← he]
            have h1 := ReadsInt.take_ HPr.out k (by omega)
            rw [Rb, htk]; exact h1
          have hmk : k = (sb (ops.take j) ++ tail).length := by rw [← he, htk]
          have hjl : (ops.take j).length ≤ 30 := by simp; omega
          have hokj : ∀ i, i < (ops.take j).length → ((ops.take j).getD i .nil).ok := fun i hi => by
            have h1 : i < j := by simp at hi; omega
            have h2 : i < ops.length := by simp at hi; omega
            have := HOK.out i h2
            simpa [List.getD, List.getElem?_take, h1] using this
          have htl : tail.length ≤ 1000 := by simp at hmk; omega
          have HRS := Aside0.mk (readscript_walk A5 c5 (ops.take j) tail k wr hrk hmk (by omega) hjl hokj (hcase.imp (·.1) (·.1)) htl)
          have HCASE := Aside0.mk hcase
          have HJ := Aside0.mk hj
          clear hn hsl' hrk hmk hokj htl htk he hcase hj hjl
          have hnz : ((n : Int) + 1 == 0) = false := by simp; omega
          go_wp2_with fail
          with_reducible refine HRS.out.mono ?_
          rintro e w11 (⟨ht, A9, c9, rfl, _, _, hb11⟩ | ⟨ht, rfl, hb11⟩)
          · have hk2 : ((endsOf ops ops.length).contains (k : Int)) = true := (ends_mem ops k ops.length).2 (by
              rcases HCASE.out with ⟨_, h⟩ | ⟨h, _⟩
              · exact ⟨j, HJ.out, by rw [h]⟩
              · rw [ht] at h; obtain ⟨_, _, h, _⟩ := h; simp at h)
            have hlk := look_bool (kept_below HMr.out hb11 hmr) HD9.out (k : Int) (by unfold I64; omega)
            rw [hk2] at hlk
            have HB11 := Aside0.mk (hk_then HBr.out hb11 (by omega))
            clear hb11 hk2 ht
            go_wp2_with fail
            go_ret
            exact ⟨rfl, hk_then HB2.out HB11.out (by rw [HMB.out]; exact HB2.out.size)⟩
          · have hk2 : ((endsOf ops ops.length).contains (k : Int)) = false := by
              rw [Bool.eq_false_iff]
              intro h
              obtain ⟨i, hi, h⟩ := (ends_mem ops k ops.length).1 h
              rcases HCASE.out with ⟨h2, _⟩ | ⟨_, h2⟩
              · exact ht h2
              · exact h2 i hi (by exact_mod_cast h)
            have hlk := look_bool (kept_below HMr.out hb11 hmr) HD9.out (k : Int) (by unfold I64; omega)
            rw [hk2] at hlk
            have HB11 := Aside0.mk (hk_then HBr.out hb11 (by omega))
            clear hb11 hk2 ht
            go_wp2_with fail
            go_ret
            exact ⟨rfl, hk_then HB2.out HB11.out (by rw [HMB.out]; exact HB2.out.size)⟩

open Go.Proofs.YtbochokpfbimaaaFlat
theorem ro_flat {w : World} {a : Option Addr} {len cap : Nat} (f : len ≤ cap ∧ cap ≤ maxLen ∧ (a = none → len = 0 ∧ cap = 0) ∧ ∀ ad, a = some ad → ∀ i, i < len → ∃ cs, Scs [some .u8, some .i64, some .i64, some .i64] cs ∧ ∀ j, j < 4 → w.cell? (ad.add (i * 4 + j)) = cs[j]?) :
    ∃ l : List O4, len = l.length ∧ Ro w a l := by
  obtain ⟨hl, hc, h0, h1⟩ := f
  rcases a with _ | ⟨b, o, sp⟩
  · obtain ⟨rfl, rfl⟩ := h0 rfl
    exact ⟨[], rfl, fun i hi => by simp at hi⟩
  · rcases Nat.eq_zero_or_pos len with rfl | hp
    · exact ⟨[], rfl, fun i hi => by simp at hi⟩
    · have hs : sp = none := by
        obtain ⟨cs, hcs, h⟩ := h1 _ rfl 0 hp
        have h2 := h 0 (by omega)
        obtain _ | ⟨⟨x, rfl, wx⟩, hcs⟩ := hcs
        simp [Addr.add, World.cell?] at h2
        split at h2
        · split at h2
          · cases h2
          · rename_i hn; simpa using hn
        · cases h2
      subst hs
      have h2 : ∀ i, i < len → ∃ x : O4, x.ok ∧ w.cell? ⟨b, o + i * 4, none⟩ = some (.int .u8 x.k) ∧ w.cell? ⟨b, o + i * 4 + 1, none⟩ = some (.int .i64 x.t) ∧ w.cell? ⟨b, o + i * 4 + 2, none⟩ = some (.int .i64 x.h) ∧ w.cell? ⟨b, o + i * 4 + 3, none⟩ = some (.int .i64 x.n) := by
        intro i hi
        obtain ⟨cs, hcs, h⟩ := h1 _ rfl i hi
        obtain _ | ⟨⟨x0, rfl, w0⟩, hcs⟩ := hcs
        obtain _ | ⟨⟨x1, rfl, w1⟩, hcs⟩ := hcs
        obtain _ | ⟨⟨x2, rfl, w2⟩, hcs⟩ := hcs
        obtain _ | ⟨⟨x3, rfl, w3⟩, hcs⟩ := hcs
        cases hcs
        have g0 := h 0 (by omega)
        have g1 := h 1 (by omega)
        have g2 := h 2 (by omega)
        have g3 := h 3 (by omega)
        rw [add_none'] at g0 g1 g2 g3
        exact ⟨⟨x0, x1, x2, x3⟩, ⟨i64_wf w1, i64_wf w2, i64_wf w3⟩, by simpa using g0, by simpa [Nat.add_assoc] using g1, by simpa [Nat.add_assoc] using g2, by simpa [Nat.add_assoc] using g3⟩
      obtain ⟨f, hf⟩ := @Go.Deep.choose_lt O4 ⟨O4.nil⟩ _ _ h2
      refine ⟨(List.range len).map f, by simp, fun i hi => ?_⟩
      have hi' : i < len := by simpa using hi
      have e : ((List.range len).map f).getD i .nil = f i := by simp [List.getD, hi']
      rw [e]
      exact ⟨b, o, rfl, hf i hi'⟩
theorem scripts_row (a : Option Addr) (len cap : Nat) (cut : Int) (w : World) (f : len ≤ cap ∧ cap ≤ maxLen ∧ (a = none → len = 0 ∧ cap = 0) ∧ ∀ ad, a = some ad → ∀ i, i < len → ∃ cs, Scs [some .u8, some .i64, some .i64, some .i64] cs ∧ ∀ j, j < 4 → w.cell? (ad.add (i * 4 + j)) = cs[j]?)
    (hl : len * 32 ≤ 140737488351232) (wc : (Lit.int .u16 cut).wf = true) : Calls Try.prog 6 #[.slice a len cap, .int .u16 cut] w fun e w' => e = .returned (.bool true) ∧ Below w.heap.size w w' := by
  obtain ⟨l, hlen, hr⟩ := ro_flat f
  exact scripts_walk a cap len l cut w hr hlen f.1 (by have := f.2.1; simp only [maxLen] at this; omega) (by simp [Lit.wf, IntKind.min, IntKind.max, IntKind.bits, IntKind.signed] at wc; omega)
end Go.Proofs.Ytbochokpfbimaaa.PCallOps
