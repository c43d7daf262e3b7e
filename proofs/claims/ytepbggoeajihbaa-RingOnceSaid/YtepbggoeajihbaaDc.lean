/- The document's act and its steps. -/
import Derived.Test.YtepbggoeajihbaaNw
set_option linter.unusedVariables false
set_option linter.unusedSimpArgs false
namespace Go.Proofs.Ytepbggoeajihbaa.Ring
open Go.RowKit Go.Proofs.YtepbggoeajihbaaW.PrintWords Go.Proofs.YtepbggoeajihbaaW.PrintLast Go.Proofs.YtepbggoeajihbaaW.PrintMore Go.Proofs.YtepbggoeajihbaaHk

def kindOf (a : AS) : Int := if a.pops then 2 else 0
def dnext (x : Int) : Int := if x = 5 then 0 else x + 1
/-- The document's act. -/
structure IsDAct (w : World) (b : Nat) (a : AS) : Prop where
  act : w.heap[b]? = some (.cells #[.int .i64 (kindOf a), .int .i64 (dnext a.next), .int .u64 a.at_, .int .u64 a.place, .int .u64 a.value, .bool a.well] 81)
/-- Where the document's ring lies. -/
structure DW where
  x : Nat
  nb : Nat
  vb : Nat
  cn : Nat
  cv : Nat
def cellsAre (w : World) (b : Nat) (n : Nat) (f : Nat → Int) : Prop := ∃ cur, w.heap[b]? = some (.cells cur 32) ∧ ∀ i, i < n → cur[i]? = some (.int .u64 (f i))
structure IsDoc (w : World) (p : DW) (r : RS) : Prop where
  ring : w.heap[p.x]? = some (.cells #[.int .u64 r.T, .int .u64 r.H, .slice (some ⟨p.nb, 0, none⟩) r.n p.cn, .slice (some ⟨p.vb, 0, none⟩) r.n p.cv] 92)
  num : cellsAre w p.nb r.n r.num
  val : cellsAre w p.vb r.n r.val
  ne : p.nb ≠ p.vb
theorem IsDAct.keep {w w' : World} {b : Nat} {a : AS} {S : Nat → Prop} (h : IsDAct w b a) (k : Keep S w w') (hb : ¬ S b) : IsDAct w' b a := ⟨k.blk h.act hb⟩
theorem IsDAct.below {w w' : World} {b : Nat} {a : AS} (h : IsDAct w b a) (k : Below w.heap.size w w') : IsDAct w' b a := ⟨hk_below k (hk_lt h.act) h.act⟩
theorem cellsAre.keep {w w' : World} {b n : Nat} {f : Nat → Int} {S : Nat → Prop} (h : cellsAre w b n f) (k : Keep S w w') (hb : ¬ S b) : cellsAre w' b n f := by
  obtain ⟨cur, h1, h2⟩ := h; exact ⟨cur, k.blk h1 hb, h2⟩
theorem cellsAre.lt {w : World} {b n : Nat} {f : Nat → Int} (h : cellsAre w b n f) : b < w.heap.size := by obtain ⟨cur, h1, _⟩ := h; exact hk_lt h1
theorem cellsAre.cell {w : World} {b n : Nat} {f : Nat → Int} (h : cellsAre w b n f) {i : Nat} (hi : i < n) : w.cell? ⟨b, i, none⟩ = some (.int .u64 (f i)) := by
  obtain ⟨cur, h1, h2⟩ := h; rw [hk_cell h1, h2 i hi]
theorem cellsAre.frozen {w : World} {b n : Nat} {f : Nat → Int} (h : cellsAre w b n f) (i : Nat) : w.frozen? ⟨b, i, none⟩ = false := by
  obtain ⟨cur, h1, h2⟩ := h; exact hk_frozen h1 i
theorem cellsAre.set {w : World} {b n : Nat} {f : Nat → Int} (h : cellsAre w b n f) {i : Nat} (hi : i < n) (x : Int) : cellsAre (w.setCell ⟨b, i, none⟩ (.int .u64 x)) b n (upd f i x) := by
  obtain ⟨cur, h1, h2⟩ := h
  refine ⟨_, hk_set h1 i _, fun j hj => ?_⟩
  have hs : i < cur.size := by have := h2 i hi; exact (Array.getElem?_eq_some_iff.1 this).1
  rw [Array.getElem?_setIfInBounds]
  unfold upd
  by_cases e : i = j
  · subst e; simp [hs]
  · rw [if_neg e, if_neg (fun h => e h.symm)]; exact h2 j hj
theorem cellsAre.far {w : World} {b n : Nat} {f : Nat → Int} (h : cellsAre w b n f) {p : Addr} (hp : b ≠ p.block) (u : Value) : cellsAre (w.setCell p u) b n f := by
  obtain ⟨cur, h1, h2⟩ := h; exact ⟨cur, hk_far h1 hp u, h2⟩
theorem cellsAre.drew {w : World} {b n : Nat} {f : Nat → Int} (h : cellsAre w b n f) : cellsAre w.drew b n f := h
theorem IsDoc.keep {w w' : World} {p : DW} {r : RS} {S : Nat → Prop} (h : IsDoc w p r) (k : Keep S w w') (hx : ¬ S p.x) (hn : ¬ S p.nb) (hv : ¬ S p.vb) : IsDoc w' p r :=
  ⟨k.blk h.ring hx, h.num.keep k hn, h.val.keep k hv, h.ne⟩
def DSet (p : DW) (b : Nat) (i : Nat) : Prop := i = b ∨ i = p.x ∨ i = p.nb ∨ i = p.vb
/-- What the document's step leaves. -/
def DPost (w : World) (p : DW) (b : Nat) (r : RS) (a : AS) (e : Ending) (w' : World) : Prop := e = .returned (.tuple #[]) ∧ IsDoc w' p r ∧ IsDAct w' b a ∧ Keep (DSet p b) w w'
theorem docOut {w w' : World} {p : DW} {b : Nat} {r : RS} {a : AS} {e : Ending} (h : DPost w p b r a e w') : e = .returned (.tuple #[]) ∧ IsDoc w' p r ∧ IsDAct w' b a ∧ Keep (DSet p b) w w' := h

set_option maxHeartbeats 1600000 in
set_option maxRecDepth 100000 in
theorem dbegin_walk (pops : Bool) (v : Int) (w : World) :
    Calls Try.prog 43 #[.int .i64 (if pops then 2 else 0), .int .u64 v] w fun e w' => e = .returned (.pointer (some ⟨w.heap.size, 0, none⟩)) ∧ IsDAct w' w.heap.size ⟨pops, 0, 0, 0, v, false⟩ ∧ Below w.heap.size w w' ∧ w'.heap.size = w.heap.size + 1 := by
  obtain ⟨k, hk⟩ : ∃ k : Int, k = (if pops then 2 else 0) := ⟨_, rfl⟩
  rw [← hk]
  have HK := Aside0.mk hk
  clear hk
  go_enter Try.func43, Try.ntmps43
  go_wp2
  go_ret
  exact ⟨rfl, ⟨by rw [hk_new]; rw [show kindOf ⟨pops, 0, 0, 0, v, false⟩ = k from HK.out.symm]; rfl⟩, (Below.refl _ _).alloc (Nat.le_refl _) _, by simp⟩
set_option maxHeartbeats 1600000 in
set_option maxRecDepth 100000 in
theorem dvalue_walk (b : Nat) (a : AS) (w : World) (h : IsDAct w b a) :
    Calls Try.prog 45 #[.pointer (some ⟨b, 0, none⟩)] w fun e w' => e = .returned (.int .u64 (valueOf a)) ∧ w' = w := by
  have q0 := hk_cell h.act 0
  have q4 := hk_cell h.act 4
  have q5 := hk_cell h.act 5
  clear h
  unfold valueOf
  unfold kindOf at q0
  cases hp : a.pops <;> cases hw : a.well
  all_goals
    rw [hp] at q0
    rw [hw] at q5
    clear hp hw
    go_enter Try.func45, Try.ntmps45
    go_wp2
    go_ret
    exact ⟨rfl, rfl⟩
theorem blk_ne {w : World} {a b : Nat} {ca cb : Array Value} {ta tb : TypeId} (ha : w.heap[a]? = some (.cells ca ta)) (hb : w.heap[b]? = some (.cells cb tb)) (ht : ta ≠ tb) : a ≠ b := by
  intro e; subst e; rw [ha] at hb; injection hb with hb; injection hb with h1 h2 h3; exact ht h2
structure Apart (p : DW) (b : Nat) : Prop where
  bx : b ≠ p.x
  bn : b ≠ p.nb
  bv : b ≠ p.vb
  xn : p.x ≠ p.nb
  xv : p.x ≠ p.vb
theorem doc_ne {w : World} {p : DW} {b : Nat} {r : RS} {a : AS} (hR : IsDoc w p r) (h : IsDAct w b a) : Apart p b := by
  obtain ⟨c1, h1, _⟩ := hR.num
  obtain ⟨c2, h2, _⟩ := hR.val
  exact ⟨blk_ne h.act hR.ring (by decide), blk_ne h.act h1 (by decide), blk_ne h.act h2 (by decide), blk_ne hR.ring h1 (by decide), blk_ne hR.ring h2 (by decide)⟩
theorem DSet.b {p : DW} {b : Nat} : DSet p b b := .inl rfl
theorem DSet.x {p : DW} {b : Nat} : DSet p b p.x := .inr (.inl rfl)
theorem DSet.n {p : DW} {b : Nat} : DSet p b p.nb := .inr (.inr (.inl rfl))
theorem DSet.v {p : DW} {b : Nat} : DSet p b p.vb := .inr (.inr (.inr rfl))
/-- Stores into the act alone. -/
theorem IsDoc.setB {w : World} {p : DW} {b : Nat} {r : RS} (h : IsDoc w p r) (hA : Apart p b) (j : Nat) (u : Value) : IsDoc (w.setCell ⟨b, j, none⟩ u) p r :=
  ⟨hk_far h.ring (Ne.symm hA.bx) _, h.num.far (Ne.symm hA.bn) _, h.val.far (Ne.symm hA.bv) _, h.ne⟩
set_option maxHeartbeats 1600000 in
set_option maxRecDepth 100000 in
theorem dstep_0 (p : DW) (b : Nat) (r : RS) (a : AS) (w : World) (hR : IsDoc w p r) (h : IsDAct w b a) (hn : a.next = 0) :
    Calls Try.prog 44 #[.pointer (some ⟨p.x, 0, none⟩), .pointer (some ⟨b, 0, none⟩)] w (DPost w p b r { a with next := 1, at_ := endOf r a.pops }) := by
  have HA := Aside0.mk (doc_ne hR h)
  have H := Aside0.mk h
  have HR := Aside0.mk hR
  have q0 := hk_cell h.act 0
  have q1 := hk_cell h.act 1
  have q2 := hk_cell h.act 2
  have f1 := hk_frozen h.act 1
  have f2 := hk_frozen h.act 2
  have t0 := hk_cell hR.ring 0
  have t1 := hk_cell hR.ring 1
  have t2 := hk_cell hR.ring 2
  unfold dnext at q1
  rw [hn] at q1
  have HQ : Aside0 (kindOf a = if a.pops then 2 else 0) := ⟨rfl⟩
  unfold kindOf at q0
  clear h hR hn
  cases hp : a.pops
  all_goals
    rw [hp] at q0
    rw [hp] at HQ
    have HP := Aside0.mk hp
    clear hp
    go_enter Try.func44, Try.ntmps44
    go_wp2
    go_end0
    exact ⟨rfl, (HR.out.setB HA.out 2 _).setB HA.out 1 _, ⟨by
      rw [hk_set (hk_set H.out.act 2 _) 1 _]; simp [kindOf, dnext, endOf, HP.out]⟩, ((Keep.refl (DSet p b) w).set DSet.b _ _).set DSet.b _ _⟩

theorem IsDoc.drewN {w : World} {p : DW} {r : RS} (h : IsDoc w p r) (n : Nat) : IsDoc (w.drewN n) p r := ⟨h.ring, h.num, h.val, h.ne⟩
theorem IsDAct.drewN {w : World} {b : Nat} {a : AS} (h : IsDAct w b a) (n : Nat) : IsDAct (w.drewN n) b a := ⟨h.act⟩
theorem Keep.drewN {S : Nat → Prop} {w w' : World} (h : Keep S w w') (n : Nat) : Keep S w (w'.drewN n) := ⟨h.os, h.tape, h.output, h.size, h.block⟩
theorem IsDoc.drew {w : World} {p : DW} {r : RS} (h : IsDoc w p r) : IsDoc w.drew p r := ⟨h.ring, h.num, h.val, h.ne⟩
theorem u64_of (x : Int) (h : U64 x) : 0 ≤ x ∧ x < 18446744073709551616 := by unfold U64 at h; omega
theorem askD_d (r : RS) (a : AS) (d : Int) (hd : d = (r.num (slotOf r a.at_) - want a) % 18446744073709551616) : (askD r a = 0 ↔ d = 0) ∧ (askD r a < 0 ↔ 9223372036854775808 ≤ d) ∧ 0 ≤ d ∧ d < 18446744073709551616 := by
  have h1 : askD r a = wrap64 d := by rw [hd]; rfl
  have h2 : 0 ≤ d ∧ d < 18446744073709551616 := by rw [hd]; omega
  rw [h1]; unfold wrap64; omega
set_option maxHeartbeats 3200000 in
set_option maxRecDepth 100000 in
theorem dstep_1 (p : DW) (b : Nat) (r : RS) (a : AS) (w : World) (hR : IsDoc w p r) (h : IsDAct w b a) (ho : r.ok) (hao : a.ok) (hw : a.well = false) (hn : a.next = 1) :
    Calls Try.prog 44 #[.pointer (some ⟨p.x, 0, none⟩), .pointer (some ⟨b, 0, none⟩)] w (DPost w p b r (askS r a)) := by
  have HA := Aside0.mk (doc_ne hR h)
  have H := Aside0.mk h
  have HR := Aside0.mk hR
  have q0 := hk_cell h.act 0
  have q1 := hk_cell h.act 1
  have q2 := hk_cell h.act 2
  have f1 := hk_frozen h.act 1
  have t2 := hk_cell hR.ring 2
  have hlt := slotOf_lt ho a.at_
  obtain ⟨n, hnn⟩ : ∃ n, n = r.n := ⟨_, rfl⟩
  obtain ⟨q, hq⟩ : ∃ q, q = a.at_ := ⟨_, rfl⟩
  obtain ⟨k, hk⟩ : ∃ k, k = slotOf r a.at_ := ⟨_, rfl⟩
  have hpk : q % (n : Int) = (k : Int) := by
    rw [hnn, hq, hk]; have h1 := Int.emod_nonneg a.at_ (show (r.n : Int) ≠ 0 by have := ho.1; omega); unfold slotOf; omega
  have t4 := hR.num.cell hlt
  obtain ⟨N, hN⟩ : ∃ N, N = r.num (slotOf r a.at_) := ⟨_, rfl⟩
  have hn3 : n = 2 ∨ n = 4 ∨ n = 8 := by rw [hnn]; exact ho.1
  have hqu : 0 ≤ q ∧ q < 18446744073709551616 := by rw [hq]; exact u64_of _ hao.1
  rw [← hN, ← hk] at t4
  rw [← hnn] at t2 hlt
  rw [← hk] at hlt
  rw [← hq] at q2
  have hwn : (n : Int) % 18446744073709551616 = n := by omega
  have hnz : ((n : Int) == 0) = false := by simp; omega
  have hk0 : (0 : Int) ≤ (k : Int) := by omega
  have hk1 : (k : Int) < (n : Int) := by omega
  unfold dnext at q1
  rw [hn] at q1
  obtain ⟨d, hd⟩ : ∃ d, d = (r.num (slotOf r a.at_) - want a) % 18446744073709551616 := ⟨_, rfl⟩
  have HD := Aside0.mk (askD_d r a d hd)
  have HQQ := Aside0.mk hq
  have HNN := Aside0.mk hN
  have HS : Aside0 (askS r a = if askD r a = 0 then { a with next := 2 } else if askD r a < 0 then { a with next := 5, well := false } else { a with next := 0 }) := ⟨rfl⟩
  have HDD := Aside0.mk hd
  have HW := Aside0.mk hw
  unfold kindOf at q0
  clear h hR hn hnn hq hk hN hd hw ho hao
  cases hp : a.pops
  case false =>
    rw [hp] at q0
    have HP := Aside0.mk hp
    have HKO : Aside0 (kindOf a = 0) := ⟨by unfold kindOf; rw [hp]; rfl⟩
    have HE : Aside0 (IntKind.u64.wrap (N - q) = d) := ⟨by rw [HDD.out, HNN.out, HQQ.out]; simp only [IntKind.wrap_u64]; unfold want; rw [hp]; simp⟩
    clear hp
    go_enter Try.func44, Try.ntmps44
    go_wp2_with fail
    go_quiet (fail)
    rw [HE.out]
    have hd0 := HD.out.2.2.1
    have hd1 := HD.out.2.2.2
    by_cases e0 : d = 0
    · have E0 := Aside0.mk e0
      have ht : (d == 0) = true := by simpa using e0
      clear e0
      go_wp2
      go_end0
      refine ⟨rfl, ?_, ⟨?_⟩, ?_⟩
      · exact IsDoc.setB (IsDoc.setB (HR.out.drewN nq) HA.out 1 (.int .i64 1)) HA.out 1 (.int .i64 3)
      · rw [HS.out, if_pos (HD.out.1.2 E0.out)]
        refine (hk_set (hk_set (w := w.drewN nq) (g := b) H.out.act 1 _) 1 _).trans ?_
        simp [kindOf, dnext]
      · exact (((Keep.refl (DSet p b) w).drewN nq).set DSet.b _ _).set DSet.b _ _
    · have E0 := Aside0.mk e0
      have ht : (d == 0) = false := by simpa using e0
      clear e0
      by_cases e1 : 9223372036854775808 ≤ d
      · have E1 := Aside0.mk e1
        have ht1 : decide (9223372036854775808 ≤ d) = true := by simpa using e1
        clear e1
        go_wp2
        go_end0
        refine ⟨rfl, ?_, ⟨?_⟩, ?_⟩
        · exact IsDoc.setB (IsDoc.setB (HR.out.drewN nq) HA.out 1 (.int .i64 1)) HA.out 1 (.int .i64 0)
        · rw [HS.out, if_neg (fun h => E0.out (HD.out.1.1 h)), if_pos (HD.out.2.1.2 E1.out)]
          refine (hk_set (hk_set (w := w.drewN nq) (g := b) H.out.act 1 _) 1 _).trans ?_
          simp [kindOf, dnext, HW.out]
        · exact (((Keep.refl (DSet p b) w).drewN nq).set DSet.b _ _).set DSet.b _ _
      · have E1 : Aside0 (¬ 9223372036854775808 ≤ d) := ⟨e1⟩
        have ht1 : decide (9223372036854775808 ≤ d) = false := by simpa using e1
        clear e1
        go_wp2
        go_end0
        refine ⟨rfl, ?_, ⟨?_⟩, ?_⟩
        · exact IsDoc.setB (HR.out.drewN nq) HA.out 1 (.int .i64 1)
        · rw [HS.out, if_neg (fun h => E0.out (HD.out.1.1 h)), if_neg (fun h => by have := HD.out.2.1.1 h; have := E1.out; omega)]
          refine (hk_set (w := w.drewN nq) (g := b) H.out.act 1 _).trans ?_
          simp [kindOf, dnext]
        · exact ((Keep.refl (DSet p b) w).drewN nq).set DSet.b _ _
  case true =>
    rw [hp] at q0
    have HP := Aside0.mk hp
    have HKO : Aside0 (kindOf a = 2) := ⟨by unfold kindOf; rw [hp]; rfl⟩
    have HE : Aside0 (IntKind.u64.wrap (N - (IntKind.u64.wrap (q + 1))) = d) := ⟨by rw [HDD.out, HNN.out, HQQ.out]; simp only [IntKind.wrap_u64]; unfold want; rw [hp]; simp⟩
    clear hp
    go_enter Try.func44, Try.ntmps44
    go_wp2_with fail
    go_quiet (fail)
    rw [HE.out]
    have hd0 := HD.out.2.2.1
    have hd1 := HD.out.2.2.2
    by_cases e0 : d = 0
    · have E0 := Aside0.mk e0
      have ht : (d == 0) = true := by simpa using e0
      clear e0
      go_wp2
      go_end0
      refine ⟨rfl, ?_, ⟨?_⟩, ?_⟩
      · exact IsDoc.setB (IsDoc.setB (HR.out.drewN nq) HA.out 1 (.int .i64 1)) HA.out 1 (.int .i64 3)
      · rw [HS.out, if_pos (HD.out.1.2 E0.out)]
        refine (hk_set (hk_set (w := w.drewN nq) (g := b) H.out.act 1 _) 1 _).trans ?_
        simp [kindOf, dnext]
      · exact (((Keep.refl (DSet p b) w).drewN nq).set DSet.b _ _).set DSet.b _ _
    · have E0 := Aside0.mk e0
      have ht : (d == 0) = false := by simpa using e0
      clear e0
      by_cases e1 : 9223372036854775808 ≤ d
      · have E1 := Aside0.mk e1
        have ht1 : decide (9223372036854775808 ≤ d) = true := by simpa using e1
        clear e1
        go_wp2
        go_end0
        refine ⟨rfl, ?_, ⟨?_⟩, ?_⟩
        · exact IsDoc.setB (IsDoc.setB (HR.out.drewN nq) HA.out 1 (.int .i64 1)) HA.out 1 (.int .i64 0)
        · rw [HS.out, if_neg (fun h => E0.out (HD.out.1.1 h)), if_pos (HD.out.2.1.2 E1.out)]
          refine (hk_set (hk_set (w := w.drewN nq) (g := b) H.out.act 1 _) 1 _).trans ?_
          simp [kindOf, dnext, HW.out]
        · exact (((Keep.refl (DSet p b) w).drewN nq).set DSet.b _ _).set DSet.b _ _
      · have E1 : Aside0 (¬ 9223372036854775808 ≤ d) := ⟨e1⟩
        have ht1 : decide (9223372036854775808 ≤ d) = false := by simpa using e1
        clear e1
        go_wp2
        go_end0
        refine ⟨rfl, ?_, ⟨?_⟩, ?_⟩
        · exact IsDoc.setB (HR.out.drewN nq) HA.out 1 (.int .i64 1)
        · rw [HS.out, if_neg (fun h => E0.out (HD.out.1.1 h)), if_neg (fun h => by have := HD.out.2.1.1 h; have := E1.out; omega)]
          refine (hk_set (w := w.drewN nq) (g := b) H.out.act 1 _).trans ?_
          simp [kindOf, dnext]
        · exact ((Keep.refl (DSet p b) w).drewN nq).set DSet.b _ _

theorem IsDoc.setT {w : World} {p : DW} {r : RS} (h : IsDoc w p r) (hn : p.x ≠ p.nb) (hv : p.x ≠ p.vb) (x : Int) : IsDoc (w.setCell ⟨p.x, 0, none⟩ (.int .u64 x)) p { r with T := x } :=
  ⟨hk_set h.ring 0 _, h.num.far (Ne.symm hn) _, h.val.far (Ne.symm hv) _, h.ne⟩
theorem IsDoc.setH {w : World} {p : DW} {r : RS} (h : IsDoc w p r) (hn : p.x ≠ p.nb) (hv : p.x ≠ p.vb) (x : Int) : IsDoc (w.setCell ⟨p.x, 1, none⟩ (.int .u64 x)) p { r with H := x } :=
  ⟨hk_set h.ring 1 _, h.num.far (Ne.symm hn) _, h.val.far (Ne.symm hv) _, h.ne⟩
theorem IsDoc.setN {w : World} {p : DW} {r : RS} (h : IsDoc w p r) (hn : p.x ≠ p.nb) {k : Nat} (hk : k < r.n) (x : Int) : IsDoc (w.setCell ⟨p.nb, k, none⟩ (.int .u64 x)) p { r with num := upd r.num k x } :=
  ⟨hk_far h.ring hn _, h.num.set hk x, h.val.far (Ne.symm h.ne) _, h.ne⟩
theorem IsDoc.setV {w : World} {p : DW} {r : RS} (h : IsDoc w p r) (hv : p.x ≠ p.vb) {k : Nat} (hk : k < r.n) (x : Int) : IsDoc (w.setCell ⟨p.vb, k, none⟩ (.int .u64 x)) p { r with val := upd r.val k x } :=
  ⟨hk_far h.ring hv _, h.num.far h.ne _, h.val.set hk x, h.ne⟩
set_option maxHeartbeats 3200000 in
set_option maxRecDepth 100000 in
theorem dstep_2 (p : DW) (b : Nat) (r : RS) (a : AS) (w : World) (hR : IsDoc w p r) (h : IsDAct w b a) (hn : a.next = 2) :
    Calls Try.prog 44 #[.pointer (some ⟨p.x, 0, none⟩), .pointer (some ⟨b, 0, none⟩)] w (DPost w p b (claimR r a) (claimA r a)) := by
  have HA := Aside0.mk (doc_ne hR h)
  have H := Aside0.mk h
  have HR := Aside0.mk hR
  have q0 := hk_cell h.act 0
  have q1 := hk_cell h.act 1
  have q2 := hk_cell h.act 2
  have f1 := hk_frozen h.act 1
  have f3 := hk_frozen h.act 3
  have q3 := hk_cell h.act 3
  have t0 := hk_cell hR.ring 0
  have t1 := hk_cell hR.ring 1
  have g0 := hk_frozen hR.ring 0
  have g1 := hk_frozen hR.ring 1
  have t2 := hk_cell hR.ring 2
  have nbx := HA.out.bx
  have nxb := Ne.symm HA.out.bx
  unfold dnext at q1
  rw [hn] at q1
  unfold kindOf at q0
  have HN := Aside0.mk hn
  clear h hR hn
  cases hp : a.pops
  case false =>
    rw [hp] at q0
    have HP := Aside0.mk hp
    clear hp
    by_cases he : r.T = a.at_
    · have HE := Aside0.mk he
      have het : (r.T == a.at_) = true := by simpa using he
      have HW : Aside0 (IntKind.u64.wrap (r.T + 1) = (a.at_ + 1) % 18446744073709551616) := ⟨by rw [he, IntKind.wrap_u64]⟩
      clear he
      go_enter Try.func44, Try.ntmps44
      go_wp2_with fail
      go_quiet (fail)
      go_wp2_with fail
      go_quiet (fail)
      go_wp2
      go_end0
      refine ⟨rfl, ?_, ⟨?_⟩, ?_⟩
      · rw [HW.out]
        have e : claimR r a = { r with T := (a.at_ + 1) % 18446744073709551616 } := by unfold claimR endOf setEnd; rw [HP.out]; simp [HE.out]
        rw [e]
        exact IsDoc.setB (IsDoc.setB (IsDoc.setT ((IsDoc.setB HR.out HA.out 1 _).drewN _) HA.out.xn HA.out.xv _) HA.out 3 _) HA.out 1 _
      · have e : claimA r a = { a with place := a.at_, next := 3 } := by unfold claimA endOf; rw [HP.out]; simp [HE.out]
        rw [e]
        refine (hk_set (hk_set (hk_far (w := (w.setCell ⟨b, 1, none⟩ (.int .i64 1)).drewN _) (hk_set (w := w) (g := b) H.out.act 1 _) nbx _) 3 _) 1 _).trans ?_
        simp [kindOf, dnext]
      · exact (((((Keep.refl (DSet p b) w).set DSet.b _ _).drewN _).set DSet.x _ _).set DSet.b _ _).set DSet.b _ _
    · have HE : Aside0 (¬ r.T = a.at_) := ⟨he⟩
      have het : (r.T == a.at_) = false := by simpa using he
      clear he
      go_enter Try.func44, Try.ntmps44
      go_wp2_with fail
      go_quiet (fail)
      go_wp2_with fail
      go_quiet (fail)
      go_wp2
      go_end0
      refine ⟨rfl, ?_, ⟨?_⟩, ?_⟩
      · have e : claimR r a = r := by unfold claimR endOf; rw [HP.out]; simp [HE.out]
        rw [e]
        exact ((IsDoc.setB HR.out HA.out 1 _).drewN _).drewN _
      · have e : claimA r a = { a with next := 0 } := by unfold claimA endOf; rw [HP.out]; simp [HE.out]
        rw [e]
        refine (hk_set (w := w) (g := b) H.out.act 1 _).trans ?_
        simp [kindOf, dnext]
      · exact (((Keep.refl (DSet p b) w).set DSet.b _ _).drewN _).drewN _
  case true =>
    rw [hp] at q0
    have HP := Aside0.mk hp
    clear hp
    by_cases he : r.H = a.at_
    · have HE := Aside0.mk he
      have het : (r.H == a.at_) = true := by simpa using he
      have HW : Aside0 (IntKind.u64.wrap (r.H + 1) = (a.at_ + 1) % 18446744073709551616) := ⟨by rw [he, IntKind.wrap_u64]⟩
      clear he
      go_enter Try.func44, Try.ntmps44
      go_wp2_with fail
      go_quiet (fail)
      go_wp2
      go_end0
      refine ⟨rfl, ?_, ⟨?_⟩, ?_⟩
      · rw [HW.out]
        have e : claimR r a = { r with H := (a.at_ + 1) % 18446744073709551616 } := by unfold claimR endOf setEnd; rw [HP.out]; simp [HE.out]
        rw [e]
        exact IsDoc.setB (IsDoc.setB (IsDoc.setH ((IsDoc.setB HR.out HA.out 1 _).drewN _) HA.out.xn HA.out.xv _) HA.out 3 _) HA.out 1 _
      · have e : claimA r a = { a with place := a.at_, next := 3 } := by unfold claimA endOf; rw [HP.out]; simp [HE.out]
        rw [e]
        refine (hk_set (hk_set (hk_far (w := (w.setCell ⟨b, 1, none⟩ (.int .i64 1)).drewN _) (hk_set (w := w) (g := b) H.out.act 1 _) nbx _) 3 _) 1 _).trans ?_
        simp [kindOf, dnext]
      · exact (((((Keep.refl (DSet p b) w).set DSet.b _ _).drewN _).set DSet.x _ _).set DSet.b _ _).set DSet.b _ _
    · have HE : Aside0 (¬ r.H = a.at_) := ⟨he⟩
      have het : (r.H == a.at_) = false := by simpa using he
      clear he
      go_enter Try.func44, Try.ntmps44
      go_wp2_with fail
      go_quiet (fail)
      go_wp2_with fail
      go_quiet (fail)
      go_wp2
      go_end0
      refine ⟨rfl, ?_, ⟨?_⟩, ?_⟩
      · have e : claimR r a = r := by unfold claimR endOf; rw [HP.out]; simp [HE.out]
        rw [e]
        exact ((IsDoc.setB HR.out HA.out 1 _).drewN _).drewN _
      · have e : claimA r a = { a with next := 0 } := by unfold claimA endOf; rw [HP.out]; simp [HE.out]
        rw [e]
        refine (hk_set (w := w) (g := b) H.out.act 1 _).trans ?_
        simp [kindOf, dnext]
      · exact (((Keep.refl (DSet p b) w).set DSet.b _ _).drewN _).drewN _

set_option maxHeartbeats 3200000 in
set_option maxRecDepth 100000 in
theorem dstep_3 (p : DW) (b : Nat) (r : RS) (a : AS) (w : World) (hR : IsDoc w p r) (h : IsDAct w b a) (ho : r.ok) (hao : a.ok) (hn : a.next = 3) :
    Calls Try.prog 44 #[.pointer (some ⟨p.x, 0, none⟩), .pointer (some ⟨b, 0, none⟩)] w (DPost w p b (takeR r a) (takeA r a)) := by
  have HA := Aside0.mk (doc_ne hR h)
  have H := Aside0.mk h
  have HR := Aside0.mk hR
  have q0 := hk_cell h.act 0
  have q1 := hk_cell h.act 1
  have q3 := hk_cell h.act 3
  have q4 := hk_cell h.act 4
  have q5 := hk_cell h.act 5
  have f1 := hk_frozen h.act 1
  have f4 := hk_frozen h.act 4
  have f5 := hk_frozen h.act 5
  have t2 := hk_cell hR.ring 2
  have t3 := hk_cell hR.ring 3
  have hlt := slotOf_lt ho a.place
  obtain ⟨n, hnn⟩ : ∃ n, n = r.n := ⟨_, rfl⟩
  obtain ⟨q, hq⟩ : ∃ q, q = a.place := ⟨_, rfl⟩
  obtain ⟨k, hk⟩ : ∃ k, k = slotOf r a.place := ⟨_, rfl⟩
  have hpk : q % (n : Int) = (k : Int) := by
    rw [hnn, hq, hk]; have h1 := Int.emod_nonneg a.place (show (r.n : Int) ≠ 0 by have := ho.1; omega); unfold slotOf; omega
  have tn := hR.num.cell hlt
  have tv := hR.val.cell hlt
  have hn3 : n = 2 ∨ n = 4 ∨ n = 8 := by rw [hnn]; exact ho.1
  have hqu : 0 ≤ q ∧ q < 18446744073709551616 := by rw [hq]; exact u64_of _ hao.2.1
  have HKN : Aside0 (k < r.n) := ⟨by rw [hk]; exact hlt⟩
  rw [← hk] at tn tv
  rw [← hnn] at t2 t3 hlt
  rw [← hk] at hlt
  rw [← hq] at q3
  have fn := hR.num.frozen k
  have fv := hR.val.frozen k
  have hwn : (n : Int) % 18446744073709551616 = n := by omega
  have hnz : ((n : Int) == 0) = false := by simp; omega
  have hk0 : (0 : Int) ≤ (k : Int) := by omega
  have hk1 : (k : Int) < (n : Int) := by omega
  unfold dnext at q1
  rw [hn] at q1
  have HN := Aside0.mk hnn
  have HQQ := Aside0.mk hq
  have HK := Aside0.mk hk
  have nbx := HA.out.bx
  have nbn := HA.out.bn
  have nbv := HA.out.bv
  have nxb := Ne.symm HA.out.bx
  have nnb := Ne.symm HA.out.bn
  have nvb := Ne.symm HA.out.bv
  have nxv := HA.out.xv
  have nxn := HA.out.xn
  have nnv := HR.out.ne
  unfold kindOf at q0
  clear h hR hn hnn hq hk ho hao
  cases hp : a.pops
  case false =>
    rw [hp] at q0
    have HP := Aside0.mk hp
    clear hp
    go_enter Try.func44, Try.ntmps44
    go_wp2_with fail
    go_region
    go_wp2_with fail
    go_region
    go_wp2_with fail
    go_end0
    have e1 : takeR r a = { r with num := upd r.num k (IntKind.u64.wrap (q + 1)), val := upd r.val k a.value } := by unfold takeR; rw [HP.out, ← HK.out, ← HQQ.out, IntKind.wrap_u64]; simp
    have e2 : takeA r a = { a with next := 5, well := true } := by unfold takeA; rw [HP.out]; simp
    rw [e1, e2]
    refine ⟨rfl, ?_, ⟨?_⟩, ?_⟩
    · exact (IsDoc.setB (IsDoc.setB (IsDoc.setN (IsDoc.setV HR.out nxv HKN.out a.value) nxn HKN.out (IntKind.u64.wrap (q + 1))) HA.out 1 _) HA.out 5 _).drew.drew
    · refine (hk_set (hk_set (hk_far (hk_far (w := w) (g := b) H.out.act nbv _) nbn _) 1 _) 5 _).trans ?_
      simp [kindOf, dnext]
    · exact ((((((Keep.refl (DSet p b) w).set DSet.v _ _).set DSet.n _ _).set DSet.b _ _).set DSet.b _ _).drew).drew
  case true =>
    rw [hp] at q0
    have HP := Aside0.mk hp
    clear hp
    go_enter Try.func44, Try.ntmps44
    go_wp2_with fail
    go_region
    go_wp2_with fail
    go_end0
    have e1 : takeR r a = { r with num := upd r.num k (IntKind.u64.wrap (q + n)) } := by unfold takeR; rw [HP.out, ← HK.out, ← HQQ.out, IntKind.wrap_u64, HN.out]; simp
    have e2 : takeA r a = { a with value := r.val (slotOf r a.place), next := 5, well := true } := by unfold takeA; rw [HP.out]; simp
    rw [e1, e2]
    refine ⟨rfl, ?_, ⟨?_⟩, ?_⟩
    · exact (IsDoc.setB (IsDoc.setB (IsDoc.setN (IsDoc.setB HR.out HA.out 4 _) nxn HKN.out (IntKind.u64.wrap (q + n))) HA.out 1 _) HA.out 5 _).drew
    · refine (hk_set (hk_set (hk_far (hk_set (w := w) (g := b) H.out.act 4 _) nbn _) 1 _) 5 _).trans ?_
      rw [HK.out]; simp [kindOf, dnext]
    · exact (((((Keep.refl (DSet p b) w).set DSet.b _ _).set DSet.n _ _).set DSet.b _ _).set DSet.b _ _).drew
theorem dstep_walk (p : DW) (b : Nat) (r : RS) (a : AS) (w : World) (hR : IsDoc w p r) (h : IsDAct w b a) (ho : r.ok) (hao : a.ok) (hw : a.well = false) (hn : a.next = 0 ∨ a.next = 1 ∨ a.next = 2 ∨ a.next = 3) :
    Calls Try.prog 44 #[.pointer (some ⟨p.x, 0, none⟩), .pointer (some ⟨b, 0, none⟩)] w (DPost w p b (stepR r a) (stepA r a)) := by
  rcases hn with e | e | e | e
  · have h1 : stepR r a = r := by unfold stepR; rw [e]; simp
    have h2 : stepA r a = { a with next := 1, at_ := endOf r a.pops } := by unfold stepA; rw [e]; simp
    rw [h1, h2]; exact dstep_0 p b r a w hR h e
  · have h1 : stepR r a = r := by unfold stepR; rw [e]; simp
    have h2 : stepA r a = askS r a := by unfold stepA; rw [e]; simp
    rw [h1, h2]; exact dstep_1 p b r a w hR h ho hao hw e
  · have h1 : stepR r a = claimR r a := by unfold stepR; rw [e]; simp
    have h2 : stepA r a = claimA r a := by unfold stepA; rw [e]; simp
    rw [h1, h2]; exact dstep_2 p b r a w hR h e
  · have h1 : stepR r a = takeR r a := by unfold stepR; rw [e]; simp
    have h2 : stepA r a = takeA r a := by unfold stepA; rw [e]; simp
    rw [h1, h2]; exact dstep_3 p b r a w hR h ho hao e
end Go.Proofs.Ytepbggoeajihbaa.Ring
