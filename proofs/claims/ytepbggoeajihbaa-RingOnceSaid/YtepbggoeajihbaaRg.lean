/- Push, Pop, Join, what a ring tells; TryPush, TryPop. -/
import Derived.Test.YtepbggoeajihbaaSt
import Derived.ScopeJumps
import Derived.WalkMore
import Derived.Outline
set_option linter.unusedVariables false
set_option linter.unusedSimpArgs false
namespace Go.Proofs.Ytepbggoeajihbaa.Ring
open Go.RowKit Go.Proofs.YtepbggoeajihbaaW.PrintWords Go.Proofs.YtepbggoeajihbaaW.PrintLast Go.Proofs.YtepbggoeajihbaaW.PrintMore Go.Proofs.YtepbggoeajihbaaHk

def pushA (v : Int) : AS := ⟨false, 0, 0, 0, v, false⟩
def joinA (v : Int) : AS := ⟨false, 4, 0, 0, v, false⟩
def popA : AS := ⟨true, 0, 0, 0, 0, false⟩
/-- A new act. -/
def NewPost (w : World) (g : Nat) (a : AS) (e : Ending) (w' : World) : Prop := e = .returned (.pointer (some ⟨w.heap.size, 0, none⟩)) ∧ IsAct w' w.heap.size g a ∧ Below w.heap.size w w' ∧ w'.heap.size = w.heap.size + 1
theorem newOut {w w' : World} {g : Nat} {a : AS} {e : Ending} (h : NewPost w g a e w') : e = .returned (.pointer (some ⟨w.heap.size, 0, none⟩)) ∧ IsAct w' w.heap.size g a ∧ Below w.heap.size w w' ∧ w'.heap.size = w.heap.size + 1 := h
set_option maxHeartbeats 1600000 in
set_option maxRecDepth 100000 in
theorem push_walk (g : Nat) (v : Int) (w : World) (hv : U64 v) : Calls Try.prog 33 #[.pointer (some ⟨g, 0, none⟩), .int .u64 v] w (NewPost w g (pushA v)) := by
  have HV := Aside0.mk hv; clear hv
  go_enter Try.func33, Try.ntmps33
  go_wp2
  go_ret
  exact ⟨rfl, ⟨blk_new w _, ⟨by simp [U64, pushA], by simp [U64, pushA], HV.out, by simp [pushA]⟩⟩, (Below.refl _ _).alloc (Nat.le_refl _) _, by simp⟩
set_option maxHeartbeats 1600000 in
set_option maxRecDepth 100000 in
theorem join_walk (g : Nat) (v : Int) (w : World) (hv : U64 v) : Calls Try.prog 12 #[.pointer (some ⟨g, 0, none⟩), .int .u64 v] w (NewPost w g (joinA v)) := by
  have HV := Aside0.mk hv; clear hv
  go_enter Try.func12, Try.ntmps12
  go_wp2
  go_ret
  exact ⟨rfl, ⟨blk_new w _, ⟨by simp [U64, joinA], by simp [U64, joinA], HV.out, by simp [joinA]⟩⟩, (Below.refl _ _).alloc (Nat.le_refl _) _, by simp⟩
set_option maxHeartbeats 1600000 in
set_option maxRecDepth 100000 in
theorem pop_walk (g : Nat) (w : World) : Calls Try.prog 32 #[.pointer (some ⟨g, 0, none⟩)] w (NewPost w g popA) := by
  go_enter Try.func32, Try.ntmps32
  go_wp2
  go_ret
  exact ⟨rfl, ⟨blk_new w _, ⟨by simp [U64, popA], by simp [U64, popA], by simp [U64, popA], by simp [popA]⟩⟩, (Below.refl _ _).alloc (Nat.le_refl _) _, by simp⟩
set_option maxHeartbeats 1600000 in
set_option maxRecDepth 100000 in
theorem tail_walk (g sb : Nat) (r : RS) (w : World) (h : IsRing w g sb r) : Calls Try.prog 22 #[.pointer (some ⟨g, 0, none⟩)] w fun e w' => e = .returned (.int .u64 r.T) ∧ w' = w := by
  have HL := Aside0.mk (load_walk g 0 r.T w (hk_cell h.ring 0)); clear h
  go_enter Try.func22, Try.ntmps22
  go_wp2_with fail
  with_reducible refine HL.out.mono ?_
  rintro e w1 ⟨rfl, rfl⟩
  go_wp2
  go_ret
  exact ⟨rfl, rfl⟩
set_option maxHeartbeats 1600000 in
set_option maxRecDepth 100000 in
theorem head_walk (g sb : Nat) (r : RS) (w : World) (h : IsRing w g sb r) : Calls Try.prog 23 #[.pointer (some ⟨g, 0, none⟩)] w fun e w' => e = .returned (.int .u64 r.H) ∧ w' = w := by
  have HL := Aside0.mk (load_walk g 1 r.H w (hk_cell h.ring 1)); clear h
  go_enter Try.func23, Try.ntmps23
  go_wp2_with fail
  with_reducible refine HL.out.mono ?_
  rintro e w1 ⟨rfl, rfl⟩
  go_wp2
  go_ret
  exact ⟨rfl, rfl⟩
set_option maxHeartbeats 1600000 in
set_option maxRecDepth 100000 in
theorem cap_walk (g sb : Nat) (r : RS) (w : World) (h : IsRing w g sb r) : Calls Try.prog 24 #[.pointer (some ⟨g, 0, none⟩)] w fun e w' => e = .returned (.int .i64 r.n) ∧ w' = w := by
  have q2 := hk_cell h.ring 2; clear h
  go_enter Try.func24, Try.ntmps24
  go_wp2
  go_ret
  exact ⟨rfl, rfl⟩
theorem cap_num (n : Int) (h : 0 ≤ n ∧ n ≤ 255) : n % 3 = 0 ∨ n % 3 = 1 ∨ n % 3 = 2 := by omega
def capOf (n : Int) : Nat := if n % 3 = 0 then 2 else if n % 3 = 1 then 4 else 8
set_option maxHeartbeats 1600000 in
set_option maxRecDepth 100000 in
theorem capacity_walk (n : Int) (h : 0 ≤ n ∧ n ≤ 255) (w : World) : Calls Try.prog 11 #[.int .u8 n] w fun e w' => e = .returned (.int .i64 (capOf n)) ∧ w' = w := by
  go_enter Try.func11, Try.ntmps11
  go_wp2_with fail
  go_ret
  refine ⟨?_, rfl⟩
  have e : wrap64 (2 * 2 ^ (n % 3).toNat) = (capOf n : Int) := by
    unfold capOf
    rcases cap_num n h with h1 | h1 | h1 <;> rw [h1] <;> simp [wrap64]
  rw [← e]; rfl

/-- An act that goes on alone: its steps, forwards, to its end. -/
inductive Solo : RS → AS → RS → AS → Prop
  | last {r : RS} {a : AS} (h : (stepA r a).next = 5) : Solo r a (stepR r a) (stepA r a)
  | more {r : RS} {a : AS} {R : RS} {A : AS} (h5 : (stepA r a).next ≠ 5) (hl : a.next < (stepA r a).next) (k : Solo (stepR r a) (stepA r a) R A) : Solo r a R A
theorem solo_cases {r : RS} {a : AS} {R : RS} {A : AS} (h : Solo r a R A) : ((stepA r a).next = 5 ∧ R = stepR r a ∧ A = stepA r a) ∨ ((stepA r a).next ≠ 5 ∧ a.next < (stepA r a).next ∧ Solo (stepR r a) (stepA r a) R A) := by
  cases h with
  | last h => exact .inl ⟨h, rfl, rfl⟩
  | more h5 hl k => exact .inr ⟨h5, hl, k⟩
/-- A step of an act whose block is new. -/
theorem Keep.trans' {g sb b : Nat} {w w1 w2 : World} (h : Keep (fun i => i = g ∨ i = sb) w w1) (k : Keep (fun i => i = b ∨ i = g ∨ i = sb) w1 w2) (hb : w.heap.size ≤ b) : Keep (fun i => i = g ∨ i = sb) w w2 :=
  ⟨k.os.trans h.os, k.tape.trans h.tape, k.output.trans h.output, Nat.le_trans h.size k.size, fun i hi hs => (k.block i (Nat.lt_of_lt_of_le hi h.size) (by
    rintro (e | e)
    · omega
    · exact hs e)).trans (h.block i hi hs)⟩
/-- What TryPush leaves. -/
def TryPost (w : World) (g sb : Nat) (R : RS) (v : Value) (e : Ending) (w' : World) : Prop := e = .returned v ∧ IsRing w' g sb R ∧ Keep (fun i => i = g ∨ i = sb) w w'
theorem tryOut {w w' : World} {g sb : Nat} {R : RS} {v : Value} {e : Ending} (h : TryPost w g sb R v e w') : e = .returned v ∧ IsRing w' g sb R ∧ Keep (fun i => i = g ∨ i = sb) w w' := h
/-- What an act's block says of its next step. -/
def nextIn (w : World) (b : Nat) : Int := match w.cell? ⟨b, 2, none⟩ with | some (.int _ x) => x | _ => 0
theorem nextIn_of {w : World} {b g : Nat} {a : AS} (h : IsAct w b g a) : nextIn w b = a.next := by
  have := hk_cell h.act 2
  unfold nextIn; rw [this]; rfl
set_option maxHeartbeats 1600000 in
set_option maxRecDepth 100000 in
theorem trypush_walk (g sb : Nat) (r : RS) (v : Int) (R : RS) (A : AS) (w : World) (h : IsRing w g sb r) (hv : U64 v) (hs : Solo r (pushA v) R A) :
    Calls Try.prog 18 #[.pointer (some ⟨g, 0, none⟩), .int .u64 v] w (TryPost w g sb R (.bool A.well)) := by
  have HR := Aside0.mk h
  have HS := Aside0.mk hs
  have hgl := hk_lt h.ring
  have hsl := hk_lt h.slots
  have HPW := Aside0.mk (push_walk g v w hv)
  clear h hs hv
  go_enter Try.func18, Try.ntmps18
  go_wp2
  refine wp_scope_jumps 0 (fun a' wr => ∃ (r1 : RS) (a1 : AS) (u2 u3 u6 u7 u8 u9 u10 u11 u12 u13 : Value), a' = { tmps := #[.pointer (some ⟨g, 0, none⟩), .int .u64 v, u2, u3, .bool false, .pointer (some ⟨w.heap.size, 0, none⟩), u6, u7, u8, u9, u10, u11, u12, u13], defers := [] } ∧
      Aside0 (IsRing wr g sb r1 ∧ IsAct wr w.heap.size g a1 ∧ Keep (fun i => i = g ∨ i = sb) w wr ∧ Solo r1 a1 R A)) (fun _ wr => (5 - nextIn wr w.heap.size).toNat) (by rfl) ?_ ?_
  · go_wp2_with fail
    with_reducible refine HPW.out.mono ?_
    rintro e w1 ⟨rfl, hi1, hb1, _⟩
    have HI1 := Aside0.mk hi1
    have HR1 := Aside0.mk (HR.out.below hb1)
    have HK1 := Aside0.mk (Keep.of_below (S := fun i => i = g ∨ i = sb) hb1)
    have hbg : w.heap.size ≠ g := by omega
    have hbs : w.heap.size ≠ sb := by omega
    clear hi1 hb1
    go_wp2_with fail
    go_step3
    go_wp2_with fail
    with_reducible refine (step_walk w.heap.size g sb r (pushA v) w1 HR1.out HI1.out hbg hbs).mono ?_
    intro e w2 hp
    obtain ⟨he, hr2, hi2, hk2⟩ := stepOut hp
    subst he
    have HR2 := Aside0.mk hr2
    have HI2 := Aside0.mk hi2
    have HK2 := Aside0.mk ((HK1.out).trans' hk2 (by omega))
    have HN1 : Aside0 (nextIn w1 w.heap.size = ((pushA v)).next) := ⟨nextIn_of HI1.out⟩
    have HN2 : Aside0 (nextIn w2 w.heap.size = (stepA r (pushA v)).next) := ⟨nextIn_of hi2⟩
    clear hp hr2 hi2 hk2
    rcases solo_cases HS.out with ⟨h5, hRR, hAA⟩ | ⟨h5, hl, hk⟩
    · have hq : ((stepA r (pushA v)).next == 5) = true := by rw [h5]; rfl
      have HRR := Aside0.mk hRR
      have HAA := Aside0.mk hAA
      clear h5 hRR hAA
      go_wp2_with fail
      with_reducible refine (ok_walk w.heap.size g _ w2 HI2.out).mono ?_
      rintro e w3 ⟨rfl, rfl⟩
      go_wp2
      simp only [Exit.jump]
      go_ret
      exact ⟨by rw [HAA.out]; rfl, by rw [HRR.out]; exact HR2.out, HK2.out⟩
    · have hq : ((stepA r (pushA v)).next == 5) = false := by simpa using h5
      have HL := Aside0.mk hl
      have HKS := Aside0.mk hk
      have H5 : Aside0 ((stepA r (pushA v)).next ≠ 5) := ⟨h5⟩
      clear h5 hl hk
      go_wp2_with fail
      go_step3
      exact ⟨rfl, _, _, _, _, _, _, _, _, _, _, _, _, rfl, ⟨HR2.out, HI2.out, HK2.out, HKS.out⟩⟩
  · rintro a' wr ⟨r1, a1, u2, u3, u6, u7, u8, u9, u10, u11, u12, u13, rfl, HI⟩
    have hbg : w.heap.size ≠ g := by omega
    have hbs : w.heap.size ≠ sb := by omega
    go_wp2_with fail
    with_reducible refine (step_walk w.heap.size g sb r1 a1 wr HI.out.1 HI.out.2.1 hbg hbs).mono ?_
    intro e w2 hp
    obtain ⟨he, hr2, hi2, hk2⟩ := stepOut hp
    subst he
    have HR2 := Aside0.mk hr2
    have HI2 := Aside0.mk hi2
    have HK2 := Aside0.mk ((HI.out.2.2.1).trans' hk2 (by omega))
    have HN1 : Aside0 (nextIn wr w.heap.size = (a1).next) := ⟨nextIn_of HI.out.2.1⟩
    have HN2 : Aside0 (nextIn w2 w.heap.size = (stepA r1 a1).next) := ⟨nextIn_of hi2⟩
    clear hp hr2 hi2 hk2
    rcases solo_cases HI.out.2.2.2 with ⟨h5, hRR, hAA⟩ | ⟨h5, hl, hk⟩
    · have hq : ((stepA r1 a1).next == 5) = true := by rw [h5]; rfl
      have HRR := Aside0.mk hRR
      have HAA := Aside0.mk hAA
      clear h5 hRR hAA
      go_wp2_with fail
      with_reducible refine (ok_walk w.heap.size g _ w2 HI2.out).mono ?_
      rintro e w3 ⟨rfl, rfl⟩
      go_wp2
      simp only [Exit.jump]
      go_ret
      exact ⟨by rw [HAA.out]; rfl, by rw [HRR.out]; exact HR2.out, HK2.out⟩
    · have hq : ((stepA r1 a1).next == 5) = false := by simpa using h5
      have HL := Aside0.mk hl
      have HKS := Aside0.mk hk
      have H5 : Aside0 ((stepA r1 a1).next ≠ 5) := ⟨h5⟩
      clear h5 hl hk
      go_wp2_with fail
      go_step3
      refine ⟨rfl, ⟨_, _, _, _, _, _, _, _, _, _, _, _, rfl, ⟨HR2.out, HI2.out, HK2.out, HKS.out⟩⟩, ?_⟩
      rw [HN1.out, HN2.out]
      have := HL.out; have := HI2.out.ok.2.2.2; have := H5.out; omega
set_option maxHeartbeats 1600000 in
set_option maxRecDepth 100000 in
theorem trypop_walk (g sb : Nat) (r : RS) (R : RS) (A : AS) (w : World) (h : IsRing w g sb r) (hs : Solo r popA R A) :
    Calls Try.prog 17 #[.pointer (some ⟨g, 0, none⟩)] w (TryPost w g sb R (.tuple #[.int .u64 (valueOf A), .bool A.well])) := by
  have HR := Aside0.mk h
  have HS := Aside0.mk hs
  have hgl := hk_lt h.ring
  have hsl := hk_lt h.slots
  have HPW := Aside0.mk (pop_walk g w)
  clear h hs
  go_enter Try.func17, Try.ntmps17
  go_wp2
  refine wp_scope_jumps 0 (fun a' wr => ∃ (r1 : RS) (a1 : AS) (u1 u5 u6 u7 u8 u9 u10 u11 u12 u13 : Value), a' = { tmps := #[.pointer (some ⟨g, 0, none⟩), u1, .int .u64 0, .bool false, .pointer (some ⟨w.heap.size, 0, none⟩), u5, u6, u7, u8, u9, u10, u11, u12, u13], defers := [] } ∧
      Aside0 (IsRing wr g sb r1 ∧ IsAct wr w.heap.size g a1 ∧ Keep (fun i => i = g ∨ i = sb) w wr ∧ Solo r1 a1 R A)) (fun _ wr => (5 - nextIn wr w.heap.size).toNat) (by rfl) ?_ ?_
  · go_wp2_with fail
    with_reducible refine HPW.out.mono ?_
    rintro e w1 ⟨rfl, hi1, hb1, _⟩
    have HI1 := Aside0.mk hi1
    have HR1 := Aside0.mk (HR.out.below hb1)
    have HK1 := Aside0.mk (Keep.of_below (S := fun i => i = g ∨ i = sb) hb1)
    have hbg : w.heap.size ≠ g := by omega
    have hbs : w.heap.size ≠ sb := by omega
    clear hi1 hb1
    go_wp2_with fail
    go_step3
    go_wp2_with fail
    with_reducible refine (step_walk w.heap.size g sb r popA w1 HR1.out HI1.out hbg hbs).mono ?_
    intro e w2 hp
    obtain ⟨he, hr2, hi2, hk2⟩ := stepOut hp
    subst he
    have HR2 := Aside0.mk hr2
    have HI2 := Aside0.mk hi2
    have HK2 := Aside0.mk ((HK1.out).trans' hk2 (by omega))
    have HN1 : Aside0 (nextIn w1 w.heap.size = (popA).next) := ⟨nextIn_of HI1.out⟩
    have HN2 : Aside0 (nextIn w2 w.heap.size = (stepA r popA).next) := ⟨nextIn_of hi2⟩
    clear hp hr2 hi2 hk2
    rcases solo_cases HS.out with ⟨h5, hRR, hAA⟩ | ⟨h5, hl, hk⟩
    · have hq : ((stepA r popA).next == 5) = true := by rw [h5]; rfl
      have HRR := Aside0.mk hRR
      have HAA := Aside0.mk hAA
      clear h5 hRR hAA
      go_wp2_with fail
      with_reducible refine (value_walk w.heap.size g _ w2 HI2.out).mono ?_
      rintro e w3 ⟨rfl, rfl⟩
      go_wp2_with fail
      with_reducible refine (ok_walk w.heap.size g _ _ HI2.out).mono ?_
      rintro e w3 ⟨rfl, rfl⟩
      go_wp2
      simp only [Exit.jump]
      go_ret2
      exact ⟨by rw [HAA.out]; rfl, by rw [HRR.out]; exact HR2.out, HK2.out⟩
    · have hq : ((stepA r popA).next == 5) = false := by simpa using h5
      have HL := Aside0.mk hl
      have HKS := Aside0.mk hk
      have H5 : Aside0 ((stepA r popA).next ≠ 5) := ⟨h5⟩
      clear h5 hl hk
      go_wp2_with fail
      go_step3
      exact ⟨rfl, _, _, _, _, _, _, _, _, _, _, _, _, rfl, ⟨HR2.out, HI2.out, HK2.out, HKS.out⟩⟩
  · rintro a' wr ⟨r1, a1, u1, u5, u6, u7, u8, u9, u10, u11, u12, u13, rfl, HI⟩
    have hbg : w.heap.size ≠ g := by omega
    have hbs : w.heap.size ≠ sb := by omega
    go_wp2_with fail
    with_reducible refine (step_walk w.heap.size g sb r1 a1 wr HI.out.1 HI.out.2.1 hbg hbs).mono ?_
    intro e w2 hp
    obtain ⟨he, hr2, hi2, hk2⟩ := stepOut hp
    subst he
    have HR2 := Aside0.mk hr2
    have HI2 := Aside0.mk hi2
    have HK2 := Aside0.mk ((HI.out.2.2.1).trans' hk2 (by omega))
    have HN1 : Aside0 (nextIn wr w.heap.size = (a1).next) := ⟨nextIn_of HI.out.2.1⟩
    have HN2 : Aside0 (nextIn w2 w.heap.size = (stepA r1 a1).next) := ⟨nextIn_of hi2⟩
    clear hp hr2 hi2 hk2
    rcases solo_cases HI.out.2.2.2 with ⟨h5, hRR, hAA⟩ | ⟨h5, hl, hk⟩
    · have hq : ((stepA r1 a1).next == 5) = true := by rw [h5]; rfl
      have HRR := Aside0.mk hRR
      have HAA := Aside0.mk hAA
      clear h5 hRR hAA
      go_wp2_with fail
      with_reducible refine (value_walk w.heap.size g _ w2 HI2.out).mono ?_
      rintro e w3 ⟨rfl, rfl⟩
      go_wp2_with fail
      with_reducible refine (ok_walk w.heap.size g _ _ HI2.out).mono ?_
      rintro e w3 ⟨rfl, rfl⟩
      go_wp2
      simp only [Exit.jump]
      go_ret2
      exact ⟨by rw [HAA.out]; rfl, by rw [HRR.out]; exact HR2.out, HK2.out⟩
    · have hq : ((stepA r1 a1).next == 5) = false := by simpa using h5
      have HL := Aside0.mk hl
      have HKS := Aside0.mk hk
      have H5 : Aside0 ((stepA r1 a1).next ≠ 5) := ⟨h5⟩
      clear h5 hl hk
      go_wp2_with fail
      go_step3
      refine ⟨rfl, ⟨_, _, _, _, _, _, _, _, _, _, _, _, rfl, ⟨HR2.out, HI2.out, HK2.out, HKS.out⟩⟩, ?_⟩
      rw [HN1.out, HN2.out]
      have := HL.out; have := HI2.out.ok.2.2.2; have := H5.out; omega
end Go.Proofs.Ytepbggoeajihbaa.Ring
