/- The law ModeTurns: for every input the call returns true, and each argument reads as it did before. No condition. -/
import Derived.Test.YtgackgdoikfmdaaRows
import Derived.Test.YtgackgdoikfmdaaPureC
import Derived.Test.YtgackgdoikfmdaaFlat
import Derived.WalkKit
import Derived.ProofKit
import Derived.OpenShut
import Derived.ShutString
import Derived.ChangeOld
import Derived.Below
import Derived.SizedLaws
namespace Go.Proofs.Ytgackgdoikfmdaa.modeTurns
open Go.ChangeShapes Go.WideShapes Go.ChangeAt Go.RowKit
open Go.Proofs.YtgackgdoikfmdaaFlat
open Go.ChangeMaps (open_string shut_string)
set_option linter.unusedVariables false
theorem own : ownKnob Try.prog.godebug = none := by kernel_rfl
theorem laidOut : laidOutB Try.prog = true := by kernel_rfl
theorem scal24_0 : scal Try.prog 4 24 = some [none, some .i64, some .u64] := by kernel_rfl
theorem scal26_1 : scal Try.prog 4 26 = some [some .i64, some .i64, some .i64] := by kernel_rfl
set_option maxRecDepth 100000 in
theorem lifted (os : Os) (started : os.Started) (H : Type) (enc : TypeId × Value → H) :
    ReturnsInHanded {} Try.checked os 3 .any (Rows.modeTurnsSpec.pre6 enc Try.prog Try.f3 Rows.modeTurnsRow.domain false) (Rows.modeTurnsSpec.post enc Try.prog Try.f3 false true false false) := by
  refine returnsInHanded_of_change_sized (C := Try.checked) own started (by kernel_rfl) Try.func3
    (ChangeSpec.witness6 (enc := enc) (C := Try.checked) false ⟨#[], #[.agg #[.bool false, .int .i64 0, .int .u64 0], .agg #[.int .i64 0, .int .i64 0, .int .i64 0], .int .i64 0, .int .i64 0, .int .i64 0], []⟩ 8 (by kernel_rfl) (by kernel_rfl) (by kernel_rfl) (by kernel_rfl)) ?_
  intro W base args ds gs before hval0 hW hcnd hsz0 _
  have hsz : (DataW.weightsEach Try.prog (Try.f3.params.toList ++ Rows.modeTurnsSpec.plain.varTypes Try.prog) (ds ++ gs)).all (· ≤ reachBytes) = true := hsz0
  have hval : ∀ (j : Nat) t v, Try.f3.params[j]? = some t → args[j]? = some v → Value.okWide Try.prog W .any base t v := hval0
  have hW' := hW
  obtain ⟨p, q, hA0, hV, rfl, hfz, hnd⟩ := hW
  have hA : DataW.TrodAll enc Try.prog W 0 (fun _ => true) true Try.f3.params.toList args.toList ds p := hA0
  rw [Try.params3] at hA hval hsz
  obtain ⟨v0, vs0, d0, ds0, p0, q0, hargs, rfl, rfl, h0, r0⟩ := trodAll_cons hA
  obtain ⟨v1, vs1, d1, ds1, p1, q1, rfl, rfl, rfl, h1, r1⟩ := trodAll_cons r0
  obtain ⟨v2, vs2, d2, ds2, p2, q2, rfl, rfl, rfl, h2, r2⟩ := trodAll_cons r1
  obtain ⟨v3, vs3, d3, ds3, p3, q3, rfl, rfl, rfl, h3, r3⟩ := trodAll_cons r2
  obtain ⟨v4, vs4, d4, ds4, p4, q4, rfl, rfl, rfl, h4, r4⟩ := trodAll_cons r3
  obtain ⟨rfl, rfl, rfl⟩ := trodAll_nil r4
  obtain rfl : args = #[v0, v1, v2, v3, v4] := by cases args; simp_all
  obtain ⟨rfl, rfl⟩ := trodVars_none hV
  have k0 := h0
  have lt0 : ∀ x ∈ p0, x.block < W.heap.size := by obtain ⟨m, hm⟩ := k0; exact DataW.trod_lt m _ _ _ hm
  obtain ⟨cs0, rfl, hs0⟩ := okWide_struct Try.underlying24 (hval 0 24 v0 rfl rfl)
  have f0 := open_flat scal24_0 h0
  obtain ⟨l0, hl0⟩ : ∃ l, cs0.toList = l := ⟨_, rfl⟩
  replace f0 : Scs [none, some .i64, some .u64] cs0.toList := f0
  rw [hl0] at f0
  obtain _ | ⟨⟨a0_0, rfl⟩, f0⟩ := f0
  obtain _ | ⟨⟨a0_1, rfl, w0_1⟩, f0⟩ := f0
  obtain _ | ⟨⟨a0_2, rfl, w0_2⟩, f0⟩ := f0
  cases f0
  obtain rfl : cs0 = #[.bool a0_0, .int .i64 a0_1, .int .u64 a0_2] := Array.toList_inj.1 hl0
  have k1 := h1
  have lt1 : ∀ x ∈ p1, x.block < W.heap.size := by obtain ⟨m, hm⟩ := k1; exact DataW.trod_lt m _ _ _ hm
  obtain ⟨cs1, rfl, hs1⟩ := okWide_struct Try.underlying26 (hval 1 26 v1 rfl rfl)
  have f1 := open_flat scal26_1 h1
  obtain ⟨l1, hl1⟩ : ∃ l, cs1.toList = l := ⟨_, rfl⟩
  replace f1 : Scs [some .i64, some .i64, some .i64] cs1.toList := f1
  rw [hl1] at f1
  obtain _ | ⟨⟨a1_0, rfl, w1_0⟩, f1⟩ := f1
  obtain _ | ⟨⟨a1_1, rfl, w1_1⟩, f1⟩ := f1
  obtain _ | ⟨⟨a1_2, rfl, w1_2⟩, f1⟩ := f1
  cases f1
  obtain rfl : cs1 = #[.int .i64 a1_0, .int .i64 a1_1, .int .i64 a1_2] := Array.toList_inj.1 hl1
  obtain ⟨a2, rfl, rfl, rfl, w2⟩ := open_int Try.underlying2 (hval 2 2 v2 rfl rfl) h2
  obtain ⟨a3, rfl, rfl, rfl, w3⟩ := open_int Try.underlying2 (hval 3 2 v3 rfl rfl) h3
  obtain ⟨a4, rfl, rfl, rfl, w4⟩ := open_int Try.underlying3 (hval 4 3 v4 rfl rfl) h4
  clear hA0 hval0 hsz0 hsz
  refine (Go.Proofs.Ytgackgdoikfmdaa.PModeTurns.turns_any a0_0 a0_1 a0_2 a1_0 a1_1 a1_2 a2 a3 a4 W w0_1 w0_2 w1_0 w1_1 w1_2 w2 w3 w4).mono fun e W' ⟨he, bel⟩ => ?_
  subst he
  exact ⟨_, rfl, _, _, _, [], _, [], hW', trodAll_mk1 (shut_bool Try.underlying4 _), (trodAll_cons_mk (Below.trod laidOut (by kernel_rfl) (of_decide_eq_true (by kernel_rfl)) k0 bel lt0) (trodAll_cons_mk (Below.trod laidOut (by kernel_rfl) (of_decide_eq_true (by kernel_rfl)) k1 bel lt1) (trodAll_cons_mk (shut_int Try.underlying2 w2) (trodAll_cons_mk (shut_int Try.underlying2 w3) (trodAll_cons_mk (shut_int Try.underlying3 w4) trodAll_mk0))))), rfl, bel.frame _, fun h => by cases h⟩
theorem over : Rows.modeTurnsRow.holds Try.pinned (OpenSpec.ofChange Rows.modeTurnsSpec) :=
  OpenClaim.holds_of_wide 3 Try.f3 rfl rfl rfl rfl rfl rfl rfl ⟨rfl, rfl, rfl, rfl, rfl⟩ rfl rfl rfl rfl rfl (by kernel_rfl) Try.func3 (by kernel_rfl)
    (of_decide_eq_true (by kernel_rfl)) (by unfold Func.isWrapper; first | (rw [if_pos (by decide +kernel)]; kernel_rfl) | (rw [if_neg (by decide +kernel)]; exact ⟨rfl, rfl⟩))
    (fun os started H enc _ => lifted os started H enc)
theorem proved : Rows.ModeTurnsSaid := over
#print axioms proved
end Go.Proofs.Ytgackgdoikfmdaa.modeTurns
namespace Go.Proofs.Ytgackgdoikfmdaa
/-- The row, under a short name, for the claim. -/
theorem modeTurns_holds : Rows.ModeTurnsSaid := modeTurns.proved
end Go.Proofs.Ytgackgdoikfmdaa
