/- The law ModeDwells: for every input the call returns true, and each argument reads as it did before. No condition. -/
import Derived.Test.YtgackgdoikfmdaaRows
import Derived.Test.YtgackgdoikfmdaaDwells
import Derived.Test.YtgackgdoikfmdaaFlat
import Derived.WalkKit
import Derived.ProofKit
import Derived.OpenShut
import Derived.ShutString
import Derived.ChangeOld
import Derived.Below
import Derived.SizedLaws
namespace Go.Proofs.Ytgackgdoikfmdaa.modeDwells
open Go.ChangeShapes Go.WideShapes Go.ChangeAt Go.RowKit
open Go.Proofs.YtgackgdoikfmdaaFlat
open Go.ChangeMaps (open_string shut_string)
set_option linter.unusedVariables false
theorem own : ownKnob Try.prog.godebug = none := by kernel_rfl
theorem laidOut : laidOutB Try.prog = true := by kernel_rfl
theorem scal26_0 : scal Try.prog 4 26 = some [some .i64, some .i64, some .i64] := by kernel_rfl
theorem scal34_2 : scal Try.prog 4 34 = some [some .i64, some .i64, some .i64] := by kernel_rfl
theorem cellsOf34_2 : Try.prog.cellsOf 34 = 3 := by kernel_rfl
set_option maxRecDepth 100000 in
theorem lifted (os : Os) (started : os.Started) (H : Type) (enc : TypeId × Value → H) :
    ReturnsInHanded {} Try.checked os 4 .any (Rows.modeDwellsSpec.pre6 enc Try.prog Try.f4 Rows.modeDwellsRow.domain false) (Rows.modeDwellsSpec.post enc Try.prog Try.f4 false true false false) := by
  refine returnsInHanded_of_change_sized (C := Try.checked) own started (by kernel_rfl) Try.func4
    (ChangeSpec.witness6 (enc := enc) (C := Try.checked) false ⟨#[], #[.agg #[.int .i64 0, .int .i64 0, .int .i64 0], .int .i64 0, .slice none 0 0], []⟩ 8 (by kernel_rfl) (by kernel_rfl) (by kernel_rfl) (by kernel_rfl)) ?_
  intro W base args ds gs before hval0 hW hcnd hsz0 _
  have hsz : (DataW.weightsEach Try.prog (Try.f4.params.toList ++ Rows.modeDwellsSpec.plain.varTypes Try.prog) (ds ++ gs)).all (· ≤ reachBytes) = true := hsz0
  have hval : ∀ (j : Nat) t v, Try.f4.params[j]? = some t → args[j]? = some v → Value.okWide Try.prog W .any base t v := hval0
  have hW' := hW
  obtain ⟨p, q, hA0, hV, rfl, hfz, hnd⟩ := hW
  have hA : DataW.TrodAll enc Try.prog W 0 (fun _ => true) true Try.f4.params.toList args.toList ds p := hA0
  rw [Try.params4] at hA hval hsz
  obtain ⟨v0, vs0, d0, ds0, p0, q0, hargs, rfl, rfl, h0, r0⟩ := trodAll_cons hA
  obtain ⟨v1, vs1, d1, ds1, p1, q1, rfl, rfl, rfl, h1, r1⟩ := trodAll_cons r0
  obtain ⟨v2, vs2, d2, ds2, p2, q2, rfl, rfl, rfl, h2, r2⟩ := trodAll_cons r1
  obtain ⟨rfl, rfl, rfl⟩ := trodAll_nil r2
  obtain rfl : args = #[v0, v1, v2] := by cases args; simp_all
  obtain ⟨rfl, rfl⟩ := trodVars_none hV
  have k0 := h0
  have lt0 : ∀ x ∈ p0, x.block < W.heap.size := by obtain ⟨m, hm⟩ := k0; exact DataW.trod_lt m _ _ _ hm
  obtain ⟨cs0, rfl, hs0⟩ := okWide_struct Try.underlying26 (hval 0 26 v0 rfl rfl)
  have f0 := open_flat scal26_0 h0
  obtain ⟨l0, hl0⟩ : ∃ l, cs0.toList = l := ⟨_, rfl⟩
  replace f0 : Scs [some .i64, some .i64, some .i64] cs0.toList := f0
  rw [hl0] at f0
  obtain _ | ⟨⟨a0_0, rfl, w0_0⟩, f0⟩ := f0
  obtain _ | ⟨⟨a0_1, rfl, w0_1⟩, f0⟩ := f0
  obtain _ | ⟨⟨a0_2, rfl, w0_2⟩, f0⟩ := f0
  cases f0
  obtain rfl : cs0 = #[.int .i64 a0_0, .int .i64 a0_1, .int .i64 a0_2] := Array.toList_inj.1 hl0
  obtain ⟨a1, rfl, rfl, rfl, w1⟩ := open_int Try.underlying2 (hval 1 2 v1 rfl rfl) h1
  obtain ⟨a2, len2, cap2, rfl⟩ := okWide_slice Try.underlying32 (hval 2 32 v2 rfl rfl)
  have k2 := h2
  have lt2 : ∀ x ∈ p2, x.block < W.heap.size := by obtain ⟨m, hm⟩ := k2; exact DataW.trod_lt m _ _ _ hm
  have f2 := open_flats Try.underlying32 scal34_2 cellsOf34_2 h2
  have y2 : len2 * 24 ≤ 140737488351232 := sized_len hsz (j := 2) rfl rfl Try.underlying32 (by kernel_rfl) h2
  clear hA0 hval0 hsz0 hsz
  refine (Go.Proofs.Ytgackgdoikfmdaa.PModeTurns.dwells_row a0_0 a0_1 a0_2 a1 a2 len2 cap2 W w0_0 w0_1 w0_2 w1 f2 y2).mono fun e W' ⟨he, bel⟩ => ?_
  subst he
  exact ⟨_, rfl, _, _, _, [], _, [], hW', trodAll_mk1 (shut_bool Try.underlying4 _), (trodAll_cons_mk (Below.trod laidOut (by kernel_rfl) (of_decide_eq_true (by kernel_rfl)) k0 bel lt0) (trodAll_cons_mk (shut_int Try.underlying2 w1) (trodAll_cons_mk (Below.trod laidOut (by kernel_rfl) (of_decide_eq_true (by kernel_rfl)) k2 bel lt2) trodAll_mk0))), rfl, bel.frame _, fun h => by cases h⟩
theorem over : Rows.modeDwellsRow.holds Try.pinned (OpenSpec.ofChange Rows.modeDwellsSpec) :=
  OpenClaim.holds_of_wide 4 Try.f4 rfl rfl rfl rfl rfl rfl rfl ⟨rfl, rfl, rfl, rfl, rfl⟩ rfl rfl rfl rfl rfl (by kernel_rfl) Try.func4 (by kernel_rfl)
    (of_decide_eq_true (by kernel_rfl)) (by unfold Func.isWrapper; first | (rw [if_pos (by decide +kernel)]; kernel_rfl) | (rw [if_neg (by decide +kernel)]; exact ⟨rfl, rfl⟩))
    (fun os started H enc _ => lifted os started H enc)
theorem proved : Rows.ModeDwellsSaid := over
#print axioms proved
end Go.Proofs.Ytgackgdoikfmdaa.modeDwells
namespace Go.Proofs.Ytgackgdoikfmdaa
/-- The row, under a short name, for the claim. -/
theorem modeDwells_holds : Rows.ModeDwellsSaid := modeDwells.proved
end Go.Proofs.Ytgackgdoikfmdaa
