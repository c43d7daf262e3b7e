/- The law CallOps: for every input the call returns true, and each argument reads as it did before. No condition. -/
import Derived.Test.YtbochokpfbimaaaRows
import Derived.Test.YtbochokpfbimaaaOpsW
import Derived.Test.YtbochokpfbimaaaFlat
import Derived.WalkKit
import Derived.ProofKit
import Derived.OpenShut
import Derived.ShutString
import Derived.ChangeOld
import Derived.Below
import Derived.SizedLaws
namespace Go.Proofs.Ytbochokpfbimaaa.callOps
open Go.ChangeShapes Go.WideShapes Go.ChangeAt Go.RowKit
open Go.Proofs.YtbochokpfbimaaaFlat
open Go.ChangeMaps (open_string shut_string)
set_option linter.unusedVariables false
theorem own : ownKnob Try.prog.godebug = none := by kernel_rfl
theorem laidOut : laidOutB Try.prog = true := by kernel_rfl
theorem scal36_0 : scal Try.prog 4 36 = some [some .u8, some .i64, some .i64, some .i64] := by kernel_rfl
theorem scal38_1 : scal Try.prog 4 38 = some [some .u8, some .u64, some .i64, some .i64, some .i64] := by kernel_rfl
theorem scal5_2 : scal Try.prog 4 5 = some [some .u8] := by kernel_rfl
theorem cellsOf5_2 : Try.prog.cellsOf 5 = 1 := by kernel_rfl
set_option maxRecDepth 100000 in
theorem lifted (os : Os) (started : os.Started) (H : Type) (enc : TypeId × Value → H) :
    ReturnsInHanded {} Try.checked os 5 .any (Rows.callOpsSpec.pre6 enc Try.prog Try.f5 Rows.callOpsRow.domain false) (Rows.callOpsSpec.post enc Try.prog Try.f5 false true false false) := by
  refine returnsInHanded_of_change_sized (C := Try.checked) own started (by kernel_rfl) Try.func5
    (ChangeSpec.witness6 (enc := enc) (C := Try.checked) false ⟨#[], #[.agg #[.int .u8 0, .int .i64 0, .int .i64 0, .int .i64 0], .agg #[.int .u8 0, .int .u64 0, .int .i64 0, .int .i64 0, .int .i64 0], .slice none 0 0], []⟩ 8 (by kernel_rfl) (by kernel_rfl) (by kernel_rfl) (by kernel_rfl)) ?_
  intro W base args ds gs before hval0 hW hcnd hsz0 _
  have hsz : (DataW.weightsEach Try.prog (Try.f5.params.toList ++ Rows.callOpsSpec.plain.varTypes Try.prog) (ds ++ gs)).all (· ≤ reachBytes) = true := hsz0
  have hval : ∀ (j : Nat) t v, Try.f5.params[j]? = some t → args[j]? = some v → Value.okWide Try.prog W .any base t v := hval0
  have hW' := hW
  obtain ⟨p, q, hA0, hV, rfl, hfz, hnd⟩ := hW
  have hA : DataW.TrodAll enc Try.prog W 0 (fun _ => true) true Try.f5.params.toList args.toList ds p := hA0
  rw [Try.params5] at hA hval hsz
  obtain ⟨v0, vs0, d0, ds0, p0, q0, hargs, rfl, rfl, h0, r0⟩ := trodAll_cons hA
  obtain ⟨v1, vs1, d1, ds1, p1, q1, rfl, rfl, rfl, h1, r1⟩ := trodAll_cons r0
  obtain ⟨v2, vs2, d2, ds2, p2, q2, rfl, rfl, rfl, h2, r2⟩ := trodAll_cons r1
  obtain ⟨rfl, rfl, rfl⟩ := trodAll_nil r2
  obtain rfl : args = #[v0, v1, v2] := by cases args; simp_all
  obtain ⟨rfl, rfl⟩ := trodVars_none hV
  have k0 := h0
  have lt0 : ∀ x ∈ p0, x.block < W.heap.size := by obtain ⟨m, hm⟩ := k0; exact DataW.trod_lt m _ _ _ hm
  obtain ⟨cs0, rfl, hs0⟩ := okWide_struct Try.underlying36 (hval 0 36 v0 rfl rfl)
  have f0 := open_flat scal36_0 h0
  obtain ⟨l0, hl0⟩ : ∃ l, cs0.toList = l := ⟨_, rfl⟩
  replace f0 : Scs [some .u8, some .i64, some .i64, some .i64] cs0.toList := f0
  rw [hl0] at f0
  obtain _ | ⟨⟨a0_0, rfl, w0_0⟩, f0⟩ := f0
  obtain _ | ⟨⟨a0_1, rfl, w0_1⟩, f0⟩ := f0
  obtain _ | ⟨⟨a0_2, rfl, w0_2⟩, f0⟩ := f0
  obtain _ | ⟨⟨a0_3, rfl, w0_3⟩, f0⟩ := f0
  cases f0
  obtain rfl : cs0 = #[.int .u8 a0_0, .int .i64 a0_1, .int .i64 a0_2, .int .i64 a0_3] := Array.toList_inj.1 hl0
  have k1 := h1
  have lt1 : ∀ x ∈ p1, x.block < W.heap.size := by obtain ⟨m, hm⟩ := k1; exact DataW.trod_lt m _ _ _ hm
  obtain ⟨cs1, rfl, hs1⟩ := okWide_struct Try.underlying38 (hval 1 38 v1 rfl rfl)
  have f1 := open_flat scal38_1 h1
  obtain ⟨l1, hl1⟩ : ∃ l, cs1.toList = l := ⟨_, rfl⟩
  replace f1 : Scs [some .u8, some .u64, some .i64, some .i64, some .i64] cs1.toList := f1
  rw [hl1] at f1
  obtain _ | ⟨⟨a1_0, rfl, w1_0⟩, f1⟩ := f1
  obtain _ | ⟨⟨a1_1, rfl, w1_1⟩, f1⟩ := f1
  obtain _ | ⟨⟨a1_2, rfl, w1_2⟩, f1⟩ := f1
  obtain _ | ⟨⟨a1_3, rfl, w1_3⟩, f1⟩ := f1
  obtain _ | ⟨⟨a1_4, rfl, w1_4⟩, f1⟩ := f1
  cases f1
  obtain rfl : cs1 = #[.int .u8 a1_0, .int .u64 a1_1, .int .i64 a1_2, .int .i64 a1_3, .int .i64 a1_4] := Array.toList_inj.1 hl1
  obtain ⟨a2, len2, cap2, rfl⟩ := okWide_slice Try.underlying25 (hval 2 25 v2 rfl rfl)
  have k2 := h2
  have lt2 : ∀ x ∈ p2, x.block < W.heap.size := by obtain ⟨m, hm⟩ := k2; exact DataW.trod_lt m _ _ _ hm
  have f2 := open_flats Try.underlying25 scal5_2 cellsOf5_2 h2
  have y2 : len2 * 1 ≤ 140737488351232 := sized_len hsz (j := 2) rfl rfl Try.underlying25 (by kernel_rfl) h2
  clear hA0 hval0 hsz0 hsz
  refine (Go.Proofs.Ytbochokpfbimaaa.PCallOps.ops_row a0_0 a0_1 a0_2 a0_3 a1_0 a1_1 a1_2 a1_3 a1_4 a2 len2 cap2 W w0_0 w0_1 w0_2 w0_3 w1_0 w1_1 w1_2 w1_3 w1_4 f2 y2).mono fun e W' ⟨he, bel⟩ => ?_
  subst he
  exact ⟨_, rfl, _, _, _, [], _, [], hW', trodAll_mk1 (shut_bool Try.underlying4 _), (trodAll_cons_mk (Below.trod laidOut (by kernel_rfl) (of_decide_eq_true (by kernel_rfl)) k0 bel lt0) (trodAll_cons_mk (Below.trod laidOut (by kernel_rfl) (of_decide_eq_true (by kernel_rfl)) k1 bel lt1) (trodAll_cons_mk (Below.trod laidOut (by kernel_rfl) (of_decide_eq_true (by kernel_rfl)) k2 bel lt2) trodAll_mk0))), rfl, bel.frame _, fun h => by cases h⟩
theorem over : Rows.callOpsRow.holds Try.pinned (OpenSpec.ofChange Rows.callOpsSpec) :=
  OpenClaim.holds_of_wide 5 Try.f5 rfl rfl rfl rfl rfl rfl rfl ⟨rfl, rfl, rfl, rfl, rfl⟩ rfl rfl rfl rfl rfl (by kernel_rfl) Try.func5 (by kernel_rfl)
    (of_decide_eq_true (by kernel_rfl)) (by unfold Func.isWrapper; first | (rw [if_pos (by decide +kernel)]; kernel_rfl) | (rw [if_neg (by decide +kernel)]; exact ⟨rfl, rfl⟩))
    (fun os started H enc _ => lifted os started H enc)
theorem proved : Rows.CallOpsSaid := over
#print axioms proved
end Go.Proofs.Ytbochokpfbimaaa.callOps
namespace Go.Proofs.Ytbochokpfbimaaa
/-- The row, under a short name, for the claim. -/
theorem callOps_holds : Rows.CallOpsSaid := callOps.proved
end Go.Proofs.Ytbochokpfbimaaa
