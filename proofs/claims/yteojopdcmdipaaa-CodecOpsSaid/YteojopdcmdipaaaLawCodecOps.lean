/- What this text proves: the statement CodecOpsSaid: the law answers true for every input, and each argument reads as it did; conditions: none beyond the statement's own. -/
import Derived.Test.YteojopdcmdipaaaRows
import Derived.Test.YteojopdcmdipaaaQCodecOpsx8
import Derived.Test.YteojopdcmdipaaaPureCodecOps
import Derived.Test.YteojopdcmdipaaaRowAid
import Derived.WalkKit
import Derived.ProofKit
import Derived.OpenShut
import Derived.ShutString
import Derived.ChangeOld
import Derived.Below
import Derived.Carry
import Derived.SizedLaws
namespace Go.Proofs.Yteojopdcmdipaaa.codecOps
open Go.ChangeShapes Go.WideShapes Go.ChangeAt Go.RowKit Go.Proofs.YteojopdcmdipaaaW.PrintWords
set_option linter.unusedVariables false
theorem own : ownKnob Try.prog.godebug = none := by kernel_rfl
theorem laidOut : laidOutB Try.prog = true := by kernel_rfl
set_option maxHeartbeats 1000000 in
set_option maxRecDepth 100000 in
theorem lifted (os : Os) (started : os.Started) (H : Type) (enc : TypeId × Value → H) :
    ReturnsInHanded {} Try.checked os 4 .any (Rows.codecOpsSpec.pre6 enc Try.prog Try.f4 Rows.codecOpsRow.domain false) (Rows.codecOpsSpec.post enc Try.prog Try.f4 false true false false) := by
  refine returnsInHanded_of_change_sized (C := Try.checked) own started (by kernel_rfl) Try.func4
    (ChangeSpec.witness6 (enc := enc) (C := Try.checked) false ⟨#[], #[.slice none 0 0, .agg #[.int .i64 0, .int .i64 0, .int .i64 0]], []⟩ 8 (by kernel_rfl) (by kernel_rfl) (by kernel_rfl) (by kernel_rfl)) ?_
  intro W base args ds gs before hval0 hW hcnd hsz0 _
  have hval : ∀ (j : Nat) t v, Try.f4.params[j]? = some t → args[j]? = some v → Value.okWide Try.prog W .any base t v := hval0
  have hW' := hW
  obtain ⟨p, q, hA0, hV, rfl, hfz, hnd⟩ := hW
  have hA : DataW.TrodAll enc Try.prog W 0 (fun _ => true) true Try.f4.params.toList args.toList ds p := hA0
  rw [Try.params4] at hA hval
  obtain ⟨v0, vs0, d0, ds0, p0, q0, hargs, rfl, rfl, h0, r0⟩ := trodAll_cons hA
  obtain ⟨v1, vs1, d1, ds1, p1, q1, rfl, rfl, rfl, h1, r1⟩ := trodAll_cons r0
  obtain ⟨rfl, rfl, rfl⟩ := trodAll_nil r1
  obtain rfl : args = #[v0, v1] := by cases args; simp_all
  obtain ⟨rfl, rfl⟩ := trodVars_none hV
  obtain ⟨b0, len0, cap0, rfl⟩ := okWide_slice Try.underlying25 (hval 0 25 v0 rfl rfl)
  have k0 := h0
  obtain ⟨l0, K0, O0⟩ := RowAid.param_one (d := (Kd.slice 5 (Kd.int .u8))) (RowAid.opens_slice Try.underlying25 (by kernel_rfl) (RowAid.opens_int Try.underlying5)) rfl h0
  have lt0 : ∀ x ∈ p0, x.block < W.heap.size := by obtain ⟨m, hm⟩ := k0; exact DataW.trod_lt m _ _ _ hm
  obtain ⟨A0, c0, e0, hl0, hC0⟩ := K0
  obtain ⟨m0, w0⟩ := O0
  simp only [List.cons.injEq, Value.slice.injEq, and_true] at e0
  obtain ⟨rfl, rfl, rfl⟩ := e0
  have k1 := h1
  obtain ⟨⟨a1_0, a1_1, a1_2⟩, cs1, rfl, K1, O1⟩ := RowAid.param_struct Try.underlying23 (RowAid.opens_struct (d := (Kd.pair (Kd.int .i64) (Kd.pair (Kd.int .i64) (Kd.int .i64)))) Try.underlying23 (by rfl) (by kernel_rfl) (RowAid.seg_cons (RowAid.opens_int Try.underlying3) (by kernel_rfl) (RowAid.seg_cons (RowAid.opens_int Try.underlying3) (by kernel_rfl) (RowAid.seg_one _ (RowAid.opens_int Try.underlying3) (by kernel_rfl))))) (hval 1 23 v1 rfl rfl) h1
  have lt1 : ∀ x ∈ p1, x.block < W.heap.size := by obtain ⟨m, hm⟩ := k1; exact DataW.trod_lt m _ _ _ hm
  obtain ⟨_, _, rfl, rfl, ⟨_, _, rfl, rfl, rfl⟩⟩ := K1
  obtain ⟨w1_0, w1_1, w1_2⟩ := O1
  obtain ⟨k, hk⟩ := Pure.CodecOps l0 a1_0 a1_1 a1_2 m0 w0 w1_0 w1_1 w1_2
  refine (QCodecOps.ferrymanlaw05_CodecOps.calls k b0 cap0 l0 a1_0 a1_1 a1_2 true W hC0 hl0 hk).mono fun e W' ⟨he, bel⟩ => ?_
  subst he
  exact ⟨_, rfl, _, _, _, [], _, [], hW', trodAll_mk1 (shut_bool Try.underlying4 _), (trodAll_cons_mk (Below.trod laidOut (by kernel_rfl) (of_decide_eq_true (by kernel_rfl)) k0 bel lt0) (trodAll_cons_mk (Below.trod laidOut (by kernel_rfl) (of_decide_eq_true (by kernel_rfl)) k1 bel lt1) trodAll_mk0)), rfl, bel.frame _, fun h => by cases h⟩
theorem over : Rows.codecOpsRow.holds Try.pinned (OpenSpec.ofChange Rows.codecOpsSpec) :=
  OpenClaim.holds_of_wide 4 Try.f4 rfl rfl rfl rfl rfl rfl rfl ⟨rfl, rfl, rfl, rfl, rfl⟩ rfl rfl rfl rfl rfl (by kernel_rfl) Try.func4 (by kernel_rfl)
    (of_decide_eq_true (by kernel_rfl)) (by unfold Func.isWrapper; first | (rw [if_pos (by decide +kernel)]; kernel_rfl) | (rw [if_neg (by decide +kernel)]; exact ⟨rfl, rfl⟩))
    (fun os started H enc _ => lifted os started H enc)
theorem proved : Rows.CodecOpsSaid := over
#print axioms proved
end Go.Proofs.Yteojopdcmdipaaa.codecOps
namespace Go.Proofs.Yteojopdcmdipaaa
/-- The row, under a short name, for the claim. -/
theorem codecOps_holds : Rows.CodecOpsSaid := codecOps.proved
end Go.Proofs.Yteojopdcmdipaaa
