/- What this text proves: the statement CodecApartSaid: the law answers true for every input, and each argument reads as it did; conditions: none beyond the statement's own. -/
import Derived.Test.YteojopdcmdipaaaRows
import Derived.Test.YteojopdcmdipaaaQCodecApartx5
import Derived.Test.YteojopdcmdipaaaPureCodecApart
import Derived.Test.YteojopdcmdipaaaRowAid
import Derived.WalkKit
import Derived.ProofKit
import Derived.OpenShut
import Derived.ShutString
import Derived.ChangeOld
import Derived.Below
import Derived.Carry
import Derived.SizedLaws
namespace Go.Proofs.Yteojopdcmdipaaa.codecApart
open Go.ChangeShapes Go.WideShapes Go.ChangeAt Go.RowKit Go.Proofs.YteojopdcmdipaaaW.PrintWords
set_option linter.unusedVariables false
theorem own : ownKnob Try.prog.godebug = none := by kernel_rfl
theorem laidOut : laidOutB Try.prog = true := by kernel_rfl
set_option maxHeartbeats 1000000 in
set_option maxRecDepth 100000 in
theorem lifted (os : Os) (started : os.Started) (H : Type) (enc : TypeId × Value → H) :
    ReturnsInHanded {} Try.checked os 3 .any (Rows.codecApartSpec.pre6 enc Try.prog Try.f3 Rows.codecApartRow.domain false) (Rows.codecApartSpec.post enc Try.prog Try.f3 false true false false) := by
  refine returnsInHanded_of_change_sized (C := Try.checked) own started (by kernel_rfl) Try.func3
    (ChangeSpec.witness6 (enc := enc) (C := Try.checked) false ⟨#[], #[.agg #[.int .i64 0, .int .i64 0, .int .i64 0], .agg #[.int .i64 0, .int .i64 0, .int .i64 0]], []⟩ 8 (by kernel_rfl) (by kernel_rfl) (by kernel_rfl) (by kernel_rfl)) ?_
  intro W base args ds gs before hval0 hW hcnd hsz0 _
  have hval : ∀ (j : Nat) t v, Try.f3.params[j]? = some t → args[j]? = some v → Value.okWide Try.prog W .any base t v := hval0
  have hW' := hW
  obtain ⟨p, q, hA0, hV, rfl, hfz, hnd⟩ := hW
  have hA : DataW.TrodAll enc Try.prog W 0 (fun _ => true) true Try.f3.params.toList args.toList ds p := hA0
  rw [Try.params3] at hA hval
  obtain ⟨v0, vs0, d0, ds0, p0, q0, hargs, rfl, rfl, h0, r0⟩ := trodAll_cons hA
  obtain ⟨v1, vs1, d1, ds1, p1, q1, rfl, rfl, rfl, h1, r1⟩ := trodAll_cons r0
  obtain ⟨rfl, rfl, rfl⟩ := trodAll_nil r1
  obtain rfl : args = #[v0, v1] := by cases args; simp_all
  obtain ⟨rfl, rfl⟩ := trodVars_none hV
  have k0 := h0
  obtain ⟨⟨a0_0, a0_1, a0_2⟩, cs0, rfl, K0, O0⟩ := RowAid.param_struct Try.underlying23 (RowAid.opens_struct (d := (Kd.pair (Kd.int .i64) (Kd.pair (Kd.int .i64) (Kd.int .i64)))) Try.underlying23 (by rfl) (by kernel_rfl) (RowAid.seg_cons (RowAid.opens_int Try.underlying3) (by kernel_rfl) (RowAid.seg_cons (RowAid.opens_int Try.underlying3) (by kernel_rfl) (RowAid.seg_one _ (RowAid.opens_int Try.underlying3) (by kernel_rfl))))) (hval 0 23 v0 rfl rfl) h0
  have lt0 : ∀ x ∈ p0, x.block < W.heap.size := by obtain ⟨m, hm⟩ := k0; exact DataW.trod_lt m _ _ _ hm
  obtain ⟨_, _, rfl, rfl, ⟨_, _, rfl, rfl, rfl⟩⟩ := K0
  obtain ⟨w0_0, w0_1, w0_2⟩ := O0
  have k1 := h1
  obtain ⟨⟨a1_0, a1_1, a1_2⟩, cs1, rfl, K1, O1⟩ := RowAid.param_struct Try.underlying23 (RowAid.opens_struct (d := (Kd.pair (Kd.int .i64) (Kd.pair (Kd.int .i64) (Kd.int .i64)))) Try.underlying23 (by rfl) (by kernel_rfl) (RowAid.seg_cons (RowAid.opens_int Try.underlying3) (by kernel_rfl) (RowAid.seg_cons (RowAid.opens_int Try.underlying3) (by kernel_rfl) (RowAid.seg_one _ (RowAid.opens_int Try.underlying3) (by kernel_rfl))))) (hval 1 23 v1 rfl rfl) h1
  have lt1 : ∀ x ∈ p1, x.block < W.heap.size := by obtain ⟨m, hm⟩ := k1; exact DataW.trod_lt m _ _ _ hm
  obtain ⟨_, _, rfl, rfl, ⟨_, _, rfl, rfl, rfl⟩⟩ := K1
  obtain ⟨w1_0, w1_1, w1_2⟩ := O1
  obtain ⟨k, hk⟩ := Pure.CodecApart a0_0 a0_1 a0_2 a1_0 a1_1 a1_2 w0_0 w0_1 w0_2 w1_0 w1_1 w1_2
  refine (QCodecApart.ferrymanlaw05_CodecApart.calls k a0_0 a0_1 a0_2 a1_0 a1_1 a1_2 true W  hk).mono fun e W' ⟨he, bel⟩ => ?_
  subst he
  exact ⟨_, rfl, _, _, _, [], _, [], hW', trodAll_mk1 (shut_bool Try.underlying4 _), (trodAll_cons_mk (Below.trod laidOut (by kernel_rfl) (of_decide_eq_true (by kernel_rfl)) k0 bel lt0) (trodAll_cons_mk (Below.trod laidOut (by kernel_rfl) (of_decide_eq_true (by kernel_rfl)) k1 bel lt1) trodAll_mk0)), rfl, bel.frame _, fun h => by cases h⟩
theorem over : Rows.codecApartRow.holds Try.pinned (OpenSpec.ofChange Rows.codecApartSpec) :=
  OpenClaim.holds_of_wide 3 Try.f3 rfl rfl rfl rfl rfl rfl rfl ⟨rfl, rfl, rfl, rfl, rfl⟩ rfl rfl rfl rfl rfl (by kernel_rfl) Try.func3 (by kernel_rfl)
    (of_decide_eq_true (by kernel_rfl)) (by unfold Func.isWrapper; first | (rw [if_pos (by decide +kernel)]; kernel_rfl) | (rw [if_neg (by decide +kernel)]; exact ⟨rfl, rfl⟩))
    (fun os started H enc _ => lifted os started H enc)
theorem proved : Rows.CodecApartSaid := over
#print axioms proved
end Go.Proofs.Yteojopdcmdipaaa.codecApart
namespace Go.Proofs.Yteojopdcmdipaaa
/-- The row, under a short name, for the claim. -/
theorem codecApart_holds : Rows.CodecApartSaid := codecApart.proved
end Go.Proofs.Yteojopdcmdipaaa
