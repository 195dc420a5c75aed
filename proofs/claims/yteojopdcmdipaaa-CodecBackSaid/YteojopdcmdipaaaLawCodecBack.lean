/- What this text proves: the statement CodecBackSaid: the law answers true for every input, and each argument reads as it did; conditions: none beyond the statement's own. -/
import Derived.Test.YteojopdcmdipaaaRows
import Derived.Test.YteojopdcmdipaaaQCodecBackx9
import Derived.Test.YteojopdcmdipaaaPureCodecBack
import Derived.Test.YteojopdcmdipaaaRowAid
import Derived.WalkKit
import Derived.ProofKit
import Derived.OpenShut
import Derived.ShutString
import Derived.ChangeOld
import Derived.Below
import Derived.Carry
import Derived.SizedLaws
namespace Go.Proofs.Yteojopdcmdipaaa.codecBack
open Go.ChangeShapes Go.WideShapes Go.ChangeAt Go.RowKit Go.Proofs.YteojopdcmdipaaaW.PrintWords
set_option linter.unusedVariables false
theorem own : ownKnob Try.prog.godebug = none := by kernel_rfl
theorem laidOut : laidOutB Try.prog = true := by kernel_rfl
set_option maxHeartbeats 1000000 in
set_option maxRecDepth 100000 in
theorem lifted (os : Os) (started : os.Started) (H : Type) (enc : TypeId × Value → H) :
    ReturnsInHanded {} Try.checked os 7 .any (Rows.codecBackSpec.pre6 enc Try.prog Try.f7 Rows.codecBackRow.domain false) (Rows.codecBackSpec.post enc Try.prog Try.f7 false true false false) := by
  refine returnsInHanded_of_change_sized (C := Try.checked) own started (by kernel_rfl) Try.func7
    (ChangeSpec.witness6 (enc := enc) (C := Try.checked) false ⟨#[], #[.agg #[.int .i64 0, .int .i64 0, .int .i64 0], .agg #[.int .i64 0, .slice none 0 0, .bool false, .int .i64 0], .slice none 0 0], []⟩ 8 (by kernel_rfl) (by kernel_rfl) (by kernel_rfl) (by kernel_rfl)) ?_
  intro W base args ds gs before hval0 hW hcnd hsz0 _
  have hval : ∀ (j : Nat) t v, Try.f7.params[j]? = some t → args[j]? = some v → Value.okWide Try.prog W .any base t v := hval0
  have hW' := hW
  obtain ⟨p, q, hA0, hV, rfl, hfz, hnd⟩ := hW
  have hA : DataW.TrodAll enc Try.prog W 0 (fun _ => true) true Try.f7.params.toList args.toList ds p := hA0
  rw [Try.params7] at hA hval
  obtain ⟨v0, vs0, d0, ds0, p0, q0, hargs, rfl, rfl, h0, r0⟩ := trodAll_cons hA
  obtain ⟨v1, vs1, d1, ds1, p1, q1, rfl, rfl, rfl, h1, r1⟩ := trodAll_cons r0
  obtain ⟨v2, vs2, d2, ds2, p2, q2, rfl, rfl, rfl, h2, r2⟩ := trodAll_cons r1
  obtain ⟨rfl, rfl, rfl⟩ := trodAll_nil r2
  obtain rfl : args = #[v0, v1, v2] := by cases args; simp_all
  obtain ⟨rfl, rfl⟩ := trodVars_none hV
  have k0 := h0
  obtain ⟨⟨a0_0, a0_1, a0_2⟩, cs0, rfl, K0, O0⟩ := RowAid.param_struct Try.underlying23 (RowAid.opens_struct (d := (Kd.pair (Kd.int .i64) (Kd.pair (Kd.int .i64) (Kd.int .i64)))) Try.underlying23 (by rfl) (by kernel_rfl) (RowAid.seg_cons (RowAid.opens_int Try.underlying3) (by kernel_rfl) (RowAid.seg_cons (RowAid.opens_int Try.underlying3) (by kernel_rfl) (RowAid.seg_one _ (RowAid.opens_int Try.underlying3) (by kernel_rfl))))) (hval 0 23 v0 rfl rfl) h0
  have lt0 : ∀ x ∈ p0, x.block < W.heap.size := by obtain ⟨m, hm⟩ := k0; exact DataW.trod_lt m _ _ _ hm
  obtain ⟨_, _, rfl, rfl, ⟨_, _, rfl, rfl, rfl⟩⟩ := K0
  obtain ⟨w0_0, w0_1, w0_2⟩ := O0
  have k1 := h1
  obtain ⟨⟨a1_0, l1_1, a1_2, a1_3⟩, cs1, rfl, K1, O1⟩ := RowAid.param_struct Try.underlying35 (RowAid.opens_struct (d := (Kd.pair (Kd.int .i64) (Kd.pair (Kd.slice 3 (Kd.int .i64)) (Kd.pair Kd.bool (Kd.int .i64))))) Try.underlying35 (by rfl) (by kernel_rfl) (RowAid.seg_cons (RowAid.opens_int Try.underlying3) (by kernel_rfl) (RowAid.seg_cons (RowAid.opens_slice Try.underlying33 (by kernel_rfl) (RowAid.opens_int Try.underlying3)) (by kernel_rfl) (RowAid.seg_cons (RowAid.opens_bool Try.underlying4) (by kernel_rfl) (RowAid.seg_one _ (RowAid.opens_int Try.underlying3) (by kernel_rfl)))))) (hval 1 35 v1 rfl rfl) h1
  have lt1 : ∀ x ∈ p1, x.block < W.heap.size := by obtain ⟨m, hm⟩ := k1; exact DataW.trod_lt m _ _ _ hm
  obtain ⟨_, _, rfl, rfl, ⟨_, _, rfl, ⟨A1_1, c1_1, rfl, hl1_1, hC1_1⟩, ⟨_, _, rfl, rfl, rfl⟩⟩⟩ := K1
  obtain ⟨w1_0, ⟨m1_1, w1_1⟩, _, w1_3⟩ := O1
  obtain ⟨b2, len2, cap2, rfl⟩ := okWide_slice Try.underlying25 (hval 2 25 v2 rfl rfl)
  have k2 := h2
  obtain ⟨l2, K2, O2⟩ := RowAid.param_one (d := (Kd.slice 5 (Kd.int .u8))) (RowAid.opens_slice Try.underlying25 (by kernel_rfl) (RowAid.opens_int Try.underlying5)) rfl h2
  have lt2 : ∀ x ∈ p2, x.block < W.heap.size := by obtain ⟨m, hm⟩ := k2; exact DataW.trod_lt m _ _ _ hm
  obtain ⟨A2, c2, e2, hl2, hC2⟩ := K2
  obtain ⟨m2, w2⟩ := O2
  simp only [List.cons.injEq, Value.slice.injEq, and_true] at e2
  obtain ⟨rfl, rfl, rfl⟩ := e2
  obtain ⟨k, hk⟩ := Pure.CodecBack a0_0 a0_1 a0_2 a1_0 l1_1 a1_2 a1_3 l2 w0_0 w0_1 w0_2 w1_0 m1_1 w1_1 w1_3 m2 w2
  refine (QCodecBack.ferrymanlaw05_CodecBack.calls k a0_0 a0_1 a0_2 a1_0 A1_1 c1_1 l1_1 a1_2 a1_3 b2 cap2 l2 true W hC1_1 hl1_1 hC2 hl2 hk).mono fun e W' ⟨he, bel⟩ => ?_
  subst he
  exact ⟨_, rfl, _, _, _, [], _, [], hW', trodAll_mk1 (shut_bool Try.underlying4 _), (trodAll_cons_mk (Below.trod laidOut (by kernel_rfl) (of_decide_eq_true (by kernel_rfl)) k0 bel lt0) (trodAll_cons_mk (Below.trod laidOut (by kernel_rfl) (of_decide_eq_true (by kernel_rfl)) k1 bel lt1) (trodAll_cons_mk (Below.trod laidOut (by kernel_rfl) (of_decide_eq_true (by kernel_rfl)) k2 bel lt2) trodAll_mk0))), rfl, bel.frame _, fun h => by cases h⟩
theorem over : Rows.codecBackRow.holds Try.pinned (OpenSpec.ofChange Rows.codecBackSpec) :=
  OpenClaim.holds_of_wide 7 Try.f7 rfl rfl rfl rfl rfl rfl rfl ⟨rfl, rfl, rfl, rfl, rfl⟩ rfl rfl rfl rfl rfl (by kernel_rfl) Try.func7 (by kernel_rfl)
    (of_decide_eq_true (by kernel_rfl)) (by unfold Func.isWrapper; first | (rw [if_pos (by decide +kernel)]; kernel_rfl) | (rw [if_neg (by decide +kernel)]; exact ⟨rfl, rfl⟩))
    (fun os started H enc _ => lifted os started H enc)
theorem proved : Rows.CodecBackSaid := over
#print axioms proved
end Go.Proofs.Yteojopdcmdipaaa.codecBack
namespace Go.Proofs.Yteojopdcmdipaaa
/-- The row, under a short name, for the claim. -/
theorem codecBack_holds : Rows.CodecBackSaid := codecBack.proved
end Go.Proofs.Yteojopdcmdipaaa
