/- What this text proves: the statement TopFormsSaid: the law answers true for every input, and each argument reads as it did; conditions: none beyond the statement's own. -/
import Derived.Test.YtgljebaiakhbfaaGreatRows
import Derived.Test.YtgljebaiakhbfaaGreatAwForms
import Derived.Test.YtgljebaiakhbfaaGreatPureTopForms
import Derived.Test.YtgljebaiakhbfaaGreatRowAid
import Derived.WalkKit
import Derived.ProofKit
import Derived.OpenShut
import Derived.ShutString
import Derived.ChangeOld
import Derived.Below
import Derived.Carry
import Derived.SizedLaws
namespace Go.Proofs.YtgljebaiakhbfaaGreat.topForms
open Go.ChangeShapes Go.WideShapes Go.ChangeAt Go.RowKit Go.Proofs.YtgljebaiakhbfaaGreatW.PrintWords
set_option linter.unusedVariables false
theorem own : ownKnob Tryz.prog.godebug = none := by kernel_rfl
theorem laidOut : laidOutB Tryz.prog = true := by kernel_rfl
set_option maxHeartbeats 1000000 in
set_option maxRecDepth 100000 in
theorem lifted (os : Os) (started : os.Started) (H : Type) (enc : TypeId × Value → H) :
    ReturnsInHanded {} Tryz.checked os 4 .any (Rows.topFormsSpec.pre6 enc Tryz.prog Tryz.f4 Rows.topFormsRow.domain false) (Rows.topFormsSpec.post enc Tryz.prog Tryz.f4 false true false false) := by
  refine returnsInHanded_of_change_sized (C := Tryz.checked) own started (by kernel_rfl) Tryz.func4
    (ChangeSpec.witness6 (enc := enc) (C := Tryz.checked) false ⟨#[], #[.agg #[.int .i64 0, .slice none 0 0, .bool false, .int .i64 0], .agg #[.int .i64 0, .slice none 0 0, .bool false, .int .i64 0], .agg #[.int .i64 0, .int .i64 0, .int .i64 0], .agg #[.int .i64 0, .int .i64 0, .int .i64 0]], []⟩ 8 (by kernel_rfl) (by kernel_rfl) (by kernel_rfl) (by kernel_rfl)) ?_
  intro W base args ds gs before hval0 hW hcnd hsz0 _
  have hval : ∀ (j : Nat) t v, Tryz.f4.params[j]? = some t → args[j]? = some v → Value.okWide Tryz.prog W .any base t v := hval0
  have hW' := hW
  obtain ⟨p, q, hA0, hV, rfl, hfz, hnd⟩ := hW
  have hA : DataW.TrodAll enc Tryz.prog W 0 (fun _ => true) true Tryz.f4.params.toList args.toList ds p := hA0
  rw [Tryz.params4] at hA hval
  obtain ⟨v0, vs0, d0, ds0, p0, q0, hargs, rfl, rfl, h0, r0⟩ := trodAll_cons hA
  obtain ⟨v1, vs1, d1, ds1, p1, q1, rfl, rfl, rfl, h1, r1⟩ := trodAll_cons r0
  obtain ⟨v2, vs2, d2, ds2, p2, q2, rfl, rfl, rfl, h2, r2⟩ := trodAll_cons r1
  obtain ⟨v3, vs3, d3, ds3, p3, q3, rfl, rfl, rfl, h3, r3⟩ := trodAll_cons r2
  obtain ⟨rfl, rfl, rfl⟩ := trodAll_nil r3
  obtain rfl : args = #[v0, v1, v2, v3] := by cases args; simp_all
  obtain ⟨rfl, rfl⟩ := trodVars_none hV
  have k0 := h0
  obtain ⟨⟨a0_0, l0_1, a0_2, a0_3⟩, cs0, rfl, K0, O0⟩ := RowAid.param_struct Tryz.underlying36 (RowAid.opens_struct (d := (Kd.pair (Kd.int .i64) (Kd.pair (Kd.slice 3 (Kd.int .i64)) (Kd.pair Kd.bool (Kd.int .i64))))) Tryz.underlying36 (by rfl) (by kernel_rfl) (RowAid.seg_cons (RowAid.opens_int Tryz.underlying3) (by kernel_rfl) (RowAid.seg_cons (RowAid.opens_slice Tryz.underlying34 (by kernel_rfl) (RowAid.opens_int Tryz.underlying3)) (by kernel_rfl) (RowAid.seg_cons (RowAid.opens_bool Tryz.underlying4) (by kernel_rfl) (RowAid.seg_one _ (RowAid.opens_int Tryz.underlying3) (by kernel_rfl)))))) (hval 0 36 v0 rfl rfl) h0
  have lt0 : ∀ x ∈ p0, x.block < W.heap.size := by obtain ⟨m, hm⟩ := k0; exact DataW.trod_lt m _ _ _ hm
  obtain ⟨_, _, rfl, rfl, ⟨_, _, rfl, ⟨A0_1, c0_1, rfl, hl0_1, hC0_1⟩, ⟨_, _, rfl, rfl, rfl⟩⟩⟩ := K0
  obtain ⟨w0_0, ⟨m0_1, w0_1⟩, _, w0_3⟩ := O0
  have k1 := h1
  obtain ⟨⟨a1_0, l1_1, a1_2, a1_3⟩, cs1, rfl, K1, O1⟩ := RowAid.param_struct Tryz.underlying36 (RowAid.opens_struct (d := (Kd.pair (Kd.int .i64) (Kd.pair (Kd.slice 3 (Kd.int .i64)) (Kd.pair Kd.bool (Kd.int .i64))))) Tryz.underlying36 (by rfl) (by kernel_rfl) (RowAid.seg_cons (RowAid.opens_int Tryz.underlying3) (by kernel_rfl) (RowAid.seg_cons (RowAid.opens_slice Tryz.underlying34 (by kernel_rfl) (RowAid.opens_int Tryz.underlying3)) (by kernel_rfl) (RowAid.seg_cons (RowAid.opens_bool Tryz.underlying4) (by kernel_rfl) (RowAid.seg_one _ (RowAid.opens_int Tryz.underlying3) (by kernel_rfl)))))) (hval 1 36 v1 rfl rfl) h1
  have lt1 : ∀ x ∈ p1, x.block < W.heap.size := by obtain ⟨m, hm⟩ := k1; exact DataW.trod_lt m _ _ _ hm
  obtain ⟨_, _, rfl, rfl, ⟨_, _, rfl, ⟨A1_1, c1_1, rfl, hl1_1, hC1_1⟩, ⟨_, _, rfl, rfl, rfl⟩⟩⟩ := K1
  obtain ⟨w1_0, ⟨m1_1, w1_1⟩, _, w1_3⟩ := O1
  have k2 := h2
  obtain ⟨⟨a2_0, a2_1, a2_2⟩, cs2, rfl, K2, O2⟩ := RowAid.param_struct Tryz.underlying38 (RowAid.opens_struct (d := (Kd.pair (Kd.int .i64) (Kd.pair (Kd.int .i64) (Kd.int .i64)))) Tryz.underlying38 (by rfl) (by kernel_rfl) (RowAid.seg_cons (RowAid.opens_int Tryz.underlying3) (by kernel_rfl) (RowAid.seg_cons (RowAid.opens_int Tryz.underlying3) (by kernel_rfl) (RowAid.seg_one _ (RowAid.opens_int Tryz.underlying3) (by kernel_rfl))))) (hval 2 38 v2 rfl rfl) h2
  have lt2 : ∀ x ∈ p2, x.block < W.heap.size := by obtain ⟨m, hm⟩ := k2; exact DataW.trod_lt m _ _ _ hm
  obtain ⟨_, _, rfl, rfl, ⟨_, _, rfl, rfl, rfl⟩⟩ := K2
  obtain ⟨w2_0, w2_1, w2_2⟩ := O2
  have k3 := h3
  obtain ⟨⟨a3_0, a3_1, a3_2⟩, cs3, rfl, K3, O3⟩ := RowAid.param_struct Tryz.underlying38 (RowAid.opens_struct (d := (Kd.pair (Kd.int .i64) (Kd.pair (Kd.int .i64) (Kd.int .i64)))) Tryz.underlying38 (by rfl) (by kernel_rfl) (RowAid.seg_cons (RowAid.opens_int Tryz.underlying3) (by kernel_rfl) (RowAid.seg_cons (RowAid.opens_int Tryz.underlying3) (by kernel_rfl) (RowAid.seg_one _ (RowAid.opens_int Tryz.underlying3) (by kernel_rfl))))) (hval 3 38 v3 rfl rfl) h3
  have lt3 : ∀ x ∈ p3, x.block < W.heap.size := by obtain ⟨m, hm⟩ := k3; exact DataW.trod_lt m _ _ _ hm
  obtain ⟨_, _, rfl, rfl, ⟨_, _, rfl, rfl, rfl⟩⟩ := K3
  obtain ⟨w3_0, w3_1, w3_2⟩ := O3
  obtain ⟨k, hk⟩ := Pure.TopForms a0_0 l0_1 a0_2 a0_3 a1_0 l1_1 a1_2 a1_3 a2_0 a2_1 a2_2 a3_0 a3_1 a3_2 w0_0 m0_1 w0_1 w0_3 w1_0 m1_1 w1_1 w1_3 w2_0 w2_1 w2_2 w3_0 w3_1 w3_2
  refine (QTopForms.ferrymantop_TopForms.calls k a0_0 A0_1 c0_1 l0_1 a0_2 a0_3 a1_0 A1_1 c1_1 l1_1 a1_2 a1_3 a2_0 a2_1 a2_2 a3_0 a3_1 a3_2 true W hC0_1 hl0_1 hC1_1 hl1_1 hk).mono fun e W' ⟨he, bel⟩ => ?_
  subst he
  exact ⟨_, rfl, _, _, _, [], _, [], hW', trodAll_mk1 (shut_bool Tryz.underlying4 _), (trodAll_cons_mk (Below.trod laidOut (by kernel_rfl) (of_decide_eq_true (by kernel_rfl)) k0 bel lt0) (trodAll_cons_mk (Below.trod laidOut (by kernel_rfl) (of_decide_eq_true (by kernel_rfl)) k1 bel lt1) (trodAll_cons_mk (Below.trod laidOut (by kernel_rfl) (of_decide_eq_true (by kernel_rfl)) k2 bel lt2) (trodAll_cons_mk (Below.trod laidOut (by kernel_rfl) (of_decide_eq_true (by kernel_rfl)) k3 bel lt3) trodAll_mk0)))), rfl, bel.frame _, fun h => by cases h⟩
theorem over : Rows.topFormsRow.holds Tryz.pinned (OpenSpec.ofChange Rows.topFormsSpec) :=
  OpenClaim.holds_of_wide 4 Tryz.f4 rfl rfl rfl rfl rfl rfl rfl ⟨rfl, rfl, rfl, rfl, rfl⟩ rfl rfl rfl rfl rfl (by kernel_rfl) Tryz.func4 (by kernel_rfl)
    (of_decide_eq_true (by kernel_rfl)) (by unfold Func.isWrapper; first | (rw [if_pos (by decide +kernel)]; kernel_rfl) | (rw [if_neg (by decide +kernel)]; exact ⟨rfl, rfl⟩))
    (fun os started H enc _ => lifted os started H enc)
theorem proved : Rows.TopFormsSaid := over
#print axioms proved
end Go.Proofs.YtgljebaiakhbfaaGreat.topForms
namespace Go.Proofs.YtgljebaiakhbfaaGreat
/-- The row, under a short name, for the claim. -/
theorem topForms_holds : Rows.TopFormsSaid := topForms.proved
end Go.Proofs.YtgljebaiakhbfaaGreat
