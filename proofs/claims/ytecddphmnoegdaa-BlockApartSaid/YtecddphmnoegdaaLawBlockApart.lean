/- What this text proves: the statement BlockApartSaid: the law answers true for every input, and each argument reads as it did; conditions: none beyond the statement's own. -/
import Derived.Test.YtecddphmnoegdaaRows
import Derived.Test.YtecddphmnoegdaaQBlockApartx5
import Derived.Test.YtecddphmnoegdaaPureBlockApart
import Derived.Test.YtecddphmnoegdaaRowAid
import Derived.WalkKit
import Derived.ProofKit
import Derived.OpenShut
import Derived.ShutString
import Derived.ChangeOld
import Derived.Below
import Derived.Carry
import Derived.SizedLaws
namespace Go.Proofs.Ytecddphmnoegdaa.blockApart
open Go.ChangeShapes Go.WideShapes Go.ChangeAt Go.RowKit Go.Proofs.YtecddphmnoegdaaW.PrintWords
set_option linter.unusedVariables false
theorem own : ownKnob Try.prog.godebug = none := by kernel_rfl
theorem laidOut : laidOutB Try.prog = true := by kernel_rfl
set_option maxHeartbeats 1000000 in
set_option maxRecDepth 100000 in
theorem lifted (os : Os) (started : os.Started) (H : Type) (enc : TypeId × Value → H) :
    ReturnsInHanded {} Try.checked os 5 .any (Rows.blockApartSpec.pre6 enc Try.prog Try.f5 Rows.blockApartRow.domain false) (Rows.blockApartSpec.post enc Try.prog Try.f5 false true false false) := by
  refine returnsInHanded_of_change_sized (C := Try.checked) own started (by kernel_rfl) Try.func5
    (ChangeSpec.witness6 (enc := enc) (C := Try.checked) false ⟨#[], #[.slice none 0 0, .slice none 0 0], []⟩ 8 (by kernel_rfl) (by kernel_rfl) (by kernel_rfl) (by kernel_rfl)) ?_
  intro W base args ds gs before hval0 hW hcnd hsz0 _
  have hval : ∀ (j : Nat) t v, Try.f5.params[j]? = some t → args[j]? = some v → Value.okWide Try.prog W .any base t v := hval0
  have hW' := hW
  obtain ⟨p, q, hA0, hV, rfl, hfz, hnd⟩ := hW
  have hA : DataW.TrodAll enc Try.prog W 0 (fun _ => true) true Try.f5.params.toList args.toList ds p := hA0
  rw [Try.params5] at hA hval
  obtain ⟨v0, vs0, d0, ds0, p0, q0, hargs, rfl, rfl, h0, r0⟩ := trodAll_cons hA
  obtain ⟨v1, vs1, d1, ds1, p1, q1, rfl, rfl, rfl, h1, r1⟩ := trodAll_cons r0
  obtain ⟨rfl, rfl, rfl⟩ := trodAll_nil r1
  obtain rfl : args = #[v0, v1] := by cases args; simp_all
  obtain ⟨rfl, rfl⟩ := trodVars_none hV
  obtain ⟨b0, len0, cap0, rfl⟩ := okWide_slice Try.underlying22 (hval 0 22 v0 rfl rfl)
  have k0 := h0
  obtain ⟨l0, K0, O0⟩ := RowAid.param_one (d := (Kd.slice 32 QBlockApart.k32)) (RowAid.opens_slice Try.underlying22 (by kernel_rfl) (RowAid.opens_struct (d := QBlockApart.k32) Try.underlying32 (by rfl) (by kernel_rfl) (RowAid.seg_iso (f := fun x : QBlockApart.S32 => (x.f0, x.f1, x.f2, x.f3, x.f4)) (fun p => ⟨p.1, p.2.1, p.2.2.1, p.2.2.2.1, p.2.2.2.2⟩) (fun _ => rfl) (RowAid.seg_cons (RowAid.opens_int Try.underlying3) (by kernel_rfl) (RowAid.seg_cons (RowAid.opens_int Try.underlying3) (by kernel_rfl) (RowAid.seg_cons (RowAid.opens_int Try.underlying3) (by kernel_rfl) (RowAid.seg_cons (RowAid.opens_struct (d := QBlockApart.k30) Try.underlying30 (by rfl) (by kernel_rfl) (RowAid.seg_iso (f := fun x : QBlockApart.S30 => (x.f0, x.f1, x.f2)) (fun p => ⟨p.1, p.2.1, p.2.2⟩) (fun _ => rfl) (RowAid.seg_cons (RowAid.opens_int Try.underlying3) (by kernel_rfl) (RowAid.seg_cons (RowAid.opens_int Try.underlying3) (by kernel_rfl) (RowAid.seg_one _ (RowAid.opens_int Try.underlying3) (by kernel_rfl)))))) (by kernel_rfl) (RowAid.seg_one _ (RowAid.opens_int Try.underlying3) (by kernel_rfl))))))))) rfl h0
  have lt0 : ∀ x ∈ p0, x.block < W.heap.size := by obtain ⟨m, hm⟩ := k0; exact DataW.trod_lt m _ _ _ hm
  obtain ⟨A0, c0, e0, hl0, hC0⟩ := K0
  obtain ⟨m0, w0⟩ := O0
  simp only [List.cons.injEq, Value.slice.injEq, and_true] at e0
  obtain ⟨rfl, rfl, rfl⟩ := e0
  obtain ⟨b1, len1, cap1, rfl⟩ := okWide_slice Try.underlying22 (hval 1 22 v1 rfl rfl)
  have k1 := h1
  obtain ⟨l1, K1, O1⟩ := RowAid.param_one (d := (Kd.slice 32 QBlockApart.k32)) (RowAid.opens_slice Try.underlying22 (by kernel_rfl) (RowAid.opens_struct (d := QBlockApart.k32) Try.underlying32 (by rfl) (by kernel_rfl) (RowAid.seg_iso (f := fun x : QBlockApart.S32 => (x.f0, x.f1, x.f2, x.f3, x.f4)) (fun p => ⟨p.1, p.2.1, p.2.2.1, p.2.2.2.1, p.2.2.2.2⟩) (fun _ => rfl) (RowAid.seg_cons (RowAid.opens_int Try.underlying3) (by kernel_rfl) (RowAid.seg_cons (RowAid.opens_int Try.underlying3) (by kernel_rfl) (RowAid.seg_cons (RowAid.opens_int Try.underlying3) (by kernel_rfl) (RowAid.seg_cons (RowAid.opens_struct (d := QBlockApart.k30) Try.underlying30 (by rfl) (by kernel_rfl) (RowAid.seg_iso (f := fun x : QBlockApart.S30 => (x.f0, x.f1, x.f2)) (fun p => ⟨p.1, p.2.1, p.2.2⟩) (fun _ => rfl) (RowAid.seg_cons (RowAid.opens_int Try.underlying3) (by kernel_rfl) (RowAid.seg_cons (RowAid.opens_int Try.underlying3) (by kernel_rfl) (RowAid.seg_one _ (RowAid.opens_int Try.underlying3) (by kernel_rfl)))))) (by kernel_rfl) (RowAid.seg_one _ (RowAid.opens_int Try.underlying3) (by kernel_rfl))))))))) rfl h1
  have lt1 : ∀ x ∈ p1, x.block < W.heap.size := by obtain ⟨m, hm⟩ := k1; exact DataW.trod_lt m _ _ _ hm
  obtain ⟨A1, c1, e1, hl1, hC1⟩ := K1
  obtain ⟨m1, w1⟩ := O1
  simp only [List.cons.injEq, Value.slice.injEq, and_true] at e1
  obtain ⟨rfl, rfl, rfl⟩ := e1
  obtain ⟨k, hk⟩ := Pure.BlockApart l0 l1 m0 w0 m1 w1
  refine (QBlockApart.ferrymanlaw07_BlockApart.calls k b0 cap0 l0 b1 cap1 l1 true W hC0 hl0 hC1 hl1 hk).mono fun e W' ⟨he, bel⟩ => ?_
  subst he
  exact ⟨_, rfl, _, _, _, [], _, [], hW', trodAll_mk1 (shut_bool Try.underlying4 _), (trodAll_cons_mk (Below.trod laidOut (by kernel_rfl) (of_decide_eq_true (by kernel_rfl)) k0 bel lt0) (trodAll_cons_mk (Below.trod laidOut (by kernel_rfl) (of_decide_eq_true (by kernel_rfl)) k1 bel lt1) trodAll_mk0)), rfl, bel.frame _, fun h => by cases h⟩
theorem over : Rows.blockApartRow.holds Try.pinned (OpenSpec.ofChange Rows.blockApartSpec) :=
  OpenClaim.holds_of_wide 5 Try.f5 rfl rfl rfl rfl rfl rfl rfl ⟨rfl, rfl, rfl, rfl, rfl⟩ rfl rfl rfl rfl rfl (by kernel_rfl) Try.func5 (by kernel_rfl)
    (of_decide_eq_true (by kernel_rfl)) (by unfold Func.isWrapper; first | (rw [if_pos (by decide +kernel)]; kernel_rfl) | (rw [if_neg (by decide +kernel)]; exact ⟨rfl, rfl⟩))
    (fun os started H enc _ => lifted os started H enc)
theorem proved : Rows.BlockApartSaid := over
#print axioms proved
end Go.Proofs.Ytecddphmnoegdaa.blockApart
namespace Go.Proofs.Ytecddphmnoegdaa
/-- The row, under a short name, for the claim. -/
theorem blockApart_holds : Rows.BlockApartSaid := blockApart.proved
end Go.Proofs.Ytecddphmnoegdaa
