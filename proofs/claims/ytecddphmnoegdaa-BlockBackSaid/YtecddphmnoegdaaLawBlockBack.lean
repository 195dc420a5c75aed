/- What this text proves: the statement BlockBackSaid: the law answers true for every input, and each argument reads as it did; conditions: none beyond the statement's own. -/
import Derived.Test.YtecddphmnoegdaaRows
import Derived.Test.YtecddphmnoegdaaQBlockBackx6
import Derived.Test.YtecddphmnoegdaaPureBlockBack
import Derived.Test.YtecddphmnoegdaaRowAid
import Derived.WalkKit
import Derived.ProofKit
import Derived.OpenShut
import Derived.ShutString
import Derived.ChangeOld
import Derived.Below
import Derived.Carry
import Derived.SizedLaws
namespace Go.Proofs.Ytecddphmnoegdaa.blockBack
open Go.ChangeShapes Go.WideShapes Go.ChangeAt Go.RowKit Go.Proofs.YtecddphmnoegdaaW.PrintWords
set_option linter.unusedVariables false
theorem own : ownKnob Try.prog.godebug = none := by kernel_rfl
theorem laidOut : laidOutB Try.prog = true := by kernel_rfl
set_option maxHeartbeats 1000000 in
set_option maxRecDepth 100000 in
theorem lifted (os : Os) (started : os.Started) (H : Type) (enc : TypeId × Value → H) :
    ReturnsInHanded {} Try.checked os 7 .any (Rows.blockBackSpec.pre6 enc Try.prog Try.f7 Rows.blockBackRow.domain false) (Rows.blockBackSpec.post enc Try.prog Try.f7 false true false false) := by
  refine returnsInHanded_of_change_sized (C := Try.checked) own started (by kernel_rfl) Try.func7
    (ChangeSpec.witness6 (enc := enc) (C := Try.checked) false ⟨#[], #[.slice none 0 0], []⟩ 8 (by kernel_rfl) (by kernel_rfl) (by kernel_rfl) (by kernel_rfl)) ?_
  intro W base args ds gs before hval0 hW hcnd hsz0 _
  have hval : ∀ (j : Nat) t v, Try.f7.params[j]? = some t → args[j]? = some v → Value.okWide Try.prog W .any base t v := hval0
  have hW' := hW
  obtain ⟨p, q, hA0, hV, rfl, hfz, hnd⟩ := hW
  have hA : DataW.TrodAll enc Try.prog W 0 (fun _ => true) true Try.f7.params.toList args.toList ds p := hA0
  rw [Try.params7] at hA hval
  obtain ⟨v0, vs0, d0, ds0, p0, q0, hargs, rfl, rfl, h0, r0⟩ := trodAll_cons hA
  obtain ⟨rfl, rfl, rfl⟩ := trodAll_nil r0
  obtain rfl : args = #[v0] := by cases args; simp_all
  obtain ⟨rfl, rfl⟩ := trodVars_none hV
  obtain ⟨b0, len0, cap0, rfl⟩ := okWide_slice Try.underlying22 (hval 0 22 v0 rfl rfl)
  have k0 := h0
  obtain ⟨l0, K0, O0⟩ := RowAid.param_one (d := (Kd.slice 32 QBlockBack.k32)) (RowAid.opens_slice Try.underlying22 (by kernel_rfl) (RowAid.opens_struct (d := QBlockBack.k32) Try.underlying32 (by rfl) (by kernel_rfl) (RowAid.seg_iso (f := fun x : QBlockBack.S32 => (x.f0, x.f1, x.f2, x.f3, x.f4)) (fun p => ⟨p.1, p.2.1, p.2.2.1, p.2.2.2.1, p.2.2.2.2⟩) (fun _ => rfl) (RowAid.seg_cons (RowAid.opens_int Try.underlying3) (by kernel_rfl) (RowAid.seg_cons (RowAid.opens_int Try.underlying3) (by kernel_rfl) (RowAid.seg_cons (RowAid.opens_int Try.underlying3) (by kernel_rfl) (RowAid.seg_cons (RowAid.opens_struct (d := QBlockBack.k30) Try.underlying30 (by rfl) (by kernel_rfl) (RowAid.seg_iso (f := fun x : QBlockBack.S30 => (x.f0, x.f1, x.f2)) (fun p => ⟨p.1, p.2.1, p.2.2⟩) (fun _ => rfl) (RowAid.seg_cons (RowAid.opens_int Try.underlying3) (by kernel_rfl) (RowAid.seg_cons (RowAid.opens_int Try.underlying3) (by kernel_rfl) (RowAid.seg_one _ (RowAid.opens_int Try.underlying3) (by kernel_rfl)))))) (by kernel_rfl) (RowAid.seg_one _ (RowAid.opens_int Try.underlying3) (by kernel_rfl))))))))) rfl h0
  have lt0 : ∀ x ∈ p0, x.block < W.heap.size := by obtain ⟨m, hm⟩ := k0; exact DataW.trod_lt m _ _ _ hm
  obtain ⟨A0, c0, e0, hl0, hC0⟩ := K0
  obtain ⟨m0, w0⟩ := O0
  simp only [List.cons.injEq, Value.slice.injEq, and_true] at e0
  obtain ⟨rfl, rfl, rfl⟩ := e0
  obtain ⟨k, hk⟩ := Pure.BlockBack l0 m0 w0
  refine (QBlockBack.ferrymanlaw07_BlockBack.calls k b0 cap0 l0 true W hC0 hl0 hk).mono fun e W' ⟨he, bel⟩ => ?_
  subst he
  exact ⟨_, rfl, _, _, _, [], _, [], hW', trodAll_mk1 (shut_bool Try.underlying4 _), (trodAll_cons_mk (Below.trod laidOut (by kernel_rfl) (of_decide_eq_true (by kernel_rfl)) k0 bel lt0) trodAll_mk0), rfl, bel.frame _, fun h => by cases h⟩
theorem over : Rows.blockBackRow.holds Try.pinned (OpenSpec.ofChange Rows.blockBackSpec) :=
  OpenClaim.holds_of_wide 7 Try.f7 rfl rfl rfl rfl rfl rfl rfl ⟨rfl, rfl, rfl, rfl, rfl⟩ rfl rfl rfl rfl rfl (by kernel_rfl) Try.func7 (by kernel_rfl)
    (of_decide_eq_true (by kernel_rfl)) (by unfold Func.isWrapper; first | (rw [if_pos (by decide +kernel)]; kernel_rfl) | (rw [if_neg (by decide +kernel)]; exact ⟨rfl, rfl⟩))
    (fun os started H enc _ => lifted os started H enc)
theorem proved : Rows.BlockBackSaid := over
#print axioms proved
end Go.Proofs.Ytecddphmnoegdaa.blockBack
namespace Go.Proofs.Ytecddphmnoegdaa
/-- The row, under a short name, for the claim. -/
theorem blockBack_holds : Rows.BlockBackSaid := blockBack.proved
end Go.Proofs.Ytecddphmnoegdaa
