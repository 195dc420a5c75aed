/- What this text proves: the statement TopUpgradesSaid: the law answers true for every input, and each argument reads as it did; conditions: none beyond the statement's own. -/
import Derived.Test.YtgljebaiakhbfaaGreatRows
import Derived.Test.YtgljebaiakhbfaaGreatUpLaw
import Derived.Test.YtgljebaiakhbfaaGreatPureTopUpgrades
import Derived.Test.YtgljebaiakhbfaaGreatRowAid
import Derived.WalkKit
import Derived.ProofKit
import Derived.OpenShut
import Derived.ShutString
import Derived.ChangeOld
import Derived.Below
import Derived.Carry
import Derived.SizedLaws
namespace Go.Proofs.YtgljebaiakhbfaaGreat.topUpgrades
open Go.ChangeShapes Go.WideShapes Go.ChangeAt Go.RowKit Go.Proofs.YtgljebaiakhbfaaGreatW.PrintWords
set_option linter.unusedVariables false
theorem own : ownKnob Tryz.prog.godebug = none := by kernel_rfl
theorem laidOut : laidOutB Tryz.prog = true := by kernel_rfl
set_option maxHeartbeats 1000000 in
set_option maxRecDepth 100000 in
theorem lifted (os : Os) (started : os.Started) (H : Type) (enc : TypeId × Value → H) :
    ReturnsInHanded {} Tryz.checked os 3 .any (Rows.topUpgradesSpec.pre6 enc Tryz.prog Tryz.f3 Rows.topUpgradesRow.domain false) (Rows.topUpgradesSpec.post enc Tryz.prog Tryz.f3 false true false false) := by
  refine returnsInHanded_of_change_sized (C := Tryz.checked) own started (by kernel_rfl) Tryz.func3
    (ChangeSpec.witness6 (enc := enc) (C := Tryz.checked) false ⟨#[], #[.int .i64 0, .agg #[.int .i64 0, .int .i64 0, .slice none 0 0]], []⟩ 8 (by kernel_rfl) (by kernel_rfl) (by kernel_rfl) (by kernel_rfl)) ?_
  intro W base args ds gs before hval0 hW hcnd hsz0 _
  have hval : ∀ (j : Nat) t v, Tryz.f3.params[j]? = some t → args[j]? = some v → Value.okWide Tryz.prog W .any base t v := hval0
  have hW' := hW
  obtain ⟨p, q, hA0, hV, rfl, hfz, hnd⟩ := hW
  have hA : DataW.TrodAll enc Tryz.prog W 0 (fun _ => true) true Tryz.f3.params.toList args.toList ds p := hA0
  rw [Tryz.params3] at hA hval
  obtain ⟨v0, vs0, d0, ds0, p0, q0, hargs, rfl, rfl, h0, r0⟩ := trodAll_cons hA
  obtain ⟨v1, vs1, d1, ds1, p1, q1, rfl, rfl, rfl, h1, r1⟩ := trodAll_cons r0
  obtain ⟨rfl, rfl, rfl⟩ := trodAll_nil r1
  obtain rfl : args = #[v0, v1] := by cases args; simp_all
  obtain ⟨rfl, rfl⟩ := trodVars_none hV
  obtain ⟨a0, rfl, rfl, rfl, w0⟩ := open_int Tryz.underlying3 (hval 0 3 v0 rfl rfl) h0
  have k1 := h1
  obtain ⟨⟨a1_0, a1_1, l1_2⟩, cs1, rfl, K1, O1⟩ := RowAid.param_struct Tryz.underlying24 (RowAid.opens_struct (d := (Kd.pair (Kd.int .i64) (Kd.pair (Kd.int .i64) (Kd.slice 62 QTopUpgrades.k62)))) Tryz.underlying24 (by rfl) (by kernel_rfl) (RowAid.seg_cons (RowAid.opens_int Tryz.underlying3) (by kernel_rfl) (RowAid.seg_cons (RowAid.opens_int Tryz.underlying3) (by kernel_rfl) (RowAid.seg_one _ (RowAid.opens_slice Tryz.underlying22 (by kernel_rfl) (RowAid.opens_struct (d := QTopUpgrades.k62) Tryz.underlying62 (by rfl) (by kernel_rfl) (RowAid.seg_iso (f := fun x : QTopUpgrades.S62 => (x.f0, x.f1, x.f2, x.f3, x.f4)) (fun p => ⟨p.1, p.2.1, p.2.2.1, p.2.2.2.1, p.2.2.2.2⟩) (fun _ => rfl) (RowAid.seg_cons (RowAid.opens_int Tryz.underlying3) (by kernel_rfl) (RowAid.seg_cons (RowAid.opens_int Tryz.underlying3) (by kernel_rfl) (RowAid.seg_cons (RowAid.opens_int Tryz.underlying3) (by kernel_rfl) (RowAid.seg_cons (RowAid.opens_struct (d := QTopUpgrades.k38) Tryz.underlying38 (by rfl) (by kernel_rfl) (RowAid.seg_iso (f := fun x : QTopUpgrades.S38 => (x.f0, x.f1, x.f2)) (fun p => ⟨p.1, p.2.1, p.2.2⟩) (fun _ => rfl) (RowAid.seg_cons (RowAid.opens_int Tryz.underlying3) (by kernel_rfl) (RowAid.seg_cons (RowAid.opens_int Tryz.underlying3) (by kernel_rfl) (RowAid.seg_one _ (RowAid.opens_int Tryz.underlying3) (by kernel_rfl)))))) (by kernel_rfl) (RowAid.seg_one _ (RowAid.opens_int Tryz.underlying3) (by kernel_rfl))))))))) (by kernel_rfl))))) (hval 1 24 v1 rfl rfl) h1
  have lt1 : ∀ x ∈ p1, x.block < W.heap.size := by obtain ⟨m, hm⟩ := k1; exact DataW.trod_lt m _ _ _ hm
  obtain ⟨_, _, rfl, rfl, ⟨_, _, rfl, rfl, ⟨A1_2, c1_2, rfl, hl1_2, hC1_2⟩⟩⟩ := K1
  obtain ⟨w1_0, w1_1, ⟨m1_2, w1_2⟩⟩ := O1
  obtain ⟨k, hk⟩ := Pure.TopUpgrades a0 a1_0 a1_1 l1_2 w0 w1_0 w1_1 m1_2 w1_2
  refine (QTopUpgrades.ferrymantop_TopUpgrades.calls k a0 a1_0 a1_1 A1_2 c1_2 l1_2 true W hC1_2 hl1_2 hk).mono fun e W' ⟨he, bel⟩ => ?_
  subst he
  exact ⟨_, rfl, _, _, _, [], _, [], hW', trodAll_mk1 (shut_bool Tryz.underlying4 _), (trodAll_cons_mk (shut_int Tryz.underlying3 w0) (trodAll_cons_mk (Below.trod laidOut (by kernel_rfl) (of_decide_eq_true (by kernel_rfl)) k1 bel lt1) trodAll_mk0)), rfl, bel.frame _, fun h => by cases h⟩
theorem over : Rows.topUpgradesRow.holds Tryz.pinned (OpenSpec.ofChange Rows.topUpgradesSpec) :=
  OpenClaim.holds_of_wide 3 Tryz.f3 rfl rfl rfl rfl rfl rfl rfl ⟨rfl, rfl, rfl, rfl, rfl⟩ rfl rfl rfl rfl rfl (by kernel_rfl) Tryz.func3 (by kernel_rfl)
    (of_decide_eq_true (by kernel_rfl)) (by unfold Func.isWrapper; first | (rw [if_pos (by decide +kernel)]; kernel_rfl) | (rw [if_neg (by decide +kernel)]; exact ⟨rfl, rfl⟩))
    (fun os started H enc _ => lifted os started H enc)
theorem proved : Rows.TopUpgradesSaid := over
#print axioms proved
end Go.Proofs.YtgljebaiakhbfaaGreat.topUpgrades
namespace Go.Proofs.YtgljebaiakhbfaaGreat
/-- The row, under a short name, for the claim. -/
theorem topUpgrades_holds : Rows.TopUpgradesSaid := topUpgrades.proved
end Go.Proofs.YtgljebaiakhbfaaGreat
