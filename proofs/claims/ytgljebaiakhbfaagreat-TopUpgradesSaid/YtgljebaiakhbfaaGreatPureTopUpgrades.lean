/- What this text proves: what was written in an elder version is read as its upgrade, and never changes again; conditions: none beyond the statement's own. -/
import Derived.Test.YtgljebaiakhbfaaGreatUpLaw
import Derived.Test.YtgljebaiakhbfaaGreatUpPlain3
namespace Go.Proofs.YtgljebaiakhbfaaGreat.Pure
open Go.RowKit Go.Proofs.YtgljebaiakhbfaaGreat.QTopUpgrades Go.Proofs.YtgljebaiakhbfaaGreatW.PrintWords Go.Proofs.YtgljebaiakhbfaaGreatW.PrintLast Go.Proofs.YtgljebaiakhbfaaGreatW.PrintMore
theorem upgrades (v kd f : Int) (l : List Rec) (hl : l.length ≤ 100) (k : Nat) (hk : 2000 ≤ k) : ferrymantop_TopUpgrades.f k v kd f l = some true := by
  unfold ferrymantop_TopUpgrades.f
  rw [if_neg (by omega)]
  by_cases h : HeadOk v kd f ∧ ordB f l = true
  · obtain ⟨h, ho⟩ := h
    have h3 : HeadOk 3 kd f := ⟨.inr (.inr rfl), h.2⟩
    have hm : (l.map (upg v)).length ≤ 100 := by rw [List.length_map]; exact hl
    have hou := ordB_upg v h.1 l f ho
    rw [enc_ok h l hl ho k hk, Option.bind_some]
    simp only
    rw [if_pos trivial, dec_ok h l hl ho k hk, Option.bind_some]
    simp only
    rw [enc_ok h3 _ hm hou k hk, Option.bind_some, dec_ok h3 _ hm hou k hk, Option.bind_some, if_pos]
    refine ⟨rfl, trivial, trivial, List.length_map _, rfl, rfl, ?_⟩
    rw [List.map_congr_left (g := id) (l := l.map (upg v)) (fun r _ => upg3 r), List.map_id]
  · obtain ⟨b, e, he, h0⟩ := enc_fail l hl h k hk
    rw [he, Option.bind_some, if_neg h0]
theorem TopUpgrades {ok : Rec → Prop} : ∀ (a0 a1_0 a1_1 : Int) (l1_2 : List Rec), (Lit.int .i64 a0).wf = true → (Lit.int .i64 a1_0).wf = true → (Lit.int .i64 a1_1).wf = true → l1_2.length ≤ maxLen → (∀ x ∈ l1_2, ok x) → ∃ k, ferrymantop_TopUpgrades.f k a0 a1_0 a1_1 l1_2 = some true := by
  intro v kd f l _ _ _ _ _
  refine ⟨2000, ?_⟩
  by_cases hl : l.length > 100
  · unfold ferrymantop_TopUpgrades.f
    rw [if_pos hl]
  · exact upgrades v kd f l (by omega) 2000 (Nat.le_refl _)
end Go.Proofs.YtgljebaiakhbfaaGreat.Pure
