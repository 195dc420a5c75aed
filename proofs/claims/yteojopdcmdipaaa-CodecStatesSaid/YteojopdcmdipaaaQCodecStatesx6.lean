/- What this text proves: the functions that a law reaches, as functions on numbers and lists, and that Go's come to their answers; no condition. Written by the kit's print program, turned (wip/tools/patch_print.py). -/
import Derived.Test.YteojopdcmdipaaaQCodecStatesx0
import Derived.Test.YteojopdcmdipaaaQCodecStatesx4
import Derived.Test.YteojopdcmdipaaaQCodecStatesx5
namespace Go.Proofs.Yteojopdcmdipaaa.QCodecStates
open Go.RowKit Go.Proofs.YteojopdcmdipaaaW.PrintWords Go.Proofs.YteojopdcmdipaaaW.PrintLast Go.Proofs.YteojopdcmdipaaaW.PrintMore
attribute [local go_sem] max2_int min2_int max_two min_two max_three min_three max_four min_four   -- for this text's walks alone
set_option linter.unusedVariables false
set_option linter.unusedSimpArgs false

/-! ### ferrymanref04_May: function 33 -/
mutual
def ferrymanref04_May.j0 : Nat → Bool → Int → List Int → Bool → Int → Option (Bool)
  | 0, _, _, _, _, _ => none
  | k + 1, x31, x200000, x200001, x200002, x200003 => if x31 = true then (some false) else (if x200000 = 4 then ((ferrymanref04_pairs.f k x200001 (-1099511627776)).bind fun t200 => (some t200)) else (if x200000 = 5 then ((ferrymanref04_pairs.f k x200001 0).bind fun t201 => (some t201)) else (if (x200001.length : Int) > 64 then (ferrymanref04_May.j1 k true x200000 x200001 x200002 x200003) else (if (x200001.length : Int) = 1 then (ferrymanref04_May.j1 k false x200000 x200001 x200002 x200003) else (ferrymanref04_May.j1 k (decide (x200000 ≤ 1)) x200000 x200001 x200002 x200003)))))
def ferrymanref04_May.j1 : Nat → Bool → Int → List Int → Bool → Int → Option (Bool)
  | 0, _, _, _, _, _ => none
  | k + 1, x58, x200000, x200001, x200002, x200003 => if x58 = true then (some false) else (ferrymanref04_May.l0 k 0 x200000 x200001 x200002 x200003)
def ferrymanref04_May.l0 : Nat → Int → Int → List Int → Bool → Int → Option (Bool)
  | 0, _, _, _, _, _ => none
  | k + 1, x3, x200000, x200001, x200002, x200003 => if x3 < (x200001.length : Int) then (if 0 ≤ x3 then ((ferrymanref04_cut.f (rd x200001 x3)).bind fun t204 => (if (rd x200001 x3) = t204 then (ferrymanref04_May.l0 k (wrap64 (x3 + 1)) x200000 x200001 x200002 x200003) else (some false))) else (none)) else (some true)
end
def ferrymanref04_May.f (k : Nat) (a0_0 : Int) (l0_1 : List Int) (a0_2 : Bool) (a0_3 : Int) : Option (Bool) := if a0_3 < 0 then (ferrymanref04_May.j0 k true a0_0 l0_1 a0_2 a0_3) else (if a0_3 > 2 then (ferrymanref04_May.j0 k true a0_0 l0_1 a0_2 a0_3) else (if a0_2 = true then (if a0_0 < 0 then (ferrymanref04_May.j0 k true a0_0 l0_1 a0_2 a0_3) else (ferrymanref04_May.j0 k (decide (a0_0 ≥ 6)) a0_0 l0_1 a0_2 a0_3)) else (if a0_3 = 0 then (if a0_0 < 0 then (ferrymanref04_May.j0 k true a0_0 l0_1 a0_2 a0_3) else (ferrymanref04_May.j0 k (decide (a0_0 ≥ 6)) a0_0 l0_1 a0_2 a0_3)) else (ferrymanref04_May.j0 k true a0_0 l0_1 a0_2 a0_3))))
theorem ferrymanref04_May.mono_l : ∀ k, (∀ y0 y1 y2 y3 y4, LeO (ferrymanref04_May.j0 k y0 y1 y2 y3 y4) (ferrymanref04_May.j0 (k + 1) y0 y1 y2 y3 y4)) ∧ (∀ y0 y1 y2 y3 y4, LeO (ferrymanref04_May.j1 k y0 y1 y2 y3 y4) (ferrymanref04_May.j1 (k + 1) y0 y1 y2 y3 y4)) ∧ (∀ y0 y1 y2 y3 y4, LeO (ferrymanref04_May.l0 k y0 y1 y2 y3 y4) (ferrymanref04_May.l0 (k + 1) y0 y1 y2 y3 y4))
  | 0 => ⟨fun _ _ _ _ _ r h => by simp [ferrymanref04_May.j0] at h, fun _ _ _ _ _ r h => by simp [ferrymanref04_May.j1] at h, fun _ _ _ _ _ r h => by simp [ferrymanref04_May.l0] at h⟩
  | k + 1 => by
    obtain ⟨ih0, ih1, ih2⟩ := ferrymanref04_May.mono_l k
    refine ⟨?_, ?_, ?_⟩
    · intro y0 y1 y2 y3 y4
      unfold ferrymanref04_May.j0
      repeat' first
      | (with_reducible exact ih0 _ _ _ _ _)
      | (with_reducible exact ih1 _ _ _ _ _)
      | (with_reducible exact ih2 _ _ _ _ _)
      | (with_reducible exact ferrymanref04_pairs.mono _ _ _)
      | (with_reducible exact LeO.refl _)
      | (with_reducible exact LeO.none _)
      | (with_reducible refine LeO.ite ?_ ?_)
      | (with_reducible refine LeO.bind ?_ (fun _ => ?_))
      | exact ih0 _ _ _ _ _
      | exact ih1 _ _ _ _ _
      | exact ih2 _ _ _ _ _
      | exact ferrymanref04_pairs.mono _ _ _
      | exact LeO.none _
      | refine LeO.ite ?_ ?_
      | refine LeO.bind ?_ (fun _ => ?_)
    · intro y0 y1 y2 y3 y4
      unfold ferrymanref04_May.j1
      repeat' first
      | (with_reducible exact ih0 _ _ _ _ _)
      | (with_reducible exact ih1 _ _ _ _ _)
      | (with_reducible exact ih2 _ _ _ _ _)
      | (with_reducible exact ferrymanref04_pairs.mono _ _ _)
      | (with_reducible exact LeO.refl _)
      | (with_reducible exact LeO.none _)
      | (with_reducible refine LeO.ite ?_ ?_)
      | (with_reducible refine LeO.bind ?_ (fun _ => ?_))
      | exact ih0 _ _ _ _ _
      | exact ih1 _ _ _ _ _
      | exact ih2 _ _ _ _ _
      | exact ferrymanref04_pairs.mono _ _ _
      | exact LeO.none _
      | refine LeO.ite ?_ ?_
      | refine LeO.bind ?_ (fun _ => ?_)
    · intro y0 y1 y2 y3 y4
      unfold ferrymanref04_May.l0
      repeat' first
      | (with_reducible exact ih0 _ _ _ _ _)
      | (with_reducible exact ih1 _ _ _ _ _)
      | (with_reducible exact ih2 _ _ _ _ _)
      | (with_reducible exact ferrymanref04_pairs.mono _ _ _)
      | (with_reducible exact LeO.refl _)
      | (with_reducible exact LeO.none _)
      | (with_reducible refine LeO.ite ?_ ?_)
      | (with_reducible refine LeO.bind ?_ (fun _ => ?_))
      | exact ih0 _ _ _ _ _
      | exact ih1 _ _ _ _ _
      | exact ih2 _ _ _ _ _
      | exact ferrymanref04_pairs.mono _ _ _
      | exact LeO.none _
      | refine LeO.ite ?_ ?_
      | refine LeO.bind ?_ (fun _ => ?_)
theorem ferrymanref04_May.mono : ∀ a0 a1 a2 a3 k, LeO (ferrymanref04_May.f k a0 a1 a2 a3) (ferrymanref04_May.f (k + 1) a0 a1 a2 a3) := by
  intro a0 a1 a2 a3 k
  obtain ⟨ih0, ih1, ih2⟩ := ferrymanref04_May.mono_l k
  unfold ferrymanref04_May.f
  repeat' first
      | (with_reducible exact ih0 _ _ _ _ _)
      | (with_reducible exact ih1 _ _ _ _ _)
      | (with_reducible exact ih2 _ _ _ _ _)
      | (with_reducible exact ferrymanref04_pairs.mono _ _ _)
      | (with_reducible exact LeO.refl _)
      | (with_reducible exact LeO.none _)
      | (with_reducible refine LeO.ite ?_ ?_)
      | (with_reducible refine LeO.bind ?_ (fun _ => ?_))
      | exact ih0 _ _ _ _ _
      | exact ih1 _ _ _ _ _
      | exact ih2 _ _ _ _ _
      | exact ferrymanref04_pairs.mono _ _ _
      | exact LeO.none _
      | refine LeO.ite ?_ ?_
      | refine LeO.bind ?_ (fun _ => ?_)
set_option maxHeartbeats 8000000 in
set_option maxRecDepth 100000 in
theorem ferrymanref04_May.calls (k : Nat) (a0_0 : Int) (A0_1 : Option Addr) (c0_1 : Nat) (l0_1 : List Int) (a0_2 : Bool) (a0_3 : Int) (r : Bool) (w : World) (hr0_1 : Kd.C (Kd.int .i64) w A0_1 l0_1.length l0_1) (hc0_1 : l0_1.length ≤ c0_1) (h : ferrymanref04_May.f k a0_0 l0_1 a0_2 a0_3 = some r) :
    Calls Try.prog 33 #[.agg #[.int .i64 a0_0, .slice A0_1 l0_1.length c0_1, .bool a0_2, .int .i64 a0_3]] w fun e w' => e = .returned (.bool r) ∧ Below w.heap.size w w' := by
  have hu35 := Try.underlying35
  have HR0_1 := Aside0.mk hr0_1
  have HC0_1 := Aside0.mk hc0_1
  clear hr0_1 hc0_1
  have HB := Aside0.mk (Below.refl w.heap.size w)
  have H : (if a0_3 < 0 then (ferrymanref04_May.j0 k true a0_0 l0_1 a0_2 a0_3) else (if a0_3 > 2 then (ferrymanref04_May.j0 k true a0_0 l0_1 a0_2 a0_3) else (if a0_2 = true then (if a0_0 < 0 then (ferrymanref04_May.j0 k true a0_0 l0_1 a0_2 a0_3) else (ferrymanref04_May.j0 k (decide (a0_0 ≥ 6)) a0_0 l0_1 a0_2 a0_3)) else (if a0_3 = 0 then (if a0_0 < 0 then (ferrymanref04_May.j0 k true a0_0 l0_1 a0_2 a0_3) else (ferrymanref04_May.j0 k (decide (a0_0 ≥ 6)) a0_0 l0_1 a0_2 a0_3)) else (ferrymanref04_May.j0 k true a0_0 l0_1 a0_2 a0_3))))) = some r := h
  clear h
  have HC2 := Aside0.mk H
  clear H
  go_enter Try.func33, Try.ntmps33
  go_upto_region 1 with (first | ((with_reducible refine gate_dst (N := 1) rfl ?_); (try (refine gate_guard (by rfl) ?_; dsimp only)); refine box_event ?hg (N := 1) ?hd (cs := #[.int .i64 a0_0, .slice A0_1 l0_1.length c0_1, .bool a0_2, .int .i64 a0_3]) (t := 35) ?hr ?_; (case hd => rfl); (case hg => rfl); (case hr => first | (go_simp; done) | (go_simp; rfl)); intro gb199 hg w3 hbox hb; have n0_ := Aside0.mk (below_step (by repeat (first | (with_reducible first | exact HB.out | apply below_alloc | apply pw_below_drewN | apply below_drew1) | exact HB.out)) hb); have n1_ := Aside0.mk (hbox); have n2_ := Aside0.mk ((by rw [hg]; exact (below_size (by repeat (first | (with_reducible first | exact HB.out | apply below_alloc | apply pw_below_drewN | apply below_drew1) | exact HB.out))) : w.heap.size ≤ gb199)); have n3_ := Aside0.mk ((by rw [hg]; exact (below_size (by repeat (first | (with_reducible first | exact HB.out | apply below_alloc | apply pw_below_drewN | apply below_drew1) | exact HB.out))) : w.heap.size ≤ gb199)); clear HB; have HB := n0_; have BK199 := n1_; have GW199 := n2_; have GE199 := n3_; clear n0_ n1_ n2_ n3_; clear hb hbox hg))
  repeat (go_quiet (first | ((with_reducible refine gate_dst (N := 1) rfl ?_); (try (refine gate_guard (by rfl) ?_; dsimp only)); refine box_event ?hg (N := 1) ?hd (cs := #[.int .i64 a0_0, .slice A0_1 l0_1.length c0_1, .bool a0_2, .int .i64 a0_3]) (t := 35) ?hr ?_; (case hd => rfl); (case hg => rfl); (case hr => first | (go_simp; done) | (go_simp; rfl)); intro gb199 hg w3 hbox hb; have n0_ := Aside0.mk (below_step (by repeat (first | (with_reducible first | exact HB.out | apply below_alloc | apply pw_below_drewN | apply below_drew1) | exact HB.out)) hb); have n1_ := Aside0.mk (hbox); have n2_ := Aside0.mk ((by rw [hg]; exact (below_size (by repeat (first | (with_reducible first | exact HB.out | apply below_alloc | apply pw_below_drewN | apply below_drew1) | exact HB.out))) : w.heap.size ≤ gb199)); have n3_ := Aside0.mk ((by rw [hg]; exact (below_size (by repeat (first | (with_reducible first | exact HB.out | apply below_alloc | apply pw_below_drewN | apply below_drew1) | exact HB.out))) : w.heap.size ≤ gb199)); clear HB; have HB := n0_; have BK199 := n1_; have GW199 := n2_; have GE199 := n3_; clear n0_ n1_ n2_ n3_; clear hb hbox hg)); go_upto_region 1 with (first | ((with_reducible refine gate_dst (N := 1) rfl ?_); (try (refine gate_guard (by rfl) ?_; dsimp only)); refine box_event ?hg (N := 1) ?hd (cs := #[.int .i64 a0_0, .slice A0_1 l0_1.length c0_1, .bool a0_2, .int .i64 a0_3]) (t := 35) ?hr ?_; (case hd => rfl); (case hg => rfl); (case hr => first | (go_simp; done) | (go_simp; rfl)); intro gb199 hg w3 hbox hb; have n0_ := Aside0.mk (below_step (by repeat (first | (with_reducible first | exact HB.out | apply below_alloc | apply pw_below_drewN | apply below_drew1) | exact HB.out)) hb); have n1_ := Aside0.mk (hbox); have n2_ := Aside0.mk ((by rw [hg]; exact (below_size (by repeat (first | (with_reducible first | exact HB.out | apply below_alloc | apply pw_below_drewN | apply below_drew1) | exact HB.out))) : w.heap.size ≤ gb199)); have n3_ := Aside0.mk ((by rw [hg]; exact (below_size (by repeat (first | (with_reducible first | exact HB.out | apply below_alloc | apply pw_below_drewN | apply below_drew1) | exact HB.out))) : w.heap.size ≤ gb199)); clear HB; have HB := n0_; have BK199 := n1_; have GW199 := n2_; have GE199 := n3_; clear n0_ n1_ n2_ n3_; clear hb hbox hg)))
  (try simp only [Act.put, List.setIfInBounds_toArray, List.set_cons_zero, List.set_cons_succ])
  go_cut [31] (fun v31 wc => ∃ (kq : Nat) (x31_1 : Bool), v31 = .bool x31_1 ∧ Aside0 (ferrymanref04_May.j0 kq x31_1 a0_0 l0_1 a0_2 a0_3 = some r) ∧ Aside0 (kq ≤ k) ∧ Aside0 (wc.heap[gb199]? = some (.cells #[.int .i64 a0_0, (.slice A0_1 l0_1.length c0_1), .bool a0_2, .int .i64 a0_3] 35 (0, 0))) ∧ Aside0 (Below w.heap.size w wc))
  case first =>
    have H := HC2.out
    clear HC2
    by_cases c4 : a0_3 < 0
    · rw [if_pos c4] at H
      have c4b0 : decide (a0_3 < 0) = true := decide_eq_true c4
      clear c4
      (first | rw [c4b0] | rw [c4b1] | (simp only [i64_w, i32_w]; rw [c4b0]) | skip)
      have H' := Aside0.mk H
      clear H
      have hcz5_0 : w3.cell? ⟨gb199, 0, none⟩ = some (.int .i64 a0_0) := (blk_cell BK199.out 0).trans rfl
      have hcz5_1 : w3.cell? ⟨gb199, 1, none⟩ = some (.slice A0_1 l0_1.length c0_1) := (blk_cell BK199.out 1).trans rfl
      have hcz5_2 : w3.cell? ⟨gb199, 2, none⟩ = some (.bool a0_2) := (blk_cell BK199.out 2).trans rfl
      have hcz5_3 : w3.cell? ⟨gb199, 3, none⟩ = some (.int .i64 a0_3) := (blk_cell BK199.out 3).trans rfl
      have hfz5_0 := blk_frozen BK199.out 0
      have hfz5_1 := blk_frozen BK199.out 1
      have hfz5_2 := blk_frozen BK199.out 2
      have hfz5_3 := blk_frozen BK199.out 3
      go_wp2
      repeat (go_quiet (fail); try go_wp2)
      go_meet
      case rel => exact ⟨_, (true), (by first | rfl | (simp; done) | (simp [*]; done)), H', ⟨by first | omega | exact Nat.le_refl _⟩, ⟨by (with_reducible repeat (first | refine blk_drewN ?_ _ | refine blk_drew ?_ | refine blk_alloc ?_ _)); exact BK199.out⟩, ⟨by repeat (first | (with_reducible first | exact HB.out | apply below_alloc | apply pw_below_drewN | apply below_drew1 | refine below_set ?_ GE199.out) | exact HB.out)⟩⟩
    · rw [if_neg c4] at H
      have c4b0 : decide (a0_3 < 0) = false := decide_eq_false c4
      clear c4
      (first | rw [c4b0] | rw [c4b1] | (simp only [i64_w, i32_w]; rw [c4b0]) | skip)
      by_cases c6 : a0_3 > 2
      · rw [if_pos c6] at H
        have c6b0 : decide (2 < a0_3) = true := decide_eq_true c6
        clear c6
        have H' := Aside0.mk H
        clear H
        have hcz7_0 : w3.cell? ⟨gb199, 0, none⟩ = some (.int .i64 a0_0) := (blk_cell BK199.out 0).trans rfl
        have hcz7_1 : w3.cell? ⟨gb199, 1, none⟩ = some (.slice A0_1 l0_1.length c0_1) := (blk_cell BK199.out 1).trans rfl
        have hcz7_2 : w3.cell? ⟨gb199, 2, none⟩ = some (.bool a0_2) := (blk_cell BK199.out 2).trans rfl
        have hcz7_3 : w3.cell? ⟨gb199, 3, none⟩ = some (.int .i64 a0_3) := (blk_cell BK199.out 3).trans rfl
        have hfz7_0 := blk_frozen BK199.out 0
        have hfz7_1 := blk_frozen BK199.out 1
        have hfz7_2 := blk_frozen BK199.out 2
        have hfz7_3 := blk_frozen BK199.out 3
        go_wp2
        repeat (go_quiet (fail); try go_wp2)
        go_meet
        case rel => exact ⟨_, (true), (by first | rfl | (simp; done) | (simp [*]; done)), H', ⟨by first | omega | exact Nat.le_refl _⟩, ⟨by (with_reducible repeat (first | refine blk_drewN ?_ _ | refine blk_drew ?_ | refine blk_alloc ?_ _)); exact BK199.out⟩, ⟨by repeat (first | (with_reducible first | exact HB.out | apply below_alloc | apply pw_below_drewN | apply below_drew1 | refine below_set ?_ GE199.out) | exact HB.out)⟩⟩
      · rw [if_neg c6] at H
        have c6b0 : decide (2 < a0_3) = false := decide_eq_false c6
        clear c6
        by_cases c8 : a0_2 = true
        · subst c8
          have H1 : (if a0_0 < 0 then (ferrymanref04_May.j0 k true a0_0 l0_1 true a0_3) else (ferrymanref04_May.j0 k (decide (a0_0 ≥ 6)) a0_0 l0_1 true a0_3)) = some r := by rw [if_pos rfl] at H; exact H
          clear H
          have H := H1
          clear H1
          by_cases c9 : a0_0 < 0
          · rw [if_pos c9] at H
            have c9b0 : decide (a0_0 < 0) = true := decide_eq_true c9
            clear c9
            have H' := Aside0.mk H
            clear H
            have hcz10_0 : w3.cell? ⟨gb199, 0, none⟩ = some (.int .i64 a0_0) := (blk_cell BK199.out 0).trans rfl
            have hcz10_1 : w3.cell? ⟨gb199, 1, none⟩ = some (.slice A0_1 l0_1.length c0_1) := (blk_cell BK199.out 1).trans rfl
            have hcz10_2 : w3.cell? ⟨gb199, 2, none⟩ = some (.bool true) := (blk_cell BK199.out 2).trans rfl
            have hcz10_3 : w3.cell? ⟨gb199, 3, none⟩ = some (.int .i64 a0_3) := (blk_cell BK199.out 3).trans rfl
            have hfz10_0 := blk_frozen BK199.out 0
            have hfz10_1 := blk_frozen BK199.out 1
            have hfz10_2 := blk_frozen BK199.out 2
            have hfz10_3 := blk_frozen BK199.out 3
            go_wp2
            repeat (go_quiet (fail); try go_wp2)
            go_meet
            case rel => exact ⟨_, (true), (by first | rfl | (simp; done) | (simp [*]; done)), H', ⟨by first | omega | exact Nat.le_refl _⟩, ⟨by (with_reducible repeat (first | refine blk_drewN ?_ _ | refine blk_drew ?_ | refine blk_alloc ?_ _)); exact BK199.out⟩, ⟨by repeat (first | (with_reducible first | exact HB.out | apply below_alloc | apply pw_below_drewN | apply below_drew1 | refine below_set ?_ GE199.out) | exact HB.out)⟩⟩
          · rw [if_neg c9] at H
            have c9b0 : decide (a0_0 < 0) = false := decide_eq_false c9
            clear c9
            have H' := Aside0.mk H
            clear H
            have hcz11_0 : w3.cell? ⟨gb199, 0, none⟩ = some (.int .i64 a0_0) := (blk_cell BK199.out 0).trans rfl
            have hcz11_1 : w3.cell? ⟨gb199, 1, none⟩ = some (.slice A0_1 l0_1.length c0_1) := (blk_cell BK199.out 1).trans rfl
            have hcz11_2 : w3.cell? ⟨gb199, 2, none⟩ = some (.bool true) := (blk_cell BK199.out 2).trans rfl
            have hcz11_3 : w3.cell? ⟨gb199, 3, none⟩ = some (.int .i64 a0_3) := (blk_cell BK199.out 3).trans rfl
            have hfz11_0 := blk_frozen BK199.out 0
            have hfz11_1 := blk_frozen BK199.out 1
            have hfz11_2 := blk_frozen BK199.out 2
            have hfz11_3 := blk_frozen BK199.out 3
            go_wp2
            repeat (go_quiet (fail); try go_wp2)
            go_meet
            case rel => exact ⟨_, (decide (a0_0 ≥ 6)), (by first | rfl | (simp; done) | (simp [*]; done)), H', ⟨by first | omega | exact Nat.le_refl _⟩, ⟨by (with_reducible repeat (first | refine blk_drewN ?_ _ | refine blk_drew ?_ | refine blk_alloc ?_ _)); exact BK199.out⟩, ⟨by repeat (first | (with_reducible first | exact HB.out | apply below_alloc | apply pw_below_drewN | apply below_drew1 | refine below_set ?_ GE199.out) | exact HB.out)⟩⟩
        · replace c8 := Bool.eq_false_iff.mpr c8
          subst c8
          have H1 : (if a0_3 = 0 then (if a0_0 < 0 then (ferrymanref04_May.j0 k true a0_0 l0_1 false a0_3) else (ferrymanref04_May.j0 k (decide (a0_0 ≥ 6)) a0_0 l0_1 false a0_3)) else (ferrymanref04_May.j0 k true a0_0 l0_1 false a0_3)) = some r := by rw [if_neg (show ¬ (false = true) by decide)] at H; exact H
          clear H
          have H := H1
          clear H1
          by_cases c12 : a0_3 = 0
          · rw [if_pos c12] at H
            have c12b0 : (a0_3 == 0) = true := beq_iff_eq.mpr c12
            have c12b1 : (a0_3 != 0) = false := bne_eq_false_iff_eq.mpr c12
            clear c12
            by_cases c13 : a0_0 < 0
            · rw [if_pos c13] at H
              have c13b0 : decide (a0_0 < 0) = true := decide_eq_true c13
              clear c13
              have H' := Aside0.mk H
              clear H
              have hcz14_0 : w3.cell? ⟨gb199, 0, none⟩ = some (.int .i64 a0_0) := (blk_cell BK199.out 0).trans rfl
              have hcz14_1 : w3.cell? ⟨gb199, 1, none⟩ = some (.slice A0_1 l0_1.length c0_1) := (blk_cell BK199.out 1).trans rfl
              have hcz14_2 : w3.cell? ⟨gb199, 2, none⟩ = some (.bool false) := (blk_cell BK199.out 2).trans rfl
              have hcz14_3 : w3.cell? ⟨gb199, 3, none⟩ = some (.int .i64 a0_3) := (blk_cell BK199.out 3).trans rfl
              have hfz14_0 := blk_frozen BK199.out 0
              have hfz14_1 := blk_frozen BK199.out 1
              have hfz14_2 := blk_frozen BK199.out 2
              have hfz14_3 := blk_frozen BK199.out 3
              go_wp2
              repeat (go_quiet (fail); try go_wp2)
              go_meet
              case rel => exact ⟨_, (true), (by first | rfl | (simp; done) | (simp [*]; done)), H', ⟨by first | omega | exact Nat.le_refl _⟩, ⟨by (with_reducible repeat (first | refine blk_drewN ?_ _ | refine blk_drew ?_ | refine blk_alloc ?_ _)); exact BK199.out⟩, ⟨by repeat (first | (with_reducible first | exact HB.out | apply below_alloc | apply pw_below_drewN | apply below_drew1 | refine below_set ?_ GE199.out) | exact HB.out)⟩⟩
            · rw [if_neg c13] at H
              have c13b0 : decide (a0_0 < 0) = false := decide_eq_false c13
              clear c13
              have H' := Aside0.mk H
              clear H
              have hcz15_0 : w3.cell? ⟨gb199, 0, none⟩ = some (.int .i64 a0_0) := (blk_cell BK199.out 0).trans rfl
              have hcz15_1 : w3.cell? ⟨gb199, 1, none⟩ = some (.slice A0_1 l0_1.length c0_1) := (blk_cell BK199.out 1).trans rfl
              have hcz15_2 : w3.cell? ⟨gb199, 2, none⟩ = some (.bool false) := (blk_cell BK199.out 2).trans rfl
              have hcz15_3 : w3.cell? ⟨gb199, 3, none⟩ = some (.int .i64 a0_3) := (blk_cell BK199.out 3).trans rfl
              have hfz15_0 := blk_frozen BK199.out 0
              have hfz15_1 := blk_frozen BK199.out 1
              have hfz15_2 := blk_frozen BK199.out 2
              have hfz15_3 := blk_frozen BK199.out 3
              go_wp2
              repeat (go_quiet (fail); try go_wp2)
              go_meet
              case rel => exact ⟨_, (decide (a0_0 ≥ 6)), (by first | rfl | (simp; done) | (simp [*]; done)), H', ⟨by first | omega | exact Nat.le_refl _⟩, ⟨by (with_reducible repeat (first | refine blk_drewN ?_ _ | refine blk_drew ?_ | refine blk_alloc ?_ _)); exact BK199.out⟩, ⟨by repeat (first | (with_reducible first | exact HB.out | apply below_alloc | apply pw_below_drewN | apply below_drew1 | refine below_set ?_ GE199.out) | exact HB.out)⟩⟩
          · rw [if_neg c12] at H
            have c12b0 : (a0_3 == 0) = false := beq_eq_false_iff_ne.mpr c12
            have c12b1 : (a0_3 != 0) = true := bne_iff_ne.mpr c12
            have H' := Aside0.mk H
            clear H
            have hcz16_0 : w3.cell? ⟨gb199, 0, none⟩ = some (.int .i64 a0_0) := (blk_cell BK199.out 0).trans rfl
            have hcz16_1 : w3.cell? ⟨gb199, 1, none⟩ = some (.slice A0_1 l0_1.length c0_1) := (blk_cell BK199.out 1).trans rfl
            have hcz16_2 : w3.cell? ⟨gb199, 2, none⟩ = some (.bool false) := (blk_cell BK199.out 2).trans rfl
            have hcz16_3 : w3.cell? ⟨gb199, 3, none⟩ = some (.int .i64 a0_3) := (blk_cell BK199.out 3).trans rfl
            have hfz16_0 := blk_frozen BK199.out 0
            have hfz16_1 := blk_frozen BK199.out 1
            have hfz16_2 := blk_frozen BK199.out 2
            have hfz16_3 := blk_frozen BK199.out 3
            go_wp2
            repeat (go_quiet (fail); try go_wp2)
            go_meet
            case rel => exact ⟨_, (true), (by first | rfl | (simp; done) | (simp [*]; done)), H', ⟨by first | omega | exact Nat.le_refl _⟩, ⟨by (with_reducible repeat (first | refine blk_drewN ?_ _ | refine blk_drew ?_ | refine blk_alloc ?_ _)); exact BK199.out⟩, ⟨by repeat (first | (with_reducible first | exact HB.out | apply below_alloc | apply pw_below_drewN | apply below_drew1 | refine below_set ?_ GE199.out) | exact HB.out)⟩⟩
  case rest =>
    clear HC2
    try clear c1
    try clear p2
    try clear c3
    try clear c4
    try clear c4b0
    try clear c6
    try clear c6b0
    try clear c8
    try clear c9
    try clear c9b0
    try clear c12
    try clear c12b0
    try clear c12b1
    try clear c13
    try clear c13b0
    try clear hcz10_0
    try clear hcz10_1
    try clear hcz10_2
    try clear hcz10_3
    try clear hcz11_0
    try clear hcz11_1
    try clear hcz11_2
    try clear hcz11_3
    try clear hcz14_0
    try clear hcz14_1
    try clear hcz14_2
    try clear hcz14_3
    try clear hcz15_0
    try clear hcz15_1
    try clear hcz15_2
    try clear hcz15_3
    try clear hcz16_0
    try clear hcz16_1
    try clear hcz16_2
    try clear hcz16_3
    try clear hcz5_0
    try clear hcz5_1
    try clear hcz5_2
    try clear hcz5_3
    try clear hcz7_0
    try clear hcz7_1
    try clear hcz7_2
    try clear hcz7_3
    try clear hfz10_0
    try clear hfz10_1
    try clear hfz10_2
    try clear hfz10_3
    try clear hfz11_0
    try clear hfz11_1
    try clear hfz11_2
    try clear hfz11_3
    try clear hfz14_0
    try clear hfz14_1
    try clear hfz14_2
    try clear hfz14_3
    try clear hfz15_0
    try clear hfz15_1
    try clear hfz15_2
    try clear hfz15_3
    try clear hfz16_0
    try clear hfz16_1
    try clear hfz16_2
    try clear hfz16_3
    try clear hfz5_0
    try clear hfz5_1
    try clear hfz5_2
    try clear hfz5_3
    try clear hfz7_0
    try clear hfz7_1
    try clear hfz7_2
    try clear hfz7_3
    obtain ⟨kq, x31_1, rfl, HA, HJ1, BK199, HB⟩ := hcut
    cases kq with
    | zero => exact absurd HA.out (by simp [ferrymanref04_May.j0])
    | succ kj1 =>
      have H := HA.out
      clear HA
      simp only [ferrymanref04_May.j0] at H
      by_cases c17 : x31_1 = true
      · subst c17
        have H1 : (some false) = some r := by rw [if_pos rfl] at H; exact H
        clear H
        have H := H1
        clear H1
        obtain rfl := Option.some.inj H
        go_wp2
        repeat (go_quiet (fail); try go_wp2)
        go_ret
        exact ⟨by first | rfl | (simp [errW_none, errW_some] <;> rfl) | (simp [*, errW_none, errW_some] <;> rfl), by repeat (first | (with_reducible first | exact HB.out | apply below_alloc | apply pw_below_drewN | apply below_drew1 | refine below_set ?_ GE199.out) | exact HB.out)⟩
      · replace c17 := Bool.eq_false_iff.mpr c17
        subst c17
        have H1 : (if a0_0 = 4 then ((ferrymanref04_pairs.f kj1 l0_1 (-1099511627776)).bind fun t200 => (some t200)) else (if a0_0 = 5 then ((ferrymanref04_pairs.f kj1 l0_1 0).bind fun t201 => (some t201)) else (if (l0_1.length : Int) > 64 then (ferrymanref04_May.j1 kj1 true a0_0 l0_1 a0_2 a0_3) else (if (l0_1.length : Int) = 1 then (ferrymanref04_May.j1 kj1 false a0_0 l0_1 a0_2 a0_3) else (ferrymanref04_May.j1 kj1 (decide (a0_0 ≤ 1)) a0_0 l0_1 a0_2 a0_3))))) = some r := by rw [if_neg (show ¬ (false = true) by decide)] at H; exact H
        clear H
        have H := H1
        clear H1
        by_cases c18 : a0_0 = 4
        · rw [if_pos c18] at H
          have c18b0 : (a0_0 == 4) = true := beq_iff_eq.mpr c18
          have c18b1 : (a0_0 != 4) = false := bne_eq_false_iff_eq.mpr c18
          clear c18
          replace H := Option.bind_eq_some_iff.mp H
          obtain ⟨t200, A190, H⟩ := H
          replace H : (some t200) = some r := H
          have A19 := Aside0.mk A190
          clear A190
          obtain rfl := Option.some.inj H
          have hcz20_0 : wc.cell? ⟨gb199, 0, none⟩ = some (.int .i64 a0_0) := (blk_cell BK199.out 0).trans rfl
          have hcz20_1 : wc.cell? ⟨gb199, 1, none⟩ = some (.slice A0_1 l0_1.length c0_1) := (blk_cell BK199.out 1).trans rfl
          have hcz20_2 : wc.cell? ⟨gb199, 2, none⟩ = some (.bool a0_2) := (blk_cell BK199.out 2).trans rfl
          have hcz20_3 : wc.cell? ⟨gb199, 3, none⟩ = some (.int .i64 a0_3) := (blk_cell BK199.out 3).trans rfl
          have hfz20_0 := blk_frozen BK199.out 0
          have hfz20_1 := blk_frozen BK199.out 1
          have hfz20_2 := blk_frozen BK199.out 2
          have hfz20_3 := blk_frozen BK199.out 3
          go_wp2_with (first | (go_at_call 50; (with_reducible refine (ferrymanref04_pairs.calls kj1 _ _ l0_1 (-1099511627776) t200 _ ?side1 ?side2 A19.out).mono ?_); (case side1 => repeat (first | exact (Kd.C_below HR0_1.out HB.out) | (with_reducible refine Kd.C_alloc ?_ _) | (with_reducible refine Kd.C_drewN ?_ _) | (with_reducible refine Kd.C_drew ?_))); (case side2 => exact HC0_1.out); rintro e w' ⟨rfl, ⟨nd, rfl⟩⟩; (try first | exact ⟨rfl, _, World.drewN_drewN _ _ _⟩ | exact ⟨rfl, _, Eq.trans (World.drewN_drewN _ _ _) (congrArg (World.drewN _) (Nat.add_assoc _ _ _))⟩)))
          repeat (go_quiet (first | (go_at_call 50; (with_reducible refine (ferrymanref04_pairs.calls kj1 _ _ l0_1 (-1099511627776) t200 _ ?side1 ?side2 A19.out).mono ?_); (case side1 => repeat (first | exact (Kd.C_below HR0_1.out HB.out) | (with_reducible refine Kd.C_alloc ?_ _) | (with_reducible refine Kd.C_drewN ?_ _) | (with_reducible refine Kd.C_drew ?_))); (case side2 => exact HC0_1.out); rintro e w' ⟨rfl, ⟨nd, rfl⟩⟩; (try first | exact ⟨rfl, _, World.drewN_drewN _ _ _⟩ | exact ⟨rfl, _, Eq.trans (World.drewN_drewN _ _ _) (congrArg (World.drewN _) (Nat.add_assoc _ _ _))⟩))); try go_wp2_with (first | (go_at_call 50; (with_reducible refine (ferrymanref04_pairs.calls kj1 _ _ l0_1 (-1099511627776) t200 _ ?side1 ?side2 A19.out).mono ?_); (case side1 => repeat (first | exact (Kd.C_below HR0_1.out HB.out) | (with_reducible refine Kd.C_alloc ?_ _) | (with_reducible refine Kd.C_drewN ?_ _) | (with_reducible refine Kd.C_drew ?_))); (case side2 => exact HC0_1.out); rintro e w' ⟨rfl, ⟨nd, rfl⟩⟩; (try first | exact ⟨rfl, _, World.drewN_drewN _ _ _⟩ | exact ⟨rfl, _, Eq.trans (World.drewN_drewN _ _ _) (congrArg (World.drewN _) (Nat.add_assoc _ _ _))⟩))))
          go_ret
          exact ⟨by first | rfl | (simp [errW_none, errW_some] <;> rfl) | (simp [*, errW_none, errW_some] <;> rfl), by repeat (first | (with_reducible first | exact HB.out | apply below_alloc | apply pw_below_drewN | apply below_drew1 | refine below_set ?_ GE199.out) | exact HB.out)⟩
        · rw [if_neg c18] at H
          have c18b0 : (a0_0 == 4) = false := beq_eq_false_iff_ne.mpr c18
          have c18b1 : (a0_0 != 4) = true := bne_iff_ne.mpr c18
          by_cases c21 : a0_0 = 5
          · rw [if_pos c21] at H
            have c21b0 : (a0_0 == 5) = true := beq_iff_eq.mpr c21
            have c21b1 : (a0_0 != 5) = false := bne_eq_false_iff_eq.mpr c21
            clear c21
            replace H := Option.bind_eq_some_iff.mp H
            obtain ⟨t201, A220, H⟩ := H
            replace H : (some t201) = some r := H
            have A22 := Aside0.mk A220
            clear A220
            obtain rfl := Option.some.inj H
            have hcz23_0 : wc.cell? ⟨gb199, 0, none⟩ = some (.int .i64 a0_0) := (blk_cell BK199.out 0).trans rfl
            have hcz23_1 : wc.cell? ⟨gb199, 1, none⟩ = some (.slice A0_1 l0_1.length c0_1) := (blk_cell BK199.out 1).trans rfl
            have hcz23_2 : wc.cell? ⟨gb199, 2, none⟩ = some (.bool a0_2) := (blk_cell BK199.out 2).trans rfl
            have hcz23_3 : wc.cell? ⟨gb199, 3, none⟩ = some (.int .i64 a0_3) := (blk_cell BK199.out 3).trans rfl
            have hfz23_0 := blk_frozen BK199.out 0
            have hfz23_1 := blk_frozen BK199.out 1
            have hfz23_2 := blk_frozen BK199.out 2
            have hfz23_3 := blk_frozen BK199.out 3
            go_wp2_with (first | (go_at_call 50; (with_reducible refine (ferrymanref04_pairs.calls kj1 _ _ l0_1 0 t201 _ ?side1 ?side2 A22.out).mono ?_); (case side1 => repeat (first | exact (Kd.C_below HR0_1.out HB.out) | (with_reducible refine Kd.C_alloc ?_ _) | (with_reducible refine Kd.C_drewN ?_ _) | (with_reducible refine Kd.C_drew ?_))); (case side2 => exact HC0_1.out); rintro e w' ⟨rfl, ⟨nd, rfl⟩⟩; (try first | exact ⟨rfl, _, World.drewN_drewN _ _ _⟩ | exact ⟨rfl, _, Eq.trans (World.drewN_drewN _ _ _) (congrArg (World.drewN _) (Nat.add_assoc _ _ _))⟩)))
            repeat (go_quiet (first | (go_at_call 50; (with_reducible refine (ferrymanref04_pairs.calls kj1 _ _ l0_1 0 t201 _ ?side1 ?side2 A22.out).mono ?_); (case side1 => repeat (first | exact (Kd.C_below HR0_1.out HB.out) | (with_reducible refine Kd.C_alloc ?_ _) | (with_reducible refine Kd.C_drewN ?_ _) | (with_reducible refine Kd.C_drew ?_))); (case side2 => exact HC0_1.out); rintro e w' ⟨rfl, ⟨nd, rfl⟩⟩; (try first | exact ⟨rfl, _, World.drewN_drewN _ _ _⟩ | exact ⟨rfl, _, Eq.trans (World.drewN_drewN _ _ _) (congrArg (World.drewN _) (Nat.add_assoc _ _ _))⟩))); try go_wp2_with (first | (go_at_call 50; (with_reducible refine (ferrymanref04_pairs.calls kj1 _ _ l0_1 0 t201 _ ?side1 ?side2 A22.out).mono ?_); (case side1 => repeat (first | exact (Kd.C_below HR0_1.out HB.out) | (with_reducible refine Kd.C_alloc ?_ _) | (with_reducible refine Kd.C_drewN ?_ _) | (with_reducible refine Kd.C_drew ?_))); (case side2 => exact HC0_1.out); rintro e w' ⟨rfl, ⟨nd, rfl⟩⟩; (try first | exact ⟨rfl, _, World.drewN_drewN _ _ _⟩ | exact ⟨rfl, _, Eq.trans (World.drewN_drewN _ _ _) (congrArg (World.drewN _) (Nat.add_assoc _ _ _))⟩))))
            go_ret
            exact ⟨by first | rfl | (simp [errW_none, errW_some] <;> rfl) | (simp [*, errW_none, errW_some] <;> rfl), by repeat (first | (with_reducible first | exact HB.out | apply below_alloc | apply pw_below_drewN | apply below_drew1 | refine below_set ?_ GE199.out) | exact HB.out)⟩
          · rw [if_neg c21] at H
            have c21b0 : (a0_0 == 5) = false := beq_eq_false_iff_ne.mpr c21
            have c21b1 : (a0_0 != 5) = true := bne_iff_ne.mpr c21
            have HC24 := Aside0.mk H
            clear H
            have hcz25_0 : wc.cell? ⟨gb199, 0, none⟩ = some (.int .i64 a0_0) := (blk_cell BK199.out 0).trans rfl
            have hcz25_1 : wc.cell? ⟨gb199, 1, none⟩ = some (.slice A0_1 l0_1.length c0_1) := (blk_cell BK199.out 1).trans rfl
            have hcz25_2 : wc.cell? ⟨gb199, 2, none⟩ = some (.bool a0_2) := (blk_cell BK199.out 2).trans rfl
            have hcz25_3 : wc.cell? ⟨gb199, 3, none⟩ = some (.int .i64 a0_3) := (blk_cell BK199.out 3).trans rfl
            have hfz25_0 := blk_frozen BK199.out 0
            have hfz25_1 := blk_frozen BK199.out 1
            have hfz25_2 := blk_frozen BK199.out 2
            have hfz25_3 := blk_frozen BK199.out 3
            go_upto_region 7 with (fail)
            repeat (go_quiet (fail); go_upto_region 7 with (fail))
            go_cut [58] (fun v58 wc => ∃ (kq : Nat) (x58_23 : Bool), v58 = .bool x58_23 ∧ Aside0 (ferrymanref04_May.j1 kq x58_23 a0_0 l0_1 a0_2 a0_3 = some r) ∧ Aside0 (kq ≤ kj1) ∧ Aside0 (wc.heap[gb199]? = some (.cells #[.int .i64 a0_0, (.slice A0_1 l0_1.length c0_1), .bool a0_2, .int .i64 a0_3] 35 (0, 0))) ∧ Aside0 (Below w.heap.size w wc))
            case first =>
              have H := HC24.out
              clear HC24
              by_cases c26 : (l0_1.length : Int) > 64
              · rw [if_pos c26] at H
                have c26b0 : decide (64 < (l0_1.length : Int)) = true := decide_eq_true c26
                have c26b1 : decide (64 < l0_1.length) = true := decide_eq_true (by omega)
                clear c26
                (first | rw [c26b0] | rw [c26b1] | (simp only [i64_w, i32_w]; rw [c26b0]) | skip)
                have H' := Aside0.mk H
                clear H
                have hcz27_0 : wc.cell? ⟨gb199, 0, none⟩ = some (.int .i64 a0_0) := (blk_cell BK199.out 0).trans rfl
                have hcz27_1 : wc.cell? ⟨gb199, 1, none⟩ = some (.slice A0_1 l0_1.length c0_1) := (blk_cell BK199.out 1).trans rfl
                have hcz27_2 : wc.cell? ⟨gb199, 2, none⟩ = some (.bool a0_2) := (blk_cell BK199.out 2).trans rfl
                have hcz27_3 : wc.cell? ⟨gb199, 3, none⟩ = some (.int .i64 a0_3) := (blk_cell BK199.out 3).trans rfl
                have hfz27_0 := blk_frozen BK199.out 0
                have hfz27_1 := blk_frozen BK199.out 1
                have hfz27_2 := blk_frozen BK199.out 2
                have hfz27_3 := blk_frozen BK199.out 3
                go_wp2
                repeat (go_quiet (fail); try go_wp2)
                go_meet
                case rel => exact ⟨_, (true), (by first | rfl | (simp; done) | (simp [*]; done)), H', ⟨by have := HJ1.out; first | omega | exact Nat.le_refl _⟩, ⟨by (with_reducible repeat (first | refine blk_drewN ?_ _ | refine blk_drew ?_ | refine blk_alloc ?_ _)); exact BK199.out⟩, ⟨by repeat (first | (with_reducible first | exact HB.out | apply below_alloc | apply pw_below_drewN | apply below_drew1 | refine below_set ?_ GE199.out) | exact HB.out)⟩⟩
              · rw [if_neg c26] at H
                have c26b0 : decide (64 < (l0_1.length : Int)) = false := decide_eq_false c26
                have c26b1 : decide (64 < l0_1.length) = false := decide_eq_false (by omega)
                clear c26
                (first | rw [c26b0] | rw [c26b1] | (simp only [i64_w, i32_w]; rw [c26b0]) | skip)
                by_cases c28 : (l0_1.length : Int) = 1
                · rw [if_pos c28] at H
                  have c28b0 : ((l0_1.length : Int) == 1) = true := beq_iff_eq.mpr c28
                  have c28b1 : ((l0_1.length : Int) != 1) = false := bne_eq_false_iff_eq.mpr c28
                  clear c28
                  have H' := Aside0.mk H
                  clear H
                  have hcz29_0 : wc.cell? ⟨gb199, 0, none⟩ = some (.int .i64 a0_0) := (blk_cell BK199.out 0).trans rfl
                  have hcz29_1 : wc.cell? ⟨gb199, 1, none⟩ = some (.slice A0_1 l0_1.length c0_1) := (blk_cell BK199.out 1).trans rfl
                  have hcz29_2 : wc.cell? ⟨gb199, 2, none⟩ = some (.bool a0_2) := (blk_cell BK199.out 2).trans rfl
                  have hcz29_3 : wc.cell? ⟨gb199, 3, none⟩ = some (.int .i64 a0_3) := (blk_cell BK199.out 3).trans rfl
                  have hfz29_0 := blk_frozen BK199.out 0
                  have hfz29_1 := blk_frozen BK199.out 1
                  have hfz29_2 := blk_frozen BK199.out 2
                  have hfz29_3 := blk_frozen BK199.out 3
                  go_wp2
                  repeat (go_quiet (fail); try go_wp2)
                  go_meet
                  case rel => exact ⟨_, (false), (by first | rfl | (simp; done) | (simp [*]; done)), H', ⟨by have := HJ1.out; first | omega | exact Nat.le_refl _⟩, ⟨by (with_reducible repeat (first | refine blk_drewN ?_ _ | refine blk_drew ?_ | refine blk_alloc ?_ _)); exact BK199.out⟩, ⟨by repeat (first | (with_reducible first | exact HB.out | apply below_alloc | apply pw_below_drewN | apply below_drew1 | refine below_set ?_ GE199.out) | exact HB.out)⟩⟩
                · rw [if_neg c28] at H
                  have c28b0 : ((l0_1.length : Int) == 1) = false := beq_eq_false_iff_ne.mpr c28
                  have c28b1 : ((l0_1.length : Int) != 1) = true := bne_iff_ne.mpr c28
                  have H' := Aside0.mk H
                  clear H
                  have hcz30_0 : wc.cell? ⟨gb199, 0, none⟩ = some (.int .i64 a0_0) := (blk_cell BK199.out 0).trans rfl
                  have hcz30_1 : wc.cell? ⟨gb199, 1, none⟩ = some (.slice A0_1 l0_1.length c0_1) := (blk_cell BK199.out 1).trans rfl
                  have hcz30_2 : wc.cell? ⟨gb199, 2, none⟩ = some (.bool a0_2) := (blk_cell BK199.out 2).trans rfl
                  have hcz30_3 : wc.cell? ⟨gb199, 3, none⟩ = some (.int .i64 a0_3) := (blk_cell BK199.out 3).trans rfl
                  have hfz30_0 := blk_frozen BK199.out 0
                  have hfz30_1 := blk_frozen BK199.out 1
                  have hfz30_2 := blk_frozen BK199.out 2
                  have hfz30_3 := blk_frozen BK199.out 3
                  go_wp2
                  repeat (go_quiet (fail); try go_wp2)
                  go_meet
                  case rel => exact ⟨_, (decide (a0_0 ≤ 1)), (by first | rfl | (simp; done) | (simp [*]; done)), H', ⟨by have := HJ1.out; first | omega | exact Nat.le_refl _⟩, ⟨by (with_reducible repeat (first | refine blk_drewN ?_ _ | refine blk_drew ?_ | refine blk_alloc ?_ _)); exact BK199.out⟩, ⟨by repeat (first | (with_reducible first | exact HB.out | apply below_alloc | apply pw_below_drewN | apply below_drew1 | refine below_set ?_ GE199.out) | exact HB.out)⟩⟩
            case rest =>
              clear HC24
              try clear c1
              try clear c2
              try clear p2
              try clear c3
              try clear c4
              try clear c4b0
              try clear c6
              try clear c6b0
              try clear c8
              try clear c9
              try clear c9b0
              try clear c12
              try clear c12b0
              try clear c12b1
              try clear c13
              try clear c13b0
              try clear c17
              try clear c18
              try clear c18b0
              try clear c18b1
              try clear c21
              try clear c21b0
              try clear c21b1
              try clear c26
              try clear c26b0
              try clear c26b1
              try clear c28
              try clear c28b0
              try clear c28b1
              try clear hcz10_0
              try clear hcz10_1
              try clear hcz10_2
              try clear hcz10_3
              try clear hcz11_0
              try clear hcz11_1
              try clear hcz11_2
              try clear hcz11_3
              try clear hcz14_0
              try clear hcz14_1
              try clear hcz14_2
              try clear hcz14_3
              try clear hcz15_0
              try clear hcz15_1
              try clear hcz15_2
              try clear hcz15_3
              try clear hcz16_0
              try clear hcz16_1
              try clear hcz16_2
              try clear hcz16_3
              try clear hcz20_0
              try clear hcz20_1
              try clear hcz20_2
              try clear hcz20_3
              try clear hcz23_0
              try clear hcz23_1
              try clear hcz23_2
              try clear hcz23_3
              try clear hcz25_0
              try clear hcz25_1
              try clear hcz25_2
              try clear hcz25_3
              try clear hcz27_0
              try clear hcz27_1
              try clear hcz27_2
              try clear hcz27_3
              try clear hcz29_0
              try clear hcz29_1
              try clear hcz29_2
              try clear hcz29_3
              try clear hcz30_0
              try clear hcz30_1
              try clear hcz30_2
              try clear hcz30_3
              try clear hcz5_0
              try clear hcz5_1
              try clear hcz5_2
              try clear hcz5_3
              try clear hcz7_0
              try clear hcz7_1
              try clear hcz7_2
              try clear hcz7_3
              try clear hfz10_0
              try clear hfz10_1
              try clear hfz10_2
              try clear hfz10_3
              try clear hfz11_0
              try clear hfz11_1
              try clear hfz11_2
              try clear hfz11_3
              try clear hfz14_0
              try clear hfz14_1
              try clear hfz14_2
              try clear hfz14_3
              try clear hfz15_0
              try clear hfz15_1
              try clear hfz15_2
              try clear hfz15_3
              try clear hfz16_0
              try clear hfz16_1
              try clear hfz16_2
              try clear hfz16_3
              try clear hfz20_0
              try clear hfz20_1
              try clear hfz20_2
              try clear hfz20_3
              try clear hfz23_0
              try clear hfz23_1
              try clear hfz23_2
              try clear hfz23_3
              try clear hfz25_0
              try clear hfz25_1
              try clear hfz25_2
              try clear hfz25_3
              try clear hfz27_0
              try clear hfz27_1
              try clear hfz27_2
              try clear hfz27_3
              try clear hfz29_0
              try clear hfz29_1
              try clear hfz29_2
              try clear hfz29_3
              try clear hfz30_0
              try clear hfz30_1
              try clear hfz30_2
              try clear hfz30_3
              try clear hfz5_0
              try clear hfz5_1
              try clear hfz5_2
              try clear hfz5_3
              try clear hfz7_0
              try clear hfz7_1
              try clear hfz7_2
              try clear hfz7_3
              try clear p2
              obtain ⟨kq, x58_23, rfl, HA, HJ23, BK199, HB⟩ := hcut
              cases kq with
              | zero => exact absurd HA.out (by simp [ferrymanref04_May.j1])
              | succ kj23 =>
                have H := HA.out
                clear HA
                simp only [ferrymanref04_May.j1] at H
                by_cases c31 : x58_23 = true
                · subst c31
                  have H1 : (some false) = some r := by rw [if_pos rfl] at H; exact H
                  clear H
                  have H := H1
                  clear H1
                  obtain rfl := Option.some.inj H
                  go_wp2
                  repeat (go_quiet (fail); try go_wp2)
                  go_ret
                  exact ⟨by first | rfl | (simp [errW_none, errW_some] <;> rfl) | (simp [*, errW_none, errW_some] <;> rfl), by repeat (first | (with_reducible first | exact HB.out | apply below_alloc | apply pw_below_drewN | apply below_drew1 | refine below_set ?_ GE199.out) | exact HB.out)⟩
                · replace c31 := Bool.eq_false_iff.mpr c31
                  subst c31
                  have H1 : (ferrymanref04_May.l0 kj23 0 a0_0 l0_1 a0_2 a0_3) = some r := by rw [if_neg (show ¬ (false = true) by decide)] at H; exact H
                  clear H
                  have H := H1
                  clear H1
                  have H' := Aside0.mk H
                  clear H
                  go_wp2
                  repeat (go_quiet (fail); try go_wp2)
                  go_loopg [3] kj23 (fun kq v3 w' => ∃ (x3_3 : Int), v3 = .int .i64 x3_3 ∧ Aside0 (ferrymanref04_May.l0 kq x3_3 a0_0 l0_1 a0_2 a0_3 = some r) ∧ Aside0 (kq ≤ kj23) ∧ Aside0 (w'.heap[gb199]? = some (.cells #[.int .i64 a0_0, (.slice A0_1 l0_1.length c0_1), .bool a0_2, .int .i64 a0_3] 35 (0, 0))) ∧ Aside0 (Below w.heap.size w w'))
                  case atStart => exact ⟨(0), (by first | rfl | (simp; done) | (simp [*]; done)), H', ⟨Nat.le_refl _⟩, ⟨by (with_reducible repeat (first | refine blk_drewN ?_ _ | refine blk_drew ?_ | refine blk_alloc ?_ _)); exact BK199.out⟩, ⟨by repeat (first | (with_reducible first | exact HB.out | apply below_alloc | apply pw_below_drewN | apply below_drew1 | refine below_set ?_ GE199.out) | exact HB.out)⟩⟩
                  case round =>
                    clear H'
                    try clear c1
                    try clear c2
                    try clear p2
                    try clear c3
                    try clear c4
                    try clear c4b0
                    try clear c6
                    try clear c6b0
                    try clear c8
                    try clear c9
                    try clear c9b0
                    try clear c12
                    try clear c12b0
                    try clear c12b1
                    try clear c13
                    try clear c13b0
                    try clear c17
                    try clear c18
                    try clear c18b0
                    try clear c18b1
                    try clear c21
                    try clear c21b0
                    try clear c21b1
                    try clear c26
                    try clear c26b0
                    try clear c26b1
                    try clear c28
                    try clear c28b0
                    try clear c28b1
                    try clear c31
                    try clear hcz10_0
                    try clear hcz10_1
                    try clear hcz10_2
                    try clear hcz10_3
                    try clear hcz11_0
                    try clear hcz11_1
                    try clear hcz11_2
                    try clear hcz11_3
                    try clear hcz14_0
                    try clear hcz14_1
                    try clear hcz14_2
                    try clear hcz14_3
                    try clear hcz15_0
                    try clear hcz15_1
                    try clear hcz15_2
                    try clear hcz15_3
                    try clear hcz16_0
                    try clear hcz16_1
                    try clear hcz16_2
                    try clear hcz16_3
                    try clear hcz20_0
                    try clear hcz20_1
                    try clear hcz20_2
                    try clear hcz20_3
                    try clear hcz23_0
                    try clear hcz23_1
                    try clear hcz23_2
                    try clear hcz23_3
                    try clear hcz25_0
                    try clear hcz25_1
                    try clear hcz25_2
                    try clear hcz25_3
                    try clear hcz27_0
                    try clear hcz27_1
                    try clear hcz27_2
                    try clear hcz27_3
                    try clear hcz29_0
                    try clear hcz29_1
                    try clear hcz29_2
                    try clear hcz29_3
                    try clear hcz30_0
                    try clear hcz30_1
                    try clear hcz30_2
                    try clear hcz30_3
                    try clear hcz5_0
                    try clear hcz5_1
                    try clear hcz5_2
                    try clear hcz5_3
                    try clear hcz7_0
                    try clear hcz7_1
                    try clear hcz7_2
                    try clear hcz7_3
                    try clear hfz10_0
                    try clear hfz10_1
                    try clear hfz10_2
                    try clear hfz10_3
                    try clear hfz11_0
                    try clear hfz11_1
                    try clear hfz11_2
                    try clear hfz11_3
                    try clear hfz14_0
                    try clear hfz14_1
                    try clear hfz14_2
                    try clear hfz14_3
                    try clear hfz15_0
                    try clear hfz15_1
                    try clear hfz15_2
                    try clear hfz15_3
                    try clear hfz16_0
                    try clear hfz16_1
                    try clear hfz16_2
                    try clear hfz16_3
                    try clear hfz20_0
                    try clear hfz20_1
                    try clear hfz20_2
                    try clear hfz20_3
                    try clear hfz23_0
                    try clear hfz23_1
                    try clear hfz23_2
                    try clear hfz23_3
                    try clear hfz25_0
                    try clear hfz25_1
                    try clear hfz25_2
                    try clear hfz25_3
                    try clear hfz27_0
                    try clear hfz27_1
                    try clear hfz27_2
                    try clear hfz27_3
                    try clear hfz29_0
                    try clear hfz29_1
                    try clear hfz29_2
                    try clear hfz29_3
                    try clear hfz30_0
                    try clear hfz30_1
                    try clear hfz30_2
                    try clear hfz30_3
                    try clear hfz5_0
                    try clear hfz5_1
                    try clear hfz5_2
                    try clear hfz5_3
                    try clear hfz7_0
                    try clear hfz7_1
                    try clear hfz7_2
                    try clear hfz7_3
                    try clear p2
                    obtain ⟨x3_3, rfl, HA, HK3, BK199, HB⟩ := hrel
                    cases gk with
                    | zero => exact absurd HA.out (by simp [ferrymanref04_May.l0])
                    | succ k3 =>
                      have H := HA.out
                      clear HA
                      simp only [ferrymanref04_May.l0] at H
                      by_cases c32 : x3_3 < (l0_1.length : Int)
                      · rw [if_pos c32] at H
                        have c32b0 : decide (x3_3 < (l0_1.length : Int)) = true := decide_eq_true c32
                        clear c32
                        by_cases c33 : 0 ≤ x3_3
                        · rw [if_pos c33] at H
                          have c33b0 : decide (0 ≤ x3_3) = true := decide_eq_true c33
                          clear c33
                          replace H := Option.bind_eq_some_iff.mp H
                          obtain ⟨t204, A340, H⟩ := H
                          replace H : (if (rd l0_1 x3_3) = t204 then (ferrymanref04_May.l0 k3 (wrap64 (x3_3 + 1)) a0_0 l0_1 a0_2 a0_3) else (some false)) = some r := H
                          have A34 := Aside0.mk A340
                          clear A340
                          by_cases c35 : (rd l0_1 x3_3) = t204
                          · rw [if_pos c35] at H
                            have c35b0 : ((rd l0_1 x3_3) == t204) = true := beq_iff_eq.mpr c35
                            have c35b1 : ((rd l0_1 x3_3) != t204) = false := bne_eq_false_iff_eq.mpr c35
                            clear c35
                            have H' := Aside0.mk H
                            clear H
                            have hcz36_0 : wr.cell? ⟨gb199, 0, none⟩ = some (.int .i64 a0_0) := (blk_cell BK199.out 0).trans rfl
                            have hcz36_1 : wr.cell? ⟨gb199, 1, none⟩ = some (.slice A0_1 l0_1.length c0_1) := (blk_cell BK199.out 1).trans rfl
                            have hcz36_2 : wr.cell? ⟨gb199, 2, none⟩ = some (.bool a0_2) := (blk_cell BK199.out 2).trans rfl
                            have hcz36_3 : wr.cell? ⟨gb199, 3, none⟩ = some (.int .i64 a0_3) := (blk_cell BK199.out 3).trans rfl
                            have hfz36_0 := blk_frozen BK199.out 0
                            have hfz36_1 := blk_frozen BK199.out 1
                            have hfz36_2 := blk_frozen BK199.out 2
                            have hfz36_3 := blk_frozen BK199.out 3
                            have p202 : 0 ≤ (x3_3 : Int) := of_decide_eq_true (by first | (with_reducible assumption) | assumption)
                            have q202 : x3_3 < (l0_1.length : Int) := of_decide_eq_true (by first | (with_reducible assumption) | assumption)
                            obtain ⟨ad202, e202, hx202_0⟩ := Kd.at_int HR0_1.out x3_3 p202 q202
                            cases e202
                            replace hx202_0 := (HB.out.cell (World.block_lt_of_cell? w _ hx202_0)).trans hx202_0
                            replace p202 := eq_true p202
                            replace q202 := eq_true q202
                            have p203 : 0 ≤ (x3_3 : Int) := of_decide_eq_true (by first | (with_reducible assumption) | assumption)
                            have q203 : x3_3 < (l0_1.length : Int) := of_decide_eq_true (by first | (with_reducible assumption) | assumption)
                            obtain ⟨ad203, e203, hx203_0⟩ := Kd.at_int HR0_1.out x3_3 p203 q203
                            obtain rfl : ad202 = ad203 := (by injection e203)
                            replace hx203_0 := (HB.out.cell (World.block_lt_of_cell? w _ hx203_0)).trans hx203_0
                            replace p203 := eq_true p203
                            replace q203 := eq_true q203
                            go_wp2_with (first | (go_at_call 37; (with_reducible refine (ferrymanref04_cut.calls (rd l0_1 x3_3) t204 _ A34.out).mono ?_); rintro e w' ⟨rfl, ⟨nd, rfl⟩⟩; (try first | exact ⟨rfl, _, World.drewN_drewN _ _ _⟩ | exact ⟨rfl, _, Eq.trans (World.drewN_drewN _ _ _) (congrArg (World.drewN _) (Nat.add_assoc _ _ _))⟩)))
                            repeat (go_quiet (first | (go_at_call 37; (with_reducible refine (ferrymanref04_cut.calls (rd l0_1 x3_3) t204 _ A34.out).mono ?_); rintro e w' ⟨rfl, ⟨nd, rfl⟩⟩; (try first | exact ⟨rfl, _, World.drewN_drewN _ _ _⟩ | exact ⟨rfl, _, Eq.trans (World.drewN_drewN _ _ _) (congrArg (World.drewN _) (Nat.add_assoc _ _ _))⟩))); try go_wp2_with (first | (go_at_call 37; (with_reducible refine (ferrymanref04_cut.calls (rd l0_1 x3_3) t204 _ A34.out).mono ?_); rintro e w' ⟨rfl, ⟨nd, rfl⟩⟩; (try first | exact ⟨rfl, _, World.drewN_drewN _ _ _⟩ | exact ⟨rfl, _, Eq.trans (World.drewN_drewN _ _ _) (congrArg (World.drewN _) (Nat.add_assoc _ _ _))⟩))))
                            go_roundg k3
                            case measure => have := HJ1.out; have := HJ23.out; have := HK3.out; omega
                            case rel => exact ⟨(wrap64 (x3_3 + 1)), (by first | rfl | (simp; done) | (simp [*]; done)), H', ⟨by have := HJ1.out; have := HJ23.out; have := HK3.out; omega⟩, ⟨by (with_reducible repeat (first | refine blk_drewN ?_ _ | refine blk_drew ?_ | refine blk_alloc ?_ _)); exact BK199.out⟩, ⟨by repeat (first | (with_reducible first | exact HB.out | apply below_alloc | apply pw_below_drewN | apply below_drew1 | refine below_set ?_ GE199.out) | exact HB.out)⟩⟩
                          · rw [if_neg c35] at H
                            have c35b0 : ((rd l0_1 x3_3) == t204) = false := beq_eq_false_iff_ne.mpr c35
                            have c35b1 : ((rd l0_1 x3_3) != t204) = true := bne_iff_ne.mpr c35
                            obtain rfl := Option.some.inj H
                            have hcz37_0 : wr.cell? ⟨gb199, 0, none⟩ = some (.int .i64 a0_0) := (blk_cell BK199.out 0).trans rfl
                            have hcz37_1 : wr.cell? ⟨gb199, 1, none⟩ = some (.slice A0_1 l0_1.length c0_1) := (blk_cell BK199.out 1).trans rfl
                            have hcz37_2 : wr.cell? ⟨gb199, 2, none⟩ = some (.bool a0_2) := (blk_cell BK199.out 2).trans rfl
                            have hcz37_3 : wr.cell? ⟨gb199, 3, none⟩ = some (.int .i64 a0_3) := (blk_cell BK199.out 3).trans rfl
                            have hfz37_0 := blk_frozen BK199.out 0
                            have hfz37_1 := blk_frozen BK199.out 1
                            have hfz37_2 := blk_frozen BK199.out 2
                            have hfz37_3 := blk_frozen BK199.out 3
                            have p202 : 0 ≤ (x3_3 : Int) := of_decide_eq_true (by first | (with_reducible assumption) | assumption)
                            have q202 : x3_3 < (l0_1.length : Int) := of_decide_eq_true (by first | (with_reducible assumption) | assumption)
                            obtain ⟨ad202, e202, hx202_0⟩ := Kd.at_int HR0_1.out x3_3 p202 q202
                            cases e202
                            replace hx202_0 := (HB.out.cell (World.block_lt_of_cell? w _ hx202_0)).trans hx202_0
                            replace p202 := eq_true p202
                            replace q202 := eq_true q202
                            have p203 : 0 ≤ (x3_3 : Int) := of_decide_eq_true (by first | (with_reducible assumption) | assumption)
                            have q203 : x3_3 < (l0_1.length : Int) := of_decide_eq_true (by first | (with_reducible assumption) | assumption)
                            obtain ⟨ad203, e203, hx203_0⟩ := Kd.at_int HR0_1.out x3_3 p203 q203
                            obtain rfl : ad202 = ad203 := (by injection e203)
                            replace hx203_0 := (HB.out.cell (World.block_lt_of_cell? w _ hx203_0)).trans hx203_0
                            replace p203 := eq_true p203
                            replace q203 := eq_true q203
                            go_wp2_with (first | (go_at_call 37; (with_reducible refine (ferrymanref04_cut.calls (rd l0_1 x3_3) t204 _ A34.out).mono ?_); rintro e w' ⟨rfl, ⟨nd, rfl⟩⟩; (try first | exact ⟨rfl, _, World.drewN_drewN _ _ _⟩ | exact ⟨rfl, _, Eq.trans (World.drewN_drewN _ _ _) (congrArg (World.drewN _) (Nat.add_assoc _ _ _))⟩)))
                            repeat (go_quiet (first | (go_at_call 37; (with_reducible refine (ferrymanref04_cut.calls (rd l0_1 x3_3) t204 _ A34.out).mono ?_); rintro e w' ⟨rfl, ⟨nd, rfl⟩⟩; (try first | exact ⟨rfl, _, World.drewN_drewN _ _ _⟩ | exact ⟨rfl, _, Eq.trans (World.drewN_drewN _ _ _) (congrArg (World.drewN _) (Nat.add_assoc _ _ _))⟩))); try go_wp2_with (first | (go_at_call 37; (with_reducible refine (ferrymanref04_cut.calls (rd l0_1 x3_3) t204 _ A34.out).mono ?_); rintro e w' ⟨rfl, ⟨nd, rfl⟩⟩; (try first | exact ⟨rfl, _, World.drewN_drewN _ _ _⟩ | exact ⟨rfl, _, Eq.trans (World.drewN_drewN _ _ _) (congrArg (World.drewN _) (Nat.add_assoc _ _ _))⟩))))
                            go_ret
                            exact ⟨by first | rfl | (simp [errW_none, errW_some] <;> rfl) | (simp [*, errW_none, errW_some] <;> rfl), by repeat (first | (with_reducible first | exact HB.out | apply below_alloc | apply pw_below_drewN | apply below_drew1 | refine below_set ?_ GE199.out) | exact HB.out)⟩
                        · rw [if_neg c33] at H
                          exact absurd H (by simp)
                      · rw [if_neg c32] at H
                        have c32b0 : decide (x3_3 < (l0_1.length : Int)) = false := decide_eq_false c32
                        clear c32
                        obtain rfl := Option.some.inj H
                        have hcz38_0 : wr.cell? ⟨gb199, 0, none⟩ = some (.int .i64 a0_0) := (blk_cell BK199.out 0).trans rfl
                        have hcz38_1 : wr.cell? ⟨gb199, 1, none⟩ = some (.slice A0_1 l0_1.length c0_1) := (blk_cell BK199.out 1).trans rfl
                        have hcz38_2 : wr.cell? ⟨gb199, 2, none⟩ = some (.bool a0_2) := (blk_cell BK199.out 2).trans rfl
                        have hcz38_3 : wr.cell? ⟨gb199, 3, none⟩ = some (.int .i64 a0_3) := (blk_cell BK199.out 3).trans rfl
                        have hfz38_0 := blk_frozen BK199.out 0
                        have hfz38_1 := blk_frozen BK199.out 1
                        have hfz38_2 := blk_frozen BK199.out 2
                        have hfz38_3 := blk_frozen BK199.out 3
                        go_wp2
                        repeat (go_quiet (fail); try go_wp2)
                        go_ret
                        exact ⟨by first | rfl | (simp [errW_none, errW_some] <;> rfl) | (simp [*, errW_none, errW_some] <;> rfl), by repeat (first | (with_reducible first | exact HB.out | apply below_alloc | apply pw_below_drewN | apply below_drew1 | refine below_set ?_ GE199.out) | exact HB.out)⟩

end Go.Proofs.Yteojopdcmdipaaa.QCodecStates
