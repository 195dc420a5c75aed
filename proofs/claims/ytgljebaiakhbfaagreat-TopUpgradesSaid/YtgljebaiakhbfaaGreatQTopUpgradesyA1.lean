/- What this text proves: words of a printed walk, as far as the row needs them; no condition. Out of the kit's print program; what isn't used is struck by wip/tools/slim.py. -/
import Derived.Test.YtgljebaiakhbfaaGreatQTopUpgradesx0
import Derived.Test.YtgljebaiakhbfaaGreatQTopUpgradesyA0
namespace Go.Proofs.YtgljebaiakhbfaaGreat.QTopUpgrades
open Go.RowKit Go.Proofs.YtgljebaiakhbfaaGreatW.PrintWords Go.Proofs.YtgljebaiakhbfaaGreatW.PrintLast Go.Proofs.YtgljebaiakhbfaaGreatW.PrintMore
attribute [local go_sem] max2_int min2_int max_two min_two max_three min_three max_four min_four   -- for this text's walks alone
set_option linter.unusedVariables false
set_option linter.unusedSimpArgs false
/-! ### block_Fits: function 128 -/
def block_Fits.l0 : Nat → List (S62) → List (S62) → Int → Int → Option (Bool)
  | 0, _, _, _, _ => none
  | k + 1, x0, x5, x6, x7 => if x7 < x6 then (if 0 ≤ x7 then (if x7 < (x5.length : Int) then ((schema_Fits.f ((rd_T62 x5 x7).f0) ((rd_T62 x5 x7).f1) ((rd_T62 x5 x7).f2) ((rd_T62 x5 x7).f3.f0) ((rd_T62 x5 x7).f3.f1) ((rd_T62 x5 x7).f3.f2) ((rd_T62 x5 x7).f4)).bind fun t408 => (if t408 = true then (if 0 < (x0.length : Int) then (if ((rd_T62 x5 x7).f0) = (wrap64 (((rd_T62 x0 0).f0) + x7)) then (block_Fits.l0 k x0 x5 x6 (wrap64 (x7 + 1))) else (some false)) else (none)) else (some false))) else (none)) else (none)) else (if (x0.length : Int) > 0 then (some (decide ((x0.length : Int) ≤ 256))) else (some false))
def block_Fits.f (k : Nat) (l0 : List (S62)) : Option (Bool) := block_Fits.l0 k l0 l0 (l0.length : Int) 0
def block_Fits.T4 : Bool × List (List Nat × List Nat) := (true, [([], []), ([0], [0]), ([1], [1]), ([2, 1], [2]), ([3], [3]), ([4, 3], [3, 4]), ([3], [3]), ([6, 3], [3, 6]), ([7, 3], [3, 7]), ([8, 3], [3, 8]), ([3], [3]), ([9, 10, 3], [3, 9, 10]), ([5, 11, 3], [3, 5, 11]), ([3, 12], [3, 12])])
def block_Fits.B4 : List Nat := [0, 1, 3, 7, 15, 31, 15, 79, 207, 463, 15, 1999, 4095, 8191]
theorem block_Fits.tab4 : rtab .any (opsOf Tryz.f128 4) = block_Fits.T4 := by kernel_rfl
theorem block_Fits.bits4 : waitsOk block_Fits.T4.2 block_Fits.B4 = true := by kernel_rfl
set_option maxHeartbeats 8000000 in
set_option maxRecDepth 100000 in
theorem block_Fits.calls (k : Nat) (A0 : Option Addr) (c0 : Nat) (l0 : List (S62)) (r : Bool) (w : World) (hr0 : Kd.C k62 w A0 l0.length l0) (hc0 : l0.length ≤ c0) (h : block_Fits.f k l0 = some r) :
    Calls Tryz.prog 128 #[.slice A0 l0.length c0] w fun e w' => e = .returned (.bool r) ∧ Below w.heap.size w w' := by
  have hu62 := Tryz.underlying62
  have HR0 := Aside0.mk hr0
  have HC0 := Aside0.mk hc0
  clear hr0 hc0
  have HB := Aside0.mk (Below.refl w.heap.size w)
  have H : (block_Fits.l0 k l0 l0 (l0.length : Int) 0) = some r := h
  clear h
  have H' := Aside0.mk H
  clear H
  go_enter Tryz.func128, Tryz.ntmps128
  go_wp2
  go_loopg [7] k (fun kq v7 w' => ∃ (x7_1 : Int), v7 = .int .i64 x7_1 ∧ Aside0 (block_Fits.l0 kq l0 l0 (l0.length : Int) x7_1 = some r) ∧ Aside0 (kq ≤ k) ∧ Aside0 (Below w.heap.size w w'))
  case atStart => exact ⟨(0), (by first | rfl | (simp; done) | (simp [*]; done)), H', ⟨Nat.le_refl _⟩, ⟨by repeat (first | (with_reducible first | exact HB.out | apply below_alloc | apply pw_below_drewN | apply below_drew1) | exact HB.out)⟩⟩
  case round =>
    clear H'
    try clear c1
    obtain ⟨x7_1, rfl, HA, HK1, HB⟩ := hrel
    cases gk with
    | zero => exact absurd HA.out (by simp [block_Fits.l0])
    | succ k1 =>
      have H := HA.out
      clear HA
      simp only [block_Fits.l0] at H
      by_cases c2 : x7_1 < (l0.length : Int)
      · rw [if_pos c2] at H
        have c2b0 : decide (x7_1 < (l0.length : Int)) = true := decide_eq_true c2
        clear c2
        by_cases c3 : 0 ≤ x7_1
        · rw [if_pos c3] at H
          have c3b0 : decide (0 ≤ x7_1) = true := decide_eq_true c3
          clear c3
          by_cases c4 : x7_1 < (l0.length : Int)
          · rw [if_pos c4] at H
            have c4b0 : decide (x7_1 < (l0.length : Int)) = true := decide_eq_true c4
            clear c4
            replace H := Option.bind_eq_some_iff.mp H
            obtain ⟨t408, A50, H⟩ := H
            replace H : (if t408 = true then (if 0 < (l0.length : Int) then (if ((rd_T62 l0 x7_1).f0) = (wrap64 (((rd_T62 l0 0).f0) + x7_1)) then (block_Fits.l0 k1 l0 l0 (l0.length : Int) (wrap64 (x7_1 + 1))) else (some false)) else (none)) else (some false)) = some r := H
            have A5 := Aside0.mk A50
            clear A50
            by_cases c6 : t408 = true
            · subst c6
              have H1 : (if 0 < (l0.length : Int) then (if ((rd_T62 l0 x7_1).f0) = (wrap64 (((rd_T62 l0 0).f0) + x7_1)) then (block_Fits.l0 k1 l0 l0 (l0.length : Int) (wrap64 (x7_1 + 1))) else (some false)) else (none)) = some r := by rw [if_pos rfl] at H; exact H
              clear H
              have H := H1
              clear H1
              by_cases c7 : 0 < (l0.length : Int)
              · rw [if_pos c7] at H
                have c7b0 : decide (0 < (l0.length : Int)) = true := decide_eq_true c7
                have c7b1 : decide (0 < l0.length) = true := decide_eq_true (by omega)
                clear c7
                by_cases c8 : ((rd_T62 l0 x7_1).f0) = (wrap64 (((rd_T62 l0 0).f0) + x7_1))
                · rw [if_pos c8] at H
                  have c8b0 : (((rd_T62 l0 x7_1).f0) == (wrap64 (((rd_T62 l0 0).f0) + x7_1))) = true := beq_iff_eq.mpr c8
                  have c8b1 : (((rd_T62 l0 x7_1).f0) != (wrap64 (((rd_T62 l0 0).f0) + x7_1))) = false := bne_eq_false_iff_eq.mpr c8
                  clear c8
                  have H' := Aside0.mk H
                  clear H
                  have p406 : 0 ≤ (x7_1 : Int) := of_decide_eq_true (by first | (with_reducible assumption) | assumption)
                  have q406 : x7_1 < (l0.length : Int) := of_decide_eq_true (by first | (with_reducible assumption) | assumption)
                  obtain ⟨ad406, e406, hx406_0, hx406_1, hx406_2, hx406_3, hx406_4, hx406_5, hx406_6⟩ := at_T62 HR0.out x7_1 p406 q406
                  cases e406
                  replace hx406_0 := (HB.out.cell (World.block_lt_of_cell? w _ hx406_0)).trans hx406_0
                  replace hx406_1 := (HB.out.cell (World.block_lt_of_cell? w _ hx406_1)).trans hx406_1
                  replace hx406_2 := (HB.out.cell (World.block_lt_of_cell? w _ hx406_2)).trans hx406_2
                  replace hx406_3 := (HB.out.cell (World.block_lt_of_cell? w _ hx406_3)).trans hx406_3
                  replace hx406_4 := (HB.out.cell (World.block_lt_of_cell? w _ hx406_4)).trans hx406_4
                  replace hx406_5 := (HB.out.cell (World.block_lt_of_cell? w _ hx406_5)).trans hx406_5
                  replace hx406_6 := (HB.out.cell (World.block_lt_of_cell? w _ hx406_6)).trans hx406_6
                  replace p406 := eq_true p406
                  replace q406 := eq_true q406
                  try go_wp2_with (first | ((with_reducible refine gate_dst (N := 4) rfl ?_); (try (refine gate_guard (by rfl) ?_; dsimp only)); refine box_event ?hg (N := 4) ?hd (cs := #[.int .i64 0, .int .i64 0, .int .i64 0, .int .i64 0, .int .i64 0, .int .i64 0, .int .i64 0]) (t := 62) ?hr ?_; (case hd => rfl); (case hg => rfl); (case hr => first | (go_simp; done) | (go_simp; rfl)); intro gb407 hg w9 hbox hb; have n0_ := Aside0.mk (below_step (by repeat (first | (with_reducible first | exact HB.out | apply below_alloc | apply pw_below_drewN | apply below_drew1) | exact HB.out)) hb); have n1_ := Aside0.mk (hbox); have n2_ := Aside0.mk ((by rw [hg]; exact (below_size (by repeat (first | (with_reducible first | exact HB.out | apply below_alloc | apply pw_below_drewN | apply below_drew1) | exact HB.out))) : w.heap.size ≤ gb407)); have n3_ := Aside0.mk ((by rw [hg]; exact (below_size (by repeat (first | (with_reducible first | exact HB.out | apply below_alloc | apply pw_below_drewN | apply below_drew1) | exact HB.out))) : w.heap.size ≤ gb407)); clear HB; have HB := n0_; have BK407 := n1_; have GW407 := n2_; have GE407 := n3_; clear n0_ n1_ n2_ n3_; clear hb hbox hg; have hcz10_0 : w9.cell? ⟨gb407, 0, none⟩ = some (.int .i64 0) := (blk_cell BK407.out 0).trans rfl; have hcz10_1 : w9.cell? ⟨gb407, 1, none⟩ = some (.int .i64 0) := (blk_cell BK407.out 1).trans rfl; have hcz10_2 : w9.cell? ⟨gb407, 2, none⟩ = some (.int .i64 0) := (blk_cell BK407.out 2).trans rfl; have hcz10_3 : w9.cell? ⟨gb407, 3, none⟩ = some (.int .i64 0) := (blk_cell BK407.out 3).trans rfl; have hcz10_4 : w9.cell? ⟨gb407, 4, none⟩ = some (.int .i64 0) := (blk_cell BK407.out 4).trans rfl; have hcz10_5 : w9.cell? ⟨gb407, 5, none⟩ = some (.int .i64 0) := (blk_cell BK407.out 5).trans rfl; have hcz10_6 : w9.cell? ⟨gb407, 6, none⟩ = some (.int .i64 0) := (blk_cell BK407.out 6).trans rfl; have hfz10_0 := blk_frozen BK407.out 0; have hfz10_1 := blk_frozen BK407.out 1; have hfz10_2 := blk_frozen BK407.out 2; have hfz10_3 := blk_frozen BK407.out 3; have hfz10_4 := blk_frozen BK407.out 4; have hfz10_5 := blk_frozen BK407.out 5; have hfz10_6 := blk_frozen BK407.out 6))
                  have n0_ : Aside0 ((((((((w9.setCell ⟨gb407, 0, none⟩ (.int .i64 ((rd_T62 l0 x7_1).f0))).setCell ⟨gb407, 1, none⟩ (.int .i64 ((rd_T62 l0 x7_1).f1))).setCell ⟨gb407, 2, none⟩ (.int .i64 ((rd_T62 l0 x7_1).f2))).setCell ⟨gb407, 3, none⟩ (.int .i64 ((rd_T62 l0 x7_1).f3.f0))).setCell ⟨gb407, 4, none⟩ (.int .i64 ((rd_T62 l0 x7_1).f3.f1))).setCell ⟨gb407, 5, none⟩ (.int .i64 ((rd_T62 l0 x7_1).f3.f2))).setCell ⟨gb407, 6, none⟩ (.int .i64 ((rd_T62 l0 x7_1).f4))).heap[gb407]? = some (.cells #[.int .i64 ((rd_T62 l0 x7_1).f0), .int .i64 ((rd_T62 l0 x7_1).f1), .int .i64 ((rd_T62 l0 x7_1).f2), .int .i64 ((rd_T62 l0 x7_1).f3.f0), .int .i64 ((rd_T62 l0 x7_1).f3.f1), .int .i64 ((rd_T62 l0 x7_1).f3.f2), .int .i64 ((rd_T62 l0 x7_1).f4)] 62 (0, 0))) := ⟨by (with_reducible repeat (first | refine blk_drewN ?_ _ | refine blk_drew ?_ | refine blk_alloc ?_ _)); refine blk_put (cs := #[.int .i64 ((rd_T62 l0 x7_1).f0), .int .i64 ((rd_T62 l0 x7_1).f1), .int .i64 ((rd_T62 l0 x7_1).f2), .int .i64 ((rd_T62 l0 x7_1).f3.f0), .int .i64 ((rd_T62 l0 x7_1).f3.f1), .int .i64 ((rd_T62 l0 x7_1).f3.f2), .int .i64 0]) ?_ 6 _ (by first | rfl | (simp only [gt_iff_lt, *]; rfl) | (simp [*]; done)); (with_reducible repeat (first | refine blk_drewN ?_ _ | refine blk_drew ?_ | refine blk_alloc ?_ _)); refine blk_put (cs := #[.int .i64 ((rd_T62 l0 x7_1).f0), .int .i64 ((rd_T62 l0 x7_1).f1), .int .i64 ((rd_T62 l0 x7_1).f2), .int .i64 ((rd_T62 l0 x7_1).f3.f0), .int .i64 ((rd_T62 l0 x7_1).f3.f1), .int .i64 0, .int .i64 0]) ?_ 5 _ (by first | rfl | (simp only [gt_iff_lt, *]; rfl) | (simp [*]; done)); (with_reducible repeat (first | refine blk_drewN ?_ _ | refine blk_drew ?_ | refine blk_alloc ?_ _)); refine blk_put (cs := #[.int .i64 ((rd_T62 l0 x7_1).f0), .int .i64 ((rd_T62 l0 x7_1).f1), .int .i64 ((rd_T62 l0 x7_1).f2), .int .i64 ((rd_T62 l0 x7_1).f3.f0), .int .i64 0, .int .i64 0, .int .i64 0]) ?_ 4 _ (by first | rfl | (simp only [gt_iff_lt, *]; rfl) | (simp [*]; done)); (with_reducible repeat (first | refine blk_drewN ?_ _ | refine blk_drew ?_ | refine blk_alloc ?_ _)); refine blk_put (cs := #[.int .i64 ((rd_T62 l0 x7_1).f0), .int .i64 ((rd_T62 l0 x7_1).f1), .int .i64 ((rd_T62 l0 x7_1).f2), .int .i64 0, .int .i64 0, .int .i64 0, .int .i64 0]) ?_ 3 _ (by first | rfl | (simp only [gt_iff_lt, *]; rfl) | (simp [*]; done)); (with_reducible repeat (first | refine blk_drewN ?_ _ | refine blk_drew ?_ | refine blk_alloc ?_ _)); refine blk_put (cs := #[.int .i64 ((rd_T62 l0 x7_1).f0), .int .i64 ((rd_T62 l0 x7_1).f1), .int .i64 0, .int .i64 0, .int .i64 0, .int .i64 0, .int .i64 0]) ?_ 2 _ (by first | rfl | (simp only [gt_iff_lt, *]; rfl) | (simp [*]; done)); (with_reducible repeat (first | refine blk_drewN ?_ _ | refine blk_drew ?_ | refine blk_alloc ?_ _)); refine blk_put (cs := #[.int .i64 ((rd_T62 l0 x7_1).f0), .int .i64 0, .int .i64 0, .int .i64 0, .int .i64 0, .int .i64 0, .int .i64 0]) ?_ 1 _ (by first | rfl | (simp only [gt_iff_lt, *]; rfl) | (simp [*]; done)); (with_reducible repeat (first | refine blk_drewN ?_ _ | refine blk_drew ?_ | refine blk_alloc ?_ _)); refine blk_put (cs := #[.int .i64 0, .int .i64 0, .int .i64 0, .int .i64 0, .int .i64 0, .int .i64 0, .int .i64 0]) ?_ 0 _ (by first | rfl | (simp only [gt_iff_lt, *]; rfl) | (simp [*]; done)); (with_reducible repeat (first | refine blk_drewN ?_ _ | refine blk_drew ?_ | refine blk_alloc ?_ _)); exact BK407.out⟩
                  have n1_ : Aside0 (Below w.heap.size w (((((((w9.setCell ⟨gb407, 0, none⟩ (.int .i64 ((rd_T62 l0 x7_1).f0))).setCell ⟨gb407, 1, none⟩ (.int .i64 ((rd_T62 l0 x7_1).f1))).setCell ⟨gb407, 2, none⟩ (.int .i64 ((rd_T62 l0 x7_1).f2))).setCell ⟨gb407, 3, none⟩ (.int .i64 ((rd_T62 l0 x7_1).f3.f0))).setCell ⟨gb407, 4, none⟩ (.int .i64 ((rd_T62 l0 x7_1).f3.f1))).setCell ⟨gb407, 5, none⟩ (.int .i64 ((rd_T62 l0 x7_1).f3.f2))).setCell ⟨gb407, 6, none⟩ (.int .i64 ((rd_T62 l0 x7_1).f4)))) := ⟨by repeat (first | (with_reducible first | exact HB.out | apply below_alloc | apply pw_below_drewN | apply below_drew1 | refine below_set ?_ GE407.out) | exact HB.out)⟩
                  (try clear BK407)
                  (try clear HB)
                  generalize (((((((w9.setCell ⟨gb407, 0, none⟩ (.int .i64 ((rd_T62 l0 x7_1).f0))).setCell ⟨gb407, 1, none⟩ (.int .i64 ((rd_T62 l0 x7_1).f1))).setCell ⟨gb407, 2, none⟩ (.int .i64 ((rd_T62 l0 x7_1).f2))).setCell ⟨gb407, 3, none⟩ (.int .i64 ((rd_T62 l0 x7_1).f3.f0))).setCell ⟨gb407, 4, none⟩ (.int .i64 ((rd_T62 l0 x7_1).f3.f1))).setCell ⟨gb407, 5, none⟩ (.int .i64 ((rd_T62 l0 x7_1).f3.f2))).setCell ⟨gb407, 6, none⟩ (.int .i64 ((rd_T62 l0 x7_1).f4))) = w11 at n0_ n1_ ⊢
                  have BK407 := n0_
                  have HB := n1_
                  clear n0_ n1_
                  have n0_ := Aside0.mk (blk_drew BK407.out)
                  have n1_ := Aside0.mk (below_drew1 HB.out)
                  clear BK407
                  clear HB
                  have BK407 := n0_
                  have HB := n1_
                  clear n0_ n1_
                  have p409 : 0 ≤ (0 : Int) := (by omega)
                  have q409 : 0 < (l0.length : Int) := of_decide_eq_true (by first | (with_reducible assumption) | assumption)
                  obtain ⟨ad409, e409, hx409_0, hx409_1, hx409_2, hx409_3, hx409_4, hx409_5, hx409_6⟩ := at_T62 HR0.out 0 p409 q409
                  have hw409_6 := hx409_6
                  (try rw [show ((0 : Int)).toNat = 0 from rfl] at hw409_6)
                  (try rw [show 0 * 7 = 0 from rfl] at hw409_6)
                  (try rw [Addr.add_zero'] at hw409_6)
                  have hw409_5 := hx409_5
                  (try rw [show ((0 : Int)).toNat = 0 from rfl] at hw409_5)
                  (try rw [show 0 * 7 = 0 from rfl] at hw409_5)
                  (try rw [Addr.add_zero'] at hw409_5)
                  have hw409_4 := hx409_4
                  (try rw [show ((0 : Int)).toNat = 0 from rfl] at hw409_4)
                  (try rw [show 0 * 7 = 0 from rfl] at hw409_4)
                  (try rw [Addr.add_zero'] at hw409_4)
                  have hw409_3 := hx409_3
                  (try rw [show ((0 : Int)).toNat = 0 from rfl] at hw409_3)
                  (try rw [show 0 * 7 = 0 from rfl] at hw409_3)
                  (try rw [Addr.add_zero'] at hw409_3)
                  have hw409_2 := hx409_2
                  (try rw [show ((0 : Int)).toNat = 0 from rfl] at hw409_2)
                  (try rw [show 0 * 7 = 0 from rfl] at hw409_2)
                  (try rw [Addr.add_zero'] at hw409_2)
                  have hw409_1 := hx409_1
                  (try rw [show ((0 : Int)).toNat = 0 from rfl] at hw409_1)
                  (try rw [show 0 * 7 = 0 from rfl] at hw409_1)
                  (try rw [Addr.add_zero'] at hw409_1)
                  have hw409_0 := hx409_0
                  (try rw [show ((0 : Int)).toNat = 0 from rfl] at hw409_0)
                  (try rw [show 0 * 7 = 0 from rfl] at hw409_0)
                  (try rw [Addr.add_zero'] at hw409_0)
                  obtain rfl : ad406 = ad409 := (by injection e409)
                  have qi409 : (0 < l0.length) = True := eq_true (by omega)
                  (try rw [show ((0 : Int)).toNat = 0 from rfl] at hx409_0)
                  (try rw [show 0 * 7 = 0 from rfl] at hx409_0)
                  (try rw [Addr.add_zero'] at hx409_0)
                  (try rw [show ((0 : Int)).toNat = 0 from rfl] at hx409_1)
                  (try rw [show 0 * 7 = 0 from rfl] at hx409_1)
                  (try rw [Addr.add_zero'] at hx409_1)
                  (try rw [show ((0 : Int)).toNat = 0 from rfl] at hx409_2)
                  (try rw [show 0 * 7 = 0 from rfl] at hx409_2)
                  (try rw [Addr.add_zero'] at hx409_2)
                  (try rw [show ((0 : Int)).toNat = 0 from rfl] at hx409_3)
                  (try rw [show 0 * 7 = 0 from rfl] at hx409_3)
                  (try rw [Addr.add_zero'] at hx409_3)
                  (try rw [show ((0 : Int)).toNat = 0 from rfl] at hx409_4)
                  (try rw [show 0 * 7 = 0 from rfl] at hx409_4)
                  (try rw [Addr.add_zero'] at hx409_4)
                  (try rw [show ((0 : Int)).toNat = 0 from rfl] at hx409_5)
                  (try rw [show 0 * 7 = 0 from rfl] at hx409_5)
                  (try rw [Addr.add_zero'] at hx409_5)
                  (try rw [show ((0 : Int)).toNat = 0 from rfl] at hx409_6)
                  (try rw [show 0 * 7 = 0 from rfl] at hx409_6)
                  (try rw [Addr.add_zero'] at hx409_6)
                  replace hx409_0 := (HB.out.cell (World.block_lt_of_cell? w _ hx409_0)).trans hx409_0
                  replace hx409_1 := (HB.out.cell (World.block_lt_of_cell? w _ hx409_1)).trans hx409_1
                  replace hx409_2 := (HB.out.cell (World.block_lt_of_cell? w _ hx409_2)).trans hx409_2
                  replace hx409_3 := (HB.out.cell (World.block_lt_of_cell? w _ hx409_3)).trans hx409_3
                  replace hx409_4 := (HB.out.cell (World.block_lt_of_cell? w _ hx409_4)).trans hx409_4
                  replace hx409_5 := (HB.out.cell (World.block_lt_of_cell? w _ hx409_5)).trans hx409_5
                  replace hx409_6 := (HB.out.cell (World.block_lt_of_cell? w _ hx409_6)).trans hx409_6
                  replace p409 := eq_true p409
                  replace q409 := eq_true q409
                  refine start_ (n := 14) (S := fun w' => w'.cell? ⟨gb407, 0, none⟩ = some (.int .i64 ((rd_T62 l0 x7_1).f0)) ∧ w'.cell? ⟨gb407, 1, none⟩ = some (.int .i64 ((rd_T62 l0 x7_1).f1)) ∧ w'.cell? ⟨gb407, 2, none⟩ = some (.int .i64 ((rd_T62 l0 x7_1).f2)) ∧ w'.cell? ⟨gb407, 3, none⟩ = some (.int .i64 ((rd_T62 l0 x7_1).f3.f0)) ∧ w'.cell? ⟨gb407, 4, none⟩ = some (.int .i64 ((rd_T62 l0 x7_1).f3.f1)) ∧ w'.cell? ⟨gb407, 5, none⟩ = some (.int .i64 ((rd_T62 l0 x7_1).f3.f2)) ∧ w'.cell? ⟨gb407, 6, none⟩ = some (.int .i64 ((rd_T62 l0 x7_1).f4)) ∧ w'.cell? ad406 = some (.int .i64 ((rd_T62 l0 0).f0)) ∧ w'.cell? ⟨ad406.block, ad406.off + 1, none⟩ = some (.int .i64 ((rd_T62 l0 0).f1)) ∧ w'.cell? ⟨ad406.block, ad406.off + 2, none⟩ = some (.int .i64 ((rd_T62 l0 0).f2)) ∧ w'.cell? ⟨ad406.block, ad406.off + 3, none⟩ = some (.int .i64 ((rd_T62 l0 0).f3.f0)) ∧ w'.cell? ⟨ad406.block, ad406.off + 4, none⟩ = some (.int .i64 ((rd_T62 l0 0).f3.f1)) ∧ w'.cell? ⟨ad406.block, ad406.off + 5, none⟩ = some (.int .i64 ((rd_T62 l0 0).f3.f2)) ∧ w'.cell? ⟨ad406.block, ad406.off + 6, none⟩ = some (.int .i64 ((rd_T62 l0 0).f4))) (ds := []) #[false, false, false, false, false, false, false, false, false, false, false, false, false, false] (by kernel_rfl) rfl rfl ⟨(blk_cell BK407.out 0).trans rfl, (blk_cell BK407.out 1).trans rfl, (blk_cell BK407.out 2).trans rfl, (blk_cell BK407.out 3).trans rfl, (blk_cell BK407.out 4).trans rfl, (blk_cell BK407.out 5).trans rfl, (blk_cell BK407.out 6).trans rfl, ((HB.out.cell (World.block_lt_of_cell? w _ hw409_0)).trans hw409_0), ((HB.out.cell (World.block_lt_of_cell? w _ hw409_1)).trans hw409_1), ((HB.out.cell (World.block_lt_of_cell? w _ hw409_2)).trans hw409_2), ((HB.out.cell (World.block_lt_of_cell? w _ hw409_3)).trans hw409_3), ((HB.out.cell (World.block_lt_of_cell? w _ hw409_4)).trans hw409_4), ((HB.out.cell (World.block_lt_of_cell? w _ hw409_5)).trans hw409_5), ((HB.out.cell (World.block_lt_of_cell? w _ hw409_6)).trans hw409_6)⟩ (fun hHeld => ?_); refine with_tabW block_Fits.tab4 block_Fits.bits4 (fun HT_ HW_ => ?_)
                  generalize w11.drew = w12 at BK407 HB hx409_0 hx409_1 hx409_2 hx409_3 hx409_4 hx409_5 hx409_6 hHeld ⊢
                  refine take_ (i := 0) (N := some 12) (v := ?_) (a' := ?_) #[true, false, false, false, false, false, false, false, false, false, false, false, false, false] rfl rfl (take_ofW HT_.out HW_.out (by kernel_rfl)) (fun _ _ _ h => h) (Or.inl ⟨by rfl, ?_⟩) hHeld ?_ ?_
                  rotate_left
                  · rintro w' ⟨s0, s1, s2, s3, s4, s5, s6, s7, s8, s9, s10, s11, s12, s13⟩
                    go_simp
                    with_reducible rfl
                  rotate_left
                  · simp only [Act.put, List.setIfInBounds_toArray, List.set_cons_zero, List.set_cons_succ, i64_w, i32_w]
                    rfl
                  refine one_ (i := 1) (N := some 13) #[true, true, false, false, false, false, false, false, false, false, false, false, false, false] rfl rfl (one_of HT_.out (by kernel_rfl)) (by decide) (fun K hK => ?_)
                  refine goes_ Tryz.func43 (by kernel_rfl) rfl #[.agg #[.int .i64 ((rd_T62 l0 x7_1).f0), .int .i64 ((rd_T62 l0 x7_1).f1), .int .i64 ((rd_T62 l0 x7_1).f2), .int .i64 ((rd_T62 l0 x7_1).f3.f0), .int .i64 ((rd_T62 l0 x7_1).f3.f1), .int .i64 ((rd_T62 l0 x7_1).f3.f2), .int .i64 ((rd_T62 l0 x7_1).f4)]] (by rfl) rfl rfl (by (try simp only [List.map_toArray, List.map_cons, List.map_nil]); first | done | rfl | (simp only [List.length_drop, List.length_take]; rfl)) ?_
                  with_reducible refine (schema_Fits.calls ((rd_T62 l0 x7_1).f0) ((rd_T62 l0 x7_1).f1) ((rd_T62 l0 x7_1).f2) ((rd_T62 l0 x7_1).f3.f0) ((rd_T62 l0 x7_1).f3.f1) ((rd_T62 l0 x7_1).f3.f2) ((rd_T62 l0 x7_1).f4) true _ A5.out).mono ?_
                  rintro e w13 ⟨rfl, hb⟩
                  refine ⟨_, rfl, ?_⟩
                  have n0_ := Aside0.mk (blk_below (g := gb407) (o := .cells #[.int .i64 ((rd_T62 l0 x7_1).f0), .int .i64 ((rd_T62 l0 x7_1).f1), .int .i64 ((rd_T62 l0 x7_1).f2), .int .i64 ((rd_T62 l0 x7_1).f3.f0), .int .i64 ((rd_T62 l0 x7_1).f3.f1), .int .i64 ((rd_T62 l0 x7_1).f3.f2), .int .i64 ((rd_T62 l0 x7_1).f4)] 62 (0, 0)) (by (with_reducible repeat (first | refine blk_drewN ?_ _ | refine blk_drew ?_ | refine blk_alloc ?_ _)); exact BK407.out) hb)
                  have n1_ := Aside0.mk (below_step (by repeat (first | (with_reducible first | exact HB.out | apply below_alloc | apply pw_below_drewN | apply below_drew1 | refine below_set ?_ GE407.out) | exact HB.out)) hb)
                  clear BK407
                  clear HB
                  have BK407 := n0_
                  have HB := n1_
                  clear n0_ n1_
                  (try clear hb)
                  (try clear hb2)
                  (try clear hk)
                  (try clear hi)
                  refine hK.out _ _ ⟨(blk_cell BK407.out 0).trans rfl, (blk_cell BK407.out 1).trans rfl, (blk_cell BK407.out 2).trans rfl, (blk_cell BK407.out 3).trans rfl, (blk_cell BK407.out 4).trans rfl, (blk_cell BK407.out 5).trans rfl, (blk_cell BK407.out 6).trans rfl, ((HB.out.cell (World.block_lt_of_cell? w _ hw409_0)).trans hw409_0), ((HB.out.cell (World.block_lt_of_cell? w _ hw409_1)).trans hw409_1), ((HB.out.cell (World.block_lt_of_cell? w _ hw409_2)).trans hw409_2), ((HB.out.cell (World.block_lt_of_cell? w _ hw409_3)).trans hw409_3), ((HB.out.cell (World.block_lt_of_cell? w _ hw409_4)).trans hw409_4), ((HB.out.cell (World.block_lt_of_cell? w _ hw409_5)).trans hw409_5), ((HB.out.cell (World.block_lt_of_cell? w _ hw409_6)).trans hw409_6)⟩ (fun hHeld => ?_)
                  clear hK K
                  refine norm_ (a' := ?_) ?_ ?_
                  rotate_left
                  · show Act.put _ (some 13) _ = _
                    simp only [Act.put, List.setIfInBounds_toArray, List.set_cons_zero, List.set_cons_succ, i64_w, i32_w]
                    rfl
                  refine pure_ (i := 2) (N := some 14) (v := ?_) (a' := ?_) #[true, true, true, false, false, false, false, false, false, false, false, false, false, false] rfl rfl (any_of HT_.out (by kernel_rfl)) (fun _ _ _ h => h) (Or.inl ⟨by rfl, ?_⟩) ?_ ?_
                  rotate_left
                  · intro w'
                    go_simp
                    with_reducible rfl
                  rotate_left
                  · simp only [Act.put, List.setIfInBounds_toArray, List.set_cons_zero, List.set_cons_succ, i64_w, i32_w]
                    rfl
                  refine pure_ (i := 3) (N := some 15) (v := ?_) (a' := ?_) #[true, true, true, true, false, false, false, false, false, false, false, false, false, false] rfl rfl (any_of HT_.out (by kernel_rfl)) (fun _ _ _ h => h) (Or.inl ⟨by rfl, ?_⟩) ?_ ?_
                  rotate_left
                  · intro w'
                    go_simp
                    with_reducible rfl
                  rotate_left
                  · simp only [Act.put, List.setIfInBounds_toArray, List.set_cons_zero, List.set_cons_succ, i64_w, i32_w]
                    rfl
                  refine pure_ (i := 4) (N := some 16) (v := ?_) (a' := ?_) #[true, true, true, true, true, false, false, false, false, false, false, false, false, false] rfl rfl (any_of HT_.out (by kernel_rfl)) (fun _ _ _ h => h) (Or.inl ⟨by rfl, ?_⟩) ?_ ?_
                  rotate_left
                  · intro w'
                    go_simp
                    with_reducible rfl
                  rotate_left
                  · simp only [Act.put, List.setIfInBounds_toArray, List.set_cons_zero, List.set_cons_succ, i64_w, i32_w]
                    rfl
                  refine pure_ (i := 6) (N := some 18) (v := ?_) (a' := ?_) #[true, true, true, true, true, false, true, false, false, false, false, false, false, false] rfl rfl (any_of HT_.out (by kernel_rfl)) (fun _ _ _ h => h) (Or.inl ⟨by rfl, ?_⟩) ?_ ?_
                  rotate_left
                  · intro w'
                    go_simp
                    with_reducible rfl
                  rotate_left
                  · simp only [Act.put, List.setIfInBounds_toArray, List.set_cons_zero, List.set_cons_succ, i64_w, i32_w]
                    rfl
                  refine pure_ (i := 7) (N := some 19) (v := ?_) (a' := ?_) #[true, true, true, true, true, false, true, true, false, false, false, false, false, false] rfl rfl (any_of HT_.out (by kernel_rfl)) (fun _ _ _ h => h) (Or.inl ⟨by rfl, ?_⟩) ?_ ?_
                  rotate_left
                  · intro w'
                    go_simp
                    with_reducible rfl
                  rotate_left
                  · simp only [Act.put, List.setIfInBounds_toArray, List.set_cons_zero, List.set_cons_succ, i64_w, i32_w]
                    rfl
                  refine pure_ (i := 8) (N := some 20) (v := ?_) (a' := ?_) #[true, true, true, true, true, false, true, true, true, false, false, false, false, false] rfl rfl (any_of HT_.out (by kernel_rfl)) (fun _ _ _ h => h) (Or.inl ⟨by rfl, ?_⟩) ?_ ?_
                  rotate_left
                  · intro w'
                    go_simp
                    with_reducible rfl
                  rotate_left
                  · simp only [Act.put, List.setIfInBounds_toArray, List.set_cons_zero, List.set_cons_succ, i64_w, i32_w]
                    rfl
                  refine pure_ (i := 10) (N := some 22) (v := ?_) (a' := ?_) #[true, true, true, true, true, false, true, true, true, false, true, false, false, false] rfl rfl (any_of HT_.out (by kernel_rfl)) (fun _ _ _ h => h) (Or.inl ⟨by rfl, ?_⟩) ?_ ?_
                  rotate_left
                  · intro w'
                    go_simp
                    with_reducible rfl
                  rotate_left
                  · simp only [Act.put, List.setIfInBounds_toArray, List.set_cons_zero, List.set_cons_succ, i64_w, i32_w]
                    rfl
                  refine take_ (i := 5) (N := some 17) (v := ?_) (a' := ?_) #[true, true, true, true, true, true, true, true, true, false, true, false, false, false] rfl rfl (take_ofW HT_.out HW_.out (by kernel_rfl)) (fun _ _ _ h => h) (Or.inl ⟨by rfl, ?_⟩) hHeld ?_ ?_
                  rotate_left
                  · rintro w' ⟨s0, s1, s2, s3, s4, s5, s6, s7, s8, s9, s10, s11, s12, s13⟩
                    go_simp
                    with_reducible rfl
                  rotate_left
                  · simp only [Act.put, List.setIfInBounds_toArray, List.set_cons_zero, List.set_cons_succ, i64_w, i32_w]
                    rfl
                  refine take_ (i := 9) (N := some 21) (v := ?_) (a' := ?_) #[true, true, true, true, true, true, true, true, true, true, true, false, false, false] rfl rfl (take_ofW HT_.out HW_.out (by kernel_rfl)) (fun _ _ _ h => h) (Or.inl ⟨by rfl, ?_⟩) hHeld ?_ ?_
                  rotate_left
                  · rintro w' ⟨s0, s1, s2, s3, s4, s5, s6, s7, s8, s9, s10, s11, s12, s13⟩
                    go_simp
                    with_reducible rfl
                  rotate_left
                  · simp only [Act.put, List.setIfInBounds_toArray, List.set_cons_zero, List.set_cons_succ, i64_w, i32_w]
                    rfl
                  refine pure_ (i := 11) (N := some 23) (v := ?_) (a' := ?_) #[true, true, true, true, true, true, true, true, true, true, true, true, false, false] rfl rfl (any_of HT_.out (by kernel_rfl)) (fun _ _ _ h => h) (Or.inl ⟨by rfl, ?_⟩) ?_ ?_
                  rotate_left
                  · intro w'
                    go_simp
                    with_reducible rfl
                  rotate_left
                  · simp only [Act.put, List.setIfInBounds_toArray, List.set_cons_zero, List.set_cons_succ, i64_w, i32_w]
                    rfl
                  refine pure_ (i := 12) (N := some 24) (v := ?_) (a' := ?_) #[true, true, true, true, true, true, true, true, true, true, true, true, true, false] rfl rfl (any_of HT_.out (by kernel_rfl)) (fun _ _ _ h => h) (Or.inl ⟨by rfl, ?_⟩) ?_ ?_
                  rotate_left
                  · intro w'
                    go_simp
                    with_reducible rfl
                  rotate_left
                  · simp only [Act.put, List.setIfInBounds_toArray, List.set_cons_zero, List.set_cons_succ, i64_w, i32_w]
                    rfl
                  refine pure_ (i := 13) (N := some 25) (v := ?_) (a' := ?_) #[true, true, true, true, true, true, true, true, true, true, true, true, true, true] rfl rfl (any_of HT_.out (by kernel_rfl)) (fun _ _ _ h => h) (Or.inl ⟨by rfl, ?_⟩) ?_ ?_
                  rotate_left
                  · intro w'
                    go_simp
                    with_reducible rfl
                  rotate_left
                  · simp only [Act.put, List.setIfInBounds_toArray, List.set_cons_zero, List.set_cons_succ, i64_w, i32_w]
                    rfl
                  refine done_ (done_of HT_.out (by kernel_rfl)) ?_
                  try go_wp2
                  go_roundg k1
                  case measure => have := HK1.out; omega
                  case rel => exact ⟨(wrap64 (x7_1 + 1)), (by first | rfl | (simp; done) | (simp [*]; done)), H', ⟨by have := HK1.out; omega⟩, ⟨by repeat (first | (with_reducible first | exact HB.out | apply below_alloc | apply pw_below_drewN | apply below_drew1 | refine below_set ?_ GE407.out) | exact HB.out)⟩⟩
                · rw [if_neg c8] at H
                  have c8b0 : (((rd_T62 l0 x7_1).f0) == (wrap64 (((rd_T62 l0 0).f0) + x7_1))) = false := beq_eq_false_iff_ne.mpr c8
                  have c8b1 : (((rd_T62 l0 x7_1).f0) != (wrap64 (((rd_T62 l0 0).f0) + x7_1))) = true := bne_iff_ne.mpr c8
                  obtain rfl := Option.some.inj H
                  have p406 : 0 ≤ (x7_1 : Int) := of_decide_eq_true (by first | (with_reducible assumption) | assumption)
                  have q406 : x7_1 < (l0.length : Int) := of_decide_eq_true (by first | (with_reducible assumption) | assumption)
                  obtain ⟨ad406, e406, hx406_0, hx406_1, hx406_2, hx406_3, hx406_4, hx406_5, hx406_6⟩ := at_T62 HR0.out x7_1 p406 q406
                  cases e406
                  replace hx406_0 := (HB.out.cell (World.block_lt_of_cell? w _ hx406_0)).trans hx406_0
                  replace hx406_1 := (HB.out.cell (World.block_lt_of_cell? w _ hx406_1)).trans hx406_1
                  replace hx406_2 := (HB.out.cell (World.block_lt_of_cell? w _ hx406_2)).trans hx406_2
                  replace hx406_3 := (HB.out.cell (World.block_lt_of_cell? w _ hx406_3)).trans hx406_3
                  replace hx406_4 := (HB.out.cell (World.block_lt_of_cell? w _ hx406_4)).trans hx406_4
                  replace hx406_5 := (HB.out.cell (World.block_lt_of_cell? w _ hx406_5)).trans hx406_5
                  replace hx406_6 := (HB.out.cell (World.block_lt_of_cell? w _ hx406_6)).trans hx406_6
                  replace p406 := eq_true p406
                  replace q406 := eq_true q406
                  try go_wp2_with (first | ((with_reducible refine gate_dst (N := 4) rfl ?_); (try (refine gate_guard (by rfl) ?_; dsimp only)); refine box_event ?hg (N := 4) ?hd (cs := #[.int .i64 0, .int .i64 0, .int .i64 0, .int .i64 0, .int .i64 0, .int .i64 0, .int .i64 0]) (t := 62) ?hr ?_; (case hd => rfl); (case hg => rfl); (case hr => first | (go_simp; done) | (go_simp; rfl)); intro gb407 hg w14 hbox hb; have n0_ := Aside0.mk (below_step (by repeat (first | (with_reducible first | exact HB.out | apply below_alloc | apply pw_below_drewN | apply below_drew1) | exact HB.out)) hb); have n1_ := Aside0.mk (hbox); have n2_ := Aside0.mk ((by rw [hg]; exact (below_size (by repeat (first | (with_reducible first | exact HB.out | apply below_alloc | apply pw_below_drewN | apply below_drew1) | exact HB.out))) : w.heap.size ≤ gb407)); have n3_ := Aside0.mk ((by rw [hg]; exact (below_size (by repeat (first | (with_reducible first | exact HB.out | apply below_alloc | apply pw_below_drewN | apply below_drew1) | exact HB.out))) : w.heap.size ≤ gb407)); clear HB; have HB := n0_; have BK407 := n1_; have GW407 := n2_; have GE407 := n3_; clear n0_ n1_ n2_ n3_; clear hb hbox hg; have hcz15_0 : w14.cell? ⟨gb407, 0, none⟩ = some (.int .i64 0) := (blk_cell BK407.out 0).trans rfl; have hcz15_1 : w14.cell? ⟨gb407, 1, none⟩ = some (.int .i64 0) := (blk_cell BK407.out 1).trans rfl; have hcz15_2 : w14.cell? ⟨gb407, 2, none⟩ = some (.int .i64 0) := (blk_cell BK407.out 2).trans rfl; have hcz15_3 : w14.cell? ⟨gb407, 3, none⟩ = some (.int .i64 0) := (blk_cell BK407.out 3).trans rfl; have hcz15_4 : w14.cell? ⟨gb407, 4, none⟩ = some (.int .i64 0) := (blk_cell BK407.out 4).trans rfl; have hcz15_5 : w14.cell? ⟨gb407, 5, none⟩ = some (.int .i64 0) := (blk_cell BK407.out 5).trans rfl; have hcz15_6 : w14.cell? ⟨gb407, 6, none⟩ = some (.int .i64 0) := (blk_cell BK407.out 6).trans rfl; have hfz15_0 := blk_frozen BK407.out 0; have hfz15_1 := blk_frozen BK407.out 1; have hfz15_2 := blk_frozen BK407.out 2; have hfz15_3 := blk_frozen BK407.out 3; have hfz15_4 := blk_frozen BK407.out 4; have hfz15_5 := blk_frozen BK407.out 5; have hfz15_6 := blk_frozen BK407.out 6))
                  have n0_ : Aside0 ((((((((w14.setCell ⟨gb407, 0, none⟩ (.int .i64 ((rd_T62 l0 x7_1).f0))).setCell ⟨gb407, 1, none⟩ (.int .i64 ((rd_T62 l0 x7_1).f1))).setCell ⟨gb407, 2, none⟩ (.int .i64 ((rd_T62 l0 x7_1).f2))).setCell ⟨gb407, 3, none⟩ (.int .i64 ((rd_T62 l0 x7_1).f3.f0))).setCell ⟨gb407, 4, none⟩ (.int .i64 ((rd_T62 l0 x7_1).f3.f1))).setCell ⟨gb407, 5, none⟩ (.int .i64 ((rd_T62 l0 x7_1).f3.f2))).setCell ⟨gb407, 6, none⟩ (.int .i64 ((rd_T62 l0 x7_1).f4))).heap[gb407]? = some (.cells #[.int .i64 ((rd_T62 l0 x7_1).f0), .int .i64 ((rd_T62 l0 x7_1).f1), .int .i64 ((rd_T62 l0 x7_1).f2), .int .i64 ((rd_T62 l0 x7_1).f3.f0), .int .i64 ((rd_T62 l0 x7_1).f3.f1), .int .i64 ((rd_T62 l0 x7_1).f3.f2), .int .i64 ((rd_T62 l0 x7_1).f4)] 62 (0, 0))) := ⟨by (with_reducible repeat (first | refine blk_drewN ?_ _ | refine blk_drew ?_ | refine blk_alloc ?_ _)); refine blk_put (cs := #[.int .i64 ((rd_T62 l0 x7_1).f0), .int .i64 ((rd_T62 l0 x7_1).f1), .int .i64 ((rd_T62 l0 x7_1).f2), .int .i64 ((rd_T62 l0 x7_1).f3.f0), .int .i64 ((rd_T62 l0 x7_1).f3.f1), .int .i64 ((rd_T62 l0 x7_1).f3.f2), .int .i64 0]) ?_ 6 _ (by first | rfl | (simp only [gt_iff_lt, *]; rfl) | (simp [*]; done)); (with_reducible repeat (first | refine blk_drewN ?_ _ | refine blk_drew ?_ | refine blk_alloc ?_ _)); refine blk_put (cs := #[.int .i64 ((rd_T62 l0 x7_1).f0), .int .i64 ((rd_T62 l0 x7_1).f1), .int .i64 ((rd_T62 l0 x7_1).f2), .int .i64 ((rd_T62 l0 x7_1).f3.f0), .int .i64 ((rd_T62 l0 x7_1).f3.f1), .int .i64 0, .int .i64 0]) ?_ 5 _ (by first | rfl | (simp only [gt_iff_lt, *]; rfl) | (simp [*]; done)); (with_reducible repeat (first | refine blk_drewN ?_ _ | refine blk_drew ?_ | refine blk_alloc ?_ _)); refine blk_put (cs := #[.int .i64 ((rd_T62 l0 x7_1).f0), .int .i64 ((rd_T62 l0 x7_1).f1), .int .i64 ((rd_T62 l0 x7_1).f2), .int .i64 ((rd_T62 l0 x7_1).f3.f0), .int .i64 0, .int .i64 0, .int .i64 0]) ?_ 4 _ (by first | rfl | (simp only [gt_iff_lt, *]; rfl) | (simp [*]; done)); (with_reducible repeat (first | refine blk_drewN ?_ _ | refine blk_drew ?_ | refine blk_alloc ?_ _)); refine blk_put (cs := #[.int .i64 ((rd_T62 l0 x7_1).f0), .int .i64 ((rd_T62 l0 x7_1).f1), .int .i64 ((rd_T62 l0 x7_1).f2), .int .i64 0, .int .i64 0, .int .i64 0, .int .i64 0]) ?_ 3 _ (by first | rfl | (simp only [gt_iff_lt, *]; rfl) | (simp [*]; done)); (with_reducible repeat (first | refine blk_drewN ?_ _ | refine blk_drew ?_ | refine blk_alloc ?_ _)); refine blk_put (cs := #[.int .i64 ((rd_T62 l0 x7_1).f0), .int .i64 ((rd_T62 l0 x7_1).f1), .int .i64 0, .int .i64 0, .int .i64 0, .int .i64 0, .int .i64 0]) ?_ 2 _ (by first | rfl | (simp only [gt_iff_lt, *]; rfl) | (simp [*]; done)); (with_reducible repeat (first | refine blk_drewN ?_ _ | refine blk_drew ?_ | refine blk_alloc ?_ _)); refine blk_put (cs := #[.int .i64 ((rd_T62 l0 x7_1).f0), .int .i64 0, .int .i64 0, .int .i64 0, .int .i64 0, .int .i64 0, .int .i64 0]) ?_ 1 _ (by first | rfl | (simp only [gt_iff_lt, *]; rfl) | (simp [*]; done)); (with_reducible repeat (first | refine blk_drewN ?_ _ | refine blk_drew ?_ | refine blk_alloc ?_ _)); refine blk_put (cs := #[.int .i64 0, .int .i64 0, .int .i64 0, .int .i64 0, .int .i64 0, .int .i64 0, .int .i64 0]) ?_ 0 _ (by first | rfl | (simp only [gt_iff_lt, *]; rfl) | (simp [*]; done)); (with_reducible repeat (first | refine blk_drewN ?_ _ | refine blk_drew ?_ | refine blk_alloc ?_ _)); exact BK407.out⟩
                  have n1_ : Aside0 (Below w.heap.size w (((((((w14.setCell ⟨gb407, 0, none⟩ (.int .i64 ((rd_T62 l0 x7_1).f0))).setCell ⟨gb407, 1, none⟩ (.int .i64 ((rd_T62 l0 x7_1).f1))).setCell ⟨gb407, 2, none⟩ (.int .i64 ((rd_T62 l0 x7_1).f2))).setCell ⟨gb407, 3, none⟩ (.int .i64 ((rd_T62 l0 x7_1).f3.f0))).setCell ⟨gb407, 4, none⟩ (.int .i64 ((rd_T62 l0 x7_1).f3.f1))).setCell ⟨gb407, 5, none⟩ (.int .i64 ((rd_T62 l0 x7_1).f3.f2))).setCell ⟨gb407, 6, none⟩ (.int .i64 ((rd_T62 l0 x7_1).f4)))) := ⟨by repeat (first | (with_reducible first | exact HB.out | apply below_alloc | apply pw_below_drewN | apply below_drew1 | refine below_set ?_ GE407.out) | exact HB.out)⟩
                  (try clear BK407)
                  (try clear HB)
                  generalize (((((((w14.setCell ⟨gb407, 0, none⟩ (.int .i64 ((rd_T62 l0 x7_1).f0))).setCell ⟨gb407, 1, none⟩ (.int .i64 ((rd_T62 l0 x7_1).f1))).setCell ⟨gb407, 2, none⟩ (.int .i64 ((rd_T62 l0 x7_1).f2))).setCell ⟨gb407, 3, none⟩ (.int .i64 ((rd_T62 l0 x7_1).f3.f0))).setCell ⟨gb407, 4, none⟩ (.int .i64 ((rd_T62 l0 x7_1).f3.f1))).setCell ⟨gb407, 5, none⟩ (.int .i64 ((rd_T62 l0 x7_1).f3.f2))).setCell ⟨gb407, 6, none⟩ (.int .i64 ((rd_T62 l0 x7_1).f4))) = w16 at n0_ n1_ ⊢
                  have BK407 := n0_
                  have HB := n1_
                  clear n0_ n1_
                  have n0_ := Aside0.mk (blk_drew BK407.out)
                  have n1_ := Aside0.mk (below_drew1 HB.out)
                  clear BK407
                  clear HB
                  have BK407 := n0_
                  have HB := n1_
                  clear n0_ n1_
                  have p409 : 0 ≤ (0 : Int) := (by omega)
                  have q409 : 0 < (l0.length : Int) := of_decide_eq_true (by first | (with_reducible assumption) | assumption)
                  obtain ⟨ad409, e409, hx409_0, hx409_1, hx409_2, hx409_3, hx409_4, hx409_5, hx409_6⟩ := at_T62 HR0.out 0 p409 q409
                  have hw409_6 := hx409_6
                  (try rw [show ((0 : Int)).toNat = 0 from rfl] at hw409_6)
                  (try rw [show 0 * 7 = 0 from rfl] at hw409_6)
                  (try rw [Addr.add_zero'] at hw409_6)
                  have hw409_5 := hx409_5
                  (try rw [show ((0 : Int)).toNat = 0 from rfl] at hw409_5)
                  (try rw [show 0 * 7 = 0 from rfl] at hw409_5)
                  (try rw [Addr.add_zero'] at hw409_5)
                  have hw409_4 := hx409_4
                  (try rw [show ((0 : Int)).toNat = 0 from rfl] at hw409_4)
                  (try rw [show 0 * 7 = 0 from rfl] at hw409_4)
                  (try rw [Addr.add_zero'] at hw409_4)
                  have hw409_3 := hx409_3
                  (try rw [show ((0 : Int)).toNat = 0 from rfl] at hw409_3)
                  (try rw [show 0 * 7 = 0 from rfl] at hw409_3)
                  (try rw [Addr.add_zero'] at hw409_3)
                  have hw409_2 := hx409_2
                  (try rw [show ((0 : Int)).toNat = 0 from rfl] at hw409_2)
                  (try rw [show 0 * 7 = 0 from rfl] at hw409_2)
                  (try rw [Addr.add_zero'] at hw409_2)
                  have hw409_1 := hx409_1
                  (try rw [show ((0 : Int)).toNat = 0 from rfl] at hw409_1)
                  (try rw [show 0 * 7 = 0 from rfl] at hw409_1)
                  (try rw [Addr.add_zero'] at hw409_1)
                  have hw409_0 := hx409_0
                  (try rw [show ((0 : Int)).toNat = 0 from rfl] at hw409_0)
                  (try rw [show 0 * 7 = 0 from rfl] at hw409_0)
                  (try rw [Addr.add_zero'] at hw409_0)
                  obtain rfl : ad406 = ad409 := (by injection e409)
                  have qi409 : (0 < l0.length) = True := eq_true (by omega)
                  (try rw [show ((0 : Int)).toNat = 0 from rfl] at hx409_0)
                  (try rw [show 0 * 7 = 0 from rfl] at hx409_0)
                  (try rw [Addr.add_zero'] at hx409_0)
                  (try rw [show ((0 : Int)).toNat = 0 from rfl] at hx409_1)
                  (try rw [show 0 * 7 = 0 from rfl] at hx409_1)
                  (try rw [Addr.add_zero'] at hx409_1)
                  (try rw [show ((0 : Int)).toNat = 0 from rfl] at hx409_2)
                  (try rw [show 0 * 7 = 0 from rfl] at hx409_2)
                  (try rw [Addr.add_zero'] at hx409_2)
                  (try rw [show ((0 : Int)).toNat = 0 from rfl] at hx409_3)
                  (try rw [show 0 * 7 = 0 from rfl] at hx409_3)
                  (try rw [Addr.add_zero'] at hx409_3)
                  (try rw [show ((0 : Int)).toNat = 0 from rfl] at hx409_4)
                  (try rw [show 0 * 7 = 0 from rfl] at hx409_4)
                  (try rw [Addr.add_zero'] at hx409_4)
                  (try rw [show ((0 : Int)).toNat = 0 from rfl] at hx409_5)
                  (try rw [show 0 * 7 = 0 from rfl] at hx409_5)
                  (try rw [Addr.add_zero'] at hx409_5)
                  (try rw [show ((0 : Int)).toNat = 0 from rfl] at hx409_6)
                  (try rw [show 0 * 7 = 0 from rfl] at hx409_6)
                  (try rw [Addr.add_zero'] at hx409_6)
                  replace hx409_0 := (HB.out.cell (World.block_lt_of_cell? w _ hx409_0)).trans hx409_0
                  replace hx409_1 := (HB.out.cell (World.block_lt_of_cell? w _ hx409_1)).trans hx409_1
                  replace hx409_2 := (HB.out.cell (World.block_lt_of_cell? w _ hx409_2)).trans hx409_2
                  replace hx409_3 := (HB.out.cell (World.block_lt_of_cell? w _ hx409_3)).trans hx409_3
                  replace hx409_4 := (HB.out.cell (World.block_lt_of_cell? w _ hx409_4)).trans hx409_4
                  replace hx409_5 := (HB.out.cell (World.block_lt_of_cell? w _ hx409_5)).trans hx409_5
                  replace hx409_6 := (HB.out.cell (World.block_lt_of_cell? w _ hx409_6)).trans hx409_6
                  replace p409 := eq_true p409
                  replace q409 := eq_true q409
                  refine start_ (n := 14) (S := fun w' => w'.cell? ⟨gb407, 0, none⟩ = some (.int .i64 ((rd_T62 l0 x7_1).f0)) ∧ w'.cell? ⟨gb407, 1, none⟩ = some (.int .i64 ((rd_T62 l0 x7_1).f1)) ∧ w'.cell? ⟨gb407, 2, none⟩ = some (.int .i64 ((rd_T62 l0 x7_1).f2)) ∧ w'.cell? ⟨gb407, 3, none⟩ = some (.int .i64 ((rd_T62 l0 x7_1).f3.f0)) ∧ w'.cell? ⟨gb407, 4, none⟩ = some (.int .i64 ((rd_T62 l0 x7_1).f3.f1)) ∧ w'.cell? ⟨gb407, 5, none⟩ = some (.int .i64 ((rd_T62 l0 x7_1).f3.f2)) ∧ w'.cell? ⟨gb407, 6, none⟩ = some (.int .i64 ((rd_T62 l0 x7_1).f4)) ∧ w'.cell? ad406 = some (.int .i64 ((rd_T62 l0 0).f0)) ∧ w'.cell? ⟨ad406.block, ad406.off + 1, none⟩ = some (.int .i64 ((rd_T62 l0 0).f1)) ∧ w'.cell? ⟨ad406.block, ad406.off + 2, none⟩ = some (.int .i64 ((rd_T62 l0 0).f2)) ∧ w'.cell? ⟨ad406.block, ad406.off + 3, none⟩ = some (.int .i64 ((rd_T62 l0 0).f3.f0)) ∧ w'.cell? ⟨ad406.block, ad406.off + 4, none⟩ = some (.int .i64 ((rd_T62 l0 0).f3.f1)) ∧ w'.cell? ⟨ad406.block, ad406.off + 5, none⟩ = some (.int .i64 ((rd_T62 l0 0).f3.f2)) ∧ w'.cell? ⟨ad406.block, ad406.off + 6, none⟩ = some (.int .i64 ((rd_T62 l0 0).f4))) (ds := []) #[false, false, false, false, false, false, false, false, false, false, false, false, false, false] (by kernel_rfl) rfl rfl ⟨(blk_cell BK407.out 0).trans rfl, (blk_cell BK407.out 1).trans rfl, (blk_cell BK407.out 2).trans rfl, (blk_cell BK407.out 3).trans rfl, (blk_cell BK407.out 4).trans rfl, (blk_cell BK407.out 5).trans rfl, (blk_cell BK407.out 6).trans rfl, ((HB.out.cell (World.block_lt_of_cell? w _ hw409_0)).trans hw409_0), ((HB.out.cell (World.block_lt_of_cell? w _ hw409_1)).trans hw409_1), ((HB.out.cell (World.block_lt_of_cell? w _ hw409_2)).trans hw409_2), ((HB.out.cell (World.block_lt_of_cell? w _ hw409_3)).trans hw409_3), ((HB.out.cell (World.block_lt_of_cell? w _ hw409_4)).trans hw409_4), ((HB.out.cell (World.block_lt_of_cell? w _ hw409_5)).trans hw409_5), ((HB.out.cell (World.block_lt_of_cell? w _ hw409_6)).trans hw409_6)⟩ (fun hHeld => ?_); refine with_tabW block_Fits.tab4 block_Fits.bits4 (fun HT_ HW_ => ?_)
                  generalize w16.drew = w17 at BK407 HB hx409_0 hx409_1 hx409_2 hx409_3 hx409_4 hx409_5 hx409_6 hHeld ⊢
                  refine take_ (i := 0) (N := some 12) (v := ?_) (a' := ?_) #[true, false, false, false, false, false, false, false, false, false, false, false, false, false] rfl rfl (take_ofW HT_.out HW_.out (by kernel_rfl)) (fun _ _ _ h => h) (Or.inl ⟨by rfl, ?_⟩) hHeld ?_ ?_
                  rotate_left
                  · rintro w' ⟨s0, s1, s2, s3, s4, s5, s6, s7, s8, s9, s10, s11, s12, s13⟩
                    go_simp
                    with_reducible rfl
                  rotate_left
                  · simp only [Act.put, List.setIfInBounds_toArray, List.set_cons_zero, List.set_cons_succ, i64_w, i32_w]
                    rfl
                  refine one_ (i := 1) (N := some 13) #[true, true, false, false, false, false, false, false, false, false, false, false, false, false] rfl rfl (one_of HT_.out (by kernel_rfl)) (by decide) (fun K hK => ?_)
                  refine goes_ Tryz.func43 (by kernel_rfl) rfl #[.agg #[.int .i64 ((rd_T62 l0 x7_1).f0), .int .i64 ((rd_T62 l0 x7_1).f1), .int .i64 ((rd_T62 l0 x7_1).f2), .int .i64 ((rd_T62 l0 x7_1).f3.f0), .int .i64 ((rd_T62 l0 x7_1).f3.f1), .int .i64 ((rd_T62 l0 x7_1).f3.f2), .int .i64 ((rd_T62 l0 x7_1).f4)]] (by rfl) rfl rfl (by (try simp only [List.map_toArray, List.map_cons, List.map_nil]); first | done | rfl | (simp only [List.length_drop, List.length_take]; rfl)) ?_
                  with_reducible refine (schema_Fits.calls ((rd_T62 l0 x7_1).f0) ((rd_T62 l0 x7_1).f1) ((rd_T62 l0 x7_1).f2) ((rd_T62 l0 x7_1).f3.f0) ((rd_T62 l0 x7_1).f3.f1) ((rd_T62 l0 x7_1).f3.f2) ((rd_T62 l0 x7_1).f4) true _ A5.out).mono ?_
                  rintro e w18 ⟨rfl, hb⟩
                  refine ⟨_, rfl, ?_⟩
                  have n0_ := Aside0.mk (blk_below (g := gb407) (o := .cells #[.int .i64 ((rd_T62 l0 x7_1).f0), .int .i64 ((rd_T62 l0 x7_1).f1), .int .i64 ((rd_T62 l0 x7_1).f2), .int .i64 ((rd_T62 l0 x7_1).f3.f0), .int .i64 ((rd_T62 l0 x7_1).f3.f1), .int .i64 ((rd_T62 l0 x7_1).f3.f2), .int .i64 ((rd_T62 l0 x7_1).f4)] 62 (0, 0)) (by (with_reducible repeat (first | refine blk_drewN ?_ _ | refine blk_drew ?_ | refine blk_alloc ?_ _)); exact BK407.out) hb)
                  have n1_ := Aside0.mk (below_step (by repeat (first | (with_reducible first | exact HB.out | apply below_alloc | apply pw_below_drewN | apply below_drew1 | refine below_set ?_ GE407.out) | exact HB.out)) hb)
                  clear BK407
                  clear HB
                  have BK407 := n0_
                  have HB := n1_
                  clear n0_ n1_
                  (try clear hb)
                  (try clear hb2)
                  (try clear hk)
                  (try clear hi)
                  refine hK.out _ _ ⟨(blk_cell BK407.out 0).trans rfl, (blk_cell BK407.out 1).trans rfl, (blk_cell BK407.out 2).trans rfl, (blk_cell BK407.out 3).trans rfl, (blk_cell BK407.out 4).trans rfl, (blk_cell BK407.out 5).trans rfl, (blk_cell BK407.out 6).trans rfl, ((HB.out.cell (World.block_lt_of_cell? w _ hw409_0)).trans hw409_0), ((HB.out.cell (World.block_lt_of_cell? w _ hw409_1)).trans hw409_1), ((HB.out.cell (World.block_lt_of_cell? w _ hw409_2)).trans hw409_2), ((HB.out.cell (World.block_lt_of_cell? w _ hw409_3)).trans hw409_3), ((HB.out.cell (World.block_lt_of_cell? w _ hw409_4)).trans hw409_4), ((HB.out.cell (World.block_lt_of_cell? w _ hw409_5)).trans hw409_5), ((HB.out.cell (World.block_lt_of_cell? w _ hw409_6)).trans hw409_6)⟩ (fun hHeld => ?_)
                  clear hK K
                  refine norm_ (a' := ?_) ?_ ?_
                  rotate_left
                  · show Act.put _ (some 13) _ = _
                    simp only [Act.put, List.setIfInBounds_toArray, List.set_cons_zero, List.set_cons_succ, i64_w, i32_w]
                    rfl
                  refine pure_ (i := 2) (N := some 14) (v := ?_) (a' := ?_) #[true, true, true, false, false, false, false, false, false, false, false, false, false, false] rfl rfl (any_of HT_.out (by kernel_rfl)) (fun _ _ _ h => h) (Or.inl ⟨by rfl, ?_⟩) ?_ ?_
                  rotate_left
                  · intro w'
                    go_simp
                    with_reducible rfl
                  rotate_left
                  · simp only [Act.put, List.setIfInBounds_toArray, List.set_cons_zero, List.set_cons_succ, i64_w, i32_w]
                    rfl
                  refine pure_ (i := 3) (N := some 15) (v := ?_) (a' := ?_) #[true, true, true, true, false, false, false, false, false, false, false, false, false, false] rfl rfl (any_of HT_.out (by kernel_rfl)) (fun _ _ _ h => h) (Or.inl ⟨by rfl, ?_⟩) ?_ ?_
                  rotate_left
                  · intro w'
                    go_simp
                    with_reducible rfl
                  rotate_left
                  · simp only [Act.put, List.setIfInBounds_toArray, List.set_cons_zero, List.set_cons_succ, i64_w, i32_w]
                    rfl
                  refine pure_ (i := 4) (N := some 16) (v := ?_) (a' := ?_) #[true, true, true, true, true, false, false, false, false, false, false, false, false, false] rfl rfl (any_of HT_.out (by kernel_rfl)) (fun _ _ _ h => h) (Or.inl ⟨by rfl, ?_⟩) ?_ ?_
                  rotate_left
                  · intro w'
                    go_simp
                    with_reducible rfl
                  rotate_left
                  · simp only [Act.put, List.setIfInBounds_toArray, List.set_cons_zero, List.set_cons_succ, i64_w, i32_w]
                    rfl
                  refine pure_ (i := 6) (N := some 18) (v := ?_) (a' := ?_) #[true, true, true, true, true, false, true, false, false, false, false, false, false, false] rfl rfl (any_of HT_.out (by kernel_rfl)) (fun _ _ _ h => h) (Or.inl ⟨by rfl, ?_⟩) ?_ ?_
                  rotate_left
                  · intro w'
                    go_simp
                    with_reducible rfl
                  rotate_left
                  · simp only [Act.put, List.setIfInBounds_toArray, List.set_cons_zero, List.set_cons_succ, i64_w, i32_w]
                    rfl
                  refine pure_ (i := 7) (N := some 19) (v := ?_) (a' := ?_) #[true, true, true, true, true, false, true, true, false, false, false, false, false, false] rfl rfl (any_of HT_.out (by kernel_rfl)) (fun _ _ _ h => h) (Or.inl ⟨by rfl, ?_⟩) ?_ ?_
                  rotate_left
                  · intro w'
                    go_simp
                    with_reducible rfl
                  rotate_left
                  · simp only [Act.put, List.setIfInBounds_toArray, List.set_cons_zero, List.set_cons_succ, i64_w, i32_w]
                    rfl
                  refine pure_ (i := 8) (N := some 20) (v := ?_) (a' := ?_) #[true, true, true, true, true, false, true, true, true, false, false, false, false, false] rfl rfl (any_of HT_.out (by kernel_rfl)) (fun _ _ _ h => h) (Or.inl ⟨by rfl, ?_⟩) ?_ ?_
                  rotate_left
                  · intro w'
                    go_simp
                    with_reducible rfl
                  rotate_left
                  · simp only [Act.put, List.setIfInBounds_toArray, List.set_cons_zero, List.set_cons_succ, i64_w, i32_w]
                    rfl
                  refine pure_ (i := 10) (N := some 22) (v := ?_) (a' := ?_) #[true, true, true, true, true, false, true, true, true, false, true, false, false, false] rfl rfl (any_of HT_.out (by kernel_rfl)) (fun _ _ _ h => h) (Or.inl ⟨by rfl, ?_⟩) ?_ ?_
                  rotate_left
                  · intro w'
                    go_simp
                    with_reducible rfl
                  rotate_left
                  · simp only [Act.put, List.setIfInBounds_toArray, List.set_cons_zero, List.set_cons_succ, i64_w, i32_w]
                    rfl
                  refine take_ (i := 5) (N := some 17) (v := ?_) (a' := ?_) #[true, true, true, true, true, true, true, true, true, false, true, false, false, false] rfl rfl (take_ofW HT_.out HW_.out (by kernel_rfl)) (fun _ _ _ h => h) (Or.inl ⟨by rfl, ?_⟩) hHeld ?_ ?_
                  rotate_left
                  · rintro w' ⟨s0, s1, s2, s3, s4, s5, s6, s7, s8, s9, s10, s11, s12, s13⟩
                    go_simp
                    with_reducible rfl
                  rotate_left
                  · simp only [Act.put, List.setIfInBounds_toArray, List.set_cons_zero, List.set_cons_succ, i64_w, i32_w]
                    rfl
                  refine take_ (i := 9) (N := some 21) (v := ?_) (a' := ?_) #[true, true, true, true, true, true, true, true, true, true, true, false, false, false] rfl rfl (take_ofW HT_.out HW_.out (by kernel_rfl)) (fun _ _ _ h => h) (Or.inl ⟨by rfl, ?_⟩) hHeld ?_ ?_
                  rotate_left
                  · rintro w' ⟨s0, s1, s2, s3, s4, s5, s6, s7, s8, s9, s10, s11, s12, s13⟩
                    go_simp
                    with_reducible rfl
                  rotate_left
                  · simp only [Act.put, List.setIfInBounds_toArray, List.set_cons_zero, List.set_cons_succ, i64_w, i32_w]
                    rfl
                  refine pure_ (i := 11) (N := some 23) (v := ?_) (a' := ?_) #[true, true, true, true, true, true, true, true, true, true, true, true, false, false] rfl rfl (any_of HT_.out (by kernel_rfl)) (fun _ _ _ h => h) (Or.inl ⟨by rfl, ?_⟩) ?_ ?_
                  rotate_left
                  · intro w'
                    go_simp
                    with_reducible rfl
                  rotate_left
                  · simp only [Act.put, List.setIfInBounds_toArray, List.set_cons_zero, List.set_cons_succ, i64_w, i32_w]
                    rfl
                  refine pure_ (i := 12) (N := some 24) (v := ?_) (a' := ?_) #[true, true, true, true, true, true, true, true, true, true, true, true, true, false] rfl rfl (any_of HT_.out (by kernel_rfl)) (fun _ _ _ h => h) (Or.inl ⟨by rfl, ?_⟩) ?_ ?_
                  rotate_left
                  · intro w'
                    go_simp
                    with_reducible rfl
                  rotate_left
                  · simp only [Act.put, List.setIfInBounds_toArray, List.set_cons_zero, List.set_cons_succ, i64_w, i32_w]
                    rfl
                  refine pure_ (i := 13) (N := some 25) (v := ?_) (a' := ?_) #[true, true, true, true, true, true, true, true, true, true, true, true, true, true] rfl rfl (any_of HT_.out (by kernel_rfl)) (fun _ _ _ h => h) (Or.inl ⟨by rfl, ?_⟩) ?_ ?_
                  rotate_left
                  · intro w'
                    go_simp
                    with_reducible rfl
                  rotate_left
                  · simp only [Act.put, List.setIfInBounds_toArray, List.set_cons_zero, List.set_cons_succ, i64_w, i32_w]
                    rfl
                  refine done_ (done_of HT_.out (by kernel_rfl)) ?_
                  try go_wp2
                  go_ret
                  exact ⟨by first | rfl | (simp [errW_none, errW_some] <;> rfl) | (simp [*, errW_none, errW_some] <;> rfl), by repeat (first | (with_reducible first | exact HB.out | apply below_alloc | apply pw_below_drewN | apply below_drew1 | refine below_set ?_ GE407.out) | exact HB.out)⟩
              · rw [if_neg c7] at H
                exact absurd H (by simp)
            · replace c6 := Bool.eq_false_iff.mpr c6
              subst c6
              have H1 : (some false) = some r := by rw [if_neg (show ¬ (false = true) by decide)] at H; exact H
              clear H
              have H := H1
              clear H1
              obtain rfl := Option.some.inj H
              have p406 : 0 ≤ (x7_1 : Int) := of_decide_eq_true (by first | (with_reducible assumption) | assumption)
              have q406 : x7_1 < (l0.length : Int) := of_decide_eq_true (by first | (with_reducible assumption) | assumption)
              obtain ⟨ad406, e406, hx406_0, hx406_1, hx406_2, hx406_3, hx406_4, hx406_5, hx406_6⟩ := at_T62 HR0.out x7_1 p406 q406
              cases e406
              replace hx406_0 := (HB.out.cell (World.block_lt_of_cell? w _ hx406_0)).trans hx406_0
              replace hx406_1 := (HB.out.cell (World.block_lt_of_cell? w _ hx406_1)).trans hx406_1
              replace hx406_2 := (HB.out.cell (World.block_lt_of_cell? w _ hx406_2)).trans hx406_2
              replace hx406_3 := (HB.out.cell (World.block_lt_of_cell? w _ hx406_3)).trans hx406_3
              replace hx406_4 := (HB.out.cell (World.block_lt_of_cell? w _ hx406_4)).trans hx406_4
              replace hx406_5 := (HB.out.cell (World.block_lt_of_cell? w _ hx406_5)).trans hx406_5
              replace hx406_6 := (HB.out.cell (World.block_lt_of_cell? w _ hx406_6)).trans hx406_6
              replace p406 := eq_true p406
              replace q406 := eq_true q406
              try go_wp2_with (first | ((with_reducible refine gate_dst (N := 4) rfl ?_); (try (refine gate_guard (by rfl) ?_; dsimp only)); refine box_event ?hg (N := 4) ?hd (cs := #[.int .i64 0, .int .i64 0, .int .i64 0, .int .i64 0, .int .i64 0, .int .i64 0, .int .i64 0]) (t := 62) ?hr ?_; (case hd => rfl); (case hg => rfl); (case hr => first | (go_simp; done) | (go_simp; rfl)); intro gb407 hg w19 hbox hb; have n0_ := Aside0.mk (below_step (by repeat (first | (with_reducible first | exact HB.out | apply below_alloc | apply pw_below_drewN | apply below_drew1) | exact HB.out)) hb); have n1_ := Aside0.mk (hbox); have n2_ := Aside0.mk ((by rw [hg]; exact (below_size (by repeat (first | (with_reducible first | exact HB.out | apply below_alloc | apply pw_below_drewN | apply below_drew1) | exact HB.out))) : w.heap.size ≤ gb407)); have n3_ := Aside0.mk ((by rw [hg]; exact (below_size (by repeat (first | (with_reducible first | exact HB.out | apply below_alloc | apply pw_below_drewN | apply below_drew1) | exact HB.out))) : w.heap.size ≤ gb407)); clear HB; have HB := n0_; have BK407 := n1_; have GW407 := n2_; have GE407 := n3_; clear n0_ n1_ n2_ n3_; clear hb hbox hg; have hcz20_0 : w19.cell? ⟨gb407, 0, none⟩ = some (.int .i64 0) := (blk_cell BK407.out 0).trans rfl; have hcz20_1 : w19.cell? ⟨gb407, 1, none⟩ = some (.int .i64 0) := (blk_cell BK407.out 1).trans rfl; have hcz20_2 : w19.cell? ⟨gb407, 2, none⟩ = some (.int .i64 0) := (blk_cell BK407.out 2).trans rfl; have hcz20_3 : w19.cell? ⟨gb407, 3, none⟩ = some (.int .i64 0) := (blk_cell BK407.out 3).trans rfl; have hcz20_4 : w19.cell? ⟨gb407, 4, none⟩ = some (.int .i64 0) := (blk_cell BK407.out 4).trans rfl; have hcz20_5 : w19.cell? ⟨gb407, 5, none⟩ = some (.int .i64 0) := (blk_cell BK407.out 5).trans rfl; have hcz20_6 : w19.cell? ⟨gb407, 6, none⟩ = some (.int .i64 0) := (blk_cell BK407.out 6).trans rfl; have hfz20_0 := blk_frozen BK407.out 0; have hfz20_1 := blk_frozen BK407.out 1; have hfz20_2 := blk_frozen BK407.out 2; have hfz20_3 := blk_frozen BK407.out 3; have hfz20_4 := blk_frozen BK407.out 4; have hfz20_5 := blk_frozen BK407.out 5; have hfz20_6 := blk_frozen BK407.out 6))
              have n0_ : Aside0 ((((((((w19.setCell ⟨gb407, 0, none⟩ (.int .i64 ((rd_T62 l0 x7_1).f0))).setCell ⟨gb407, 1, none⟩ (.int .i64 ((rd_T62 l0 x7_1).f1))).setCell ⟨gb407, 2, none⟩ (.int .i64 ((rd_T62 l0 x7_1).f2))).setCell ⟨gb407, 3, none⟩ (.int .i64 ((rd_T62 l0 x7_1).f3.f0))).setCell ⟨gb407, 4, none⟩ (.int .i64 ((rd_T62 l0 x7_1).f3.f1))).setCell ⟨gb407, 5, none⟩ (.int .i64 ((rd_T62 l0 x7_1).f3.f2))).setCell ⟨gb407, 6, none⟩ (.int .i64 ((rd_T62 l0 x7_1).f4))).heap[gb407]? = some (.cells #[.int .i64 ((rd_T62 l0 x7_1).f0), .int .i64 ((rd_T62 l0 x7_1).f1), .int .i64 ((rd_T62 l0 x7_1).f2), .int .i64 ((rd_T62 l0 x7_1).f3.f0), .int .i64 ((rd_T62 l0 x7_1).f3.f1), .int .i64 ((rd_T62 l0 x7_1).f3.f2), .int .i64 ((rd_T62 l0 x7_1).f4)] 62 (0, 0))) := ⟨by (with_reducible repeat (first | refine blk_drewN ?_ _ | refine blk_drew ?_ | refine blk_alloc ?_ _)); refine blk_put (cs := #[.int .i64 ((rd_T62 l0 x7_1).f0), .int .i64 ((rd_T62 l0 x7_1).f1), .int .i64 ((rd_T62 l0 x7_1).f2), .int .i64 ((rd_T62 l0 x7_1).f3.f0), .int .i64 ((rd_T62 l0 x7_1).f3.f1), .int .i64 ((rd_T62 l0 x7_1).f3.f2), .int .i64 0]) ?_ 6 _ (by first | rfl | (simp only [gt_iff_lt, *]; rfl) | (simp [*]; done)); (with_reducible repeat (first | refine blk_drewN ?_ _ | refine blk_drew ?_ | refine blk_alloc ?_ _)); refine blk_put (cs := #[.int .i64 ((rd_T62 l0 x7_1).f0), .int .i64 ((rd_T62 l0 x7_1).f1), .int .i64 ((rd_T62 l0 x7_1).f2), .int .i64 ((rd_T62 l0 x7_1).f3.f0), .int .i64 ((rd_T62 l0 x7_1).f3.f1), .int .i64 0, .int .i64 0]) ?_ 5 _ (by first | rfl | (simp only [gt_iff_lt, *]; rfl) | (simp [*]; done)); (with_reducible repeat (first | refine blk_drewN ?_ _ | refine blk_drew ?_ | refine blk_alloc ?_ _)); refine blk_put (cs := #[.int .i64 ((rd_T62 l0 x7_1).f0), .int .i64 ((rd_T62 l0 x7_1).f1), .int .i64 ((rd_T62 l0 x7_1).f2), .int .i64 ((rd_T62 l0 x7_1).f3.f0), .int .i64 0, .int .i64 0, .int .i64 0]) ?_ 4 _ (by first | rfl | (simp only [gt_iff_lt, *]; rfl) | (simp [*]; done)); (with_reducible repeat (first | refine blk_drewN ?_ _ | refine blk_drew ?_ | refine blk_alloc ?_ _)); refine blk_put (cs := #[.int .i64 ((rd_T62 l0 x7_1).f0), .int .i64 ((rd_T62 l0 x7_1).f1), .int .i64 ((rd_T62 l0 x7_1).f2), .int .i64 0, .int .i64 0, .int .i64 0, .int .i64 0]) ?_ 3 _ (by first | rfl | (simp only [gt_iff_lt, *]; rfl) | (simp [*]; done)); (with_reducible repeat (first | refine blk_drewN ?_ _ | refine blk_drew ?_ | refine blk_alloc ?_ _)); refine blk_put (cs := #[.int .i64 ((rd_T62 l0 x7_1).f0), .int .i64 ((rd_T62 l0 x7_1).f1), .int .i64 0, .int .i64 0, .int .i64 0, .int .i64 0, .int .i64 0]) ?_ 2 _ (by first | rfl | (simp only [gt_iff_lt, *]; rfl) | (simp [*]; done)); (with_reducible repeat (first | refine blk_drewN ?_ _ | refine blk_drew ?_ | refine blk_alloc ?_ _)); refine blk_put (cs := #[.int .i64 ((rd_T62 l0 x7_1).f0), .int .i64 0, .int .i64 0, .int .i64 0, .int .i64 0, .int .i64 0, .int .i64 0]) ?_ 1 _ (by first | rfl | (simp only [gt_iff_lt, *]; rfl) | (simp [*]; done)); (with_reducible repeat (first | refine blk_drewN ?_ _ | refine blk_drew ?_ | refine blk_alloc ?_ _)); refine blk_put (cs := #[.int .i64 0, .int .i64 0, .int .i64 0, .int .i64 0, .int .i64 0, .int .i64 0, .int .i64 0]) ?_ 0 _ (by first | rfl | (simp only [gt_iff_lt, *]; rfl) | (simp [*]; done)); (with_reducible repeat (first | refine blk_drewN ?_ _ | refine blk_drew ?_ | refine blk_alloc ?_ _)); exact BK407.out⟩
              have n1_ : Aside0 (Below w.heap.size w (((((((w19.setCell ⟨gb407, 0, none⟩ (.int .i64 ((rd_T62 l0 x7_1).f0))).setCell ⟨gb407, 1, none⟩ (.int .i64 ((rd_T62 l0 x7_1).f1))).setCell ⟨gb407, 2, none⟩ (.int .i64 ((rd_T62 l0 x7_1).f2))).setCell ⟨gb407, 3, none⟩ (.int .i64 ((rd_T62 l0 x7_1).f3.f0))).setCell ⟨gb407, 4, none⟩ (.int .i64 ((rd_T62 l0 x7_1).f3.f1))).setCell ⟨gb407, 5, none⟩ (.int .i64 ((rd_T62 l0 x7_1).f3.f2))).setCell ⟨gb407, 6, none⟩ (.int .i64 ((rd_T62 l0 x7_1).f4)))) := ⟨by repeat (first | (with_reducible first | exact HB.out | apply below_alloc | apply pw_below_drewN | apply below_drew1 | refine below_set ?_ GE407.out) | exact HB.out)⟩
              (try clear BK407)
              (try clear HB)
              generalize (((((((w19.setCell ⟨gb407, 0, none⟩ (.int .i64 ((rd_T62 l0 x7_1).f0))).setCell ⟨gb407, 1, none⟩ (.int .i64 ((rd_T62 l0 x7_1).f1))).setCell ⟨gb407, 2, none⟩ (.int .i64 ((rd_T62 l0 x7_1).f2))).setCell ⟨gb407, 3, none⟩ (.int .i64 ((rd_T62 l0 x7_1).f3.f0))).setCell ⟨gb407, 4, none⟩ (.int .i64 ((rd_T62 l0 x7_1).f3.f1))).setCell ⟨gb407, 5, none⟩ (.int .i64 ((rd_T62 l0 x7_1).f3.f2))).setCell ⟨gb407, 6, none⟩ (.int .i64 ((rd_T62 l0 x7_1).f4))) = w21 at n0_ n1_ ⊢
              have BK407 := n0_
              have HB := n1_
              clear n0_ n1_
              have n0_ := Aside0.mk (blk_drew BK407.out)
              have n1_ := Aside0.mk (below_drew1 HB.out)
              clear BK407
              clear HB
              have BK407 := n0_
              have HB := n1_
              clear n0_ n1_
              refine start_ (n := 14) (S := fun w' => w'.cell? ⟨gb407, 0, none⟩ = some (.int .i64 ((rd_T62 l0 x7_1).f0)) ∧ w'.cell? ⟨gb407, 1, none⟩ = some (.int .i64 ((rd_T62 l0 x7_1).f1)) ∧ w'.cell? ⟨gb407, 2, none⟩ = some (.int .i64 ((rd_T62 l0 x7_1).f2)) ∧ w'.cell? ⟨gb407, 3, none⟩ = some (.int .i64 ((rd_T62 l0 x7_1).f3.f0)) ∧ w'.cell? ⟨gb407, 4, none⟩ = some (.int .i64 ((rd_T62 l0 x7_1).f3.f1)) ∧ w'.cell? ⟨gb407, 5, none⟩ = some (.int .i64 ((rd_T62 l0 x7_1).f3.f2)) ∧ w'.cell? ⟨gb407, 6, none⟩ = some (.int .i64 ((rd_T62 l0 x7_1).f4))) (ds := []) #[false, false, false, false, false, false, false, false, false, false, false, false, false, false] (by kernel_rfl) rfl rfl ⟨(blk_cell BK407.out 0).trans rfl, (blk_cell BK407.out 1).trans rfl, (blk_cell BK407.out 2).trans rfl, (blk_cell BK407.out 3).trans rfl, (blk_cell BK407.out 4).trans rfl, (blk_cell BK407.out 5).trans rfl, (blk_cell BK407.out 6).trans rfl⟩ (fun hHeld => ?_); refine with_tabW block_Fits.tab4 block_Fits.bits4 (fun HT_ HW_ => ?_)
              generalize w21.drew = w22 at BK407 HB hHeld ⊢
              refine take_ (i := 0) (N := some 12) (v := ?_) (a' := ?_) #[true, false, false, false, false, false, false, false, false, false, false, false, false, false] rfl rfl (take_ofW HT_.out HW_.out (by kernel_rfl)) (fun _ _ _ h => h) (Or.inl ⟨by rfl, ?_⟩) hHeld ?_ ?_
              rotate_left
              · rintro w' ⟨s0, s1, s2, s3, s4, s5, s6⟩
                go_simp
                with_reducible rfl
              rotate_left
              · simp only [Act.put, List.setIfInBounds_toArray, List.set_cons_zero, List.set_cons_succ, i64_w, i32_w]
                rfl
              refine one_ (i := 1) (N := some 13) #[true, true, false, false, false, false, false, false, false, false, false, false, false, false] rfl rfl (one_of HT_.out (by kernel_rfl)) (by decide) (fun K hK => ?_)
              refine goes_ Tryz.func43 (by kernel_rfl) rfl #[.agg #[.int .i64 ((rd_T62 l0 x7_1).f0), .int .i64 ((rd_T62 l0 x7_1).f1), .int .i64 ((rd_T62 l0 x7_1).f2), .int .i64 ((rd_T62 l0 x7_1).f3.f0), .int .i64 ((rd_T62 l0 x7_1).f3.f1), .int .i64 ((rd_T62 l0 x7_1).f3.f2), .int .i64 ((rd_T62 l0 x7_1).f4)]] (by rfl) rfl rfl (by (try simp only [List.map_toArray, List.map_cons, List.map_nil]); first | done | rfl | (simp only [List.length_drop, List.length_take]; rfl)) ?_
              with_reducible refine (schema_Fits.calls ((rd_T62 l0 x7_1).f0) ((rd_T62 l0 x7_1).f1) ((rd_T62 l0 x7_1).f2) ((rd_T62 l0 x7_1).f3.f0) ((rd_T62 l0 x7_1).f3.f1) ((rd_T62 l0 x7_1).f3.f2) ((rd_T62 l0 x7_1).f4) false _ A5.out).mono ?_
              rintro e w23 ⟨rfl, hb⟩
              refine ⟨_, rfl, ?_⟩
              have n0_ := Aside0.mk (blk_below (g := gb407) (o := .cells #[.int .i64 ((rd_T62 l0 x7_1).f0), .int .i64 ((rd_T62 l0 x7_1).f1), .int .i64 ((rd_T62 l0 x7_1).f2), .int .i64 ((rd_T62 l0 x7_1).f3.f0), .int .i64 ((rd_T62 l0 x7_1).f3.f1), .int .i64 ((rd_T62 l0 x7_1).f3.f2), .int .i64 ((rd_T62 l0 x7_1).f4)] 62 (0, 0)) (by (with_reducible repeat (first | refine blk_drewN ?_ _ | refine blk_drew ?_ | refine blk_alloc ?_ _)); exact BK407.out) hb)
              have n1_ := Aside0.mk (below_step (by repeat (first | (with_reducible first | exact HB.out | apply below_alloc | apply pw_below_drewN | apply below_drew1 | refine below_set ?_ GE407.out) | exact HB.out)) hb)
              clear BK407
              clear HB
              have BK407 := n0_
              have HB := n1_
              clear n0_ n1_
              (try clear hb)
              (try clear hb2)
              (try clear hk)
              (try clear hi)
              refine hK.out _ _ ⟨(blk_cell BK407.out 0).trans rfl, (blk_cell BK407.out 1).trans rfl, (blk_cell BK407.out 2).trans rfl, (blk_cell BK407.out 3).trans rfl, (blk_cell BK407.out 4).trans rfl, (blk_cell BK407.out 5).trans rfl, (blk_cell BK407.out 6).trans rfl⟩ (fun hHeld => ?_)
              clear hK K
              refine norm_ (a' := ?_) ?_ ?_
              rotate_left
              · show Act.put _ (some 13) _ = _
                simp only [Act.put, List.setIfInBounds_toArray, List.set_cons_zero, List.set_cons_succ, i64_w, i32_w]
                rfl
              refine pure_ (i := 2) (N := some 14) (v := ?_) (a' := ?_) #[true, true, true, false, false, false, false, false, false, false, false, false, false, false] rfl rfl (any_of HT_.out (by kernel_rfl)) (fun _ _ _ h => h) (Or.inl ⟨by rfl, ?_⟩) ?_ ?_
              rotate_left
              · intro w'
                go_simp
                with_reducible rfl
              rotate_left
              · simp only [Act.put, List.setIfInBounds_toArray, List.set_cons_zero, List.set_cons_succ, i64_w, i32_w]
                rfl
              refine pure_ (i := 3) (N := some 15) (v := ?_) (a' := ?_) #[true, true, true, true, false, false, false, false, false, false, false, false, false, false] rfl rfl (any_of HT_.out (by kernel_rfl)) (fun _ _ _ h => h) (Or.inl ⟨by rfl, ?_⟩) ?_ ?_
              rotate_left
              · intro w'
                go_simp
                with_reducible rfl
              rotate_left
              · simp only [Act.put, List.setIfInBounds_toArray, List.set_cons_zero, List.set_cons_succ, i64_w, i32_w]
                rfl
              refine pure_ (i := 4) (N := some 16) (v := undef) (a' := ?_) #[true, true, true, true, true, false, false, false, false, false, false, false, false, false] rfl rfl (any_of HT_.out (by kernel_rfl)) (fun _ _ _ h => h) (Or.inr ⟨by rfl, rfl⟩) ?_ ?_
              rotate_left
              · simp only [Act.put, List.setIfInBounds_toArray, List.set_cons_zero, List.set_cons_succ, i64_w, i32_w]
                rfl
              refine pure_ (i := 5) (N := some 17) (v := undef) (a' := ?_) #[true, true, true, true, true, true, false, false, false, false, false, false, false, false] rfl rfl (any_of HT_.out (by kernel_rfl)) (fun _ _ _ h => h) (Or.inr ⟨by rfl, rfl⟩) ?_ ?_
              rotate_left
              · simp only [Act.put, List.setIfInBounds_toArray, List.set_cons_zero, List.set_cons_succ, i64_w, i32_w]
                rfl
              refine pure_ (i := 6) (N := some 18) (v := undef) (a' := ?_) #[true, true, true, true, true, true, true, false, false, false, false, false, false, false] rfl rfl (any_of HT_.out (by kernel_rfl)) (fun _ _ _ h => h) (Or.inr ⟨by rfl, rfl⟩) ?_ ?_
              rotate_left
              · simp only [Act.put, List.setIfInBounds_toArray, List.set_cons_zero, List.set_cons_succ, i64_w, i32_w]
                rfl
              refine pure_ (i := 7) (N := some 19) (v := undef) (a' := ?_) #[true, true, true, true, true, true, true, true, false, false, false, false, false, false] rfl rfl (any_of HT_.out (by kernel_rfl)) (fun _ _ _ h => h) (Or.inr ⟨by rfl, rfl⟩) ?_ ?_
              rotate_left
              · simp only [Act.put, List.setIfInBounds_toArray, List.set_cons_zero, List.set_cons_succ, i64_w, i32_w]
                rfl
              refine pure_ (i := 8) (N := some 20) (v := undef) (a' := ?_) #[true, true, true, true, true, true, true, true, true, false, false, false, false, false] rfl rfl (any_of HT_.out (by kernel_rfl)) (fun _ _ _ h => h) (Or.inr ⟨by rfl, rfl⟩) ?_ ?_
              rotate_left
              · simp only [Act.put, List.setIfInBounds_toArray, List.set_cons_zero, List.set_cons_succ, i64_w, i32_w]
                rfl
              refine pure_ (i := 9) (N := some 21) (v := undef) (a' := ?_) #[true, true, true, true, true, true, true, true, true, true, false, false, false, false] rfl rfl (any_of HT_.out (by kernel_rfl)) (fun _ _ _ h => h) (Or.inr ⟨by rfl, rfl⟩) ?_ ?_
              rotate_left
              · simp only [Act.put, List.setIfInBounds_toArray, List.set_cons_zero, List.set_cons_succ, i64_w, i32_w]
                rfl
              refine pure_ (i := 10) (N := some 22) (v := undef) (a' := ?_) #[true, true, true, true, true, true, true, true, true, true, true, false, false, false] rfl rfl (any_of HT_.out (by kernel_rfl)) (fun _ _ _ h => h) (Or.inr ⟨by rfl, rfl⟩) ?_ ?_
              rotate_left
              · simp only [Act.put, List.setIfInBounds_toArray, List.set_cons_zero, List.set_cons_succ, i64_w, i32_w]
                rfl
              refine pure_ (i := 11) (N := some 23) (v := undef) (a' := ?_) #[true, true, true, true, true, true, true, true, true, true, true, true, false, false] rfl rfl (any_of HT_.out (by kernel_rfl)) (fun _ _ _ h => h) (Or.inr ⟨by rfl, rfl⟩) ?_ ?_
              rotate_left
              · simp only [Act.put, List.setIfInBounds_toArray, List.set_cons_zero, List.set_cons_succ, i64_w, i32_w]
                rfl
              refine pure_ (i := 12) (N := some 24) (v := undef) (a' := ?_) #[true, true, true, true, true, true, true, true, true, true, true, true, true, false] rfl rfl (any_of HT_.out (by kernel_rfl)) (fun _ _ _ h => h) (Or.inr ⟨by rfl, rfl⟩) ?_ ?_
              rotate_left
              · simp only [Act.put, List.setIfInBounds_toArray, List.set_cons_zero, List.set_cons_succ, i64_w, i32_w]
                rfl
              refine pure_ (i := 13) (N := some 25) (v := ?_) (a' := ?_) #[true, true, true, true, true, true, true, true, true, true, true, true, true, true] rfl rfl (any_of HT_.out (by kernel_rfl)) (fun _ _ _ h => h) (Or.inl ⟨by rfl, ?_⟩) ?_ ?_
              rotate_left
              · intro w'
                go_simp
                with_reducible rfl
              rotate_left
              · simp only [Act.put, List.setIfInBounds_toArray, List.set_cons_zero, List.set_cons_succ, i64_w, i32_w]
                rfl
              refine done_ (done_of HT_.out (by kernel_rfl)) ?_
              try go_wp2
              go_ret
              exact ⟨by first | rfl | (simp [errW_none, errW_some] <;> rfl) | (simp [*, errW_none, errW_some] <;> rfl), by repeat (first | (with_reducible first | exact HB.out | apply below_alloc | apply pw_below_drewN | apply below_drew1 | refine below_set ?_ GE407.out) | exact HB.out)⟩
          · rw [if_neg c4] at H
            exact absurd H (by simp)
        · rw [if_neg c3] at H
          exact absurd H (by simp)
      · rw [if_neg c2] at H
        have c2b0 : decide (x7_1 < (l0.length : Int)) = false := decide_eq_false c2
        clear c2
        by_cases c24 : (l0.length : Int) > 0
        · rw [if_pos c24] at H
          have c24b0 : decide (0 < (l0.length : Int)) = true := decide_eq_true c24
          have c24b1 : decide (0 < l0.length) = true := decide_eq_true (by omega)
          clear c24
          obtain rfl := Option.some.inj H
          go_wp2
          go_ret
          exact ⟨by first | rfl | (simp [errW_none, errW_some] <;> rfl) | (simp [*, errW_none, errW_some] <;> rfl), by repeat (first | (with_reducible first | exact HB.out | apply below_alloc | apply pw_below_drewN | apply below_drew1) | exact HB.out)⟩
        · rw [if_neg c24] at H
          have c24b0 : decide (0 < (l0.length : Int)) = false := decide_eq_false c24
          have c24b1 : decide (0 < l0.length) = false := decide_eq_false (by omega)
          clear c24
          obtain rfl := Option.some.inj H
          go_wp2
          go_ret
          exact ⟨by first | rfl | (simp [errW_none, errW_some] <;> rfl) | (simp [*, errW_none, errW_some] <;> rfl), by repeat (first | (with_reducible first | exact HB.out | apply below_alloc | apply pw_below_drewN | apply below_drew1) | exact HB.out)⟩
/-! ### block_Encode: function 88 -/
/-- Records one behind the other; f: what each process's last one had. -/
def block_Encode.go (k : Nat) : List S62 → (Int → Int) → List Int → Option (List Int)
  | [], _, b => some b
  | x :: l, f, b => if 0 ≤ x.f1 ∧ x.f1 ≤ 64 ∧ 0 ≤ x.f2 ∧ x.f2 < 4611686018427387904 then
      (num_Put.f k b x.f1).bind fun b1 => (num_PutSigned.f k b1 (wrap64 (x.f2 - f x.f1))).bind fun b2 => (codec_PutOp.f k b2 x.f3.f0 x.f3.f1 x.f3.f2).bind fun b3 => (num_PutSigned.f k b3.1 x.f4).bind fun b4 => block_Encode.go k l (Go.Proofs.YtgljebaiakhbfaaGreat.MapAid.upd f x.f1 x.f2) b4
    else none
def block_Encode.f (k : Nat) (l : List S62) : Option (List Int × Int) :=
  (block_Fits.f k l).bind fun t => if t = true then (if 0 < (l.length : Int) then
    (num_Put.f k [] (rd_T62 l 0).f0).bind fun b1 => (num_Put.f k b1 (l.length : Int)).bind fun b2 => (block_Encode.go k l (fun _ => 0) b2).bind fun b => some (b, 0)
  else none) else some ([], 1)
theorem block_Encode.wf_of {n : Int} (h0 : -9223372036854775808 ≤ n) (h1 : n ≤ 9223372036854775807) : (Lit.int .i64 n).wf = true := by
  have e : n = wrap64 n := by unfold wrap64; omega
  rw [e]; exact wrap64_wf _
/-- A record stored. -/
def block_Encode.st (W : World) (G : Nat) (x : S62) : World := ((((((W.setCell ⟨G, 0, none⟩ (.int .i64 x.f0)).setCell ⟨G, 1, none⟩ (.int .i64 x.f1)).setCell ⟨G, 2, none⟩ (.int .i64 x.f2)).setCell ⟨G, 3, none⟩ (.int .i64 x.f3.f0)).setCell ⟨G, 4, none⟩ (.int .i64 x.f3.f1)).setCell ⟨G, 5, none⟩ (.int .i64 x.f3.f2)).setCell ⟨G, 6, none⟩ (.int .i64 x.f4)
def block_Encode.cs (x : S62) : Array Value := #[.int .i64 x.f0, .int .i64 x.f1, .int .i64 x.f2, .int .i64 x.f3.f0, .int .i64 x.f3.f1, .int .i64 x.f3.f2, .int .i64 x.f4]
theorem block_Encode.st_heap {W : World} {G t : Nat} {a0 a1 a2 a3 a4 a5 a6 : Value} (h : W.heap[G]? = some (.cells #[a0, a1, a2, a3, a4, a5, a6] t (0, 0))) (x : S62) : (block_Encode.st W G x).heap[G]? = some (.cells (block_Encode.cs x) t (0, 0)) :=
  by
    have h0 := blk_put h 0 (.int .i64 x.f0) (cs' := #[.int .i64 x.f0, a1, a2, a3, a4, a5, a6]) rfl
    have h1 := blk_put h0 1 (.int .i64 x.f1) (cs' := #[.int .i64 x.f0, .int .i64 x.f1, a2, a3, a4, a5, a6]) rfl
    have h2 := blk_put h1 2 (.int .i64 x.f2) (cs' := #[.int .i64 x.f0, .int .i64 x.f1, .int .i64 x.f2, a3, a4, a5, a6]) rfl
    have h3 := blk_put h2 3 (.int .i64 x.f3.f0) (cs' := #[.int .i64 x.f0, .int .i64 x.f1, .int .i64 x.f2, .int .i64 x.f3.f0, a4, a5, a6]) rfl
    have h4 := blk_put h3 4 (.int .i64 x.f3.f1) (cs' := #[.int .i64 x.f0, .int .i64 x.f1, .int .i64 x.f2, .int .i64 x.f3.f0, .int .i64 x.f3.f1, a5, a6]) rfl
    have h5 := blk_put h4 5 (.int .i64 x.f3.f2) (cs' := #[.int .i64 x.f0, .int .i64 x.f1, .int .i64 x.f2, .int .i64 x.f3.f0, .int .i64 x.f3.f1, .int .i64 x.f3.f2, a6]) rfl
    have h6 := blk_put h5 6 (.int .i64 x.f4) (cs' := #[.int .i64 x.f0, .int .i64 x.f1, .int .i64 x.f2, .int .i64 x.f3.f0, .int .i64 x.f3.f1, .int .i64 x.f3.f2, .int .i64 x.f4]) rfl
    exact h6
theorem block_Encode.st_far (W : World) {G g : Nat} (hg : g ≠ G) (x : S62) : (block_Encode.st W G x).heap[g]? = W.heap[g]? := by
  unfold block_Encode.st
  rw [Below.heap_setCell _ _ _ g hg, Below.heap_setCell _ _ _ g hg, Below.heap_setCell _ _ _ g hg, Below.heap_setCell _ _ _ g hg, Below.heap_setCell _ _ _ g hg, Below.heap_setCell _ _ _ g hg, Below.heap_setCell _ _ _ g hg]
theorem block_Encode.st_below {w W : World} {G : Nat} (hb : Below w.heap.size w W) (hG : w.heap.size ≤ G) (x : S62) : Below w.heap.size w (block_Encode.st W G x) :=
  below_set (below_set (below_set (below_set (below_set (below_set (below_set hb hG) hG) hG) hG) hG) hG) hG
theorem block_Encode.st_row {w W : World} {B G : Nat} {v : Value} {b : List Int} {cs : Array Value} (h : Kd.R (Kd.int .u8) 5 W B (fun _ => True) v b) (hb : W.heap[G]? = some (.cells cs 62 (0, 0))) (x : S62) : Kd.R (Kd.int .u8) 5 (block_Encode.st W G x) B (fun _ => True) v b :=
  Kd.R_mono (Kd.R_step (Kd.R_types h hb (by decide)) (fun j hj _ => block_Encode.st_far W hj.2 x)) (fun _ _ => trivial)
theorem block_Encode.rd_drop (l : List S62) (i : Nat) (h : i < l.length) : l.drop i = rd_T62 l (i : Int) :: l.drop (i + 1) := by
  rw [List.drop_eq_getElem_cons h]
  unfold rd_T62
  rw [Int.toNat_natCast, List.getD_eq_getElem?_getD, List.getElem?_eq_getElem h]; rfl
set_option maxHeartbeats 8000000 in
set_option maxRecDepth 100000 in
theorem block_Encode.calls (k : Nat) (A0 : Option Addr) (c0 : Nat) (l0 : List S62) (r1 : List Int) (r2 : Int) (w : World) (hr0 : Kd.C k62 w A0 l0.length l0) (hc0 : l0.length ≤ c0) (h : block_Encode.f k l0 = some (r1, r2)) :
    Calls Tryz.prog 88 #[.slice A0 l0.length c0] w fun e w' => ∃ v0_ : Value, e = .returned (.tuple #[v0_, .int .i64 r2]) ∧ Kd.R (Kd.int .u8) 5 w' w.heap.size (fun _ => True) v0_ r1 ∧ Below w.heap.size w w' := by
  have hmm := @run_makeMap Tryz.prog
  have hu62 := Tryz.underlying62
  have hu38 := Tryz.underlying38
  unfold block_Encode.f at h
  rw [Option.bind_eq_some_iff] at h
  obtain ⟨t, ht, h⟩ := h
  have HT := Aside0.mk ht
  have HR0 := Aside0.mk hr0
  have HC0 := Aside0.mk hc0
  have HL := Aside0.mk hr0.2.1
  clear ht hr0 hc0
  have tokA_ : True := trivial
  cases t with
  | false =>
    rw [if_neg (by decide)] at h
    simp only [Option.some.injEq, Prod.mk.injEq] at h
    obtain ⟨rfl, rfl⟩ := h
    go_enter Tryz.func88, Tryz.ntmps88
    go_wp2_with (clear tokA_; go_at_call 128; refine (block_Fits.calls k A0 c0 l0 false _ HR0.out HC0.out HT.out).mono ?_; rintro e W1 ⟨rfl, hb1⟩; have HB1 := Aside0.mk hb1; clear hb1)
    go_ret2
    exact ⟨_, rfl, Kd.R_nil _ _ _ _ _, HB1.out⟩
  | true =>
    rw [if_pos rfl] at h
    by_cases hpos : 0 < (l0.length : Int)
    case neg => (rw [if_neg hpos] at h; cases h)
    rw [if_pos hpos, Option.bind_eq_some_iff] at h
    obtain ⟨b1, hp1, h⟩ := h
    rw [Option.bind_eq_some_iff] at h
    obtain ⟨b2, hp2, h⟩ := h
    rw [Option.bind_eq_some_iff] at h
    obtain ⟨rb, hgo, h⟩ := h
    simp only [Option.some.injEq, Prod.mk.injEq] at h
    obtain ⟨rfl, rfl⟩ := h
    have HP1 := Aside0.mk hp1
    have HP2 := Aside0.mk hp2
    have HG := Aside0.mk hgo
    clear hp1 hp2 hgo
    have c0b : decide (0 < (l0.length : Int)) = true := decide_eq_true hpos
    have c0n : decide (0 < l0.length) = true := decide_eq_true (by omega)
    obtain ⟨ad0, e0, hx0, _⟩ := at_T62 HR0.out 0 (Int.le_refl _) hpos
    cases e0
    rw [show ((0 : Int)).toNat = 0 from rfl, Nat.zero_mul, Addr.add_zero'] at hx0
    obtain ⟨i0, hi0⟩ : ∃ i0, i0 = (rd_T62 l0 0).f0 := ⟨_, rfl⟩
    rw [← hi0] at hx0
    have HX0 := Aside0.mk hx0
    have HI0 := Aside0.mk hi0
    have qi0 : (0 < l0.length) = True := eq_true (by omega)
    clear hx0 hi0 hpos
    go_enter Tryz.func88, Tryz.ntmps88
    have tokB_ : True := trivial
    have tokC_ : True := trivial
    go_wp2_with (first
      | (clear tokA_; go_at_call 128; refine (block_Fits.calls k (some ad0) c0 l0 true _ HR0.out HC0.out HT.out).mono ?_; rintro e W1 ⟨rfl, hb1⟩; have HB1 := Aside0.mk hb1; clear hb1; have hx1 : ∀ o, (W1.alloc o).cell? ad0 = some (.int .i64 i0) := fun o => ((below_alloc HB1.out o).cell (World.block_lt_of_cell? w _ HX0.out)).trans HX0.out)
      | (clear tokB_; go_at_call 22; refine (num_Put.calls k (fun k_ => some k_ = (.slice none 0 0 : Value).ownBlock) (.slice none 0 0) [] i0 b1 w _ (below_alloc HB1.out _) (Kd.R_nil _ _ _ _ _) (HI0.out.symm ▸ HP1.out)).mono ?_; rintro e W2 ⟨v1, rfl, ho, hb, hkp⟩; have HO2 := Aside0.mk (Kd.R_mono (ok' := fun _ => True) ho (fun _ _ => trivial)); have HB2 := Aside0.mk hb; have HM2 := Aside0.mk ((Go.Proofs.YtgljebaiakhbfaaGreat.MapAid.IsM.made Tryz.prog 3 W1).kept hkp (fun hs => by simp [Value.ownBlock] at hs)); have HMw := Aside0.mk (below_size HB1.out); obtain ⟨M, hM⟩ : ∃ M, M = W1.heap.size := ⟨_, rfl⟩; rw [← hM] at HM2 HMw ⊢; clear ho hb hkp hx1 hM)
      | (clear tokC_; go_at_call 22; refine (num_Put.calls k (fun k_ => some k_ = v1.ownBlock) v1 b1 (l0.length : Int) b2 w _ HB2.out (Kd.R_tight rfl HO2.out) HP2.out).mono ?_; rintro e W3 ⟨v2, rfl, ho, hb, hkp⟩; have HO3 := Aside0.mk (Kd.R_mono (ok' := fun _ => True) ho (fun _ _ => trivial)); have HB3 := Aside0.mk hb; have HM3 := Aside0.mk (HM2.out.kept hkp (fun hs => HM2.out.ne_own HO2.out hs)); clear ho hb hkp HO2 HB2 HM2))
    go_loopg [5, 22] l0.length (fun kq v5 v22 w' => ∃ (i : Nat) (f : Int → Int) (b : List Int), v22 = .int .i64 i ∧ Aside0 (i + kq = l0.length) ∧ Aside0 (block_Encode.go k (l0.drop i) f b = some rb) ∧ Aside0 (Kd.R (Kd.int .u8) 5 w' w.heap.size (fun _ => True) v5 b) ∧ Aside0 (Go.Proofs.YtgljebaiakhbfaaGreat.MapAid.IsM Tryz.prog 3 w' M i f) ∧ Aside0 (Below w.heap.size w w'))
    case atStart => exact ⟨0, _, _, rfl, ⟨by omega⟩, HG, HO3, HM3, HB3⟩
    case round =>
      clear HG HO3 HM3 HB3
      obtain ⟨i, f, b, rfl, HI, HG, HO, HM, HB⟩ := hrel
      have hi := HI.out
      have hl := HL.out
      cases gk with
      | zero =>
        have c1 : decide ((i : Int) < (l0.length : Int)) = false := decide_eq_false (by omega)
        have c2 : decide (i < l0.length) = false := decide_eq_false (by omega)
        have h := HG.out
        rw [List.drop_eq_nil_of_le (by omega)] at h
        simp only [block_Encode.go, Option.some.injEq] at h
        subst h
        clear hi hl
        go_wp2
        go_ret2
        exact ⟨_, rfl, HO.out, HB.out⟩
      | succ n =>
        have hlt : i < l0.length := by omega
        have h := HG.out
        obtain ⟨x, hx⟩ : ∃ x, x = rd_T62 l0 (i : Int) := ⟨_, rfl⟩
        rw [block_Encode.rd_drop l0 i hlt, ← hx] at h
        simp only [block_Encode.go] at h
        by_cases hc : 0 ≤ x.f1 ∧ x.f1 ≤ 64 ∧ 0 ≤ x.f2 ∧ x.f2 < 4611686018427387904
        case neg => (rw [if_neg hc] at h; cases h)
        rw [if_pos hc, Option.bind_eq_some_iff] at h
        obtain ⟨b1, g1, h⟩ := h
        rw [Option.bind_eq_some_iff] at h
        obtain ⟨b2, g2, h⟩ := h
        rw [Option.bind_eq_some_iff] at h
        obtain ⟨⟨b3, e3⟩, g3, h⟩ := h
        rw [Option.bind_eq_some_iff] at h
        obtain ⟨b4, g4, h⟩ := h
        have A1 := Aside0.mk g1
        have A2 := Aside0.mk g2
        have A3 := Aside0.mk g3
        have A4 := Aside0.mk g4
        have HG5 := Aside0.mk h
        have HW1 := Aside0.mk (block_Encode.wf_of (n := x.f1) (by omega) (by omega))
        have HW2 := Aside0.mk (block_Encode.wf_of (n := x.f2) (by omega) (by omega))
        clear h g1 g2 g3 g4 HG hc
        obtain ⟨ad, ead, hx0, hx1, hx2, hx3, hx4, hx5, hx6⟩ := at_T62 HR0.out (i : Int) (by omega) (by omega)
        cases ead
        rw [← hx, Int.toNat_natCast] at hx0 hx1 hx2 hx3 hx4 hx5 hx6
        replace hx0 := (HB.out.cell (World.block_lt_of_cell? w _ hx0)).trans hx0
        replace hx1 := (HB.out.cell (World.block_lt_of_cell? w _ hx1)).trans hx1
        replace hx2 := (HB.out.cell (World.block_lt_of_cell? w _ hx2)).trans hx2
        replace hx3 := (HB.out.cell (World.block_lt_of_cell? w _ hx3)).trans hx3
        replace hx4 := (HB.out.cell (World.block_lt_of_cell? w _ hx4)).trans hx4
        replace hx5 := (HB.out.cell (World.block_lt_of_cell? w _ hx5)).trans hx5
        replace hx6 := (HB.out.cell (World.block_lt_of_cell? w _ hx6)).trans hx6
        have HX := Aside0.mk hx
        have c1 : decide ((i : Int) < (l0.length : Int)) = true := decide_eq_true (by omega)
        have c2 : decide (i < l0.length) = true := decide_eq_true hlt
        have p1 := eq_true (show (0 : Int) ≤ (i : Int) by omega)
        have p2 := eq_true (show (i : Int) < (l0.length : Int) by omega)
        have HLT := Aside0.mk hlt
        clear hi hl hlt hx
        go_wp2_with (first
          | ((with_reducible refine gate_dst (N := 7) rfl ?_); refine box_event ?hg (N := 7) ?hd (cs := #[.int .i64 0, .int .i64 0, .int .i64 0, .int .i64 0, .int .i64 0, .int .i64 0, .int .i64 0]) (t := 62) ?hr ?_; (case hd => rfl); (case hg => rfl); (case hr => first | (go_simp; done) | (go_simp; rfl)); intro G hg Wb hbox hb; have HOb := Aside0.mk (Kd.R_below HO.out hb); have HMb := Aside0.mk (HM.out.below hb); have BKb := Aside0.mk hbox; have HBb := Aside0.mk (below_step HB.out hb); have HGW := Aside0.mk (show w.heap.size ≤ G by rw [hg]; exact below_size HB.out); clear hg hbox hb HO HM HB; have zc0 := (blk_cell BKb.out 0).trans rfl; have zc1 := (blk_cell BKb.out 1).trans rfl; have zc2 := (blk_cell BKb.out 2).trans rfl; have zc3 := (blk_cell BKb.out 3).trans rfl; have zc4 := (blk_cell BKb.out 4).trans rfl; have zc5 := (blk_cell BKb.out 5).trans rfl; have zc6 := (blk_cell BKb.out 6).trans rfl; have zf0 := blk_frozen BKb.out 0; have zf1 := blk_frozen BKb.out 1; have zf2 := blk_frozen BKb.out 2; have zf3 := blk_frozen BKb.out 3; have zf4 := blk_frozen BKb.out 4; have zf5 := blk_frozen BKb.out 5; have zf6 := blk_frozen BKb.out 6))
        obtain ⟨Ws, hw⟩ : ∃ Ws, Ws = block_Encode.st Wb G x := ⟨_, rfl⟩
        show Code.wp _ _ _ _ (block_Encode.st Wb G x)
        rw [← hw]
        have HOs := Aside0.mk (show Kd.R (Kd.int .u8) 5 Ws w.heap.size (fun _ => True) u5 b by rw [hw]; exact block_Encode.st_row (w := w) HOb.out BKb.out x)
        have HMs := Aside0.mk (show Go.Proofs.YtgljebaiakhbfaaGreat.MapAid.IsM Tryz.prog 3 Ws M i f by rw [hw]; exact HMb.out.move (block_Encode.st_far Wb (HMb.out.ne BKb.out) x))
        have BKs := Aside0.mk (show Ws.heap[G]? = some (.cells (block_Encode.cs x) 62 (0, 0)) by rw [hw]; exact block_Encode.st_heap BKb.out x)
        have HBs := Aside0.mk (show Below w.heap.size w Ws by rw [hw]; exact block_Encode.st_below HBb.out HGW.out x)
        clear hw HOb HMb BKb HBb zc0 zc1 zc2 zc3 zc4 zc5 zc6 zf0 zf1 zf2 zf3 zf4 zf5 zf6 hx0 hx1 hx2 hx3 hx4 hx5 hx6
        have hw1 := HW1.out
        have BKd := Aside0.mk (blk_drew BKs.out)
        have HMd := Aside0.mk HMs.out.drew
        have HOd := Aside0.mk (Kd.R_drew HOs.out)
        have HBd := Aside0.mk (below_drew1 HBs.out)
        clear BKs HMs HOs HBs
        refine start_ (n := 13) (S := fun w' => w'.cell? ⟨G, 1, none⟩ = some (.int .i64 x.f1) ∧ w'.cell? ⟨G, 2, none⟩ = some (.int .i64 x.f2) ∧ (Instr.lookup 185 (.map (some M)) (.int .i64 x.f1) false).run Tryz.prog w' = .ok (.int .i64 (f x.f1)) w') (ds := []) #[false, false, false, false, false, false, false, false, false, false, false, false, false] (by kernel_rfl) rfl rfl ⟨(blk_cell BKd.out 1).trans rfl, (blk_cell BKd.out 2).trans rfl, (HMd.out.lookup Tryz.underlying3 Tryz.underlying185 (by kernel_rfl) hw1).1⟩ (fun hHeld => ?_)
        generalize Ws.drew = Wd at BKd HMd HOd HBd hHeld ⊢
        refine pure_ (i := 0) (N := some 26) (v := ?_) (a' := ?_) #[true, false, false, false, false, false, false, false, false, false, false, false, false] rfl rfl (by kernel_rfl) (fun _ _ _ h => h) (Or.inl ⟨by rfl, ?_⟩) ?_ ?_
        rotate_left
        · intro w'
          go_simp
          with_reducible rfl
        rotate_left
        · simp only [Act.put, List.setIfInBounds_toArray, List.set_cons_zero, List.set_cons_succ, i64_w, i32_w]
          rfl
        refine pure_ (i := 1) (N := some 27) (v := ?_) (a' := ?_) #[true, true, false, false, false, false, false, false, false, false, false, false, false] rfl rfl (by kernel_rfl) (fun _ _ _ h => h) (Or.inl ⟨by rfl, ?_⟩) ?_ ?_
        rotate_left
        · intro w'
          go_simp
          with_reducible rfl
        rotate_left
        · simp only [Act.put, List.setIfInBounds_toArray, List.set_cons_zero, List.set_cons_succ, i64_w, i32_w]
          rfl
        refine pure_ (i := 4) (N := some 30) (v := ?_) (a' := ?_) #[true, true, false, false, true, false, false, false, false, false, false, false, false] rfl rfl (by kernel_rfl) (fun _ _ _ h => h) (Or.inl ⟨by rfl, ?_⟩) ?_ ?_
        rotate_left
        · intro w'
          go_simp
          with_reducible rfl
        rotate_left
        · simp only [Act.put, List.setIfInBounds_toArray, List.set_cons_zero, List.set_cons_succ, i64_w, i32_w]
          rfl
        refine pure_ (i := 6) (N := some 32) (v := ?_) (a' := ?_) #[true, true, false, false, true, false, true, false, false, false, false, false, false] rfl rfl (by kernel_rfl) (fun _ _ _ h => h) (Or.inl ⟨by rfl, ?_⟩) ?_ ?_
        rotate_left
        · intro w'
          go_simp
          with_reducible rfl
        rotate_left
        · simp only [Act.put, List.setIfInBounds_toArray, List.set_cons_zero, List.set_cons_succ, i64_w, i32_w]
          rfl
        refine pure_ (i := 7) (N := some 33) (v := ?_) (a' := ?_) #[true, true, false, false, true, false, true, true, false, false, false, false, false] rfl rfl (by kernel_rfl) (fun _ _ _ h => h) (Or.inl ⟨by rfl, ?_⟩) ?_ ?_
        rotate_left
        · intro w'
          go_simp
          with_reducible rfl
        rotate_left
        · simp only [Act.put, List.setIfInBounds_toArray, List.set_cons_zero, List.set_cons_succ, i64_w, i32_w]
          rfl
        refine take_ (i := 2) (N := some 28) (v := ?_) (a' := ?_) #[true, true, true, false, true, false, true, true, false, false, false, false, false] rfl rfl (by kernel_rfl) (fun _ _ _ h => h) (Or.inl ⟨by rfl, ?_⟩) hHeld ?_ ?_
        rotate_left
        · rintro w' ⟨s0, s1, s2⟩
          go_simp
          with_reducible rfl
        rotate_left
        · simp only [Act.put, List.setIfInBounds_toArray, List.set_cons_zero, List.set_cons_succ, i64_w, i32_w]
          rfl
        refine take_ (i := 5) (N := some 31) (v := ?_) (a' := ?_) #[true, true, true, false, true, true, true, true, false, false, false, false, false] rfl rfl (by kernel_rfl) (fun _ _ _ h => h) (Or.inl ⟨by rfl, ?_⟩) hHeld ?_ ?_
        rotate_left
        · rintro w' ⟨s0, s1, s2⟩
          go_simp
          with_reducible rfl
        rotate_left
        · simp only [Act.put, List.setIfInBounds_toArray, List.set_cons_zero, List.set_cons_succ, i64_w, i32_w]
          rfl
        refine take_ (i := 8) (N := some 34) (v := ?_) (a' := ?_) #[true, true, true, false, true, true, true, true, true, false, false, false, false] rfl rfl (by kernel_rfl) (fun _ _ _ h => h) (Or.inl ⟨by rfl, ?_⟩) hHeld ?_ ?_
        rotate_left
        · rintro w' ⟨s0, s1, s2⟩
          go_simp
          with_reducible rfl
        rotate_left
        · simp only [Act.put, List.setIfInBounds_toArray, List.set_cons_zero, List.set_cons_succ, i64_w, i32_w]
          rfl
        refine take_ (i := 9) (N := some 35) (v := ?_) (a' := ?_) #[true, true, true, false, true, true, true, true, true, true, false, false, false] rfl rfl (by kernel_rfl) (fun _ _ _ h => h) (Or.inl ⟨by rfl, ?_⟩) hHeld ?_ ?_
        rotate_left
        · rintro w' ⟨s0, s1, s2⟩
          go_simp
          with_reducible rfl
        rotate_left
        · simp only [Act.put, List.setIfInBounds_toArray, List.set_cons_zero, List.set_cons_succ, i64_w, i32_w]
          rfl
        refine pure_ (i := 10) (N := some 36) (v := ?_) (a' := ?_) #[true, true, true, false, true, true, true, true, true, true, true, false, false] rfl rfl (by kernel_rfl) (fun _ _ _ h => h) (Or.inl ⟨by rfl, ?_⟩) ?_ ?_
        rotate_left
        · intro w'
          go_simp
          with_reducible rfl
        rotate_left
        · simp only [Act.put, List.setIfInBounds_toArray, List.set_cons_zero, List.set_cons_succ, i64_w, i32_w]
          rfl
        refine one_ (i := 3) (N := some 29) #[true, true, true, true, true, true, true, true, true, true, true, false, false] rfl rfl (by kernel_rfl) (by decide) (fun K hK => ?_)
        refine goes_ Tryz.func22 (by kernel_rfl) rfl #[u5, .int .i64 x.f1] (by rfl) rfl rfl (by (try simp only [List.map_toArray, List.map_cons, List.map_nil]); first | done | rfl) ?_
        with_reducible refine (num_Put.calls k (fun k_ => some k_ = u5.ownBlock) u5 b x.f1 b1 w _ HBd.out (Kd.R_tight rfl HOd.out) A1.out).mono ?_
        rintro e W3 ⟨v1, rfl, ho, hb, hkp⟩
        refine ⟨_, rfl, ?_⟩
        have HO3 := Aside0.mk (Kd.R_mono (ok' := fun _ => True) ho (fun _ _ => trivial))
        have HB3 := Aside0.mk hb
        have BK3 := Aside0.mk (blk_kept BKd.out hkp (fun hs => (Kd.R_ne HOd.out BKd.out (by decide)) hs))
        have HM3 := Aside0.mk (HMd.out.kept hkp (fun hs => HMd.out.ne_own HOd.out hs))
        clear ho hb hkp
        refine hK.out _ _ ⟨(blk_cell BK3.out 1).trans rfl, (blk_cell BK3.out 2).trans rfl, (HM3.out.lookup Tryz.underlying3 Tryz.underlying185 (by kernel_rfl) hw1).1⟩ (fun hHeld => ?_)
        clear hK K
        refine norm_ (a' := ?_) ?_ ?_
        rotate_left
        · show Act.put _ (some 29) _ = _
          simp only [Act.put, List.setIfInBounds_toArray, List.set_cons_zero, List.set_cons_succ, i64_w, i32_w]
          rfl
        refine one_ (i := 11) (N := some 37) #[true, true, true, true, true, true, true, true, true, true, true, true, false] rfl rfl (by kernel_rfl) (by decide) (fun K hK => ?_)
        refine goes_ Tryz.func24 (by kernel_rfl) rfl #[v1, .int .i64 (wrap64 (x.f2 - f x.f1))] (by rfl) rfl rfl (by (try simp only [List.map_toArray, List.map_cons, List.map_nil]); first | done | rfl) ?_
        with_reducible refine (num_PutSigned.calls k (fun k_ => some k_ = v1.ownBlock) v1 b1 (wrap64 (x.f2 - f x.f1)) b2 w _ HB3.out (Kd.R_tight rfl HO3.out) A2.out).mono ?_
        rintro e W4 ⟨v2, rfl, ho, hb, hkp⟩
        refine ⟨_, rfl, ?_⟩
        have HO4 := Aside0.mk (Kd.R_mono (ok' := fun _ => True) ho (fun _ _ => trivial))
        have HB4 := Aside0.mk hb
        have BK4 := Aside0.mk (blk_kept BK3.out hkp (fun hs => (Kd.R_ne HO3.out BK3.out (by decide)) hs))
        have HM4 := Aside0.mk (HM3.out.kept hkp (fun hs => HM3.out.ne_own HO3.out hs))
        clear ho hb hkp
        refine hK.out _ _ ⟨(blk_cell BK4.out 1).trans rfl, (blk_cell BK4.out 2).trans rfl, (HM4.out.lookup Tryz.underlying3 Tryz.underlying185 (by kernel_rfl) hw1).1⟩ (fun hHeld => ?_)
        clear hK K
        refine norm_ (a' := ?_) ?_ ?_
        rotate_left
        · show Act.put _ (some 37) _ = _
          simp only [Act.put, List.setIfInBounds_toArray, List.set_cons_zero, List.set_cons_succ, i64_w, i32_w]
          rfl
        refine pure_ (i := 12) (N := some 5) (v := ?_) (a' := ?_) #[true, true, true, true, true, true, true, true, true, true, true, true, true] rfl rfl (by kernel_rfl) (fun _ _ _ h => h) (Or.inl ⟨by rfl, ?_⟩) ?_ ?_
        rotate_left
        · intro w'
          go_simp
          with_reducible rfl
        rotate_left
        · simp only [Act.put, List.setIfInBounds_toArray, List.set_cons_zero, List.set_cons_succ, i64_w, i32_w]
          rfl
        refine done_ (by kernel_rfl) ?_
        clear hw1
        have sc0 : W4.cell? ⟨G, 0, none⟩ = some (.int .i64 x.f0) := (blk_cell BK4.out 0).trans rfl
        have sc1 : W4.cell? ⟨G, 1, none⟩ = some (.int .i64 x.f1) := (blk_cell BK4.out 1).trans rfl
        have sc2 : W4.cell? ⟨G, 2, none⟩ = some (.int .i64 x.f2) := (blk_cell BK4.out 2).trans rfl
        have sc3 : W4.cell? ⟨G, 3, none⟩ = some (.int .i64 x.f3.f0) := (blk_cell BK4.out 3).trans rfl
        have sc4 : W4.cell? ⟨G, 4, none⟩ = some (.int .i64 x.f3.f1) := (blk_cell BK4.out 4).trans rfl
        have sc5 : W4.cell? ⟨G, 5, none⟩ = some (.int .i64 x.f3.f2) := (blk_cell BK4.out 5).trans rfl
        have sc6 : W4.cell? ⟨G, 6, none⟩ = some (.int .i64 x.f4) := (blk_cell BK4.out 6).trans rfl
        have tokD_ : True := trivial
        have tokE_ : True := trivial
        have tokF_ : True := trivial
        go_wp2_with (first
          | (clear tokD_; go_at_call 10; refine (codec_PutOp.calls k (fun k_ => some k_ = v2.ownBlock) v2 b2 x.f3.f0 x.f3.f1 x.f3.f2 b3 e3 w _ HB4.out (Kd.R_tight rfl HO4.out) A3.out).mono ?_; rintro e W5 ⟨v3, rfl, ho, hb, hkp⟩; have HO5 := Aside0.mk (Kd.R_mono (ok' := fun _ => True) ho (fun _ _ => trivial)); have HB5 := Aside0.mk hb; have BK5 := Aside0.mk (blk_kept BK4.out hkp (fun hs => (Kd.R_ne HO4.out BK4.out (by decide)) hs)); have HM5 := Aside0.mk (HM4.out.kept hkp (fun hs => HM4.out.ne_own HO4.out hs)); clear ho hb hkp; clear sc0 sc1 sc2 sc3 sc4 sc5 sc6; have sc0 : W5.cell? ⟨G, 0, none⟩ = some (.int .i64 x.f0) := (blk_cell BK5.out 0).trans rfl; have sc1 : W5.cell? ⟨G, 1, none⟩ = some (.int .i64 x.f1) := (blk_cell BK5.out 1).trans rfl; have sc2 : W5.cell? ⟨G, 2, none⟩ = some (.int .i64 x.f2) := (blk_cell BK5.out 2).trans rfl; have sc3 : W5.cell? ⟨G, 3, none⟩ = some (.int .i64 x.f3.f0) := (blk_cell BK5.out 3).trans rfl; have sc4 : W5.cell? ⟨G, 4, none⟩ = some (.int .i64 x.f3.f1) := (blk_cell BK5.out 4).trans rfl; have sc5 : W5.cell? ⟨G, 5, none⟩ = some (.int .i64 x.f3.f2) := (blk_cell BK5.out 5).trans rfl; have sc6 : W5.cell? ⟨G, 6, none⟩ = some (.int .i64 x.f4) := (blk_cell BK5.out 6).trans rfl)
          | (clear tokE_; go_at_call 24; refine (num_PutSigned.calls k (fun k_ => some k_ = v3.ownBlock) v3 b3 x.f4 b4 w _ HB5.out (Kd.R_tight rfl HO5.out) A4.out).mono ?_; rintro e W6 ⟨v4, rfl, ho, hb, hkp⟩; have HO6 := Aside0.mk (Kd.R_mono (ok' := fun _ => True) ho (fun _ _ => trivial)); have HB6 := Aside0.mk hb; have BK6 := Aside0.mk (blk_kept BK5.out hkp (fun hs => (Kd.R_ne HO5.out BK5.out (by decide)) hs)); have HM6 := Aside0.mk (HM5.out.kept hkp (fun hs => HM5.out.ne_own HO5.out hs)); clear ho hb hkp; clear sc0 sc1 sc2 sc3 sc4 sc5 sc6; have sc0 : W6.cell? ⟨G, 0, none⟩ = some (.int .i64 x.f0) := (blk_cell BK6.out 0).trans rfl; have sc1 : W6.cell? ⟨G, 1, none⟩ = some (.int .i64 x.f1) := (blk_cell BK6.out 1).trans rfl; have sc2 : W6.cell? ⟨G, 2, none⟩ = some (.int .i64 x.f2) := (blk_cell BK6.out 2).trans rfl; have sc3 : W6.cell? ⟨G, 3, none⟩ = some (.int .i64 x.f3.f0) := (blk_cell BK6.out 3).trans rfl; have sc4 : W6.cell? ⟨G, 4, none⟩ = some (.int .i64 x.f3.f1) := (blk_cell BK6.out 4).trans rfl; have sc5 : W6.cell? ⟨G, 5, none⟩ = some (.int .i64 x.f3.f2) := (blk_cell BK6.out 5).trans rfl; have sc6 : W6.cell? ⟨G, 6, none⟩ = some (.int .i64 x.f4) := (blk_cell BK6.out 6).trans rfl)
          | (clear tokF_; at_mapUpdate; refine Go.Proofs.YtgljebaiakhbfaaGreat.MapAid.wpList_mapUpdate_is rfl _ _ _ 185 rfl HM6.out Tryz.underlying3 Tryz.underlying185 (by unfold maxLen; have := HLT.out; have := HL.out; omega) rfl rfl rfl HW1.out HW2.out ?_; intro W7 hm hg; have HO7 := Aside0.mk (HM6.out.row_grown HO6.out hg); have HB7 := Aside0.mk (HB6.out.grown hg (below_size HB6.out) (fun j hj => by cases hj; exact HMw.out)); have HM7 := Aside0.mk hm; clear hm hg))
        go_roundg n
        case measure => omega
        case rel =>
          have hi := HI.out
          have hl := HL.out
          exact ⟨i + 1, _, _, by first | rfl | (rw [show wrap64 ((i : Int) + 1) = ((i + 1 : Nat) : Int) by unfold wrap64; omega]) | go_num, ⟨by omega⟩, HG5, HO7, HM7, HB7⟩
/-! ### files_may: function 110 -/
def files_may.f (a0 : Int) : Option (Bool) := if a0 ≥ 0 then (some (decide (a0 < 1048576))) else (some false)
set_option maxHeartbeats 8000000 in
set_option maxRecDepth 100000 in
theorem files_may.calls (a0 : Int) (r : Bool) (w : World) (h : files_may.f a0 = some r) :
    Calls Tryz.prog 110 #[.int .i64 a0] w fun e w' => e = .returned (.bool r) ∧ Drawn0 w w' := by
  have H : (if a0 ≥ 0 then (some (decide (a0 < 1048576))) else (some false)) = some r := h
  clear h
  by_cases c2 : a0 ≥ 0
  · rw [if_pos c2] at H
    have c2b0 : decide (0 ≤ a0) = true := decide_eq_true c2
    clear c2
    obtain rfl := Option.some.inj H
    go_enter Tryz.func110, Tryz.ntmps110
    go_wp2
    go_ret
    exact ⟨by first | rfl | (simp; done) | (simp [*]; done), by repeat (first | exact Drawn0.refl _ | apply Drawn0.step)⟩
  · rw [if_neg c2] at H
    have c2b0 : decide (0 ≤ a0) = false := decide_eq_false c2
    clear c2
    obtain rfl := Option.some.inj H
    go_enter Tryz.func110, Tryz.ntmps110
    go_wp2
    go_ret
    exact ⟨by first | rfl | (simp; done) | (simp [*]; done), by repeat (first | exact Drawn0.refl _ | apply Drawn0.step)⟩
/-! ### store_last_int: function 114 -/
def store_last_int.f (l0 : List Int) : Option (Int × Bool) := if (l0.length : Int) = 0 then (some (0, false)) else (if 0 ≤ (wrap64 ((l0.length : Int) - 1)) then (if (wrap64 ((l0.length : Int) - 1)) < (l0.length : Int) then (some (rd l0 (wrap64 ((l0.length : Int) - 1)), true)) else (none)) else (none))
set_option maxHeartbeats 8000000 in
set_option maxRecDepth 100000 in
theorem store_last_int.calls (A0 : Option Addr) (c0 : Nat) (l0 : List Int) (r1 : Int) (r2 : Bool) (w : World) (hr0 : Kd.C (Kd.int .i64) w A0 l0.length l0) (hc0 : l0.length ≤ c0) (h : store_last_int.f l0 = some (r1, r2)) :
    Calls Tryz.prog 114 #[.slice A0 l0.length c0] w fun e w' => e = .returned (.tuple #[.int .i64 r1, .bool r2]) ∧ Drawn0 w w' := by
  have HR0 := Aside0.mk hr0
  have HC0 := Aside0.mk hc0
  clear hr0 hc0
  have H : (if (l0.length : Int) = 0 then (some (0, false)) else (if 0 ≤ (wrap64 ((l0.length : Int) - 1)) then (if (wrap64 ((l0.length : Int) - 1)) < (l0.length : Int) then (some (rd l0 (wrap64 ((l0.length : Int) - 1)), true)) else (none)) else (none))) = some (r1, r2) := h
  clear h
  by_cases c2 : (l0.length : Int) = 0
  · rw [if_pos c2] at H
    have c2b0 : ((l0.length : Int) == 0) = true := beq_iff_eq.mpr c2
    have c2b1 : ((l0.length : Int) != 0) = false := bne_eq_false_iff_eq.mpr c2
    clear c2
    simp only [Option.some.injEq, Prod.mk.injEq] at H
    obtain ⟨rfl, rfl⟩ := H
    go_enter Tryz.func114, Tryz.ntmps114
    go_wp2
    go_ret2
    exact ⟨by first | rfl | (simp; done) | (simp [*]; done), by repeat (first | exact Drawn0.refl _ | apply Drawn0.step)⟩
  · rw [if_neg c2] at H
    have c2b0 : ((l0.length : Int) == 0) = false := beq_eq_false_iff_ne.mpr c2
    have c2b1 : ((l0.length : Int) != 0) = true := bne_iff_ne.mpr c2
    have c2b2 : ¬ (l0 = []) := fun h_ => c2 (by rw [h_]; rfl)
    obtain ⟨ji3, hji3⟩ : ∃ j_ : Int, (wrap64 ((l0.length : Int) - 1)) = j_ := ⟨_, rfl⟩
    replace H : (if 0 ≤ (ji3) then (if (ji3) < (l0.length : Int) then (some (rd l0 (ji3), true)) else (none)) else (none)) = some (r1, r2) := by first | (rw [hji3] at H; exact H) | (simp only [hji3] at H ⊢; exact H)
    have hji3w : (IntKind.i64.wrap ((l0.length : Int) - 1)) = ji3 := (i64_w _).trans hji3
    by_cases c4 : 0 ≤ (ji3)
    · rw [if_pos c4] at H
      have c4b0 : decide (0 ≤ (ji3)) = true := decide_eq_true c4
      clear c4
      by_cases c5 : (ji3) < (l0.length : Int)
      · rw [if_pos c5] at H
        have c5b0 : decide ((ji3) < (l0.length : Int)) = true := decide_eq_true c5
        clear c5
        simp only [Option.some.injEq, Prod.mk.injEq] at H
        obtain ⟨rfl, rfl⟩ := H
        have p581 : 0 ≤ ((ji3) : Int) := of_decide_eq_true (by first | (with_reducible assumption) | assumption)
        have q581 : (ji3) < (l0.length : Int) := of_decide_eq_true (by first | (with_reducible assumption) | assumption)
        obtain ⟨ad581, e581, hx581_0⟩ := Kd.at_int HR0.out (ji3) p581 q581
        cases e581
        replace p581 := eq_true p581
        replace q581 := eq_true q581
        go_enter Tryz.func114, Tryz.ntmps114
        go_wp2
        go_ret2
        exact ⟨by first | rfl | (simp; done) | (simp only [← hji3] <;> (first | rfl | simp)) | (simp [*]; done), by repeat (first | exact Drawn0.refl _ | apply Drawn0.step)⟩
      · rw [if_neg c5] at H
        exact absurd H (by simp)
    · rw [if_neg c4] at H
      exact absurd H (by simp)

end Go.Proofs.YtgljebaiakhbfaaGreat.QTopUpgrades
