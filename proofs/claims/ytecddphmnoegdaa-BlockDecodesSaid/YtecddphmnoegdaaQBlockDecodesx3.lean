/- What this text proves: words of a printed walk, as far as the row needs them; no condition. Out of the kit's print program; what isn't used is struck by wip/tools/slim.py. -/
import Derived.Test.YtecddphmnoegdaaQBlockDecodesx0
import Derived.Test.YtecddphmnoegdaaQBlockDecodesx2
namespace Go.Proofs.Ytecddphmnoegdaa.QBlockDecodes
open Go.RowKit Go.Proofs.YtecddphmnoegdaaW.PrintWords Go.Proofs.YtecddphmnoegdaaW.PrintLast Go.Proofs.YtecddphmnoegdaaW.PrintMore
attribute [local go_sem] max2_int min2_int max_two min_two max_three min_three max_four min_four   -- for this text's walks alone
set_option linter.unusedVariables false
set_option linter.unusedSimpArgs false

/-! ### schema_Fits: function 25 -/
def schema_Fits.f (a0_0 : Int) (a0_1 : Int) (a0_2 : Int) (a0_3 : Int) (a0_4 : Int) (a0_5 : Int) (a0_6 : Int) : Option (Bool) := if a0_0 ≥ 0 then (if a0_0 < 4611686018427387904 then (if a0_1 ≥ 0 then (if a0_1 ≤ 64 then (if a0_2 ≥ 0 then (if a0_2 < 4611686018427387904 then ((objs_Fits.f a0_3 a0_4 a0_5).bind fun t105 => (if t105 = true then (if a0_6 ≥ (-1125899906842624) then (some (decide (a0_6 ≤ 1125899906842624))) else (some false)) else (some false))) else (some false)) else (some false)) else (some false)) else (some false)) else (some false)) else (some false)
set_option maxHeartbeats 8000000 in
set_option maxRecDepth 100000 in
theorem schema_Fits.calls (a0_0 : Int) (a0_1 : Int) (a0_2 : Int) (a0_3 : Int) (a0_4 : Int) (a0_5 : Int) (a0_6 : Int) (r : Bool) (w : World) (h : schema_Fits.f a0_0 a0_1 a0_2 a0_3 a0_4 a0_5 a0_6 = some r) :
    Calls Try.prog 25 #[.agg #[.int .i64 a0_0, .int .i64 a0_1, .int .i64 a0_2, .int .i64 a0_3, .int .i64 a0_4, .int .i64 a0_5, .int .i64 a0_6]] w fun e w' => e = .returned (.bool r) ∧ Below w.heap.size w w' := by
  have hu32 := Try.underlying32
  have hu30 := Try.underlying30
  have HB := Aside0.mk (Below.refl w.heap.size w)
  have H : (if a0_0 ≥ 0 then (if a0_0 < 4611686018427387904 then (if a0_1 ≥ 0 then (if a0_1 ≤ 64 then (if a0_2 ≥ 0 then (if a0_2 < 4611686018427387904 then ((objs_Fits.f a0_3 a0_4 a0_5).bind fun t105 => (if t105 = true then (if a0_6 ≥ (-1125899906842624) then (some (decide (a0_6 ≤ 1125899906842624))) else (some false)) else (some false))) else (some false)) else (some false)) else (some false)) else (some false)) else (some false)) else (some false)) = some r := h
  clear h
  by_cases c2 : a0_0 ≥ 0
  · rw [if_pos c2] at H
    have c2b0 : decide (0 ≤ a0_0) = true := decide_eq_true c2
    clear c2
    by_cases c3 : a0_0 < 4611686018427387904
    · rw [if_pos c3] at H
      have c3b0 : decide (a0_0 < 4611686018427387904) = true := decide_eq_true c3
      clear c3
      by_cases c4 : a0_1 ≥ 0
      · rw [if_pos c4] at H
        have c4b0 : decide (0 ≤ a0_1) = true := decide_eq_true c4
        clear c4
        by_cases c5 : a0_1 ≤ 64
        · rw [if_pos c5] at H
          have c5b0 : decide (a0_1 ≤ 64) = true := decide_eq_true c5
          clear c5
          by_cases c6 : a0_2 ≥ 0
          · rw [if_pos c6] at H
            have c6b0 : decide (0 ≤ a0_2) = true := decide_eq_true c6
            clear c6
            by_cases c7 : a0_2 < 4611686018427387904
            · rw [if_pos c7] at H
              have c7b0 : decide (a0_2 < 4611686018427387904) = true := decide_eq_true c7
              clear c7
              replace H := Option.bind_eq_some_iff.mp H
              obtain ⟨t105, A80, H⟩ := H
              replace H : (if t105 = true then (if a0_6 ≥ (-1125899906842624) then (some (decide (a0_6 ≤ 1125899906842624))) else (some false)) else (some false)) = some r := H
              have A8 := Aside0.mk A80
              clear A80
              by_cases c9 : t105 = true
              · subst c9
                have H1 : (if a0_6 ≥ (-1125899906842624) then (some (decide (a0_6 ≤ 1125899906842624))) else (some false)) = some r := by rw [if_pos rfl] at H; exact H
                clear H
                have H := H1
                clear H1
                by_cases c10 : a0_6 ≥ (-1125899906842624)
                · rw [if_pos c10] at H
                  have c10b0 : decide ((-1125899906842624) ≤ a0_6) = true := decide_eq_true c10
                  clear c10
                  obtain rfl := Option.some.inj H
                  go_enter Try.func25, Try.ntmps25
                  have tok1_ : True := trivial
                  go_wp2_with (first | ((with_reducible refine gate_dst (N := 1) rfl ?_); refine box_event ?hg (N := 1) ?hd (cs := #[.int .i64 a0_0, .int .i64 a0_1, .int .i64 a0_2, .int .i64 a0_3, .int .i64 a0_4, .int .i64 a0_5, .int .i64 a0_6]) (t := 32) ?hr ?_; (case hd => rfl); (case hg => rfl); (case hr => first | (go_simp; done) | (go_simp; rfl)); intro gb104 hg w11 hbox hb; have n0_ := Aside0.mk (below_step (by repeat (first | (with_reducible first | exact HB.out | apply below_alloc | apply pw_below_drewN | apply below_drew1) | exact HB.out)) hb); have n1_ := Aside0.mk (hbox); have n2_ := Aside0.mk ((by rw [hg]; exact (below_size (by repeat (first | (with_reducible first | exact HB.out | apply below_alloc | apply pw_below_drewN | apply below_drew1) | exact HB.out))) : w.heap.size ≤ gb104)); have n3_ := Aside0.mk ((by rw [hg]; exact (below_size (by repeat (first | (with_reducible first | exact HB.out | apply below_alloc | apply pw_below_drewN | apply below_drew1) | exact HB.out))) : w.heap.size ≤ gb104)); clear HB; have HB := n0_; have BK104 := n1_; have GW104 := n2_; have GE104 := n3_; clear n0_ n1_ n2_ n3_; clear hb hbox hg; have hcz12_0 : w11.cell? ⟨gb104, 0, none⟩ = some (.int .i64 a0_0) := (blk_cell BK104.out 0).trans rfl; have hcz12_1 : w11.cell? ⟨gb104, 1, none⟩ = some (.int .i64 a0_1) := (blk_cell BK104.out 1).trans rfl; have hcz12_2 : w11.cell? ⟨gb104, 2, none⟩ = some (.int .i64 a0_2) := (blk_cell BK104.out 2).trans rfl; have hcz12_3 : w11.cell? ⟨gb104, 3, none⟩ = some (.int .i64 a0_3) := (blk_cell BK104.out 3).trans rfl; have hcz12_4 : w11.cell? ⟨gb104, 4, none⟩ = some (.int .i64 a0_4) := (blk_cell BK104.out 4).trans rfl; have hcz12_5 : w11.cell? ⟨gb104, 5, none⟩ = some (.int .i64 a0_5) := (blk_cell BK104.out 5).trans rfl; have hcz12_6 : w11.cell? ⟨gb104, 6, none⟩ = some (.int .i64 a0_6) := (blk_cell BK104.out 6).trans rfl; have hfz12_0 := blk_frozen BK104.out 0; have hfz12_1 := blk_frozen BK104.out 1; have hfz12_2 := blk_frozen BK104.out 2; have hfz12_3 := blk_frozen BK104.out 3; have hfz12_4 := blk_frozen BK104.out 4; have hfz12_5 := blk_frozen BK104.out 5; have hfz12_6 := blk_frozen BK104.out 6) | (go_at_call 34; clear tok1_; (with_reducible refine (objs_Fits.calls a0_3 a0_4 a0_5 true _ A8.out).mono ?_); rintro e w13 ⟨rfl, hb⟩; have n0_ := Aside0.mk (blk_below (g := gb104) (o := .cells #[.int .i64 a0_0, .int .i64 a0_1, .int .i64 a0_2, .int .i64 a0_3, .int .i64 a0_4, .int .i64 a0_5, .int .i64 a0_6] 32 (0, 0)) (by (with_reducible repeat (first | refine blk_drewN ?_ _ | refine blk_drew ?_ | refine blk_alloc ?_ _)); exact BK104.out) hb); have n1_ := Aside0.mk (below_step (by repeat (first | (with_reducible first | exact HB.out | apply below_alloc | apply pw_below_drewN | apply below_drew1 | refine below_set ?_ GE104.out) | exact HB.out)) hb); clear BK104; clear HB; have BK104 := n0_; have HB := n1_; clear n0_ n1_; (try clear hb); (try clear hb2); (try clear hk); (try clear hi); have hcz14_0 : w13.cell? ⟨gb104, 0, none⟩ = some (.int .i64 a0_0) := (blk_cell BK104.out 0).trans rfl; have hcz14_1 : w13.cell? ⟨gb104, 1, none⟩ = some (.int .i64 a0_1) := (blk_cell BK104.out 1).trans rfl; have hcz14_2 : w13.cell? ⟨gb104, 2, none⟩ = some (.int .i64 a0_2) := (blk_cell BK104.out 2).trans rfl; have hcz14_3 : w13.cell? ⟨gb104, 3, none⟩ = some (.int .i64 a0_3) := (blk_cell BK104.out 3).trans rfl; have hcz14_4 : w13.cell? ⟨gb104, 4, none⟩ = some (.int .i64 a0_4) := (blk_cell BK104.out 4).trans rfl; have hcz14_5 : w13.cell? ⟨gb104, 5, none⟩ = some (.int .i64 a0_5) := (blk_cell BK104.out 5).trans rfl; have hcz14_6 : w13.cell? ⟨gb104, 6, none⟩ = some (.int .i64 a0_6) := (blk_cell BK104.out 6).trans rfl; have hfz14_0 := blk_frozen BK104.out 0; have hfz14_1 := blk_frozen BK104.out 1; have hfz14_2 := blk_frozen BK104.out 2; have hfz14_3 := blk_frozen BK104.out 3; have hfz14_4 := blk_frozen BK104.out 4; have hfz14_5 := blk_frozen BK104.out 5; have hfz14_6 := blk_frozen BK104.out 6))
                  go_ret
                  exact ⟨by first | rfl | (simp [errW_none, errW_some] <;> rfl) | (simp [*, errW_none, errW_some] <;> rfl), by repeat (first | (with_reducible first | exact HB.out | apply below_alloc | apply pw_below_drewN | apply below_drew1 | refine below_set ?_ GE104.out) | exact HB.out)⟩
                · rw [if_neg c10] at H
                  have c10b0 : decide ((-1125899906842624) ≤ a0_6) = false := decide_eq_false c10
                  clear c10
                  obtain rfl := Option.some.inj H
                  go_enter Try.func25, Try.ntmps25
                  have tok2_ : True := trivial
                  go_wp2_with (first | ((with_reducible refine gate_dst (N := 1) rfl ?_); refine box_event ?hg (N := 1) ?hd (cs := #[.int .i64 a0_0, .int .i64 a0_1, .int .i64 a0_2, .int .i64 a0_3, .int .i64 a0_4, .int .i64 a0_5, .int .i64 a0_6]) (t := 32) ?hr ?_; (case hd => rfl); (case hg => rfl); (case hr => first | (go_simp; done) | (go_simp; rfl)); intro gb104 hg w15 hbox hb; have n0_ := Aside0.mk (below_step (by repeat (first | (with_reducible first | exact HB.out | apply below_alloc | apply pw_below_drewN | apply below_drew1) | exact HB.out)) hb); have n1_ := Aside0.mk (hbox); have n2_ := Aside0.mk ((by rw [hg]; exact (below_size (by repeat (first | (with_reducible first | exact HB.out | apply below_alloc | apply pw_below_drewN | apply below_drew1) | exact HB.out))) : w.heap.size ≤ gb104)); have n3_ := Aside0.mk ((by rw [hg]; exact (below_size (by repeat (first | (with_reducible first | exact HB.out | apply below_alloc | apply pw_below_drewN | apply below_drew1) | exact HB.out))) : w.heap.size ≤ gb104)); clear HB; have HB := n0_; have BK104 := n1_; have GW104 := n2_; have GE104 := n3_; clear n0_ n1_ n2_ n3_; clear hb hbox hg; have hcz16_0 : w15.cell? ⟨gb104, 0, none⟩ = some (.int .i64 a0_0) := (blk_cell BK104.out 0).trans rfl; have hcz16_1 : w15.cell? ⟨gb104, 1, none⟩ = some (.int .i64 a0_1) := (blk_cell BK104.out 1).trans rfl; have hcz16_2 : w15.cell? ⟨gb104, 2, none⟩ = some (.int .i64 a0_2) := (blk_cell BK104.out 2).trans rfl; have hcz16_3 : w15.cell? ⟨gb104, 3, none⟩ = some (.int .i64 a0_3) := (blk_cell BK104.out 3).trans rfl; have hcz16_4 : w15.cell? ⟨gb104, 4, none⟩ = some (.int .i64 a0_4) := (blk_cell BK104.out 4).trans rfl; have hcz16_5 : w15.cell? ⟨gb104, 5, none⟩ = some (.int .i64 a0_5) := (blk_cell BK104.out 5).trans rfl; have hcz16_6 : w15.cell? ⟨gb104, 6, none⟩ = some (.int .i64 a0_6) := (blk_cell BK104.out 6).trans rfl; have hfz16_0 := blk_frozen BK104.out 0; have hfz16_1 := blk_frozen BK104.out 1; have hfz16_2 := blk_frozen BK104.out 2; have hfz16_3 := blk_frozen BK104.out 3; have hfz16_4 := blk_frozen BK104.out 4; have hfz16_5 := blk_frozen BK104.out 5; have hfz16_6 := blk_frozen BK104.out 6) | (go_at_call 34; clear tok2_; (with_reducible refine (objs_Fits.calls a0_3 a0_4 a0_5 true _ A8.out).mono ?_); rintro e w17 ⟨rfl, hb⟩; have n0_ := Aside0.mk (blk_below (g := gb104) (o := .cells #[.int .i64 a0_0, .int .i64 a0_1, .int .i64 a0_2, .int .i64 a0_3, .int .i64 a0_4, .int .i64 a0_5, .int .i64 a0_6] 32 (0, 0)) (by (with_reducible repeat (first | refine blk_drewN ?_ _ | refine blk_drew ?_ | refine blk_alloc ?_ _)); exact BK104.out) hb); have n1_ := Aside0.mk (below_step (by repeat (first | (with_reducible first | exact HB.out | apply below_alloc | apply pw_below_drewN | apply below_drew1 | refine below_set ?_ GE104.out) | exact HB.out)) hb); clear BK104; clear HB; have BK104 := n0_; have HB := n1_; clear n0_ n1_; (try clear hb); (try clear hb2); (try clear hk); (try clear hi); have hcz18_0 : w17.cell? ⟨gb104, 0, none⟩ = some (.int .i64 a0_0) := (blk_cell BK104.out 0).trans rfl; have hcz18_1 : w17.cell? ⟨gb104, 1, none⟩ = some (.int .i64 a0_1) := (blk_cell BK104.out 1).trans rfl; have hcz18_2 : w17.cell? ⟨gb104, 2, none⟩ = some (.int .i64 a0_2) := (blk_cell BK104.out 2).trans rfl; have hcz18_3 : w17.cell? ⟨gb104, 3, none⟩ = some (.int .i64 a0_3) := (blk_cell BK104.out 3).trans rfl; have hcz18_4 : w17.cell? ⟨gb104, 4, none⟩ = some (.int .i64 a0_4) := (blk_cell BK104.out 4).trans rfl; have hcz18_5 : w17.cell? ⟨gb104, 5, none⟩ = some (.int .i64 a0_5) := (blk_cell BK104.out 5).trans rfl; have hcz18_6 : w17.cell? ⟨gb104, 6, none⟩ = some (.int .i64 a0_6) := (blk_cell BK104.out 6).trans rfl; have hfz18_0 := blk_frozen BK104.out 0; have hfz18_1 := blk_frozen BK104.out 1; have hfz18_2 := blk_frozen BK104.out 2; have hfz18_3 := blk_frozen BK104.out 3; have hfz18_4 := blk_frozen BK104.out 4; have hfz18_5 := blk_frozen BK104.out 5; have hfz18_6 := blk_frozen BK104.out 6))
                  go_ret
                  exact ⟨by first | rfl | (simp [errW_none, errW_some] <;> rfl) | (simp [*, errW_none, errW_some] <;> rfl), by repeat (first | (with_reducible first | exact HB.out | apply below_alloc | apply pw_below_drewN | apply below_drew1 | refine below_set ?_ GE104.out) | exact HB.out)⟩
              · replace c9 := Bool.eq_false_iff.mpr c9
                subst c9
                have H1 : (some false) = some r := by rw [if_neg (show ¬ (false = true) by decide)] at H; exact H
                clear H
                have H := H1
                clear H1
                obtain rfl := Option.some.inj H
                go_enter Try.func25, Try.ntmps25
                have tok3_ : True := trivial
                go_wp2_with (first | ((with_reducible refine gate_dst (N := 1) rfl ?_); refine box_event ?hg (N := 1) ?hd (cs := #[.int .i64 a0_0, .int .i64 a0_1, .int .i64 a0_2, .int .i64 a0_3, .int .i64 a0_4, .int .i64 a0_5, .int .i64 a0_6]) (t := 32) ?hr ?_; (case hd => rfl); (case hg => rfl); (case hr => first | (go_simp; done) | (go_simp; rfl)); intro gb104 hg w19 hbox hb; have n0_ := Aside0.mk (below_step (by repeat (first | (with_reducible first | exact HB.out | apply below_alloc | apply pw_below_drewN | apply below_drew1) | exact HB.out)) hb); have n1_ := Aside0.mk (hbox); have n2_ := Aside0.mk ((by rw [hg]; exact (below_size (by repeat (first | (with_reducible first | exact HB.out | apply below_alloc | apply pw_below_drewN | apply below_drew1) | exact HB.out))) : w.heap.size ≤ gb104)); have n3_ := Aside0.mk ((by rw [hg]; exact (below_size (by repeat (first | (with_reducible first | exact HB.out | apply below_alloc | apply pw_below_drewN | apply below_drew1) | exact HB.out))) : w.heap.size ≤ gb104)); clear HB; have HB := n0_; have BK104 := n1_; have GW104 := n2_; have GE104 := n3_; clear n0_ n1_ n2_ n3_; clear hb hbox hg; have hcz20_0 : w19.cell? ⟨gb104, 0, none⟩ = some (.int .i64 a0_0) := (blk_cell BK104.out 0).trans rfl; have hcz20_1 : w19.cell? ⟨gb104, 1, none⟩ = some (.int .i64 a0_1) := (blk_cell BK104.out 1).trans rfl; have hcz20_2 : w19.cell? ⟨gb104, 2, none⟩ = some (.int .i64 a0_2) := (blk_cell BK104.out 2).trans rfl; have hcz20_3 : w19.cell? ⟨gb104, 3, none⟩ = some (.int .i64 a0_3) := (blk_cell BK104.out 3).trans rfl; have hcz20_4 : w19.cell? ⟨gb104, 4, none⟩ = some (.int .i64 a0_4) := (blk_cell BK104.out 4).trans rfl; have hcz20_5 : w19.cell? ⟨gb104, 5, none⟩ = some (.int .i64 a0_5) := (blk_cell BK104.out 5).trans rfl; have hcz20_6 : w19.cell? ⟨gb104, 6, none⟩ = some (.int .i64 a0_6) := (blk_cell BK104.out 6).trans rfl; have hfz20_0 := blk_frozen BK104.out 0; have hfz20_1 := blk_frozen BK104.out 1; have hfz20_2 := blk_frozen BK104.out 2; have hfz20_3 := blk_frozen BK104.out 3; have hfz20_4 := blk_frozen BK104.out 4; have hfz20_5 := blk_frozen BK104.out 5; have hfz20_6 := blk_frozen BK104.out 6) | (go_at_call 34; clear tok3_; (with_reducible refine (objs_Fits.calls a0_3 a0_4 a0_5 false _ A8.out).mono ?_); rintro e w21 ⟨rfl, hb⟩; have n0_ := Aside0.mk (blk_below (g := gb104) (o := .cells #[.int .i64 a0_0, .int .i64 a0_1, .int .i64 a0_2, .int .i64 a0_3, .int .i64 a0_4, .int .i64 a0_5, .int .i64 a0_6] 32 (0, 0)) (by (with_reducible repeat (first | refine blk_drewN ?_ _ | refine blk_drew ?_ | refine blk_alloc ?_ _)); exact BK104.out) hb); have n1_ := Aside0.mk (below_step (by repeat (first | (with_reducible first | exact HB.out | apply below_alloc | apply pw_below_drewN | apply below_drew1 | refine below_set ?_ GE104.out) | exact HB.out)) hb); clear BK104; clear HB; have BK104 := n0_; have HB := n1_; clear n0_ n1_; (try clear hb); (try clear hb2); (try clear hk); (try clear hi)))
                go_ret
                exact ⟨by first | rfl | (simp [errW_none, errW_some] <;> rfl) | (simp [*, errW_none, errW_some] <;> rfl), by repeat (first | (with_reducible first | exact HB.out | apply below_alloc | apply pw_below_drewN | apply below_drew1 | refine below_set ?_ GE104.out) | exact HB.out)⟩
            · rw [if_neg c7] at H
              have c7b0 : decide (a0_2 < 4611686018427387904) = false := decide_eq_false c7
              clear c7
              obtain rfl := Option.some.inj H
              go_enter Try.func25, Try.ntmps25
              go_wp2_with (first | ((with_reducible refine gate_dst (N := 1) rfl ?_); refine box_event ?hg (N := 1) ?hd (cs := #[.int .i64 a0_0, .int .i64 a0_1, .int .i64 a0_2, .int .i64 a0_3, .int .i64 a0_4, .int .i64 a0_5, .int .i64 a0_6]) (t := 32) ?hr ?_; (case hd => rfl); (case hg => rfl); (case hr => first | (go_simp; done) | (go_simp; rfl)); intro gb104 hg w22 hbox hb; have n0_ := Aside0.mk (below_step (by repeat (first | (with_reducible first | exact HB.out | apply below_alloc | apply pw_below_drewN | apply below_drew1) | exact HB.out)) hb); have n1_ := Aside0.mk (hbox); have n2_ := Aside0.mk ((by rw [hg]; exact (below_size (by repeat (first | (with_reducible first | exact HB.out | apply below_alloc | apply pw_below_drewN | apply below_drew1) | exact HB.out))) : w.heap.size ≤ gb104)); have n3_ := Aside0.mk ((by rw [hg]; exact (below_size (by repeat (first | (with_reducible first | exact HB.out | apply below_alloc | apply pw_below_drewN | apply below_drew1) | exact HB.out))) : w.heap.size ≤ gb104)); clear HB; have HB := n0_; have BK104 := n1_; have GW104 := n2_; have GE104 := n3_; clear n0_ n1_ n2_ n3_; clear hb hbox hg; have hcz23_0 : w22.cell? ⟨gb104, 0, none⟩ = some (.int .i64 a0_0) := (blk_cell BK104.out 0).trans rfl; have hcz23_1 : w22.cell? ⟨gb104, 1, none⟩ = some (.int .i64 a0_1) := (blk_cell BK104.out 1).trans rfl; have hcz23_2 : w22.cell? ⟨gb104, 2, none⟩ = some (.int .i64 a0_2) := (blk_cell BK104.out 2).trans rfl; have hcz23_3 : w22.cell? ⟨gb104, 3, none⟩ = some (.int .i64 a0_3) := (blk_cell BK104.out 3).trans rfl; have hcz23_4 : w22.cell? ⟨gb104, 4, none⟩ = some (.int .i64 a0_4) := (blk_cell BK104.out 4).trans rfl; have hcz23_5 : w22.cell? ⟨gb104, 5, none⟩ = some (.int .i64 a0_5) := (blk_cell BK104.out 5).trans rfl; have hcz23_6 : w22.cell? ⟨gb104, 6, none⟩ = some (.int .i64 a0_6) := (blk_cell BK104.out 6).trans rfl; have hfz23_0 := blk_frozen BK104.out 0; have hfz23_1 := blk_frozen BK104.out 1; have hfz23_2 := blk_frozen BK104.out 2; have hfz23_3 := blk_frozen BK104.out 3; have hfz23_4 := blk_frozen BK104.out 4; have hfz23_5 := blk_frozen BK104.out 5; have hfz23_6 := blk_frozen BK104.out 6))
              go_ret
              exact ⟨by first | rfl | (simp [errW_none, errW_some] <;> rfl) | (simp [*, errW_none, errW_some] <;> rfl), by repeat (first | (with_reducible first | exact HB.out | apply below_alloc | apply pw_below_drewN | apply below_drew1 | refine below_set ?_ GE104.out) | exact HB.out)⟩
          · rw [if_neg c6] at H
            have c6b0 : decide (0 ≤ a0_2) = false := decide_eq_false c6
            clear c6
            obtain rfl := Option.some.inj H
            go_enter Try.func25, Try.ntmps25
            go_wp2_with (first | ((with_reducible refine gate_dst (N := 1) rfl ?_); refine box_event ?hg (N := 1) ?hd (cs := #[.int .i64 a0_0, .int .i64 a0_1, .int .i64 a0_2, .int .i64 a0_3, .int .i64 a0_4, .int .i64 a0_5, .int .i64 a0_6]) (t := 32) ?hr ?_; (case hd => rfl); (case hg => rfl); (case hr => first | (go_simp; done) | (go_simp; rfl)); intro gb104 hg w24 hbox hb; have n0_ := Aside0.mk (below_step (by repeat (first | (with_reducible first | exact HB.out | apply below_alloc | apply pw_below_drewN | apply below_drew1) | exact HB.out)) hb); have n1_ := Aside0.mk (hbox); have n2_ := Aside0.mk ((by rw [hg]; exact (below_size (by repeat (first | (with_reducible first | exact HB.out | apply below_alloc | apply pw_below_drewN | apply below_drew1) | exact HB.out))) : w.heap.size ≤ gb104)); have n3_ := Aside0.mk ((by rw [hg]; exact (below_size (by repeat (first | (with_reducible first | exact HB.out | apply below_alloc | apply pw_below_drewN | apply below_drew1) | exact HB.out))) : w.heap.size ≤ gb104)); clear HB; have HB := n0_; have BK104 := n1_; have GW104 := n2_; have GE104 := n3_; clear n0_ n1_ n2_ n3_; clear hb hbox hg; have hcz25_0 : w24.cell? ⟨gb104, 0, none⟩ = some (.int .i64 a0_0) := (blk_cell BK104.out 0).trans rfl; have hcz25_1 : w24.cell? ⟨gb104, 1, none⟩ = some (.int .i64 a0_1) := (blk_cell BK104.out 1).trans rfl; have hcz25_2 : w24.cell? ⟨gb104, 2, none⟩ = some (.int .i64 a0_2) := (blk_cell BK104.out 2).trans rfl; have hcz25_3 : w24.cell? ⟨gb104, 3, none⟩ = some (.int .i64 a0_3) := (blk_cell BK104.out 3).trans rfl; have hcz25_4 : w24.cell? ⟨gb104, 4, none⟩ = some (.int .i64 a0_4) := (blk_cell BK104.out 4).trans rfl; have hcz25_5 : w24.cell? ⟨gb104, 5, none⟩ = some (.int .i64 a0_5) := (blk_cell BK104.out 5).trans rfl; have hcz25_6 : w24.cell? ⟨gb104, 6, none⟩ = some (.int .i64 a0_6) := (blk_cell BK104.out 6).trans rfl; have hfz25_0 := blk_frozen BK104.out 0; have hfz25_1 := blk_frozen BK104.out 1; have hfz25_2 := blk_frozen BK104.out 2; have hfz25_3 := blk_frozen BK104.out 3; have hfz25_4 := blk_frozen BK104.out 4; have hfz25_5 := blk_frozen BK104.out 5; have hfz25_6 := blk_frozen BK104.out 6))
            go_ret
            exact ⟨by first | rfl | (simp [errW_none, errW_some] <;> rfl) | (simp [*, errW_none, errW_some] <;> rfl), by repeat (first | (with_reducible first | exact HB.out | apply below_alloc | apply pw_below_drewN | apply below_drew1 | refine below_set ?_ GE104.out) | exact HB.out)⟩
        · rw [if_neg c5] at H
          have c5b0 : decide (a0_1 ≤ 64) = false := decide_eq_false c5
          clear c5
          obtain rfl := Option.some.inj H
          go_enter Try.func25, Try.ntmps25
          go_wp2_with (first | ((with_reducible refine gate_dst (N := 1) rfl ?_); refine box_event ?hg (N := 1) ?hd (cs := #[.int .i64 a0_0, .int .i64 a0_1, .int .i64 a0_2, .int .i64 a0_3, .int .i64 a0_4, .int .i64 a0_5, .int .i64 a0_6]) (t := 32) ?hr ?_; (case hd => rfl); (case hg => rfl); (case hr => first | (go_simp; done) | (go_simp; rfl)); intro gb104 hg w26 hbox hb; have n0_ := Aside0.mk (below_step (by repeat (first | (with_reducible first | exact HB.out | apply below_alloc | apply pw_below_drewN | apply below_drew1) | exact HB.out)) hb); have n1_ := Aside0.mk (hbox); have n2_ := Aside0.mk ((by rw [hg]; exact (below_size (by repeat (first | (with_reducible first | exact HB.out | apply below_alloc | apply pw_below_drewN | apply below_drew1) | exact HB.out))) : w.heap.size ≤ gb104)); have n3_ := Aside0.mk ((by rw [hg]; exact (below_size (by repeat (first | (with_reducible first | exact HB.out | apply below_alloc | apply pw_below_drewN | apply below_drew1) | exact HB.out))) : w.heap.size ≤ gb104)); clear HB; have HB := n0_; have BK104 := n1_; have GW104 := n2_; have GE104 := n3_; clear n0_ n1_ n2_ n3_; clear hb hbox hg; have hcz27_0 : w26.cell? ⟨gb104, 0, none⟩ = some (.int .i64 a0_0) := (blk_cell BK104.out 0).trans rfl; have hcz27_1 : w26.cell? ⟨gb104, 1, none⟩ = some (.int .i64 a0_1) := (blk_cell BK104.out 1).trans rfl; have hcz27_2 : w26.cell? ⟨gb104, 2, none⟩ = some (.int .i64 a0_2) := (blk_cell BK104.out 2).trans rfl; have hcz27_3 : w26.cell? ⟨gb104, 3, none⟩ = some (.int .i64 a0_3) := (blk_cell BK104.out 3).trans rfl; have hcz27_4 : w26.cell? ⟨gb104, 4, none⟩ = some (.int .i64 a0_4) := (blk_cell BK104.out 4).trans rfl; have hcz27_5 : w26.cell? ⟨gb104, 5, none⟩ = some (.int .i64 a0_5) := (blk_cell BK104.out 5).trans rfl; have hcz27_6 : w26.cell? ⟨gb104, 6, none⟩ = some (.int .i64 a0_6) := (blk_cell BK104.out 6).trans rfl; have hfz27_0 := blk_frozen BK104.out 0; have hfz27_1 := blk_frozen BK104.out 1; have hfz27_2 := blk_frozen BK104.out 2; have hfz27_3 := blk_frozen BK104.out 3; have hfz27_4 := blk_frozen BK104.out 4; have hfz27_5 := blk_frozen BK104.out 5; have hfz27_6 := blk_frozen BK104.out 6))
          go_ret
          exact ⟨by first | rfl | (simp [errW_none, errW_some] <;> rfl) | (simp [*, errW_none, errW_some] <;> rfl), by repeat (first | (with_reducible first | exact HB.out | apply below_alloc | apply pw_below_drewN | apply below_drew1 | refine below_set ?_ GE104.out) | exact HB.out)⟩
      · rw [if_neg c4] at H
        have c4b0 : decide (0 ≤ a0_1) = false := decide_eq_false c4
        clear c4
        obtain rfl := Option.some.inj H
        go_enter Try.func25, Try.ntmps25
        go_wp2_with (first | ((with_reducible refine gate_dst (N := 1) rfl ?_); refine box_event ?hg (N := 1) ?hd (cs := #[.int .i64 a0_0, .int .i64 a0_1, .int .i64 a0_2, .int .i64 a0_3, .int .i64 a0_4, .int .i64 a0_5, .int .i64 a0_6]) (t := 32) ?hr ?_; (case hd => rfl); (case hg => rfl); (case hr => first | (go_simp; done) | (go_simp; rfl)); intro gb104 hg w28 hbox hb; have n0_ := Aside0.mk (below_step (by repeat (first | (with_reducible first | exact HB.out | apply below_alloc | apply pw_below_drewN | apply below_drew1) | exact HB.out)) hb); have n1_ := Aside0.mk (hbox); have n2_ := Aside0.mk ((by rw [hg]; exact (below_size (by repeat (first | (with_reducible first | exact HB.out | apply below_alloc | apply pw_below_drewN | apply below_drew1) | exact HB.out))) : w.heap.size ≤ gb104)); have n3_ := Aside0.mk ((by rw [hg]; exact (below_size (by repeat (first | (with_reducible first | exact HB.out | apply below_alloc | apply pw_below_drewN | apply below_drew1) | exact HB.out))) : w.heap.size ≤ gb104)); clear HB; have HB := n0_; have BK104 := n1_; have GW104 := n2_; have GE104 := n3_; clear n0_ n1_ n2_ n3_; clear hb hbox hg; have hcz29_0 : w28.cell? ⟨gb104, 0, none⟩ = some (.int .i64 a0_0) := (blk_cell BK104.out 0).trans rfl; have hcz29_1 : w28.cell? ⟨gb104, 1, none⟩ = some (.int .i64 a0_1) := (blk_cell BK104.out 1).trans rfl; have hcz29_2 : w28.cell? ⟨gb104, 2, none⟩ = some (.int .i64 a0_2) := (blk_cell BK104.out 2).trans rfl; have hcz29_3 : w28.cell? ⟨gb104, 3, none⟩ = some (.int .i64 a0_3) := (blk_cell BK104.out 3).trans rfl; have hcz29_4 : w28.cell? ⟨gb104, 4, none⟩ = some (.int .i64 a0_4) := (blk_cell BK104.out 4).trans rfl; have hcz29_5 : w28.cell? ⟨gb104, 5, none⟩ = some (.int .i64 a0_5) := (blk_cell BK104.out 5).trans rfl; have hcz29_6 : w28.cell? ⟨gb104, 6, none⟩ = some (.int .i64 a0_6) := (blk_cell BK104.out 6).trans rfl; have hfz29_0 := blk_frozen BK104.out 0; have hfz29_1 := blk_frozen BK104.out 1; have hfz29_2 := blk_frozen BK104.out 2; have hfz29_3 := blk_frozen BK104.out 3; have hfz29_4 := blk_frozen BK104.out 4; have hfz29_5 := blk_frozen BK104.out 5; have hfz29_6 := blk_frozen BK104.out 6))
        go_ret
        exact ⟨by first | rfl | (simp [errW_none, errW_some] <;> rfl) | (simp [*, errW_none, errW_some] <;> rfl), by repeat (first | (with_reducible first | exact HB.out | apply below_alloc | apply pw_below_drewN | apply below_drew1 | refine below_set ?_ GE104.out) | exact HB.out)⟩
    · rw [if_neg c3] at H
      have c3b0 : decide (a0_0 < 4611686018427387904) = false := decide_eq_false c3
      clear c3
      obtain rfl := Option.some.inj H
      go_enter Try.func25, Try.ntmps25
      go_wp2_with (first | ((with_reducible refine gate_dst (N := 1) rfl ?_); refine box_event ?hg (N := 1) ?hd (cs := #[.int .i64 a0_0, .int .i64 a0_1, .int .i64 a0_2, .int .i64 a0_3, .int .i64 a0_4, .int .i64 a0_5, .int .i64 a0_6]) (t := 32) ?hr ?_; (case hd => rfl); (case hg => rfl); (case hr => first | (go_simp; done) | (go_simp; rfl)); intro gb104 hg w30 hbox hb; have n0_ := Aside0.mk (below_step (by repeat (first | (with_reducible first | exact HB.out | apply below_alloc | apply pw_below_drewN | apply below_drew1) | exact HB.out)) hb); have n1_ := Aside0.mk (hbox); have n2_ := Aside0.mk ((by rw [hg]; exact (below_size (by repeat (first | (with_reducible first | exact HB.out | apply below_alloc | apply pw_below_drewN | apply below_drew1) | exact HB.out))) : w.heap.size ≤ gb104)); have n3_ := Aside0.mk ((by rw [hg]; exact (below_size (by repeat (first | (with_reducible first | exact HB.out | apply below_alloc | apply pw_below_drewN | apply below_drew1) | exact HB.out))) : w.heap.size ≤ gb104)); clear HB; have HB := n0_; have BK104 := n1_; have GW104 := n2_; have GE104 := n3_; clear n0_ n1_ n2_ n3_; clear hb hbox hg; have hcz31_0 : w30.cell? ⟨gb104, 0, none⟩ = some (.int .i64 a0_0) := (blk_cell BK104.out 0).trans rfl; have hcz31_1 : w30.cell? ⟨gb104, 1, none⟩ = some (.int .i64 a0_1) := (blk_cell BK104.out 1).trans rfl; have hcz31_2 : w30.cell? ⟨gb104, 2, none⟩ = some (.int .i64 a0_2) := (blk_cell BK104.out 2).trans rfl; have hcz31_3 : w30.cell? ⟨gb104, 3, none⟩ = some (.int .i64 a0_3) := (blk_cell BK104.out 3).trans rfl; have hcz31_4 : w30.cell? ⟨gb104, 4, none⟩ = some (.int .i64 a0_4) := (blk_cell BK104.out 4).trans rfl; have hcz31_5 : w30.cell? ⟨gb104, 5, none⟩ = some (.int .i64 a0_5) := (blk_cell BK104.out 5).trans rfl; have hcz31_6 : w30.cell? ⟨gb104, 6, none⟩ = some (.int .i64 a0_6) := (blk_cell BK104.out 6).trans rfl; have hfz31_0 := blk_frozen BK104.out 0; have hfz31_1 := blk_frozen BK104.out 1; have hfz31_2 := blk_frozen BK104.out 2; have hfz31_3 := blk_frozen BK104.out 3; have hfz31_4 := blk_frozen BK104.out 4; have hfz31_5 := blk_frozen BK104.out 5; have hfz31_6 := blk_frozen BK104.out 6))
      go_ret
      exact ⟨by first | rfl | (simp [errW_none, errW_some] <;> rfl) | (simp [*, errW_none, errW_some] <;> rfl), by repeat (first | (with_reducible first | exact HB.out | apply below_alloc | apply pw_below_drewN | apply below_drew1 | refine below_set ?_ GE104.out) | exact HB.out)⟩
  · rw [if_neg c2] at H
    have c2b0 : decide (0 ≤ a0_0) = false := decide_eq_false c2
    clear c2
    obtain rfl := Option.some.inj H
    go_enter Try.func25, Try.ntmps25
    go_wp2_with (first | ((with_reducible refine gate_dst (N := 1) rfl ?_); refine box_event ?hg (N := 1) ?hd (cs := #[.int .i64 a0_0, .int .i64 a0_1, .int .i64 a0_2, .int .i64 a0_3, .int .i64 a0_4, .int .i64 a0_5, .int .i64 a0_6]) (t := 32) ?hr ?_; (case hd => rfl); (case hg => rfl); (case hr => first | (go_simp; done) | (go_simp; rfl)); intro gb104 hg w32 hbox hb; have n0_ := Aside0.mk (below_step (by repeat (first | (with_reducible first | exact HB.out | apply below_alloc | apply pw_below_drewN | apply below_drew1) | exact HB.out)) hb); have n1_ := Aside0.mk (hbox); have n2_ := Aside0.mk ((by rw [hg]; exact (below_size (by repeat (first | (with_reducible first | exact HB.out | apply below_alloc | apply pw_below_drewN | apply below_drew1) | exact HB.out))) : w.heap.size ≤ gb104)); have n3_ := Aside0.mk ((by rw [hg]; exact (below_size (by repeat (first | (with_reducible first | exact HB.out | apply below_alloc | apply pw_below_drewN | apply below_drew1) | exact HB.out))) : w.heap.size ≤ gb104)); clear HB; have HB := n0_; have BK104 := n1_; have GW104 := n2_; have GE104 := n3_; clear n0_ n1_ n2_ n3_; clear hb hbox hg; have hcz33_0 : w32.cell? ⟨gb104, 0, none⟩ = some (.int .i64 a0_0) := (blk_cell BK104.out 0).trans rfl; have hcz33_1 : w32.cell? ⟨gb104, 1, none⟩ = some (.int .i64 a0_1) := (blk_cell BK104.out 1).trans rfl; have hcz33_2 : w32.cell? ⟨gb104, 2, none⟩ = some (.int .i64 a0_2) := (blk_cell BK104.out 2).trans rfl; have hcz33_3 : w32.cell? ⟨gb104, 3, none⟩ = some (.int .i64 a0_3) := (blk_cell BK104.out 3).trans rfl; have hcz33_4 : w32.cell? ⟨gb104, 4, none⟩ = some (.int .i64 a0_4) := (blk_cell BK104.out 4).trans rfl; have hcz33_5 : w32.cell? ⟨gb104, 5, none⟩ = some (.int .i64 a0_5) := (blk_cell BK104.out 5).trans rfl; have hcz33_6 : w32.cell? ⟨gb104, 6, none⟩ = some (.int .i64 a0_6) := (blk_cell BK104.out 6).trans rfl; have hfz33_0 := blk_frozen BK104.out 0; have hfz33_1 := blk_frozen BK104.out 1; have hfz33_2 := blk_frozen BK104.out 2; have hfz33_3 := blk_frozen BK104.out 3; have hfz33_4 := blk_frozen BK104.out 4; have hfz33_5 := blk_frozen BK104.out 5; have hfz33_6 := blk_frozen BK104.out 6))
    go_ret
    exact ⟨by first | rfl | (simp [errW_none, errW_some] <;> rfl) | (simp [*, errW_none, errW_some] <;> rfl), by repeat (first | (with_reducible first | exact HB.out | apply below_alloc | apply pw_below_drewN | apply below_drew1 | refine below_set ?_ GE104.out) | exact HB.out)⟩

/-! ### block_Fits: function 13 -/
def block_Fits.l0 : Nat → List (S32) → List (S32) → Int → Int → Option (Bool)
  | 0, _, _, _, _ => none
  | k + 1, x0, x5, x6, x7 => if x7 < x6 then (if 0 ≤ x7 then (if x7 < (x5.length : Int) then ((schema_Fits.f ((rd_T32 x5 x7).f0) ((rd_T32 x5 x7).f1) ((rd_T32 x5 x7).f2) ((rd_T32 x5 x7).f3.f0) ((rd_T32 x5 x7).f3.f1) ((rd_T32 x5 x7).f3.f2) ((rd_T32 x5 x7).f4)).bind fun t108 => (if t108 = true then (if 0 < (x0.length : Int) then (if ((rd_T32 x5 x7).f0) = (wrap64 (((rd_T32 x0 0).f0) + x7)) then (block_Fits.l0 k x0 x5 x6 (wrap64 (x7 + 1))) else (some false)) else (none)) else (some false))) else (none)) else (none)) else (if (x0.length : Int) > 0 then (some (decide ((x0.length : Int) ≤ 256))) else (some false))
def block_Fits.f (k : Nat) (l0 : List (S32)) : Option (Bool) := block_Fits.l0 k l0 l0 (l0.length : Int) 0
def block_Fits.T4 : Bool × List (List Nat × List Nat) := (true, [([], []), ([0], [0]), ([1], [1]), ([2, 1], [2]), ([3], [3]), ([4, 3], [3, 4]), ([3], [3]), ([6, 3], [3, 6]), ([7, 3], [3, 7]), ([8, 3], [3, 8]), ([3], [3]), ([9, 10, 3], [3, 9, 10]), ([5, 11, 3], [3, 5, 11]), ([3, 12], [3, 12])])
def block_Fits.B4 : List Nat := [0, 1, 3, 7, 15, 31, 15, 79, 207, 463, 15, 1999, 4095, 8191]
theorem block_Fits.tab4 : rtab .any (opsOf Try.f13 4) = block_Fits.T4 := by kernel_rfl
theorem block_Fits.bits4 : waitsOk block_Fits.T4.2 block_Fits.B4 = true := by kernel_rfl
set_option maxHeartbeats 8000000 in
set_option maxRecDepth 100000 in
theorem block_Fits.calls (k : Nat) (A0 : Option Addr) (c0 : Nat) (l0 : List (S32)) (r : Bool) (w : World) (hr0 : Kd.C k32 w A0 l0.length l0) (hc0 : l0.length ≤ c0) (h : block_Fits.f k l0 = some r) :
    Calls Try.prog 13 #[.slice A0 l0.length c0] w fun e w' => e = .returned (.bool r) ∧ Below w.heap.size w w' := by
  have hu32 := Try.underlying32
  have HR0 := Aside0.mk hr0
  have HC0 := Aside0.mk hc0
  clear hr0 hc0
  have HB := Aside0.mk (Below.refl w.heap.size w)
  have H : (block_Fits.l0 k l0 l0 (l0.length : Int) 0) = some r := h
  clear h
  have H' := Aside0.mk H
  clear H
  go_enter Try.func13, Try.ntmps13
  go_wp2
  go_loopg [7] k (fun kq v7 w' => ∃ (x7_1 : Int), v7 = .int .i64 x7_1 ∧ Aside0 (block_Fits.l0 kq l0 l0 (l0.length : Int) x7_1 = some r) ∧ Aside0 (kq ≤ k) ∧ Aside0 (Below w.heap.size w w'))
  case atStart => exact ⟨(0), (by first | rfl | (simp; done) | (simp [*]; done)), H', ⟨Nat.le_refl _⟩, ⟨by repeat (first | (with_reducible first | exact HB.out | apply below_alloc | apply pw_below_drewN | apply below_drew1) | exact HB.out)⟩⟩
  case round =>
    clear H'
    try clear c1
    obtain ⟨x7_1, rfl, HA, HK1, HB⟩ := hrel
    cases gk with
    | zero => exact absurd HA.out (by simp [block_Fits.l0])
    | succ k1 =>
      have H := HA.out
      clear HA
      simp only [block_Fits.l0] at H
      by_cases c2 : x7_1 < (l0.length : Int)
      · rw [if_pos c2] at H
        have c2b0 : decide (x7_1 < (l0.length : Int)) = true := decide_eq_true c2
        clear c2
        by_cases c3 : 0 ≤ x7_1
        · rw [if_pos c3] at H
          have c3b0 : decide (0 ≤ x7_1) = true := decide_eq_true c3
          clear c3
          by_cases c4 : x7_1 < (l0.length : Int)
          · rw [if_pos c4] at H
            have c4b0 : decide (x7_1 < (l0.length : Int)) = true := decide_eq_true c4
            clear c4
            replace H := Option.bind_eq_some_iff.mp H
            obtain ⟨t108, A50, H⟩ := H
            replace H : (if t108 = true then (if 0 < (l0.length : Int) then (if ((rd_T32 l0 x7_1).f0) = (wrap64 (((rd_T32 l0 0).f0) + x7_1)) then (block_Fits.l0 k1 l0 l0 (l0.length : Int) (wrap64 (x7_1 + 1))) else (some false)) else (none)) else (some false)) = some r := H
            have A5 := Aside0.mk A50
            clear A50
            by_cases c6 : t108 = true
            · subst c6
              have H1 : (if 0 < (l0.length : Int) then (if ((rd_T32 l0 x7_1).f0) = (wrap64 (((rd_T32 l0 0).f0) + x7_1)) then (block_Fits.l0 k1 l0 l0 (l0.length : Int) (wrap64 (x7_1 + 1))) else (some false)) else (none)) = some r := by rw [if_pos rfl] at H; exact H
              clear H
              have H := H1
              clear H1
              by_cases c7 : 0 < (l0.length : Int)
              · rw [if_pos c7] at H
                have c7b0 : decide (0 < (l0.length : Int)) = true := decide_eq_true c7
                have c7b1 : decide (0 < l0.length) = true := decide_eq_true (by omega)
                clear c7
                by_cases c8 : ((rd_T32 l0 x7_1).f0) = (wrap64 (((rd_T32 l0 0).f0) + x7_1))
                · rw [if_pos c8] at H
                  have c8b0 : (((rd_T32 l0 x7_1).f0) == (wrap64 (((rd_T32 l0 0).f0) + x7_1))) = true := beq_iff_eq.mpr c8
                  have c8b1 : (((rd_T32 l0 x7_1).f0) != (wrap64 (((rd_T32 l0 0).f0) + x7_1))) = false := bne_eq_false_iff_eq.mpr c8
                  clear c8
                  have H' := Aside0.mk H
                  clear H
                  have p106 : 0 ≤ (x7_1 : Int) := of_decide_eq_true (by first | (with_reducible assumption) | assumption)
                  have q106 : x7_1 < (l0.length : Int) := of_decide_eq_true (by first | (with_reducible assumption) | assumption)
                  obtain ⟨ad106, e106, hx106_0, hx106_1, hx106_2, hx106_3, hx106_4, hx106_5, hx106_6⟩ := at_T32 HR0.out x7_1 p106 q106
                  cases e106
                  replace hx106_0 := (HB.out.cell (World.block_lt_of_cell? w _ hx106_0)).trans hx106_0
                  replace hx106_1 := (HB.out.cell (World.block_lt_of_cell? w _ hx106_1)).trans hx106_1
                  replace hx106_2 := (HB.out.cell (World.block_lt_of_cell? w _ hx106_2)).trans hx106_2
                  replace hx106_3 := (HB.out.cell (World.block_lt_of_cell? w _ hx106_3)).trans hx106_3
                  replace hx106_4 := (HB.out.cell (World.block_lt_of_cell? w _ hx106_4)).trans hx106_4
                  replace hx106_5 := (HB.out.cell (World.block_lt_of_cell? w _ hx106_5)).trans hx106_5
                  replace hx106_6 := (HB.out.cell (World.block_lt_of_cell? w _ hx106_6)).trans hx106_6
                  replace p106 := eq_true p106
                  replace q106 := eq_true q106
                  try go_wp2_with (first | ((with_reducible refine gate_dst (N := 4) rfl ?_); (try (refine gate_guard (by rfl) ?_; dsimp only)); refine box_event ?hg (N := 4) ?hd (cs := #[.int .i64 0, .int .i64 0, .int .i64 0, .int .i64 0, .int .i64 0, .int .i64 0, .int .i64 0]) (t := 32) ?hr ?_; (case hd => rfl); (case hg => rfl); (case hr => first | (go_simp; done) | (go_simp; rfl)); intro gb107 hg w9 hbox hb; have n0_ := Aside0.mk (below_step (by repeat (first | (with_reducible first | exact HB.out | apply below_alloc | apply pw_below_drewN | apply below_drew1) | exact HB.out)) hb); have n1_ := Aside0.mk (hbox); have n2_ := Aside0.mk ((by rw [hg]; exact (below_size (by repeat (first | (with_reducible first | exact HB.out | apply below_alloc | apply pw_below_drewN | apply below_drew1) | exact HB.out))) : w.heap.size ≤ gb107)); have n3_ := Aside0.mk ((by rw [hg]; exact (below_size (by repeat (first | (with_reducible first | exact HB.out | apply below_alloc | apply pw_below_drewN | apply below_drew1) | exact HB.out))) : w.heap.size ≤ gb107)); clear HB; have HB := n0_; have BK107 := n1_; have GW107 := n2_; have GE107 := n3_; clear n0_ n1_ n2_ n3_; clear hb hbox hg; have hcz10_0 : w9.cell? ⟨gb107, 0, none⟩ = some (.int .i64 0) := (blk_cell BK107.out 0).trans rfl; have hcz10_1 : w9.cell? ⟨gb107, 1, none⟩ = some (.int .i64 0) := (blk_cell BK107.out 1).trans rfl; have hcz10_2 : w9.cell? ⟨gb107, 2, none⟩ = some (.int .i64 0) := (blk_cell BK107.out 2).trans rfl; have hcz10_3 : w9.cell? ⟨gb107, 3, none⟩ = some (.int .i64 0) := (blk_cell BK107.out 3).trans rfl; have hcz10_4 : w9.cell? ⟨gb107, 4, none⟩ = some (.int .i64 0) := (blk_cell BK107.out 4).trans rfl; have hcz10_5 : w9.cell? ⟨gb107, 5, none⟩ = some (.int .i64 0) := (blk_cell BK107.out 5).trans rfl; have hcz10_6 : w9.cell? ⟨gb107, 6, none⟩ = some (.int .i64 0) := (blk_cell BK107.out 6).trans rfl; have hfz10_0 := blk_frozen BK107.out 0; have hfz10_1 := blk_frozen BK107.out 1; have hfz10_2 := blk_frozen BK107.out 2; have hfz10_3 := blk_frozen BK107.out 3; have hfz10_4 := blk_frozen BK107.out 4; have hfz10_5 := blk_frozen BK107.out 5; have hfz10_6 := blk_frozen BK107.out 6))
                  have n0_ : Aside0 ((((((((w9.setCell ⟨gb107, 0, none⟩ (.int .i64 ((rd_T32 l0 x7_1).f0))).setCell ⟨gb107, 1, none⟩ (.int .i64 ((rd_T32 l0 x7_1).f1))).setCell ⟨gb107, 2, none⟩ (.int .i64 ((rd_T32 l0 x7_1).f2))).setCell ⟨gb107, 3, none⟩ (.int .i64 ((rd_T32 l0 x7_1).f3.f0))).setCell ⟨gb107, 4, none⟩ (.int .i64 ((rd_T32 l0 x7_1).f3.f1))).setCell ⟨gb107, 5, none⟩ (.int .i64 ((rd_T32 l0 x7_1).f3.f2))).setCell ⟨gb107, 6, none⟩ (.int .i64 ((rd_T32 l0 x7_1).f4))).heap[gb107]? = some (.cells #[.int .i64 ((rd_T32 l0 x7_1).f0), .int .i64 ((rd_T32 l0 x7_1).f1), .int .i64 ((rd_T32 l0 x7_1).f2), .int .i64 ((rd_T32 l0 x7_1).f3.f0), .int .i64 ((rd_T32 l0 x7_1).f3.f1), .int .i64 ((rd_T32 l0 x7_1).f3.f2), .int .i64 ((rd_T32 l0 x7_1).f4)] 32 (0, 0))) := ⟨by (with_reducible repeat (first | refine blk_drewN ?_ _ | refine blk_drew ?_ | refine blk_alloc ?_ _)); refine blk_put (cs := #[.int .i64 ((rd_T32 l0 x7_1).f0), .int .i64 ((rd_T32 l0 x7_1).f1), .int .i64 ((rd_T32 l0 x7_1).f2), .int .i64 ((rd_T32 l0 x7_1).f3.f0), .int .i64 ((rd_T32 l0 x7_1).f3.f1), .int .i64 ((rd_T32 l0 x7_1).f3.f2), .int .i64 0]) ?_ 6 _ (by first | rfl | (simp only [gt_iff_lt, *]; rfl) | (simp [*]; done)); (with_reducible repeat (first | refine blk_drewN ?_ _ | refine blk_drew ?_ | refine blk_alloc ?_ _)); refine blk_put (cs := #[.int .i64 ((rd_T32 l0 x7_1).f0), .int .i64 ((rd_T32 l0 x7_1).f1), .int .i64 ((rd_T32 l0 x7_1).f2), .int .i64 ((rd_T32 l0 x7_1).f3.f0), .int .i64 ((rd_T32 l0 x7_1).f3.f1), .int .i64 0, .int .i64 0]) ?_ 5 _ (by first | rfl | (simp only [gt_iff_lt, *]; rfl) | (simp [*]; done)); (with_reducible repeat (first | refine blk_drewN ?_ _ | refine blk_drew ?_ | refine blk_alloc ?_ _)); refine blk_put (cs := #[.int .i64 ((rd_T32 l0 x7_1).f0), .int .i64 ((rd_T32 l0 x7_1).f1), .int .i64 ((rd_T32 l0 x7_1).f2), .int .i64 ((rd_T32 l0 x7_1).f3.f0), .int .i64 0, .int .i64 0, .int .i64 0]) ?_ 4 _ (by first | rfl | (simp only [gt_iff_lt, *]; rfl) | (simp [*]; done)); (with_reducible repeat (first | refine blk_drewN ?_ _ | refine blk_drew ?_ | refine blk_alloc ?_ _)); refine blk_put (cs := #[.int .i64 ((rd_T32 l0 x7_1).f0), .int .i64 ((rd_T32 l0 x7_1).f1), .int .i64 ((rd_T32 l0 x7_1).f2), .int .i64 0, .int .i64 0, .int .i64 0, .int .i64 0]) ?_ 3 _ (by first | rfl | (simp only [gt_iff_lt, *]; rfl) | (simp [*]; done)); (with_reducible repeat (first | refine blk_drewN ?_ _ | refine blk_drew ?_ | refine blk_alloc ?_ _)); refine blk_put (cs := #[.int .i64 ((rd_T32 l0 x7_1).f0), .int .i64 ((rd_T32 l0 x7_1).f1), .int .i64 0, .int .i64 0, .int .i64 0, .int .i64 0, .int .i64 0]) ?_ 2 _ (by first | rfl | (simp only [gt_iff_lt, *]; rfl) | (simp [*]; done)); (with_reducible repeat (first | refine blk_drewN ?_ _ | refine blk_drew ?_ | refine blk_alloc ?_ _)); refine blk_put (cs := #[.int .i64 ((rd_T32 l0 x7_1).f0), .int .i64 0, .int .i64 0, .int .i64 0, .int .i64 0, .int .i64 0, .int .i64 0]) ?_ 1 _ (by first | rfl | (simp only [gt_iff_lt, *]; rfl) | (simp [*]; done)); (with_reducible repeat (first | refine blk_drewN ?_ _ | refine blk_drew ?_ | refine blk_alloc ?_ _)); refine blk_put (cs := #[.int .i64 0, .int .i64 0, .int .i64 0, .int .i64 0, .int .i64 0, .int .i64 0, .int .i64 0]) ?_ 0 _ (by first | rfl | (simp only [gt_iff_lt, *]; rfl) | (simp [*]; done)); (with_reducible repeat (first | refine blk_drewN ?_ _ | refine blk_drew ?_ | refine blk_alloc ?_ _)); exact BK107.out⟩
                  have n1_ : Aside0 (Below w.heap.size w (((((((w9.setCell ⟨gb107, 0, none⟩ (.int .i64 ((rd_T32 l0 x7_1).f0))).setCell ⟨gb107, 1, none⟩ (.int .i64 ((rd_T32 l0 x7_1).f1))).setCell ⟨gb107, 2, none⟩ (.int .i64 ((rd_T32 l0 x7_1).f2))).setCell ⟨gb107, 3, none⟩ (.int .i64 ((rd_T32 l0 x7_1).f3.f0))).setCell ⟨gb107, 4, none⟩ (.int .i64 ((rd_T32 l0 x7_1).f3.f1))).setCell ⟨gb107, 5, none⟩ (.int .i64 ((rd_T32 l0 x7_1).f3.f2))).setCell ⟨gb107, 6, none⟩ (.int .i64 ((rd_T32 l0 x7_1).f4)))) := ⟨by repeat (first | (with_reducible first | exact HB.out | apply below_alloc | apply pw_below_drewN | apply below_drew1 | refine below_set ?_ GE107.out) | exact HB.out)⟩
                  (try clear BK107)
                  (try clear HB)
                  generalize (((((((w9.setCell ⟨gb107, 0, none⟩ (.int .i64 ((rd_T32 l0 x7_1).f0))).setCell ⟨gb107, 1, none⟩ (.int .i64 ((rd_T32 l0 x7_1).f1))).setCell ⟨gb107, 2, none⟩ (.int .i64 ((rd_T32 l0 x7_1).f2))).setCell ⟨gb107, 3, none⟩ (.int .i64 ((rd_T32 l0 x7_1).f3.f0))).setCell ⟨gb107, 4, none⟩ (.int .i64 ((rd_T32 l0 x7_1).f3.f1))).setCell ⟨gb107, 5, none⟩ (.int .i64 ((rd_T32 l0 x7_1).f3.f2))).setCell ⟨gb107, 6, none⟩ (.int .i64 ((rd_T32 l0 x7_1).f4))) = w11 at n0_ n1_ ⊢
                  have BK107 := n0_
                  have HB := n1_
                  clear n0_ n1_
                  have n0_ := Aside0.mk (blk_drew BK107.out)
                  have n1_ := Aside0.mk (below_drew1 HB.out)
                  clear BK107
                  clear HB
                  have BK107 := n0_
                  have HB := n1_
                  clear n0_ n1_
                  have p109 : 0 ≤ (0 : Int) := (by omega)
                  have q109 : 0 < (l0.length : Int) := of_decide_eq_true (by first | (with_reducible assumption) | assumption)
                  obtain ⟨ad109, e109, hx109_0, hx109_1, hx109_2, hx109_3, hx109_4, hx109_5, hx109_6⟩ := at_T32 HR0.out 0 p109 q109
                  have hw109_6 := hx109_6
                  (try rw [show ((0 : Int)).toNat = 0 from rfl] at hw109_6)
                  (try rw [show 0 * 7 = 0 from rfl] at hw109_6)
                  (try rw [Addr.add_zero'] at hw109_6)
                  have hw109_5 := hx109_5
                  (try rw [show ((0 : Int)).toNat = 0 from rfl] at hw109_5)
                  (try rw [show 0 * 7 = 0 from rfl] at hw109_5)
                  (try rw [Addr.add_zero'] at hw109_5)
                  have hw109_4 := hx109_4
                  (try rw [show ((0 : Int)).toNat = 0 from rfl] at hw109_4)
                  (try rw [show 0 * 7 = 0 from rfl] at hw109_4)
                  (try rw [Addr.add_zero'] at hw109_4)
                  have hw109_3 := hx109_3
                  (try rw [show ((0 : Int)).toNat = 0 from rfl] at hw109_3)
                  (try rw [show 0 * 7 = 0 from rfl] at hw109_3)
                  (try rw [Addr.add_zero'] at hw109_3)
                  have hw109_2 := hx109_2
                  (try rw [show ((0 : Int)).toNat = 0 from rfl] at hw109_2)
                  (try rw [show 0 * 7 = 0 from rfl] at hw109_2)
                  (try rw [Addr.add_zero'] at hw109_2)
                  have hw109_1 := hx109_1
                  (try rw [show ((0 : Int)).toNat = 0 from rfl] at hw109_1)
                  (try rw [show 0 * 7 = 0 from rfl] at hw109_1)
                  (try rw [Addr.add_zero'] at hw109_1)
                  have hw109_0 := hx109_0
                  (try rw [show ((0 : Int)).toNat = 0 from rfl] at hw109_0)
                  (try rw [show 0 * 7 = 0 from rfl] at hw109_0)
                  (try rw [Addr.add_zero'] at hw109_0)
                  obtain rfl : ad106 = ad109 := (by injection e109)
                  have qi109 : (0 < l0.length) = True := eq_true (by omega)
                  (try rw [show ((0 : Int)).toNat = 0 from rfl] at hx109_0)
                  (try rw [show 0 * 7 = 0 from rfl] at hx109_0)
                  (try rw [Addr.add_zero'] at hx109_0)
                  (try rw [show ((0 : Int)).toNat = 0 from rfl] at hx109_1)
                  (try rw [show 0 * 7 = 0 from rfl] at hx109_1)
                  (try rw [Addr.add_zero'] at hx109_1)
                  (try rw [show ((0 : Int)).toNat = 0 from rfl] at hx109_2)
                  (try rw [show 0 * 7 = 0 from rfl] at hx109_2)
                  (try rw [Addr.add_zero'] at hx109_2)
                  (try rw [show ((0 : Int)).toNat = 0 from rfl] at hx109_3)
                  (try rw [show 0 * 7 = 0 from rfl] at hx109_3)
                  (try rw [Addr.add_zero'] at hx109_3)
                  (try rw [show ((0 : Int)).toNat = 0 from rfl] at hx109_4)
                  (try rw [show 0 * 7 = 0 from rfl] at hx109_4)
                  (try rw [Addr.add_zero'] at hx109_4)
                  (try rw [show ((0 : Int)).toNat = 0 from rfl] at hx109_5)
                  (try rw [show 0 * 7 = 0 from rfl] at hx109_5)
                  (try rw [Addr.add_zero'] at hx109_5)
                  (try rw [show ((0 : Int)).toNat = 0 from rfl] at hx109_6)
                  (try rw [show 0 * 7 = 0 from rfl] at hx109_6)
                  (try rw [Addr.add_zero'] at hx109_6)
                  replace hx109_0 := (HB.out.cell (World.block_lt_of_cell? w _ hx109_0)).trans hx109_0
                  replace hx109_1 := (HB.out.cell (World.block_lt_of_cell? w _ hx109_1)).trans hx109_1
                  replace hx109_2 := (HB.out.cell (World.block_lt_of_cell? w _ hx109_2)).trans hx109_2
                  replace hx109_3 := (HB.out.cell (World.block_lt_of_cell? w _ hx109_3)).trans hx109_3
                  replace hx109_4 := (HB.out.cell (World.block_lt_of_cell? w _ hx109_4)).trans hx109_4
                  replace hx109_5 := (HB.out.cell (World.block_lt_of_cell? w _ hx109_5)).trans hx109_5
                  replace hx109_6 := (HB.out.cell (World.block_lt_of_cell? w _ hx109_6)).trans hx109_6
                  replace p109 := eq_true p109
                  replace q109 := eq_true q109
                  refine start_ (n := 14) (S := fun w' => w'.cell? ⟨gb107, 0, none⟩ = some (.int .i64 ((rd_T32 l0 x7_1).f0)) ∧ w'.cell? ⟨gb107, 1, none⟩ = some (.int .i64 ((rd_T32 l0 x7_1).f1)) ∧ w'.cell? ⟨gb107, 2, none⟩ = some (.int .i64 ((rd_T32 l0 x7_1).f2)) ∧ w'.cell? ⟨gb107, 3, none⟩ = some (.int .i64 ((rd_T32 l0 x7_1).f3.f0)) ∧ w'.cell? ⟨gb107, 4, none⟩ = some (.int .i64 ((rd_T32 l0 x7_1).f3.f1)) ∧ w'.cell? ⟨gb107, 5, none⟩ = some (.int .i64 ((rd_T32 l0 x7_1).f3.f2)) ∧ w'.cell? ⟨gb107, 6, none⟩ = some (.int .i64 ((rd_T32 l0 x7_1).f4)) ∧ w'.cell? ad106 = some (.int .i64 ((rd_T32 l0 0).f0)) ∧ w'.cell? ⟨ad106.block, ad106.off + 1, none⟩ = some (.int .i64 ((rd_T32 l0 0).f1)) ∧ w'.cell? ⟨ad106.block, ad106.off + 2, none⟩ = some (.int .i64 ((rd_T32 l0 0).f2)) ∧ w'.cell? ⟨ad106.block, ad106.off + 3, none⟩ = some (.int .i64 ((rd_T32 l0 0).f3.f0)) ∧ w'.cell? ⟨ad106.block, ad106.off + 4, none⟩ = some (.int .i64 ((rd_T32 l0 0).f3.f1)) ∧ w'.cell? ⟨ad106.block, ad106.off + 5, none⟩ = some (.int .i64 ((rd_T32 l0 0).f3.f2)) ∧ w'.cell? ⟨ad106.block, ad106.off + 6, none⟩ = some (.int .i64 ((rd_T32 l0 0).f4))) (ds := []) #[false, false, false, false, false, false, false, false, false, false, false, false, false, false] (by kernel_rfl) rfl rfl ⟨(blk_cell BK107.out 0).trans rfl, (blk_cell BK107.out 1).trans rfl, (blk_cell BK107.out 2).trans rfl, (blk_cell BK107.out 3).trans rfl, (blk_cell BK107.out 4).trans rfl, (blk_cell BK107.out 5).trans rfl, (blk_cell BK107.out 6).trans rfl, ((HB.out.cell (World.block_lt_of_cell? w _ hw109_0)).trans hw109_0), ((HB.out.cell (World.block_lt_of_cell? w _ hw109_1)).trans hw109_1), ((HB.out.cell (World.block_lt_of_cell? w _ hw109_2)).trans hw109_2), ((HB.out.cell (World.block_lt_of_cell? w _ hw109_3)).trans hw109_3), ((HB.out.cell (World.block_lt_of_cell? w _ hw109_4)).trans hw109_4), ((HB.out.cell (World.block_lt_of_cell? w _ hw109_5)).trans hw109_5), ((HB.out.cell (World.block_lt_of_cell? w _ hw109_6)).trans hw109_6)⟩ (fun hHeld => ?_); refine with_tabW block_Fits.tab4 block_Fits.bits4 (fun HT_ HW_ => ?_)
                  generalize w11.drew = w12 at BK107 HB hx109_0 hx109_1 hx109_2 hx109_3 hx109_4 hx109_5 hx109_6 hHeld ⊢
                  refine take_ (i := 0) (N := some 12) (v := ?_) (a' := ?_) #[true, false, false, false, false, false, false, false, false, false, false, false, false, false] rfl rfl (take_ofW HT_.out HW_.out (by kernel_rfl)) (fun _ _ _ h => h) (Or.inl ⟨by rfl, ?_⟩) hHeld ?_ ?_
                  rotate_left
                  · rintro w' ⟨s0, s1, s2, s3, s4, s5, s6, s7, s8, s9, s10, s11, s12, s13⟩
                    go_simp
                    with_reducible rfl
                  rotate_left
                  · simp only [Act.put, List.setIfInBounds_toArray, List.set_cons_zero, List.set_cons_succ, i64_w, i32_w]
                    rfl
                  refine one_ (i := 1) (N := some 13) #[true, true, false, false, false, false, false, false, false, false, false, false, false, false] rfl rfl (one_of HT_.out (by kernel_rfl)) (by decide) (fun K hK => ?_)
                  refine goes_ Try.func25 (by kernel_rfl) rfl #[.agg #[.int .i64 ((rd_T32 l0 x7_1).f0), .int .i64 ((rd_T32 l0 x7_1).f1), .int .i64 ((rd_T32 l0 x7_1).f2), .int .i64 ((rd_T32 l0 x7_1).f3.f0), .int .i64 ((rd_T32 l0 x7_1).f3.f1), .int .i64 ((rd_T32 l0 x7_1).f3.f2), .int .i64 ((rd_T32 l0 x7_1).f4)]] (by rfl) rfl rfl (by (try simp only [List.map_toArray, List.map_cons, List.map_nil]); first | done | rfl | (simp only [List.length_drop, List.length_take]; rfl)) ?_
                  with_reducible refine (schema_Fits.calls ((rd_T32 l0 x7_1).f0) ((rd_T32 l0 x7_1).f1) ((rd_T32 l0 x7_1).f2) ((rd_T32 l0 x7_1).f3.f0) ((rd_T32 l0 x7_1).f3.f1) ((rd_T32 l0 x7_1).f3.f2) ((rd_T32 l0 x7_1).f4) true _ A5.out).mono ?_
                  rintro e w13 ⟨rfl, hb⟩
                  refine ⟨_, rfl, ?_⟩
                  have n0_ := Aside0.mk (blk_below (g := gb107) (o := .cells #[.int .i64 ((rd_T32 l0 x7_1).f0), .int .i64 ((rd_T32 l0 x7_1).f1), .int .i64 ((rd_T32 l0 x7_1).f2), .int .i64 ((rd_T32 l0 x7_1).f3.f0), .int .i64 ((rd_T32 l0 x7_1).f3.f1), .int .i64 ((rd_T32 l0 x7_1).f3.f2), .int .i64 ((rd_T32 l0 x7_1).f4)] 32 (0, 0)) (by (with_reducible repeat (first | refine blk_drewN ?_ _ | refine blk_drew ?_ | refine blk_alloc ?_ _)); exact BK107.out) hb)
                  have n1_ := Aside0.mk (below_step (by repeat (first | (with_reducible first | exact HB.out | apply below_alloc | apply pw_below_drewN | apply below_drew1 | refine below_set ?_ GE107.out) | exact HB.out)) hb)
                  clear BK107
                  clear HB
                  have BK107 := n0_
                  have HB := n1_
                  clear n0_ n1_
                  (try clear hb)
                  (try clear hb2)
                  (try clear hk)
                  (try clear hi)
                  refine hK.out _ _ ⟨(blk_cell BK107.out 0).trans rfl, (blk_cell BK107.out 1).trans rfl, (blk_cell BK107.out 2).trans rfl, (blk_cell BK107.out 3).trans rfl, (blk_cell BK107.out 4).trans rfl, (blk_cell BK107.out 5).trans rfl, (blk_cell BK107.out 6).trans rfl, ((HB.out.cell (World.block_lt_of_cell? w _ hw109_0)).trans hw109_0), ((HB.out.cell (World.block_lt_of_cell? w _ hw109_1)).trans hw109_1), ((HB.out.cell (World.block_lt_of_cell? w _ hw109_2)).trans hw109_2), ((HB.out.cell (World.block_lt_of_cell? w _ hw109_3)).trans hw109_3), ((HB.out.cell (World.block_lt_of_cell? w _ hw109_4)).trans hw109_4), ((HB.out.cell (World.block_lt_of_cell? w _ hw109_5)).trans hw109_5), ((HB.out.cell (World.block_lt_of_cell? w _ hw109_6)).trans hw109_6)⟩ (fun hHeld => ?_)
                  clear hK K
                  refine norm_ (a' := ?_) ?_ ?_
                  rotate_left
                  · show Act.put _ (some 13) _ = _
                    simp only [Act.put, List.setIfInBounds_toArray, List.set_cons_zero, List.set_cons_succ, i64_w, i32_w]
                    rfl
                  refine pure_ (i := 2) (N := some 14) (v := ?_) (a' := ?_) #[true, true, true, false, false, false, false, false, false, false, false, false, false, false] rfl rfl (any_of HT_.out (by kernel_rfl)) (fun _ _ _ h => h) (Or.inl ⟨by rfl, ?_⟩) ?_ ?_
                  rotate_left
                  · intro w'
                    go_simp
                    with_reducible rfl
                  rotate_left
                  · simp only [Act.put, List.setIfInBounds_toArray, List.set_cons_zero, List.set_cons_succ, i64_w, i32_w]
                    rfl
                  refine pure_ (i := 3) (N := some 15) (v := ?_) (a' := ?_) #[true, true, true, true, false, false, false, false, false, false, false, false, false, false] rfl rfl (any_of HT_.out (by kernel_rfl)) (fun _ _ _ h => h) (Or.inl ⟨by rfl, ?_⟩) ?_ ?_
                  rotate_left
                  · intro w'
                    go_simp
                    with_reducible rfl
                  rotate_left
                  · simp only [Act.put, List.setIfInBounds_toArray, List.set_cons_zero, List.set_cons_succ, i64_w, i32_w]
                    rfl
                  refine pure_ (i := 4) (N := some 16) (v := ?_) (a' := ?_) #[true, true, true, true, true, false, false, false, false, false, false, false, false, false] rfl rfl (any_of HT_.out (by kernel_rfl)) (fun _ _ _ h => h) (Or.inl ⟨by rfl, ?_⟩) ?_ ?_
                  rotate_left
                  · intro w'
                    go_simp
                    with_reducible rfl
                  rotate_left
                  · simp only [Act.put, List.setIfInBounds_toArray, List.set_cons_zero, List.set_cons_succ, i64_w, i32_w]
                    rfl
                  refine pure_ (i := 6) (N := some 18) (v := ?_) (a' := ?_) #[true, true, true, true, true, false, true, false, false, false, false, false, false, false] rfl rfl (any_of HT_.out (by kernel_rfl)) (fun _ _ _ h => h) (Or.inl ⟨by rfl, ?_⟩) ?_ ?_
                  rotate_left
                  · intro w'
                    go_simp
                    with_reducible rfl
                  rotate_left
                  · simp only [Act.put, List.setIfInBounds_toArray, List.set_cons_zero, List.set_cons_succ, i64_w, i32_w]
                    rfl
                  refine pure_ (i := 7) (N := some 19) (v := ?_) (a' := ?_) #[true, true, true, true, true, false, true, true, false, false, false, false, false, false] rfl rfl (any_of HT_.out (by kernel_rfl)) (fun _ _ _ h => h) (Or.inl ⟨by rfl, ?_⟩) ?_ ?_
                  rotate_left
                  · intro w'
                    go_simp
                    with_reducible rfl
                  rotate_left
                  · simp only [Act.put, List.setIfInBounds_toArray, List.set_cons_zero, List.set_cons_succ, i64_w, i32_w]
                    rfl
                  refine pure_ (i := 8) (N := some 20) (v := ?_) (a' := ?_) #[true, true, true, true, true, false, true, true, true, false, false, false, false, false] rfl rfl (any_of HT_.out (by kernel_rfl)) (fun _ _ _ h => h) (Or.inl ⟨by rfl, ?_⟩) ?_ ?_
                  rotate_left
                  · intro w'
                    go_simp
                    with_reducible rfl
                  rotate_left
                  · simp only [Act.put, List.setIfInBounds_toArray, List.set_cons_zero, List.set_cons_succ, i64_w, i32_w]
                    rfl
                  refine pure_ (i := 10) (N := some 22) (v := ?_) (a' := ?_) #[true, true, true, true, true, false, true, true, true, false, true, false, false, false] rfl rfl (any_of HT_.out (by kernel_rfl)) (fun _ _ _ h => h) (Or.inl ⟨by rfl, ?_⟩) ?_ ?_
                  rotate_left
                  · intro w'
                    go_simp
                    with_reducible rfl
                  rotate_left
                  · simp only [Act.put, List.setIfInBounds_toArray, List.set_cons_zero, List.set_cons_succ, i64_w, i32_w]
                    rfl
                  refine take_ (i := 5) (N := some 17) (v := ?_) (a' := ?_) #[true, true, true, true, true, true, true, true, true, false, true, false, false, false] rfl rfl (take_ofW HT_.out HW_.out (by kernel_rfl)) (fun _ _ _ h => h) (Or.inl ⟨by rfl, ?_⟩) hHeld ?_ ?_
                  rotate_left
                  · rintro w' ⟨s0, s1, s2, s3, s4, s5, s6, s7, s8, s9, s10, s11, s12, s13⟩
                    go_simp
                    with_reducible rfl
                  rotate_left
                  · simp only [Act.put, List.setIfInBounds_toArray, List.set_cons_zero, List.set_cons_succ, i64_w, i32_w]
                    rfl
                  refine take_ (i := 9) (N := some 21) (v := ?_) (a' := ?_) #[true, true, true, true, true, true, true, true, true, true, true, false, false, false] rfl rfl (take_ofW HT_.out HW_.out (by kernel_rfl)) (fun _ _ _ h => h) (Or.inl ⟨by rfl, ?_⟩) hHeld ?_ ?_
                  rotate_left
                  · rintro w' ⟨s0, s1, s2, s3, s4, s5, s6, s7, s8, s9, s10, s11, s12, s13⟩
                    go_simp
                    with_reducible rfl
                  rotate_left
                  · simp only [Act.put, List.setIfInBounds_toArray, List.set_cons_zero, List.set_cons_succ, i64_w, i32_w]
                    rfl
                  refine pure_ (i := 11) (N := some 23) (v := ?_) (a' := ?_) #[true, true, true, true, true, true, true, true, true, true, true, true, false, false] rfl rfl (any_of HT_.out (by kernel_rfl)) (fun _ _ _ h => h) (Or.inl ⟨by rfl, ?_⟩) ?_ ?_
                  rotate_left
                  · intro w'
                    go_simp
                    with_reducible rfl
                  rotate_left
                  · simp only [Act.put, List.setIfInBounds_toArray, List.set_cons_zero, List.set_cons_succ, i64_w, i32_w]
                    rfl
                  refine pure_ (i := 12) (N := some 24) (v := ?_) (a' := ?_) #[true, true, true, true, true, true, true, true, true, true, true, true, true, false] rfl rfl (any_of HT_.out (by kernel_rfl)) (fun _ _ _ h => h) (Or.inl ⟨by rfl, ?_⟩) ?_ ?_
                  rotate_left
                  · intro w'
                    go_simp
                    with_reducible rfl
                  rotate_left
                  · simp only [Act.put, List.setIfInBounds_toArray, List.set_cons_zero, List.set_cons_succ, i64_w, i32_w]
                    rfl
                  refine pure_ (i := 13) (N := some 25) (v := ?_) (a' := ?_) #[true, true, true, true, true, true, true, true, true, true, true, true, true, true] rfl rfl (any_of HT_.out (by kernel_rfl)) (fun _ _ _ h => h) (Or.inl ⟨by rfl, ?_⟩) ?_ ?_
                  rotate_left
                  · intro w'
                    go_simp
                    with_reducible rfl
                  rotate_left
                  · simp only [Act.put, List.setIfInBounds_toArray, List.set_cons_zero, List.set_cons_succ, i64_w, i32_w]
                    rfl
                  refine done_ (done_of HT_.out (by kernel_rfl)) ?_
                  try go_wp2
                  go_roundg k1
                  case measure => have := HK1.out; omega
                  case rel => exact ⟨(wrap64 (x7_1 + 1)), (by first | rfl | (simp; done) | (simp [*]; done)), H', ⟨by have := HK1.out; omega⟩, ⟨by repeat (first | (with_reducible first | exact HB.out | apply below_alloc | apply pw_below_drewN | apply below_drew1 | refine below_set ?_ GE107.out) | exact HB.out)⟩⟩
                · rw [if_neg c8] at H
                  have c8b0 : (((rd_T32 l0 x7_1).f0) == (wrap64 (((rd_T32 l0 0).f0) + x7_1))) = false := beq_eq_false_iff_ne.mpr c8
                  have c8b1 : (((rd_T32 l0 x7_1).f0) != (wrap64 (((rd_T32 l0 0).f0) + x7_1))) = true := bne_iff_ne.mpr c8
                  obtain rfl := Option.some.inj H
                  have p106 : 0 ≤ (x7_1 : Int) := of_decide_eq_true (by first | (with_reducible assumption) | assumption)
                  have q106 : x7_1 < (l0.length : Int) := of_decide_eq_true (by first | (with_reducible assumption) | assumption)
                  obtain ⟨ad106, e106, hx106_0, hx106_1, hx106_2, hx106_3, hx106_4, hx106_5, hx106_6⟩ := at_T32 HR0.out x7_1 p106 q106
                  cases e106
                  replace hx106_0 := (HB.out.cell (World.block_lt_of_cell? w _ hx106_0)).trans hx106_0
                  replace hx106_1 := (HB.out.cell (World.block_lt_of_cell? w _ hx106_1)).trans hx106_1
                  replace hx106_2 := (HB.out.cell (World.block_lt_of_cell? w _ hx106_2)).trans hx106_2
                  replace hx106_3 := (HB.out.cell (World.block_lt_of_cell? w _ hx106_3)).trans hx106_3
                  replace hx106_4 := (HB.out.cell (World.block_lt_of_cell? w _ hx106_4)).trans hx106_4
                  replace hx106_5 := (HB.out.cell (World.block_lt_of_cell? w _ hx106_5)).trans hx106_5
                  replace hx106_6 := (HB.out.cell (World.block_lt_of_cell? w _ hx106_6)).trans hx106_6
                  replace p106 := eq_true p106
                  replace q106 := eq_true q106
                  try go_wp2_with (first | ((with_reducible refine gate_dst (N := 4) rfl ?_); (try (refine gate_guard (by rfl) ?_; dsimp only)); refine box_event ?hg (N := 4) ?hd (cs := #[.int .i64 0, .int .i64 0, .int .i64 0, .int .i64 0, .int .i64 0, .int .i64 0, .int .i64 0]) (t := 32) ?hr ?_; (case hd => rfl); (case hg => rfl); (case hr => first | (go_simp; done) | (go_simp; rfl)); intro gb107 hg w14 hbox hb; have n0_ := Aside0.mk (below_step (by repeat (first | (with_reducible first | exact HB.out | apply below_alloc | apply pw_below_drewN | apply below_drew1) | exact HB.out)) hb); have n1_ := Aside0.mk (hbox); have n2_ := Aside0.mk ((by rw [hg]; exact (below_size (by repeat (first | (with_reducible first | exact HB.out | apply below_alloc | apply pw_below_drewN | apply below_drew1) | exact HB.out))) : w.heap.size ≤ gb107)); have n3_ := Aside0.mk ((by rw [hg]; exact (below_size (by repeat (first | (with_reducible first | exact HB.out | apply below_alloc | apply pw_below_drewN | apply below_drew1) | exact HB.out))) : w.heap.size ≤ gb107)); clear HB; have HB := n0_; have BK107 := n1_; have GW107 := n2_; have GE107 := n3_; clear n0_ n1_ n2_ n3_; clear hb hbox hg; have hcz15_0 : w14.cell? ⟨gb107, 0, none⟩ = some (.int .i64 0) := (blk_cell BK107.out 0).trans rfl; have hcz15_1 : w14.cell? ⟨gb107, 1, none⟩ = some (.int .i64 0) := (blk_cell BK107.out 1).trans rfl; have hcz15_2 : w14.cell? ⟨gb107, 2, none⟩ = some (.int .i64 0) := (blk_cell BK107.out 2).trans rfl; have hcz15_3 : w14.cell? ⟨gb107, 3, none⟩ = some (.int .i64 0) := (blk_cell BK107.out 3).trans rfl; have hcz15_4 : w14.cell? ⟨gb107, 4, none⟩ = some (.int .i64 0) := (blk_cell BK107.out 4).trans rfl; have hcz15_5 : w14.cell? ⟨gb107, 5, none⟩ = some (.int .i64 0) := (blk_cell BK107.out 5).trans rfl; have hcz15_6 : w14.cell? ⟨gb107, 6, none⟩ = some (.int .i64 0) := (blk_cell BK107.out 6).trans rfl; have hfz15_0 := blk_frozen BK107.out 0; have hfz15_1 := blk_frozen BK107.out 1; have hfz15_2 := blk_frozen BK107.out 2; have hfz15_3 := blk_frozen BK107.out 3; have hfz15_4 := blk_frozen BK107.out 4; have hfz15_5 := blk_frozen BK107.out 5; have hfz15_6 := blk_frozen BK107.out 6))
                  have n0_ : Aside0 ((((((((w14.setCell ⟨gb107, 0, none⟩ (.int .i64 ((rd_T32 l0 x7_1).f0))).setCell ⟨gb107, 1, none⟩ (.int .i64 ((rd_T32 l0 x7_1).f1))).setCell ⟨gb107, 2, none⟩ (.int .i64 ((rd_T32 l0 x7_1).f2))).setCell ⟨gb107, 3, none⟩ (.int .i64 ((rd_T32 l0 x7_1).f3.f0))).setCell ⟨gb107, 4, none⟩ (.int .i64 ((rd_T32 l0 x7_1).f3.f1))).setCell ⟨gb107, 5, none⟩ (.int .i64 ((rd_T32 l0 x7_1).f3.f2))).setCell ⟨gb107, 6, none⟩ (.int .i64 ((rd_T32 l0 x7_1).f4))).heap[gb107]? = some (.cells #[.int .i64 ((rd_T32 l0 x7_1).f0), .int .i64 ((rd_T32 l0 x7_1).f1), .int .i64 ((rd_T32 l0 x7_1).f2), .int .i64 ((rd_T32 l0 x7_1).f3.f0), .int .i64 ((rd_T32 l0 x7_1).f3.f1), .int .i64 ((rd_T32 l0 x7_1).f3.f2), .int .i64 ((rd_T32 l0 x7_1).f4)] 32 (0, 0))) := ⟨by (with_reducible repeat (first | refine blk_drewN ?_ _ | refine blk_drew ?_ | refine blk_alloc ?_ _)); refine blk_put (cs := #[.int .i64 ((rd_T32 l0 x7_1).f0), .int .i64 ((rd_T32 l0 x7_1).f1), .int .i64 ((rd_T32 l0 x7_1).f2), .int .i64 ((rd_T32 l0 x7_1).f3.f0), .int .i64 ((rd_T32 l0 x7_1).f3.f1), .int .i64 ((rd_T32 l0 x7_1).f3.f2), .int .i64 0]) ?_ 6 _ (by first | rfl | (simp only [gt_iff_lt, *]; rfl) | (simp [*]; done)); (with_reducible repeat (first | refine blk_drewN ?_ _ | refine blk_drew ?_ | refine blk_alloc ?_ _)); refine blk_put (cs := #[.int .i64 ((rd_T32 l0 x7_1).f0), .int .i64 ((rd_T32 l0 x7_1).f1), .int .i64 ((rd_T32 l0 x7_1).f2), .int .i64 ((rd_T32 l0 x7_1).f3.f0), .int .i64 ((rd_T32 l0 x7_1).f3.f1), .int .i64 0, .int .i64 0]) ?_ 5 _ (by first | rfl | (simp only [gt_iff_lt, *]; rfl) | (simp [*]; done)); (with_reducible repeat (first | refine blk_drewN ?_ _ | refine blk_drew ?_ | refine blk_alloc ?_ _)); refine blk_put (cs := #[.int .i64 ((rd_T32 l0 x7_1).f0), .int .i64 ((rd_T32 l0 x7_1).f1), .int .i64 ((rd_T32 l0 x7_1).f2), .int .i64 ((rd_T32 l0 x7_1).f3.f0), .int .i64 0, .int .i64 0, .int .i64 0]) ?_ 4 _ (by first | rfl | (simp only [gt_iff_lt, *]; rfl) | (simp [*]; done)); (with_reducible repeat (first | refine blk_drewN ?_ _ | refine blk_drew ?_ | refine blk_alloc ?_ _)); refine blk_put (cs := #[.int .i64 ((rd_T32 l0 x7_1).f0), .int .i64 ((rd_T32 l0 x7_1).f1), .int .i64 ((rd_T32 l0 x7_1).f2), .int .i64 0, .int .i64 0, .int .i64 0, .int .i64 0]) ?_ 3 _ (by first | rfl | (simp only [gt_iff_lt, *]; rfl) | (simp [*]; done)); (with_reducible repeat (first | refine blk_drewN ?_ _ | refine blk_drew ?_ | refine blk_alloc ?_ _)); refine blk_put (cs := #[.int .i64 ((rd_T32 l0 x7_1).f0), .int .i64 ((rd_T32 l0 x7_1).f1), .int .i64 0, .int .i64 0, .int .i64 0, .int .i64 0, .int .i64 0]) ?_ 2 _ (by first | rfl | (simp only [gt_iff_lt, *]; rfl) | (simp [*]; done)); (with_reducible repeat (first | refine blk_drewN ?_ _ | refine blk_drew ?_ | refine blk_alloc ?_ _)); refine blk_put (cs := #[.int .i64 ((rd_T32 l0 x7_1).f0), .int .i64 0, .int .i64 0, .int .i64 0, .int .i64 0, .int .i64 0, .int .i64 0]) ?_ 1 _ (by first | rfl | (simp only [gt_iff_lt, *]; rfl) | (simp [*]; done)); (with_reducible repeat (first | refine blk_drewN ?_ _ | refine blk_drew ?_ | refine blk_alloc ?_ _)); refine blk_put (cs := #[.int .i64 0, .int .i64 0, .int .i64 0, .int .i64 0, .int .i64 0, .int .i64 0, .int .i64 0]) ?_ 0 _ (by first | rfl | (simp only [gt_iff_lt, *]; rfl) | (simp [*]; done)); (with_reducible repeat (first | refine blk_drewN ?_ _ | refine blk_drew ?_ | refine blk_alloc ?_ _)); exact BK107.out⟩
                  have n1_ : Aside0 (Below w.heap.size w (((((((w14.setCell ⟨gb107, 0, none⟩ (.int .i64 ((rd_T32 l0 x7_1).f0))).setCell ⟨gb107, 1, none⟩ (.int .i64 ((rd_T32 l0 x7_1).f1))).setCell ⟨gb107, 2, none⟩ (.int .i64 ((rd_T32 l0 x7_1).f2))).setCell ⟨gb107, 3, none⟩ (.int .i64 ((rd_T32 l0 x7_1).f3.f0))).setCell ⟨gb107, 4, none⟩ (.int .i64 ((rd_T32 l0 x7_1).f3.f1))).setCell ⟨gb107, 5, none⟩ (.int .i64 ((rd_T32 l0 x7_1).f3.f2))).setCell ⟨gb107, 6, none⟩ (.int .i64 ((rd_T32 l0 x7_1).f4)))) := ⟨by repeat (first | (with_reducible first | exact HB.out | apply below_alloc | apply pw_below_drewN | apply below_drew1 | refine below_set ?_ GE107.out) | exact HB.out)⟩
                  (try clear BK107)
                  (try clear HB)
                  generalize (((((((w14.setCell ⟨gb107, 0, none⟩ (.int .i64 ((rd_T32 l0 x7_1).f0))).setCell ⟨gb107, 1, none⟩ (.int .i64 ((rd_T32 l0 x7_1).f1))).setCell ⟨gb107, 2, none⟩ (.int .i64 ((rd_T32 l0 x7_1).f2))).setCell ⟨gb107, 3, none⟩ (.int .i64 ((rd_T32 l0 x7_1).f3.f0))).setCell ⟨gb107, 4, none⟩ (.int .i64 ((rd_T32 l0 x7_1).f3.f1))).setCell ⟨gb107, 5, none⟩ (.int .i64 ((rd_T32 l0 x7_1).f3.f2))).setCell ⟨gb107, 6, none⟩ (.int .i64 ((rd_T32 l0 x7_1).f4))) = w16 at n0_ n1_ ⊢
                  have BK107 := n0_
                  have HB := n1_
                  clear n0_ n1_
                  have n0_ := Aside0.mk (blk_drew BK107.out)
                  have n1_ := Aside0.mk (below_drew1 HB.out)
                  clear BK107
                  clear HB
                  have BK107 := n0_
                  have HB := n1_
                  clear n0_ n1_
                  have p109 : 0 ≤ (0 : Int) := (by omega)
                  have q109 : 0 < (l0.length : Int) := of_decide_eq_true (by first | (with_reducible assumption) | assumption)
                  obtain ⟨ad109, e109, hx109_0, hx109_1, hx109_2, hx109_3, hx109_4, hx109_5, hx109_6⟩ := at_T32 HR0.out 0 p109 q109
                  have hw109_6 := hx109_6
                  (try rw [show ((0 : Int)).toNat = 0 from rfl] at hw109_6)
                  (try rw [show 0 * 7 = 0 from rfl] at hw109_6)
                  (try rw [Addr.add_zero'] at hw109_6)
                  have hw109_5 := hx109_5
                  (try rw [show ((0 : Int)).toNat = 0 from rfl] at hw109_5)
                  (try rw [show 0 * 7 = 0 from rfl] at hw109_5)
                  (try rw [Addr.add_zero'] at hw109_5)
                  have hw109_4 := hx109_4
                  (try rw [show ((0 : Int)).toNat = 0 from rfl] at hw109_4)
                  (try rw [show 0 * 7 = 0 from rfl] at hw109_4)
                  (try rw [Addr.add_zero'] at hw109_4)
                  have hw109_3 := hx109_3
                  (try rw [show ((0 : Int)).toNat = 0 from rfl] at hw109_3)
                  (try rw [show 0 * 7 = 0 from rfl] at hw109_3)
                  (try rw [Addr.add_zero'] at hw109_3)
                  have hw109_2 := hx109_2
                  (try rw [show ((0 : Int)).toNat = 0 from rfl] at hw109_2)
                  (try rw [show 0 * 7 = 0 from rfl] at hw109_2)
                  (try rw [Addr.add_zero'] at hw109_2)
                  have hw109_1 := hx109_1
                  (try rw [show ((0 : Int)).toNat = 0 from rfl] at hw109_1)
                  (try rw [show 0 * 7 = 0 from rfl] at hw109_1)
                  (try rw [Addr.add_zero'] at hw109_1)
                  have hw109_0 := hx109_0
                  (try rw [show ((0 : Int)).toNat = 0 from rfl] at hw109_0)
                  (try rw [show 0 * 7 = 0 from rfl] at hw109_0)
                  (try rw [Addr.add_zero'] at hw109_0)
                  obtain rfl : ad106 = ad109 := (by injection e109)
                  have qi109 : (0 < l0.length) = True := eq_true (by omega)
                  (try rw [show ((0 : Int)).toNat = 0 from rfl] at hx109_0)
                  (try rw [show 0 * 7 = 0 from rfl] at hx109_0)
                  (try rw [Addr.add_zero'] at hx109_0)
                  (try rw [show ((0 : Int)).toNat = 0 from rfl] at hx109_1)
                  (try rw [show 0 * 7 = 0 from rfl] at hx109_1)
                  (try rw [Addr.add_zero'] at hx109_1)
                  (try rw [show ((0 : Int)).toNat = 0 from rfl] at hx109_2)
                  (try rw [show 0 * 7 = 0 from rfl] at hx109_2)
                  (try rw [Addr.add_zero'] at hx109_2)
                  (try rw [show ((0 : Int)).toNat = 0 from rfl] at hx109_3)
                  (try rw [show 0 * 7 = 0 from rfl] at hx109_3)
                  (try rw [Addr.add_zero'] at hx109_3)
                  (try rw [show ((0 : Int)).toNat = 0 from rfl] at hx109_4)
                  (try rw [show 0 * 7 = 0 from rfl] at hx109_4)
                  (try rw [Addr.add_zero'] at hx109_4)
                  (try rw [show ((0 : Int)).toNat = 0 from rfl] at hx109_5)
                  (try rw [show 0 * 7 = 0 from rfl] at hx109_5)
                  (try rw [Addr.add_zero'] at hx109_5)
                  (try rw [show ((0 : Int)).toNat = 0 from rfl] at hx109_6)
                  (try rw [show 0 * 7 = 0 from rfl] at hx109_6)
                  (try rw [Addr.add_zero'] at hx109_6)
                  replace hx109_0 := (HB.out.cell (World.block_lt_of_cell? w _ hx109_0)).trans hx109_0
                  replace hx109_1 := (HB.out.cell (World.block_lt_of_cell? w _ hx109_1)).trans hx109_1
                  replace hx109_2 := (HB.out.cell (World.block_lt_of_cell? w _ hx109_2)).trans hx109_2
                  replace hx109_3 := (HB.out.cell (World.block_lt_of_cell? w _ hx109_3)).trans hx109_3
                  replace hx109_4 := (HB.out.cell (World.block_lt_of_cell? w _ hx109_4)).trans hx109_4
                  replace hx109_5 := (HB.out.cell (World.block_lt_of_cell? w _ hx109_5)).trans hx109_5
                  replace hx109_6 := (HB.out.cell (World.block_lt_of_cell? w _ hx109_6)).trans hx109_6
                  replace p109 := eq_true p109
                  replace q109 := eq_true q109
                  refine start_ (n := 14) (S := fun w' => w'.cell? ⟨gb107, 0, none⟩ = some (.int .i64 ((rd_T32 l0 x7_1).f0)) ∧ w'.cell? ⟨gb107, 1, none⟩ = some (.int .i64 ((rd_T32 l0 x7_1).f1)) ∧ w'.cell? ⟨gb107, 2, none⟩ = some (.int .i64 ((rd_T32 l0 x7_1).f2)) ∧ w'.cell? ⟨gb107, 3, none⟩ = some (.int .i64 ((rd_T32 l0 x7_1).f3.f0)) ∧ w'.cell? ⟨gb107, 4, none⟩ = some (.int .i64 ((rd_T32 l0 x7_1).f3.f1)) ∧ w'.cell? ⟨gb107, 5, none⟩ = some (.int .i64 ((rd_T32 l0 x7_1).f3.f2)) ∧ w'.cell? ⟨gb107, 6, none⟩ = some (.int .i64 ((rd_T32 l0 x7_1).f4)) ∧ w'.cell? ad106 = some (.int .i64 ((rd_T32 l0 0).f0)) ∧ w'.cell? ⟨ad106.block, ad106.off + 1, none⟩ = some (.int .i64 ((rd_T32 l0 0).f1)) ∧ w'.cell? ⟨ad106.block, ad106.off + 2, none⟩ = some (.int .i64 ((rd_T32 l0 0).f2)) ∧ w'.cell? ⟨ad106.block, ad106.off + 3, none⟩ = some (.int .i64 ((rd_T32 l0 0).f3.f0)) ∧ w'.cell? ⟨ad106.block, ad106.off + 4, none⟩ = some (.int .i64 ((rd_T32 l0 0).f3.f1)) ∧ w'.cell? ⟨ad106.block, ad106.off + 5, none⟩ = some (.int .i64 ((rd_T32 l0 0).f3.f2)) ∧ w'.cell? ⟨ad106.block, ad106.off + 6, none⟩ = some (.int .i64 ((rd_T32 l0 0).f4))) (ds := []) #[false, false, false, false, false, false, false, false, false, false, false, false, false, false] (by kernel_rfl) rfl rfl ⟨(blk_cell BK107.out 0).trans rfl, (blk_cell BK107.out 1).trans rfl, (blk_cell BK107.out 2).trans rfl, (blk_cell BK107.out 3).trans rfl, (blk_cell BK107.out 4).trans rfl, (blk_cell BK107.out 5).trans rfl, (blk_cell BK107.out 6).trans rfl, ((HB.out.cell (World.block_lt_of_cell? w _ hw109_0)).trans hw109_0), ((HB.out.cell (World.block_lt_of_cell? w _ hw109_1)).trans hw109_1), ((HB.out.cell (World.block_lt_of_cell? w _ hw109_2)).trans hw109_2), ((HB.out.cell (World.block_lt_of_cell? w _ hw109_3)).trans hw109_3), ((HB.out.cell (World.block_lt_of_cell? w _ hw109_4)).trans hw109_4), ((HB.out.cell (World.block_lt_of_cell? w _ hw109_5)).trans hw109_5), ((HB.out.cell (World.block_lt_of_cell? w _ hw109_6)).trans hw109_6)⟩ (fun hHeld => ?_); refine with_tabW block_Fits.tab4 block_Fits.bits4 (fun HT_ HW_ => ?_)
                  generalize w16.drew = w17 at BK107 HB hx109_0 hx109_1 hx109_2 hx109_3 hx109_4 hx109_5 hx109_6 hHeld ⊢
                  refine take_ (i := 0) (N := some 12) (v := ?_) (a' := ?_) #[true, false, false, false, false, false, false, false, false, false, false, false, false, false] rfl rfl (take_ofW HT_.out HW_.out (by kernel_rfl)) (fun _ _ _ h => h) (Or.inl ⟨by rfl, ?_⟩) hHeld ?_ ?_
                  rotate_left
                  · rintro w' ⟨s0, s1, s2, s3, s4, s5, s6, s7, s8, s9, s10, s11, s12, s13⟩
                    go_simp
                    with_reducible rfl
                  rotate_left
                  · simp only [Act.put, List.setIfInBounds_toArray, List.set_cons_zero, List.set_cons_succ, i64_w, i32_w]
                    rfl
                  refine one_ (i := 1) (N := some 13) #[true, true, false, false, false, false, false, false, false, false, false, false, false, false] rfl rfl (one_of HT_.out (by kernel_rfl)) (by decide) (fun K hK => ?_)
                  refine goes_ Try.func25 (by kernel_rfl) rfl #[.agg #[.int .i64 ((rd_T32 l0 x7_1).f0), .int .i64 ((rd_T32 l0 x7_1).f1), .int .i64 ((rd_T32 l0 x7_1).f2), .int .i64 ((rd_T32 l0 x7_1).f3.f0), .int .i64 ((rd_T32 l0 x7_1).f3.f1), .int .i64 ((rd_T32 l0 x7_1).f3.f2), .int .i64 ((rd_T32 l0 x7_1).f4)]] (by rfl) rfl rfl (by (try simp only [List.map_toArray, List.map_cons, List.map_nil]); first | done | rfl | (simp only [List.length_drop, List.length_take]; rfl)) ?_
                  with_reducible refine (schema_Fits.calls ((rd_T32 l0 x7_1).f0) ((rd_T32 l0 x7_1).f1) ((rd_T32 l0 x7_1).f2) ((rd_T32 l0 x7_1).f3.f0) ((rd_T32 l0 x7_1).f3.f1) ((rd_T32 l0 x7_1).f3.f2) ((rd_T32 l0 x7_1).f4) true _ A5.out).mono ?_
                  rintro e w18 ⟨rfl, hb⟩
                  refine ⟨_, rfl, ?_⟩
                  have n0_ := Aside0.mk (blk_below (g := gb107) (o := .cells #[.int .i64 ((rd_T32 l0 x7_1).f0), .int .i64 ((rd_T32 l0 x7_1).f1), .int .i64 ((rd_T32 l0 x7_1).f2), .int .i64 ((rd_T32 l0 x7_1).f3.f0), .int .i64 ((rd_T32 l0 x7_1).f3.f1), .int .i64 ((rd_T32 l0 x7_1).f3.f2), .int .i64 ((rd_T32 l0 x7_1).f4)] 32 (0, 0)) (by (with_reducible repeat (first | refine blk_drewN ?_ _ | refine blk_drew ?_ | refine blk_alloc ?_ _)); exact BK107.out) hb)
                  have n1_ := Aside0.mk (below_step (by repeat (first | (with_reducible first | exact HB.out | apply below_alloc | apply pw_below_drewN | apply below_drew1 | refine below_set ?_ GE107.out) | exact HB.out)) hb)
                  clear BK107
                  clear HB
                  have BK107 := n0_
                  have HB := n1_
                  clear n0_ n1_
                  (try clear hb)
                  (try clear hb2)
                  (try clear hk)
                  (try clear hi)
                  refine hK.out _ _ ⟨(blk_cell BK107.out 0).trans rfl, (blk_cell BK107.out 1).trans rfl, (blk_cell BK107.out 2).trans rfl, (blk_cell BK107.out 3).trans rfl, (blk_cell BK107.out 4).trans rfl, (blk_cell BK107.out 5).trans rfl, (blk_cell BK107.out 6).trans rfl, ((HB.out.cell (World.block_lt_of_cell? w _ hw109_0)).trans hw109_0), ((HB.out.cell (World.block_lt_of_cell? w _ hw109_1)).trans hw109_1), ((HB.out.cell (World.block_lt_of_cell? w _ hw109_2)).trans hw109_2), ((HB.out.cell (World.block_lt_of_cell? w _ hw109_3)).trans hw109_3), ((HB.out.cell (World.block_lt_of_cell? w _ hw109_4)).trans hw109_4), ((HB.out.cell (World.block_lt_of_cell? w _ hw109_5)).trans hw109_5), ((HB.out.cell (World.block_lt_of_cell? w _ hw109_6)).trans hw109_6)⟩ (fun hHeld => ?_)
                  clear hK K
                  refine norm_ (a' := ?_) ?_ ?_
                  rotate_left
                  · show Act.put _ (some 13) _ = _
                    simp only [Act.put, List.setIfInBounds_toArray, List.set_cons_zero, List.set_cons_succ, i64_w, i32_w]
                    rfl
                  refine pure_ (i := 2) (N := some 14) (v := ?_) (a' := ?_) #[true, true, true, false, false, false, false, false, false, false, false, false, false, false] rfl rfl (any_of HT_.out (by kernel_rfl)) (fun _ _ _ h => h) (Or.inl ⟨by rfl, ?_⟩) ?_ ?_
                  rotate_left
                  · intro w'
                    go_simp
                    with_reducible rfl
                  rotate_left
                  · simp only [Act.put, List.setIfInBounds_toArray, List.set_cons_zero, List.set_cons_succ, i64_w, i32_w]
                    rfl
                  refine pure_ (i := 3) (N := some 15) (v := ?_) (a' := ?_) #[true, true, true, true, false, false, false, false, false, false, false, false, false, false] rfl rfl (any_of HT_.out (by kernel_rfl)) (fun _ _ _ h => h) (Or.inl ⟨by rfl, ?_⟩) ?_ ?_
                  rotate_left
                  · intro w'
                    go_simp
                    with_reducible rfl
                  rotate_left
                  · simp only [Act.put, List.setIfInBounds_toArray, List.set_cons_zero, List.set_cons_succ, i64_w, i32_w]
                    rfl
                  refine pure_ (i := 4) (N := some 16) (v := ?_) (a' := ?_) #[true, true, true, true, true, false, false, false, false, false, false, false, false, false] rfl rfl (any_of HT_.out (by kernel_rfl)) (fun _ _ _ h => h) (Or.inl ⟨by rfl, ?_⟩) ?_ ?_
                  rotate_left
                  · intro w'
                    go_simp
                    with_reducible rfl
                  rotate_left
                  · simp only [Act.put, List.setIfInBounds_toArray, List.set_cons_zero, List.set_cons_succ, i64_w, i32_w]
                    rfl
                  refine pure_ (i := 6) (N := some 18) (v := ?_) (a' := ?_) #[true, true, true, true, true, false, true, false, false, false, false, false, false, false] rfl rfl (any_of HT_.out (by kernel_rfl)) (fun _ _ _ h => h) (Or.inl ⟨by rfl, ?_⟩) ?_ ?_
                  rotate_left
                  · intro w'
                    go_simp
                    with_reducible rfl
                  rotate_left
                  · simp only [Act.put, List.setIfInBounds_toArray, List.set_cons_zero, List.set_cons_succ, i64_w, i32_w]
                    rfl
                  refine pure_ (i := 7) (N := some 19) (v := ?_) (a' := ?_) #[true, true, true, true, true, false, true, true, false, false, false, false, false, false] rfl rfl (any_of HT_.out (by kernel_rfl)) (fun _ _ _ h => h) (Or.inl ⟨by rfl, ?_⟩) ?_ ?_
                  rotate_left
                  · intro w'
                    go_simp
                    with_reducible rfl
                  rotate_left
                  · simp only [Act.put, List.setIfInBounds_toArray, List.set_cons_zero, List.set_cons_succ, i64_w, i32_w]
                    rfl
                  refine pure_ (i := 8) (N := some 20) (v := ?_) (a' := ?_) #[true, true, true, true, true, false, true, true, true, false, false, false, false, false] rfl rfl (any_of HT_.out (by kernel_rfl)) (fun _ _ _ h => h) (Or.inl ⟨by rfl, ?_⟩) ?_ ?_
                  rotate_left
                  · intro w'
                    go_simp
                    with_reducible rfl
                  rotate_left
                  · simp only [Act.put, List.setIfInBounds_toArray, List.set_cons_zero, List.set_cons_succ, i64_w, i32_w]
                    rfl
                  refine pure_ (i := 10) (N := some 22) (v := ?_) (a' := ?_) #[true, true, true, true, true, false, true, true, true, false, true, false, false, false] rfl rfl (any_of HT_.out (by kernel_rfl)) (fun _ _ _ h => h) (Or.inl ⟨by rfl, ?_⟩) ?_ ?_
                  rotate_left
                  · intro w'
                    go_simp
                    with_reducible rfl
                  rotate_left
                  · simp only [Act.put, List.setIfInBounds_toArray, List.set_cons_zero, List.set_cons_succ, i64_w, i32_w]
                    rfl
                  refine take_ (i := 5) (N := some 17) (v := ?_) (a' := ?_) #[true, true, true, true, true, true, true, true, true, false, true, false, false, false] rfl rfl (take_ofW HT_.out HW_.out (by kernel_rfl)) (fun _ _ _ h => h) (Or.inl ⟨by rfl, ?_⟩) hHeld ?_ ?_
                  rotate_left
                  · rintro w' ⟨s0, s1, s2, s3, s4, s5, s6, s7, s8, s9, s10, s11, s12, s13⟩
                    go_simp
                    with_reducible rfl
                  rotate_left
                  · simp only [Act.put, List.setIfInBounds_toArray, List.set_cons_zero, List.set_cons_succ, i64_w, i32_w]
                    rfl
                  refine take_ (i := 9) (N := some 21) (v := ?_) (a' := ?_) #[true, true, true, true, true, true, true, true, true, true, true, false, false, false] rfl rfl (take_ofW HT_.out HW_.out (by kernel_rfl)) (fun _ _ _ h => h) (Or.inl ⟨by rfl, ?_⟩) hHeld ?_ ?_
                  rotate_left
                  · rintro w' ⟨s0, s1, s2, s3, s4, s5, s6, s7, s8, s9, s10, s11, s12, s13⟩
                    go_simp
                    with_reducible rfl
                  rotate_left
                  · simp only [Act.put, List.setIfInBounds_toArray, List.set_cons_zero, List.set_cons_succ, i64_w, i32_w]
                    rfl
                  refine pure_ (i := 11) (N := some 23) (v := ?_) (a' := ?_) #[true, true, true, true, true, true, true, true, true, true, true, true, false, false] rfl rfl (any_of HT_.out (by kernel_rfl)) (fun _ _ _ h => h) (Or.inl ⟨by rfl, ?_⟩) ?_ ?_
                  rotate_left
                  · intro w'
                    go_simp
                    with_reducible rfl
                  rotate_left
                  · simp only [Act.put, List.setIfInBounds_toArray, List.set_cons_zero, List.set_cons_succ, i64_w, i32_w]
                    rfl
                  refine pure_ (i := 12) (N := some 24) (v := ?_) (a' := ?_) #[true, true, true, true, true, true, true, true, true, true, true, true, true, false] rfl rfl (any_of HT_.out (by kernel_rfl)) (fun _ _ _ h => h) (Or.inl ⟨by rfl, ?_⟩) ?_ ?_
                  rotate_left
                  · intro w'
                    go_simp
                    with_reducible rfl
                  rotate_left
                  · simp only [Act.put, List.setIfInBounds_toArray, List.set_cons_zero, List.set_cons_succ, i64_w, i32_w]
                    rfl
                  refine pure_ (i := 13) (N := some 25) (v := ?_) (a' := ?_) #[true, true, true, true, true, true, true, true, true, true, true, true, true, true] rfl rfl (any_of HT_.out (by kernel_rfl)) (fun _ _ _ h => h) (Or.inl ⟨by rfl, ?_⟩) ?_ ?_
                  rotate_left
                  · intro w'
                    go_simp
                    with_reducible rfl
                  rotate_left
                  · simp only [Act.put, List.setIfInBounds_toArray, List.set_cons_zero, List.set_cons_succ, i64_w, i32_w]
                    rfl
                  refine done_ (done_of HT_.out (by kernel_rfl)) ?_
                  try go_wp2
                  go_ret
                  exact ⟨by first | rfl | (simp [errW_none, errW_some] <;> rfl) | (simp [*, errW_none, errW_some] <;> rfl), by repeat (first | (with_reducible first | exact HB.out | apply below_alloc | apply pw_below_drewN | apply below_drew1 | refine below_set ?_ GE107.out) | exact HB.out)⟩
              · rw [if_neg c7] at H
                exact absurd H (by simp)
            · replace c6 := Bool.eq_false_iff.mpr c6
              subst c6
              have H1 : (some false) = some r := by rw [if_neg (show ¬ (false = true) by decide)] at H; exact H
              clear H
              have H := H1
              clear H1
              obtain rfl := Option.some.inj H
              have p106 : 0 ≤ (x7_1 : Int) := of_decide_eq_true (by first | (with_reducible assumption) | assumption)
              have q106 : x7_1 < (l0.length : Int) := of_decide_eq_true (by first | (with_reducible assumption) | assumption)
              obtain ⟨ad106, e106, hx106_0, hx106_1, hx106_2, hx106_3, hx106_4, hx106_5, hx106_6⟩ := at_T32 HR0.out x7_1 p106 q106
              cases e106
              replace hx106_0 := (HB.out.cell (World.block_lt_of_cell? w _ hx106_0)).trans hx106_0
              replace hx106_1 := (HB.out.cell (World.block_lt_of_cell? w _ hx106_1)).trans hx106_1
              replace hx106_2 := (HB.out.cell (World.block_lt_of_cell? w _ hx106_2)).trans hx106_2
              replace hx106_3 := (HB.out.cell (World.block_lt_of_cell? w _ hx106_3)).trans hx106_3
              replace hx106_4 := (HB.out.cell (World.block_lt_of_cell? w _ hx106_4)).trans hx106_4
              replace hx106_5 := (HB.out.cell (World.block_lt_of_cell? w _ hx106_5)).trans hx106_5
              replace hx106_6 := (HB.out.cell (World.block_lt_of_cell? w _ hx106_6)).trans hx106_6
              replace p106 := eq_true p106
              replace q106 := eq_true q106
              try go_wp2_with (first | ((with_reducible refine gate_dst (N := 4) rfl ?_); (try (refine gate_guard (by rfl) ?_; dsimp only)); refine box_event ?hg (N := 4) ?hd (cs := #[.int .i64 0, .int .i64 0, .int .i64 0, .int .i64 0, .int .i64 0, .int .i64 0, .int .i64 0]) (t := 32) ?hr ?_; (case hd => rfl); (case hg => rfl); (case hr => first | (go_simp; done) | (go_simp; rfl)); intro gb107 hg w19 hbox hb; have n0_ := Aside0.mk (below_step (by repeat (first | (with_reducible first | exact HB.out | apply below_alloc | apply pw_below_drewN | apply below_drew1) | exact HB.out)) hb); have n1_ := Aside0.mk (hbox); have n2_ := Aside0.mk ((by rw [hg]; exact (below_size (by repeat (first | (with_reducible first | exact HB.out | apply below_alloc | apply pw_below_drewN | apply below_drew1) | exact HB.out))) : w.heap.size ≤ gb107)); have n3_ := Aside0.mk ((by rw [hg]; exact (below_size (by repeat (first | (with_reducible first | exact HB.out | apply below_alloc | apply pw_below_drewN | apply below_drew1) | exact HB.out))) : w.heap.size ≤ gb107)); clear HB; have HB := n0_; have BK107 := n1_; have GW107 := n2_; have GE107 := n3_; clear n0_ n1_ n2_ n3_; clear hb hbox hg; have hcz20_0 : w19.cell? ⟨gb107, 0, none⟩ = some (.int .i64 0) := (blk_cell BK107.out 0).trans rfl; have hcz20_1 : w19.cell? ⟨gb107, 1, none⟩ = some (.int .i64 0) := (blk_cell BK107.out 1).trans rfl; have hcz20_2 : w19.cell? ⟨gb107, 2, none⟩ = some (.int .i64 0) := (blk_cell BK107.out 2).trans rfl; have hcz20_3 : w19.cell? ⟨gb107, 3, none⟩ = some (.int .i64 0) := (blk_cell BK107.out 3).trans rfl; have hcz20_4 : w19.cell? ⟨gb107, 4, none⟩ = some (.int .i64 0) := (blk_cell BK107.out 4).trans rfl; have hcz20_5 : w19.cell? ⟨gb107, 5, none⟩ = some (.int .i64 0) := (blk_cell BK107.out 5).trans rfl; have hcz20_6 : w19.cell? ⟨gb107, 6, none⟩ = some (.int .i64 0) := (blk_cell BK107.out 6).trans rfl; have hfz20_0 := blk_frozen BK107.out 0; have hfz20_1 := blk_frozen BK107.out 1; have hfz20_2 := blk_frozen BK107.out 2; have hfz20_3 := blk_frozen BK107.out 3; have hfz20_4 := blk_frozen BK107.out 4; have hfz20_5 := blk_frozen BK107.out 5; have hfz20_6 := blk_frozen BK107.out 6))
              have n0_ : Aside0 ((((((((w19.setCell ⟨gb107, 0, none⟩ (.int .i64 ((rd_T32 l0 x7_1).f0))).setCell ⟨gb107, 1, none⟩ (.int .i64 ((rd_T32 l0 x7_1).f1))).setCell ⟨gb107, 2, none⟩ (.int .i64 ((rd_T32 l0 x7_1).f2))).setCell ⟨gb107, 3, none⟩ (.int .i64 ((rd_T32 l0 x7_1).f3.f0))).setCell ⟨gb107, 4, none⟩ (.int .i64 ((rd_T32 l0 x7_1).f3.f1))).setCell ⟨gb107, 5, none⟩ (.int .i64 ((rd_T32 l0 x7_1).f3.f2))).setCell ⟨gb107, 6, none⟩ (.int .i64 ((rd_T32 l0 x7_1).f4))).heap[gb107]? = some (.cells #[.int .i64 ((rd_T32 l0 x7_1).f0), .int .i64 ((rd_T32 l0 x7_1).f1), .int .i64 ((rd_T32 l0 x7_1).f2), .int .i64 ((rd_T32 l0 x7_1).f3.f0), .int .i64 ((rd_T32 l0 x7_1).f3.f1), .int .i64 ((rd_T32 l0 x7_1).f3.f2), .int .i64 ((rd_T32 l0 x7_1).f4)] 32 (0, 0))) := ⟨by (with_reducible repeat (first | refine blk_drewN ?_ _ | refine blk_drew ?_ | refine blk_alloc ?_ _)); refine blk_put (cs := #[.int .i64 ((rd_T32 l0 x7_1).f0), .int .i64 ((rd_T32 l0 x7_1).f1), .int .i64 ((rd_T32 l0 x7_1).f2), .int .i64 ((rd_T32 l0 x7_1).f3.f0), .int .i64 ((rd_T32 l0 x7_1).f3.f1), .int .i64 ((rd_T32 l0 x7_1).f3.f2), .int .i64 0]) ?_ 6 _ (by first | rfl | (simp only [gt_iff_lt, *]; rfl) | (simp [*]; done)); (with_reducible repeat (first | refine blk_drewN ?_ _ | refine blk_drew ?_ | refine blk_alloc ?_ _)); refine blk_put (cs := #[.int .i64 ((rd_T32 l0 x7_1).f0), .int .i64 ((rd_T32 l0 x7_1).f1), .int .i64 ((rd_T32 l0 x7_1).f2), .int .i64 ((rd_T32 l0 x7_1).f3.f0), .int .i64 ((rd_T32 l0 x7_1).f3.f1), .int .i64 0, .int .i64 0]) ?_ 5 _ (by first | rfl | (simp only [gt_iff_lt, *]; rfl) | (simp [*]; done)); (with_reducible repeat (first | refine blk_drewN ?_ _ | refine blk_drew ?_ | refine blk_alloc ?_ _)); refine blk_put (cs := #[.int .i64 ((rd_T32 l0 x7_1).f0), .int .i64 ((rd_T32 l0 x7_1).f1), .int .i64 ((rd_T32 l0 x7_1).f2), .int .i64 ((rd_T32 l0 x7_1).f3.f0), .int .i64 0, .int .i64 0, .int .i64 0]) ?_ 4 _ (by first | rfl | (simp only [gt_iff_lt, *]; rfl) | (simp [*]; done)); (with_reducible repeat (first | refine blk_drewN ?_ _ | refine blk_drew ?_ | refine blk_alloc ?_ _)); refine blk_put (cs := #[.int .i64 ((rd_T32 l0 x7_1).f0), .int .i64 ((rd_T32 l0 x7_1).f1), .int .i64 ((rd_T32 l0 x7_1).f2), .int .i64 0, .int .i64 0, .int .i64 0, .int .i64 0]) ?_ 3 _ (by first | rfl | (simp only [gt_iff_lt, *]; rfl) | (simp [*]; done)); (with_reducible repeat (first | refine blk_drewN ?_ _ | refine blk_drew ?_ | refine blk_alloc ?_ _)); refine blk_put (cs := #[.int .i64 ((rd_T32 l0 x7_1).f0), .int .i64 ((rd_T32 l0 x7_1).f1), .int .i64 0, .int .i64 0, .int .i64 0, .int .i64 0, .int .i64 0]) ?_ 2 _ (by first | rfl | (simp only [gt_iff_lt, *]; rfl) | (simp [*]; done)); (with_reducible repeat (first | refine blk_drewN ?_ _ | refine blk_drew ?_ | refine blk_alloc ?_ _)); refine blk_put (cs := #[.int .i64 ((rd_T32 l0 x7_1).f0), .int .i64 0, .int .i64 0, .int .i64 0, .int .i64 0, .int .i64 0, .int .i64 0]) ?_ 1 _ (by first | rfl | (simp only [gt_iff_lt, *]; rfl) | (simp [*]; done)); (with_reducible repeat (first | refine blk_drewN ?_ _ | refine blk_drew ?_ | refine blk_alloc ?_ _)); refine blk_put (cs := #[.int .i64 0, .int .i64 0, .int .i64 0, .int .i64 0, .int .i64 0, .int .i64 0, .int .i64 0]) ?_ 0 _ (by first | rfl | (simp only [gt_iff_lt, *]; rfl) | (simp [*]; done)); (with_reducible repeat (first | refine blk_drewN ?_ _ | refine blk_drew ?_ | refine blk_alloc ?_ _)); exact BK107.out⟩
              have n1_ : Aside0 (Below w.heap.size w (((((((w19.setCell ⟨gb107, 0, none⟩ (.int .i64 ((rd_T32 l0 x7_1).f0))).setCell ⟨gb107, 1, none⟩ (.int .i64 ((rd_T32 l0 x7_1).f1))).setCell ⟨gb107, 2, none⟩ (.int .i64 ((rd_T32 l0 x7_1).f2))).setCell ⟨gb107, 3, none⟩ (.int .i64 ((rd_T32 l0 x7_1).f3.f0))).setCell ⟨gb107, 4, none⟩ (.int .i64 ((rd_T32 l0 x7_1).f3.f1))).setCell ⟨gb107, 5, none⟩ (.int .i64 ((rd_T32 l0 x7_1).f3.f2))).setCell ⟨gb107, 6, none⟩ (.int .i64 ((rd_T32 l0 x7_1).f4)))) := ⟨by repeat (first | (with_reducible first | exact HB.out | apply below_alloc | apply pw_below_drewN | apply below_drew1 | refine below_set ?_ GE107.out) | exact HB.out)⟩
              (try clear BK107)
              (try clear HB)
              generalize (((((((w19.setCell ⟨gb107, 0, none⟩ (.int .i64 ((rd_T32 l0 x7_1).f0))).setCell ⟨gb107, 1, none⟩ (.int .i64 ((rd_T32 l0 x7_1).f1))).setCell ⟨gb107, 2, none⟩ (.int .i64 ((rd_T32 l0 x7_1).f2))).setCell ⟨gb107, 3, none⟩ (.int .i64 ((rd_T32 l0 x7_1).f3.f0))).setCell ⟨gb107, 4, none⟩ (.int .i64 ((rd_T32 l0 x7_1).f3.f1))).setCell ⟨gb107, 5, none⟩ (.int .i64 ((rd_T32 l0 x7_1).f3.f2))).setCell ⟨gb107, 6, none⟩ (.int .i64 ((rd_T32 l0 x7_1).f4))) = w21 at n0_ n1_ ⊢
              have BK107 := n0_
              have HB := n1_
              clear n0_ n1_
              have n0_ := Aside0.mk (blk_drew BK107.out)
              have n1_ := Aside0.mk (below_drew1 HB.out)
              clear BK107
              clear HB
              have BK107 := n0_
              have HB := n1_
              clear n0_ n1_
              refine start_ (n := 14) (S := fun w' => w'.cell? ⟨gb107, 0, none⟩ = some (.int .i64 ((rd_T32 l0 x7_1).f0)) ∧ w'.cell? ⟨gb107, 1, none⟩ = some (.int .i64 ((rd_T32 l0 x7_1).f1)) ∧ w'.cell? ⟨gb107, 2, none⟩ = some (.int .i64 ((rd_T32 l0 x7_1).f2)) ∧ w'.cell? ⟨gb107, 3, none⟩ = some (.int .i64 ((rd_T32 l0 x7_1).f3.f0)) ∧ w'.cell? ⟨gb107, 4, none⟩ = some (.int .i64 ((rd_T32 l0 x7_1).f3.f1)) ∧ w'.cell? ⟨gb107, 5, none⟩ = some (.int .i64 ((rd_T32 l0 x7_1).f3.f2)) ∧ w'.cell? ⟨gb107, 6, none⟩ = some (.int .i64 ((rd_T32 l0 x7_1).f4))) (ds := []) #[false, false, false, false, false, false, false, false, false, false, false, false, false, false] (by kernel_rfl) rfl rfl ⟨(blk_cell BK107.out 0).trans rfl, (blk_cell BK107.out 1).trans rfl, (blk_cell BK107.out 2).trans rfl, (blk_cell BK107.out 3).trans rfl, (blk_cell BK107.out 4).trans rfl, (blk_cell BK107.out 5).trans rfl, (blk_cell BK107.out 6).trans rfl⟩ (fun hHeld => ?_); refine with_tabW block_Fits.tab4 block_Fits.bits4 (fun HT_ HW_ => ?_)
              generalize w21.drew = w22 at BK107 HB hHeld ⊢
              refine take_ (i := 0) (N := some 12) (v := ?_) (a' := ?_) #[true, false, false, false, false, false, false, false, false, false, false, false, false, false] rfl rfl (take_ofW HT_.out HW_.out (by kernel_rfl)) (fun _ _ _ h => h) (Or.inl ⟨by rfl, ?_⟩) hHeld ?_ ?_
              rotate_left
              · rintro w' ⟨s0, s1, s2, s3, s4, s5, s6⟩
                go_simp
                with_reducible rfl
              rotate_left
              · simp only [Act.put, List.setIfInBounds_toArray, List.set_cons_zero, List.set_cons_succ, i64_w, i32_w]
                rfl
              refine one_ (i := 1) (N := some 13) #[true, true, false, false, false, false, false, false, false, false, false, false, false, false] rfl rfl (one_of HT_.out (by kernel_rfl)) (by decide) (fun K hK => ?_)
              refine goes_ Try.func25 (by kernel_rfl) rfl #[.agg #[.int .i64 ((rd_T32 l0 x7_1).f0), .int .i64 ((rd_T32 l0 x7_1).f1), .int .i64 ((rd_T32 l0 x7_1).f2), .int .i64 ((rd_T32 l0 x7_1).f3.f0), .int .i64 ((rd_T32 l0 x7_1).f3.f1), .int .i64 ((rd_T32 l0 x7_1).f3.f2), .int .i64 ((rd_T32 l0 x7_1).f4)]] (by rfl) rfl rfl (by (try simp only [List.map_toArray, List.map_cons, List.map_nil]); first | done | rfl | (simp only [List.length_drop, List.length_take]; rfl)) ?_
              with_reducible refine (schema_Fits.calls ((rd_T32 l0 x7_1).f0) ((rd_T32 l0 x7_1).f1) ((rd_T32 l0 x7_1).f2) ((rd_T32 l0 x7_1).f3.f0) ((rd_T32 l0 x7_1).f3.f1) ((rd_T32 l0 x7_1).f3.f2) ((rd_T32 l0 x7_1).f4) false _ A5.out).mono ?_
              rintro e w23 ⟨rfl, hb⟩
              refine ⟨_, rfl, ?_⟩
              have n0_ := Aside0.mk (blk_below (g := gb107) (o := .cells #[.int .i64 ((rd_T32 l0 x7_1).f0), .int .i64 ((rd_T32 l0 x7_1).f1), .int .i64 ((rd_T32 l0 x7_1).f2), .int .i64 ((rd_T32 l0 x7_1).f3.f0), .int .i64 ((rd_T32 l0 x7_1).f3.f1), .int .i64 ((rd_T32 l0 x7_1).f3.f2), .int .i64 ((rd_T32 l0 x7_1).f4)] 32 (0, 0)) (by (with_reducible repeat (first | refine blk_drewN ?_ _ | refine blk_drew ?_ | refine blk_alloc ?_ _)); exact BK107.out) hb)
              have n1_ := Aside0.mk (below_step (by repeat (first | (with_reducible first | exact HB.out | apply below_alloc | apply pw_below_drewN | apply below_drew1 | refine below_set ?_ GE107.out) | exact HB.out)) hb)
              clear BK107
              clear HB
              have BK107 := n0_
              have HB := n1_
              clear n0_ n1_
              (try clear hb)
              (try clear hb2)
              (try clear hk)
              (try clear hi)
              refine hK.out _ _ ⟨(blk_cell BK107.out 0).trans rfl, (blk_cell BK107.out 1).trans rfl, (blk_cell BK107.out 2).trans rfl, (blk_cell BK107.out 3).trans rfl, (blk_cell BK107.out 4).trans rfl, (blk_cell BK107.out 5).trans rfl, (blk_cell BK107.out 6).trans rfl⟩ (fun hHeld => ?_)
              clear hK K
              refine norm_ (a' := ?_) ?_ ?_
              rotate_left
              · show Act.put _ (some 13) _ = _
                simp only [Act.put, List.setIfInBounds_toArray, List.set_cons_zero, List.set_cons_succ, i64_w, i32_w]
                rfl
              refine pure_ (i := 2) (N := some 14) (v := ?_) (a' := ?_) #[true, true, true, false, false, false, false, false, false, false, false, false, false, false] rfl rfl (any_of HT_.out (by kernel_rfl)) (fun _ _ _ h => h) (Or.inl ⟨by rfl, ?_⟩) ?_ ?_
              rotate_left
              · intro w'
                go_simp
                with_reducible rfl
              rotate_left
              · simp only [Act.put, List.setIfInBounds_toArray, List.set_cons_zero, List.set_cons_succ, i64_w, i32_w]
                rfl
              refine pure_ (i := 3) (N := some 15) (v := ?_) (a' := ?_) #[true, true, true, true, false, false, false, false, false, false, false, false, false, false] rfl rfl (any_of HT_.out (by kernel_rfl)) (fun _ _ _ h => h) (Or.inl ⟨by rfl, ?_⟩) ?_ ?_
              rotate_left
              · intro w'
                go_simp
                with_reducible rfl
              rotate_left
              · simp only [Act.put, List.setIfInBounds_toArray, List.set_cons_zero, List.set_cons_succ, i64_w, i32_w]
                rfl
              refine pure_ (i := 4) (N := some 16) (v := undef) (a' := ?_) #[true, true, true, true, true, false, false, false, false, false, false, false, false, false] rfl rfl (any_of HT_.out (by kernel_rfl)) (fun _ _ _ h => h) (Or.inr ⟨by rfl, rfl⟩) ?_ ?_
              rotate_left
              · simp only [Act.put, List.setIfInBounds_toArray, List.set_cons_zero, List.set_cons_succ, i64_w, i32_w]
                rfl
              refine pure_ (i := 5) (N := some 17) (v := undef) (a' := ?_) #[true, true, true, true, true, true, false, false, false, false, false, false, false, false] rfl rfl (any_of HT_.out (by kernel_rfl)) (fun _ _ _ h => h) (Or.inr ⟨by rfl, rfl⟩) ?_ ?_
              rotate_left
              · simp only [Act.put, List.setIfInBounds_toArray, List.set_cons_zero, List.set_cons_succ, i64_w, i32_w]
                rfl
              refine pure_ (i := 6) (N := some 18) (v := undef) (a' := ?_) #[true, true, true, true, true, true, true, false, false, false, false, false, false, false] rfl rfl (any_of HT_.out (by kernel_rfl)) (fun _ _ _ h => h) (Or.inr ⟨by rfl, rfl⟩) ?_ ?_
              rotate_left
              · simp only [Act.put, List.setIfInBounds_toArray, List.set_cons_zero, List.set_cons_succ, i64_w, i32_w]
                rfl
              refine pure_ (i := 7) (N := some 19) (v := undef) (a' := ?_) #[true, true, true, true, true, true, true, true, false, false, false, false, false, false] rfl rfl (any_of HT_.out (by kernel_rfl)) (fun _ _ _ h => h) (Or.inr ⟨by rfl, rfl⟩) ?_ ?_
              rotate_left
              · simp only [Act.put, List.setIfInBounds_toArray, List.set_cons_zero, List.set_cons_succ, i64_w, i32_w]
                rfl
              refine pure_ (i := 8) (N := some 20) (v := undef) (a' := ?_) #[true, true, true, true, true, true, true, true, true, false, false, false, false, false] rfl rfl (any_of HT_.out (by kernel_rfl)) (fun _ _ _ h => h) (Or.inr ⟨by rfl, rfl⟩) ?_ ?_
              rotate_left
              · simp only [Act.put, List.setIfInBounds_toArray, List.set_cons_zero, List.set_cons_succ, i64_w, i32_w]
                rfl
              refine pure_ (i := 9) (N := some 21) (v := undef) (a' := ?_) #[true, true, true, true, true, true, true, true, true, true, false, false, false, false] rfl rfl (any_of HT_.out (by kernel_rfl)) (fun _ _ _ h => h) (Or.inr ⟨by rfl, rfl⟩) ?_ ?_
              rotate_left
              · simp only [Act.put, List.setIfInBounds_toArray, List.set_cons_zero, List.set_cons_succ, i64_w, i32_w]
                rfl
              refine pure_ (i := 10) (N := some 22) (v := undef) (a' := ?_) #[true, true, true, true, true, true, true, true, true, true, true, false, false, false] rfl rfl (any_of HT_.out (by kernel_rfl)) (fun _ _ _ h => h) (Or.inr ⟨by rfl, rfl⟩) ?_ ?_
              rotate_left
              · simp only [Act.put, List.setIfInBounds_toArray, List.set_cons_zero, List.set_cons_succ, i64_w, i32_w]
                rfl
              refine pure_ (i := 11) (N := some 23) (v := undef) (a' := ?_) #[true, true, true, true, true, true, true, true, true, true, true, true, false, false] rfl rfl (any_of HT_.out (by kernel_rfl)) (fun _ _ _ h => h) (Or.inr ⟨by rfl, rfl⟩) ?_ ?_
              rotate_left
              · simp only [Act.put, List.setIfInBounds_toArray, List.set_cons_zero, List.set_cons_succ, i64_w, i32_w]
                rfl
              refine pure_ (i := 12) (N := some 24) (v := undef) (a' := ?_) #[true, true, true, true, true, true, true, true, true, true, true, true, true, false] rfl rfl (any_of HT_.out (by kernel_rfl)) (fun _ _ _ h => h) (Or.inr ⟨by rfl, rfl⟩) ?_ ?_
              rotate_left
              · simp only [Act.put, List.setIfInBounds_toArray, List.set_cons_zero, List.set_cons_succ, i64_w, i32_w]
                rfl
              refine pure_ (i := 13) (N := some 25) (v := ?_) (a' := ?_) #[true, true, true, true, true, true, true, true, true, true, true, true, true, true] rfl rfl (any_of HT_.out (by kernel_rfl)) (fun _ _ _ h => h) (Or.inl ⟨by rfl, ?_⟩) ?_ ?_
              rotate_left
              · intro w'
                go_simp
                with_reducible rfl
              rotate_left
              · simp only [Act.put, List.setIfInBounds_toArray, List.set_cons_zero, List.set_cons_succ, i64_w, i32_w]
                rfl
              refine done_ (done_of HT_.out (by kernel_rfl)) ?_
              try go_wp2
              go_ret
              exact ⟨by first | rfl | (simp [errW_none, errW_some] <;> rfl) | (simp [*, errW_none, errW_some] <;> rfl), by repeat (first | (with_reducible first | exact HB.out | apply below_alloc | apply pw_below_drewN | apply below_drew1 | refine below_set ?_ GE107.out) | exact HB.out)⟩
          · rw [if_neg c4] at H
            exact absurd H (by simp)
        · rw [if_neg c3] at H
          exact absurd H (by simp)
      · rw [if_neg c2] at H
        have c2b0 : decide (x7_1 < (l0.length : Int)) = false := decide_eq_false c2
        clear c2
        by_cases c24 : (l0.length : Int) > 0
        · rw [if_pos c24] at H
          have c24b0 : decide (0 < (l0.length : Int)) = true := decide_eq_true c24
          have c24b1 : decide (0 < l0.length) = true := decide_eq_true (by omega)
          clear c24
          obtain rfl := Option.some.inj H
          go_wp2
          go_ret
          exact ⟨by first | rfl | (simp [errW_none, errW_some] <;> rfl) | (simp [*, errW_none, errW_some] <;> rfl), by repeat (first | (with_reducible first | exact HB.out | apply below_alloc | apply pw_below_drewN | apply below_drew1) | exact HB.out)⟩
        · rw [if_neg c24] at H
          have c24b0 : decide (0 < (l0.length : Int)) = false := decide_eq_false c24
          have c24b1 : decide (0 < l0.length) = false := decide_eq_false (by omega)
          clear c24
          obtain rfl := Option.some.inj H
          go_wp2
          go_ret
          exact ⟨by first | rfl | (simp [errW_none, errW_some] <;> rfl) | (simp [*, errW_none, errW_some] <;> rfl), by repeat (first | (with_reducible first | exact HB.out | apply below_alloc | apply pw_below_drewN | apply below_drew1) | exact HB.out)⟩

end Go.Proofs.Ytecddphmnoegdaa.QBlockDecodes
