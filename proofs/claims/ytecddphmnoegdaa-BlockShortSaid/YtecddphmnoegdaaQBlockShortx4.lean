/- What this text proves: the functions that a law reaches, as functions on numbers and lists, and that Go's come to their answers; no condition. Written by the kit's print program, turned (wip/tools/patch_print.py). -/
import Derived.Test.YtecddphmnoegdaaQBlockShortx0
import Derived.Test.YtecddphmnoegdaaQBlockShortx3
namespace Go.Proofs.Ytecddphmnoegdaa.QBlockShort
open Go.RowKit Go.Proofs.YtecddphmnoegdaaW.PrintWords Go.Proofs.YtecddphmnoegdaaW.PrintLast Go.Proofs.YtecddphmnoegdaaW.PrintMore
attribute [local go_sem] max2_int min2_int max_two min_two max_three min_three max_four min_four   -- for this text's walks alone
set_option linter.unusedVariables false
set_option linter.unusedSimpArgs false

/-! ### ferrymanlaw07_BlockShort: function 4 -/
mutual
def ferrymanlaw07_BlockShort.j0 : Nat → Int → Int → Int → Bool → Bool → Option (Bool)
  | 0, _, _, _, _, _ => none
  | k + 1, x0, x1, x2, x7, x41 => if x41 = true then (some x7) else (ferrymanlaw07_BlockShort.l0 k x0 x1 x2 ([] : List (S32)) 0)
def ferrymanlaw07_BlockShort.l0 : Nat → Int → Int → Int → List (S32) → Int → Option (Bool)
  | 0, _, _, _, _, _ => none
  | k + 1, x0, x1, x2, x8, x9 => if x9 < x1 then (if x8.length < 2513169434916 then (ferrymanlaw07_BlockShort.l0 k x0 x1 x2 (x8 ++ [(⟨wrap64 (x2 + x9), x0, wrap64 (1 + x9), (⟨0, 0, 0⟩ : S30), 0⟩ : S32)]) (wrap64 (x9 + 1))) else (none)) else ((block_Encode.f k x8).bind fun bt145 => (if 1 ≤ (x8.length : Int) then ((block_Encode.f k (x8.take 1)).bind fun bt153 => (if x1 > 127 then (if bt145.2 = 0 then (if bt153.2 = 0 then (some ((bt145.1.length : Int) == (wrap64 ((wrap64 ((bt153.1.length : Int) + 1)) + (wrap64 (6 * (wrap64 (x1 - 1)))))))) else (some false)) else (some false)) else (if bt145.2 = 0 then (if bt153.2 = 0 then (some ((bt145.1.length : Int) == (wrap64 ((wrap64 ((bt153.1.length : Int) + 0)) + (wrap64 (6 * (wrap64 (x1 - 1)))))))) else (some false)) else (some false)))) else (none)))
end
def ferrymanlaw07_BlockShort.f (k : Nat) (a0 : Int) (a1 : Int) (a2 : Int) : Option (Bool) := (ferrymanlaw07_awake.f k).bind fun t141 => (if t141 = true then (if a0 < 0 then (ferrymanlaw07_BlockShort.j0 k a0 a1 a2 t141 true) else (if a0 > 64 then (ferrymanlaw07_BlockShort.j0 k a0 a1 a2 t141 true) else (if a1 < 1 then (ferrymanlaw07_BlockShort.j0 k a0 a1 a2 t141 true) else (if a1 > 200 then (ferrymanlaw07_BlockShort.j0 k a0 a1 a2 t141 true) else (if a2 < 0 then (ferrymanlaw07_BlockShort.j0 k a0 a1 a2 t141 true) else (ferrymanlaw07_BlockShort.j0 k a0 a1 a2 t141 (decide (a2 > 1000)))))))) else (ferrymanlaw07_BlockShort.j0 k a0 a1 a2 t141 true))
theorem ferrymanlaw07_BlockShort.mono_l : ∀ k, (∀ y0 y1 y2 y3 y4, LeO (ferrymanlaw07_BlockShort.j0 k y0 y1 y2 y3 y4) (ferrymanlaw07_BlockShort.j0 (k + 1) y0 y1 y2 y3 y4)) ∧ (∀ y0 y1 y2 y3 y4, LeO (ferrymanlaw07_BlockShort.l0 k y0 y1 y2 y3 y4) (ferrymanlaw07_BlockShort.l0 (k + 1) y0 y1 y2 y3 y4))
  | 0 => ⟨fun _ _ _ _ _ r h => by simp [ferrymanlaw07_BlockShort.j0] at h, fun _ _ _ _ _ r h => by simp [ferrymanlaw07_BlockShort.l0] at h⟩
  | k + 1 => by
    obtain ⟨ih0, ih1⟩ := ferrymanlaw07_BlockShort.mono_l k
    refine ⟨?_, ?_⟩
    · intro y0 y1 y2 y3 y4
      unfold ferrymanlaw07_BlockShort.j0
      repeat' first
      | (with_reducible exact ih0 _ _ _ _ _)
      | (with_reducible exact ih1 _ _ _ _ _)
      | (with_reducible exact block_Encode.mono _ _)
      | (with_reducible exact ferrymanlaw07_awake.mono _)
      | (with_reducible exact LeO.refl _)
      | (with_reducible exact LeO.none _)
      | (with_reducible refine LeO.ite ?_ ?_)
      | (with_reducible refine LeO.bind ?_ (fun _ => ?_))
      | exact ih0 _ _ _ _ _
      | exact ih1 _ _ _ _ _
      | exact block_Encode.mono _ _
      | exact ferrymanlaw07_awake.mono _
      | exact LeO.none _
      | refine LeO.ite ?_ ?_
      | refine LeO.bind ?_ (fun _ => ?_)
    · intro y0 y1 y2 y3 y4
      unfold ferrymanlaw07_BlockShort.l0
      repeat' first
      | (with_reducible exact ih0 _ _ _ _ _)
      | (with_reducible exact ih1 _ _ _ _ _)
      | (with_reducible exact block_Encode.mono _ _)
      | (with_reducible exact ferrymanlaw07_awake.mono _)
      | (with_reducible exact LeO.refl _)
      | (with_reducible exact LeO.none _)
      | (with_reducible refine LeO.ite ?_ ?_)
      | (with_reducible refine LeO.bind ?_ (fun _ => ?_))
      | exact ih0 _ _ _ _ _
      | exact ih1 _ _ _ _ _
      | exact block_Encode.mono _ _
      | exact ferrymanlaw07_awake.mono _
      | exact LeO.none _
      | refine LeO.ite ?_ ?_
      | refine LeO.bind ?_ (fun _ => ?_)
theorem ferrymanlaw07_BlockShort.mono : ∀ a0 a1 a2 k, LeO (ferrymanlaw07_BlockShort.f k a0 a1 a2) (ferrymanlaw07_BlockShort.f (k + 1) a0 a1 a2) := by
  intro a0 a1 a2 k
  obtain ⟨ih0, ih1⟩ := ferrymanlaw07_BlockShort.mono_l k
  unfold ferrymanlaw07_BlockShort.f
  repeat' first
      | (with_reducible exact ih0 _ _ _ _ _)
      | (with_reducible exact ih1 _ _ _ _ _)
      | (with_reducible exact block_Encode.mono _ _)
      | (with_reducible exact ferrymanlaw07_awake.mono _)
      | (with_reducible exact LeO.refl _)
      | (with_reducible exact LeO.none _)
      | (with_reducible refine LeO.ite ?_ ?_)
      | (with_reducible refine LeO.bind ?_ (fun _ => ?_))
      | exact ih0 _ _ _ _ _
      | exact ih1 _ _ _ _ _
      | exact block_Encode.mono _ _
      | exact ferrymanlaw07_awake.mono _
      | exact LeO.none _
      | refine LeO.ite ?_ ?_
      | refine LeO.bind ?_ (fun _ => ?_)
set_option maxHeartbeats 8000000 in
set_option maxRecDepth 100000 in
theorem ferrymanlaw07_BlockShort.calls (k : Nat) (a0 : Int) (a1 : Int) (a2 : Int) (r : Bool) (w : World) (h : ferrymanlaw07_BlockShort.f k a0 a1 a2 = some r) :
    Calls Try.prog 4 #[.int .i64 a0, .int .i64 a1, .int .i64 a2] w fun e w' => e = .returned (.bool r) ∧ Below w.heap.size w w' := by
  have hu32 := Try.underlying32
  have HB := Aside0.mk (Below.refl w.heap.size w)
  have H : ((ferrymanlaw07_awake.f k).bind fun t141 => (if t141 = true then (if a0 < 0 then (ferrymanlaw07_BlockShort.j0 k a0 a1 a2 t141 true) else (if a0 > 64 then (ferrymanlaw07_BlockShort.j0 k a0 a1 a2 t141 true) else (if a1 < 1 then (ferrymanlaw07_BlockShort.j0 k a0 a1 a2 t141 true) else (if a1 > 200 then (ferrymanlaw07_BlockShort.j0 k a0 a1 a2 t141 true) else (if a2 < 0 then (ferrymanlaw07_BlockShort.j0 k a0 a1 a2 t141 true) else (ferrymanlaw07_BlockShort.j0 k a0 a1 a2 t141 (decide (a2 > 1000)))))))) else (ferrymanlaw07_BlockShort.j0 k a0 a1 a2 t141 true))) = some r := h
  clear h
  replace H := Option.bind_eq_some_iff.mp H
  obtain ⟨t141, A40, H⟩ := H
  replace H : (if t141 = true then (if a0 < 0 then (ferrymanlaw07_BlockShort.j0 k a0 a1 a2 t141 true) else (if a0 > 64 then (ferrymanlaw07_BlockShort.j0 k a0 a1 a2 t141 true) else (if a1 < 1 then (ferrymanlaw07_BlockShort.j0 k a0 a1 a2 t141 true) else (if a1 > 200 then (ferrymanlaw07_BlockShort.j0 k a0 a1 a2 t141 true) else (if a2 < 0 then (ferrymanlaw07_BlockShort.j0 k a0 a1 a2 t141 true) else (ferrymanlaw07_BlockShort.j0 k a0 a1 a2 t141 (decide (a2 > 1000)))))))) else (ferrymanlaw07_BlockShort.j0 k a0 a1 a2 t141 true)) = some r := H
  have A4 := Aside0.mk A40
  clear A40
  have HC5 := Aside0.mk H
  clear H
  go_enter Try.func4, Try.ntmps4
  go_upto_region 2 with (first | ((with_reducible refine gate_callee (f := 10) rfl ?_); refine goesL_ (some 15) rfl rfl Try.func10 (by kernel_rfl) rfl #[] rfl (by (try simp only [List.map_toArray, List.map_cons, List.map_nil]); first | done | rfl | (simp only [List.length_drop, List.length_take]; rfl)) ?_; (with_reducible refine (ferrymanlaw07_awake.calls k  t141 _ A4.out).mono ?_); rintro e w6 ⟨rfl, hb⟩; refine ⟨_, rfl, ?_⟩; have n0_ := Aside0.mk (below_step (by repeat (first | (with_reducible first | exact HB.out | apply below_alloc | apply pw_below_drewN | apply below_drew1) | exact HB.out)) hb); clear HB; have HB := n0_; clear n0_; (try clear hb); (try clear hb2); (try clear hk); (try clear hi)))
  (try simp only [Act.put, List.setIfInBounds_toArray, List.set_cons_zero, List.set_cons_succ])
  go_cut [41] (fun v41 wc => ∃ (kq : Nat) (x41_4 : Bool), v41 = .bool x41_4 ∧ Aside0 (ferrymanlaw07_BlockShort.j0 kq a0 a1 a2 t141 x41_4 = some r) ∧ Aside0 (kq ≤ k) ∧ Aside0 (Below w.heap.size w wc))
  case first =>
    have H := HC5.out
    clear HC5
    by_cases c7 : t141 = true
    · subst c7
      have H1 : (if a0 < 0 then (ferrymanlaw07_BlockShort.j0 k a0 a1 a2 true true) else (if a0 > 64 then (ferrymanlaw07_BlockShort.j0 k a0 a1 a2 true true) else (if a1 < 1 then (ferrymanlaw07_BlockShort.j0 k a0 a1 a2 true true) else (if a1 > 200 then (ferrymanlaw07_BlockShort.j0 k a0 a1 a2 true true) else (if a2 < 0 then (ferrymanlaw07_BlockShort.j0 k a0 a1 a2 true true) else (ferrymanlaw07_BlockShort.j0 k a0 a1 a2 true (decide (a2 > 1000)))))))) = some r := by rw [if_pos rfl] at H; exact H
      clear H
      have H := H1
      clear H1
      by_cases c8 : a0 < 0
      · rw [if_pos c8] at H
        have c8b0 : decide (a0 < 0) = true := decide_eq_true c8
        clear c8
        (first | rw [c8b0] | rw [c8b1] | (simp only [i64_w, i32_w]; rw [c8b0]) | skip)
        have H' := Aside0.mk H
        clear H
        go_wp2
        go_meet
        case rel => exact ⟨_, (true), (by first | rfl | (simp; done) | (simp [*]; done)), H', ⟨by first | omega | exact Nat.le_refl _⟩, ⟨by repeat (first | (with_reducible first | exact HB.out | apply below_alloc | apply pw_below_drewN | apply below_drew1) | exact HB.out)⟩⟩
      · rw [if_neg c8] at H
        have c8b0 : decide (a0 < 0) = false := decide_eq_false c8
        clear c8
        (first | rw [c8b0] | rw [c8b1] | (simp only [i64_w, i32_w]; rw [c8b0]) | skip)
        by_cases c9 : a0 > 64
        · rw [if_pos c9] at H
          have c9b0 : decide (64 < a0) = true := decide_eq_true c9
          clear c9
          have H' := Aside0.mk H
          clear H
          go_wp2
          go_meet
          case rel => exact ⟨_, (true), (by first | rfl | (simp; done) | (simp [*]; done)), H', ⟨by first | omega | exact Nat.le_refl _⟩, ⟨by repeat (first | (with_reducible first | exact HB.out | apply below_alloc | apply pw_below_drewN | apply below_drew1) | exact HB.out)⟩⟩
        · rw [if_neg c9] at H
          have c9b0 : decide (64 < a0) = false := decide_eq_false c9
          clear c9
          by_cases c10 : a1 < 1
          · rw [if_pos c10] at H
            have c10b0 : decide (a1 < 1) = true := decide_eq_true c10
            clear c10
            have H' := Aside0.mk H
            clear H
            go_wp2
            go_meet
            case rel => exact ⟨_, (true), (by first | rfl | (simp; done) | (simp [*]; done)), H', ⟨by first | omega | exact Nat.le_refl _⟩, ⟨by repeat (first | (with_reducible first | exact HB.out | apply below_alloc | apply pw_below_drewN | apply below_drew1) | exact HB.out)⟩⟩
          · rw [if_neg c10] at H
            have c10b0 : decide (a1 < 1) = false := decide_eq_false c10
            clear c10
            by_cases c11 : a1 > 200
            · rw [if_pos c11] at H
              have c11b0 : decide (200 < a1) = true := decide_eq_true c11
              clear c11
              have H' := Aside0.mk H
              clear H
              go_wp2
              go_meet
              case rel => exact ⟨_, (true), (by first | rfl | (simp; done) | (simp [*]; done)), H', ⟨by first | omega | exact Nat.le_refl _⟩, ⟨by repeat (first | (with_reducible first | exact HB.out | apply below_alloc | apply pw_below_drewN | apply below_drew1) | exact HB.out)⟩⟩
            · rw [if_neg c11] at H
              have c11b0 : decide (200 < a1) = false := decide_eq_false c11
              clear c11
              by_cases c12 : a2 < 0
              · rw [if_pos c12] at H
                have c12b0 : decide (a2 < 0) = true := decide_eq_true c12
                clear c12
                have H' := Aside0.mk H
                clear H
                go_wp2
                go_meet
                case rel => exact ⟨_, (true), (by first | rfl | (simp; done) | (simp [*]; done)), H', ⟨by first | omega | exact Nat.le_refl _⟩, ⟨by repeat (first | (with_reducible first | exact HB.out | apply below_alloc | apply pw_below_drewN | apply below_drew1) | exact HB.out)⟩⟩
              · rw [if_neg c12] at H
                have c12b0 : decide (a2 < 0) = false := decide_eq_false c12
                clear c12
                have H' := Aside0.mk H
                clear H
                go_wp2
                go_meet
                case rel => exact ⟨_, (decide (a2 > 1000)), (by first | rfl | (simp; done) | (simp [*]; done)), H', ⟨by first | omega | exact Nat.le_refl _⟩, ⟨by repeat (first | (with_reducible first | exact HB.out | apply below_alloc | apply pw_below_drewN | apply below_drew1) | exact HB.out)⟩⟩
    · replace c7 := Bool.eq_false_iff.mpr c7
      subst c7
      have H1 : (ferrymanlaw07_BlockShort.j0 k a0 a1 a2 false true) = some r := by rw [if_neg (show ¬ (false = true) by decide)] at H; exact H
      clear H
      have H := H1
      clear H1
      have H' := Aside0.mk H
      clear H
      go_wp2
      go_meet
      case rel => exact ⟨_, (true), (by first | rfl | (simp; done) | (simp [*]; done)), H', ⟨by first | omega | exact Nat.le_refl _⟩, ⟨by repeat (first | (with_reducible first | exact HB.out | apply below_alloc | apply pw_below_drewN | apply below_drew1) | exact HB.out)⟩⟩
  case rest =>
    clear HC5
    try clear c1
    try clear p2
    try clear c4
    try clear c7
    try clear c8
    try clear c8b0
    try clear c9
    try clear c9b0
    try clear c10
    try clear c10b0
    try clear c11
    try clear c11b0
    try clear c12
    try clear c12b0
    obtain ⟨kq, x41_4, rfl, HA, HJ4, HB⟩ := hcut
    cases kq with
    | zero => exact absurd HA.out (by simp [ferrymanlaw07_BlockShort.j0])
    | succ kj4 =>
      have H := HA.out
      clear HA
      simp only [ferrymanlaw07_BlockShort.j0] at H
      by_cases c13 : x41_4 = true
      · subst c13
        have H1 : (some t141) = some r := by rw [if_pos rfl] at H; exact H
        clear H
        have H := H1
        clear H1
        obtain rfl := Option.some.inj H
        go_wp2
        go_ret
        exact ⟨by first | rfl | (simp [errW_none, errW_some] <;> rfl) | (simp [*, errW_none, errW_some] <;> rfl), by repeat (first | (with_reducible first | exact HB.out | apply below_alloc | apply pw_below_drewN | apply below_drew1) | exact HB.out)⟩
      · replace c13 := Bool.eq_false_iff.mpr c13
        subst c13
        have H1 : (ferrymanlaw07_BlockShort.l0 kj4 a0 a1 a2 ([] : List (S32)) 0) = some r := by rw [if_neg (show ¬ (false = true) by decide)] at H; exact H
        clear H
        have H := H1
        clear H1
        have H' := Aside0.mk H
        clear H
        go_wp2
        go_loopg [8, 9] kj4 (fun kq v8 v9 w' => ∃ (x8_2 : List (S32)) (x9_2 : Int), v9 = .int .i64 x9_2 ∧ Aside0 (ferrymanlaw07_BlockShort.l0 kq a0 a1 a2 x8_2 x9_2 = some r) ∧ Aside0 (kq ≤ kj4) ∧ Aside0 (Kd.R k32 32 w' w.heap.size (fun _ => True) v8 x8_2) ∧ Aside0 (Below w.heap.size w w'))
        case atStart => exact ⟨(([] : List (S32))), (0), (by first | rfl | (simp; done) | (simp [*]; done)), H', ⟨Nat.le_refl _⟩, ⟨by first | exact Kd.R_nil _ _ _ _ _ | exact Kd.N_nil _ _ _ _ _ | exact Kd.V_nil _ _ _ _ _ | exact Kd.Q_nil _ _ _ _ _ | exact Kd.S_nil _ _ _ _ _⟩, ⟨by repeat (first | (with_reducible first | exact HB.out | apply below_alloc | apply pw_below_drewN | apply below_drew1) | exact HB.out)⟩⟩
        case round =>
          clear H'
          try clear c1
          try clear p2
          try clear c4
          try clear c7
          try clear c8
          try clear c8b0
          try clear c9
          try clear c9b0
          try clear c10
          try clear c10b0
          try clear c11
          try clear c11b0
          try clear c12
          try clear c12b0
          try clear c13
          try clear p2
          obtain ⟨x8_2, x9_2, rfl, HA, HK2, HO_8, HB⟩ := hrel
          cases gk with
          | zero => exact absurd HA.out (by simp [ferrymanlaw07_BlockShort.l0])
          | succ k2 =>
            have H := HA.out
            clear HA
            simp only [ferrymanlaw07_BlockShort.l0] at H
            by_cases c14 : x9_2 < a1
            · rw [if_pos c14] at H
              have c14b0 : decide (x9_2 < a1) = true := decide_eq_true c14
              clear c14
              by_cases c15 : x8_2.length < 2513169434916
              · rw [if_pos c15] at H
                have LMc15 := Aside0.mk c15
                clear c15
                obtain ⟨y142, hy142⟩ : ∃ y_ : List (S32), y_ = (x8_2 ++ [(⟨wrap64 (a2 + x9_2), a0, wrap64 (1 + x9_2), (⟨0, 0, 0⟩ : S30), 0⟩ : S32)]) := ⟨_, rfl⟩
                replace H : (ferrymanlaw07_BlockShort.l0 k2 a0 a1 a2 y142 (wrap64 (x9_2 + 1))) = some r := by first | (rw [hy142]; with_reducible exact H) | (have H2_ := (Option.bind_some _ _).symm.trans H; rw [hy142]; with_reducible exact H2_) | (have H2_ := (Option.bind_some _ _).symm.trans H; with_reducible exact H2_) | with_reducible exact H | (rw [hy142]; exact H) | exact H
                have Ny142 := Aside0.mk hy142
                clear hy142
                have H' := Aside0.mk H
                clear H
                go_wp2_with (first | ((with_reducible refine gate_builtin (b := .append) (xs := #[.tmp 48, .tmp 56]) rfl ?_); (try (refine gate_guard (by rfl) ?_; dsimp only)); at_builtin; refine Kd.R_append k32 (w0 := w) w.heap.size rfl (.tmp 48) (.tmp 56) 22 32 (.agg #[(.int .i64 0), (.int .i64 0), (.int .i64 0), (.int .i64 0), (.int .i64 0), (.int .i64 0), (.int .i64 0)]) 56 rfl Try.underlying22 info32 rfl (by decide) (by omega) u8 x8_2 (⟨wrap64 (a2 + x9_2), a0, wrap64 (1 + x9_2), (⟨0, 0, 0⟩ : S30), 0⟩ : S32) [.int .i64 (wrap64 (a2 + x9_2)), .int .i64 a0, .int .i64 (wrap64 (1 + x9_2)), .int .i64 0, .int .i64 0, .int .i64 0, .int .i64 0] (fun _ => True) (fun _ => False) rfl rfl ?aP (fun _ hk => hk.elim) ?aF ?aO ?aB ?aS ?aL ?_; (case aP => exact k32_mkM _ _ _ (⟨wrap64 (a2 + x9_2), a0, wrap64 (1 + x9_2), (⟨0, 0, 0⟩ : S30), 0⟩ : S32)); (case aB => exact (by repeat (first | (with_reducible first | exact HB.out | apply below_alloc | apply pw_below_drewN | apply below_drew1) | exact HB.out))); (case aF => exact (fun _ _ => trivial)); (case aO => exact (by (with_reducible repeat (first | apply Kd.R_alloc | apply Kd.R_drewN | apply Kd.R_drew)); exact HO_8.out)); (case aS => exact (below_size (by repeat (first | (with_reducible first | exact HB.out | apply below_alloc | apply pw_below_drewN | apply below_drew1) | exact HB.out)))); (case aL => have := LMc15.out; omega); intro v143 w16 ho hb hg hat; rw [← Ny142.out] at ho; have n0_ := Aside0.mk (hb); have n1_ := Aside0.mk (ho); clear HB; clear HO_8; have HB := n0_; have HO144 := n1_; clear n0_ n1_; clear ho hb hg hat))
                go_roundg k2
                case measure => have := HJ4.out; have := HK2.out; omega
                case rel => exact ⟨(y142), (wrap64 (x9_2 + 1)), (by first | rfl | (simp; done) | (simp [*]; done)), H', ⟨by have := HJ4.out; have := HK2.out; omega⟩, ⟨by (with_reducible repeat (first | apply Kd.R_alloc | apply Kd.R_drewN | apply Kd.R_drew)); exact HO144.out⟩, ⟨by repeat (first | (with_reducible first | exact HB.out | apply below_alloc | apply pw_below_drewN | apply below_drew1) | exact HB.out)⟩⟩
              · rw [if_neg c15] at H
                exact absurd H (by simp)
            · rw [if_neg c14] at H
              have c14b0 : decide (x9_2 < a1) = false := decide_eq_false c14
              clear c14
              replace H := Option.bind_eq_some_iff.mp H
              obtain ⟨⟨t145, t146⟩, A170, H⟩ := H
              replace H : (if 1 ≤ (x8_2.length : Int) then ((block_Encode.f k2 (x8_2.take 1)).bind fun bt153 => (if a1 > 127 then (if t146 = 0 then (if bt153.2 = 0 then (some ((t145.length : Int) == (wrap64 ((wrap64 ((bt153.1.length : Int) + 1)) + (wrap64 (6 * (wrap64 (a1 - 1)))))))) else (some false)) else (some false)) else (if t146 = 0 then (if bt153.2 = 0 then (some ((t145.length : Int) == (wrap64 ((wrap64 ((bt153.1.length : Int) + 0)) + (wrap64 (6 * (wrap64 (a1 - 1)))))))) else (some false)) else (some false)))) else (none)) = some r := H
              have A17 := Aside0.mk A170
              clear A170
              by_cases c18 : 1 ≤ (x8_2.length : Int)
              · rw [if_pos c18] at H
                have c18b0 := eq_true c18
                have c18b1 : decide (1 ≤ (x8_2.length : Int)) = true := decide_eq_true c18
                clear c18
                obtain ⟨y149, hy149⟩ : ∃ y_ : List (S32), y_ = (x8_2.take 1) := ⟨_, rfl⟩
                replace H : ((block_Encode.f k2 y149).bind fun bt153 => (if a1 > 127 then (if t146 = 0 then (if bt153.2 = 0 then (some ((t145.length : Int) == (wrap64 ((wrap64 ((bt153.1.length : Int) + 1)) + (wrap64 (6 * (wrap64 (a1 - 1)))))))) else (some false)) else (some false)) else (if t146 = 0 then (if bt153.2 = 0 then (some ((t145.length : Int) == (wrap64 ((wrap64 ((bt153.1.length : Int) + 0)) + (wrap64 (6 * (wrap64 (a1 - 1)))))))) else (some false)) else (some false)))) = some r := by first | (rw [hy149]; with_reducible exact H) | (have H2_ := (Option.bind_some _ _).symm.trans H; rw [hy149]; with_reducible exact H2_) | (have H2_ := (Option.bind_some _ _).symm.trans H; with_reducible exact H2_) | with_reducible exact H | (rw [hy149]; exact H) | exact H
                have Ny149 := Aside0.mk hy149
                clear hy149
                replace H := Option.bind_eq_some_iff.mp H
                obtain ⟨⟨t153, t154⟩, A190, H⟩ := H
                replace H : (if a1 > 127 then (if t146 = 0 then (if t154 = 0 then (some ((t145.length : Int) == (wrap64 ((wrap64 ((t153.length : Int) + 1)) + (wrap64 (6 * (wrap64 (a1 - 1)))))))) else (some false)) else (some false)) else (if t146 = 0 then (if t154 = 0 then (some ((t145.length : Int) == (wrap64 ((wrap64 ((t153.length : Int) + 0)) + (wrap64 (6 * (wrap64 (a1 - 1)))))))) else (some false)) else (some false))) = some r := H
                have A19 := Aside0.mk A190
                clear A190
                by_cases c20 : a1 > 127
                · rw [if_pos c20] at H
                  have c20b0 : decide (127 < a1) = true := decide_eq_true c20
                  clear c20
                  by_cases c21 : t146 = 0
                  · rw [if_pos c21] at H
                    have c21b0 : (t146 == 0) = true := beq_iff_eq.mpr c21
                    have c21b1 : (t146 != 0) = false := bne_eq_false_iff_eq.mpr c21
                    clear c21
                    by_cases c22 : t154 = 0
                    · rw [if_pos c22] at H
                      have c22b0 : (t154 == 0) = true := beq_iff_eq.mpr c22
                      have c22b1 : (t154 != 0) = false := bne_eq_false_iff_eq.mpr c22
                      clear c22
                      obtain rfl := Option.some.inj H
                      obtain ⟨Ao23, co23, eo23⟩ := Kd.R_slice HO_8.out
                      subst eo23
                      have tok1_ : True := trivial; have tok2_ : True := trivial
                      go_wp2_with (first | ((with_reducible refine gate_callee (f := 11) rfl ?_); clear tok1_; refine goesL_ (some 60) rfl rfl Try.func11 (by kernel_rfl) rfl #[.slice Ao23 x8_2.length co23] rfl (by (try simp only [List.map_toArray, List.map_cons, List.map_nil]); first | done | rfl | (simp only [List.length_drop, List.length_take]; rfl)) ?_; (with_reducible refine (block_Encode.calls k2 _ _ x8_2 t145 t146 _ ?side1 ?side2 A17.out).mono ?_); (case side1 => repeat (first | exact (Kd.R_reads' HO_8.out).2.2 | (with_reducible refine Kd.C_alloc ?_ _) | (with_reducible refine Kd.C_drewN ?_ _) | (with_reducible refine Kd.C_drew ?_))); (case side2 => exact (Kd.R_reads' HO_8.out).2.1); rintro e w24 ⟨v147, rfl, ho0, hb⟩; refine ⟨_, rfl, ?_⟩; have n0_ := Aside0.mk (Kd.R_below (by (with_reducible repeat (first | apply Kd.R_alloc | apply Kd.R_drewN | apply Kd.R_drew)); exact HO_8.out) hb); have n1_ := Aside0.mk (Kd.R_lower ho0 (below_size (by repeat (first | (with_reducible first | exact HB.out | apply below_alloc | apply pw_below_drewN | apply below_drew1) | exact HB.out)))); have n2_ := Aside0.mk (below_step (by repeat (first | (with_reducible first | exact HB.out | apply below_alloc | apply pw_below_drewN | apply below_drew1) | exact HB.out)) hb); clear HO_8; clear HB; have HO_8 := n0_; have HO148 := n1_; have HB := n2_; clear n0_ n1_ n2_; (try clear hb); (try clear hb2); (try clear hk); (try clear hi); (try clear ho0); have q25 : (1 : Int) ≤ ((x8_2.length : Int) : Int) := of_decide_eq_true (by first | (with_reducible assumption) | assumption); obtain ⟨i025, hi025, _, hsz25, _⟩ := info_parts info32; have hroom25 : x8_2.length ≤ co23 := (Kd.R_reads' HO_8.out).2.1; have hC25 : Kd.C k32 _ Ao23 x8_2.length x8_2 := (Kd.R_reads' HO_8.out).2.2; have hcut25 := cut_to (P := Try.prog) 22 32 .i64 Try.underlying22 hi025 Ao23 x8_2.length co23 1 (by omega) q25 hroom25; have hr25 := Kd.C_take (m := 1) hC25 (by omega); have hy25 : y149.length = (1 : Int).toNat := (by rw [Ny149.out, List.length_take]; omega); rw [← Ny149.out] at hr25; rw [← hy25] at hcut25; have HR152 := Aside0.mk hr25; have HC152 := Aside0.mk (show y149.length ≤ co23 from by omega); clear hr25 hC25 hroom25 hi025 hsz25; have KY25 := Aside0.mk hy25; clear hy25; have KL25 := Aside0.mk (show 1 ≤ x8_2.length from by omega); replace q25 := eq_true q25) | ((with_reducible refine gate_callee (f := 11) rfl ?_); clear tok2_; refine goesL_ (some 66) rfl rfl Try.func11 (by kernel_rfl) rfl #[.slice Ao23 y149.length co23] rfl (by (try simp only [List.map_toArray, List.map_cons, List.map_nil]); first | done | rfl | (simp only [List.length_drop, List.length_take]; rfl)) ?_; (with_reducible refine (block_Encode.calls k2 _ _ y149 t153 t154 _ ?side1 ?side2 A19.out).mono ?_); (case side1 => repeat (first | exact (by repeat (first | (with_reducible exact HR152.out) | (with_reducible refine Kd.C_alloc ?_ _) | (with_reducible refine Kd.C_drewN ?_ _) | (with_reducible refine Kd.C_drew ?_) | exact HR152.out)) | (with_reducible refine Kd.C_alloc ?_ _) | (with_reducible refine Kd.C_drewN ?_ _) | (with_reducible refine Kd.C_drew ?_))); (case side2 => exact HC152.out); rintro e w26 ⟨v155, rfl, ho0, hb⟩; refine ⟨_, rfl, ?_⟩; have n0_ := Aside0.mk (Kd.R_below (by (with_reducible repeat (first | apply Kd.R_alloc | apply Kd.R_drewN | apply Kd.R_drew)); exact HO_8.out) hb); have n1_ := Aside0.mk (Kd.R_elder' (by (with_reducible repeat (first | apply Kd.R_alloc | apply Kd.R_drewN | apply Kd.R_drew)); exact HO148.out) (Kd.R_base ho0) hb); have n2_ := Aside0.mk (Kd.R_lower (Kd.R_new' ho0 (Kd.R_lt (by (with_reducible repeat (first | apply Kd.R_alloc | apply Kd.R_drewN | apply Kd.R_drew)); exact HO148.out))) (below_size (by repeat (first | (with_reducible first | exact HB.out | apply below_alloc | apply pw_below_drewN | apply below_drew1) | exact HB.out)))); have n3_ := Aside0.mk (Kd.C_below (by repeat (first | (with_reducible exact HR152.out) | (with_reducible refine Kd.C_alloc ?_ _) | (with_reducible refine Kd.C_drewN ?_ _) | (with_reducible refine Kd.C_drew ?_) | exact HR152.out)) hb); have n4_ := Aside0.mk (below_step (by repeat (first | (with_reducible first | exact HB.out | apply below_alloc | apply pw_below_drewN | apply below_drew1) | exact HB.out)) hb); clear HO_8; clear HO148; clear HR152; clear HB; have HO_8 := n0_; have HO148 := n1_; have HO156 := n2_; have HR152 := n3_; have HB := n4_; clear n0_ n1_ n2_ n3_ n4_; (try clear hb); (try clear hb2); (try clear hk); (try clear hi); (try clear ho0); obtain ⟨Ao27, co27, eo27⟩ := Kd.R_slice HO148.out; subst eo27; obtain ⟨Ao28, co28, eo28⟩ := Kd.R_slice HO156.out; subst eo28))
                      go_ret
                      exact ⟨by first | rfl | (simp [errW_none, errW_some] <;> rfl) | (simp [*, errW_none, errW_some] <;> rfl), by repeat (first | (with_reducible first | exact HB.out | apply below_alloc | apply pw_below_drewN | apply below_drew1) | exact HB.out)⟩
                    · rw [if_neg c22] at H
                      have c22b0 : (t154 == 0) = false := beq_eq_false_iff_ne.mpr c22
                      have c22b1 : (t154 != 0) = true := bne_iff_ne.mpr c22
                      obtain rfl := Option.some.inj H
                      obtain ⟨Ao29, co29, eo29⟩ := Kd.R_slice HO_8.out
                      subst eo29
                      have tok3_ : True := trivial; have tok4_ : True := trivial
                      go_wp2_with (first | ((with_reducible refine gate_callee (f := 11) rfl ?_); clear tok3_; refine goesL_ (some 60) rfl rfl Try.func11 (by kernel_rfl) rfl #[.slice Ao29 x8_2.length co29] rfl (by (try simp only [List.map_toArray, List.map_cons, List.map_nil]); first | done | rfl | (simp only [List.length_drop, List.length_take]; rfl)) ?_; (with_reducible refine (block_Encode.calls k2 _ _ x8_2 t145 t146 _ ?side1 ?side2 A17.out).mono ?_); (case side1 => repeat (first | exact (Kd.R_reads' HO_8.out).2.2 | (with_reducible refine Kd.C_alloc ?_ _) | (with_reducible refine Kd.C_drewN ?_ _) | (with_reducible refine Kd.C_drew ?_))); (case side2 => exact (Kd.R_reads' HO_8.out).2.1); rintro e w30 ⟨v147, rfl, ho0, hb⟩; refine ⟨_, rfl, ?_⟩; have n0_ := Aside0.mk (Kd.R_below (by (with_reducible repeat (first | apply Kd.R_alloc | apply Kd.R_drewN | apply Kd.R_drew)); exact HO_8.out) hb); have n1_ := Aside0.mk (Kd.R_lower ho0 (below_size (by repeat (first | (with_reducible first | exact HB.out | apply below_alloc | apply pw_below_drewN | apply below_drew1) | exact HB.out)))); have n2_ := Aside0.mk (below_step (by repeat (first | (with_reducible first | exact HB.out | apply below_alloc | apply pw_below_drewN | apply below_drew1) | exact HB.out)) hb); clear HO_8; clear HB; have HO_8 := n0_; have HO148 := n1_; have HB := n2_; clear n0_ n1_ n2_; (try clear hb); (try clear hb2); (try clear hk); (try clear hi); (try clear ho0); have q31 : (1 : Int) ≤ ((x8_2.length : Int) : Int) := of_decide_eq_true (by first | (with_reducible assumption) | assumption); obtain ⟨i031, hi031, _, hsz31, _⟩ := info_parts info32; have hroom31 : x8_2.length ≤ co29 := (Kd.R_reads' HO_8.out).2.1; have hC31 : Kd.C k32 _ Ao29 x8_2.length x8_2 := (Kd.R_reads' HO_8.out).2.2; have hcut31 := cut_to (P := Try.prog) 22 32 .i64 Try.underlying22 hi031 Ao29 x8_2.length co29 1 (by omega) q31 hroom31; have hr31 := Kd.C_take (m := 1) hC31 (by omega); have hy31 : y149.length = (1 : Int).toNat := (by rw [Ny149.out, List.length_take]; omega); rw [← Ny149.out] at hr31; rw [← hy31] at hcut31; have HR152 := Aside0.mk hr31; have HC152 := Aside0.mk (show y149.length ≤ co29 from by omega); clear hr31 hC31 hroom31 hi031 hsz31; have KY31 := Aside0.mk hy31; clear hy31; have KL31 := Aside0.mk (show 1 ≤ x8_2.length from by omega); replace q31 := eq_true q31) | ((with_reducible refine gate_callee (f := 11) rfl ?_); clear tok4_; refine goesL_ (some 66) rfl rfl Try.func11 (by kernel_rfl) rfl #[.slice Ao29 y149.length co29] rfl (by (try simp only [List.map_toArray, List.map_cons, List.map_nil]); first | done | rfl | (simp only [List.length_drop, List.length_take]; rfl)) ?_; (with_reducible refine (block_Encode.calls k2 _ _ y149 t153 t154 _ ?side1 ?side2 A19.out).mono ?_); (case side1 => repeat (first | exact (by repeat (first | (with_reducible exact HR152.out) | (with_reducible refine Kd.C_alloc ?_ _) | (with_reducible refine Kd.C_drewN ?_ _) | (with_reducible refine Kd.C_drew ?_) | exact HR152.out)) | (with_reducible refine Kd.C_alloc ?_ _) | (with_reducible refine Kd.C_drewN ?_ _) | (with_reducible refine Kd.C_drew ?_))); (case side2 => exact HC152.out); rintro e w32 ⟨v155, rfl, ho0, hb⟩; refine ⟨_, rfl, ?_⟩; have n0_ := Aside0.mk (Kd.R_below (by (with_reducible repeat (first | apply Kd.R_alloc | apply Kd.R_drewN | apply Kd.R_drew)); exact HO_8.out) hb); have n1_ := Aside0.mk (Kd.R_elder' (by (with_reducible repeat (first | apply Kd.R_alloc | apply Kd.R_drewN | apply Kd.R_drew)); exact HO148.out) (Kd.R_base ho0) hb); have n2_ := Aside0.mk (Kd.R_lower (Kd.R_new' ho0 (Kd.R_lt (by (with_reducible repeat (first | apply Kd.R_alloc | apply Kd.R_drewN | apply Kd.R_drew)); exact HO148.out))) (below_size (by repeat (first | (with_reducible first | exact HB.out | apply below_alloc | apply pw_below_drewN | apply below_drew1) | exact HB.out)))); have n3_ := Aside0.mk (Kd.C_below (by repeat (first | (with_reducible exact HR152.out) | (with_reducible refine Kd.C_alloc ?_ _) | (with_reducible refine Kd.C_drewN ?_ _) | (with_reducible refine Kd.C_drew ?_) | exact HR152.out)) hb); have n4_ := Aside0.mk (below_step (by repeat (first | (with_reducible first | exact HB.out | apply below_alloc | apply pw_below_drewN | apply below_drew1) | exact HB.out)) hb); clear HO_8; clear HO148; clear HR152; clear HB; have HO_8 := n0_; have HO148 := n1_; have HO156 := n2_; have HR152 := n3_; have HB := n4_; clear n0_ n1_ n2_ n3_ n4_; (try clear hb); (try clear hb2); (try clear hk); (try clear hi); (try clear ho0)))
                      go_ret
                      exact ⟨by first | rfl | (simp [errW_none, errW_some] <;> rfl) | (simp [*, errW_none, errW_some] <;> rfl), by repeat (first | (with_reducible first | exact HB.out | apply below_alloc | apply pw_below_drewN | apply below_drew1) | exact HB.out)⟩
                  · rw [if_neg c21] at H
                    have c21b0 : (t146 == 0) = false := beq_eq_false_iff_ne.mpr c21
                    have c21b1 : (t146 != 0) = true := bne_iff_ne.mpr c21
                    obtain rfl := Option.some.inj H
                    obtain ⟨Ao33, co33, eo33⟩ := Kd.R_slice HO_8.out
                    subst eo33
                    have tok5_ : True := trivial; have tok6_ : True := trivial
                    go_wp2_with (first | ((with_reducible refine gate_callee (f := 11) rfl ?_); clear tok5_; refine goesL_ (some 60) rfl rfl Try.func11 (by kernel_rfl) rfl #[.slice Ao33 x8_2.length co33] rfl (by (try simp only [List.map_toArray, List.map_cons, List.map_nil]); first | done | rfl | (simp only [List.length_drop, List.length_take]; rfl)) ?_; (with_reducible refine (block_Encode.calls k2 _ _ x8_2 t145 t146 _ ?side1 ?side2 A17.out).mono ?_); (case side1 => repeat (first | exact (Kd.R_reads' HO_8.out).2.2 | (with_reducible refine Kd.C_alloc ?_ _) | (with_reducible refine Kd.C_drewN ?_ _) | (with_reducible refine Kd.C_drew ?_))); (case side2 => exact (Kd.R_reads' HO_8.out).2.1); rintro e w34 ⟨v147, rfl, ho0, hb⟩; refine ⟨_, rfl, ?_⟩; have n0_ := Aside0.mk (Kd.R_below (by (with_reducible repeat (first | apply Kd.R_alloc | apply Kd.R_drewN | apply Kd.R_drew)); exact HO_8.out) hb); have n1_ := Aside0.mk (Kd.R_lower ho0 (below_size (by repeat (first | (with_reducible first | exact HB.out | apply below_alloc | apply pw_below_drewN | apply below_drew1) | exact HB.out)))); have n2_ := Aside0.mk (below_step (by repeat (first | (with_reducible first | exact HB.out | apply below_alloc | apply pw_below_drewN | apply below_drew1) | exact HB.out)) hb); clear HO_8; clear HB; have HO_8 := n0_; have HO148 := n1_; have HB := n2_; clear n0_ n1_ n2_; (try clear hb); (try clear hb2); (try clear hk); (try clear hi); (try clear ho0); have q35 : (1 : Int) ≤ ((x8_2.length : Int) : Int) := of_decide_eq_true (by first | (with_reducible assumption) | assumption); obtain ⟨i035, hi035, _, hsz35, _⟩ := info_parts info32; have hroom35 : x8_2.length ≤ co33 := (Kd.R_reads' HO_8.out).2.1; have hC35 : Kd.C k32 _ Ao33 x8_2.length x8_2 := (Kd.R_reads' HO_8.out).2.2; have hcut35 := cut_to (P := Try.prog) 22 32 .i64 Try.underlying22 hi035 Ao33 x8_2.length co33 1 (by omega) q35 hroom35; have hr35 := Kd.C_take (m := 1) hC35 (by omega); have hy35 : y149.length = (1 : Int).toNat := (by rw [Ny149.out, List.length_take]; omega); rw [← Ny149.out] at hr35; rw [← hy35] at hcut35; have HR152 := Aside0.mk hr35; have HC152 := Aside0.mk (show y149.length ≤ co33 from by omega); clear hr35 hC35 hroom35 hi035 hsz35; have KY35 := Aside0.mk hy35; clear hy35; have KL35 := Aside0.mk (show 1 ≤ x8_2.length from by omega); replace q35 := eq_true q35) | ((with_reducible refine gate_callee (f := 11) rfl ?_); clear tok6_; refine goesL_ (some 66) rfl rfl Try.func11 (by kernel_rfl) rfl #[.slice Ao33 y149.length co33] rfl (by (try simp only [List.map_toArray, List.map_cons, List.map_nil]); first | done | rfl | (simp only [List.length_drop, List.length_take]; rfl)) ?_; (with_reducible refine (block_Encode.calls k2 _ _ y149 t153 t154 _ ?side1 ?side2 A19.out).mono ?_); (case side1 => repeat (first | exact (by repeat (first | (with_reducible exact HR152.out) | (with_reducible refine Kd.C_alloc ?_ _) | (with_reducible refine Kd.C_drewN ?_ _) | (with_reducible refine Kd.C_drew ?_) | exact HR152.out)) | (with_reducible refine Kd.C_alloc ?_ _) | (with_reducible refine Kd.C_drewN ?_ _) | (with_reducible refine Kd.C_drew ?_))); (case side2 => exact HC152.out); rintro e w36 ⟨v155, rfl, ho0, hb⟩; refine ⟨_, rfl, ?_⟩; have n0_ := Aside0.mk (Kd.R_below (by (with_reducible repeat (first | apply Kd.R_alloc | apply Kd.R_drewN | apply Kd.R_drew)); exact HO_8.out) hb); have n1_ := Aside0.mk (Kd.R_elder' (by (with_reducible repeat (first | apply Kd.R_alloc | apply Kd.R_drewN | apply Kd.R_drew)); exact HO148.out) (Kd.R_base ho0) hb); have n2_ := Aside0.mk (Kd.R_lower (Kd.R_new' ho0 (Kd.R_lt (by (with_reducible repeat (first | apply Kd.R_alloc | apply Kd.R_drewN | apply Kd.R_drew)); exact HO148.out))) (below_size (by repeat (first | (with_reducible first | exact HB.out | apply below_alloc | apply pw_below_drewN | apply below_drew1) | exact HB.out)))); have n3_ := Aside0.mk (Kd.C_below (by repeat (first | (with_reducible exact HR152.out) | (with_reducible refine Kd.C_alloc ?_ _) | (with_reducible refine Kd.C_drewN ?_ _) | (with_reducible refine Kd.C_drew ?_) | exact HR152.out)) hb); have n4_ := Aside0.mk (below_step (by repeat (first | (with_reducible first | exact HB.out | apply below_alloc | apply pw_below_drewN | apply below_drew1) | exact HB.out)) hb); clear HO_8; clear HO148; clear HR152; clear HB; have HO_8 := n0_; have HO148 := n1_; have HO156 := n2_; have HR152 := n3_; have HB := n4_; clear n0_ n1_ n2_ n3_ n4_; (try clear hb); (try clear hb2); (try clear hk); (try clear hi); (try clear ho0)))
                    go_ret
                    exact ⟨by first | rfl | (simp [errW_none, errW_some] <;> rfl) | (simp [*, errW_none, errW_some] <;> rfl), by repeat (first | (with_reducible first | exact HB.out | apply below_alloc | apply pw_below_drewN | apply below_drew1) | exact HB.out)⟩
                · rw [if_neg c20] at H
                  have c20b0 : decide (127 < a1) = false := decide_eq_false c20
                  clear c20
                  by_cases c37 : t146 = 0
                  · rw [if_pos c37] at H
                    have c37b0 : (t146 == 0) = true := beq_iff_eq.mpr c37
                    have c37b1 : (t146 != 0) = false := bne_eq_false_iff_eq.mpr c37
                    clear c37
                    by_cases c38 : t154 = 0
                    · rw [if_pos c38] at H
                      have c38b0 : (t154 == 0) = true := beq_iff_eq.mpr c38
                      have c38b1 : (t154 != 0) = false := bne_eq_false_iff_eq.mpr c38
                      clear c38
                      obtain rfl := Option.some.inj H
                      obtain ⟨Ao39, co39, eo39⟩ := Kd.R_slice HO_8.out
                      subst eo39
                      have tok7_ : True := trivial; have tok8_ : True := trivial
                      go_wp2_with (first | ((with_reducible refine gate_callee (f := 11) rfl ?_); clear tok7_; refine goesL_ (some 60) rfl rfl Try.func11 (by kernel_rfl) rfl #[.slice Ao39 x8_2.length co39] rfl (by (try simp only [List.map_toArray, List.map_cons, List.map_nil]); first | done | rfl | (simp only [List.length_drop, List.length_take]; rfl)) ?_; (with_reducible refine (block_Encode.calls k2 _ _ x8_2 t145 t146 _ ?side1 ?side2 A17.out).mono ?_); (case side1 => repeat (first | exact (Kd.R_reads' HO_8.out).2.2 | (with_reducible refine Kd.C_alloc ?_ _) | (with_reducible refine Kd.C_drewN ?_ _) | (with_reducible refine Kd.C_drew ?_))); (case side2 => exact (Kd.R_reads' HO_8.out).2.1); rintro e w40 ⟨v147, rfl, ho0, hb⟩; refine ⟨_, rfl, ?_⟩; have n0_ := Aside0.mk (Kd.R_below (by (with_reducible repeat (first | apply Kd.R_alloc | apply Kd.R_drewN | apply Kd.R_drew)); exact HO_8.out) hb); have n1_ := Aside0.mk (Kd.R_lower ho0 (below_size (by repeat (first | (with_reducible first | exact HB.out | apply below_alloc | apply pw_below_drewN | apply below_drew1) | exact HB.out)))); have n2_ := Aside0.mk (below_step (by repeat (first | (with_reducible first | exact HB.out | apply below_alloc | apply pw_below_drewN | apply below_drew1) | exact HB.out)) hb); clear HO_8; clear HB; have HO_8 := n0_; have HO148 := n1_; have HB := n2_; clear n0_ n1_ n2_; (try clear hb); (try clear hb2); (try clear hk); (try clear hi); (try clear ho0); have q41 : (1 : Int) ≤ ((x8_2.length : Int) : Int) := of_decide_eq_true (by first | (with_reducible assumption) | assumption); obtain ⟨i041, hi041, _, hsz41, _⟩ := info_parts info32; have hroom41 : x8_2.length ≤ co39 := (Kd.R_reads' HO_8.out).2.1; have hC41 : Kd.C k32 _ Ao39 x8_2.length x8_2 := (Kd.R_reads' HO_8.out).2.2; have hcut41 := cut_to (P := Try.prog) 22 32 .i64 Try.underlying22 hi041 Ao39 x8_2.length co39 1 (by omega) q41 hroom41; have hr41 := Kd.C_take (m := 1) hC41 (by omega); have hy41 : y149.length = (1 : Int).toNat := (by rw [Ny149.out, List.length_take]; omega); rw [← Ny149.out] at hr41; rw [← hy41] at hcut41; have HR152 := Aside0.mk hr41; have HC152 := Aside0.mk (show y149.length ≤ co39 from by omega); clear hr41 hC41 hroom41 hi041 hsz41; have KY41 := Aside0.mk hy41; clear hy41; have KL41 := Aside0.mk (show 1 ≤ x8_2.length from by omega); replace q41 := eq_true q41) | ((with_reducible refine gate_callee (f := 11) rfl ?_); clear tok8_; refine goesL_ (some 66) rfl rfl Try.func11 (by kernel_rfl) rfl #[.slice Ao39 y149.length co39] rfl (by (try simp only [List.map_toArray, List.map_cons, List.map_nil]); first | done | rfl | (simp only [List.length_drop, List.length_take]; rfl)) ?_; (with_reducible refine (block_Encode.calls k2 _ _ y149 t153 t154 _ ?side1 ?side2 A19.out).mono ?_); (case side1 => repeat (first | exact (by repeat (first | (with_reducible exact HR152.out) | (with_reducible refine Kd.C_alloc ?_ _) | (with_reducible refine Kd.C_drewN ?_ _) | (with_reducible refine Kd.C_drew ?_) | exact HR152.out)) | (with_reducible refine Kd.C_alloc ?_ _) | (with_reducible refine Kd.C_drewN ?_ _) | (with_reducible refine Kd.C_drew ?_))); (case side2 => exact HC152.out); rintro e w42 ⟨v155, rfl, ho0, hb⟩; refine ⟨_, rfl, ?_⟩; have n0_ := Aside0.mk (Kd.R_below (by (with_reducible repeat (first | apply Kd.R_alloc | apply Kd.R_drewN | apply Kd.R_drew)); exact HO_8.out) hb); have n1_ := Aside0.mk (Kd.R_elder' (by (with_reducible repeat (first | apply Kd.R_alloc | apply Kd.R_drewN | apply Kd.R_drew)); exact HO148.out) (Kd.R_base ho0) hb); have n2_ := Aside0.mk (Kd.R_lower (Kd.R_new' ho0 (Kd.R_lt (by (with_reducible repeat (first | apply Kd.R_alloc | apply Kd.R_drewN | apply Kd.R_drew)); exact HO148.out))) (below_size (by repeat (first | (with_reducible first | exact HB.out | apply below_alloc | apply pw_below_drewN | apply below_drew1) | exact HB.out)))); have n3_ := Aside0.mk (Kd.C_below (by repeat (first | (with_reducible exact HR152.out) | (with_reducible refine Kd.C_alloc ?_ _) | (with_reducible refine Kd.C_drewN ?_ _) | (with_reducible refine Kd.C_drew ?_) | exact HR152.out)) hb); have n4_ := Aside0.mk (below_step (by repeat (first | (with_reducible first | exact HB.out | apply below_alloc | apply pw_below_drewN | apply below_drew1) | exact HB.out)) hb); clear HO_8; clear HO148; clear HR152; clear HB; have HO_8 := n0_; have HO148 := n1_; have HO156 := n2_; have HR152 := n3_; have HB := n4_; clear n0_ n1_ n2_ n3_ n4_; (try clear hb); (try clear hb2); (try clear hk); (try clear hi); (try clear ho0); obtain ⟨Ao43, co43, eo43⟩ := Kd.R_slice HO148.out; subst eo43; obtain ⟨Ao44, co44, eo44⟩ := Kd.R_slice HO156.out; subst eo44))
                      go_ret
                      exact ⟨by first | rfl | (simp [errW_none, errW_some] <;> rfl) | (simp [*, errW_none, errW_some] <;> rfl), by repeat (first | (with_reducible first | exact HB.out | apply below_alloc | apply pw_below_drewN | apply below_drew1) | exact HB.out)⟩
                    · rw [if_neg c38] at H
                      have c38b0 : (t154 == 0) = false := beq_eq_false_iff_ne.mpr c38
                      have c38b1 : (t154 != 0) = true := bne_iff_ne.mpr c38
                      obtain rfl := Option.some.inj H
                      obtain ⟨Ao45, co45, eo45⟩ := Kd.R_slice HO_8.out
                      subst eo45
                      have tok9_ : True := trivial; have tok10_ : True := trivial
                      go_wp2_with (first | ((with_reducible refine gate_callee (f := 11) rfl ?_); clear tok9_; refine goesL_ (some 60) rfl rfl Try.func11 (by kernel_rfl) rfl #[.slice Ao45 x8_2.length co45] rfl (by (try simp only [List.map_toArray, List.map_cons, List.map_nil]); first | done | rfl | (simp only [List.length_drop, List.length_take]; rfl)) ?_; (with_reducible refine (block_Encode.calls k2 _ _ x8_2 t145 t146 _ ?side1 ?side2 A17.out).mono ?_); (case side1 => repeat (first | exact (Kd.R_reads' HO_8.out).2.2 | (with_reducible refine Kd.C_alloc ?_ _) | (with_reducible refine Kd.C_drewN ?_ _) | (with_reducible refine Kd.C_drew ?_))); (case side2 => exact (Kd.R_reads' HO_8.out).2.1); rintro e w46 ⟨v147, rfl, ho0, hb⟩; refine ⟨_, rfl, ?_⟩; have n0_ := Aside0.mk (Kd.R_below (by (with_reducible repeat (first | apply Kd.R_alloc | apply Kd.R_drewN | apply Kd.R_drew)); exact HO_8.out) hb); have n1_ := Aside0.mk (Kd.R_lower ho0 (below_size (by repeat (first | (with_reducible first | exact HB.out | apply below_alloc | apply pw_below_drewN | apply below_drew1) | exact HB.out)))); have n2_ := Aside0.mk (below_step (by repeat (first | (with_reducible first | exact HB.out | apply below_alloc | apply pw_below_drewN | apply below_drew1) | exact HB.out)) hb); clear HO_8; clear HB; have HO_8 := n0_; have HO148 := n1_; have HB := n2_; clear n0_ n1_ n2_; (try clear hb); (try clear hb2); (try clear hk); (try clear hi); (try clear ho0); have q47 : (1 : Int) ≤ ((x8_2.length : Int) : Int) := of_decide_eq_true (by first | (with_reducible assumption) | assumption); obtain ⟨i047, hi047, _, hsz47, _⟩ := info_parts info32; have hroom47 : x8_2.length ≤ co45 := (Kd.R_reads' HO_8.out).2.1; have hC47 : Kd.C k32 _ Ao45 x8_2.length x8_2 := (Kd.R_reads' HO_8.out).2.2; have hcut47 := cut_to (P := Try.prog) 22 32 .i64 Try.underlying22 hi047 Ao45 x8_2.length co45 1 (by omega) q47 hroom47; have hr47 := Kd.C_take (m := 1) hC47 (by omega); have hy47 : y149.length = (1 : Int).toNat := (by rw [Ny149.out, List.length_take]; omega); rw [← Ny149.out] at hr47; rw [← hy47] at hcut47; have HR152 := Aside0.mk hr47; have HC152 := Aside0.mk (show y149.length ≤ co45 from by omega); clear hr47 hC47 hroom47 hi047 hsz47; have KY47 := Aside0.mk hy47; clear hy47; have KL47 := Aside0.mk (show 1 ≤ x8_2.length from by omega); replace q47 := eq_true q47) | ((with_reducible refine gate_callee (f := 11) rfl ?_); clear tok10_; refine goesL_ (some 66) rfl rfl Try.func11 (by kernel_rfl) rfl #[.slice Ao45 y149.length co45] rfl (by (try simp only [List.map_toArray, List.map_cons, List.map_nil]); first | done | rfl | (simp only [List.length_drop, List.length_take]; rfl)) ?_; (with_reducible refine (block_Encode.calls k2 _ _ y149 t153 t154 _ ?side1 ?side2 A19.out).mono ?_); (case side1 => repeat (first | exact (by repeat (first | (with_reducible exact HR152.out) | (with_reducible refine Kd.C_alloc ?_ _) | (with_reducible refine Kd.C_drewN ?_ _) | (with_reducible refine Kd.C_drew ?_) | exact HR152.out)) | (with_reducible refine Kd.C_alloc ?_ _) | (with_reducible refine Kd.C_drewN ?_ _) | (with_reducible refine Kd.C_drew ?_))); (case side2 => exact HC152.out); rintro e w48 ⟨v155, rfl, ho0, hb⟩; refine ⟨_, rfl, ?_⟩; have n0_ := Aside0.mk (Kd.R_below (by (with_reducible repeat (first | apply Kd.R_alloc | apply Kd.R_drewN | apply Kd.R_drew)); exact HO_8.out) hb); have n1_ := Aside0.mk (Kd.R_elder' (by (with_reducible repeat (first | apply Kd.R_alloc | apply Kd.R_drewN | apply Kd.R_drew)); exact HO148.out) (Kd.R_base ho0) hb); have n2_ := Aside0.mk (Kd.R_lower (Kd.R_new' ho0 (Kd.R_lt (by (with_reducible repeat (first | apply Kd.R_alloc | apply Kd.R_drewN | apply Kd.R_drew)); exact HO148.out))) (below_size (by repeat (first | (with_reducible first | exact HB.out | apply below_alloc | apply pw_below_drewN | apply below_drew1) | exact HB.out)))); have n3_ := Aside0.mk (Kd.C_below (by repeat (first | (with_reducible exact HR152.out) | (with_reducible refine Kd.C_alloc ?_ _) | (with_reducible refine Kd.C_drewN ?_ _) | (with_reducible refine Kd.C_drew ?_) | exact HR152.out)) hb); have n4_ := Aside0.mk (below_step (by repeat (first | (with_reducible first | exact HB.out | apply below_alloc | apply pw_below_drewN | apply below_drew1) | exact HB.out)) hb); clear HO_8; clear HO148; clear HR152; clear HB; have HO_8 := n0_; have HO148 := n1_; have HO156 := n2_; have HR152 := n3_; have HB := n4_; clear n0_ n1_ n2_ n3_ n4_; (try clear hb); (try clear hb2); (try clear hk); (try clear hi); (try clear ho0)))
                      go_ret
                      exact ⟨by first | rfl | (simp [errW_none, errW_some] <;> rfl) | (simp [*, errW_none, errW_some] <;> rfl), by repeat (first | (with_reducible first | exact HB.out | apply below_alloc | apply pw_below_drewN | apply below_drew1) | exact HB.out)⟩
                  · rw [if_neg c37] at H
                    have c37b0 : (t146 == 0) = false := beq_eq_false_iff_ne.mpr c37
                    have c37b1 : (t146 != 0) = true := bne_iff_ne.mpr c37
                    obtain rfl := Option.some.inj H
                    obtain ⟨Ao49, co49, eo49⟩ := Kd.R_slice HO_8.out
                    subst eo49
                    have tok11_ : True := trivial; have tok12_ : True := trivial
                    go_wp2_with (first | ((with_reducible refine gate_callee (f := 11) rfl ?_); clear tok11_; refine goesL_ (some 60) rfl rfl Try.func11 (by kernel_rfl) rfl #[.slice Ao49 x8_2.length co49] rfl (by (try simp only [List.map_toArray, List.map_cons, List.map_nil]); first | done | rfl | (simp only [List.length_drop, List.length_take]; rfl)) ?_; (with_reducible refine (block_Encode.calls k2 _ _ x8_2 t145 t146 _ ?side1 ?side2 A17.out).mono ?_); (case side1 => repeat (first | exact (Kd.R_reads' HO_8.out).2.2 | (with_reducible refine Kd.C_alloc ?_ _) | (with_reducible refine Kd.C_drewN ?_ _) | (with_reducible refine Kd.C_drew ?_))); (case side2 => exact (Kd.R_reads' HO_8.out).2.1); rintro e w50 ⟨v147, rfl, ho0, hb⟩; refine ⟨_, rfl, ?_⟩; have n0_ := Aside0.mk (Kd.R_below (by (with_reducible repeat (first | apply Kd.R_alloc | apply Kd.R_drewN | apply Kd.R_drew)); exact HO_8.out) hb); have n1_ := Aside0.mk (Kd.R_lower ho0 (below_size (by repeat (first | (with_reducible first | exact HB.out | apply below_alloc | apply pw_below_drewN | apply below_drew1) | exact HB.out)))); have n2_ := Aside0.mk (below_step (by repeat (first | (with_reducible first | exact HB.out | apply below_alloc | apply pw_below_drewN | apply below_drew1) | exact HB.out)) hb); clear HO_8; clear HB; have HO_8 := n0_; have HO148 := n1_; have HB := n2_; clear n0_ n1_ n2_; (try clear hb); (try clear hb2); (try clear hk); (try clear hi); (try clear ho0); have q51 : (1 : Int) ≤ ((x8_2.length : Int) : Int) := of_decide_eq_true (by first | (with_reducible assumption) | assumption); obtain ⟨i051, hi051, _, hsz51, _⟩ := info_parts info32; have hroom51 : x8_2.length ≤ co49 := (Kd.R_reads' HO_8.out).2.1; have hC51 : Kd.C k32 _ Ao49 x8_2.length x8_2 := (Kd.R_reads' HO_8.out).2.2; have hcut51 := cut_to (P := Try.prog) 22 32 .i64 Try.underlying22 hi051 Ao49 x8_2.length co49 1 (by omega) q51 hroom51; have hr51 := Kd.C_take (m := 1) hC51 (by omega); have hy51 : y149.length = (1 : Int).toNat := (by rw [Ny149.out, List.length_take]; omega); rw [← Ny149.out] at hr51; rw [← hy51] at hcut51; have HR152 := Aside0.mk hr51; have HC152 := Aside0.mk (show y149.length ≤ co49 from by omega); clear hr51 hC51 hroom51 hi051 hsz51; have KY51 := Aside0.mk hy51; clear hy51; have KL51 := Aside0.mk (show 1 ≤ x8_2.length from by omega); replace q51 := eq_true q51) | ((with_reducible refine gate_callee (f := 11) rfl ?_); clear tok12_; refine goesL_ (some 66) rfl rfl Try.func11 (by kernel_rfl) rfl #[.slice Ao49 y149.length co49] rfl (by (try simp only [List.map_toArray, List.map_cons, List.map_nil]); first | done | rfl | (simp only [List.length_drop, List.length_take]; rfl)) ?_; (with_reducible refine (block_Encode.calls k2 _ _ y149 t153 t154 _ ?side1 ?side2 A19.out).mono ?_); (case side1 => repeat (first | exact (by repeat (first | (with_reducible exact HR152.out) | (with_reducible refine Kd.C_alloc ?_ _) | (with_reducible refine Kd.C_drewN ?_ _) | (with_reducible refine Kd.C_drew ?_) | exact HR152.out)) | (with_reducible refine Kd.C_alloc ?_ _) | (with_reducible refine Kd.C_drewN ?_ _) | (with_reducible refine Kd.C_drew ?_))); (case side2 => exact HC152.out); rintro e w52 ⟨v155, rfl, ho0, hb⟩; refine ⟨_, rfl, ?_⟩; have n0_ := Aside0.mk (Kd.R_below (by (with_reducible repeat (first | apply Kd.R_alloc | apply Kd.R_drewN | apply Kd.R_drew)); exact HO_8.out) hb); have n1_ := Aside0.mk (Kd.R_elder' (by (with_reducible repeat (first | apply Kd.R_alloc | apply Kd.R_drewN | apply Kd.R_drew)); exact HO148.out) (Kd.R_base ho0) hb); have n2_ := Aside0.mk (Kd.R_lower (Kd.R_new' ho0 (Kd.R_lt (by (with_reducible repeat (first | apply Kd.R_alloc | apply Kd.R_drewN | apply Kd.R_drew)); exact HO148.out))) (below_size (by repeat (first | (with_reducible first | exact HB.out | apply below_alloc | apply pw_below_drewN | apply below_drew1) | exact HB.out)))); have n3_ := Aside0.mk (Kd.C_below (by repeat (first | (with_reducible exact HR152.out) | (with_reducible refine Kd.C_alloc ?_ _) | (with_reducible refine Kd.C_drewN ?_ _) | (with_reducible refine Kd.C_drew ?_) | exact HR152.out)) hb); have n4_ := Aside0.mk (below_step (by repeat (first | (with_reducible first | exact HB.out | apply below_alloc | apply pw_below_drewN | apply below_drew1) | exact HB.out)) hb); clear HO_8; clear HO148; clear HR152; clear HB; have HO_8 := n0_; have HO148 := n1_; have HO156 := n2_; have HR152 := n3_; have HB := n4_; clear n0_ n1_ n2_ n3_ n4_; (try clear hb); (try clear hb2); (try clear hk); (try clear hi); (try clear ho0)))
                    go_ret
                    exact ⟨by first | rfl | (simp [errW_none, errW_some] <;> rfl) | (simp [*, errW_none, errW_some] <;> rfl), by repeat (first | (with_reducible first | exact HB.out | apply below_alloc | apply pw_below_drewN | apply below_drew1) | exact HB.out)⟩
              · rw [if_neg c18] at H
                exact absurd H (by simp)

/-- THE ONE PURE STATEMENT of ferrymanlaw07_BlockShort: yours. -/
def ferrymanlaw07_BlockShort.Pure : Prop := ∀ (a0 : Int) (a1 : Int) (a2 : Int), (Lit.int .i64 a0).wf = true → (Lit.int .i64 a1).wf = true → (Lit.int .i64 a2).wf = true → ∃ k, ferrymanlaw07_BlockShort.f k a0 a1 a2 = some true
theorem ferrymanlaw07_BlockShort.walk (P : ferrymanlaw07_BlockShort.Pure) (a0 : Int) (a1 : Int) (a2 : Int) (w : World) (w0 : (Lit.int .i64 a0).wf = true) (w1 : (Lit.int .i64 a1).wf = true) (w2 : (Lit.int .i64 a2).wf = true) :
    Calls Try.prog 4 #[.int .i64 a0, .int .i64 a1, .int .i64 a2] w fun e w' => e = .returned (.bool true) ∧ Below w.heap.size w w' := by
  obtain ⟨k, h⟩ := P a0 a1 a2 w0 w1 w2
  refine (ferrymanlaw07_BlockShort.calls k a0 a1 a2 true w h).mono ?_
  rintro e w' ⟨rfl, hd⟩
  exact ⟨rfl, hd⟩

end Go.Proofs.Ytecddphmnoegdaa.QBlockShort
