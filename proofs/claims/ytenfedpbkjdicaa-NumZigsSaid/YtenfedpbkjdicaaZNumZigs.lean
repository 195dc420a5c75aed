/- What this text proves: the walk of ferrymanlaw01.NumZigs: where the printed function tells an answer, the Go function returns it; no condition. It is a printed text with one line more. -/
import Derived.Test.YtenfedpbkjdicaaPNumZigsx0
import Derived.Test.YtenfedpbkjdicaaPNumZigsx1
namespace Go.Proofs.Ytenfedpbkjdicaa.PNumZigs
open Go.RowKit Go.Proofs.YtenfedpbkjdicaaW.PrintWords Go.Proofs.YtenfedpbkjdicaaW.PrintLast Go.Proofs.YtenfedpbkjdicaaW.PrintMore
attribute [local go_sem] max2_int min2_int max_two min_two max_three min_three max_four min_four   -- for this text's walks alone
set_option linter.unusedVariables false
set_option linter.unusedSimpArgs false

/-! ### ferrymanlaw01_NumZigs: function 4 -/
def ferrymanlaw01_NumZigs.j0 : Nat → Int → Int → Bool → Bool → Option (Bool)
  | 0, _, _, _, _ => none
  | k + 1, x0, x1, x5, x18 => if x18 = true then (some false) else (if x5 = true then ((num_Zig.f x0).bind fun t135 => ((num_Zig.f x1).bind fun t136 => (if ((t135 == t136) == (x0 == x1)) = true then ((num_Zig.f x0).bind fun t137 => (some ((decide (x0 < 0)) == ((Int.tmod t137 2) == 1)))) else (some false)))) else (some false))
def ferrymanlaw01_NumZigs.f (k : Nat) (a0 : Int) (a1 : Int) : Option (Bool) := (ferrymanlaw01_awake.f k).bind fun t132 => (if a0 ≥ 0 then ((num_Zig.f (wrap64 ((wrap64 (-a0)) - 1))).bind fun t133 => ((num_Zig.f a0).bind fun t134 => (ferrymanlaw01_NumZigs.j0 k a0 a1 t132 (t133 != (IntKind.u64.wrap (t134 + 1)))))) else (ferrymanlaw01_NumZigs.j0 k a0 a1 t132 false))
theorem ferrymanlaw01_NumZigs.mono_l : ∀ k, (∀ y0 y1 y2 y3, LeO (ferrymanlaw01_NumZigs.j0 k y0 y1 y2 y3) (ferrymanlaw01_NumZigs.j0 (k + 1) y0 y1 y2 y3))
  | 0 => fun _ _ _ _ r h => by simp [ferrymanlaw01_NumZigs.j0] at h
  | k + 1 => by
    have ih0 := ferrymanlaw01_NumZigs.mono_l k
    · intro y0 y1 y2 y3
      unfold ferrymanlaw01_NumZigs.j0
      repeat' first
      | (with_reducible exact ih0 _ _ _ _)
      | (with_reducible exact ferrymanlaw01_awake.mono _)
      | (with_reducible exact LeO.refl _)
      | (with_reducible exact LeO.none _)
      | (with_reducible refine LeO.ite ?_ ?_)
      | (with_reducible refine LeO.bind ?_ (fun _ => ?_))
      | exact ih0 _ _ _ _
      | exact ferrymanlaw01_awake.mono _
      | exact LeO.none _
      | refine LeO.ite ?_ ?_
      | refine LeO.bind ?_ (fun _ => ?_)
theorem ferrymanlaw01_NumZigs.mono : ∀ a0 a1 k, LeO (ferrymanlaw01_NumZigs.f k a0 a1) (ferrymanlaw01_NumZigs.f (k + 1) a0 a1) := by
  intro a0 a1 k
  have ih0 := ferrymanlaw01_NumZigs.mono_l k
  unfold ferrymanlaw01_NumZigs.f
  repeat' first
      | (with_reducible exact ih0 _ _ _ _)
      | (with_reducible exact ferrymanlaw01_awake.mono _)
      | (with_reducible exact LeO.refl _)
      | (with_reducible exact LeO.none _)
      | (with_reducible refine LeO.ite ?_ ?_)
      | (with_reducible refine LeO.bind ?_ (fun _ => ?_))
      | exact ih0 _ _ _ _
      | exact ferrymanlaw01_awake.mono _
      | exact LeO.none _
      | refine LeO.ite ?_ ?_
      | refine LeO.bind ?_ (fun _ => ?_)
set_option maxHeartbeats 8000000 in
set_option maxRecDepth 100000 in
theorem ferrymanlaw01_NumZigs.calls (k : Nat) (a0 : Int) (a1 : Int) (r : Bool) (w : World) (h : ferrymanlaw01_NumZigs.f k a0 a1 = some r) :
    Calls Try.prog 4 #[.int .i64 a0, .int .i64 a1] w fun e w' => e = .returned (.bool r) ∧ Below w.heap.size w w' := by
  have HB := Aside0.mk (Below.refl w.heap.size w)
  have H : ((ferrymanlaw01_awake.f k).bind fun t132 => (if a0 ≥ 0 then ((num_Zig.f (wrap64 ((wrap64 (-a0)) - 1))).bind fun t133 => ((num_Zig.f a0).bind fun t134 => (ferrymanlaw01_NumZigs.j0 k a0 a1 t132 (t133 != (IntKind.u64.wrap (t134 + 1)))))) else (ferrymanlaw01_NumZigs.j0 k a0 a1 t132 false))) = some r := h
  clear h
  replace H := Option.bind_eq_some_iff.mp H
  obtain ⟨t132, A30, H⟩ := H
  replace H : (if a0 ≥ 0 then ((num_Zig.f (wrap64 ((wrap64 (-a0)) - 1))).bind fun t133 => ((num_Zig.f a0).bind fun t134 => (ferrymanlaw01_NumZigs.j0 k a0 a1 t132 (t133 != (IntKind.u64.wrap (t134 + 1)))))) else (ferrymanlaw01_NumZigs.j0 k a0 a1 t132 false)) = some r := H
  have A3 := Aside0.mk A30
  clear A30
  have HC4 := Aside0.mk H
  clear H
  go_enter Try.func4, Try.ntmps4
  go_upto_region 2 with (first | ((with_reducible refine gate_callee (f := 10) rfl ?_); refine goesL_ (some 6) rfl rfl Try.func10 (by kernel_rfl) rfl #[] rfl (by (try simp only [List.map_toArray, List.map_cons, List.map_nil]); first | done | rfl | (simp only [List.length_drop, List.length_take]; rfl)) ?_; (with_reducible refine (ferrymanlaw01_awake.calls k  t132 _ A3.out).mono ?_); rintro e w5 ⟨rfl, hb⟩; refine ⟨_, rfl, ?_⟩; have n0_ := Aside0.mk (below_step (by repeat (first | (with_reducible first | exact HB.out | apply below_alloc | apply pw_below_drewN | apply below_drew1) | exact HB.out)) hb); clear HB; have HB := n0_; clear n0_; (try clear hb); (try clear hb2); (try clear hk); (try clear hi)))
  (try simp only [Act.put, List.setIfInBounds_toArray, List.set_cons_zero, List.set_cons_succ])
  go_cut [18] (fun v18 wc => ∃ (kq : Nat) (x18_3 : Bool), v18 = .bool x18_3 ∧ Aside0 (ferrymanlaw01_NumZigs.j0 kq a0 a1 t132 x18_3 = some r) ∧ Aside0 (kq ≤ k) ∧ Aside0 (Below w.heap.size w wc))
  case first =>
    have H := HC4.out
    clear HC4
    by_cases c6 : a0 ≥ 0
    · rw [if_pos c6] at H
      have c6b0 : decide (0 ≤ a0) = true := decide_eq_true c6
      clear c6
      (first | rw [c6b0] | (simp only [i64_w, i32_w]; rw [c6b0]) | skip)
      replace H := Option.bind_eq_some_iff.mp H
      obtain ⟨t133, A70, H⟩ := H
      replace H : ((num_Zig.f a0).bind fun t134 => (ferrymanlaw01_NumZigs.j0 k a0 a1 t132 (t133 != (IntKind.u64.wrap (t134 + 1))))) = some r := H
      have A7 := Aside0.mk A70
      clear A70
      replace H := Option.bind_eq_some_iff.mp H
      obtain ⟨t134, A80, H⟩ := H
      replace H : (ferrymanlaw01_NumZigs.j0 k a0 a1 t132 (t133 != (IntKind.u64.wrap (t134 + 1)))) = some r := H
      have A8 := Aside0.mk A80
      clear A80
      have H' := Aside0.mk H
      clear H
      go_wp2_with (first | (go_at_call 12; (with_reducible refine (num_Zig.calls (wrap64 ((wrap64 (-a0)) - 1)) t133 _ A7.out).mono ?_); rintro e w' ⟨rfl, ⟨nd, rfl⟩⟩) | (go_at_call 12; (with_reducible refine (num_Zig.calls a0 t134 _ A8.out).mono ?_); rintro e w' ⟨rfl, ⟨nd, rfl⟩⟩))
      go_meet
      case rel => exact ⟨_, ((t133 != (IntKind.u64.wrap (t134 + 1)))), (by first | rfl | (simp; done) | (simp [*]; done)), H', ⟨by first | omega | exact Nat.le_refl _⟩, ⟨by repeat (first | (with_reducible first | exact HB.out | apply below_alloc | apply pw_below_drewN | apply below_drew1) | exact HB.out)⟩⟩
    · rw [if_neg c6] at H
      have c6b0 : decide (0 ≤ a0) = false := decide_eq_false c6
      clear c6
      (first | rw [c6b0] | (simp only [i64_w, i32_w]; rw [c6b0]) | skip)
      have H' := Aside0.mk H
      clear H
      go_wp2
      go_meet
      case rel => exact ⟨_, (false), (by first | rfl | (simp; done) | (simp [*]; done)), H', ⟨by first | omega | exact Nat.le_refl _⟩, ⟨by repeat (first | (with_reducible first | exact HB.out | apply below_alloc | apply pw_below_drewN | apply below_drew1) | exact HB.out)⟩⟩
  case rest =>
    clear HC4
    try clear c1
    try clear p2
    try clear c4
    try clear c6
    try clear c6b0
    try clear p6
    obtain ⟨kq, x18_3, rfl, HA, HJ3, HB⟩ := hcut
    cases kq with
    | zero => exact absurd HA.out (by simp [ferrymanlaw01_NumZigs.j0])
    | succ kj3 =>
      have H := HA.out
      clear HA
      simp only [ferrymanlaw01_NumZigs.j0] at H
      by_cases c9 : x18_3 = true
      · subst c9
        have H1 : (some false) = some r := by rw [if_pos rfl] at H; exact H
        clear H
        have H := H1
        clear H1
        obtain rfl := Option.some.inj H
        go_wp2
        go_ret
        exact ⟨by first | rfl | (simp [errW_none, errW_some] <;> rfl) | (simp [*, errW_none, errW_some] <;> rfl), by repeat (first | (with_reducible first | exact HB.out | apply below_alloc | apply pw_below_drewN | apply below_drew1) | exact HB.out)⟩
      · replace c9 := Bool.eq_false_iff.mpr c9
        subst c9
        have H1 : (if t132 = true then ((num_Zig.f a0).bind fun t135 => ((num_Zig.f a1).bind fun t136 => (if ((t135 == t136) == (a0 == a1)) = true then ((num_Zig.f a0).bind fun t137 => (some ((decide (a0 < 0)) == ((Int.tmod t137 2) == 1)))) else (some false)))) else (some false)) = some r := by rw [if_neg (show ¬ (false = true) by decide)] at H; exact H
        clear H
        have H := H1
        clear H1
        by_cases c10 : t132 = true
        · subst c10
          have H1 : ((num_Zig.f a0).bind fun t135 => ((num_Zig.f a1).bind fun t136 => (if ((t135 == t136) == (a0 == a1)) = true then ((num_Zig.f a0).bind fun t137 => (some ((decide (a0 < 0)) == ((Int.tmod t137 2) == 1)))) else (some false)))) = some r := by rw [if_pos rfl] at H; exact H
          clear H
          have H := H1
          clear H1
          replace H := Option.bind_eq_some_iff.mp H
          obtain ⟨t135, A110, H⟩ := H
          replace H : ((num_Zig.f a1).bind fun t136 => (if ((t135 == t136) == (a0 == a1)) = true then ((num_Zig.f a0).bind fun t137 => (some ((decide (a0 < 0)) == ((Int.tmod t137 2) == 1)))) else (some false))) = some r := H
          have A11 := Aside0.mk A110
          clear A110
          replace H := Option.bind_eq_some_iff.mp H
          obtain ⟨t136, A120, H⟩ := H
          replace H : (if ((t135 == t136) == (a0 == a1)) = true then ((num_Zig.f a0).bind fun t137 => (some ((decide (a0 < 0)) == ((Int.tmod t137 2) == 1)))) else (some false)) = some r := H
          have A12 := Aside0.mk A120
          clear A120
          by_cases c13 : ((t135 == t136) == (a0 == a1)) = true
          · rw [if_pos c13] at H
            have c13b0 : ((t135 == t136) == (a0 == a1)) = true := c13
            (try (have c13b1 : decide ((t135 == t136) = (a0 == a1)) = true := by simpa using c13))
            (try (have c13b2 : ((t135 == t136) == (a0 == a1)) = true := by simpa using c13))
            clear c13
            replace H := Option.bind_eq_some_iff.mp H
            obtain ⟨t137, A140, H⟩ := H
            replace H : (some ((decide (a0 < 0)) == ((Int.tmod t137 2) == 1))) = some r := H
            have A14 := Aside0.mk A140
            clear A140
            have E14 : t135 = t137 := Option.some.inj (A11.out.symm.trans A14.out)
            subst E14
            obtain rfl := Option.some.inj H
            go_wp2_with (first | (go_at_call 12; (with_reducible refine (num_Zig.calls a0 t135 _ A11.out).mono ?_); rintro e w' ⟨rfl, ⟨nd, rfl⟩⟩) | (go_at_call 12; (with_reducible refine (num_Zig.calls a1 t136 _ A12.out).mono ?_); rintro e w' ⟨rfl, ⟨nd, rfl⟩⟩) | (go_at_call 12; (with_reducible refine (num_Zig.calls a0 t137 _ A14.out).mono ?_); rintro e w' ⟨rfl, ⟨nd, rfl⟩⟩))
            go_ret
            exact ⟨by first | rfl | (simp [errW_none, errW_some] <;> rfl) | (simp [*, errW_none, errW_some] <;> rfl), by repeat (first | (with_reducible first | exact HB.out | apply below_alloc | apply pw_below_drewN | apply below_drew1) | exact HB.out)⟩
          · rw [if_neg c13] at H
            have c13b0 : ((t135 == t136) == (a0 == a1)) = false := by simpa using c13
            (try (have c13b1 : decide ((t135 == t136) = (a0 == a1)) = false := by simpa using c13))
            (try (have c13b2 : ((t135 == t136) == (a0 == a1)) = false := by simpa using c13))
            (try (have c13b3 : ¬ ((t135 == t136) = (a0 == a1)) := by simpa using c13))
            clear c13
            obtain rfl := Option.some.inj H
            go_wp2_with (first | (go_at_call 12; (with_reducible refine (num_Zig.calls a0 t135 _ A11.out).mono ?_); rintro e w' ⟨rfl, ⟨nd, rfl⟩⟩) | (go_at_call 12; (with_reducible refine (num_Zig.calls a1 t136 _ A12.out).mono ?_); rintro e w' ⟨rfl, ⟨nd, rfl⟩⟩))
            go_ret
            exact ⟨by first | rfl | (simp [errW_none, errW_some] <;> rfl) | (simp [*, errW_none, errW_some] <;> rfl), by repeat (first | (with_reducible first | exact HB.out | apply below_alloc | apply pw_below_drewN | apply below_drew1) | exact HB.out)⟩
        · replace c10 := Bool.eq_false_iff.mpr c10
          subst c10
          have H1 : (some false) = some r := by rw [if_neg (show ¬ (false = true) by decide)] at H; exact H
          clear H
          have H := H1
          clear H1
          obtain rfl := Option.some.inj H
          go_wp2
          go_ret
          exact ⟨by first | rfl | (simp [errW_none, errW_some] <;> rfl) | (simp [*, errW_none, errW_some] <;> rfl), by repeat (first | (with_reducible first | exact HB.out | apply below_alloc | apply pw_below_drewN | apply below_drew1) | exact HB.out)⟩

/-- THE ONE PURE STATEMENT of ferrymanlaw01_NumZigs: yours. -/
def ferrymanlaw01_NumZigs.Pure : Prop := ∀ (a0 : Int) (a1 : Int), (Lit.int .i64 a0).wf = true → (Lit.int .i64 a1).wf = true → ∃ k, ferrymanlaw01_NumZigs.f k a0 a1 = some true
theorem ferrymanlaw01_NumZigs.walk (P : ferrymanlaw01_NumZigs.Pure) (a0 : Int) (a1 : Int) (w : World) (w0 : (Lit.int .i64 a0).wf = true) (w1 : (Lit.int .i64 a1).wf = true) :
    Calls Try.prog 4 #[.int .i64 a0, .int .i64 a1] w fun e w' => e = .returned (.bool true) ∧ Below w.heap.size w w' := by
  obtain ⟨k, h⟩ := P a0 a1 w0 w1
  refine (ferrymanlaw01_NumZigs.calls k a0 a1 true w h).mono ?_
  rintro e w' ⟨rfl, hd⟩
  exact ⟨rfl, hd⟩

end Go.Proofs.Ytenfedpbkjdicaa.PNumZigs
