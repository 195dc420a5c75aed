/- What this text proves: the functions that a law reaches, as functions on numbers and lists, and that Go's come to their answers; no condition. Written by the kit's print program, turned (wip/tools/patch_print.py). -/
import Derived.Test.YtenfedpbkjdicaaQNumBackx0
import Derived.Test.YtenfedpbkjdicaaQNumBackx1
namespace Go.Proofs.Ytenfedpbkjdicaa.QNumBack
open Go.RowKit Go.Proofs.YtenfedpbkjdicaaW.PrintWords Go.Proofs.YtenfedpbkjdicaaW.PrintLast Go.Proofs.YtenfedpbkjdicaaW.PrintMore
attribute [local go_sem] max2_int min2_int max_two min_two max_three min_three max_four min_four   -- for this text's walks alone
set_option linter.unusedVariables false
set_option linter.unusedSimpArgs false

/-! ### num_GetSigned: function 23 -/
def num_GetSigned.f (k : Nat) (l0 : List Int) : Option (Int × Int) := (num_read.f k l0).bind fun bt139 => (if bt139.2 = 0 then (some (0, 0)) else ((num_Zag.f bt139.1).bind fun t141 => (some (t141, bt139.2))))
theorem num_GetSigned.mono : ∀ a0 k, LeO (num_GetSigned.f k a0) (num_GetSigned.f (k + 1) a0) := by
  intro a0 k
  unfold num_GetSigned.f
  repeat' first
      | (with_reducible exact num_read.mono _ _)
      | (with_reducible exact LeO.refl _)
      | (with_reducible exact LeO.none _)
      | (with_reducible refine LeO.ite ?_ ?_)
      | (with_reducible refine LeO.bind ?_ (fun _ => ?_))
      | exact num_read.mono _ _
      | exact LeO.none _
      | refine LeO.ite ?_ ?_
      | refine LeO.bind ?_ (fun _ => ?_)
set_option maxHeartbeats 8000000 in
set_option maxRecDepth 100000 in
theorem num_GetSigned.calls (k : Nat) (A0 : Option Addr) (c0 : Nat) (l0 : List Int) (r1 : Int) (r2 : Int) (w : World) (hr0 : Kd.C (Kd.int .u8) w A0 l0.length l0) (hc0 : l0.length ≤ c0) (h : num_GetSigned.f k l0 = some (r1, r2)) :
    Calls Try.prog 23 #[.slice A0 l0.length c0] w fun e w' => e = .returned (.tuple #[.int .i64 r1, .int .i64 r2]) ∧ Below w.heap.size w w' := by
  have HR0 := Aside0.mk hr0
  have HC0 := Aside0.mk hc0
  clear hr0 hc0
  have HB := Aside0.mk (Below.refl w.heap.size w)
  have H : ((num_read.f k l0).bind fun bt139 => (if bt139.2 = 0 then (some (0, 0)) else ((num_Zag.f bt139.1).bind fun t141 => (some (t141, bt139.2))))) = some (r1, r2) := h
  clear h
  replace H := Option.bind_eq_some_iff.mp H
  obtain ⟨⟨t139, t140⟩, A20, H⟩ := H
  replace H : (if t140 = 0 then (some (0, 0)) else ((num_Zag.f t139).bind fun t141 => (some (t141, t140)))) = some (r1, r2) := H
  have A2 := Aside0.mk A20
  clear A20
  by_cases c3 : t140 = 0
  · rw [if_pos c3] at H
    have c3b0 : (t140 == 0) = true := beq_iff_eq.mpr c3
    have c3b1 : (t140 != 0) = false := bne_eq_false_iff_eq.mpr c3
    clear c3
    simp only [Option.some.injEq, Prod.mk.injEq] at H
    obtain ⟨rfl, rfl⟩ := H
    go_enter Try.func23, Try.ntmps23
    go_wp2_with (first | ((with_reducible refine gate_callee (f := 31) rfl ?_); refine goesL_ (some 8) rfl rfl Try.func31 (by kernel_rfl) rfl #[.slice A0 l0.length c0] rfl (by (try simp only [List.map_toArray, List.map_cons, List.map_nil]); first | done | rfl | (simp only [List.length_drop, List.length_take]; rfl)) ?_; (with_reducible refine (num_read.calls k _ _ l0 t139 t140 _ ?side1 ?side2 A2.out).mono ?_); (case side1 => repeat (first | exact HR0.out | (with_reducible refine Kd.C_alloc ?_ _) | (with_reducible refine Kd.C_drewN ?_ _) | (with_reducible refine Kd.C_drew ?_))); (case side2 => exact HC0.out); rintro e w4 ⟨rfl, hb⟩; refine ⟨_, rfl, ?_⟩; have n0_ := Aside0.mk (below_step (by repeat (first | (with_reducible first | exact HB.out | apply below_alloc | apply pw_below_drewN | apply below_drew1) | exact HB.out)) hb); clear HB; have HB := n0_; clear n0_; (try clear hb); (try clear hb2); (try clear hk); (try clear hi)))
    go_ret2
    exact ⟨by first | rfl | (simp [errW_none, errW_some] <;> rfl) | (simp [*, errW_none, errW_some] <;> rfl), by repeat (first | (with_reducible first | exact HB.out | apply below_alloc | apply pw_below_drewN | apply below_drew1) | exact HB.out)⟩
  · rw [if_neg c3] at H
    have c3b0 : (t140 == 0) = false := beq_eq_false_iff_ne.mpr c3
    have c3b1 : (t140 != 0) = true := bne_iff_ne.mpr c3
    replace H := Option.bind_eq_some_iff.mp H
    obtain ⟨t141, A50, H⟩ := H
    replace H : (some (t141, t140)) = some (r1, r2) := H
    have A5 := Aside0.mk A50
    clear A50
    simp only [Option.some.injEq, Prod.mk.injEq] at H
    obtain ⟨rfl, rfl⟩ := H
    go_enter Try.func23, Try.ntmps23
    have tok1_ : True := trivial; have tok2_ : True := trivial
    go_wp2_with (first | ((with_reducible refine gate_callee (f := 31) rfl ?_); clear tok1_; refine goesL_ (some 8) rfl rfl Try.func31 (by kernel_rfl) rfl #[.slice A0 l0.length c0] rfl (by (try simp only [List.map_toArray, List.map_cons, List.map_nil]); first | done | rfl | (simp only [List.length_drop, List.length_take]; rfl)) ?_; (with_reducible refine (num_read.calls k _ _ l0 t139 t140 _ ?side1 ?side2 A2.out).mono ?_); (case side1 => repeat (first | exact HR0.out | (with_reducible refine Kd.C_alloc ?_ _) | (with_reducible refine Kd.C_drewN ?_ _) | (with_reducible refine Kd.C_drew ?_))); (case side2 => exact HC0.out); rintro e w6 ⟨rfl, hb⟩; refine ⟨_, rfl, ?_⟩; have n0_ := Aside0.mk (below_step (by repeat (first | (with_reducible first | exact HB.out | apply below_alloc | apply pw_below_drewN | apply below_drew1) | exact HB.out)) hb); clear HB; have HB := n0_; clear n0_; (try clear hb); (try clear hb2); (try clear hk); (try clear hi)) | ((with_reducible refine gate_callee (f := 20) rfl ?_); clear tok2_; refine goesL_ (some 14) rfl rfl Try.func20 (by kernel_rfl) rfl #[.int .u64 t139] rfl (by (try simp only [List.map_toArray, List.map_cons, List.map_nil]); first | done | rfl | (simp only [List.length_drop, List.length_take]; rfl)) ?_; (with_reducible refine (num_Zag.calls t139 t141 _ A5.out).mono ?_); rintro e w' ⟨rfl, ⟨nd, rfl⟩⟩; refine ⟨_, rfl, ?_⟩))
    go_ret2
    exact ⟨by first | rfl | (simp [errW_none, errW_some] <;> rfl) | (simp [*, errW_none, errW_some] <;> rfl), by repeat (first | (with_reducible first | exact HB.out | apply below_alloc | apply pw_below_drewN | apply below_drew1) | exact HB.out)⟩

/-! ### num_Fixed: function 26 -/
def num_Fixed.l0 : Nat → List Int → Int → Int → Int → Option (Int)
  | 0, _, _, _, _ => none
  | k + 1, x0, x3, x7, x8 => if x8 < x7 then (if 0 ≤ x8 then (if x8 < (x0.length : Int) then (if 0 ≤ (wrap64 (8 * x8)) then (num_Fixed.l0 k x0 (Go.bits .or .u64 x3 (shl .u64 (IntKind.u64.wrap (rd x0 x8)) (wrap64 (8 * x8)))) x7 (wrap64 (x8 + 1))) else (none)) else (none)) else (none)) else (some x3)
def num_Fixed.f (k : Nat) (l0 : List Int) : Option (Int) := num_Fixed.l0 k l0 0 (mn (l0.length : Int) 8) 0
theorem num_Fixed.mono_l : ∀ k, (∀ y0 y1 y2 y3, LeO (num_Fixed.l0 k y0 y1 y2 y3) (num_Fixed.l0 (k + 1) y0 y1 y2 y3))
  | 0 => fun _ _ _ _ r h => by simp [num_Fixed.l0] at h
  | k + 1 => by
    have ih0 := num_Fixed.mono_l k
    · intro y0 y1 y2 y3
      unfold num_Fixed.l0
      repeat' first
      | (with_reducible exact ih0 _ _ _ _)
      | (with_reducible exact LeO.refl _)
      | (with_reducible exact LeO.none _)
      | (with_reducible refine LeO.ite ?_ ?_)
      | (with_reducible refine LeO.bind ?_ (fun _ => ?_))
      | exact ih0 _ _ _ _
      | exact LeO.none _
      | refine LeO.ite ?_ ?_
      | refine LeO.bind ?_ (fun _ => ?_)
theorem num_Fixed.mono : ∀ a0 k, LeO (num_Fixed.f k a0) (num_Fixed.f (k + 1) a0) := by
  intro a0 k
  have ih0 := num_Fixed.mono_l k
  unfold num_Fixed.f
  repeat' first
      | (with_reducible exact ih0 _ _ _ _)
      | (with_reducible exact LeO.refl _)
      | (with_reducible exact LeO.none _)
      | (with_reducible refine LeO.ite ?_ ?_)
      | (with_reducible refine LeO.bind ?_ (fun _ => ?_))
      | exact ih0 _ _ _ _
      | exact LeO.none _
      | refine LeO.ite ?_ ?_
      | refine LeO.bind ?_ (fun _ => ?_)
set_option maxHeartbeats 8000000 in
set_option maxRecDepth 100000 in
theorem num_Fixed.calls (k : Nat) (A0 : Option Addr) (c0 : Nat) (l0 : List Int) (r : Int) (w : World) (hr0 : Kd.C (Kd.int .u8) w A0 l0.length l0) (hc0 : l0.length ≤ c0) (h : num_Fixed.f k l0 = some r) :
    Calls Try.prog 26 #[.slice A0 l0.length c0] w fun e w' => e = .returned (.int .u64 r) ∧ Below w.heap.size w w' := by
  have HR0 := Aside0.mk hr0
  have HC0 := Aside0.mk hc0
  clear hr0 hc0
  have HB := Aside0.mk (Below.refl w.heap.size w)
  have H : (num_Fixed.l0 k l0 0 (mn (l0.length : Int) 8) 0) = some r := h
  clear h
  obtain ⟨ji2, hji2⟩ : ∃ j_ : Int, (mn (l0.length : Int) 8) = j_ := ⟨_, rfl⟩
  replace H : (num_Fixed.l0 k l0 0 ji2 0) = some r := by first | (rw [hji2] at H; exact H) | (simp only [hji2] at H ⊢; exact H)
  (try (have hji2h : ji2 ≤ 8 := by (rw [← hji2]; unfold mn; (repeat' split) <;> omega)))
  (try (have hji2g : ji2 ≤ 64 := by omega))
  (try (have hji2l : 0 ≤ ji2 := by (rw [← hji2]; unfold mn; (repeat' split) <;> omega)))
  (try (have hji2m : 0 ≤ ji2 := by omega))
  have hji2_ : (if 8 < (l0.length : Int) then 8 else (l0.length : Int)) = ji2 := hji2
  have H' := Aside0.mk H
  clear H
  go_enter Try.func26, Try.ntmps26
  go_wp2
  go_loopg [3, 8] k (fun kq v3 v8 w' => ∃ (x3_1 : Int) (x8_1 : Int), v3 = .int .u64 x3_1 ∧ v8 = .int .i64 x8_1 ∧ Aside0 (num_Fixed.l0 kq l0 x3_1 ji2 x8_1 = some r) ∧ Aside0 (kq ≤ k) ∧ Aside0 (Below w.heap.size w w'))
  case atStart => exact ⟨(0), (0), (by first | rfl | (simp; done) | (simp [*]; done)), (by first | rfl | (simp; done) | (simp [*]; done)), H', ⟨Nat.le_refl _⟩, ⟨by repeat (first | (with_reducible first | exact HB.out | apply below_alloc | apply pw_below_drewN | apply below_drew1) | exact HB.out)⟩⟩
  case round =>
    clear H'
    try clear c2
    try clear p2
    obtain ⟨x3_1, x8_1, rfl, rfl, HA, HK1, HB⟩ := hrel
    cases gk with
    | zero => exact absurd HA.out (by simp [num_Fixed.l0])
    | succ k1 =>
      have H := HA.out
      clear HA
      simp only [num_Fixed.l0] at H
      by_cases c3 : x8_1 < ji2
      · rw [if_pos c3] at H
        have c3b0 : decide (x8_1 < ji2) = true := decide_eq_true c3
        clear c3
        by_cases c4 : 0 ≤ x8_1
        · rw [if_pos c4] at H
          have c4b0 : decide (0 ≤ x8_1) = true := decide_eq_true c4
          clear c4
          by_cases c5 : x8_1 < (l0.length : Int)
          · rw [if_pos c5] at H
            have c5b0 : decide (x8_1 < (l0.length : Int)) = true := decide_eq_true c5
            clear c5
            obtain ⟨ji6, hji6⟩ : ∃ j_ : Int, (wrap64 (8 * x8_1)) = j_ := ⟨_, rfl⟩
            replace H : (if 0 ≤ (ji6) then (num_Fixed.l0 k1 l0 (Go.bits .or .u64 x3_1 (shl .u64 (IntKind.u64.wrap (rd l0 x8_1)) (ji6))) ji2 (wrap64 (x8_1 + 1))) else (none)) = some r := by first | (rw [hji6] at H; exact H) | (simp only [hji6] at H ⊢; exact H)
            have hji6w : (IntKind.i64.wrap (8 * x8_1)) = ji6 := (i64_w _).trans hji6
            by_cases c7 : 0 ≤ (ji6)
            · rw [if_pos c7] at H
              have c7b0 := eq_true c7
              have c7b1 : decide (0 ≤ (ji6)) = true := decide_eq_true c7
              clear c7
              obtain ⟨ji8, hji8⟩ : ∃ j_ : Int, (shl .u64 (IntKind.u64.wrap (rd l0 x8_1)) (ji6)) = j_ := ⟨_, rfl⟩
              replace H : (num_Fixed.l0 k1 l0 (Go.bits .or .u64 x3_1 (ji8)) ji2 (wrap64 (x8_1 + 1))) = some r := by first | (rw [hji8] at H; exact H) | (simp only [hji8] at H ⊢; exact H)
              have hji8_ : (IntKind.u64.wrap ((IntKind.u64.wrap (rd l0 x8_1)) * 2 ^ min (ji6).toNat 64)) = ji8 := hji8
              have hji8z : (ji6) ≤ 64 → (IntKind.u64.wrap ((IntKind.u64.wrap (rd l0 x8_1)) * 2 ^ (ji6).toNat)) = ji8 := shl_small hji8
              have H' := Aside0.mk H
              clear H
              have p142 : 0 ≤ (x8_1 : Int) := of_decide_eq_true (by first | (with_reducible assumption) | assumption)
              have q142 : x8_1 < (l0.length : Int) := of_decide_eq_true (by first | (with_reducible assumption) | assumption)
              obtain ⟨ad142, e142, hx142_0⟩ := Kd.at_int HR0.out x8_1 p142 q142
              cases e142
              replace hx142_0 := (HB.out.cell (World.block_lt_of_cell? w _ hx142_0)).trans hx142_0
              replace p142 := eq_true p142
              replace q142 := eq_true q142
              go_wp2
              go_roundg k1
              case measure => have := HK1.out; omega
              case rel => exact ⟨(Go.bits .or .u64 x3_1 (ji8)), (wrap64 (x8_1 + 1)), (by first | rfl | (simp; done) | (simp only [← hji8] <;> (first | rfl | simp)) | (simp [*]; done)), (by first | rfl | (simp; done) | (simp [*]; done)), H', ⟨by have := HK1.out; omega⟩, ⟨by repeat (first | (with_reducible first | exact HB.out | apply below_alloc | apply pw_below_drewN | apply below_drew1) | exact HB.out)⟩⟩
            · rw [if_neg c7] at H
              exact absurd H (by simp)
          · rw [if_neg c5] at H
            exact absurd H (by simp)
        · rw [if_neg c4] at H
          exact absurd H (by simp)
      · rw [if_neg c3] at H
        have c3b0 : decide (x8_1 < ji2) = false := decide_eq_false c3
        clear c3
        obtain rfl := Option.some.inj H
        go_wp2
        go_ret
        exact ⟨by first | rfl | (simp [errW_none, errW_some] <;> rfl) | (simp only [← hji2]; first | rfl | (simp [errW_none, errW_some] <;> rfl)) | (simp [*, errW_none, errW_some] <;> rfl), by repeat (first | (with_reducible first | exact HB.out | apply below_alloc | apply pw_below_drewN | apply below_drew1) | exact HB.out)⟩

/-! ### ferrymanlaw01_NumBack: function 9 -/
mutual
def ferrymanlaw01_NumBack.j0 : Nat → Int → Int → Bool → List Int → Int → Int → List Int → Int → Int → Bool → Option (Bool)
  | 0, _, _, _, _, _, _, _, _, _, _ => none
  | k + 1, x0, x1, x7, x8, x9, x10, x11, x12, x13, x14 => if (x14 != (decide ((x8.length : Int) > 0))) = true then (ferrymanlaw01_NumBack.j1 k x0 x1 x7 x11 x12 x13 true) else (if x14 = true then (if x9 = x0 then (ferrymanlaw01_NumBack.j1 k x0 x1 x7 x11 x12 x13 (x10 != (x8.length : Int))) else (ferrymanlaw01_NumBack.j1 k x0 x1 x7 x11 x12 x13 true)) else (ferrymanlaw01_NumBack.j1 k x0 x1 x7 x11 x12 x13 false))
def ferrymanlaw01_NumBack.j1 : Nat → Int → Int → Bool → List Int → Int → Int → Bool → Option (Bool)
  | 0, _, _, _, _, _, _, _ => none
  | k + 1, x0, x1, x7, x11, x12, x13, x64 => if x64 = true then (some false) else (if x7 = true then (if x12 = x0 then (if x13 = (x11.length : Int) then ((num_Zig.f x0).bind fun t166 => ((num_Zag.f t166).bind fun t167 => (if t167 = x0 then ((num_Zag.f x1).bind fun t168 => ((num_Zig.f t168).bind fun t169 => (if t169 = x1 then ((num_Fixed64.f k x1).bind fun t170 => ((num_Fixed.f k t170).bind fun t173 => (if t173 = x1 then ((num_Fixed32.f k ((x1) % 4294967296)).bind fun t174 => ((num_Fixed.f k t174).bind fun t177 => (some (t177 == (Int.tmod x1 4294967296))))) else (some false)))) else (some false)))) else (some false)))) else (some false)) else (some false)) else (some false))
end
def ferrymanlaw01_NumBack.f (k : Nat) (a0 : Int) (a1 : Int) (l2 : List Int) : Option (Bool) := (ferrymanlaw01_awake.f k).bind fun t143 => (if (l2.length : Int) > 100 then (some t143) else ((num_Put.f k ([] : List Int) a0).bind fun t144 => (if ([] : List Int).length + t144.length < 140737488355328 then ((some (([] : List Int) ++ t144 : List Int)).bind fun y147 => (if y147.length + l2.length < 140737488355328 then ((num_Get.f k (y147 ++ l2)).bind fun bt153 => ((num_PutSigned.f k ([] : List Int) a0).bind fun t155 => (if ([] : List Int).length + t155.length < 140737488355328 then ((some (([] : List Int) ++ t155 : List Int)).bind fun y158 => (if y158.length + l2.length < 140737488355328 then ((num_GetSigned.f k (y158 ++ l2)).bind fun bt164 => (if a0 ≥ 0 then (ferrymanlaw01_NumBack.j0 k a0 a1 t143 t144 bt153.1 bt153.2 t155 bt164.1 bt164.2 (decide (a0 < 4611686018427387904))) else (ferrymanlaw01_NumBack.j0 k a0 a1 t143 t144 bt153.1 bt153.2 t155 bt164.1 bt164.2 false))) else (none))) else (none)))) else (none))) else (none))))
theorem ferrymanlaw01_NumBack.mono_l : ∀ k, (∀ y0 y1 y2 y3 y4 y5 y6 y7 y8 y9, LeO (ferrymanlaw01_NumBack.j0 k y0 y1 y2 y3 y4 y5 y6 y7 y8 y9) (ferrymanlaw01_NumBack.j0 (k + 1) y0 y1 y2 y3 y4 y5 y6 y7 y8 y9)) ∧ (∀ y0 y1 y2 y3 y4 y5 y6, LeO (ferrymanlaw01_NumBack.j1 k y0 y1 y2 y3 y4 y5 y6) (ferrymanlaw01_NumBack.j1 (k + 1) y0 y1 y2 y3 y4 y5 y6))
  | 0 => ⟨fun _ _ _ _ _ _ _ _ _ _ r h => by simp [ferrymanlaw01_NumBack.j0] at h, fun _ _ _ _ _ _ _ r h => by simp [ferrymanlaw01_NumBack.j1] at h⟩
  | k + 1 => by
    obtain ⟨ih0, ih1⟩ := ferrymanlaw01_NumBack.mono_l k
    refine ⟨?_, ?_⟩
    · intro y0 y1 y2 y3 y4 y5 y6 y7 y8 y9
      unfold ferrymanlaw01_NumBack.j0
      repeat' first
      | (with_reducible exact ih0 _ _ _ _ _ _ _ _ _ _)
      | (with_reducible exact ih1 _ _ _ _ _ _ _)
      | (with_reducible exact ferrymanlaw01_awake.mono _)
      | (with_reducible exact num_Fixed.mono _ _)
      | (with_reducible exact num_Fixed32.mono _ _)
      | (with_reducible exact num_Fixed64.mono _ _)
      | (with_reducible exact num_Get.mono _ _)
      | (with_reducible exact num_GetSigned.mono _ _)
      | (with_reducible exact num_Put.mono _ _ _)
      | (with_reducible exact num_PutSigned.mono _ _ _)
      | (with_reducible exact LeO.refl _)
      | (with_reducible exact LeO.none _)
      | (with_reducible refine LeO.ite ?_ ?_)
      | (with_reducible refine LeO.bind ?_ (fun _ => ?_))
      | exact ih0 _ _ _ _ _ _ _ _ _ _
      | exact ih1 _ _ _ _ _ _ _
      | exact ferrymanlaw01_awake.mono _
      | exact num_Fixed.mono _ _
      | exact num_Fixed32.mono _ _
      | exact num_Fixed64.mono _ _
      | exact num_Get.mono _ _
      | exact num_GetSigned.mono _ _
      | exact num_Put.mono _ _ _
      | exact num_PutSigned.mono _ _ _
      | exact LeO.none _
      | refine LeO.ite ?_ ?_
      | refine LeO.bind ?_ (fun _ => ?_)
    · intro y0 y1 y2 y3 y4 y5 y6
      unfold ferrymanlaw01_NumBack.j1
      repeat' first
      | (with_reducible exact ih0 _ _ _ _ _ _ _ _ _ _)
      | (with_reducible exact ih1 _ _ _ _ _ _ _)
      | (with_reducible exact ferrymanlaw01_awake.mono _)
      | (with_reducible exact num_Fixed.mono _ _)
      | (with_reducible exact num_Fixed32.mono _ _)
      | (with_reducible exact num_Fixed64.mono _ _)
      | (with_reducible exact num_Get.mono _ _)
      | (with_reducible exact num_GetSigned.mono _ _)
      | (with_reducible exact num_Put.mono _ _ _)
      | (with_reducible exact num_PutSigned.mono _ _ _)
      | (with_reducible exact LeO.refl _)
      | (with_reducible exact LeO.none _)
      | (with_reducible refine LeO.ite ?_ ?_)
      | (with_reducible refine LeO.bind ?_ (fun _ => ?_))
      | exact ih0 _ _ _ _ _ _ _ _ _ _
      | exact ih1 _ _ _ _ _ _ _
      | exact ferrymanlaw01_awake.mono _
      | exact num_Fixed.mono _ _
      | exact num_Fixed32.mono _ _
      | exact num_Fixed64.mono _ _
      | exact num_Get.mono _ _
      | exact num_GetSigned.mono _ _
      | exact num_Put.mono _ _ _
      | exact num_PutSigned.mono _ _ _
      | exact LeO.none _
      | refine LeO.ite ?_ ?_
      | refine LeO.bind ?_ (fun _ => ?_)
theorem ferrymanlaw01_NumBack.mono : ∀ a0 a1 a2 k, LeO (ferrymanlaw01_NumBack.f k a0 a1 a2) (ferrymanlaw01_NumBack.f (k + 1) a0 a1 a2) := by
  intro a0 a1 a2 k
  obtain ⟨ih0, ih1⟩ := ferrymanlaw01_NumBack.mono_l k
  unfold ferrymanlaw01_NumBack.f
  repeat' first
      | (with_reducible exact ih0 _ _ _ _ _ _ _ _ _ _)
      | (with_reducible exact ih1 _ _ _ _ _ _ _)
      | (with_reducible exact ferrymanlaw01_awake.mono _)
      | (with_reducible exact num_Fixed.mono _ _)
      | (with_reducible exact num_Fixed32.mono _ _)
      | (with_reducible exact num_Fixed64.mono _ _)
      | (with_reducible exact num_Get.mono _ _)
      | (with_reducible exact num_GetSigned.mono _ _)
      | (with_reducible exact num_Put.mono _ _ _)
      | (with_reducible exact num_PutSigned.mono _ _ _)
      | (with_reducible exact LeO.refl _)
      | (with_reducible exact LeO.none _)
      | (with_reducible refine LeO.ite ?_ ?_)
      | (with_reducible refine LeO.bind ?_ (fun _ => ?_))
      | exact ih0 _ _ _ _ _ _ _ _ _ _
      | exact ih1 _ _ _ _ _ _ _
      | exact ferrymanlaw01_awake.mono _
      | exact num_Fixed.mono _ _
      | exact num_Fixed32.mono _ _
      | exact num_Fixed64.mono _ _
      | exact num_Get.mono _ _
      | exact num_GetSigned.mono _ _
      | exact num_Put.mono _ _ _
      | exact num_PutSigned.mono _ _ _
      | exact LeO.none _
      | refine LeO.ite ?_ ?_
      | refine LeO.bind ?_ (fun _ => ?_)
set_option maxHeartbeats 8000000 in
set_option maxRecDepth 100000 in
theorem ferrymanlaw01_NumBack.calls (k : Nat) (a0 : Int) (a1 : Int) (A2 : Option Addr) (c2 : Nat) (l2 : List Int) (r : Bool) (w : World) (hr2 : Kd.C (Kd.int .u8) w A2 l2.length l2) (hc2 : l2.length ≤ c2) (h : ferrymanlaw01_NumBack.f k a0 a1 l2 = some r) :
    Calls Try.prog 9 #[.int .i64 a0, .int .u64 a1, .slice A2 l2.length c2] w fun e w' => e = .returned (.bool r) ∧ Below w.heap.size w w' := by
  have HR2 := Aside0.mk hr2
  have HC2 := Aside0.mk hc2
  clear hr2 hc2
  have HB := Aside0.mk (Below.refl w.heap.size w)
  have H : ((ferrymanlaw01_awake.f k).bind fun t143 => (if (l2.length : Int) > 100 then (some t143) else ((num_Put.f k ([] : List Int) a0).bind fun t144 => (if ([] : List Int).length + t144.length < 140737488355328 then ((some (([] : List Int) ++ t144 : List Int)).bind fun y147 => (if y147.length + l2.length < 140737488355328 then ((num_Get.f k (y147 ++ l2)).bind fun bt153 => ((num_PutSigned.f k ([] : List Int) a0).bind fun t155 => (if ([] : List Int).length + t155.length < 140737488355328 then ((some (([] : List Int) ++ t155 : List Int)).bind fun y158 => (if y158.length + l2.length < 140737488355328 then ((num_GetSigned.f k (y158 ++ l2)).bind fun bt164 => (if a0 ≥ 0 then (ferrymanlaw01_NumBack.j0 k a0 a1 t143 t144 bt153.1 bt153.2 t155 bt164.1 bt164.2 (decide (a0 < 4611686018427387904))) else (ferrymanlaw01_NumBack.j0 k a0 a1 t143 t144 bt153.1 bt153.2 t155 bt164.1 bt164.2 false))) else (none))) else (none)))) else (none))) else (none))))) = some r := h
  clear h
  replace H := Option.bind_eq_some_iff.mp H
  obtain ⟨t143, A40, H⟩ := H
  replace H : (if (l2.length : Int) > 100 then (some t143) else ((num_Put.f k ([] : List Int) a0).bind fun t144 => (if ([] : List Int).length + t144.length < 140737488355328 then ((some (([] : List Int) ++ t144 : List Int)).bind fun y147 => (if y147.length + l2.length < 140737488355328 then ((num_Get.f k (y147 ++ l2)).bind fun bt153 => ((num_PutSigned.f k ([] : List Int) a0).bind fun t155 => (if ([] : List Int).length + t155.length < 140737488355328 then ((some (([] : List Int) ++ t155 : List Int)).bind fun y158 => (if y158.length + l2.length < 140737488355328 then ((num_GetSigned.f k (y158 ++ l2)).bind fun bt164 => (if a0 ≥ 0 then (ferrymanlaw01_NumBack.j0 k a0 a1 t143 t144 bt153.1 bt153.2 t155 bt164.1 bt164.2 (decide (a0 < 4611686018427387904))) else (ferrymanlaw01_NumBack.j0 k a0 a1 t143 t144 bt153.1 bt153.2 t155 bt164.1 bt164.2 false))) else (none))) else (none)))) else (none))) else (none)))) = some r := H
  have A4 := Aside0.mk A40
  clear A40
  by_cases c5 : (l2.length : Int) > 100
  · rw [if_pos c5] at H
    have c5b0 : decide (100 < (l2.length : Int)) = true := decide_eq_true c5
    have c5b1 : decide (100 < l2.length) = true := decide_eq_true (by omega)
    clear c5
    obtain rfl := Option.some.inj H
    go_enter Try.func9, Try.ntmps9
    go_wp2_with (first | ((with_reducible refine gate_callee (f := 10) rfl ?_); refine goesL_ (some 15) rfl rfl Try.func10 (by kernel_rfl) rfl #[] rfl (by (try simp only [List.map_toArray, List.map_cons, List.map_nil]); first | done | rfl | (simp only [List.length_drop, List.length_take]; rfl)) ?_; (with_reducible refine (ferrymanlaw01_awake.calls k  t143 _ A4.out).mono ?_); rintro e w6 ⟨rfl, hb⟩; refine ⟨_, rfl, ?_⟩; have n0_ := Aside0.mk (below_step (by repeat (first | (with_reducible first | exact HB.out | apply below_alloc | apply pw_below_drewN | apply below_drew1) | exact HB.out)) hb); clear HB; have HB := n0_; clear n0_; (try clear hb); (try clear hb2); (try clear hk); (try clear hi)))
    go_ret
    exact ⟨by first | rfl | (simp [errW_none, errW_some] <;> rfl) | (simp [*, errW_none, errW_some] <;> rfl), by repeat (first | (with_reducible first | exact HB.out | apply below_alloc | apply pw_below_drewN | apply below_drew1) | exact HB.out)⟩
  · rw [if_neg c5] at H
    have c5b0 : decide (100 < (l2.length : Int)) = false := decide_eq_false c5
    have c5b1 : decide (100 < l2.length) = false := decide_eq_false (by omega)
    clear c5
    replace H := Option.bind_eq_some_iff.mp H
    obtain ⟨t144, A70, H⟩ := H
    replace H : (if ([] : List Int).length + t144.length < 140737488355328 then ((some (([] : List Int) ++ t144 : List Int)).bind fun y147 => (if y147.length + l2.length < 140737488355328 then ((num_Get.f k (y147 ++ l2)).bind fun bt153 => ((num_PutSigned.f k ([] : List Int) a0).bind fun t155 => (if ([] : List Int).length + t155.length < 140737488355328 then ((some (([] : List Int) ++ t155 : List Int)).bind fun y158 => (if y158.length + l2.length < 140737488355328 then ((num_GetSigned.f k (y158 ++ l2)).bind fun bt164 => (if a0 ≥ 0 then (ferrymanlaw01_NumBack.j0 k a0 a1 t143 t144 bt153.1 bt153.2 t155 bt164.1 bt164.2 (decide (a0 < 4611686018427387904))) else (ferrymanlaw01_NumBack.j0 k a0 a1 t143 t144 bt153.1 bt153.2 t155 bt164.1 bt164.2 false))) else (none))) else (none)))) else (none))) else (none)) = some r := H
    have A7 := Aside0.mk A70
    clear A70
    by_cases c8 : ([] : List Int).length + t144.length < 140737488355328
    · rw [if_pos c8] at H
      have LMc8 := Aside0.mk c8
      clear c8
      obtain ⟨y147, hy147⟩ : ∃ y_ : List Int, y_ = (([] : List Int) ++ t144) := ⟨_, rfl⟩
      replace H : (if y147.length + l2.length < 140737488355328 then ((num_Get.f k (y147 ++ l2)).bind fun bt153 => ((num_PutSigned.f k ([] : List Int) a0).bind fun t155 => (if ([] : List Int).length + t155.length < 140737488355328 then ((some (([] : List Int) ++ t155 : List Int)).bind fun y158 => (if y158.length + l2.length < 140737488355328 then ((num_GetSigned.f k (y158 ++ l2)).bind fun bt164 => (if a0 ≥ 0 then (ferrymanlaw01_NumBack.j0 k a0 a1 t143 t144 bt153.1 bt153.2 t155 bt164.1 bt164.2 (decide (a0 < 4611686018427387904))) else (ferrymanlaw01_NumBack.j0 k a0 a1 t143 t144 bt153.1 bt153.2 t155 bt164.1 bt164.2 false))) else (none))) else (none)))) else (none)) = some r := by first | (rw [hy147]; with_reducible exact H) | (have H2_ := (Option.bind_some _ _).symm.trans H; rw [hy147]; with_reducible exact H2_) | (have H2_ := (Option.bind_some _ _).symm.trans H; with_reducible exact H2_) | with_reducible exact H | (rw [hy147]; exact H) | exact H
      have Ny147 := Aside0.mk hy147
      clear hy147
      by_cases c9 : y147.length + l2.length < 140737488355328
      · rw [if_pos c9] at H
        have LMc9 := Aside0.mk c9
        clear c9
        obtain ⟨y150, hy150⟩ : ∃ y_ : List Int, y_ = (y147 ++ l2) := ⟨_, rfl⟩
        replace H : ((num_Get.f k y150).bind fun bt153 => ((num_PutSigned.f k ([] : List Int) a0).bind fun t155 => (if ([] : List Int).length + t155.length < 140737488355328 then ((some (([] : List Int) ++ t155 : List Int)).bind fun y158 => (if y158.length + l2.length < 140737488355328 then ((num_GetSigned.f k (y158 ++ l2)).bind fun bt164 => (if a0 ≥ 0 then (ferrymanlaw01_NumBack.j0 k a0 a1 t143 t144 bt153.1 bt153.2 t155 bt164.1 bt164.2 (decide (a0 < 4611686018427387904))) else (ferrymanlaw01_NumBack.j0 k a0 a1 t143 t144 bt153.1 bt153.2 t155 bt164.1 bt164.2 false))) else (none))) else (none)))) = some r := by first | (rw [hy150]; with_reducible exact H) | (have H2_ := (Option.bind_some _ _).symm.trans H; rw [hy150]; with_reducible exact H2_) | (have H2_ := (Option.bind_some _ _).symm.trans H; with_reducible exact H2_) | with_reducible exact H | (rw [hy150]; exact H) | exact H
        have Ny150 := Aside0.mk hy150
        clear hy150
        replace H := Option.bind_eq_some_iff.mp H
        obtain ⟨⟨t153, t154⟩, A100, H⟩ := H
        replace H : ((num_PutSigned.f k ([] : List Int) a0).bind fun t155 => (if ([] : List Int).length + t155.length < 140737488355328 then ((some (([] : List Int) ++ t155 : List Int)).bind fun y158 => (if y158.length + l2.length < 140737488355328 then ((num_GetSigned.f k (y158 ++ l2)).bind fun bt164 => (if a0 ≥ 0 then (ferrymanlaw01_NumBack.j0 k a0 a1 t143 t144 t153 t154 t155 bt164.1 bt164.2 (decide (a0 < 4611686018427387904))) else (ferrymanlaw01_NumBack.j0 k a0 a1 t143 t144 t153 t154 t155 bt164.1 bt164.2 false))) else (none))) else (none))) = some r := H
        have A10 := Aside0.mk A100
        clear A100
        replace H := Option.bind_eq_some_iff.mp H
        obtain ⟨t155, A110, H⟩ := H
        replace H : (if ([] : List Int).length + t155.length < 140737488355328 then ((some (([] : List Int) ++ t155 : List Int)).bind fun y158 => (if y158.length + l2.length < 140737488355328 then ((num_GetSigned.f k (y158 ++ l2)).bind fun bt164 => (if a0 ≥ 0 then (ferrymanlaw01_NumBack.j0 k a0 a1 t143 t144 t153 t154 t155 bt164.1 bt164.2 (decide (a0 < 4611686018427387904))) else (ferrymanlaw01_NumBack.j0 k a0 a1 t143 t144 t153 t154 t155 bt164.1 bt164.2 false))) else (none))) else (none)) = some r := H
        have A11 := Aside0.mk A110
        clear A110
        by_cases c12 : ([] : List Int).length + t155.length < 140737488355328
        · rw [if_pos c12] at H
          have LMc12 := Aside0.mk c12
          clear c12
          obtain ⟨y158, hy158⟩ : ∃ y_ : List Int, y_ = (([] : List Int) ++ t155) := ⟨_, rfl⟩
          replace H : (if y158.length + l2.length < 140737488355328 then ((num_GetSigned.f k (y158 ++ l2)).bind fun bt164 => (if a0 ≥ 0 then (ferrymanlaw01_NumBack.j0 k a0 a1 t143 t144 t153 t154 t155 bt164.1 bt164.2 (decide (a0 < 4611686018427387904))) else (ferrymanlaw01_NumBack.j0 k a0 a1 t143 t144 t153 t154 t155 bt164.1 bt164.2 false))) else (none)) = some r := by first | (rw [hy158]; with_reducible exact H) | (have H2_ := (Option.bind_some _ _).symm.trans H; rw [hy158]; with_reducible exact H2_) | (have H2_ := (Option.bind_some _ _).symm.trans H; with_reducible exact H2_) | with_reducible exact H | (rw [hy158]; exact H) | exact H
          have Ny158 := Aside0.mk hy158
          clear hy158
          by_cases c13 : y158.length + l2.length < 140737488355328
          · rw [if_pos c13] at H
            have LMc13 := Aside0.mk c13
            clear c13
            obtain ⟨y161, hy161⟩ : ∃ y_ : List Int, y_ = (y158 ++ l2) := ⟨_, rfl⟩
            replace H : ((num_GetSigned.f k y161).bind fun bt164 => (if a0 ≥ 0 then (ferrymanlaw01_NumBack.j0 k a0 a1 t143 t144 t153 t154 t155 bt164.1 bt164.2 (decide (a0 < 4611686018427387904))) else (ferrymanlaw01_NumBack.j0 k a0 a1 t143 t144 t153 t154 t155 bt164.1 bt164.2 false))) = some r := by first | (rw [hy161]; with_reducible exact H) | (have H2_ := (Option.bind_some _ _).symm.trans H; rw [hy161]; with_reducible exact H2_) | (have H2_ := (Option.bind_some _ _).symm.trans H; with_reducible exact H2_) | with_reducible exact H | (rw [hy161]; exact H) | exact H
            have Ny161 := Aside0.mk hy161
            clear hy161
            replace H := Option.bind_eq_some_iff.mp H
            obtain ⟨⟨t164, t165⟩, A140, H⟩ := H
            replace H : (if a0 ≥ 0 then (ferrymanlaw01_NumBack.j0 k a0 a1 t143 t144 t153 t154 t155 t164 t165 (decide (a0 < 4611686018427387904))) else (ferrymanlaw01_NumBack.j0 k a0 a1 t143 t144 t153 t154 t155 t164 t165 false)) = some r := H
            have A14 := Aside0.mk A140
            clear A140
            have HC15 := Aside0.mk H
            clear H
            go_enter Try.func9, Try.ntmps9
            go_upto_region 8 with (first | ((with_reducible refine gate_callee (f := 10) rfl ?_); refine goesL_ (some 15) rfl rfl Try.func10 (by kernel_rfl) rfl #[] rfl (by (try simp only [List.map_toArray, List.map_cons, List.map_nil]); first | done | rfl | (simp only [List.length_drop, List.length_take]; rfl)) ?_; (with_reducible refine (ferrymanlaw01_awake.calls k  t143 _ A4.out).mono ?_); rintro e w16 ⟨rfl, hb⟩; refine ⟨_, rfl, ?_⟩; have n0_ := Aside0.mk (below_step (by repeat (first | (with_reducible first | exact HB.out | apply below_alloc | apply pw_below_drewN | apply below_drew1) | exact HB.out)) hb); clear HB; have HB := n0_; clear n0_; (try clear hb); (try clear hb2); (try clear hk); (try clear hi)) | ((with_reducible refine gate_callee (f := 11) rfl ?_); refine goesL_ (some 21) rfl rfl Try.func11 (by kernel_rfl) rfl #[.slice none 0 0, .int .i64 a0] rfl (by (try simp only [List.map_toArray, List.map_cons, List.map_nil]); first | done | rfl | (simp only [List.length_drop, List.length_take]; rfl)) ?_; (refine (num_Put.calls k (fun k_ => some k_ = (.slice none 0 0 : Value).ownBlock) (.slice none 0 0) ([] : List Int) a0 t144 w _ ?side1 ?side2 A7.out).mono ?_); (case side1 => repeat (first | (with_reducible first | exact HB.out | apply below_alloc | apply pw_below_drewN | apply below_drew1) | exact HB.out)); (case side2 => exact Kd.R_nil _ _ _ _ _); rintro e w17 ⟨v145, rfl, ho0, hb, hkp⟩; refine ⟨_, rfl, ?_⟩; have n0_ := Aside0.mk (Kd.R_mono (ok' := fun k_ => True) ho0 (fun k_ hk_ => trivial)); have n1_ := Aside0.mk (hb); clear HB; have HO146 := n0_; have HB := n1_; clear n0_ n1_; (try clear hb); (try clear hkp); (try clear ho0); obtain ⟨Ao19, co19, eo19⟩ := Kd.R_slice HO146.out; subst eo19) | ((with_reducible refine gate_builtin (b := .append) (xs := #[.const (.slice none 0 0), .tmp 23]) rfl ?_); (try (refine gate_guard (by rfl) ?_; dsimp only)); at_builtin; refine Kd.R_append_rows (Kd.int .u8) (w0 := w) w.heap.size rfl (.const (.slice none 0 0)) (.tmp 23) 23 5 (.int .u8 0) 1 rfl Try.underlying23 info5 rfl (by decide) (by omega) (.slice none 0 0) ([] : List Int) t144 _ _ _ (fun k_ => some k_ ≠ (.slice Ao19 t144.length co19 : Value).ownBlock) (fun _ => False) rfl rfl ?aO ?aR (fun _ _ h => h) (fun _ h => h.elim) ?aF ?aB ?aS ?aL ?_; (case aR => repeat (first | exact (Kd.R_reads' HO146.out).2.2 | (with_reducible refine Kd.C_alloc ?_ _) | (with_reducible refine Kd.C_drewN ?_ _) | (with_reducible refine Kd.C_drew ?_))); (case aB => exact (by repeat (first | (with_reducible first | exact HB.out | apply below_alloc | apply pw_below_drewN | apply below_drew1) | exact HB.out))); (case aF => exact (fun k_ hk => Kd.fresh' (Kd.R_lt (by (with_reducible repeat (first | apply Kd.R_alloc | apply Kd.R_drewN | apply Kd.R_drew)); exact HO146.out)) k_ hk)); (case aO => exact ((Kd.R_nil _ _ _ _ (fun k_ => some k_ ≠ (.slice Ao19 t144.length co19 : Value).ownBlock)))); (case aS => exact (below_size (by repeat (first | (with_reducible first | exact HB.out | apply below_alloc | apply pw_below_drewN | apply below_drew1) | exact HB.out)))); (case aL => have := LMc8.out; omega); intro v148 w18 ho hb hg hat; rw [← Ny147.out] at ho; have n0_ := Aside0.mk (Kd.R_after (Kd.R_apart_nil (by (with_reducible repeat (first | apply Kd.R_alloc | apply Kd.R_drewN | apply Kd.R_drew)); exact HO146.out)) hg hat); have n1_ := Aside0.mk (hb); have n2_ := Aside0.mk (ho); clear HO146; clear HB; have HO146 := n0_; have HB := n1_; have HO149 := n2_; clear n0_ n1_ n2_; clear ho hb hg hat) | ((with_reducible refine gate_builtin (b := .append) (xs := #[.tmp 24, .tmp 25]) rfl ?_); (try (refine gate_guard (by rfl) ?_; dsimp only)); at_builtin; refine Kd.R_append_rows (Kd.int .u8) (w0 := w) w.heap.size rfl (.tmp 24) (.tmp 25) 23 5 (.int .u8 0) 1 rfl Try.underlying23 info5 rfl (by decide) (by omega) v148 y147 l2 _ _ _ (fun k_ => some k_ ≠ (.slice Ao19 t144.length co19 : Value).ownBlock) (fun _ => False) rfl rfl ?aO ?aR (fun _ _ h => h) (fun _ h => h.elim) ?aF ?aB ?aS ?aL ?_; (case aR => repeat (first | exact (Kd.C_below HR2.out HB.out) | (with_reducible refine Kd.C_alloc ?_ _) | (with_reducible refine Kd.C_drewN ?_ _) | (with_reducible refine Kd.C_drew ?_))); (case aB => exact (by repeat (first | (with_reducible first | exact HB.out | apply below_alloc | apply pw_below_drewN | apply below_drew1) | exact HB.out))); (case aF => exact (fun k_ hk => Kd.fresh' (Kd.R_lt (by (with_reducible repeat (first | apply Kd.R_alloc | apply Kd.R_drewN | apply Kd.R_drew)); exact HO146.out)) k_ hk)); (case aO => exact (by (with_reducible repeat (first | apply Kd.R_alloc | apply Kd.R_drewN | apply Kd.R_drew)); exact HO149.out)); (case aS => exact (below_size (by repeat (first | (with_reducible first | exact HB.out | apply below_alloc | apply pw_below_drewN | apply below_drew1) | exact HB.out)))); (case aL => have := LMc9.out; omega); intro v151 w20 ho hb hg hat; rw [← Ny150.out] at ho; have n0_ := Aside0.mk (Kd.R_after (ok := (fun _ => True)) (by (with_reducible repeat (first | apply Kd.R_alloc | apply Kd.R_drewN | apply Kd.R_drew)); exact HO146.out) hg hat); have n1_ := Aside0.mk (hb); have n2_ := Aside0.mk (ho); clear HO146; clear HB; clear HO149; have HO146 := n0_; have HB := n1_; have HO152 := n2_; clear n0_ n1_ n2_; clear ho hb hg hat; obtain ⟨Ao21, co21, eo21⟩ := Kd.R_slice HO152.out; subst eo21) | ((with_reducible refine gate_callee (f := 22) rfl ?_); refine goesL_ (some 27) rfl rfl Try.func22 (by kernel_rfl) rfl #[.slice Ao21 y150.length co21] rfl (by (try simp only [List.map_toArray, List.map_cons, List.map_nil]); first | done | rfl | (simp only [List.length_drop, List.length_take]; rfl)) ?_; (with_reducible refine (num_Get.calls k _ _ y150 t153 t154 _ ?side1 ?side2 A10.out).mono ?_); (case side1 => repeat (first | exact (Kd.R_reads' HO152.out).2.2 | (with_reducible refine Kd.C_alloc ?_ _) | (with_reducible refine Kd.C_drewN ?_ _) | (with_reducible refine Kd.C_drew ?_))); (case side2 => exact (Kd.R_reads' HO152.out).2.1); rintro e w22 ⟨rfl, hb⟩; refine ⟨_, rfl, ?_⟩; have n0_ := Aside0.mk (Kd.R_below (by (with_reducible repeat (first | apply Kd.R_alloc | apply Kd.R_drewN | apply Kd.R_drew)); exact HO146.out) hb); have n1_ := Aside0.mk (Kd.R_below (by (with_reducible repeat (first | apply Kd.R_alloc | apply Kd.R_drewN | apply Kd.R_drew)); exact HO152.out) hb); have n2_ := Aside0.mk (below_step (by repeat (first | (with_reducible first | exact HB.out | apply below_alloc | apply pw_below_drewN | apply below_drew1) | exact HB.out)) hb); clear HO146; clear HO152; clear HB; have HO146 := n0_; have HO152 := n1_; have HB := n2_; clear n0_ n1_ n2_; (try clear hb); (try clear hb2); (try clear hk); (try clear hi)) | ((with_reducible refine gate_callee (f := 13) rfl ?_); refine goesL_ (some 31) rfl rfl Try.func13 (by kernel_rfl) rfl #[.slice none 0 0, .int .i64 a0] rfl (by (try simp only [List.map_toArray, List.map_cons, List.map_nil]); first | done | rfl | (simp only [List.length_drop, List.length_take]; rfl)) ?_; (refine (num_PutSigned.calls k (fun k_ => some k_ = (.slice none 0 0 : Value).ownBlock) (.slice none 0 0) ([] : List Int) a0 t155 w _ ?side1 ?side2 A11.out).mono ?_); (case side1 => repeat (first | (with_reducible first | exact HB.out | apply below_alloc | apply pw_below_drewN | apply below_drew1) | exact HB.out)); (case side2 => exact Kd.R_nil _ _ _ _ _); rintro e w23 ⟨v156, rfl, ho0, hb, hkp⟩; refine ⟨_, rfl, ?_⟩; have n0_ := Aside0.mk (Kd.R_mono (ok' := fun k_ => some k_ ≠ (.slice Ao21 y150.length co21 : Value).ownBlock ∧ some k_ ≠ (v156 : Value).ownBlock) (Kd.R_keptB (HO146.out) hkp (fun k_ hk_ hs_ => (fun e_ => by simp [Value.ownBlock] at e_) hs_)) (fun k_ hk_ => ⟨hk_.1.2, fun e_ => Or.elim (ho0.1 k_ e_.symm) (fun hs_ => hk_.2.1 hs_) (fun hn_ => Nat.not_le.2 hk_.2.2 hn_)⟩)); have n1_ := Aside0.mk (Kd.R_mono (ok' := fun k_ => some k_ ≠ (.slice Ao19 t144.length co19 : Value).ownBlock ∧ some k_ ≠ (v156 : Value).ownBlock) (Kd.R_keptB (HO152.out) hkp (fun k_ hk_ hs_ => (fun e_ => by simp [Value.ownBlock] at e_) hs_)) (fun k_ hk_ => ⟨hk_.1, fun e_ => Or.elim (ho0.1 k_ e_.symm) (fun hs_ => hk_.2.1 hs_) (fun hn_ => Nat.not_le.2 hk_.2.2 hn_)⟩)); have n2_ := Aside0.mk (Kd.R_mono (ok' := fun k_ => some k_ ≠ (.slice Ao19 t144.length co19 : Value).ownBlock ∧ some k_ ≠ (.slice Ao21 y150.length co21 : Value).ownBlock) ho0 (fun k_ hk_ => ⟨Or.elim hk_ (fun hs_ => absurd hs_ (by simp [Value.ownBlock])) (fun hn_ => (Kd.fresh' (Kd.R_lt (by (with_reducible repeat (first | apply Kd.R_alloc | apply Kd.R_drewN | apply Kd.R_drew)); exact HO146.out)) k_ hn_)), Or.elim hk_ (fun hs_ => absurd hs_ (by simp [Value.ownBlock])) (fun hn_ => (Kd.fresh' (Kd.R_lt (by (with_reducible repeat (first | apply Kd.R_alloc | apply Kd.R_drewN | apply Kd.R_drew)); exact HO152.out)) k_ hn_))⟩)); have n3_ := Aside0.mk (hb); clear HO146; clear HO152; clear HB; have HO146 := n0_; have HO152 := n1_; have HO157 := n2_; have HB := n3_; clear n0_ n1_ n2_ n3_; (try clear hb); (try clear hkp); (try clear ho0); obtain ⟨Ao25, co25, eo25⟩ := Kd.R_slice HO157.out; subst eo25) | ((with_reducible refine gate_builtin (b := .append) (xs := #[.const (.slice none 0 0), .tmp 33]) rfl ?_); (try (refine gate_guard (by rfl) ?_; dsimp only)); at_builtin; refine Kd.R_append_rows (Kd.int .u8) (w0 := w) w.heap.size rfl (.const (.slice none 0 0)) (.tmp 33) 23 5 (.int .u8 0) 1 rfl Try.underlying23 info5 rfl (by decide) (by omega) (.slice none 0 0) ([] : List Int) t155 _ _ _ (fun k_ => some k_ ≠ (.slice Ao19 t144.length co19 : Value).ownBlock ∧ some k_ ≠ (.slice Ao21 y150.length co21 : Value).ownBlock ∧ some k_ ≠ (.slice Ao25 t155.length co25 : Value).ownBlock) (fun _ => False) rfl rfl ?aO ?aR (fun _ _ h => h) (fun _ h => h.elim) ?aF ?aB ?aS ?aL ?_; (case aR => repeat (first | exact (Kd.R_reads' HO157.out).2.2 | (with_reducible refine Kd.C_alloc ?_ _) | (with_reducible refine Kd.C_drewN ?_ _) | (with_reducible refine Kd.C_drew ?_))); (case aB => exact (by repeat (first | (with_reducible first | exact HB.out | apply below_alloc | apply pw_below_drewN | apply below_drew1) | exact HB.out))); (case aF => exact (fun k_ hk => ⟨Kd.fresh' (Kd.R_lt (by (with_reducible repeat (first | apply Kd.R_alloc | apply Kd.R_drewN | apply Kd.R_drew)); exact HO146.out)) k_ hk, Kd.fresh' (Kd.R_lt (by (with_reducible repeat (first | apply Kd.R_alloc | apply Kd.R_drewN | apply Kd.R_drew)); exact HO152.out)) k_ hk, Kd.fresh' (Kd.R_lt (by (with_reducible repeat (first | apply Kd.R_alloc | apply Kd.R_drewN | apply Kd.R_drew)); exact HO157.out)) k_ hk⟩)); (case aO => exact ((Kd.R_nil _ _ _ _ (fun k_ => some k_ ≠ (.slice Ao19 t144.length co19 : Value).ownBlock ∧ some k_ ≠ (.slice Ao21 y150.length co21 : Value).ownBlock ∧ some k_ ≠ (.slice Ao25 t155.length co25 : Value).ownBlock)))); (case aS => exact (below_size (by repeat (first | (with_reducible first | exact HB.out | apply below_alloc | apply pw_below_drewN | apply below_drew1) | exact HB.out)))); (case aL => have := LMc12.out; omega); intro v159 w24 ho hb hg hat; rw [← Ny158.out] at ho; have n0_ := Aside0.mk (Kd.R_after (Kd.R_apart_nil (by (with_reducible repeat (first | apply Kd.R_alloc | apply Kd.R_drewN | apply Kd.R_drew)); exact HO146.out)) hg hat); have n1_ := Aside0.mk (Kd.R_after (Kd.R_apart_nil (by (with_reducible repeat (first | apply Kd.R_alloc | apply Kd.R_drewN | apply Kd.R_drew)); exact HO152.out)) hg hat); have n2_ := Aside0.mk (Kd.R_after (Kd.R_apart_nil (by (with_reducible repeat (first | apply Kd.R_alloc | apply Kd.R_drewN | apply Kd.R_drew)); exact HO157.out)) hg hat); have n3_ := Aside0.mk (hb); have n4_ := Aside0.mk (ho); clear HO146; clear HO152; clear HO157; clear HB; have HO146 := n0_; have HO152 := n1_; have HO157 := n2_; have HB := n3_; have HO160 := n4_; clear n0_ n1_ n2_ n3_ n4_; clear ho hb hg hat) | ((with_reducible refine gate_builtin (b := .append) (xs := #[.tmp 34, .tmp 35]) rfl ?_); (try (refine gate_guard (by rfl) ?_; dsimp only)); at_builtin; refine Kd.R_append_rows (Kd.int .u8) (w0 := w) w.heap.size rfl (.tmp 34) (.tmp 35) 23 5 (.int .u8 0) 1 rfl Try.underlying23 info5 rfl (by decide) (by omega) v159 y158 l2 _ _ _ (fun k_ => some k_ ≠ (.slice Ao19 t144.length co19 : Value).ownBlock ∧ some k_ ≠ (.slice Ao21 y150.length co21 : Value).ownBlock ∧ some k_ ≠ (.slice Ao25 t155.length co25 : Value).ownBlock) (fun _ => False) rfl rfl ?aO ?aR (fun _ _ h => h) (fun _ h => h.elim) ?aF ?aB ?aS ?aL ?_; (case aR => repeat (first | exact (Kd.C_below HR2.out HB.out) | (with_reducible refine Kd.C_alloc ?_ _) | (with_reducible refine Kd.C_drewN ?_ _) | (with_reducible refine Kd.C_drew ?_))); (case aB => exact (by repeat (first | (with_reducible first | exact HB.out | apply below_alloc | apply pw_below_drewN | apply below_drew1) | exact HB.out))); (case aF => exact (fun k_ hk => ⟨Kd.fresh' (Kd.R_lt (by (with_reducible repeat (first | apply Kd.R_alloc | apply Kd.R_drewN | apply Kd.R_drew)); exact HO146.out)) k_ hk, Kd.fresh' (Kd.R_lt (by (with_reducible repeat (first | apply Kd.R_alloc | apply Kd.R_drewN | apply Kd.R_drew)); exact HO152.out)) k_ hk, Kd.fresh' (Kd.R_lt (by (with_reducible repeat (first | apply Kd.R_alloc | apply Kd.R_drewN | apply Kd.R_drew)); exact HO157.out)) k_ hk⟩)); (case aO => exact (by (with_reducible repeat (first | apply Kd.R_alloc | apply Kd.R_drewN | apply Kd.R_drew)); exact HO160.out)); (case aS => exact (below_size (by repeat (first | (with_reducible first | exact HB.out | apply below_alloc | apply pw_below_drewN | apply below_drew1) | exact HB.out)))); (case aL => have := LMc13.out; omega); intro v162 w26 ho hb hg hat; rw [← Ny161.out] at ho; have n0_ := Aside0.mk (Kd.R_after (ok := (fun k_ => some k_ ≠ (.slice Ao21 y150.length co21 : Value).ownBlock ∧ some k_ ≠ (.slice Ao25 t155.length co25 : Value).ownBlock)) (by (with_reducible repeat (first | apply Kd.R_alloc | apply Kd.R_drewN | apply Kd.R_drew)); exact HO146.out) hg hat); have n1_ := Aside0.mk (Kd.R_after (ok := (fun k_ => some k_ ≠ (.slice Ao19 t144.length co19 : Value).ownBlock ∧ some k_ ≠ (.slice Ao25 t155.length co25 : Value).ownBlock)) (by (with_reducible repeat (first | apply Kd.R_alloc | apply Kd.R_drewN | apply Kd.R_drew)); exact HO152.out) hg hat); have n2_ := Aside0.mk (Kd.R_after (ok := (fun k_ => some k_ ≠ (.slice Ao19 t144.length co19 : Value).ownBlock ∧ some k_ ≠ (.slice Ao21 y150.length co21 : Value).ownBlock)) (by (with_reducible repeat (first | apply Kd.R_alloc | apply Kd.R_drewN | apply Kd.R_drew)); exact HO157.out) hg hat); have n3_ := Aside0.mk (hb); have n4_ := Aside0.mk (ho); clear HO146; clear HO152; clear HO157; clear HB; clear HO160; have HO146 := n0_; have HO152 := n1_; have HO157 := n2_; have HB := n3_; have HO163 := n4_; clear n0_ n1_ n2_ n3_ n4_; clear ho hb hg hat; obtain ⟨Ao27, co27, eo27⟩ := Kd.R_slice HO163.out; subst eo27) | ((with_reducible refine gate_callee (f := 23) rfl ?_); refine goesL_ (some 37) rfl rfl Try.func23 (by kernel_rfl) rfl #[.slice Ao27 y161.length co27] rfl (by (try simp only [List.map_toArray, List.map_cons, List.map_nil]); first | done | rfl | (simp only [List.length_drop, List.length_take]; rfl)) ?_; (with_reducible refine (num_GetSigned.calls k _ _ y161 t164 t165 _ ?side1 ?side2 A14.out).mono ?_); (case side1 => repeat (first | exact (Kd.R_reads' HO163.out).2.2 | (with_reducible refine Kd.C_alloc ?_ _) | (with_reducible refine Kd.C_drewN ?_ _) | (with_reducible refine Kd.C_drew ?_))); (case side2 => exact (Kd.R_reads' HO163.out).2.1); rintro e w28 ⟨rfl, hb⟩; refine ⟨_, rfl, ?_⟩; have n0_ := Aside0.mk (Kd.R_below (by (with_reducible repeat (first | apply Kd.R_alloc | apply Kd.R_drewN | apply Kd.R_drew)); exact HO146.out) hb); have n1_ := Aside0.mk (Kd.R_below (by (with_reducible repeat (first | apply Kd.R_alloc | apply Kd.R_drewN | apply Kd.R_drew)); exact HO152.out) hb); have n2_ := Aside0.mk (Kd.R_below (by (with_reducible repeat (first | apply Kd.R_alloc | apply Kd.R_drewN | apply Kd.R_drew)); exact HO157.out) hb); have n3_ := Aside0.mk (Kd.R_below (by (with_reducible repeat (first | apply Kd.R_alloc | apply Kd.R_drewN | apply Kd.R_drew)); exact HO163.out) hb); have n4_ := Aside0.mk (below_step (by repeat (first | (with_reducible first | exact HB.out | apply below_alloc | apply pw_below_drewN | apply below_drew1) | exact HB.out)) hb); clear HO146; clear HO152; clear HO157; clear HO163; clear HB; have HO146 := n0_; have HO152 := n1_; have HO157 := n2_; have HO163 := n3_; have HB := n4_; clear n0_ n1_ n2_ n3_ n4_; (try clear hb); (try clear hb2); (try clear hk); (try clear hi)))
            (try simp only [Act.put, List.setIfInBounds_toArray, List.set_cons_zero, List.set_cons_succ])
            go_cut [14] (fun v14 wc => ∃ (kq : Nat) (x14_14 : Bool), v14 = .bool x14_14 ∧ Aside0 (ferrymanlaw01_NumBack.j0 kq a0 a1 t143 t144 t153 t154 t155 t164 t165 x14_14 = some r) ∧ Aside0 (kq ≤ k) ∧ Aside0 (Kd.R (Kd.int .u8) 5 wc w.heap.size (fun k_ => some k_ ≠ ((.slice Ao25 t155.length co25) : Value).ownBlock) (.slice Ao19 t144.length co19) t144) ∧ Aside0 (Kd.R (Kd.int .u8) 5 wc w.heap.size (fun k_ => some k_ ≠ ((.slice Ao19 t144.length co19) : Value).ownBlock) (.slice Ao25 t155.length co25) t155) ∧ Aside0 (Below w.heap.size w wc))
            case first =>
              have H := HC15.out
              clear HC15
              by_cases c29 : a0 ≥ 0
              · rw [if_pos c29] at H
                have c29b0 : decide (0 ≤ a0) = true := decide_eq_true c29
                clear c29
                (first | rw [c29b0] | rw [c29b1] | (simp only [i64_w, i32_w]; rw [c29b0]) | skip)
                have H' := Aside0.mk H
                clear H
                go_wp2
                go_meet
                case rel => exact ⟨_, (decide (a0 < 4611686018427387904)), (by first | rfl | (simp; done) | (simp [*]; done)), H', ⟨by first | omega | exact Nat.le_refl _⟩, ⟨by (with_reducible repeat (first | apply Kd.R_alloc | apply Kd.R_drewN | apply Kd.R_drew)); exact Kd.R_mono HO146.out (fun _ hk => hk.1.2)⟩, ⟨by (with_reducible repeat (first | apply Kd.R_alloc | apply Kd.R_drewN | apply Kd.R_drew)); exact Kd.R_mono HO157.out (fun _ hk => hk.1.1)⟩, ⟨by repeat (first | (with_reducible first | exact HB.out | apply below_alloc | apply pw_below_drewN | apply below_drew1) | exact HB.out)⟩⟩
              · rw [if_neg c29] at H
                have c29b0 : decide (0 ≤ a0) = false := decide_eq_false c29
                clear c29
                (first | rw [c29b0] | rw [c29b1] | (simp only [i64_w, i32_w]; rw [c29b0]) | skip)
                have H' := Aside0.mk H
                clear H
                go_wp2
                go_meet
                case rel => exact ⟨_, (false), (by first | rfl | (simp; done) | (simp [*]; done)), H', ⟨by first | omega | exact Nat.le_refl _⟩, ⟨by (with_reducible repeat (first | apply Kd.R_alloc | apply Kd.R_drewN | apply Kd.R_drew)); exact Kd.R_mono HO146.out (fun _ hk => hk.1.2)⟩, ⟨by (with_reducible repeat (first | apply Kd.R_alloc | apply Kd.R_drewN | apply Kd.R_drew)); exact Kd.R_mono HO157.out (fun _ hk => hk.1.1)⟩, ⟨by repeat (first | (with_reducible first | exact HB.out | apply below_alloc | apply pw_below_drewN | apply below_drew1) | exact HB.out)⟩⟩
            case rest =>
              clear HC15
              try clear c1
              try clear c2
              try clear p2
              try clear c5
              try clear c5b0
              try clear c5b1
              try clear c8
              try clear c9
              try clear c10
              try clear c11
              try clear c12
              try clear c13
              try clear c22
              try clear c23
              try clear c29
              try clear c29b0
              obtain ⟨kq, x14_14, rfl, HA, HJ14, HO_8, HO_11, HB⟩ := hcut
              cases kq with
              | zero => exact absurd HA.out (by simp [ferrymanlaw01_NumBack.j0])
              | succ kj14 =>
                have H := HA.out
                clear HA
                simp only [ferrymanlaw01_NumBack.j0] at H
                have HC30 := Aside0.mk H
                clear H
                go_upto_region 9 with (fail)
                go_cut [64] (fun v64 wc => ∃ (kq : Nat) (x64_29 : Bool), v64 = .bool x64_29 ∧ Aside0 (ferrymanlaw01_NumBack.j1 kq a0 a1 t143 t155 t164 t165 x64_29 = some r) ∧ Aside0 (kq ≤ kj14) ∧ Aside0 (Kd.R (Kd.int .u8) 5 wc w.heap.size (fun _ => True) (.slice Ao25 t155.length co25) t155) ∧ Aside0 (Below w.heap.size w wc))
                case first =>
                  have H := HC30.out
                  clear HC30
                  go_wp2_with fail
                  · have e1 : x14_14 = decide (0 < t144.length) := by assumption
                    have e2 : 0 < t144.length := by assumption
                    have e3 : t153 = a0 := by assumption
                    have H2 := H
                    rw [if_neg (by rw [e1]; simp), if_pos (by rw [e1]; simp [e2]), if_pos e3] at H2
                    have H' := Aside0.mk H2
                    clear H H2
                    (have e4 : x14_14 = true := by rw [e1]; simp [e2]); subst e3; subst e4
                    go_meet
                    case rel => exact ⟨_, (t154 != (t144.length : Int)), (by first | rfl | (simp; done) | (simp [*]; done)), H', ⟨by have := HJ14.out; first | omega | exact Nat.le_refl _⟩, ⟨by (with_reducible repeat (first | apply Kd.R_alloc | apply Kd.R_drewN | apply Kd.R_drew)); exact Kd.R_mono HO_11.out (fun _ hk => trivial)⟩, ⟨by repeat (first | (with_reducible first | exact HB.out | apply below_alloc | apply pw_below_drewN | apply below_drew1) | exact HB.out)⟩⟩
                  · have e1 : x14_14 = decide (0 < t144.length) := by assumption
                    have e2 : 0 < t144.length := by assumption
                    have e3 : ¬ t153 = a0 := by assumption
                    have H2 := H
                    rw [if_neg (by rw [e1]; simp), if_pos (by rw [e1]; simp [e2]), if_neg e3] at H2
                    have H' := Aside0.mk H2
                    clear H H2
                    (have e4 : x14_14 = true := by rw [e1]; simp [e2]); subst e4
                    go_meet
                    case rel => exact ⟨_, (true), (by first | rfl | (simp; done) | (simp [*]; done)), H', ⟨by have := HJ14.out; first | omega | exact Nat.le_refl _⟩, ⟨by (with_reducible repeat (first | apply Kd.R_alloc | apply Kd.R_drewN | apply Kd.R_drew)); exact Kd.R_mono HO_11.out (fun _ hk => trivial)⟩, ⟨by repeat (first | (with_reducible first | exact HB.out | apply below_alloc | apply pw_below_drewN | apply below_drew1) | exact HB.out)⟩⟩
                  · have e1 : x14_14 = decide (0 < t144.length) := by assumption
                    have e2 : ¬ 0 < t144.length := by assumption
                    have H2 := H
                    rw [if_neg (by rw [e1]; simp), if_neg (by rw [e1]; simp [e2])] at H2
                    have H' := Aside0.mk H2
                    clear H H2
                    (have e4 : x14_14 = false := by rw [e1]; simp [e2]); subst e4
                    go_meet
                    case rel => exact ⟨_, (false), (by first | rfl | (simp; done) | (simp [*]; done)), H', ⟨by have := HJ14.out; first | omega | exact Nat.le_refl _⟩, ⟨by (with_reducible repeat (first | apply Kd.R_alloc | apply Kd.R_drewN | apply Kd.R_drew)); exact Kd.R_mono HO_11.out (fun _ hk => trivial)⟩, ⟨by repeat (first | (with_reducible first | exact HB.out | apply below_alloc | apply pw_below_drewN | apply below_drew1) | exact HB.out)⟩⟩
                  · have e1 : ¬ x14_14 = decide (0 < t144.length) := by assumption
                    have H2 := H
                    rw [if_pos (by simpa using e1)] at H2
                    have H' := Aside0.mk H2
                    clear H H2
                    go_meet
                    case rel => exact ⟨_, (true), (by first | rfl | (simp; done) | (simp [*]; done)), H', ⟨by have := HJ14.out; first | omega | exact Nat.le_refl _⟩, ⟨by (with_reducible repeat (first | apply Kd.R_alloc | apply Kd.R_drewN | apply Kd.R_drew)); exact Kd.R_mono HO_11.out (fun _ hk => trivial)⟩, ⟨by repeat (first | (with_reducible first | exact HB.out | apply below_alloc | apply pw_below_drewN | apply below_drew1) | exact HB.out)⟩⟩
                case rest =>
                  clear HC30
                  try clear c1
                  try clear c2
                  try clear p2
                  try clear c3
                  try clear c5
                  try clear c5b0
                  try clear c5b1
                  try clear c8
                  try clear c9
                  try clear c10
                  try clear c11
                  try clear c12
                  try clear c13
                  try clear c22
                  try clear c23
                  try clear c29
                  try clear c29b0
                  try clear c31
                  try clear c31b0
                  try clear c31b1
                  try clear c31b2
                  try clear c32
                  try clear c33
                  try clear c33b0
                  try clear c33b1
                  try clear p2
                  obtain ⟨kq, x64_29, rfl, HA, HJ29, HO_11, HB⟩ := hcut
                  cases kq with
                  | zero => exact absurd HA.out (by simp [ferrymanlaw01_NumBack.j1])
                  | succ kj29 =>
                    have H := HA.out
                    clear HA
                    simp only [ferrymanlaw01_NumBack.j1] at H
                    by_cases c34 : x64_29 = true
                    · subst c34
                      have H1 : (some false) = some r := by rw [if_pos rfl] at H; exact H
                      clear H
                      have H := H1
                      clear H1
                      obtain rfl := Option.some.inj H
                      go_wp2
                      go_ret
                      exact ⟨by first | rfl | (simp [errW_none, errW_some] <;> rfl) | (simp [*, errW_none, errW_some] <;> rfl), by repeat (first | (with_reducible first | exact HB.out | apply below_alloc | apply pw_below_drewN | apply below_drew1) | exact HB.out)⟩
                    · replace c34 := Bool.eq_false_iff.mpr c34
                      subst c34
                      have H1 : (if t143 = true then (if t164 = a0 then (if t165 = (t155.length : Int) then ((num_Zig.f a0).bind fun t166 => ((num_Zag.f t166).bind fun t167 => (if t167 = a0 then ((num_Zag.f a1).bind fun t168 => ((num_Zig.f t168).bind fun t169 => (if t169 = a1 then ((num_Fixed64.f kj29 a1).bind fun t170 => ((num_Fixed.f kj29 t170).bind fun t173 => (if t173 = a1 then ((num_Fixed32.f kj29 ((a1) % 4294967296)).bind fun t174 => ((num_Fixed.f kj29 t174).bind fun t177 => (some (t177 == (Int.tmod a1 4294967296))))) else (some false)))) else (some false)))) else (some false)))) else (some false)) else (some false)) else (some false)) = some r := by rw [if_neg (show ¬ (false = true) by decide)] at H; exact H
                      clear H
                      have H := H1
                      clear H1
                      by_cases c35 : t143 = true
                      · subst c35
                        have H1 : (if t164 = a0 then (if t165 = (t155.length : Int) then ((num_Zig.f a0).bind fun t166 => ((num_Zag.f t166).bind fun t167 => (if t167 = a0 then ((num_Zag.f a1).bind fun t168 => ((num_Zig.f t168).bind fun t169 => (if t169 = a1 then ((num_Fixed64.f kj29 a1).bind fun t170 => ((num_Fixed.f kj29 t170).bind fun t173 => (if t173 = a1 then ((num_Fixed32.f kj29 ((a1) % 4294967296)).bind fun t174 => ((num_Fixed.f kj29 t174).bind fun t177 => (some (t177 == (Int.tmod a1 4294967296))))) else (some false)))) else (some false)))) else (some false)))) else (some false)) else (some false)) = some r := by rw [if_pos rfl] at H; exact H
                        clear H
                        have H := H1
                        clear H1
                        by_cases c36 : t164 = a0
                        · rw [if_pos c36] at H
                          have c36b0 : (t164 == a0) = true := beq_iff_eq.mpr c36
                          have c36b1 : (t164 != a0) = false := bne_eq_false_iff_eq.mpr c36
                          clear c36
                          by_cases c37 : t165 = (t155.length : Int)
                          · rw [if_pos c37] at H
                            have c37b0 : (t165 == (t155.length : Int)) = true := beq_iff_eq.mpr c37
                            have c37b1 : (t165 != (t155.length : Int)) = false := bne_eq_false_iff_eq.mpr c37
                            clear c37
                            replace H := Option.bind_eq_some_iff.mp H
                            obtain ⟨t166, A380, H⟩ := H
                            replace H : ((num_Zag.f t166).bind fun t167 => (if t167 = a0 then ((num_Zag.f a1).bind fun t168 => ((num_Zig.f t168).bind fun t169 => (if t169 = a1 then ((num_Fixed64.f kj29 a1).bind fun t170 => ((num_Fixed.f kj29 t170).bind fun t173 => (if t173 = a1 then ((num_Fixed32.f kj29 ((a1) % 4294967296)).bind fun t174 => ((num_Fixed.f kj29 t174).bind fun t177 => (some (t177 == (Int.tmod a1 4294967296))))) else (some false)))) else (some false)))) else (some false))) = some r := H
                            have A38 := Aside0.mk A380
                            clear A380
                            replace H := Option.bind_eq_some_iff.mp H
                            obtain ⟨t167, A390, H⟩ := H
                            replace H : (if t167 = a0 then ((num_Zag.f a1).bind fun t168 => ((num_Zig.f t168).bind fun t169 => (if t169 = a1 then ((num_Fixed64.f kj29 a1).bind fun t170 => ((num_Fixed.f kj29 t170).bind fun t173 => (if t173 = a1 then ((num_Fixed32.f kj29 ((a1) % 4294967296)).bind fun t174 => ((num_Fixed.f kj29 t174).bind fun t177 => (some (t177 == (Int.tmod a1 4294967296))))) else (some false)))) else (some false)))) else (some false)) = some r := H
                            have A39 := Aside0.mk A390
                            clear A390
                            by_cases c40 : t167 = a0
                            · rw [if_pos c40] at H
                              have c40b0 : (t167 == a0) = true := beq_iff_eq.mpr c40
                              have c40b1 : (t167 != a0) = false := bne_eq_false_iff_eq.mpr c40
                              clear c40
                              replace H := Option.bind_eq_some_iff.mp H
                              obtain ⟨t168, A410, H⟩ := H
                              replace H : ((num_Zig.f t168).bind fun t169 => (if t169 = a1 then ((num_Fixed64.f kj29 a1).bind fun t170 => ((num_Fixed.f kj29 t170).bind fun t173 => (if t173 = a1 then ((num_Fixed32.f kj29 ((a1) % 4294967296)).bind fun t174 => ((num_Fixed.f kj29 t174).bind fun t177 => (some (t177 == (Int.tmod a1 4294967296))))) else (some false)))) else (some false))) = some r := H
                              have A41 := Aside0.mk A410
                              clear A410
                              replace H := Option.bind_eq_some_iff.mp H
                              obtain ⟨t169, A420, H⟩ := H
                              replace H : (if t169 = a1 then ((num_Fixed64.f kj29 a1).bind fun t170 => ((num_Fixed.f kj29 t170).bind fun t173 => (if t173 = a1 then ((num_Fixed32.f kj29 ((a1) % 4294967296)).bind fun t174 => ((num_Fixed.f kj29 t174).bind fun t177 => (some (t177 == (Int.tmod a1 4294967296))))) else (some false)))) else (some false)) = some r := H
                              have A42 := Aside0.mk A420
                              clear A420
                              by_cases c43 : t169 = a1
                              · rw [if_pos c43] at H
                                have c43b0 : (t169 == a1) = true := beq_iff_eq.mpr c43
                                have c43b1 : (t169 != a1) = false := bne_eq_false_iff_eq.mpr c43
                                clear c43
                                replace H := Option.bind_eq_some_iff.mp H
                                obtain ⟨t170, A440, H⟩ := H
                                replace H : ((num_Fixed.f kj29 t170).bind fun t173 => (if t173 = a1 then ((num_Fixed32.f kj29 ((a1) % 4294967296)).bind fun t174 => ((num_Fixed.f kj29 t174).bind fun t177 => (some (t177 == (Int.tmod a1 4294967296))))) else (some false))) = some r := H
                                have A44 := Aside0.mk A440
                                clear A440
                                replace H := Option.bind_eq_some_iff.mp H
                                obtain ⟨t173, A450, H⟩ := H
                                replace H : (if t173 = a1 then ((num_Fixed32.f kj29 ((a1) % 4294967296)).bind fun t174 => ((num_Fixed.f kj29 t174).bind fun t177 => (some (t177 == (Int.tmod a1 4294967296))))) else (some false)) = some r := H
                                have A45 := Aside0.mk A450
                                clear A450
                                by_cases c46 : t173 = a1
                                · rw [if_pos c46] at H
                                  have c46b0 : (t173 == a1) = true := beq_iff_eq.mpr c46
                                  have c46b1 : (t173 != a1) = false := bne_eq_false_iff_eq.mpr c46
                                  clear c46
                                  replace H := Option.bind_eq_some_iff.mp H
                                  obtain ⟨t174, A470, H⟩ := H
                                  replace H : ((num_Fixed.f kj29 t174).bind fun t177 => (some (t177 == (Int.tmod a1 4294967296)))) = some r := H
                                  have A47 := Aside0.mk A470
                                  clear A470
                                  replace H := Option.bind_eq_some_iff.mp H
                                  obtain ⟨t177, A480, H⟩ := H
                                  replace H : (some (t177 == (Int.tmod a1 4294967296))) = some r := H
                                  have A48 := Aside0.mk A480
                                  clear A480
                                  obtain rfl := Option.some.inj H
                                  have tok3_ : True := trivial; have tok4_ : True := trivial; have tok5_ : True := trivial; have tok6_ : True := trivial; have tok7_ : True := trivial; have tok8_ : True := trivial; have tok9_ : True := trivial; have tok10_ : True := trivial
                                  go_wp2_with (first | (go_at_call 12; clear tok3_; (with_reducible refine (num_Zig.calls a0 t166 _ A38.out).mono ?_); rintro e w' ⟨rfl, ⟨nd, rfl⟩⟩) | (go_at_call 20; clear tok4_; (with_reducible refine (num_Zag.calls t166 t167 _ A39.out).mono ?_); rintro e w' ⟨rfl, ⟨nd, rfl⟩⟩) | (go_at_call 20; clear tok5_; (with_reducible refine (num_Zag.calls a1 t168 _ A41.out).mono ?_); rintro e w' ⟨rfl, ⟨nd, rfl⟩⟩) | (go_at_call 12; clear tok6_; (with_reducible refine (num_Zig.calls t168 t169 _ A42.out).mono ?_); rintro e w' ⟨rfl, ⟨nd, rfl⟩⟩) | (go_at_call 18; clear tok7_; (with_reducible refine (num_Fixed64.calls kj29 a1 t170 _ A44.out).mono ?_); rintro e w49 ⟨v171, rfl, ho0, hb⟩; have n0_ := Aside0.mk (Kd.R_elder' (by (with_reducible repeat (first | apply Kd.R_alloc | apply Kd.R_drewN | apply Kd.R_drew)); exact HO_11.out) (Kd.R_base ho0) hb); have n1_ := Aside0.mk (Kd.R_lower (Kd.R_new' ho0 (Kd.R_lt (by (with_reducible repeat (first | apply Kd.R_alloc | apply Kd.R_drewN | apply Kd.R_drew)); exact HO_11.out))) (below_size (by repeat (first | (with_reducible first | exact HB.out | apply below_alloc | apply pw_below_drewN | apply below_drew1) | exact HB.out)))); have n2_ := Aside0.mk (below_step (by repeat (first | (with_reducible first | exact HB.out | apply below_alloc | apply pw_below_drewN | apply below_drew1) | exact HB.out)) hb); clear HO_11; clear HB; have HO_11 := n0_; have HO172 := n1_; have HB := n2_; clear n0_ n1_ n2_; (try clear hb); (try clear hb2); (try clear hk); (try clear hi); (try clear ho0); obtain ⟨Ao50, co50, eo50⟩ := Kd.R_slice HO172.out; subst eo50) | (go_at_call 26; clear tok8_; (with_reducible refine (num_Fixed.calls kj29 _ _ t170 t173 _ ?side1 ?side2 A45.out).mono ?_); (case side1 => repeat (first | exact (Kd.R_reads' HO172.out).2.2 | (with_reducible refine Kd.C_alloc ?_ _) | (with_reducible refine Kd.C_drewN ?_ _) | (with_reducible refine Kd.C_drew ?_))); (case side2 => exact (Kd.R_reads' HO172.out).2.1); rintro e w51 ⟨rfl, hb⟩; have n0_ := Aside0.mk (Kd.R_below (by (with_reducible repeat (first | apply Kd.R_alloc | apply Kd.R_drewN | apply Kd.R_drew)); exact HO_11.out) hb); have n1_ := Aside0.mk (Kd.R_below (by (with_reducible repeat (first | apply Kd.R_alloc | apply Kd.R_drewN | apply Kd.R_drew)); exact HO172.out) hb); have n2_ := Aside0.mk (below_step (by repeat (first | (with_reducible first | exact HB.out | apply below_alloc | apply pw_below_drewN | apply below_drew1) | exact HB.out)) hb); clear HO_11; clear HO172; clear HB; have HO_11 := n0_; have HO172 := n1_; have HB := n2_; clear n0_ n1_ n2_; (try clear hb); (try clear hb2); (try clear hk); (try clear hi)) | (go_at_call 16; clear tok9_; (with_reducible refine (num_Fixed32.calls kj29 ((a1) % 4294967296) t174 _ A47.out).mono ?_); rintro e w52 ⟨v175, rfl, ho0, hb⟩; have n0_ := Aside0.mk (Kd.R_elder' (by (with_reducible repeat (first | apply Kd.R_alloc | apply Kd.R_drewN | apply Kd.R_drew)); exact HO_11.out) (Kd.R_base ho0) hb); have n1_ := Aside0.mk (Kd.R_elder' (by (with_reducible repeat (first | apply Kd.R_alloc | apply Kd.R_drewN | apply Kd.R_drew)); exact HO172.out) (Kd.R_base ho0) hb); have n2_ := Aside0.mk (Kd.R_lower (Kd.R_new' (Kd.R_new' ho0 (Kd.R_lt (by (with_reducible repeat (first | apply Kd.R_alloc | apply Kd.R_drewN | apply Kd.R_drew)); exact HO_11.out))) (Kd.R_lt (by (with_reducible repeat (first | apply Kd.R_alloc | apply Kd.R_drewN | apply Kd.R_drew)); exact HO172.out))) (below_size (by repeat (first | (with_reducible first | exact HB.out | apply below_alloc | apply pw_below_drewN | apply below_drew1) | exact HB.out)))); have n3_ := Aside0.mk (below_step (by repeat (first | (with_reducible first | exact HB.out | apply below_alloc | apply pw_below_drewN | apply below_drew1) | exact HB.out)) hb); clear HO_11; clear HO172; clear HB; have HO_11 := n0_; have HO172 := n1_; have HO176 := n2_; have HB := n3_; clear n0_ n1_ n2_ n3_; (try clear hb); (try clear hb2); (try clear hk); (try clear hi); (try clear ho0); obtain ⟨Ao53, co53, eo53⟩ := Kd.R_slice HO176.out; subst eo53) | (go_at_call 26; clear tok10_; (with_reducible refine (num_Fixed.calls kj29 _ _ t174 t177 _ ?side1 ?side2 A48.out).mono ?_); (case side1 => repeat (first | exact (Kd.R_reads' HO176.out).2.2 | (with_reducible refine Kd.C_alloc ?_ _) | (with_reducible refine Kd.C_drewN ?_ _) | (with_reducible refine Kd.C_drew ?_))); (case side2 => exact (Kd.R_reads' HO176.out).2.1); rintro e w54 ⟨rfl, hb⟩; have n0_ := Aside0.mk (Kd.R_below (by (with_reducible repeat (first | apply Kd.R_alloc | apply Kd.R_drewN | apply Kd.R_drew)); exact HO_11.out) hb); have n1_ := Aside0.mk (Kd.R_below (by (with_reducible repeat (first | apply Kd.R_alloc | apply Kd.R_drewN | apply Kd.R_drew)); exact HO172.out) hb); have n2_ := Aside0.mk (Kd.R_below (by (with_reducible repeat (first | apply Kd.R_alloc | apply Kd.R_drewN | apply Kd.R_drew)); exact HO176.out) hb); have n3_ := Aside0.mk (below_step (by repeat (first | (with_reducible first | exact HB.out | apply below_alloc | apply pw_below_drewN | apply below_drew1) | exact HB.out)) hb); clear HO_11; clear HO172; clear HO176; clear HB; have HO_11 := n0_; have HO172 := n1_; have HO176 := n2_; have HB := n3_; clear n0_ n1_ n2_ n3_; (try clear hb); (try clear hb2); (try clear hk); (try clear hi)))
                                  go_ret
                                  exact ⟨by first | rfl | (simp [errW_none, errW_some] <;> rfl) | (simp [*, errW_none, errW_some] <;> rfl), by repeat (first | (with_reducible first | exact HB.out | apply below_alloc | apply pw_below_drewN | apply below_drew1) | exact HB.out)⟩
                                · rw [if_neg c46] at H
                                  have c46b0 : (t173 == a1) = false := beq_eq_false_iff_ne.mpr c46
                                  have c46b1 : (t173 != a1) = true := bne_iff_ne.mpr c46
                                  obtain rfl := Option.some.inj H
                                  have tok11_ : True := trivial; have tok12_ : True := trivial; have tok13_ : True := trivial; have tok14_ : True := trivial; have tok15_ : True := trivial; have tok16_ : True := trivial
                                  go_wp2_with (first | (go_at_call 12; clear tok11_; (with_reducible refine (num_Zig.calls a0 t166 _ A38.out).mono ?_); rintro e w' ⟨rfl, ⟨nd, rfl⟩⟩) | (go_at_call 20; clear tok12_; (with_reducible refine (num_Zag.calls t166 t167 _ A39.out).mono ?_); rintro e w' ⟨rfl, ⟨nd, rfl⟩⟩) | (go_at_call 20; clear tok13_; (with_reducible refine (num_Zag.calls a1 t168 _ A41.out).mono ?_); rintro e w' ⟨rfl, ⟨nd, rfl⟩⟩) | (go_at_call 12; clear tok14_; (with_reducible refine (num_Zig.calls t168 t169 _ A42.out).mono ?_); rintro e w' ⟨rfl, ⟨nd, rfl⟩⟩) | (go_at_call 18; clear tok15_; (with_reducible refine (num_Fixed64.calls kj29 a1 t170 _ A44.out).mono ?_); rintro e w55 ⟨v171, rfl, ho0, hb⟩; have n0_ := Aside0.mk (Kd.R_elder' (by (with_reducible repeat (first | apply Kd.R_alloc | apply Kd.R_drewN | apply Kd.R_drew)); exact HO_11.out) (Kd.R_base ho0) hb); have n1_ := Aside0.mk (Kd.R_lower (Kd.R_new' ho0 (Kd.R_lt (by (with_reducible repeat (first | apply Kd.R_alloc | apply Kd.R_drewN | apply Kd.R_drew)); exact HO_11.out))) (below_size (by repeat (first | (with_reducible first | exact HB.out | apply below_alloc | apply pw_below_drewN | apply below_drew1) | exact HB.out)))); have n2_ := Aside0.mk (below_step (by repeat (first | (with_reducible first | exact HB.out | apply below_alloc | apply pw_below_drewN | apply below_drew1) | exact HB.out)) hb); clear HO_11; clear HB; have HO_11 := n0_; have HO172 := n1_; have HB := n2_; clear n0_ n1_ n2_; (try clear hb); (try clear hb2); (try clear hk); (try clear hi); (try clear ho0); obtain ⟨Ao56, co56, eo56⟩ := Kd.R_slice HO172.out; subst eo56) | (go_at_call 26; clear tok16_; (with_reducible refine (num_Fixed.calls kj29 _ _ t170 t173 _ ?side1 ?side2 A45.out).mono ?_); (case side1 => repeat (first | exact (Kd.R_reads' HO172.out).2.2 | (with_reducible refine Kd.C_alloc ?_ _) | (with_reducible refine Kd.C_drewN ?_ _) | (with_reducible refine Kd.C_drew ?_))); (case side2 => exact (Kd.R_reads' HO172.out).2.1); rintro e w57 ⟨rfl, hb⟩; have n0_ := Aside0.mk (Kd.R_below (by (with_reducible repeat (first | apply Kd.R_alloc | apply Kd.R_drewN | apply Kd.R_drew)); exact HO_11.out) hb); have n1_ := Aside0.mk (Kd.R_below (by (with_reducible repeat (first | apply Kd.R_alloc | apply Kd.R_drewN | apply Kd.R_drew)); exact HO172.out) hb); have n2_ := Aside0.mk (below_step (by repeat (first | (with_reducible first | exact HB.out | apply below_alloc | apply pw_below_drewN | apply below_drew1) | exact HB.out)) hb); clear HO_11; clear HO172; clear HB; have HO_11 := n0_; have HO172 := n1_; have HB := n2_; clear n0_ n1_ n2_; (try clear hb); (try clear hb2); (try clear hk); (try clear hi)))
                                  go_ret
                                  exact ⟨by first | rfl | (simp [errW_none, errW_some] <;> rfl) | (simp [*, errW_none, errW_some] <;> rfl), by repeat (first | (with_reducible first | exact HB.out | apply below_alloc | apply pw_below_drewN | apply below_drew1) | exact HB.out)⟩
                              · rw [if_neg c43] at H
                                have c43b0 : (t169 == a1) = false := beq_eq_false_iff_ne.mpr c43
                                have c43b1 : (t169 != a1) = true := bne_iff_ne.mpr c43
                                obtain rfl := Option.some.inj H
                                have tok17_ : True := trivial; have tok18_ : True := trivial; have tok19_ : True := trivial; have tok20_ : True := trivial
                                go_wp2_with (first | (go_at_call 12; clear tok17_; (with_reducible refine (num_Zig.calls a0 t166 _ A38.out).mono ?_); rintro e w' ⟨rfl, ⟨nd, rfl⟩⟩) | (go_at_call 20; clear tok18_; (with_reducible refine (num_Zag.calls t166 t167 _ A39.out).mono ?_); rintro e w' ⟨rfl, ⟨nd, rfl⟩⟩) | (go_at_call 20; clear tok19_; (with_reducible refine (num_Zag.calls a1 t168 _ A41.out).mono ?_); rintro e w' ⟨rfl, ⟨nd, rfl⟩⟩) | (go_at_call 12; clear tok20_; (with_reducible refine (num_Zig.calls t168 t169 _ A42.out).mono ?_); rintro e w' ⟨rfl, ⟨nd, rfl⟩⟩))
                                go_ret
                                exact ⟨by first | rfl | (simp [errW_none, errW_some] <;> rfl) | (simp [*, errW_none, errW_some] <;> rfl), by repeat (first | (with_reducible first | exact HB.out | apply below_alloc | apply pw_below_drewN | apply below_drew1) | exact HB.out)⟩
                            · rw [if_neg c40] at H
                              have c40b0 : (t167 == a0) = false := beq_eq_false_iff_ne.mpr c40
                              have c40b1 : (t167 != a0) = true := bne_iff_ne.mpr c40
                              obtain rfl := Option.some.inj H
                              have tok21_ : True := trivial; have tok22_ : True := trivial
                              go_wp2_with (first | (go_at_call 12; clear tok21_; (with_reducible refine (num_Zig.calls a0 t166 _ A38.out).mono ?_); rintro e w' ⟨rfl, ⟨nd, rfl⟩⟩) | (go_at_call 20; clear tok22_; (with_reducible refine (num_Zag.calls t166 t167 _ A39.out).mono ?_); rintro e w' ⟨rfl, ⟨nd, rfl⟩⟩))
                              go_ret
                              exact ⟨by first | rfl | (simp [errW_none, errW_some] <;> rfl) | (simp [*, errW_none, errW_some] <;> rfl), by repeat (first | (with_reducible first | exact HB.out | apply below_alloc | apply pw_below_drewN | apply below_drew1) | exact HB.out)⟩
                          · rw [if_neg c37] at H
                            have c37b0 : (t165 == (t155.length : Int)) = false := beq_eq_false_iff_ne.mpr c37
                            have c37b1 : (t165 != (t155.length : Int)) = true := bne_iff_ne.mpr c37
                            obtain rfl := Option.some.inj H
                            go_wp2
                            go_ret
                            exact ⟨by first | rfl | (simp [errW_none, errW_some] <;> rfl) | (simp [*, errW_none, errW_some] <;> rfl), by repeat (first | (with_reducible first | exact HB.out | apply below_alloc | apply pw_below_drewN | apply below_drew1) | exact HB.out)⟩
                        · rw [if_neg c36] at H
                          have c36b0 : (t164 == a0) = false := beq_eq_false_iff_ne.mpr c36
                          have c36b1 : (t164 != a0) = true := bne_iff_ne.mpr c36
                          obtain rfl := Option.some.inj H
                          go_wp2
                          go_ret
                          exact ⟨by first | rfl | (simp [errW_none, errW_some] <;> rfl) | (simp [*, errW_none, errW_some] <;> rfl), by repeat (first | (with_reducible first | exact HB.out | apply below_alloc | apply pw_below_drewN | apply below_drew1) | exact HB.out)⟩
                      · replace c35 := Bool.eq_false_iff.mpr c35
                        subst c35
                        have H1 : (some false) = some r := by rw [if_neg (show ¬ (false = true) by decide)] at H; exact H
                        clear H
                        have H := H1
                        clear H1
                        obtain rfl := Option.some.inj H
                        go_wp2
                        go_ret
                        exact ⟨by first | rfl | (simp [errW_none, errW_some] <;> rfl) | (simp [*, errW_none, errW_some] <;> rfl), by repeat (first | (with_reducible first | exact HB.out | apply below_alloc | apply pw_below_drewN | apply below_drew1) | exact HB.out)⟩
          · rw [if_neg c13] at H
            exact absurd H (by simp)
        · rw [if_neg c12] at H
          exact absurd H (by simp)
      · rw [if_neg c9] at H
        exact absurd H (by simp)
    · rw [if_neg c8] at H
      exact absurd H (by simp)

/-- THE ONE PURE STATEMENT of ferrymanlaw01_NumBack: yours. -/
def ferrymanlaw01_NumBack.Pure : Prop := ∀ (a0 : Int) (a1 : Int) (l2 : List Int), (Lit.int .i64 a0).wf = true → (Lit.int .u64 a1).wf = true → l2.length ≤ maxLen → l2.length * 1 ≤ 140737488351232 → (∀ x ∈ l2, (Lit.int .u8 x).wf = true) → ∃ k, ferrymanlaw01_NumBack.f k a0 a1 l2 = some true
theorem ferrymanlaw01_NumBack.walk (P : ferrymanlaw01_NumBack.Pure) (a0 : Int) (a1 : Int) (a2 : Option Addr) (len2 cap2 : Nat) (z2 : List Int) (w : World) (w0 : (Lit.int .i64 a0).wf = true) (w1 : (Lit.int .u64 a1).wf = true) (w2 : (a2 = none ∧ len2 = 0 ∧ cap2 = 0 ∧ z2 = []) ∨ ∃ x, a2 = some x ∧ len2 ≤ cap2 ∧ cap2 ≤ maxLen ∧ z2.length = cap2 ∧ (∀ i, i < z2.length → w.cell? (x.add i) = some (.int .u8 (z2.getD i 0))) ∧ ∀ n ∈ z2, (Lit.int .u8 n).wf = true) (y2 : len2 * 1 ≤ 140737488351232) :
    Calls Try.prog 9 #[.int .i64 a0, .int .u64 a1, .slice a2 len2 cap2] w fun e w' => e = .returned (.bool true) ∧ Below w.heap.size w w' := by
  obtain ⟨l2, rfl, hr2, hm2, hw2, hc2⟩ := ReadsInt.ofRowC w2
  obtain ⟨k, h⟩ := P a0 a1 l2 w0 w1 hm2 y2 hw2
  refine (ferrymanlaw01_NumBack.calls k a0 a1 _ _ l2 true w (Kd.C_of_reads (d := (0 : Int)) (h1 := fun _ => rfl) hr2) hc2 h).mono ?_
  rintro e w' ⟨rfl, hd⟩
  exact ⟨rfl, hd⟩

end Go.Proofs.Ytenfedpbkjdicaa.QNumBack
