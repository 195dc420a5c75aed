/- What this text proves: words of a printed walk, as far as the row needs them; no condition. Out of the kit's print program; what isn't used is struck by wip/tools/slim.py. -/
import Derived.Test.YtecddphmnoegdaaQBlockDecodesx0
import Derived.Test.YtecddphmnoegdaaQBlockDecodesx1
import Derived.Test.YtecddphmnoegdaaQBlockDecodesx2
namespace Go.Proofs.Ytecddphmnoegdaa.QBlockDecodes
open Go.RowKit Go.Proofs.YtecddphmnoegdaaW.PrintWords Go.Proofs.YtecddphmnoegdaaW.PrintLast Go.Proofs.YtecddphmnoegdaaW.PrintMore
attribute [local go_sem] max2_int min2_int max_two min_two max_three min_three max_four min_four   -- for this text's walks alone
set_option linter.unusedVariables false
set_option linter.unusedSimpArgs false

attribute [local go_sem high] eqA32
/-! ### ferrymanref07_Same: function 15 -/
def ferrymanref07_Same.l0 : Nat → List (S32) → List (S32) → Int → Option (Bool)
  | 0, _, _, _ => none
  | k + 1, x0, x1, x5 => if x5 < (x0.length : Int) then (if 0 ≤ x5 then (if x5 < (x1.length : Int) then (if (!(((rd_T32 x0 x5).f0) == ((rd_T32 x1 x5).f0)) || (!(((rd_T32 x0 x5).f1) == ((rd_T32 x1 x5).f1)) || (!(((rd_T32 x0 x5).f2) == ((rd_T32 x1 x5).f2)) || ((!(((rd_T32 x0 x5).f3.f0) == ((rd_T32 x1 x5).f3.f0)) || (!(((rd_T32 x0 x5).f3.f1) == ((rd_T32 x1 x5).f3.f1)) || (!(((rd_T32 x0 x5).f3.f2) == ((rd_T32 x1 x5).f3.f2))))) || (!(((rd_T32 x0 x5).f4) == ((rd_T32 x1 x5).f4))))))) = true then (some false) else (ferrymanref07_Same.l0 k x0 x1 (wrap64 (x5 + 1)))) else (none)) else (none)) else (some true)
def ferrymanref07_Same.f (k : Nat) (l0 : List (S32)) (l1 : List (S32)) : Option (Bool) := if (l0.length : Int) = (l1.length : Int) then (ferrymanref07_Same.l0 k l0 l1 0) else (some false)
set_option maxHeartbeats 8000000 in
set_option maxRecDepth 100000 in
theorem ferrymanref07_Same.calls (k : Nat) (A0 : Option Addr) (c0 : Nat) (l0 : List (S32)) (A1 : Option Addr) (c1 : Nat) (l1 : List (S32)) (r : Bool) (w : World) (hr0 : Kd.C k32 w A0 l0.length l0) (hc0 : l0.length ≤ c0) (hr1 : Kd.C k32 w A1 l1.length l1) (hc1 : l1.length ≤ c1) (h : ferrymanref07_Same.f k l0 l1 = some r) :
    Calls Try.prog 15 #[.slice A0 l0.length c0, .slice A1 l1.length c1] w fun e w' => e = .returned (.bool r) ∧ Drawn0 w w' := by
  have hu32 := Try.underlying32
  have HR0 := Aside0.mk hr0
  have HC0 := Aside0.mk hc0
  clear hr0 hc0
  have HR1 := Aside0.mk hr1
  have HC1 := Aside0.mk hc1
  clear hr1 hc1
  have H : (if (l0.length : Int) = (l1.length : Int) then (ferrymanref07_Same.l0 k l0 l1 0) else (some false)) = some r := h
  clear h
  by_cases c3 : (l0.length : Int) = (l1.length : Int)
  · rw [if_pos c3] at H
    have c3b0 : ((l0.length : Int) == (l1.length : Int)) = true := beq_iff_eq.mpr c3
    have c3b1 : ((l0.length : Int) != (l1.length : Int)) = false := bne_eq_false_iff_eq.mpr c3
    have c3b2 : (l0.length == l1.length) = true := by first | simpa using c3 | (simp at c3 ⊢; omega)
    clear c3
    have H' := Aside0.mk H
    clear H
    go_enter Try.func15, Try.ntmps15
    go_wp2
    repeat (go_quiet (fail); try go_wp2)
    go_loopg [5] k (fun kq v5 w' => ∃ (x5_1 : Int), v5 = .int .i64 x5_1 ∧ Aside0 (ferrymanref07_Same.l0 kq l0 l1 x5_1 = some r) ∧ Aside0 (kq ≤ k) ∧ Drawn0 w w')
    case atStart => exact ⟨(0), (by first | rfl | (simp; done) | (simp [*]; done)), H', ⟨Nat.le_refl _⟩, by repeat (first | exact Drawn0.refl _ | apply Drawn0.step)⟩
    case round =>
      clear H'
      try clear c1
      try clear p2
      try clear c3
      try clear c3b0
      try clear c3b1
      try clear c3b2
      obtain ⟨x5_1, rfl, HA, HK1, ⟨m1, rfl⟩⟩ := hrel
      cases gk with
      | zero => exact absurd HA.out (by simp [ferrymanref07_Same.l0])
      | succ k1 =>
        have H := HA.out
        clear HA
        simp only [ferrymanref07_Same.l0] at H
        by_cases c4 : x5_1 < (l0.length : Int)
        · rw [if_pos c4] at H
          have c4b0 : decide (x5_1 < (l0.length : Int)) = true := decide_eq_true c4
          clear c4
          by_cases c5 : 0 ≤ x5_1
          · rw [if_pos c5] at H
            have c5b0 : decide (0 ≤ x5_1) = true := decide_eq_true c5
            clear c5
            by_cases c6 : x5_1 < (l1.length : Int)
            · rw [if_pos c6] at H
              have c6b0 : decide (x5_1 < (l1.length : Int)) = true := decide_eq_true c6
              clear c6
              by_cases c7 : (!(((rd_T32 l0 x5_1).f0) == ((rd_T32 l1 x5_1).f0)) || (!(((rd_T32 l0 x5_1).f1) == ((rd_T32 l1 x5_1).f1)) || (!(((rd_T32 l0 x5_1).f2) == ((rd_T32 l1 x5_1).f2)) || ((!(((rd_T32 l0 x5_1).f3.f0) == ((rd_T32 l1 x5_1).f3.f0)) || (!(((rd_T32 l0 x5_1).f3.f1) == ((rd_T32 l1 x5_1).f3.f1)) || (!(((rd_T32 l0 x5_1).f3.f2) == ((rd_T32 l1 x5_1).f3.f2))))) || (!(((rd_T32 l0 x5_1).f4) == ((rd_T32 l1 x5_1).f4))))))) = true
              · rw [if_pos c7] at H
                have c7b0 : (!(((rd_T32 l0 x5_1).f0) == ((rd_T32 l1 x5_1).f0)) || (!(((rd_T32 l0 x5_1).f1) == ((rd_T32 l1 x5_1).f1)) || (!(((rd_T32 l0 x5_1).f2) == ((rd_T32 l1 x5_1).f2)) || ((!(((rd_T32 l0 x5_1).f3.f0) == ((rd_T32 l1 x5_1).f3.f0)) || (!(((rd_T32 l0 x5_1).f3.f1) == ((rd_T32 l1 x5_1).f3.f1)) || (!(((rd_T32 l0 x5_1).f3.f2) == ((rd_T32 l1 x5_1).f3.f2))))) || (!(((rd_T32 l0 x5_1).f4) == ((rd_T32 l1 x5_1).f4))))))) = true := c7
                clear c7
                obtain rfl := Option.some.inj H
                have p141 : 0 ≤ (x5_1 : Int) := of_decide_eq_true (by first | (with_reducible assumption) | assumption)
                have q141 : x5_1 < (l0.length : Int) := of_decide_eq_true (by first | (with_reducible assumption) | assumption)
                obtain ⟨ad141, e141, hx141_0, hx141_1, hx141_2, hx141_3, hx141_4, hx141_5, hx141_6⟩ := at_T32 HR0.out x5_1 p141 q141
                cases e141
                replace p141 := eq_true p141
                replace q141 := eq_true q141
                have p142 : 0 ≤ (x5_1 : Int) := of_decide_eq_true (by first | (with_reducible assumption) | assumption)
                have q142 : x5_1 < (l1.length : Int) := of_decide_eq_true (by first | (with_reducible assumption) | assumption)
                obtain ⟨ad142, e142, hx142_0, hx142_1, hx142_2, hx142_3, hx142_4, hx142_5, hx142_6⟩ := at_T32 HR1.out x5_1 p142 q142
                cases e142
                replace p142 := eq_true p142
                replace q142 := eq_true q142
                go_wp2
                repeat (go_quiet (fail); try go_wp2)
                go_ret
                exact ⟨by first | rfl | (simp; done) | (simp [*]; done), by repeat (first | exact Drawn0.refl _ | apply Drawn0.step)⟩
              · rw [if_neg c7] at H
                have c7b0 : (!(((rd_T32 l0 x5_1).f0) == ((rd_T32 l1 x5_1).f0)) || (!(((rd_T32 l0 x5_1).f1) == ((rd_T32 l1 x5_1).f1)) || (!(((rd_T32 l0 x5_1).f2) == ((rd_T32 l1 x5_1).f2)) || ((!(((rd_T32 l0 x5_1).f3.f0) == ((rd_T32 l1 x5_1).f3.f0)) || (!(((rd_T32 l0 x5_1).f3.f1) == ((rd_T32 l1 x5_1).f3.f1)) || (!(((rd_T32 l0 x5_1).f3.f2) == ((rd_T32 l1 x5_1).f3.f2))))) || (!(((rd_T32 l0 x5_1).f4) == ((rd_T32 l1 x5_1).f4))))))) = false := by simpa using c7
                clear c7
                have H' := Aside0.mk H
                clear H
                have p141 : 0 ≤ (x5_1 : Int) := of_decide_eq_true (by first | (with_reducible assumption) | assumption)
                have q141 : x5_1 < (l0.length : Int) := of_decide_eq_true (by first | (with_reducible assumption) | assumption)
                obtain ⟨ad141, e141, hx141_0, hx141_1, hx141_2, hx141_3, hx141_4, hx141_5, hx141_6⟩ := at_T32 HR0.out x5_1 p141 q141
                cases e141
                replace p141 := eq_true p141
                replace q141 := eq_true q141
                have p142 : 0 ≤ (x5_1 : Int) := of_decide_eq_true (by first | (with_reducible assumption) | assumption)
                have q142 : x5_1 < (l1.length : Int) := of_decide_eq_true (by first | (with_reducible assumption) | assumption)
                obtain ⟨ad142, e142, hx142_0, hx142_1, hx142_2, hx142_3, hx142_4, hx142_5, hx142_6⟩ := at_T32 HR1.out x5_1 p142 q142
                cases e142
                replace p142 := eq_true p142
                replace q142 := eq_true q142
                go_wp2
                repeat (go_quiet (fail); try go_wp2)
                go_roundg k1
                case measure => have := HK1.out; omega
                case rel => exact ⟨(wrap64 (x5_1 + 1)), (by first | rfl | (simp; done) | (simp [*]; done)), H', ⟨by have := HK1.out; omega⟩, by repeat (first | exact Drawn0.refl _ | apply Drawn0.step)⟩
            · rw [if_neg c6] at H
              exact absurd H (by simp)
          · rw [if_neg c5] at H
            exact absurd H (by simp)
        · rw [if_neg c4] at H
          have c4b0 : decide (x5_1 < (l0.length : Int)) = false := decide_eq_false c4
          clear c4
          obtain rfl := Option.some.inj H
          go_wp2
          repeat (go_quiet (fail); try go_wp2)
          go_ret
          exact ⟨by first | rfl | (simp; done) | (simp [*]; done), by repeat (first | exact Drawn0.refl _ | apply Drawn0.step)⟩
  · rw [if_neg c3] at H
    have c3b0 : ((l0.length : Int) == (l1.length : Int)) = false := beq_eq_false_iff_ne.mpr c3
    have c3b1 : ((l0.length : Int) != (l1.length : Int)) = true := bne_iff_ne.mpr c3
    have c3b2 : (l0.length == l1.length) = false := by first | simpa using c3 | (simp at c3 ⊢; omega)
    obtain rfl := Option.some.inj H
    go_enter Try.func15, Try.ntmps15
    go_wp2
    repeat (go_quiet (fail); try go_wp2)
    go_ret
    exact ⟨by first | rfl | (simp; done) | (simp [*]; done), by repeat (first | exact Drawn0.refl _ | apply Drawn0.step)⟩

/-! ### num_read: function 38 -/
mutual
def num_read.l0 : Nat → List Int → Int → Int → Int → Option (Int × Int)
  | 0, _, _, _, _ => none
  | k + 1, x0, x4, x9, x10 => if x10 < x9 then (if 0 ≤ x10 then (if x10 < (x0.length : Int) then (if 0 ≤ (wrap64 (7 * x10)) then (if x10 = 9 then (num_read.j1 k x0 (Go.bits .or .u64 x4 (shl .u64 (IntKind.u64.wrap (Go.bits .and .u8 (rd x0 x10) 127)) (wrap64 (7 * x10)))) x10 (rd x0 x10) x9 x10 (decide ((rd x0 x10) > 1))) else (num_read.j1 k x0 (Go.bits .or .u64 x4 (shl .u64 (IntKind.u64.wrap (Go.bits .and .u8 (rd x0 x10) 127)) (wrap64 (7 * x10)))) x10 (rd x0 x10) x9 x10 false)) else (none)) else (none)) else (none)) else (some (0, 0))
def num_read.j1 : Nat → List Int → Int → Int → Int → Int → Int → Bool → Option (Int × Int)
  | 0, _, _, _, _, _, _, _ => none
  | k + 1, x0, x4, x5, x6, x9, x10, x25 => if x25 = true then (some (0, 0)) else (if x6 = 0 then (num_read.j2 k x0 x4 x5 x6 x9 x10 (decide (x5 > 0))) else (num_read.j2 k x0 x4 x5 x6 x9 x10 false))
def num_read.j2 : Nat → List Int → Int → Int → Int → Int → Int → Bool → Option (Int × Int)
  | 0, _, _, _, _, _, _, _ => none
  | k + 1, x0, x4, x5, x6, x9, x10, x32 => if x32 = true then (some (0, 0)) else (if x6 < 128 then (some (x4, wrap64 (x5 + 1))) else (num_read.l0 k x0 x4 x9 (wrap64 (x10 + 1))))
end
def num_read.f (k : Nat) (l0 : List Int) : Option (Int × Int) := num_read.l0 k l0 0 (mn (l0.length : Int) 10) 0
set_option maxHeartbeats 8000000 in
set_option maxRecDepth 100000 in
theorem num_read.calls (k : Nat) (A0 : Option Addr) (c0 : Nat) (l0 : List Int) (r1 : Int) (r2 : Int) (w : World) (hr0 : Kd.C (Kd.int .u8) w A0 l0.length l0) (hc0 : l0.length ≤ c0) (h : num_read.f k l0 = some (r1, r2)) :
    Calls Try.prog 38 #[.slice A0 l0.length c0] w fun e w' => e = .returned (.tuple #[.int .u64 r1, .int .i64 r2]) ∧ Below w.heap.size w w' := by
  have HR0 := Aside0.mk hr0
  have HC0 := Aside0.mk hc0
  clear hr0 hc0
  have HB := Aside0.mk (Below.refl w.heap.size w)
  have H : (num_read.l0 k l0 0 (mn (l0.length : Int) 10) 0) = some (r1, r2) := h
  clear h
  obtain ⟨ji2, hji2⟩ : ∃ j_ : Int, (mn (l0.length : Int) 10) = j_ := ⟨_, rfl⟩
  replace H : (num_read.l0 k l0 0 ji2 0) = some (r1, r2) := by first | (rw [hji2] at H; exact H) | (simp only [hji2] at H ⊢; exact H)
  (try (have hji2h : ji2 ≤ 10 := by (rw [← hji2]; unfold mn; (repeat' split) <;> omega)))
  (try (have hji2g : ji2 ≤ 64 := by omega))
  (try (have hji2l : 0 ≤ ji2 := by (rw [← hji2]; unfold mn; (repeat' split) <;> omega)))
  (try (have hji2m : 0 ≤ ji2 := by omega))
  have hji2_ : (if 10 < (l0.length : Int) then 10 else (l0.length : Int)) = ji2 := hji2
  have H' := Aside0.mk H
  clear H
  go_enter Try.func38, Try.ntmps38
  go_wp2
  go_loopg [4, 10] k (fun kq v4 v10 w' => ∃ (x4_1 : Int) (x10_1 : Int), v4 = .int .u64 x4_1 ∧ v10 = .int .i64 x10_1 ∧ Aside0 (num_read.l0 kq l0 x4_1 ji2 x10_1 = some (r1, r2)) ∧ Aside0 (kq ≤ k) ∧ Aside0 (Below w.heap.size w w'))
  case atStart => exact ⟨(0), (0), (by first | rfl | (simp; done) | (simp [*]; done)), (by first | rfl | (simp; done) | (simp [*]; done)), H', ⟨Nat.le_refl _⟩, ⟨by repeat (first | (with_reducible first | exact HB.out | apply below_alloc | apply pw_below_drewN | apply below_drew1) | exact HB.out)⟩⟩
  case round =>
    clear H'
    try clear p2
    obtain ⟨x4_1, x10_1, rfl, rfl, HA, HK1, HB⟩ := hrel
    cases gk with
    | zero => exact absurd HA.out (by simp [num_read.l0])
    | succ k1 =>
      have H := HA.out
      clear HA
      simp only [num_read.l0] at H
      by_cases c3 : x10_1 < ji2
      · rw [if_pos c3] at H
        have c3b0 : decide (x10_1 < ji2) = true := decide_eq_true c3
        clear c3
        by_cases c4 : 0 ≤ x10_1
        · rw [if_pos c4] at H
          have c4b0 : decide (0 ≤ x10_1) = true := decide_eq_true c4
          clear c4
          by_cases c5 : x10_1 < (l0.length : Int)
          · rw [if_pos c5] at H
            have c5b0 : decide (x10_1 < (l0.length : Int)) = true := decide_eq_true c5
            clear c5
            obtain ⟨ji6, hji6⟩ : ∃ j_ : Int, (wrap64 (7 * x10_1)) = j_ := ⟨_, rfl⟩
            replace H : (if 0 ≤ (ji6) then (if x10_1 = 9 then (num_read.j1 k1 l0 (Go.bits .or .u64 x4_1 (shl .u64 (IntKind.u64.wrap (Go.bits .and .u8 (rd l0 x10_1) 127)) (ji6))) x10_1 (rd l0 x10_1) ji2 x10_1 (decide ((rd l0 x10_1) > 1))) else (num_read.j1 k1 l0 (Go.bits .or .u64 x4_1 (shl .u64 (IntKind.u64.wrap (Go.bits .and .u8 (rd l0 x10_1) 127)) (ji6))) x10_1 (rd l0 x10_1) ji2 x10_1 false)) else (none)) = some (r1, r2) := by first | (rw [hji6] at H; exact H) | (simp only [hji6] at H ⊢; exact H)
            have hji6w : (IntKind.i64.wrap (7 * x10_1)) = ji6 := (i64_w _).trans hji6
            by_cases c7 : 0 ≤ (ji6)
            · rw [if_pos c7] at H
              have c7b0 := eq_true c7
              have c7b1 : decide (0 ≤ (ji6)) = true := decide_eq_true c7
              clear c7
              obtain ⟨ji8, hji8⟩ : ∃ j_ : Int, (shl .u64 (IntKind.u64.wrap (Go.bits .and .u8 (rd l0 x10_1) 127)) (ji6)) = j_ := ⟨_, rfl⟩
              replace H : (if x10_1 = 9 then (num_read.j1 k1 l0 (Go.bits .or .u64 x4_1 (ji8)) x10_1 (rd l0 x10_1) ji2 x10_1 (decide ((rd l0 x10_1) > 1))) else (num_read.j1 k1 l0 (Go.bits .or .u64 x4_1 (ji8)) x10_1 (rd l0 x10_1) ji2 x10_1 false)) = some (r1, r2) := by first | (rw [hji8] at H; exact H) | (simp only [hji8] at H ⊢; exact H)
              have hji8_ : (IntKind.u64.wrap ((IntKind.u64.wrap (Go.bits .and .u8 (rd l0 x10_1) 127)) * 2 ^ min (ji6).toNat 64)) = ji8 := hji8
              have hji8z : (ji6) ≤ 64 → (IntKind.u64.wrap ((IntKind.u64.wrap (Go.bits .and .u8 (rd l0 x10_1) 127)) * 2 ^ (ji6).toNat)) = ji8 := shl_small hji8
              have HC9 := Aside0.mk H
              clear H
              have p143 : 0 ≤ (x10_1 : Int) := of_decide_eq_true (by first | (with_reducible assumption) | assumption)
              have q143 : x10_1 < (l0.length : Int) := of_decide_eq_true (by first | (with_reducible assumption) | assumption)
              obtain ⟨ad143, e143, hx143_0⟩ := Kd.at_int HR0.out x10_1 p143 q143
              cases e143
              replace hx143_0 := (HB.out.cell (World.block_lt_of_cell? w _ hx143_0)).trans hx143_0
              replace p143 := eq_true p143
              replace q143 := eq_true q143
              go_upto_region 7 with (fail)
              go_cut [25] (fun v25 wc => ∃ (kq : Nat) (x25_8 : Bool), v25 = .bool x25_8 ∧ Aside0 (num_read.j1 kq l0 (Go.bits .or .u64 x4_1 (ji8)) x10_1 (rd l0 x10_1) ji2 x10_1 x25_8 = some (r1, r2)) ∧ Aside0 (kq ≤ k1) ∧ Aside0 (Below w.heap.size w wc))
              case first =>
                have H := HC9.out
                clear HC9
                by_cases c10 : x10_1 = 9
                · rw [if_pos c10] at H
                  have c10b0 : (x10_1 == 9) = true := beq_iff_eq.mpr c10
                  have c10b1 : (x10_1 != 9) = false := bne_eq_false_iff_eq.mpr c10
                  clear c10
                  (first | rw [c10b0] | rw [c10b1] | (simp only [i64_w, i32_w]; rw [c10b0]) | skip)
                  have H' := Aside0.mk H
                  clear H
                  go_wp2
                  go_meet
                  case rel => exact ⟨_, (decide ((rd l0 x10_1) > 1)), (by first | rfl | (simp; done) | (simp [*]; done)), H', ⟨by have := HK1.out; first | omega | exact Nat.le_refl _⟩, ⟨by repeat (first | (with_reducible first | exact HB.out | apply below_alloc | apply pw_below_drewN | apply below_drew1) | exact HB.out)⟩⟩
                · rw [if_neg c10] at H
                  have c10b0 : (x10_1 == 9) = false := beq_eq_false_iff_ne.mpr c10
                  have c10b1 : (x10_1 != 9) = true := bne_iff_ne.mpr c10
                  (first | rw [c10b0] | rw [c10b1] | (simp only [i64_w, i32_w]; rw [c10b0]) | skip)
                  have H' := Aside0.mk H
                  clear H
                  go_wp2
                  go_meet
                  case rel => exact ⟨_, (false), (by first | rfl | (simp; done) | (simp [*]; done)), H', ⟨by have := HK1.out; first | omega | exact Nat.le_refl _⟩, ⟨by repeat (first | (with_reducible first | exact HB.out | apply below_alloc | apply pw_below_drewN | apply below_drew1) | exact HB.out)⟩⟩
              case rest =>
                clear HC9
                try clear c1
                try clear p1
                try clear q1
                try clear hx1
                try clear p2
                try clear c3
                try clear c3b0
                try clear c4
                try clear c4b0
                try clear c5
                try clear c5b0
                try clear p6
                try clear c7
                try clear c7b0
                try clear c7b1
                try clear c10
                try clear c10b0
                try clear c10b1
                try clear hx143_0
                try clear p143
                try clear p2
                try clear q143
                obtain ⟨kq, x25_8, rfl, HA, HJ8, HB⟩ := hcut
                cases kq with
                | zero => exact absurd HA.out (by simp [num_read.j1])
                | succ kj8 =>
                  have H := HA.out
                  clear HA
                  simp only [num_read.j1] at H
                  by_cases c11 : x25_8 = true
                  · subst c11
                    have H1 : (some (0, 0)) = some (r1, r2) := by rw [if_pos rfl] at H; exact H
                    clear H
                    have H := H1
                    clear H1
                    simp only [Option.some.injEq, Prod.mk.injEq] at H
                    obtain ⟨rfl, rfl⟩ := H
                    go_wp2
                    go_ret2
                    exact ⟨by first | rfl | (simp [errW_none, errW_some] <;> rfl) | (simp only [← hji2, ← hji6, ← hji8]; first | rfl | (simp [errW_none, errW_some] <;> rfl)) | (simp [*, errW_none, errW_some] <;> rfl), by repeat (first | (with_reducible first | exact HB.out | apply below_alloc | apply pw_below_drewN | apply below_drew1) | exact HB.out)⟩
                  · replace c11 := Bool.eq_false_iff.mpr c11
                    subst c11
                    have H1 : (if (rd l0 x10_1) = 0 then (num_read.j2 kj8 l0 (Go.bits .or .u64 x4_1 (ji8)) x10_1 (rd l0 x10_1) ji2 x10_1 (decide (x10_1 > 0))) else (num_read.j2 kj8 l0 (Go.bits .or .u64 x4_1 (ji8)) x10_1 (rd l0 x10_1) ji2 x10_1 false)) = some (r1, r2) := by rw [if_neg (show ¬ (false = true) by decide)] at H; exact H
                    clear H
                    have H := H1
                    clear H1
                    have HC12 := Aside0.mk H
                    clear H
                    go_upto_region 8 with (fail)
                    go_cut [32] (fun v32 wc => ∃ (kq : Nat) (x32_11 : Bool), v32 = .bool x32_11 ∧ Aside0 (num_read.j2 kq l0 (Go.bits .or .u64 x4_1 (ji8)) x10_1 (rd l0 x10_1) ji2 x10_1 x32_11 = some (r1, r2)) ∧ Aside0 (kq ≤ kj8) ∧ Aside0 (Below w.heap.size w wc))
                    case first =>
                      have H := HC12.out
                      clear HC12
                      by_cases c13 : (rd l0 x10_1) = 0
                      · rw [if_pos c13] at H
                        have c13b0 : ((rd l0 x10_1) == 0) = true := beq_iff_eq.mpr c13
                        have c13b1 : ((rd l0 x10_1) != 0) = false := bne_eq_false_iff_eq.mpr c13
                        clear c13
                        (first | rw [c13b0] | rw [c13b1] | (simp only [i64_w, i32_w]; rw [c13b0]) | skip)
                        have H' := Aside0.mk H
                        clear H
                        go_wp2
                        go_meet
                        case rel => exact ⟨_, (decide (x10_1 > 0)), (by first | rfl | (simp; done) | (simp [*]; done)), H', ⟨by have := HK1.out; have := HJ8.out; first | omega | exact Nat.le_refl _⟩, ⟨by repeat (first | (with_reducible first | exact HB.out | apply below_alloc | apply pw_below_drewN | apply below_drew1) | exact HB.out)⟩⟩
                      · rw [if_neg c13] at H
                        have c13b0 : ((rd l0 x10_1) == 0) = false := beq_eq_false_iff_ne.mpr c13
                        have c13b1 : ((rd l0 x10_1) != 0) = true := bne_iff_ne.mpr c13
                        (first | rw [c13b0] | rw [c13b1] | (simp only [i64_w, i32_w]; rw [c13b0]) | skip)
                        have H' := Aside0.mk H
                        clear H
                        go_wp2
                        go_meet
                        case rel => exact ⟨_, (false), (by first | rfl | (simp; done) | (simp [*]; done)), H', ⟨by have := HK1.out; have := HJ8.out; first | omega | exact Nat.le_refl _⟩, ⟨by repeat (first | (with_reducible first | exact HB.out | apply below_alloc | apply pw_below_drewN | apply below_drew1) | exact HB.out)⟩⟩
                    case rest =>
                      clear HC12
                      try clear c1
                      try clear p1
                      try clear q1
                      try clear hx1
                      try clear p2
                      try clear c3
                      try clear c3b0
                      try clear c4
                      try clear c4b0
                      try clear c5
                      try clear c5b0
                      try clear p6
                      try clear c7
                      try clear c7b0
                      try clear c7b1
                      try clear c10
                      try clear c10b0
                      try clear c10b1
                      try clear c11
                      try clear c13
                      try clear c13b0
                      try clear c13b1
                      try clear hx143_0
                      try clear p1
                      try clear p143
                      try clear p2
                      try clear p6
                      try clear q1
                      try clear q143
                      obtain ⟨kq, x32_11, rfl, HA, HJ11, HB⟩ := hcut
                      cases kq with
                      | zero => exact absurd HA.out (by simp [num_read.j2])
                      | succ kj11 =>
                        have H := HA.out
                        clear HA
                        simp only [num_read.j2] at H
                        by_cases c14 : x32_11 = true
                        · subst c14
                          have H1 : (some (0, 0)) = some (r1, r2) := by rw [if_pos rfl] at H; exact H
                          clear H
                          have H := H1
                          clear H1
                          simp only [Option.some.injEq, Prod.mk.injEq] at H
                          obtain ⟨rfl, rfl⟩ := H
                          go_wp2
                          go_ret2
                          exact ⟨by first | rfl | (simp [errW_none, errW_some] <;> rfl) | (simp only [← hji2, ← hji6, ← hji8]; first | rfl | (simp [errW_none, errW_some] <;> rfl)) | (simp [*, errW_none, errW_some] <;> rfl), by repeat (first | (with_reducible first | exact HB.out | apply below_alloc | apply pw_below_drewN | apply below_drew1) | exact HB.out)⟩
                        · replace c14 := Bool.eq_false_iff.mpr c14
                          subst c14
                          have H1 : (if (rd l0 x10_1) < 128 then (some ((Go.bits .or .u64 x4_1 (ji8)), wrap64 (x10_1 + 1))) else (num_read.l0 kj11 l0 (Go.bits .or .u64 x4_1 (ji8)) ji2 (wrap64 (x10_1 + 1)))) = some (r1, r2) := by rw [if_neg (show ¬ (false = true) by decide)] at H; exact H
                          clear H
                          have H := H1
                          clear H1
                          by_cases c15 : (rd l0 x10_1) < 128
                          · rw [if_pos c15] at H
                            have c15b0 : decide ((rd l0 x10_1) < 128) = true := decide_eq_true c15
                            clear c15
                            simp only [Option.some.injEq, Prod.mk.injEq] at H
                            obtain ⟨rfl, rfl⟩ := H
                            go_wp2
                            go_ret2
                            exact ⟨by first | rfl | (simp [errW_none, errW_some] <;> rfl) | (simp only [← hji2, ← hji6, ← hji8]; first | rfl | (simp [errW_none, errW_some] <;> rfl)) | (simp [*, errW_none, errW_some] <;> rfl), by repeat (first | (with_reducible first | exact HB.out | apply below_alloc | apply pw_below_drewN | apply below_drew1) | exact HB.out)⟩
                          · rw [if_neg c15] at H
                            have c15b0 : decide ((rd l0 x10_1) < 128) = false := decide_eq_false c15
                            clear c15
                            have H' := Aside0.mk H
                            clear H
                            go_wp2
                            go_roundg kj11
                            case measure => have := HK1.out; have := HJ8.out; have := HJ11.out; omega
                            case rel => exact ⟨((Go.bits .or .u64 x4_1 (ji8))), (wrap64 (x10_1 + 1)), (by first | rfl | (simp; done) | (simp only [← hji8] <;> (first | rfl | simp)) | (simp [*]; done)), (by first | rfl | (simp; done) | (simp [*]; done)), H', ⟨by have := HK1.out; have := HJ8.out; have := HJ11.out; omega⟩, ⟨by repeat (first | (with_reducible first | exact HB.out | apply below_alloc | apply pw_below_drewN | apply below_drew1) | exact HB.out)⟩⟩
            · rw [if_neg c7] at H
              exact absurd H (by simp)
          · rw [if_neg c5] at H
            exact absurd H (by simp)
        · rw [if_neg c4] at H
          exact absurd H (by simp)
      · rw [if_neg c3] at H
        have c3b0 : decide (x10_1 < ji2) = false := decide_eq_false c3
        clear c3
        simp only [Option.some.injEq, Prod.mk.injEq] at H
        obtain ⟨rfl, rfl⟩ := H
        go_wp2
        go_ret2
        exact ⟨by first | rfl | (simp [errW_none, errW_some] <;> rfl) | (simp only [← hji2]; first | rfl | (simp [errW_none, errW_some] <;> rfl)) | (simp [*, errW_none, errW_some] <;> rfl), by repeat (first | (with_reducible first | exact HB.out | apply below_alloc | apply pw_below_drewN | apply below_drew1) | exact HB.out)⟩

/-! ### num_Get: function 27 -/
def num_Get.f (k : Nat) (l0 : List Int) : Option (Int × Int) := (num_read.f k l0).bind fun bt144 => (if bt144.1 ≥ 4611686018427387904 then (some (0, 0)) else (some (wrap64 (bt144.1), bt144.2)))
set_option maxHeartbeats 8000000 in
set_option maxRecDepth 100000 in
theorem num_Get.calls (k : Nat) (A0 : Option Addr) (c0 : Nat) (l0 : List Int) (r1 : Int) (r2 : Int) (w : World) (hr0 : Kd.C (Kd.int .u8) w A0 l0.length l0) (hc0 : l0.length ≤ c0) (h : num_Get.f k l0 = some (r1, r2)) :
    Calls Try.prog 27 #[.slice A0 l0.length c0] w fun e w' => e = .returned (.tuple #[.int .i64 r1, .int .i64 r2]) ∧ Below w.heap.size w w' := by
  have HR0 := Aside0.mk hr0
  have HC0 := Aside0.mk hc0
  clear hr0 hc0
  have HB := Aside0.mk (Below.refl w.heap.size w)
  have H : ((num_read.f k l0).bind fun bt144 => (if bt144.1 ≥ 4611686018427387904 then (some (0, 0)) else (some (wrap64 (bt144.1), bt144.2)))) = some (r1, r2) := h
  clear h
  replace H := Option.bind_eq_some_iff.mp H
  obtain ⟨⟨t144, t145⟩, A20, H⟩ := H
  replace H : (if t144 ≥ 4611686018427387904 then (some (0, 0)) else (some (wrap64 (t144), t145))) = some (r1, r2) := H
  have A2 := Aside0.mk A20
  clear A20
  by_cases c3 : t144 ≥ 4611686018427387904
  · rw [if_pos c3] at H
    have c3b0 : decide (4611686018427387904 ≤ t144) = true := decide_eq_true c3
    clear c3
    simp only [Option.some.injEq, Prod.mk.injEq] at H
    obtain ⟨rfl, rfl⟩ := H
    go_enter Try.func27, Try.ntmps27
    go_wp2_with (first | ((with_reducible refine gate_callee (f := 38) rfl ?_); refine goesL_ (some 8) rfl rfl Try.func38 (by kernel_rfl) rfl #[.slice A0 l0.length c0] rfl (by (try simp only [List.map_toArray, List.map_cons, List.map_nil]); first | done | rfl | (simp only [List.length_drop, List.length_take]; rfl)) ?_; (with_reducible refine (num_read.calls k _ _ l0 t144 t145 _ ?side1 ?side2 A2.out).mono ?_); (case side1 => repeat (first | exact HR0.out | (with_reducible refine Kd.C_alloc ?_ _) | (with_reducible refine Kd.C_drewN ?_ _) | (with_reducible refine Kd.C_drew ?_))); (case side2 => exact HC0.out); rintro e w4 ⟨rfl, hb⟩; refine ⟨_, rfl, ?_⟩; have n0_ := Aside0.mk (below_step (by repeat (first | (with_reducible first | exact HB.out | apply below_alloc | apply pw_below_drewN | apply below_drew1) | exact HB.out)) hb); clear HB; have HB := n0_; clear n0_; (try clear hb); (try clear hb2); (try clear hk); (try clear hi)))
    go_ret2
    exact ⟨by first | rfl | (simp [errW_none, errW_some] <;> rfl) | (simp [*, errW_none, errW_some] <;> rfl), by repeat (first | (with_reducible first | exact HB.out | apply below_alloc | apply pw_below_drewN | apply below_drew1) | exact HB.out)⟩
  · rw [if_neg c3] at H
    have c3b0 : decide (4611686018427387904 ≤ t144) = false := decide_eq_false c3
    clear c3
    simp only [Option.some.injEq, Prod.mk.injEq] at H
    obtain ⟨rfl, rfl⟩ := H
    go_enter Try.func27, Try.ntmps27
    go_wp2_with (first | ((with_reducible refine gate_callee (f := 38) rfl ?_); refine goesL_ (some 8) rfl rfl Try.func38 (by kernel_rfl) rfl #[.slice A0 l0.length c0] rfl (by (try simp only [List.map_toArray, List.map_cons, List.map_nil]); first | done | rfl | (simp only [List.length_drop, List.length_take]; rfl)) ?_; (with_reducible refine (num_read.calls k _ _ l0 t144 t145 _ ?side1 ?side2 A2.out).mono ?_); (case side1 => repeat (first | exact HR0.out | (with_reducible refine Kd.C_alloc ?_ _) | (with_reducible refine Kd.C_drewN ?_ _) | (with_reducible refine Kd.C_drew ?_))); (case side2 => exact HC0.out); rintro e w5 ⟨rfl, hb⟩; refine ⟨_, rfl, ?_⟩; have n0_ := Aside0.mk (below_step (by repeat (first | (with_reducible first | exact HB.out | apply below_alloc | apply pw_below_drewN | apply below_drew1) | exact HB.out)) hb); clear HB; have HB := n0_; clear n0_; (try clear hb); (try clear hb2); (try clear hk); (try clear hi)))
    go_ret2
    exact ⟨by first | rfl | (simp [errW_none, errW_some] <;> rfl) | (simp [*, errW_none, errW_some] <;> rfl), by repeat (first | (with_reducible first | exact HB.out | apply below_alloc | apply pw_below_drewN | apply below_drew1) | exact HB.out)⟩

/-! ### num_Zag: function 46 -/
def num_Zag.f (a0 : Int) : Option (Int) := some (Go.bits .xor .i64 (wrap64 (a0 / 2)) (wrap64 (-(wrap64 (Go.bits .and .u64 a0 1)))))
set_option maxHeartbeats 8000000 in
set_option maxRecDepth 100000 in
theorem num_Zag.calls (a0 : Int) (r : Int) (w : World) (h : num_Zag.f a0 = some r) :
    Calls Try.prog 46 #[.int .u64 a0] w fun e w' => e = .returned (.int .i64 r) ∧ Drawn0 w w' := by
  have H : (some (Go.bits .xor .i64 (wrap64 (a0 / 2)) (wrap64 (-(wrap64 (Go.bits .and .u64 a0 1)))))) = some r := h
  clear h
  obtain rfl := Option.some.inj H
  go_enter Try.func46, Try.ntmps46
  go_wp2
  go_ret
  exact ⟨by first | rfl | (simp; done) | (simp [*]; done), by repeat (first | exact Drawn0.refl _ | apply Drawn0.step)⟩

/-! ### num_GetSigned: function 39 -/
def num_GetSigned.f (k : Nat) (l0 : List Int) : Option (Int × Int) := (num_read.f k l0).bind fun bt146 => (if bt146.2 = 0 then (some (0, 0)) else ((num_Zag.f bt146.1).bind fun t148 => (some (t148, bt146.2))))
set_option maxHeartbeats 8000000 in
set_option maxRecDepth 100000 in
theorem num_GetSigned.calls (k : Nat) (A0 : Option Addr) (c0 : Nat) (l0 : List Int) (r1 : Int) (r2 : Int) (w : World) (hr0 : Kd.C (Kd.int .u8) w A0 l0.length l0) (hc0 : l0.length ≤ c0) (h : num_GetSigned.f k l0 = some (r1, r2)) :
    Calls Try.prog 39 #[.slice A0 l0.length c0] w fun e w' => e = .returned (.tuple #[.int .i64 r1, .int .i64 r2]) ∧ Below w.heap.size w w' := by
  have HR0 := Aside0.mk hr0
  have HC0 := Aside0.mk hc0
  clear hr0 hc0
  have HB := Aside0.mk (Below.refl w.heap.size w)
  have H : ((num_read.f k l0).bind fun bt146 => (if bt146.2 = 0 then (some (0, 0)) else ((num_Zag.f bt146.1).bind fun t148 => (some (t148, bt146.2))))) = some (r1, r2) := h
  clear h
  replace H := Option.bind_eq_some_iff.mp H
  obtain ⟨⟨t146, t147⟩, A20, H⟩ := H
  replace H : (if t147 = 0 then (some (0, 0)) else ((num_Zag.f t146).bind fun t148 => (some (t148, t147)))) = some (r1, r2) := H
  have A2 := Aside0.mk A20
  clear A20
  by_cases c3 : t147 = 0
  · rw [if_pos c3] at H
    have c3b0 : (t147 == 0) = true := beq_iff_eq.mpr c3
    have c3b1 : (t147 != 0) = false := bne_eq_false_iff_eq.mpr c3
    clear c3
    simp only [Option.some.injEq, Prod.mk.injEq] at H
    obtain ⟨rfl, rfl⟩ := H
    go_enter Try.func39, Try.ntmps39
    go_wp2_with (first | ((with_reducible refine gate_callee (f := 38) rfl ?_); refine goesL_ (some 8) rfl rfl Try.func38 (by kernel_rfl) rfl #[.slice A0 l0.length c0] rfl (by (try simp only [List.map_toArray, List.map_cons, List.map_nil]); first | done | rfl | (simp only [List.length_drop, List.length_take]; rfl)) ?_; (with_reducible refine (num_read.calls k _ _ l0 t146 t147 _ ?side1 ?side2 A2.out).mono ?_); (case side1 => repeat (first | exact HR0.out | (with_reducible refine Kd.C_alloc ?_ _) | (with_reducible refine Kd.C_drewN ?_ _) | (with_reducible refine Kd.C_drew ?_))); (case side2 => exact HC0.out); rintro e w4 ⟨rfl, hb⟩; refine ⟨_, rfl, ?_⟩; have n0_ := Aside0.mk (below_step (by repeat (first | (with_reducible first | exact HB.out | apply below_alloc | apply pw_below_drewN | apply below_drew1) | exact HB.out)) hb); clear HB; have HB := n0_; clear n0_; (try clear hb); (try clear hb2); (try clear hk); (try clear hi)))
    go_ret2
    exact ⟨by first | rfl | (simp [errW_none, errW_some] <;> rfl) | (simp [*, errW_none, errW_some] <;> rfl), by repeat (first | (with_reducible first | exact HB.out | apply below_alloc | apply pw_below_drewN | apply below_drew1) | exact HB.out)⟩
  · rw [if_neg c3] at H
    have c3b0 : (t147 == 0) = false := beq_eq_false_iff_ne.mpr c3
    have c3b1 : (t147 != 0) = true := bne_iff_ne.mpr c3
    replace H := Option.bind_eq_some_iff.mp H
    obtain ⟨t148, A50, H⟩ := H
    replace H : (some (t148, t147)) = some (r1, r2) := H
    have A5 := Aside0.mk A50
    clear A50
    simp only [Option.some.injEq, Prod.mk.injEq] at H
    obtain ⟨rfl, rfl⟩ := H
    go_enter Try.func39, Try.ntmps39
    have tok1_ : True := trivial; have tok2_ : True := trivial
    go_wp2_with (first | ((with_reducible refine gate_callee (f := 38) rfl ?_); clear tok1_; refine goesL_ (some 8) rfl rfl Try.func38 (by kernel_rfl) rfl #[.slice A0 l0.length c0] rfl (by (try simp only [List.map_toArray, List.map_cons, List.map_nil]); first | done | rfl | (simp only [List.length_drop, List.length_take]; rfl)) ?_; (with_reducible refine (num_read.calls k _ _ l0 t146 t147 _ ?side1 ?side2 A2.out).mono ?_); (case side1 => repeat (first | exact HR0.out | (with_reducible refine Kd.C_alloc ?_ _) | (with_reducible refine Kd.C_drewN ?_ _) | (with_reducible refine Kd.C_drew ?_))); (case side2 => exact HC0.out); rintro e w6 ⟨rfl, hb⟩; refine ⟨_, rfl, ?_⟩; have n0_ := Aside0.mk (below_step (by repeat (first | (with_reducible first | exact HB.out | apply below_alloc | apply pw_below_drewN | apply below_drew1) | exact HB.out)) hb); clear HB; have HB := n0_; clear n0_; (try clear hb); (try clear hb2); (try clear hk); (try clear hi)) | ((with_reducible refine gate_callee (f := 46) rfl ?_); clear tok2_; refine goesL_ (some 14) rfl rfl Try.func46 (by kernel_rfl) rfl #[.int .u64 t146] rfl (by (try simp only [List.map_toArray, List.map_cons, List.map_nil]); first | done | rfl | (simp only [List.length_drop, List.length_take]; rfl)) ?_; (with_reducible refine (num_Zag.calls t146 t148 _ A5.out).mono ?_); rintro e w' ⟨rfl, ⟨nd, rfl⟩⟩; refine ⟨_, rfl, ?_⟩))
    go_ret2
    exact ⟨by first | rfl | (simp [errW_none, errW_some] <;> rfl) | (simp [*, errW_none, errW_some] <;> rfl), by repeat (first | (with_reducible first | exact HB.out | apply below_alloc | apply pw_below_drewN | apply below_drew1) | exact HB.out)⟩

-- NOT PRINTED: function 47 (codec_reader)

/-! ### codec_GetOp: function 40 -/
/-- What a reader holds: the bytes that are left, and whether all numbers were there; both in variables of the call's own. -/
def codec_GetOp.RS (w W : World) (B F : Nat) (v : Value) (fine : Bool) : Prop :=
  W.heap[B]? = some (.cells #[v] 24 (0, 0)) ∧ W.heap[F]? = some (.cells #[.bool fine] 4 (0, 0)) ∧ Below w.heap.size w W ∧ w.heap.size ≤ B ∧ w.heap.size ≤ F ∧ B ≠ F
theorem codec_GetOp.RS.below {w W W1 : World} {B F : Nat} {v : Value} {fine : Bool} (h : codec_GetOp.RS w W B F v fine) (hb : Below W.heap.size W W1) : codec_GetOp.RS w W1 B F v fine :=
  ⟨blk_below h.1 hb, blk_below h.2.1 hb, below_step h.2.2.1 hb, h.2.2.2.1, h.2.2.2.2.1, h.2.2.2.2.2⟩
/-- Two stores: into the variable of the flag, then into that of the bytes. -/
theorem codec_GetOp.RS.two {w W : World} {B F : Nat} {v v2 : Value} {fine fine2 : Bool} (h : codec_GetOp.RS w W B F v fine) : codec_GetOp.RS w ((W.setCell ⟨F, 0, none⟩ (.bool fine2)).setCell ⟨B, 0, none⟩ v2) B F v2 fine2 := by
  obtain ⟨hb, hf, hbel, hB, hF, hne⟩ := h
  refine ⟨one_setCell (blk_far hb (p := ⟨F, 0, none⟩) hne _), blk_far (one_setCell hf) (p := ⟨B, 0, none⟩) (Ne.symm hne) _, below_set (below_set hbel hF) hB, hB, hF, hne⟩
theorem codec_GetOp.RS.two_kept {W : World} {B F : Nat} (u v : Value) : Kept W ((W.setCell ⟨F, 0, none⟩ u).setCell ⟨B, 0, none⟩ v) (fun k => k = B ∨ k = F) :=
  ⟨by simp, fun i _ hn => (Below.heap_setCell _ _ _ i (fun e => hn (.inl e))).trans (Below.heap_setCell _ _ _ i (fun e => hn (.inr e)))⟩
set_option maxHeartbeats 8000000 in
set_option maxRecDepth 100000 in
/-- get(ferryman/num.Get). -/
theorem codec_GetOp.get (k : Nat) (w W : World) (B F : Nat) (A : Option Addr) (c : Nat) (l : List Int) (fine : Bool) (r1 r2 : Int) (hS : codec_GetOp.RS w W B F (.slice A l.length c) fine) (hr : Kd.C (Kd.int .u8) w A l.length l) (hc : l.length ≤ c)
    (h : num_Get.f k l = some (r1, r2)) (h0 : 0 ≤ r2) (h1 : r2 ≤ l.length) :
    Calls Try.prog 49 #[.func (.func 27) #[] #[], .pointer (some ⟨B, 0, none⟩), .pointer (some ⟨F, 0, none⟩)] W fun e W' => ∃ A', e = .returned (.int .i64 r1) ∧ codec_GetOp.RS w W' B F (.slice A' (l.drop r2.toNat).length (c - r2.toNat)) (fine && decide (r2 > 0)) ∧
      Kd.C (Kd.int .u8) w A' (l.drop r2.toNat).length (l.drop r2.toNat) ∧ (l.drop r2.toNat).length ≤ c - r2.toNat ∧ Kept W W' (fun k => k = B ∨ k = F) := by
  have hinf : (Try.prog.info? 5).map (fun i => (i.zero, i.size, i.bytes)) = some (some (.int .u8 0), 1, 1) := by kernel_rfl
  obtain ⟨i0, hi0, _, hz1, _⟩ := info_parts hinf
  obtain ⟨A', hrun, hread, hlen⟩ := print_cut_int (P := Try.prog) (k := .u8) 24 5 Try.underlying24 hi0 hz1 A c l r2 h0 h1 hc
  clear hinf hi0 hz1
  have HREAD := Aside0.mk (Kd.C_of_reads (enc := Value.int .u8) (d := (0 : Int)) (h1 := fun _ => rfl) (hread w (Kd.reads_of_C (enc := Value.int .u8) (d := (0 : Int)) (h1 := fun _ => rfl) hr)))
  have HLEN := Aside0.mk hlen
  have HS := Aside0.mk hS
  have HR := Aside0.mk (Kd.C_below hr hS.2.2.1)
  have HC := Aside0.mk hc
  have H := Aside0.mk h
  have cB := cell_of_one hS.1
  have cF := cell_of_one hS.2.1
  have HN := Aside0.mk hS.2.2.2.2.2
  clear hread hlen hS hr hc h
  by_cases hp : r2 > 0
  all_goals
    cases fine
    all_goals
      go_enter Try.func49, Try.ntmps49
      go_wp2_with (first
        | (go_at_call 27; refine (num_Get.calls k A c l r1 r2 _ HR.out HC.out H.out).mono ?_; rintro e W1 ⟨rfl, hb1⟩; have HS1 := Aside0.mk (HS.out.below hb1); have HB1 := Aside0.mk hb1; clear hb1; have dB := cell_of_one HS1.out.1; have dF := cell_of_one HS1.out.2.1; have fB := free_of_one HS1.out.1; have fF := free_of_one HS1.out.2.1; have dB2 := fun u => cell_of_one (blk_far HS1.out.1 (p := ⟨F, 0, none⟩) HN.out u); have fB2 := fun u => free_of_one (blk_far HS1.out.1 (p := ⟨F, 0, none⟩) HN.out u)))
      go_ret
      refine ⟨A', rfl, ?_, HREAD.out, HLEN.out, (Kept.of_below HB1.out _).then_ (codec_GetOp.RS.two_kept _ _) (fun _ h => .inl h)⟩
      rw [List.length_drop]
      first | exact HS1.out.two | (rw [Bool.true_and, decide_eq_true hp]; exact HS1.out.two) | (rw [Bool.true_and, decide_eq_false hp]; exact HS1.out.two)
set_option maxHeartbeats 8000000 in
set_option maxRecDepth 100000 in
/-- get(ferryman/num.GetSigned). -/
theorem codec_GetOp.gets (k : Nat) (w W : World) (B F : Nat) (A : Option Addr) (c : Nat) (l : List Int) (fine : Bool) (r1 r2 : Int) (hS : codec_GetOp.RS w W B F (.slice A l.length c) fine) (hr : Kd.C (Kd.int .u8) w A l.length l) (hc : l.length ≤ c)
    (h : num_GetSigned.f k l = some (r1, r2)) (h0 : 0 ≤ r2) (h1 : r2 ≤ l.length) :
    Calls Try.prog 49 #[.func (.func 39) #[] #[], .pointer (some ⟨B, 0, none⟩), .pointer (some ⟨F, 0, none⟩)] W fun e W' => ∃ A', e = .returned (.int .i64 r1) ∧ codec_GetOp.RS w W' B F (.slice A' (l.drop r2.toNat).length (c - r2.toNat)) (fine && decide (r2 > 0)) ∧
      Kd.C (Kd.int .u8) w A' (l.drop r2.toNat).length (l.drop r2.toNat) ∧ (l.drop r2.toNat).length ≤ c - r2.toNat ∧ Kept W W' (fun k => k = B ∨ k = F) := by
  have hinf : (Try.prog.info? 5).map (fun i => (i.zero, i.size, i.bytes)) = some (some (.int .u8 0), 1, 1) := by kernel_rfl
  obtain ⟨i0, hi0, _, hz1, _⟩ := info_parts hinf
  obtain ⟨A', hrun, hread, hlen⟩ := print_cut_int (P := Try.prog) (k := .u8) 24 5 Try.underlying24 hi0 hz1 A c l r2 h0 h1 hc
  clear hinf hi0 hz1
  have HREAD := Aside0.mk (Kd.C_of_reads (enc := Value.int .u8) (d := (0 : Int)) (h1 := fun _ => rfl) (hread w (Kd.reads_of_C (enc := Value.int .u8) (d := (0 : Int)) (h1 := fun _ => rfl) hr)))
  have HLEN := Aside0.mk hlen
  have HS := Aside0.mk hS
  have HR := Aside0.mk (Kd.C_below hr hS.2.2.1)
  have HC := Aside0.mk hc
  have H := Aside0.mk h
  have cB := cell_of_one hS.1
  have cF := cell_of_one hS.2.1
  have HN := Aside0.mk hS.2.2.2.2.2
  clear hread hlen hS hr hc h
  by_cases hp : r2 > 0
  all_goals
    cases fine
    all_goals
      go_enter Try.func49, Try.ntmps49
      go_wp2_with (first
        | (go_at_call 39; refine (num_GetSigned.calls k A c l r1 r2 _ HR.out HC.out H.out).mono ?_; rintro e W1 ⟨rfl, hb1⟩; have HS1 := Aside0.mk (HS.out.below hb1); have HB1 := Aside0.mk hb1; clear hb1; have dB := cell_of_one HS1.out.1; have dF := cell_of_one HS1.out.2.1; have fB := free_of_one HS1.out.1; have fF := free_of_one HS1.out.2.1; have dB2 := fun u => cell_of_one (blk_far HS1.out.1 (p := ⟨F, 0, none⟩) HN.out u); have fB2 := fun u => free_of_one (blk_far HS1.out.1 (p := ⟨F, 0, none⟩) HN.out u)))
      go_ret
      refine ⟨A', rfl, ?_, HREAD.out, HLEN.out, (Kept.of_below HB1.out _).then_ (codec_GetOp.RS.two_kept _ _) (fun _ h => .inl h)⟩
      rw [List.length_drop]
      first | exact HS1.out.two | (rw [Bool.true_and, decide_eq_true hp]; exact HS1.out.two) | (rw [Bool.true_and, decide_eq_false hp]; exact HS1.out.two)
set_option maxHeartbeats 8000000 in
set_option maxRecDepth 100000 in
theorem codec_GetOp.reader (w : World) (A : Option Addr) (n c : Nat) :
    Calls Try.prog 47 #[.slice A n c] w fun e W => e = .returned (.tuple #[.func (.func 49) #[] #[.pointer (some ⟨w.heap.size, 0, none⟩), .pointer (some ⟨w.heap.size + 1, 0, none⟩)], .func (.func 50) #[] #[.pointer (some ⟨w.heap.size + 1, 0, none⟩)], .func (.func 51) #[] #[.pointer (some ⟨w.heap.size, 0, none⟩)]]) ∧ codec_GetOp.RS w W w.heap.size (w.heap.size + 1) (.slice A n c) true := by
  have hmf : ∀ fn first cap w, (Instr.makeFunc fn first cap).run Try.prog w = .ok (.func fn first cap) w := fun _ _ _ _ => rfl
  go_enter Try.func47, Try.ntmps47
  go_wp2
  go_ret3
  refine ⟨rfl, blk_alloc (heap_alloc_new _ _) _, ?_, below_alloc (below_alloc (Below.refl _ _) _) _, by omega, by omega, by omega⟩
  have := heap_alloc_new (w.alloc (.cells #[.slice A n c] 24)) (.cells #[.bool true] 4)
  rw [World.size_alloc] at this
  exact this
theorem codec_GetOp.whole (w W : World) (B F : Nat) (v : Value) (fine : Bool) (hS : codec_GetOp.RS w W B F v fine) :
    Calls Try.prog 50 #[.pointer (some ⟨F, 0, none⟩)] W fun e W' => e = .returned (.bool fine) ∧ W = W' := by
  have cF := cell_of_one hS.2.1
  go_enter Try.func50, Try.ntmps50
  go_wp2
  go_ret
  exact ⟨rfl, rfl⟩
theorem codec_GetOp.left (w W : World) (B F : Nat) (A : Option Addr) (n c : Nat) (fine : Bool) (hS : codec_GetOp.RS w W B F (.slice A n c) fine) :
    Calls Try.prog 51 #[.pointer (some ⟨B, 0, none⟩)] W fun e W' => e = .returned (.int .i64 n) ∧ W = W' := by
  have cB := cell_of_one hS.1
  go_enter Try.func51, Try.ntmps51
  go_wp2
  go_ret
  exact ⟨rfl, rfl⟩
theorem codec_GetOp.fine3 {a b c : Bool} (h : true = (((true && a) && b) && c)) : a = true ∧ b = true ∧ c = true := by
  cases a <;> cases b <;> cases c <;> simp_all
theorem codec_GetOp.RS.drew {w W : World} {B F : Nat} {v : Value} {fine : Bool} (h : codec_GetOp.RS w W B F v fine) : codec_GetOp.RS w W.drew B F v fine :=
  ⟨blk_drew h.1, blk_drew h.2.1, below_drew1 h.2.2.1, h.2.2.2.1, h.2.2.2.2.1, h.2.2.2.2.2⟩
def codec_GetOp.f (k : Nat) (l0 : List Int) : Option (Int × Int × Int × Int) :=
  (num_Get.f k l0).bind fun p => (if 0 ≤ p.2 then (if p.2 ≤ l0.length then
  ((num_GetSigned.f k (l0.drop p.2.toNat)).bind fun q => (if 0 ≤ q.2 then (if q.2 ≤ (l0.drop p.2.toNat).length then
  ((num_GetSigned.f k ((l0.drop p.2.toNat).drop q.2.toNat)).bind fun s => (if 0 ≤ s.2 then (if s.2 ≤ ((l0.drop p.2.toNat).drop q.2.toNat).length then
  ((objs_Fits.f p.1 q.1 s.1).bind fun t => some (if p.2 > 0 ∧ q.2 > 0 ∧ s.2 > 0 ∧ t = true then (p.1, q.1, s.1, p.2 + q.2 + s.2) else (0, 0, 0, 0)))
  else none) else none)) else none) else none)) else none) else none)
set_option maxHeartbeats 8000000 in
set_option maxRecDepth 100000 in
theorem codec_GetOp.calls (k : Nat) (A0 : Option Addr) (c0 : Nat) (l0 : List Int) (r1 r2 r3 r4 : Int) (w : World) (hr0 : Kd.C (Kd.int .u8) w A0 l0.length l0) (hc0 : l0.length ≤ c0) (h : codec_GetOp.f k l0 = some (r1, r2, r3, r4)) :
    Calls Try.prog 40 #[.slice A0 l0.length c0] w fun e w' => e = .returned (.tuple #[.agg #[.int .i64 r1, .int .i64 r2, .int .i64 r3], .int .i64 r4]) ∧ Below w.heap.size w w' := by
  unfold codec_GetOp.f at h
  rw [Option.bind_eq_some_iff] at h
  obtain ⟨⟨p1, p2⟩, hp, h⟩ := h
  by_cases hp0 : 0 ≤ p2
  case neg => exact absurd h (by simp [hp0])
  by_cases hp1 : p2 ≤ l0.length
  case neg => exact absurd h (by simp [hp1])
  rw [if_pos hp0, if_pos hp1, Option.bind_eq_some_iff] at h
  obtain ⟨⟨q1, q2⟩, hq, h⟩ := h
  obtain ⟨l1, hl1⟩ : ∃ l1, l1 = l0.drop p2.toNat := ⟨_, rfl⟩
  have hlen1 : (l1.length : Int) = l0.length - p2 := by rw [hl1, List.length_drop]; omega
  simp only [← hl1] at hq h
  by_cases hq0 : 0 ≤ q2
  case neg => exact absurd h (by simp [hq0])
  by_cases hq1 : q2 ≤ l1.length
  case neg => exact absurd h (by simp [hq1])
  rw [if_pos hq0, if_pos hq1, Option.bind_eq_some_iff] at h
  obtain ⟨⟨s1, s2⟩, hs, h⟩ := h
  obtain ⟨l2, hl2⟩ : ∃ l2, l2 = l1.drop q2.toNat := ⟨_, rfl⟩
  have hlen2 : (l2.length : Int) = l1.length - q2 := by rw [hl2, List.length_drop]; omega
  simp only [← hl2] at hs h
  by_cases hs0 : 0 ≤ s2
  case neg => exact absurd h (by simp [hs0])
  by_cases hs1 : s2 ≤ l2.length
  case neg => exact absurd h (by simp [hs1])
  rw [if_pos hs0, if_pos hs1, Option.bind_eq_some_iff] at h
  obtain ⟨t, ht, h⟩ := h
  obtain ⟨l3, hl3⟩ : ∃ l3, l3 = l2.drop s2.toNat := ⟨_, rfl⟩
  have hlen3 : (l3.length : Int) = l2.length - s2 := by rw [hl3, List.length_drop]; omega
  have H := Aside0.mk (Option.some.inj h)
  have HP := Aside0.mk hp
  have HQ := Aside0.mk hq
  have HS := Aside0.mk hs
  have HT := Aside0.mk ht
  have HR0 := Aside0.mk hr0
  have HC0 := Aside0.mk hc0
  have HP0 := Aside0.mk hp0
  have HP1 := Aside0.mk hp1
  have HQ0 := Aside0.mk hq0
  have HQ1 := Aside0.mk hq1
  have HS0 := Aside0.mk hs0
  have HS1 := Aside0.mk hs1
  have L1 := Aside0.mk hl1
  have L2 := Aside0.mk hl2
  have L3 := Aside0.mk hl3
  have N1 := Aside0.mk hlen1
  have N2 := Aside0.mk hlen2
  have N3 := Aside0.mk hlen3
  clear h hp hq hs ht hr0 hc0 hp0 hp1 hq0 hq1 hs0 hs1 hl1 hl2 hl3 hlen1 hlen2 hlen3
  obtain ⟨wb, hwb⟩ : ∃ wb, wb = w.alloc (.cells #[.int .i64 0, .int .i64 0, .int .i64 0] 30) := ⟨_, rfl⟩
  have HWB := Aside0.mk hwb
  have HBW := Aside0.mk (below_alloc (Below.refl _ _) (.cells #[.int .i64 0, .int .i64 0, .int .i64 0] 30) : Below w.heap.size w (w.alloc (.cells #[.int .i64 0, .int .i64 0, .int .i64 0] 30)))
  have HOB := Aside0.mk (heap_alloc_new w (.cells #[.int .i64 0, .int .i64 0, .int .i64 0] 30))
  rw [← hwb] at HBW HOB
  clear hwb
  go_enter Try.func40, Try.ntmps40
  have tokA_ : True := trivial
  have tokB_ : True := trivial
  have tokC_ : True := trivial
  have tokD_ : True := trivial
  have tokE_ : True := trivial
  have tokF_ : True := trivial
  go_wp2_with (first
    | (clear tokA_; go_at_call 47; refine (codec_GetOp.reader _ _ _ _).mono ?_; rintro e W0 ⟨rfl, hS0⟩; rw [← HWB.out] at hS0 ⊢; obtain ⟨B, hB⟩ : ∃ B, B = wb.heap.size := ⟨_, rfl⟩; rw [← hB] at hS0 ⊢; obtain ⟨F, hF⟩ : ∃ F, F = B + 1 := ⟨_, rfl⟩; rw [← hF] at hS0 ⊢; have HRS0 := Aside0.mk hS0; clear hS0 hB hF)
    | (clear tokB_; go_at_call 49; refine (codec_GetOp.get k wb _ B F A0 c0 l0 true p1 p2 HRS0.out (Kd.C_below HR0.out HBW.out) HC0.out HP.out HP0.out HP1.out).mono ?_; rintro e W1 ⟨A1, rfl, hS1, hr1, hc1, hk1⟩; rw [← L1.out] at hS1 hr1 hc1; have HRS1 := Aside0.mk hS1; have HR1 := Aside0.mk hr1; have HC1 := Aside0.mk hc1; clear hS1 hr1 hc1 hk1)
    | (clear tokC_; go_at_call 49; refine (codec_GetOp.gets k wb _ B F _ _ l1 _ q1 q2 HRS1.out HR1.out HC1.out HQ.out HQ0.out HQ1.out).mono ?_; rintro e W2 ⟨A2, rfl, hS2, hr2, hc2, hk2⟩; rw [← L2.out] at hS2 hr2 hc2; have HRS2 := Aside0.mk hS2; have HR2 := Aside0.mk hr2; have HC2 := Aside0.mk hc2; clear hS2 hr2 hc2 hk2)
    | (clear tokD_; go_at_call 49; refine (codec_GetOp.gets k wb _ B F _ _ l2 _ s1 s2 HRS2.out HR2.out HC2.out HS.out HS0.out HS1.out).mono ?_; rintro e W3 ⟨A3, rfl, hS3, hr3, hc3, hk3⟩; rw [← L3.out] at hS3 hr3 hc3; obtain ⟨fine, hfine⟩ : ∃ fine, fine = (((true && decide (p2 > 0)) && decide (q2 > 0)) && decide (s2 > 0)) := ⟨_, rfl⟩; rw [← hfine] at hS3; have HRS3 := Aside0.mk hS3; have HR3 := Aside0.mk hr3; have HC3 := Aside0.mk hc3; have HF := Aside0.mk hfine; clear hS3 hr3 hc3 hk3 hfine)
    | (clear tokE_; go_at_call 50; refine (codec_GetOp.whole wb _ B F _ _ (HRS3.out.below (below_alloc (Below.refl _ _) _))).mono ?_; rintro e W4 ⟨rfl, rfl⟩
       have HRS4 := Aside0.mk (HRS3.out.below (below_alloc (Below.refl _ _) (.cells #[.int .i64 p1, .int .i64 q1, .int .i64 s1] 30) : Below W3.heap.size W3 (W3.alloc _)))
       have HST := Aside0.mk (heap_alloc_new W3 (.cells #[.int .i64 p1, .int .i64 q1, .int .i64 s1] 30))
       obtain ⟨G, hG⟩ : ∃ G, G = W3.heap.size := ⟨_, rfl⟩
       rw [← hG] at HST ⊢
       obtain ⟨W4, hW4⟩ : ∃ W4, W4 = W3.alloc (.cells #[.int .i64 p1, .int .i64 q1, .int .i64 s1] 30) := ⟨_, rfl⟩
       rw [← hW4] at HRS4 HST ⊢
       clear hG hW4 HRS3 HRS2 HRS1 HRS0
       have HO4 := Aside0.mk (blk_below HOB.out HRS4.out.2.2.1)
       have st0 : W4.cell? ⟨G, 0, none⟩ = some (.int .i64 p1) := (blk_cell HST.out 0).trans rfl
       have st1 : W4.cell? ⟨G, 1, none⟩ = some (.int .i64 q1) := (blk_cell HST.out 1).trans rfl
       have st2 : W4.cell? ⟨G, 2, none⟩ = some (.int .i64 s1) := (blk_cell HST.out 2).trans rfl
       have sr0 : W4.cell? ⟨w.heap.size, 0, none⟩ = some (.int .i64 0) := (blk_cell HO4.out 0).trans rfl
       have sr1 : W4.cell? ⟨w.heap.size, 1, none⟩ = some (.int .i64 0) := (blk_cell HO4.out 1).trans rfl
       have sr2 : W4.cell? ⟨w.heap.size, 2, none⟩ = some (.int .i64 0) := (blk_cell HO4.out 2).trans rfl
       have sf0 := blk_frozen HO4.out 0
       have sf1 := blk_frozen HO4.out 1
       have sf2 := blk_frozen HO4.out 2
       cases fine)
    | (clear tokF_; go_at_call 34; refine (objs_Fits.calls p1 q1 s1 t _ HT.out).mono ?_; rintro e W5 ⟨rfl, hb5⟩
       have HRS5 := Aside0.mk (HRS4.out.below hb5)
       have HO5 := Aside0.mk (blk_below HO4.out hb5)
       have HST5 := Aside0.mk (blk_below HST.out hb5)
       clear HRS4 HO4 HST hb5 sr0 sr1 sr2 st0 st1 st2 sf0 sf1 sf2
       have st0 : W5.cell? ⟨G, 0, none⟩ = some (.int .i64 p1) := (blk_cell HST5.out 0).trans rfl
       have st1 : W5.cell? ⟨G, 1, none⟩ = some (.int .i64 q1) := (blk_cell HST5.out 1).trans rfl
       have st2 : W5.cell? ⟨G, 2, none⟩ = some (.int .i64 s1) := (blk_cell HST5.out 2).trans rfl
       have sr0 : W5.cell? ⟨w.heap.size, 0, none⟩ = some (.int .i64 0) := (blk_cell HO5.out 0).trans rfl
       have sr1 : W5.cell? ⟨w.heap.size, 1, none⟩ = some (.int .i64 0) := (blk_cell HO5.out 1).trans rfl
       have sr2 : W5.cell? ⟨w.heap.size, 2, none⟩ = some (.int .i64 0) := (blk_cell HO5.out 2).trans rfl
       have sf0 := blk_frozen HO5.out 0
       have sf1 := blk_frozen HO5.out 1
       have sf2 := blk_frozen HO5.out 2
       cases t))
  · have h := H.out
    have hf := HF.out
    rw [if_neg (by rintro ⟨a, b, c, d⟩; rw [decide_eq_true a, decide_eq_true b, decide_eq_true c] at hf; exact absurd hf (by decide))] at h
    simp only [Prod.mk.injEq] at h
    obtain ⟨rfl, rfl, rfl, rfl⟩ := h
    refine bodyPost_ret (results_ct rfl _ _ w.heap.size 30 #[.int .i64 0, .int .i64 0, .int .i64 0] (0, 0) _ rfl (blk_put (blk_put (blk_put HO4.out 0 _ rfl) 1 _ rfl) 2 _ rfl) Try.underlying30 rfl (by kernel_rfl)) rfl ⟨rfl, ?_⟩
    exact below_set (below_set (below_set (below_step HBW.out HRS4.out.2.2.1) (Nat.le_refl _)) (Nat.le_refl _)) (Nat.le_refl _)
  · have h := H.out
    rw [if_neg (by rintro ⟨a, b, c, d⟩; exact absurd d (by decide))] at h
    simp only [Prod.mk.injEq] at h
    obtain ⟨rfl, rfl, rfl, rfl⟩ := h
    refine bodyPost_ret (results_ct rfl _ _ w.heap.size 30 #[.int .i64 0, .int .i64 0, .int .i64 0] (0, 0) _ rfl (blk_put (blk_put (blk_put HO5.out 0 _ rfl) 1 _ rfl) 2 _ rfl) Try.underlying30 rfl (by kernel_rfl)) rfl ⟨rfl, ?_⟩
    exact below_set (below_set (below_set (below_step HBW.out HRS5.out.2.2.1) (Nat.le_refl _)) (Nat.le_refl _)) (Nat.le_refl _)
  · have HRS6 := Aside0.mk HRS5.out.drew
    go_region_with (go_at_call 51; refine (codec_GetOp.left wb _ B F _ _ _ _ HRS6.out).mono ?_; rintro e W6 ⟨rfl, rfl⟩)
    all_goals
      have h := H.out
      have hf := HF.out
      obtain ⟨x1, x2, x3⟩ := codec_GetOp.fine3 hf
      have hp := of_decide_eq_true x1
      have hq := of_decide_eq_true x2
      have hs := of_decide_eq_true x3
      rw [if_pos ⟨hp, hq, hs, by trivial⟩] at h
      simp only [Prod.mk.injEq] at h
      obtain ⟨rfl, rfl, rfl, rfl⟩ := h
      have hl := HR0.out.2.1
      have n1 := N1.out
      have n2 := N2.out
      have n3 := N3.out
      have hw : IntKind.i64.wrap ((l0.length : Int) - (l3.length : Int)) = p2 + q2 + s2 := by
        rw [show (l0.length : Int) - (l3.length : Int) = p2 + q2 + s2 by omega]
        exact IntWalk.i64_in _ (by omega)
      go_wp2
      refine bodyPost_ret (results_ct rfl _ _ w.heap.size 30 #[.int .i64 p1, .int .i64 q1, .int .i64 s1] (0, 0) _ rfl (blk_put (blk_put (blk_put (blk_drew HO5.out) 0 _ rfl) 1 _ rfl) 2 _ rfl) Try.underlying30 rfl (by kernel_rfl)) rfl ⟨?_, ?_⟩
      · first | rfl | (rw [hw]; rfl) | (simp only [hw]; rfl)
      · exact below_set (below_set (below_set (below_drew1 (below_step HBW.out HRS5.out.2.2.1)) (Nat.le_refl _)) (Nat.le_refl _)) (Nat.le_refl _)

end Go.Proofs.Ytecddphmnoegdaa.QBlockDecodes
