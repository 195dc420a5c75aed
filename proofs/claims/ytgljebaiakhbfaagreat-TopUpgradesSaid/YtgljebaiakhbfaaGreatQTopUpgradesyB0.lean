/- What this text proves: words of a printed walk, as far as the row needs them; no condition. Out of the kit's print program; what isn't used is struck by wip/tools/slim.py. -/
import Derived.Test.YtgljebaiakhbfaaGreatQTopUpgradesx0
import Derived.Test.YtgljebaiakhbfaaGreatQTopUpgradesyA0
import Derived.Test.YtgljebaiakhbfaaGreatQTopUpgradesyA1
namespace Go.Proofs.YtgljebaiakhbfaaGreat.QTopUpgrades
open Go.RowKit Go.Proofs.YtgljebaiakhbfaaGreatW.PrintWords Go.Proofs.YtgljebaiakhbfaaGreatW.PrintLast Go.Proofs.YtgljebaiakhbfaaGreatW.PrintMore
attribute [local go_sem] max2_int min2_int max_two min_two max_three min_three max_four min_four   -- for this text's walks alone
set_option linter.unusedVariables false
set_option linter.unusedSimpArgs false

/-! ### num_read: function 156 -/
mutual
def num_read.l0 : Nat → List Int → Int → Int → Int → Option (Int × Int)
  | 0, _, _, _, _ => none
  | k + 1, x0, x4, x9, x10 => if x10 < x9 then (if 0 ≤ x10 then (if x10 < (x0.length : Int) then (if 0 ≤ (wrap64 (7 * x10)) then (if x10 = 9 then (num_read.j1 k x0 (Go.bits .or .u64 x4 (shl .u64 (IntKind.u64.wrap (Go.bits .and .u8 (rd x0 x10) 127)) (wrap64 (7 * x10)))) x10 (rd x0 x10) x9 x10 (decide ((rd x0 x10) > 1))) else (num_read.j1 k x0 (Go.bits .or .u64 x4 (shl .u64 (IntKind.u64.wrap (Go.bits .and .u8 (rd x0 x10) 127)) (wrap64 (7 * x10)))) x10 (rd x0 x10) x9 x10 false)) else (none)) else (none)) else (none)) else (some (0, 0))
def num_read.j1 : Nat → List Int → Int → Int → Int → Int → Int → Bool → Option (Int × Int)
  | 0, _, _, _, _, _, _, _ => none
  | k + 1, x0, x4, x5, x6, x9, x10, x25 => if x25 = true then (some (0, 0)) else (if x6 = 0 then (num_read.j2 k x0 x4 x5 x6 x9 x10 (decide (x5 > 0))) else (num_read.j2 k x0 x4 x5 x6 x9 x10 false))
def num_read.j2 : Nat → List Int → Int → Int → Int → Int → Int → Bool → Option (Int × Int)
  | 0, _, _, _, _, _, _, _ => none
  | k + 1, x0, x4, x5, x6, x9, x10, x32 => if x32 = true then (some (0, 0)) else (if x6 < 128 then (some (x4, wrap64 (x5 + 1))) else (num_read.l0 k x0 x4 x9 (wrap64 (x10 + 1))))
end
def num_read.f (k : Nat) (l0 : List Int) : Option (Int × Int) := num_read.l0 k l0 0 (mn (l0.length : Int) 10) 0
set_option maxHeartbeats 8000000 in
set_option maxRecDepth 100000 in
theorem num_read.calls (k : Nat) (A0 : Option Addr) (c0 : Nat) (l0 : List Int) (r1 : Int) (r2 : Int) (w : World) (hr0 : Kd.C (Kd.int .u8) w A0 l0.length l0) (hc0 : l0.length ≤ c0) (h : num_read.f k l0 = some (r1, r2)) :
    Calls Tryz.prog 156 #[.slice A0 l0.length c0] w fun e w' => e = .returned (.tuple #[.int .u64 r1, .int .i64 r2]) ∧ Below w.heap.size w w' := by
  have HR0 := Aside0.mk hr0
  have HC0 := Aside0.mk hc0
  clear hr0 hc0
  have HB := Aside0.mk (Below.refl w.heap.size w)
  have H : (num_read.l0 k l0 0 (mn (l0.length : Int) 10) 0) = some (r1, r2) := h
  clear h
  obtain ⟨ji2, hji2⟩ : ∃ j_ : Int, (mn (l0.length : Int) 10) = j_ := ⟨_, rfl⟩
  replace H : (num_read.l0 k l0 0 ji2 0) = some (r1, r2) := by first | (rw [hji2] at H; exact H) | (simp only [hji2] at H ⊢; exact H)
  (try (have hji2h : ji2 ≤ 10 := by (rw [← hji2]; unfold mn; (repeat' split) <;> omega)))
  (try (have hji2g : ji2 ≤ 64 := by omega))
  (try (have hji2l : 0 ≤ ji2 := by (rw [← hji2]; unfold mn; (repeat' split) <;> omega)))
  (try (have hji2m : 0 ≤ ji2 := by omega))
  have hji2_ : (if 10 < (l0.length : Int) then 10 else (l0.length : Int)) = ji2 := hji2
  have H' := Aside0.mk H
  clear H
  go_enter Tryz.func156, Tryz.ntmps156
  go_wp2
  go_loopg [4, 10] k (fun kq v4 v10 w' => ∃ (x4_1 : Int) (x10_1 : Int), v4 = .int .u64 x4_1 ∧ v10 = .int .i64 x10_1 ∧ Aside0 (num_read.l0 kq l0 x4_1 ji2 x10_1 = some (r1, r2)) ∧ Aside0 (kq ≤ k) ∧ Aside0 (Below w.heap.size w w'))
  case atStart => exact ⟨(0), (0), (by first | rfl | (simp; done) | (simp [*]; done)), (by first | rfl | (simp; done) | (simp [*]; done)), H', ⟨Nat.le_refl _⟩, ⟨by repeat (first | (with_reducible first | exact HB.out | apply below_alloc | apply pw_below_drewN | apply below_drew1) | exact HB.out)⟩⟩
  case round =>
    clear H'
    try clear c1
    try clear p2
    obtain ⟨x4_1, x10_1, rfl, rfl, HA, HK1, HB⟩ := hrel
    cases gk with
    | zero => exact absurd HA.out (by simp [num_read.l0])
    | succ k1 =>
      have H := HA.out
      clear HA
      simp only [num_read.l0] at H
      by_cases c3 : x10_1 < ji2
      · rw [if_pos c3] at H
        have c3b0 : decide (x10_1 < ji2) = true := decide_eq_true c3
        clear c3
        by_cases c4 : 0 ≤ x10_1
        · rw [if_pos c4] at H
          have c4b0 : decide (0 ≤ x10_1) = true := decide_eq_true c4
          clear c4
          by_cases c5 : x10_1 < (l0.length : Int)
          · rw [if_pos c5] at H
            have c5b0 : decide (x10_1 < (l0.length : Int)) = true := decide_eq_true c5
            clear c5
            obtain ⟨ji6, hji6⟩ : ∃ j_ : Int, (wrap64 (7 * x10_1)) = j_ := ⟨_, rfl⟩
            replace H : (if 0 ≤ (ji6) then (if x10_1 = 9 then (num_read.j1 k1 l0 (Go.bits .or .u64 x4_1 (shl .u64 (IntKind.u64.wrap (Go.bits .and .u8 (rd l0 x10_1) 127)) (ji6))) x10_1 (rd l0 x10_1) ji2 x10_1 (decide ((rd l0 x10_1) > 1))) else (num_read.j1 k1 l0 (Go.bits .or .u64 x4_1 (shl .u64 (IntKind.u64.wrap (Go.bits .and .u8 (rd l0 x10_1) 127)) (ji6))) x10_1 (rd l0 x10_1) ji2 x10_1 false)) else (none)) = some (r1, r2) := by first | (rw [hji6] at H; exact H) | (simp only [hji6] at H ⊢; exact H)
            have hji6w : (IntKind.i64.wrap (7 * x10_1)) = ji6 := (i64_w _).trans hji6
            by_cases c7 : 0 ≤ (ji6)
            · rw [if_pos c7] at H
              have c7b0 := eq_true c7
              have c7b1 : decide (0 ≤ (ji6)) = true := decide_eq_true c7
              clear c7
              obtain ⟨ji8, hji8⟩ : ∃ j_ : Int, (shl .u64 (IntKind.u64.wrap (Go.bits .and .u8 (rd l0 x10_1) 127)) (ji6)) = j_ := ⟨_, rfl⟩
              replace H : (if x10_1 = 9 then (num_read.j1 k1 l0 (Go.bits .or .u64 x4_1 (ji8)) x10_1 (rd l0 x10_1) ji2 x10_1 (decide ((rd l0 x10_1) > 1))) else (num_read.j1 k1 l0 (Go.bits .or .u64 x4_1 (ji8)) x10_1 (rd l0 x10_1) ji2 x10_1 false)) = some (r1, r2) := by first | (rw [hji8] at H; exact H) | (simp only [hji8] at H ⊢; exact H)
              have hji8_ : (IntKind.u64.wrap ((IntKind.u64.wrap (Go.bits .and .u8 (rd l0 x10_1) 127)) * 2 ^ min (ji6).toNat 64)) = ji8 := hji8
              have hji8z : (ji6) ≤ 64 → (IntKind.u64.wrap ((IntKind.u64.wrap (Go.bits .and .u8 (rd l0 x10_1) 127)) * 2 ^ (ji6).toNat)) = ji8 := shl_small hji8
              have HC9 := Aside0.mk H
              clear H
              have p250 : 0 ≤ (x10_1 : Int) := of_decide_eq_true (by first | (with_reducible assumption) | assumption)
              have q250 : x10_1 < (l0.length : Int) := of_decide_eq_true (by first | (with_reducible assumption) | assumption)
              obtain ⟨ad250, e250, hx250_0⟩ := Kd.at_int HR0.out x10_1 p250 q250
              cases e250
              replace hx250_0 := (HB.out.cell (World.block_lt_of_cell? w _ hx250_0)).trans hx250_0
              replace p250 := eq_true p250
              replace q250 := eq_true q250
              go_upto_region 7 with (fail)
              go_cut [25] (fun v25 wc => ∃ (kq : Nat) (x25_8 : Bool), v25 = .bool x25_8 ∧ Aside0 (num_read.j1 kq l0 (Go.bits .or .u64 x4_1 (ji8)) x10_1 (rd l0 x10_1) ji2 x10_1 x25_8 = some (r1, r2)) ∧ Aside0 (kq ≤ k1) ∧ Aside0 (Below w.heap.size w wc))
              case first =>
                have H := HC9.out
                clear HC9
                by_cases c10 : x10_1 = 9
                · rw [if_pos c10] at H
                  have c10b0 : (x10_1 == 9) = true := beq_iff_eq.mpr c10
                  have c10b1 : (x10_1 != 9) = false := bne_eq_false_iff_eq.mpr c10
                  clear c10
                  (first | rw [c10b0] | rw [c10b1] | (simp only [i64_w, i32_w]; rw [c10b0]) | skip)
                  have H' := Aside0.mk H
                  clear H
                  go_wp2
                  go_meet
                  case rel => exact ⟨_, (decide ((rd l0 x10_1) > 1)), (by first | rfl | (simp; done) | (simp [*]; done)), H', ⟨by have := HK1.out; first | omega | exact Nat.le_refl _⟩, ⟨by repeat (first | (with_reducible first | exact HB.out | apply below_alloc | apply pw_below_drewN | apply below_drew1) | exact HB.out)⟩⟩
                · rw [if_neg c10] at H
                  have c10b0 : (x10_1 == 9) = false := beq_eq_false_iff_ne.mpr c10
                  have c10b1 : (x10_1 != 9) = true := bne_iff_ne.mpr c10
                  (first | rw [c10b0] | rw [c10b1] | (simp only [i64_w, i32_w]; rw [c10b0]) | skip)
                  have H' := Aside0.mk H
                  clear H
                  go_wp2
                  go_meet
                  case rel => exact ⟨_, (false), (by first | rfl | (simp; done) | (simp [*]; done)), H', ⟨by have := HK1.out; first | omega | exact Nat.le_refl _⟩, ⟨by repeat (first | (with_reducible first | exact HB.out | apply below_alloc | apply pw_below_drewN | apply below_drew1) | exact HB.out)⟩⟩
              case rest =>
                clear HC9
                try clear c1
                try clear p2
                try clear q2
                try clear hx2
                try clear c3
                try clear c3b0
                try clear c4
                try clear c4b0
                try clear c5
                try clear c5b0
                try clear p6
                try clear c7
                try clear c7b0
                try clear c7b1
                try clear c10
                try clear c10b0
                try clear c10b1
                try clear hx250_0
                try clear p2
                try clear p250
                try clear q250
                obtain ⟨kq, x25_8, rfl, HA, HJ8, HB⟩ := hcut
                cases kq with
                | zero => exact absurd HA.out (by simp [num_read.j1])
                | succ kj8 =>
                  have H := HA.out
                  clear HA
                  simp only [num_read.j1] at H
                  by_cases c11 : x25_8 = true
                  · subst c11
                    have H1 : (some (0, 0)) = some (r1, r2) := by rw [if_pos rfl] at H; exact H
                    clear H
                    have H := H1
                    clear H1
                    simp only [Option.some.injEq, Prod.mk.injEq] at H
                    obtain ⟨rfl, rfl⟩ := H
                    go_wp2
                    go_ret2
                    exact ⟨by first | rfl | (simp [errW_none, errW_some] <;> rfl) | (simp only [← hji2, ← hji6, ← hji8]; first | rfl | (simp [errW_none, errW_some] <;> rfl)) | (simp [*, errW_none, errW_some] <;> rfl), by repeat (first | (with_reducible first | exact HB.out | apply below_alloc | apply pw_below_drewN | apply below_drew1) | exact HB.out)⟩
                  · replace c11 := Bool.eq_false_iff.mpr c11
                    subst c11
                    have H1 : (if (rd l0 x10_1) = 0 then (num_read.j2 kj8 l0 (Go.bits .or .u64 x4_1 (ji8)) x10_1 (rd l0 x10_1) ji2 x10_1 (decide (x10_1 > 0))) else (num_read.j2 kj8 l0 (Go.bits .or .u64 x4_1 (ji8)) x10_1 (rd l0 x10_1) ji2 x10_1 false)) = some (r1, r2) := by rw [if_neg (show ¬ (false = true) by decide)] at H; exact H
                    clear H
                    have H := H1
                    clear H1
                    have HC12 := Aside0.mk H
                    clear H
                    go_upto_region 8 with (fail)
                    go_cut [32] (fun v32 wc => ∃ (kq : Nat) (x32_11 : Bool), v32 = .bool x32_11 ∧ Aside0 (num_read.j2 kq l0 (Go.bits .or .u64 x4_1 (ji8)) x10_1 (rd l0 x10_1) ji2 x10_1 x32_11 = some (r1, r2)) ∧ Aside0 (kq ≤ kj8) ∧ Aside0 (Below w.heap.size w wc))
                    case first =>
                      have H := HC12.out
                      clear HC12
                      by_cases c13 : (rd l0 x10_1) = 0
                      · rw [if_pos c13] at H
                        have c13b0 : ((rd l0 x10_1) == 0) = true := beq_iff_eq.mpr c13
                        have c13b1 : ((rd l0 x10_1) != 0) = false := bne_eq_false_iff_eq.mpr c13
                        clear c13
                        (first | rw [c13b0] | rw [c13b1] | (simp only [i64_w, i32_w]; rw [c13b0]) | skip)
                        have H' := Aside0.mk H
                        clear H
                        go_wp2
                        go_meet
                        case rel => exact ⟨_, (decide (x10_1 > 0)), (by first | rfl | (simp; done) | (simp [*]; done)), H', ⟨by have := HK1.out; have := HJ8.out; first | omega | exact Nat.le_refl _⟩, ⟨by repeat (first | (with_reducible first | exact HB.out | apply below_alloc | apply pw_below_drewN | apply below_drew1) | exact HB.out)⟩⟩
                      · rw [if_neg c13] at H
                        have c13b0 : ((rd l0 x10_1) == 0) = false := beq_eq_false_iff_ne.mpr c13
                        have c13b1 : ((rd l0 x10_1) != 0) = true := bne_iff_ne.mpr c13
                        (first | rw [c13b0] | rw [c13b1] | (simp only [i64_w, i32_w]; rw [c13b0]) | skip)
                        have H' := Aside0.mk H
                        clear H
                        go_wp2
                        go_meet
                        case rel => exact ⟨_, (false), (by first | rfl | (simp; done) | (simp [*]; done)), H', ⟨by have := HK1.out; have := HJ8.out; first | omega | exact Nat.le_refl _⟩, ⟨by repeat (first | (with_reducible first | exact HB.out | apply below_alloc | apply pw_below_drewN | apply below_drew1) | exact HB.out)⟩⟩
                    case rest =>
                      clear HC12
                      try clear c1
                      try clear p2
                      try clear q2
                      try clear hx2
                      try clear c3
                      try clear c3b0
                      try clear c4
                      try clear c4b0
                      try clear c5
                      try clear c5b0
                      try clear p6
                      try clear c7
                      try clear c7b0
                      try clear c7b1
                      try clear c10
                      try clear c10b0
                      try clear c10b1
                      try clear c11
                      try clear c13
                      try clear c13b0
                      try clear c13b1
                      try clear hx250_0
                      try clear p2
                      try clear p250
                      try clear p6
                      try clear q2
                      try clear q250
                      obtain ⟨kq, x32_11, rfl, HA, HJ11, HB⟩ := hcut
                      cases kq with
                      | zero => exact absurd HA.out (by simp [num_read.j2])
                      | succ kj11 =>
                        have H := HA.out
                        clear HA
                        simp only [num_read.j2] at H
                        by_cases c14 : x32_11 = true
                        · subst c14
                          have H1 : (some (0, 0)) = some (r1, r2) := by rw [if_pos rfl] at H; exact H
                          clear H
                          have H := H1
                          clear H1
                          simp only [Option.some.injEq, Prod.mk.injEq] at H
                          obtain ⟨rfl, rfl⟩ := H
                          go_wp2
                          go_ret2
                          exact ⟨by first | rfl | (simp [errW_none, errW_some] <;> rfl) | (simp only [← hji2, ← hji6, ← hji8]; first | rfl | (simp [errW_none, errW_some] <;> rfl)) | (simp [*, errW_none, errW_some] <;> rfl), by repeat (first | (with_reducible first | exact HB.out | apply below_alloc | apply pw_below_drewN | apply below_drew1) | exact HB.out)⟩
                        · replace c14 := Bool.eq_false_iff.mpr c14
                          subst c14
                          have H1 : (if (rd l0 x10_1) < 128 then (some ((Go.bits .or .u64 x4_1 (ji8)), wrap64 (x10_1 + 1))) else (num_read.l0 kj11 l0 (Go.bits .or .u64 x4_1 (ji8)) ji2 (wrap64 (x10_1 + 1)))) = some (r1, r2) := by rw [if_neg (show ¬ (false = true) by decide)] at H; exact H
                          clear H
                          have H := H1
                          clear H1
                          by_cases c15 : (rd l0 x10_1) < 128
                          · rw [if_pos c15] at H
                            have c15b0 : decide ((rd l0 x10_1) < 128) = true := decide_eq_true c15
                            clear c15
                            simp only [Option.some.injEq, Prod.mk.injEq] at H
                            obtain ⟨rfl, rfl⟩ := H
                            go_wp2
                            go_ret2
                            exact ⟨by first | rfl | (simp [errW_none, errW_some] <;> rfl) | (simp only [← hji2, ← hji6, ← hji8]; first | rfl | (simp [errW_none, errW_some] <;> rfl)) | (simp [*, errW_none, errW_some] <;> rfl), by repeat (first | (with_reducible first | exact HB.out | apply below_alloc | apply pw_below_drewN | apply below_drew1) | exact HB.out)⟩
                          · rw [if_neg c15] at H
                            have c15b0 : decide ((rd l0 x10_1) < 128) = false := decide_eq_false c15
                            clear c15
                            have H' := Aside0.mk H
                            clear H
                            go_wp2
                            go_roundg kj11
                            case measure => have := HK1.out; have := HJ8.out; have := HJ11.out; omega
                            case rel => exact ⟨((Go.bits .or .u64 x4_1 (ji8))), (wrap64 (x10_1 + 1)), (by first | rfl | (simp; done) | (simp only [← hji8] <;> (first | rfl | simp)) | (simp [*]; done)), (by first | rfl | (simp; done) | (simp [*]; done)), H', ⟨by have := HK1.out; have := HJ8.out; have := HJ11.out; omega⟩, ⟨by repeat (first | (with_reducible first | exact HB.out | apply below_alloc | apply pw_below_drewN | apply below_drew1) | exact HB.out)⟩⟩
            · rw [if_neg c7] at H
              exact absurd H (by simp)
          · rw [if_neg c5] at H
            exact absurd H (by simp)
        · rw [if_neg c4] at H
          exact absurd H (by simp)
      · rw [if_neg c3] at H
        have c3b0 : decide (x10_1 < ji2) = false := decide_eq_false c3
        clear c3
        simp only [Option.some.injEq, Prod.mk.injEq] at H
        obtain ⟨rfl, rfl⟩ := H
        go_wp2
        go_ret2
        exact ⟨by first | rfl | (simp [errW_none, errW_some] <;> rfl) | (simp only [← hji2]; first | rfl | (simp [errW_none, errW_some] <;> rfl)) | (simp [*, errW_none, errW_some] <;> rfl), by repeat (first | (with_reducible first | exact HB.out | apply below_alloc | apply pw_below_drewN | apply below_drew1) | exact HB.out)⟩
/-! ### num_Get: function 132 -/
def num_Get.f (k : Nat) (l0 : List Int) : Option (Int × Int) := (num_read.f k l0).bind fun bt251 => (if bt251.1 ≥ 4611686018427387904 then (some (0, 0)) else (some (wrap64 (bt251.1), bt251.2)))
set_option maxHeartbeats 8000000 in
set_option maxRecDepth 100000 in
theorem num_Get.calls (k : Nat) (A0 : Option Addr) (c0 : Nat) (l0 : List Int) (r1 : Int) (r2 : Int) (w : World) (hr0 : Kd.C (Kd.int .u8) w A0 l0.length l0) (hc0 : l0.length ≤ c0) (h : num_Get.f k l0 = some (r1, r2)) :
    Calls Tryz.prog 132 #[.slice A0 l0.length c0] w fun e w' => e = .returned (.tuple #[.int .i64 r1, .int .i64 r2]) ∧ Below w.heap.size w w' := by
  have HR0 := Aside0.mk hr0
  have HC0 := Aside0.mk hc0
  clear hr0 hc0
  have HB := Aside0.mk (Below.refl w.heap.size w)
  have H : ((num_read.f k l0).bind fun bt251 => (if bt251.1 ≥ 4611686018427387904 then (some (0, 0)) else (some (wrap64 (bt251.1), bt251.2)))) = some (r1, r2) := h
  clear h
  replace H := Option.bind_eq_some_iff.mp H
  obtain ⟨⟨t251, t252⟩, A20, H⟩ := H
  replace H : (if t251 ≥ 4611686018427387904 then (some (0, 0)) else (some (wrap64 (t251), t252))) = some (r1, r2) := H
  have A2 := Aside0.mk A20
  clear A20
  by_cases c3 : t251 ≥ 4611686018427387904
  · rw [if_pos c3] at H
    have c3b0 : decide (4611686018427387904 ≤ t251) = true := decide_eq_true c3
    clear c3
    simp only [Option.some.injEq, Prod.mk.injEq] at H
    obtain ⟨rfl, rfl⟩ := H
    go_enter Tryz.func132, Tryz.ntmps132
    go_wp2_with (first | ((with_reducible refine gate_callee (f := 156) rfl ?_); refine goesL_ (some 8) rfl rfl Tryz.func156 (by kernel_rfl) rfl #[.slice A0 l0.length c0] rfl (by (try simp only [List.map_toArray, List.map_cons, List.map_nil]); first | done | rfl | (simp only [List.length_drop, List.length_take]; rfl)) ?_; (with_reducible refine (num_read.calls k _ _ l0 t251 t252 _ ?side1 ?side2 A2.out).mono ?_); (case side1 => repeat (first | exact HR0.out | (with_reducible refine Kd.C_alloc ?_ _) | (with_reducible refine Kd.C_drewN ?_ _) | (with_reducible refine Kd.C_drew ?_))); (case side2 => exact HC0.out); rintro e w4 ⟨rfl, hb⟩; refine ⟨_, rfl, ?_⟩; have n0_ := Aside0.mk (below_step (by repeat (first | (with_reducible first | exact HB.out | apply below_alloc | apply pw_below_drewN | apply below_drew1) | exact HB.out)) hb); clear HB; have HB := n0_; clear n0_; (try clear hb); (try clear hb2); (try clear hk); (try clear hi)))
    go_ret2
    exact ⟨by first | rfl | (simp [errW_none, errW_some] <;> rfl) | (simp [*, errW_none, errW_some] <;> rfl), by repeat (first | (with_reducible first | exact HB.out | apply below_alloc | apply pw_below_drewN | apply below_drew1) | exact HB.out)⟩
  · rw [if_neg c3] at H
    have c3b0 : decide (4611686018427387904 ≤ t251) = false := decide_eq_false c3
    clear c3
    simp only [Option.some.injEq, Prod.mk.injEq] at H
    obtain ⟨rfl, rfl⟩ := H
    go_enter Tryz.func132, Tryz.ntmps132
    go_wp2_with (first | ((with_reducible refine gate_callee (f := 156) rfl ?_); refine goesL_ (some 8) rfl rfl Tryz.func156 (by kernel_rfl) rfl #[.slice A0 l0.length c0] rfl (by (try simp only [List.map_toArray, List.map_cons, List.map_nil]); first | done | rfl | (simp only [List.length_drop, List.length_take]; rfl)) ?_; (with_reducible refine (num_read.calls k _ _ l0 t251 t252 _ ?side1 ?side2 A2.out).mono ?_); (case side1 => repeat (first | exact HR0.out | (with_reducible refine Kd.C_alloc ?_ _) | (with_reducible refine Kd.C_drewN ?_ _) | (with_reducible refine Kd.C_drew ?_))); (case side2 => exact HC0.out); rintro e w5 ⟨rfl, hb⟩; refine ⟨_, rfl, ?_⟩; have n0_ := Aside0.mk (below_step (by repeat (first | (with_reducible first | exact HB.out | apply below_alloc | apply pw_below_drewN | apply below_drew1) | exact HB.out)) hb); clear HB; have HB := n0_; clear n0_; (try clear hb); (try clear hb2); (try clear hk); (try clear hi)))
    go_ret2
    exact ⟨by first | rfl | (simp [errW_none, errW_some] <;> rfl) | (simp [*, errW_none, errW_some] <;> rfl), by repeat (first | (with_reducible first | exact HB.out | apply below_alloc | apply pw_below_drewN | apply below_drew1) | exact HB.out)⟩
/-! ### slices_Equal_byte_byte: function 143 -/
def slices_Equal_byte_byte.l0 : Nat → List Int → List Int → Int → Int → Option (Bool)
  | 0, _, _, _, _ => none
  | k + 1, x0, x1, x12, x13 => if x13 < x12 then (if 0 ≤ x13 then (if x13 < (x0.length : Int) then (if x13 < (x1.length : Int) then (if (rd x0 x13) = (rd x1 x13) then (slices_Equal_byte_byte.l0 k x0 x1 x12 (wrap64 (x13 + 1))) else (some false)) else (none)) else (none)) else (none)) else (some true)
def slices_Equal_byte_byte.f (k : Nat) (l0 : List Int) (l1 : List Int) : Option (Bool) := if (l0.length : Int) = (l1.length : Int) then (slices_Equal_byte_byte.l0 k l0 l1 (l0.length : Int) 0) else (some false)
set_option maxHeartbeats 8000000 in
set_option maxRecDepth 100000 in
theorem slices_Equal_byte_byte.calls (k : Nat) (A0 : Option Addr) (c0 : Nat) (l0 : List Int) (A1 : Option Addr) (c1 : Nat) (l1 : List Int) (r : Bool) (w : World) (hr0 : Kd.C (Kd.int .u8) w A0 l0.length l0) (hc0 : l0.length ≤ c0) (hr1 : Kd.C (Kd.int .u8) w A1 l1.length l1) (hc1 : l1.length ≤ c1) (h : slices_Equal_byte_byte.f k l0 l1 = some r) :
    Calls Tryz.prog 143 #[.slice A0 l0.length c0, .slice A1 l1.length c1] w fun e w' => e = .returned (.bool r) ∧ Drawn0 w w' := by
  have HR0 := Aside0.mk hr0
  have HC0 := Aside0.mk hc0
  clear hr0 hc0
  have HR1 := Aside0.mk hr1
  have HC1 := Aside0.mk hc1
  clear hr1 hc1
  have H : (if (l0.length : Int) = (l1.length : Int) then (slices_Equal_byte_byte.l0 k l0 l1 (l0.length : Int) 0) else (some false)) = some r := h
  clear h
  by_cases c3 : (l0.length : Int) = (l1.length : Int)
  · rw [if_pos c3] at H
    have c3b0 : ((l0.length : Int) == (l1.length : Int)) = true := beq_iff_eq.mpr c3
    have c3b1 : ((l0.length : Int) != (l1.length : Int)) = false := bne_eq_false_iff_eq.mpr c3
    have c3b2 : (l0.length == l1.length) = true := by first | simpa using c3 | (simp at c3 ⊢; omega)
    clear c3
    have H' := Aside0.mk H
    clear H
    go_enter Tryz.func143, Tryz.ntmps143
    go_wp2
    repeat (go_quiet (fail); try go_wp2)
    go_loopg [13] k (fun kq v13 w' => ∃ (x13_1 : Int), v13 = .int .i64 x13_1 ∧ Aside0 (slices_Equal_byte_byte.l0 kq l0 l1 (l0.length : Int) x13_1 = some r) ∧ Aside0 (kq ≤ k) ∧ Drawn0 w w')
    case atStart => exact ⟨(0), (by first | rfl | (simp; done) | (simp [*]; done)), H', ⟨Nat.le_refl _⟩, by repeat (first | exact Drawn0.refl _ | apply Drawn0.step)⟩
    case round =>
      clear H'
      try clear c1
      try clear p2
      try clear c3
      try clear c3b0
      try clear c3b1
      try clear c3b2
      obtain ⟨x13_1, rfl, HA, HK1, ⟨m1, rfl⟩⟩ := hrel
      cases gk with
      | zero => exact absurd HA.out (by simp [slices_Equal_byte_byte.l0])
      | succ k1 =>
        have H := HA.out
        clear HA
        simp only [slices_Equal_byte_byte.l0] at H
        by_cases c4 : x13_1 < (l0.length : Int)
        · rw [if_pos c4] at H
          have c4b0 : decide (x13_1 < (l0.length : Int)) = true := decide_eq_true c4
          clear c4
          by_cases c5 : 0 ≤ x13_1
          · rw [if_pos c5] at H
            have c5b0 : decide (0 ≤ x13_1) = true := decide_eq_true c5
            clear c5
            by_cases c6 : x13_1 < (l0.length : Int)
            · rw [if_pos c6] at H
              have c6b0 : decide (x13_1 < (l0.length : Int)) = true := decide_eq_true c6
              clear c6
              by_cases c7 : x13_1 < (l1.length : Int)
              · rw [if_pos c7] at H
                have c7b0 : decide (x13_1 < (l1.length : Int)) = true := decide_eq_true c7
                clear c7
                by_cases c8 : (rd l0 x13_1) = (rd l1 x13_1)
                · rw [if_pos c8] at H
                  have c8b0 : ((rd l0 x13_1) == (rd l1 x13_1)) = true := beq_iff_eq.mpr c8
                  have c8b1 : ((rd l0 x13_1) != (rd l1 x13_1)) = false := bne_eq_false_iff_eq.mpr c8
                  clear c8
                  have H' := Aside0.mk H
                  clear H
                  have p253 : 0 ≤ (x13_1 : Int) := of_decide_eq_true (by first | (with_reducible assumption) | assumption)
                  have q253 : x13_1 < (l0.length : Int) := of_decide_eq_true (by first | (with_reducible assumption) | assumption)
                  obtain ⟨ad253, e253, hx253_0⟩ := Kd.at_int HR0.out x13_1 p253 q253
                  cases e253
                  replace p253 := eq_true p253
                  replace q253 := eq_true q253
                  have p254 : 0 ≤ (x13_1 : Int) := of_decide_eq_true (by first | (with_reducible assumption) | assumption)
                  have q254 : x13_1 < (l1.length : Int) := of_decide_eq_true (by first | (with_reducible assumption) | assumption)
                  obtain ⟨ad254, e254, hx254_0⟩ := Kd.at_int HR1.out x13_1 p254 q254
                  cases e254
                  replace p254 := eq_true p254
                  replace q254 := eq_true q254
                  go_wp2
                  repeat (go_quiet (fail); try go_wp2)
                  go_roundg k1
                  case measure => have := HK1.out; omega
                  case rel => exact ⟨(wrap64 (x13_1 + 1)), (by first | rfl | (simp; done) | (simp [*]; done)), H', ⟨by have := HK1.out; omega⟩, by repeat (first | exact Drawn0.refl _ | apply Drawn0.step)⟩
                · rw [if_neg c8] at H
                  have c8b0 : ((rd l0 x13_1) == (rd l1 x13_1)) = false := beq_eq_false_iff_ne.mpr c8
                  have c8b1 : ((rd l0 x13_1) != (rd l1 x13_1)) = true := bne_iff_ne.mpr c8
                  obtain rfl := Option.some.inj H
                  have p253 : 0 ≤ (x13_1 : Int) := of_decide_eq_true (by first | (with_reducible assumption) | assumption)
                  have q253 : x13_1 < (l0.length : Int) := of_decide_eq_true (by first | (with_reducible assumption) | assumption)
                  obtain ⟨ad253, e253, hx253_0⟩ := Kd.at_int HR0.out x13_1 p253 q253
                  cases e253
                  replace p253 := eq_true p253
                  replace q253 := eq_true q253
                  have p254 : 0 ≤ (x13_1 : Int) := of_decide_eq_true (by first | (with_reducible assumption) | assumption)
                  have q254 : x13_1 < (l1.length : Int) := of_decide_eq_true (by first | (with_reducible assumption) | assumption)
                  obtain ⟨ad254, e254, hx254_0⟩ := Kd.at_int HR1.out x13_1 p254 q254
                  cases e254
                  replace p254 := eq_true p254
                  replace q254 := eq_true q254
                  go_wp2
                  repeat (go_quiet (fail); try go_wp2)
                  go_ret
                  exact ⟨by first | rfl | (simp; done) | (simp [*]; done), by repeat (first | exact Drawn0.refl _ | apply Drawn0.step)⟩
              · rw [if_neg c7] at H
                exact absurd H (by simp)
            · rw [if_neg c6] at H
              exact absurd H (by simp)
          · rw [if_neg c5] at H
            exact absurd H (by simp)
        · rw [if_neg c4] at H
          have c4b0 : decide (x13_1 < (l0.length : Int)) = false := decide_eq_false c4
          clear c4
          obtain rfl := Option.some.inj H
          go_wp2
          repeat (go_quiet (fail); try go_wp2)
          go_ret
          exact ⟨by first | rfl | (simp; done) | (simp [*]; done), by repeat (first | exact Drawn0.refl _ | apply Drawn0.step)⟩
  · rw [if_neg c3] at H
    have c3b0 : ((l0.length : Int) == (l1.length : Int)) = false := beq_eq_false_iff_ne.mpr c3
    have c3b1 : ((l0.length : Int) != (l1.length : Int)) = true := bne_iff_ne.mpr c3
    have c3b2 : (l0.length == l1.length) = false := by first | simpa using c3 | (simp at c3 ⊢; omega)
    obtain rfl := Option.some.inj H
    go_enter Tryz.func143, Tryz.ntmps143
    go_wp2
    repeat (go_quiet (fail); try go_wp2)
    go_ret
    exact ⟨by first | rfl | (simp; done) | (simp [*]; done), by repeat (first | exact Drawn0.refl _ | apply Drawn0.step)⟩
/-! ### num_Zag: function 194 -/
def num_Zag.f (a0 : Int) : Option (Int) := some (Go.bits .xor .i64 (wrap64 (a0 / 2)) (wrap64 (-(wrap64 (Go.bits .and .u64 a0 1)))))
set_option maxHeartbeats 8000000 in
set_option maxRecDepth 100000 in
theorem num_Zag.calls (a0 : Int) (r : Int) (w : World) (h : num_Zag.f a0 = some r) :
    Calls Tryz.prog 194 #[.int .u64 a0] w fun e w' => e = .returned (.int .i64 r) ∧ Drawn0 w w' := by
  have H : (some (Go.bits .xor .i64 (wrap64 (a0 / 2)) (wrap64 (-(wrap64 (Go.bits .and .u64 a0 1)))))) = some r := h
  clear h
  obtain rfl := Option.some.inj H
  go_enter Tryz.func194, Tryz.ntmps194
  go_wp2
  go_ret
  exact ⟨by first | rfl | (simp; done) | (simp [*]; done), by repeat (first | exact Drawn0.refl _ | apply Drawn0.step)⟩
/-! ### num_GetSigned: function 179 -/
def num_GetSigned.f (k : Nat) (l0 : List Int) : Option (Int × Int) := (num_read.f k l0).bind fun bt302 => (if bt302.2 = 0 then (some (0, 0)) else ((num_Zag.f bt302.1).bind fun t304 => (some (t304, bt302.2))))
set_option maxHeartbeats 8000000 in
set_option maxRecDepth 100000 in
theorem num_GetSigned.calls (k : Nat) (A0 : Option Addr) (c0 : Nat) (l0 : List Int) (r1 : Int) (r2 : Int) (w : World) (hr0 : Kd.C (Kd.int .u8) w A0 l0.length l0) (hc0 : l0.length ≤ c0) (h : num_GetSigned.f k l0 = some (r1, r2)) :
    Calls Tryz.prog 179 #[.slice A0 l0.length c0] w fun e w' => e = .returned (.tuple #[.int .i64 r1, .int .i64 r2]) ∧ Below w.heap.size w w' := by
  have HR0 := Aside0.mk hr0
  have HC0 := Aside0.mk hc0
  clear hr0 hc0
  have HB := Aside0.mk (Below.refl w.heap.size w)
  have H : ((num_read.f k l0).bind fun bt302 => (if bt302.2 = 0 then (some (0, 0)) else ((num_Zag.f bt302.1).bind fun t304 => (some (t304, bt302.2))))) = some (r1, r2) := h
  clear h
  replace H := Option.bind_eq_some_iff.mp H
  obtain ⟨⟨t302, t303⟩, A20, H⟩ := H
  replace H : (if t303 = 0 then (some (0, 0)) else ((num_Zag.f t302).bind fun t304 => (some (t304, t303)))) = some (r1, r2) := H
  have A2 := Aside0.mk A20
  clear A20
  by_cases c3 : t303 = 0
  · rw [if_pos c3] at H
    have c3b0 : (t303 == 0) = true := beq_iff_eq.mpr c3
    have c3b1 : (t303 != 0) = false := bne_eq_false_iff_eq.mpr c3
    clear c3
    simp only [Option.some.injEq, Prod.mk.injEq] at H
    obtain ⟨rfl, rfl⟩ := H
    go_enter Tryz.func179, Tryz.ntmps179
    go_wp2_with (first | ((with_reducible refine gate_callee (f := 156) rfl ?_); refine goesL_ (some 8) rfl rfl Tryz.func156 (by kernel_rfl) rfl #[.slice A0 l0.length c0] rfl (by (try simp only [List.map_toArray, List.map_cons, List.map_nil]); first | done | rfl | (simp only [List.length_drop, List.length_take]; rfl)) ?_; (with_reducible refine (num_read.calls k _ _ l0 t302 t303 _ ?side1 ?side2 A2.out).mono ?_); (case side1 => repeat (first | exact HR0.out | (with_reducible refine Kd.C_alloc ?_ _) | (with_reducible refine Kd.C_drewN ?_ _) | (with_reducible refine Kd.C_drew ?_))); (case side2 => exact HC0.out); rintro e w4 ⟨rfl, hb⟩; refine ⟨_, rfl, ?_⟩; have n0_ := Aside0.mk (below_step (by repeat (first | (with_reducible first | exact HB.out | apply below_alloc | apply pw_below_drewN | apply below_drew1) | exact HB.out)) hb); clear HB; have HB := n0_; clear n0_; (try clear hb); (try clear hb2); (try clear hk); (try clear hi)))
    go_ret2
    exact ⟨by first | rfl | (simp [errW_none, errW_some] <;> rfl) | (simp [*, errW_none, errW_some] <;> rfl), by repeat (first | (with_reducible first | exact HB.out | apply below_alloc | apply pw_below_drewN | apply below_drew1) | exact HB.out)⟩
  · rw [if_neg c3] at H
    have c3b0 : (t303 == 0) = false := beq_eq_false_iff_ne.mpr c3
    have c3b1 : (t303 != 0) = true := bne_iff_ne.mpr c3
    replace H := Option.bind_eq_some_iff.mp H
    obtain ⟨t304, A50, H⟩ := H
    replace H : (some (t304, t303)) = some (r1, r2) := H
    have A5 := Aside0.mk A50
    clear A50
    simp only [Option.some.injEq, Prod.mk.injEq] at H
    obtain ⟨rfl, rfl⟩ := H
    go_enter Tryz.func179, Tryz.ntmps179
    have tok7_ : True := trivial; have tok8_ : True := trivial
    go_wp2_with (first | ((with_reducible refine gate_callee (f := 156) rfl ?_); clear tok7_; refine goesL_ (some 8) rfl rfl Tryz.func156 (by kernel_rfl) rfl #[.slice A0 l0.length c0] rfl (by (try simp only [List.map_toArray, List.map_cons, List.map_nil]); first | done | rfl | (simp only [List.length_drop, List.length_take]; rfl)) ?_; (with_reducible refine (num_read.calls k _ _ l0 t302 t303 _ ?side1 ?side2 A2.out).mono ?_); (case side1 => repeat (first | exact HR0.out | (with_reducible refine Kd.C_alloc ?_ _) | (with_reducible refine Kd.C_drewN ?_ _) | (with_reducible refine Kd.C_drew ?_))); (case side2 => exact HC0.out); rintro e w6 ⟨rfl, hb⟩; refine ⟨_, rfl, ?_⟩; have n0_ := Aside0.mk (below_step (by repeat (first | (with_reducible first | exact HB.out | apply below_alloc | apply pw_below_drewN | apply below_drew1) | exact HB.out)) hb); clear HB; have HB := n0_; clear n0_; (try clear hb); (try clear hb2); (try clear hk); (try clear hi)) | ((with_reducible refine gate_callee (f := 194) rfl ?_); clear tok8_; refine goesL_ (some 14) rfl rfl Tryz.func194 (by kernel_rfl) rfl #[.int .u64 t302] rfl (by (try simp only [List.map_toArray, List.map_cons, List.map_nil]); first | done | rfl | (simp only [List.length_drop, List.length_take]; rfl)) ?_; (with_reducible refine (num_Zag.calls t302 t304 _ A5.out).mono ?_); rintro e w' ⟨rfl, ⟨nd, rfl⟩⟩; refine ⟨_, rfl, ?_⟩))
    go_ret2
    exact ⟨by first | rfl | (simp [errW_none, errW_some] <;> rfl) | (simp [*, errW_none, errW_some] <;> rfl), by repeat (first | (with_reducible first | exact HB.out | apply below_alloc | apply pw_below_drewN | apply below_drew1) | exact HB.out)⟩
/-! ### bytes_Equal: function 49 -/
def bytes_Equal.f (l0 : List Int) (l1 : List Int) : Option (Bool) := some ((strOfNums l0).toList == (strOfNums l1).toList)
set_option maxHeartbeats 8000000 in
set_option maxRecDepth 100000 in
theorem bytes_Equal.calls (A0 : Option Addr) (c0 : Nat) (l0 : List Int) (A1 : Option Addr) (c1 : Nat) (l1 : List Int) (r : Bool) (w : World) (hr0 : Kd.C (Kd.int .u8) w A0 l0.length l0) (hc0 : l0.length ≤ c0) (hr1 : Kd.C (Kd.int .u8) w A1 l1.length l1) (hc1 : l1.length ≤ c1) (h : bytes_Equal.f l0 l1 = some r) :
    Calls Tryz.prog 49 #[.slice A0 l0.length c0, .slice A1 l1.length c1] w fun e w' => e = .returned (.bool r) ∧ Drawn0 w w' := by
  have HR0 := Aside0.mk hr0
  have HC0 := Aside0.mk hc0
  clear hr0 hc0
  have HR1 := Aside0.mk hr1
  have HC1 := Aside0.mk hc1
  clear hr1 hc1
  have H : (some ((strOfNums l0).toList == (strOfNums l1).toList)) = some r := h
  clear h
  obtain rfl := Option.some.inj H
  have hcv3 := Kd.C_string (P := Tryz.prog) (A := A0) (c := c0) Tryz.underlying26 Tryz.underlying5 Tryz.underlying9 HR0.out
  have hcv4 := Kd.C_string (P := Tryz.prog) (A := A1) (c := c1) Tryz.underlying26 Tryz.underlying5 Tryz.underlying9 HR1.out
  go_enter Tryz.func49, Tryz.ntmps49
  go_wp2
  go_ret
  exact ⟨by first | rfl | (simp; done) | (simp [*]; done), by repeat (first | exact Drawn0.refl _ | apply Drawn0.step)⟩
/-! ### codec_GetOp: function 180 -/
/-- What a reader holds: the bytes that are left, and whether all numbers were there; both in variables of the call's own. -/
def codec_GetOp.RS (w W : World) (B F : Nat) (v : Value) (fine : Bool) : Prop :=
  W.heap[B]? = some (.cells #[v] 26 (0, 0)) ∧ W.heap[F]? = some (.cells #[.bool fine] 4 (0, 0)) ∧ Below w.heap.size w W ∧ w.heap.size ≤ B ∧ w.heap.size ≤ F ∧ B ≠ F
theorem codec_GetOp.RS.below {w W W1 : World} {B F : Nat} {v : Value} {fine : Bool} (h : codec_GetOp.RS w W B F v fine) (hb : Below W.heap.size W W1) : codec_GetOp.RS w W1 B F v fine :=
  ⟨blk_below h.1 hb, blk_below h.2.1 hb, below_step h.2.2.1 hb, h.2.2.2.1, h.2.2.2.2.1, h.2.2.2.2.2⟩
/-- Two stores: into the variable of the flag, then into that of the bytes. -/
theorem codec_GetOp.RS.two {w W : World} {B F : Nat} {v v2 : Value} {fine fine2 : Bool} (h : codec_GetOp.RS w W B F v fine) : codec_GetOp.RS w ((W.setCell ⟨F, 0, none⟩ (.bool fine2)).setCell ⟨B, 0, none⟩ v2) B F v2 fine2 := by
  obtain ⟨hb, hf, hbel, hB, hF, hne⟩ := h
  refine ⟨one_setCell (blk_far hb (p := ⟨F, 0, none⟩) hne _), blk_far (one_setCell hf) (p := ⟨B, 0, none⟩) (Ne.symm hne) _, below_set (below_set hbel hF) hB, hB, hF, hne⟩
theorem codec_GetOp.RS.two_kept {W : World} {B F : Nat} (u v : Value) : Kept W ((W.setCell ⟨F, 0, none⟩ u).setCell ⟨B, 0, none⟩ v) (fun k => k = B ∨ k = F) :=
  ⟨by simp, fun i _ hn => (Below.heap_setCell _ _ _ i (fun e => hn (.inl e))).trans (Below.heap_setCell _ _ _ i (fun e => hn (.inr e)))⟩
set_option maxHeartbeats 8000000 in
set_option maxRecDepth 100000 in
/-- get(ferryman/num.Get). -/
theorem codec_GetOp.get (k : Nat) (w W : World) (B F : Nat) (A : Option Addr) (c : Nat) (l : List Int) (fine : Bool) (r1 r2 : Int) (hS : codec_GetOp.RS w W B F (.slice A l.length c) fine) (hr : Kd.C (Kd.int .u8) w A l.length l) (hc : l.length ≤ c)
    (h : num_Get.f k l = some (r1, r2)) (h0 : 0 ≤ r2) (h1 : r2 ≤ l.length) :
    Calls Tryz.prog 198 #[.func (.func 132) #[] #[], .pointer (some ⟨B, 0, none⟩), .pointer (some ⟨F, 0, none⟩)] W fun e W' => ∃ A', e = .returned (.int .i64 r1) ∧ codec_GetOp.RS w W' B F (.slice A' (l.drop r2.toNat).length (c - r2.toNat)) (fine && decide (r2 > 0)) ∧
      Kd.C (Kd.int .u8) w A' (l.drop r2.toNat).length (l.drop r2.toNat) ∧ (l.drop r2.toNat).length ≤ c - r2.toNat ∧ Kept W W' (fun k => k = B ∨ k = F) := by
  have hinf : (Tryz.prog.info? 5).map (fun i => (i.zero, i.size, i.bytes)) = some (some (.int .u8 0), 1, 1) := by kernel_rfl
  obtain ⟨i0, hi0, _, hz1, _⟩ := info_parts hinf
  obtain ⟨A', hrun, hread, hlen⟩ := print_cut_int (P := Tryz.prog) (k := .u8) 26 5 Tryz.underlying26 hi0 hz1 A c l r2 h0 h1 hc
  clear hinf hi0 hz1
  have HREAD := Aside0.mk (Kd.C_of_reads (enc := Value.int .u8) (d := (0 : Int)) (h1 := fun _ => rfl) (hread w (Kd.reads_of_C (enc := Value.int .u8) (d := (0 : Int)) (h1 := fun _ => rfl) hr)))
  have HLEN := Aside0.mk hlen
  have HS := Aside0.mk hS
  have HR := Aside0.mk (Kd.C_below hr hS.2.2.1)
  have HC := Aside0.mk hc
  have H := Aside0.mk h
  have cB := cell_of_one hS.1
  have cF := cell_of_one hS.2.1
  have HN := Aside0.mk hS.2.2.2.2.2
  clear hread hlen hS hr hc h
  by_cases hp : r2 > 0
  all_goals
    cases fine
    all_goals
      go_enter Tryz.func198, Tryz.ntmps198
      go_wp2_with (first
        | (go_at_call 132; refine (num_Get.calls k A c l r1 r2 _ HR.out HC.out H.out).mono ?_; rintro e W1 ⟨rfl, hb1⟩; have HS1 := Aside0.mk (HS.out.below hb1); have HB1 := Aside0.mk hb1; clear hb1; have dB := cell_of_one HS1.out.1; have dF := cell_of_one HS1.out.2.1; have fB := free_of_one HS1.out.1; have fF := free_of_one HS1.out.2.1; have dB2 := fun u => cell_of_one (blk_far HS1.out.1 (p := ⟨F, 0, none⟩) HN.out u); have fB2 := fun u => free_of_one (blk_far HS1.out.1 (p := ⟨F, 0, none⟩) HN.out u)))
      go_ret
      refine ⟨A', rfl, ?_, HREAD.out, HLEN.out, (Kept.of_below HB1.out _).then_ (codec_GetOp.RS.two_kept _ _) (fun _ h => .inl h)⟩
      rw [List.length_drop]
      first | exact HS1.out.two | (rw [Bool.true_and, decide_eq_true hp]; exact HS1.out.two) | (rw [Bool.true_and, decide_eq_false hp]; exact HS1.out.two)
set_option maxHeartbeats 8000000 in
set_option maxRecDepth 100000 in
/-- get(ferryman/num.GetSigned). -/
theorem codec_GetOp.gets (k : Nat) (w W : World) (B F : Nat) (A : Option Addr) (c : Nat) (l : List Int) (fine : Bool) (r1 r2 : Int) (hS : codec_GetOp.RS w W B F (.slice A l.length c) fine) (hr : Kd.C (Kd.int .u8) w A l.length l) (hc : l.length ≤ c)
    (h : num_GetSigned.f k l = some (r1, r2)) (h0 : 0 ≤ r2) (h1 : r2 ≤ l.length) :
    Calls Tryz.prog 198 #[.func (.func 179) #[] #[], .pointer (some ⟨B, 0, none⟩), .pointer (some ⟨F, 0, none⟩)] W fun e W' => ∃ A', e = .returned (.int .i64 r1) ∧ codec_GetOp.RS w W' B F (.slice A' (l.drop r2.toNat).length (c - r2.toNat)) (fine && decide (r2 > 0)) ∧
      Kd.C (Kd.int .u8) w A' (l.drop r2.toNat).length (l.drop r2.toNat) ∧ (l.drop r2.toNat).length ≤ c - r2.toNat ∧ Kept W W' (fun k => k = B ∨ k = F) := by
  have hinf : (Tryz.prog.info? 5).map (fun i => (i.zero, i.size, i.bytes)) = some (some (.int .u8 0), 1, 1) := by kernel_rfl
  obtain ⟨i0, hi0, _, hz1, _⟩ := info_parts hinf
  obtain ⟨A', hrun, hread, hlen⟩ := print_cut_int (P := Tryz.prog) (k := .u8) 26 5 Tryz.underlying26 hi0 hz1 A c l r2 h0 h1 hc
  clear hinf hi0 hz1
  have HREAD := Aside0.mk (Kd.C_of_reads (enc := Value.int .u8) (d := (0 : Int)) (h1 := fun _ => rfl) (hread w (Kd.reads_of_C (enc := Value.int .u8) (d := (0 : Int)) (h1 := fun _ => rfl) hr)))
  have HLEN := Aside0.mk hlen
  have HS := Aside0.mk hS
  have HR := Aside0.mk (Kd.C_below hr hS.2.2.1)
  have HC := Aside0.mk hc
  have H := Aside0.mk h
  have cB := cell_of_one hS.1
  have cF := cell_of_one hS.2.1
  have HN := Aside0.mk hS.2.2.2.2.2
  clear hread hlen hS hr hc h
  by_cases hp : r2 > 0
  all_goals
    cases fine
    all_goals
      go_enter Tryz.func198, Tryz.ntmps198
      go_wp2_with (first
        | (go_at_call 179; refine (num_GetSigned.calls k A c l r1 r2 _ HR.out HC.out H.out).mono ?_; rintro e W1 ⟨rfl, hb1⟩; have HS1 := Aside0.mk (HS.out.below hb1); have HB1 := Aside0.mk hb1; clear hb1; have dB := cell_of_one HS1.out.1; have dF := cell_of_one HS1.out.2.1; have fB := free_of_one HS1.out.1; have fF := free_of_one HS1.out.2.1; have dB2 := fun u => cell_of_one (blk_far HS1.out.1 (p := ⟨F, 0, none⟩) HN.out u); have fB2 := fun u => free_of_one (blk_far HS1.out.1 (p := ⟨F, 0, none⟩) HN.out u)))
      go_ret
      refine ⟨A', rfl, ?_, HREAD.out, HLEN.out, (Kept.of_below HB1.out _).then_ (codec_GetOp.RS.two_kept _ _) (fun _ h => .inl h)⟩
      rw [List.length_drop]
      first | exact HS1.out.two | (rw [Bool.true_and, decide_eq_true hp]; exact HS1.out.two) | (rw [Bool.true_and, decide_eq_false hp]; exact HS1.out.two)
set_option maxHeartbeats 8000000 in
set_option maxRecDepth 100000 in
theorem codec_GetOp.reader (w : World) (A : Option Addr) (n c : Nat) :
    Calls Tryz.prog 182 #[.slice A n c] w fun e W => e = .returned (.tuple #[.func (.func 198) #[] #[.pointer (some ⟨w.heap.size, 0, none⟩), .pointer (some ⟨w.heap.size + 1, 0, none⟩)], .func (.func 199) #[] #[.pointer (some ⟨w.heap.size + 1, 0, none⟩)], .func (.func 200) #[] #[.pointer (some ⟨w.heap.size, 0, none⟩)]]) ∧ codec_GetOp.RS w W w.heap.size (w.heap.size + 1) (.slice A n c) true := by
  have hmf : ∀ fn first cap w, (Instr.makeFunc fn first cap).run Tryz.prog w = .ok (.func fn first cap) w := fun _ _ _ _ => rfl
  go_enter Tryz.func182, Tryz.ntmps182
  go_wp2
  go_ret3
  refine ⟨rfl, blk_alloc (heap_alloc_new _ _) _, ?_, below_alloc (below_alloc (Below.refl _ _) _) _, by omega, by omega, by omega⟩
  have := heap_alloc_new (w.alloc (.cells #[.slice A n c] 26)) (.cells #[.bool true] 4)
  rw [World.size_alloc] at this
  exact this
theorem codec_GetOp.whole (w W : World) (B F : Nat) (v : Value) (fine : Bool) (hS : codec_GetOp.RS w W B F v fine) :
    Calls Tryz.prog 199 #[.pointer (some ⟨F, 0, none⟩)] W fun e W' => e = .returned (.bool fine) ∧ W = W' := by
  have cF := cell_of_one hS.2.1
  go_enter Tryz.func199, Tryz.ntmps199
  go_wp2
  go_ret
  exact ⟨rfl, rfl⟩
theorem codec_GetOp.left (w W : World) (B F : Nat) (A : Option Addr) (n c : Nat) (fine : Bool) (hS : codec_GetOp.RS w W B F (.slice A n c) fine) :
    Calls Tryz.prog 200 #[.pointer (some ⟨B, 0, none⟩)] W fun e W' => e = .returned (.int .i64 n) ∧ W = W' := by
  have cB := cell_of_one hS.1
  go_enter Tryz.func200, Tryz.ntmps200
  go_wp2
  go_ret
  exact ⟨rfl, rfl⟩
theorem codec_GetOp.fine3 {a b c : Bool} (h : true = (((true && a) && b) && c)) : a = true ∧ b = true ∧ c = true := by
  cases a <;> cases b <;> cases c <;> simp_all
theorem codec_GetOp.RS.drew {w W : World} {B F : Nat} {v : Value} {fine : Bool} (h : codec_GetOp.RS w W B F v fine) : codec_GetOp.RS w W.drew B F v fine :=
  ⟨blk_drew h.1, blk_drew h.2.1, below_drew1 h.2.2.1, h.2.2.2.1, h.2.2.2.2.1, h.2.2.2.2.2⟩
def codec_GetOp.f (k : Nat) (l0 : List Int) : Option (Int × Int × Int × Int) :=
  (num_Get.f k l0).bind fun p => (if 0 ≤ p.2 then (if p.2 ≤ l0.length then
  ((num_GetSigned.f k (l0.drop p.2.toNat)).bind fun q => (if 0 ≤ q.2 then (if q.2 ≤ (l0.drop p.2.toNat).length then
  ((num_GetSigned.f k ((l0.drop p.2.toNat).drop q.2.toNat)).bind fun s => (if 0 ≤ s.2 then (if s.2 ≤ ((l0.drop p.2.toNat).drop q.2.toNat).length then
  ((objs_Fits.f p.1 q.1 s.1).bind fun t => some (if p.2 > 0 ∧ q.2 > 0 ∧ s.2 > 0 ∧ t = true then (p.1, q.1, s.1, p.2 + q.2 + s.2) else (0, 0, 0, 0)))
  else none) else none)) else none) else none)) else none) else none)
set_option maxHeartbeats 8000000 in
set_option maxRecDepth 100000 in
theorem codec_GetOp.calls (k : Nat) (A0 : Option Addr) (c0 : Nat) (l0 : List Int) (r1 r2 r3 r4 : Int) (w : World) (hr0 : Kd.C (Kd.int .u8) w A0 l0.length l0) (hc0 : l0.length ≤ c0) (h : codec_GetOp.f k l0 = some (r1, r2, r3, r4)) :
    Calls Tryz.prog 180 #[.slice A0 l0.length c0] w fun e w' => e = .returned (.tuple #[.agg #[.int .i64 r1, .int .i64 r2, .int .i64 r3], .int .i64 r4]) ∧ Below w.heap.size w w' := by
  unfold codec_GetOp.f at h
  rw [Option.bind_eq_some_iff] at h
  obtain ⟨⟨p1, p2⟩, hp, h⟩ := h
  by_cases hp0 : 0 ≤ p2
  case neg => exact absurd h (by simp [hp0])
  by_cases hp1 : p2 ≤ l0.length
  case neg => exact absurd h (by simp [hp1])
  rw [if_pos hp0, if_pos hp1, Option.bind_eq_some_iff] at h
  obtain ⟨⟨q1, q2⟩, hq, h⟩ := h
  obtain ⟨l1, hl1⟩ : ∃ l1, l1 = l0.drop p2.toNat := ⟨_, rfl⟩
  have hlen1 : (l1.length : Int) = l0.length - p2 := by rw [hl1, List.length_drop]; omega
  simp only [← hl1] at hq h
  by_cases hq0 : 0 ≤ q2
  case neg => exact absurd h (by simp [hq0])
  by_cases hq1 : q2 ≤ l1.length
  case neg => exact absurd h (by simp [hq1])
  rw [if_pos hq0, if_pos hq1, Option.bind_eq_some_iff] at h
  obtain ⟨⟨s1, s2⟩, hs, h⟩ := h
  obtain ⟨l2, hl2⟩ : ∃ l2, l2 = l1.drop q2.toNat := ⟨_, rfl⟩
  have hlen2 : (l2.length : Int) = l1.length - q2 := by rw [hl2, List.length_drop]; omega
  simp only [← hl2] at hs h
  by_cases hs0 : 0 ≤ s2
  case neg => exact absurd h (by simp [hs0])
  by_cases hs1 : s2 ≤ l2.length
  case neg => exact absurd h (by simp [hs1])
  rw [if_pos hs0, if_pos hs1, Option.bind_eq_some_iff] at h
  obtain ⟨t, ht, h⟩ := h
  obtain ⟨l3, hl3⟩ : ∃ l3, l3 = l2.drop s2.toNat := ⟨_, rfl⟩
  have hlen3 : (l3.length : Int) = l2.length - s2 := by rw [hl3, List.length_drop]; omega
  have H := Aside0.mk (Option.some.inj h)
  have HP := Aside0.mk hp
  have HQ := Aside0.mk hq
  have HS := Aside0.mk hs
  have HT := Aside0.mk ht
  have HR0 := Aside0.mk hr0
  have HC0 := Aside0.mk hc0
  have HP0 := Aside0.mk hp0
  have HP1 := Aside0.mk hp1
  have HQ0 := Aside0.mk hq0
  have HQ1 := Aside0.mk hq1
  have HS0 := Aside0.mk hs0
  have HS1 := Aside0.mk hs1
  have L1 := Aside0.mk hl1
  have L2 := Aside0.mk hl2
  have L3 := Aside0.mk hl3
  have N1 := Aside0.mk hlen1
  have N2 := Aside0.mk hlen2
  have N3 := Aside0.mk hlen3
  clear h hp hq hs ht hr0 hc0 hp0 hp1 hq0 hq1 hs0 hs1 hl1 hl2 hl3 hlen1 hlen2 hlen3
  obtain ⟨wb, hwb⟩ : ∃ wb, wb = w.alloc (.cells #[.int .i64 0, .int .i64 0, .int .i64 0] 38) := ⟨_, rfl⟩
  have HWB := Aside0.mk hwb
  have HBW := Aside0.mk (below_alloc (Below.refl _ _) (.cells #[.int .i64 0, .int .i64 0, .int .i64 0] 38) : Below w.heap.size w (w.alloc (.cells #[.int .i64 0, .int .i64 0, .int .i64 0] 38)))
  have HOB := Aside0.mk (heap_alloc_new w (.cells #[.int .i64 0, .int .i64 0, .int .i64 0] 38))
  rw [← hwb] at HBW HOB
  clear hwb
  go_enter Tryz.func180, Tryz.ntmps180
  have tokA_ : True := trivial
  have tokB_ : True := trivial
  have tokC_ : True := trivial
  have tokD_ : True := trivial
  have tokE_ : True := trivial
  have tokF_ : True := trivial
  go_wp2_with (first
    | (clear tokA_; go_at_call 182; refine (codec_GetOp.reader _ _ _ _).mono ?_; rintro e W0 ⟨rfl, hS0⟩; rw [← HWB.out] at hS0 ⊢; obtain ⟨B, hB⟩ : ∃ B, B = wb.heap.size := ⟨_, rfl⟩; rw [← hB] at hS0 ⊢; obtain ⟨F, hF⟩ : ∃ F, F = B + 1 := ⟨_, rfl⟩; rw [← hF] at hS0 ⊢; have HRS0 := Aside0.mk hS0; clear hS0 hB hF)
    | (clear tokB_; go_at_call 198; refine (codec_GetOp.get k wb _ B F A0 c0 l0 true p1 p2 HRS0.out (Kd.C_below HR0.out HBW.out) HC0.out HP.out HP0.out HP1.out).mono ?_; rintro e W1 ⟨A1, rfl, hS1, hr1, hc1, hk1⟩; rw [← L1.out] at hS1 hr1 hc1; have HRS1 := Aside0.mk hS1; have HR1 := Aside0.mk hr1; have HC1 := Aside0.mk hc1; clear hS1 hr1 hc1 hk1)
    | (clear tokC_; go_at_call 198; refine (codec_GetOp.gets k wb _ B F _ _ l1 _ q1 q2 HRS1.out HR1.out HC1.out HQ.out HQ0.out HQ1.out).mono ?_; rintro e W2 ⟨A2, rfl, hS2, hr2, hc2, hk2⟩; rw [← L2.out] at hS2 hr2 hc2; have HRS2 := Aside0.mk hS2; have HR2 := Aside0.mk hr2; have HC2 := Aside0.mk hc2; clear hS2 hr2 hc2 hk2)
    | (clear tokD_; go_at_call 198; refine (codec_GetOp.gets k wb _ B F _ _ l2 _ s1 s2 HRS2.out HR2.out HC2.out HS.out HS0.out HS1.out).mono ?_; rintro e W3 ⟨A3, rfl, hS3, hr3, hc3, hk3⟩; rw [← L3.out] at hS3 hr3 hc3; obtain ⟨fine, hfine⟩ : ∃ fine, fine = (((true && decide (p2 > 0)) && decide (q2 > 0)) && decide (s2 > 0)) := ⟨_, rfl⟩; rw [← hfine] at hS3; have HRS3 := Aside0.mk hS3; have HR3 := Aside0.mk hr3; have HC3 := Aside0.mk hc3; have HF := Aside0.mk hfine; clear hS3 hr3 hc3 hk3 hfine)
    | (clear tokE_; go_at_call 199; refine (codec_GetOp.whole wb _ B F _ _ (HRS3.out.below (below_alloc (Below.refl _ _) _))).mono ?_; rintro e W4 ⟨rfl, rfl⟩
       have HRS4 := Aside0.mk (HRS3.out.below (below_alloc (Below.refl _ _) (.cells #[.int .i64 p1, .int .i64 q1, .int .i64 s1] 38) : Below W3.heap.size W3 (W3.alloc _)))
       have HST := Aside0.mk (heap_alloc_new W3 (.cells #[.int .i64 p1, .int .i64 q1, .int .i64 s1] 38))
       obtain ⟨G, hG⟩ : ∃ G, G = W3.heap.size := ⟨_, rfl⟩
       rw [← hG] at HST ⊢
       obtain ⟨W4, hW4⟩ : ∃ W4, W4 = W3.alloc (.cells #[.int .i64 p1, .int .i64 q1, .int .i64 s1] 38) := ⟨_, rfl⟩
       rw [← hW4] at HRS4 HST ⊢
       clear hG hW4 HRS3 HRS2 HRS1 HRS0
       have HO4 := Aside0.mk (blk_below HOB.out HRS4.out.2.2.1)
       have st0 : W4.cell? ⟨G, 0, none⟩ = some (.int .i64 p1) := (blk_cell HST.out 0).trans rfl
       have st1 : W4.cell? ⟨G, 1, none⟩ = some (.int .i64 q1) := (blk_cell HST.out 1).trans rfl
       have st2 : W4.cell? ⟨G, 2, none⟩ = some (.int .i64 s1) := (blk_cell HST.out 2).trans rfl
       have sr0 : W4.cell? ⟨w.heap.size, 0, none⟩ = some (.int .i64 0) := (blk_cell HO4.out 0).trans rfl
       have sr1 : W4.cell? ⟨w.heap.size, 1, none⟩ = some (.int .i64 0) := (blk_cell HO4.out 1).trans rfl
       have sr2 : W4.cell? ⟨w.heap.size, 2, none⟩ = some (.int .i64 0) := (blk_cell HO4.out 2).trans rfl
       have sf0 := blk_frozen HO4.out 0
       have sf1 := blk_frozen HO4.out 1
       have sf2 := blk_frozen HO4.out 2
       cases fine)
    | (clear tokF_; go_at_call 25; refine (objs_Fits.calls p1 q1 s1 t _ HT.out).mono ?_; rintro e W5 ⟨rfl, hb5⟩
       have HRS5 := Aside0.mk (HRS4.out.below hb5)
       have HO5 := Aside0.mk (blk_below HO4.out hb5)
       have HST5 := Aside0.mk (blk_below HST.out hb5)
       clear HRS4 HO4 HST hb5 sr0 sr1 sr2 st0 st1 st2 sf0 sf1 sf2
       have st0 : W5.cell? ⟨G, 0, none⟩ = some (.int .i64 p1) := (blk_cell HST5.out 0).trans rfl
       have st1 : W5.cell? ⟨G, 1, none⟩ = some (.int .i64 q1) := (blk_cell HST5.out 1).trans rfl
       have st2 : W5.cell? ⟨G, 2, none⟩ = some (.int .i64 s1) := (blk_cell HST5.out 2).trans rfl
       have sr0 : W5.cell? ⟨w.heap.size, 0, none⟩ = some (.int .i64 0) := (blk_cell HO5.out 0).trans rfl
       have sr1 : W5.cell? ⟨w.heap.size, 1, none⟩ = some (.int .i64 0) := (blk_cell HO5.out 1).trans rfl
       have sr2 : W5.cell? ⟨w.heap.size, 2, none⟩ = some (.int .i64 0) := (blk_cell HO5.out 2).trans rfl
       have sf0 := blk_frozen HO5.out 0
       have sf1 := blk_frozen HO5.out 1
       have sf2 := blk_frozen HO5.out 2
       cases t))
  · have h := H.out
    have hf := HF.out
    rw [if_neg (by rintro ⟨a, b, c, d⟩; rw [decide_eq_true a, decide_eq_true b, decide_eq_true c] at hf; exact absurd hf (by decide))] at h
    simp only [Prod.mk.injEq] at h
    obtain ⟨rfl, rfl, rfl, rfl⟩ := h
    refine bodyPost_ret (results_ct rfl _ _ w.heap.size 38 #[.int .i64 0, .int .i64 0, .int .i64 0] (0, 0) _ rfl (blk_put (blk_put (blk_put HO4.out 0 _ rfl) 1 _ rfl) 2 _ rfl) Tryz.underlying38 rfl (by kernel_rfl)) rfl ⟨rfl, ?_⟩
    exact below_set (below_set (below_set (below_step HBW.out HRS4.out.2.2.1) (Nat.le_refl _)) (Nat.le_refl _)) (Nat.le_refl _)
  · have h := H.out
    rw [if_neg (by rintro ⟨a, b, c, d⟩; exact absurd d (by decide))] at h
    simp only [Prod.mk.injEq] at h
    obtain ⟨rfl, rfl, rfl, rfl⟩ := h
    refine bodyPost_ret (results_ct rfl _ _ w.heap.size 38 #[.int .i64 0, .int .i64 0, .int .i64 0] (0, 0) _ rfl (blk_put (blk_put (blk_put HO5.out 0 _ rfl) 1 _ rfl) 2 _ rfl) Tryz.underlying38 rfl (by kernel_rfl)) rfl ⟨rfl, ?_⟩
    exact below_set (below_set (below_set (below_step HBW.out HRS5.out.2.2.1) (Nat.le_refl _)) (Nat.le_refl _)) (Nat.le_refl _)
  · have HRS6 := Aside0.mk HRS5.out.drew
    go_region_with (go_at_call 200; refine (codec_GetOp.left wb _ B F _ _ _ _ HRS6.out).mono ?_; rintro e W6 ⟨rfl, rfl⟩)
    all_goals
      have h := H.out
      have hf := HF.out
      obtain ⟨x1, x2, x3⟩ := codec_GetOp.fine3 hf
      have hp := of_decide_eq_true x1
      have hq := of_decide_eq_true x2
      have hs := of_decide_eq_true x3
      rw [if_pos ⟨hp, hq, hs, by trivial⟩] at h
      simp only [Prod.mk.injEq] at h
      obtain ⟨rfl, rfl, rfl, rfl⟩ := h
      have hl := HR0.out.2.1
      have n1 := N1.out
      have n2 := N2.out
      have n3 := N3.out
      have hw : IntKind.i64.wrap ((l0.length : Int) - (l3.length : Int)) = p2 + q2 + s2 := by
        rw [show (l0.length : Int) - (l3.length : Int) = p2 + q2 + s2 by omega]
        exact IntWalk.i64_in _ (by omega)
      go_wp2
      refine bodyPost_ret (results_ct rfl _ _ w.heap.size 38 #[.int .i64 p1, .int .i64 q1, .int .i64 s1] (0, 0) _ rfl (blk_put (blk_put (blk_put (blk_drew HO5.out) 0 _ rfl) 1 _ rfl) 2 _ rfl) Tryz.underlying38 rfl (by kernel_rfl)) rfl ⟨?_, ?_⟩
      · first | rfl | (rw [hw]; rfl) | (simp only [hw]; rfl)
      · exact below_set (below_set (below_set (below_drew1 (below_step HBW.out HRS5.out.2.2.1)) (Nat.le_refl _)) (Nat.le_refl _)) (Nat.le_refl _)
/-! ### block_record: function 157 -/
def block_record.of (p q s : Int × Int) (o : Int × Int × Int × Int) : S62 × Int :=
  if p.2 = 0 ∨ q.2 = 0 ∨ o.2.2.2 = 0 ∨ s.2 = 0 then (z62, 0) else (⟨0, p.1, q.1, ⟨o.1, o.2.1, o.2.2.1⟩, s.1⟩, p.2 + q.2 + o.2.2.2 + s.2)
def block_record.f (k : Nat) (l0 : List Int) : Option (S62 × Int) :=
  (num_Get.f k l0).bind fun p => (if 0 ≤ p.2 then (if p.2 ≤ l0.length then
  ((num_GetSigned.f k (l0.drop p.2.toNat)).bind fun q => (if 0 ≤ q.2 then (if q.2 ≤ (l0.drop p.2.toNat).length then
  ((codec_GetOp.f k ((l0.drop p.2.toNat).drop q.2.toNat)).bind fun o => (if 0 ≤ o.2.2.2 then (if o.2.2.2 ≤ ((l0.drop p.2.toNat).drop q.2.toNat).length then
  ((num_GetSigned.f k (((l0.drop p.2.toNat).drop q.2.toNat).drop o.2.2.2.toNat)).bind fun s => (if 0 ≤ s.2 then (if s.2 ≤ (((l0.drop p.2.toNat).drop q.2.toNat).drop o.2.2.2.toNat).length then
    some (block_record.of p q s o)
  else none) else none)) else none) else none)) else none) else none)) else none) else none)
def block_record.cs (x : S62) : Array Value := #[.int .i64 x.f0, .int .i64 x.f1, .int .i64 x.f2, .int .i64 x.f3.f0, .int .i64 x.f3.f1, .int .i64 x.f3.f2, .int .i64 x.f4]
theorem block_record.put3 {W : World} {g t : Nat} {a0 a1 a2 a3 a4 a5 a6 u v x : Value} (h : W.heap[g]? = some (.cells #[a0, a1, a2, a3, a4, a5, a6] t (0, 0))) : (((W.setCell ⟨g, 3, none⟩ u).setCell ⟨g, 4, none⟩ v).setCell ⟨g, 5, none⟩ x).heap[g]? = some (.cells #[a0, a1, a2, u, v, x, a6] t (0, 0)) := by
  have h3 := blk_put h 3 u (cs' := #[a0, a1, a2, u, a4, a5, a6]) rfl
  have h4 := blk_put h3 4 v (cs' := #[a0, a1, a2, u, v, a5, a6]) rfl
  exact blk_put h4 5 x rfl
theorem block_record.put7 {W : World} {g t : Nat} {a0 a1 a2 a3 a4 a5 a6 b0 b1 b2 b3 b4 b5 b6 : Value} (h : W.heap[g]? = some (.cells #[a0, a1, a2, a3, a4, a5, a6] t (0, 0))) : (((((((W.setCell ⟨g, 0, none⟩ b0).setCell ⟨g, 1, none⟩ b1).setCell ⟨g, 2, none⟩ b2).setCell ⟨g, 3, none⟩ b3).setCell ⟨g, 4, none⟩ b4).setCell ⟨g, 5, none⟩ b5).setCell ⟨g, 6, none⟩ b6).heap[g]? = some (.cells #[b0, b1, b2, b3, b4, b5, b6] t (0, 0)) := by
  have h0 := blk_put h 0 b0 (cs' := #[b0, a1, a2, a3, a4, a5, a6]) rfl
  have h1 := blk_put h0 1 b1 (cs' := #[b0, b1, a2, a3, a4, a5, a6]) rfl
  have h2 := blk_put h1 2 b2 (cs' := #[b0, b1, b2, a3, a4, a5, a6]) rfl
  have h3 := blk_put h2 3 b3 (cs' := #[b0, b1, b2, b3, a4, a5, a6]) rfl
  have h4 := blk_put h3 4 b4 (cs' := #[b0, b1, b2, b3, b4, a5, a6]) rfl
  have h5 := blk_put h4 5 b5 (cs' := #[b0, b1, b2, b3, b4, b5, a6]) rfl
  exact blk_put h5 6 b6 rfl
theorem block_record.below7 {w W : World} {g : Nat} {b0 b1 b2 b3 b4 b5 b6 : Value} (hb : Below w.heap.size w W) (hG : w.heap.size ≤ g) : Below w.heap.size w (((((((W.setCell ⟨g, 0, none⟩ b0).setCell ⟨g, 1, none⟩ b1).setCell ⟨g, 2, none⟩ b2).setCell ⟨g, 3, none⟩ b3).setCell ⟨g, 4, none⟩ b4).setCell ⟨g, 5, none⟩ b5).setCell ⟨g, 6, none⟩ b6) :=
  below_set (below_set (below_set (below_set (below_set (below_set (below_set hb hG) hG) hG) hG) hG) hG) hG
theorem block_record.parts {k : Nat} {l0 : List Int} {r : S62 × Int} (h : block_record.f k l0 = some r) : ∃ (p1 p2 q1 q2 o1 o2 o3 o4 s1 s2 : Int) (l1 l2 l3 : List Int), num_Get.f k l0 = some (p1, p2) ∧ 0 ≤ p2 ∧ p2 ≤ l0.length ∧ l1 = l0.drop p2.toNat ∧ num_GetSigned.f k l1 = some (q1, q2) ∧ 0 ≤ q2 ∧ q2 ≤ l1.length ∧ l2 = l1.drop q2.toNat ∧
    codec_GetOp.f k l2 = some (o1, o2, o3, o4) ∧ 0 ≤ o4 ∧ o4 ≤ l2.length ∧ l3 = l2.drop o4.toNat ∧ num_GetSigned.f k l3 = some (s1, s2) ∧ 0 ≤ s2 ∧ s2 ≤ l3.length ∧ block_record.of (p1, p2) (q1, q2) (s1, s2) (o1, o2, o3, o4) = r ∧ (l1.length : Int) = l0.length - p2 ∧ (l2.length : Int) = l1.length - q2 ∧ (l3.length : Int) = l2.length - o4 := by
  unfold block_record.f at h
  rw [Option.bind_eq_some_iff] at h
  obtain ⟨⟨p1, p2⟩, hp, h⟩ := h
  by_cases hp0 : 0 ≤ p2
  case neg => exact absurd h (by simp [hp0])
  by_cases hp1 : p2 ≤ l0.length
  case neg => exact absurd h (by simp [hp1])
  rw [if_pos hp0, if_pos hp1, Option.bind_eq_some_iff] at h
  obtain ⟨⟨q1, q2⟩, hq, h⟩ := h
  obtain ⟨l1, hl1⟩ : ∃ l1, l1 = l0.drop p2.toNat := ⟨_, rfl⟩
  have hlen1 : (l1.length : Int) = l0.length - p2 := by rw [hl1, List.length_drop]; omega
  simp only [← hl1] at hq h
  by_cases hq0 : 0 ≤ q2
  case neg => exact absurd h (by simp [hq0])
  by_cases hq1 : q2 ≤ l1.length
  case neg => exact absurd h (by simp [hq1])
  rw [if_pos hq0, if_pos hq1, Option.bind_eq_some_iff] at h
  obtain ⟨⟨o1, o2, o3, o4⟩, ho, h⟩ := h
  obtain ⟨l2, hl2⟩ : ∃ l2, l2 = l1.drop q2.toNat := ⟨_, rfl⟩
  have hlen2 : (l2.length : Int) = l1.length - q2 := by rw [hl2, List.length_drop]; omega
  simp only [← hl2] at ho h
  by_cases ho0 : 0 ≤ o4
  case neg => exact absurd h (by simp [ho0])
  by_cases ho1 : o4 ≤ l2.length
  case neg => exact absurd h (by simp [ho1])
  rw [if_pos ho0, if_pos ho1, Option.bind_eq_some_iff] at h
  obtain ⟨⟨s1, s2⟩, hs, h⟩ := h
  obtain ⟨l3, hl3⟩ : ∃ l3, l3 = l2.drop o4.toNat := ⟨_, rfl⟩
  have hlen3 : (l3.length : Int) = l2.length - o4 := by rw [hl3, List.length_drop]; omega
  simp only [← hl3] at hs h
  by_cases hs0 : 0 ≤ s2
  case neg => exact absurd h (by simp [hs0])
  by_cases hs1 : s2 ≤ l3.length
  case neg => exact absurd h (by simp [hs1])
  rw [if_pos hs0, if_pos hs1, Option.some.injEq] at h
  exact ⟨p1, p2, q1, q2, o1, o2, o3, o4, s1, s2, l1, l2, l3, hp, hp0, hp1, hl1, hq, hq0, hq1, hl2, ho, ho0, ho1, hl3, hs, hs0, hs1, h, hlen1, hlen2, hlen3⟩
set_option maxHeartbeats 8000000 in
set_option maxRecDepth 100000 in
theorem block_record.calls (k : Nat) (A0 : Option Addr) (c0 : Nat) (l0 : List Int) (x : S62) (r2 : Int) (w : World) (hr0 : Kd.C (Kd.int .u8) w A0 l0.length l0) (hc0 : l0.length ≤ c0) (h : block_record.f k l0 = some (x, r2)) :
    Calls Tryz.prog 157 #[.slice A0 l0.length c0] w fun e w' => e = .returned (.tuple #[.agg (block_record.cs x), .int .i64 r2]) ∧ Below w.heap.size w w' := by
  have hu62 := Tryz.underlying62
  have hu38 := Tryz.underlying38
  have hu240 := Tryz.underlying240
  obtain ⟨p1, p2, q1, q2, o1, o2, o3, o4, s1, s2, l1, l2, l3, hp, hp0, hp1, hl1, hq, hq0, hq1, hl2, ho, ho0, ho1, hl3, hs, hs0, hs1, h, n1, n2, n3⟩ := block_record.parts h
  have hinf : (Tryz.prog.info? 5).map (fun i => (i.zero, i.size, i.bytes)) = some (some (.int .u8 0), 1, 1) := by kernel_rfl
  obtain ⟨ii, hii, _, hz1, _⟩ := info_parts hinf
  have hL := hr0.2.1
  obtain ⟨A1, hrun1, hread1, hlen1⟩ := print_cut_int (P := Tryz.prog) (k := .u8) 26 5 Tryz.underlying26 hii hz1 A0 c0 l0 p2 hp0 hp1 hc0
  rw [← hl1] at hrun1 hread1 hlen1
  obtain ⟨A2, hrun2, hread2, hlen2⟩ := print_cut_int (P := Tryz.prog) (k := .u8) 26 5 Tryz.underlying26 hii hz1 A1 (c0 - p2.toNat) l1 q2 hq0 hq1 hlen1
  rw [← hl2] at hrun2 hread2 hlen2
  obtain ⟨A3, hrun3, hread3, hlen3⟩ := print_cut_int (P := Tryz.prog) (k := .u8) 26 5 Tryz.underlying26 hii hz1 A2 (c0 - p2.toNat - q2.toNat) l2 o4 ho0 ho1 hlen2
  rw [← hl3] at hrun3 hread3 hlen3
  have e0 := Kd.reads_of_C (enc := Value.int .u8) (d := (0 : Int)) (h1 := fun _ => rfl) hr0
  have e1 := hread1 w e0
  have e2 := hread2 w e1
  have e3 := hread3 w e2
  have HR0 := Aside0.mk hr0
  have HR1 := Aside0.mk (Kd.C_of_reads (enc := Value.int .u8) (d := (0 : Int)) (h1 := fun _ => rfl) e1)
  have HR2 := Aside0.mk (Kd.C_of_reads (enc := Value.int .u8) (d := (0 : Int)) (h1 := fun _ => rfl) e2)
  have HR3 := Aside0.mk (Kd.C_of_reads (enc := Value.int .u8) (d := (0 : Int)) (h1 := fun _ => rfl) e3)
  have HC0 := Aside0.mk hc0
  have HC1 := Aside0.mk hlen1
  have HC2 := Aside0.mk hlen2
  have HC3 := Aside0.mk hlen3
  have HP := Aside0.mk hp
  have HQ := Aside0.mk hq
  have HOp := Aside0.mk ho
  have HS := Aside0.mk hs
  have H := Aside0.mk h
  have HB := Aside0.mk (Below.refl w.heap.size w)
  have hpb : p2 ≤ 9223372036854775807 := by omega
  have HX : Aside0 (p2 + q2 + o4 + s2 ≤ 9223372036854775807) := ⟨by omega⟩
  clear hinf hii hz1 hread1 hread2 hread3 hlen1 hlen2 hlen3 e0 e1 e2 e3 hr0 hc0 hp hq ho hs h hl1 hl2 hl3 hp1 hq1 ho1 hs1 n1 n2 n3 hL
  have j0 : ∀ w, (Instr.index 240 (.agg #[.int .i64 p2, .int .i64 q2, .int .i64 o4, .int .i64 s2]) (.int .i64 0)).run Tryz.prog w = .ok (.int .i64 p2) w := fun _ => by kernel_rfl
  have j1 : ∀ w, (Instr.index 240 (.agg #[.int .i64 p2, .int .i64 q2, .int .i64 o4, .int .i64 s2]) (.int .i64 1)).run Tryz.prog w = .ok (.int .i64 q2) w := fun _ => by kernel_rfl
  have j2 : ∀ w, (Instr.index 240 (.agg #[.int .i64 p2, .int .i64 q2, .int .i64 o4, .int .i64 s2]) (.int .i64 2)).run Tryz.prog w = .ok (.int .i64 o4) w := fun _ => by kernel_rfl
  have j3 : ∀ w, (Instr.index 240 (.agg #[.int .i64 p2, .int .i64 q2, .int .i64 o4, .int .i64 s2]) (.int .i64 3)).run Tryz.prog w = .ok (.int .i64 s2) w := fun _ => by kernel_rfl
  by_cases z0 : p2 = 0
  · have t0 : (p2 == 0) = true := beq_iff_eq.mpr z0
    have h := H.out
    unfold block_record.of at h
    rw [if_pos (by simp only; omega)] at h
    simp only [Prod.mk.injEq] at h
    obtain ⟨rfl, rfl⟩ := h
    clear z0
    go_enter Tryz.func157, Tryz.ntmps157
    have tokA_ : True := trivial
    have tokB_ : True := trivial
    have tokC_ : True := trivial
    have tokD_ : True := trivial
    go_wp2_with (first
      | ((with_reducible refine gate_dst (N := 2) rfl ?_); refine box_event ?hg (N := 2) ?hd (cs := #[.int .i64 0, .int .i64 0, .int .i64 0, .int .i64 0, .int .i64 0, .int .i64 0, .int .i64 0]) (t := 62) ?hr ?_; (case hd => rfl); (case hg => rfl); (case hr => first | (go_simp; done) | (go_simp; rfl)); intro R hg Wb hbox hb; have BR := Aside0.mk hbox; have HBW := Aside0.mk (below_step HB.out hb); have HGR := Aside0.mk (show w.heap.size ≤ R by rw [hg]; exact below_size HB.out); clear hg hbox hb)
      | ((with_reducible refine gate_dst (N := 4) rfl ?_); refine box_event ?hg (N := 4) ?hd (cs := #[.int .i64 0, .int .i64 0, .int .i64 0, .int .i64 0]) (t := 240) ?hr ?_; (case hd => rfl); (case hg => rfl); (case hr => first | (go_simp; done) | (go_simp; rfl)); intro Q hg Wc hbox hb; have NRQ := Aside0.mk (show R ≠ Q by rw [hg]; exact Nat.ne_of_lt (blk_lt BR.out)); have HGQ := Aside0.mk (show w.heap.size ≤ Q by rw [hg]; exact below_size HBW.out); have n0 := Aside0.mk (blk_below BR.out hb); have BQ := Aside0.mk hbox; have n2 := Aside0.mk (below_step HBW.out hb); clear BR HBW hg hbox hb; have BR := n0; have HBW := n2; clear n0 n2; have nrq := NRQ.out; have nqr := Ne.symm NRQ.out; have r0 : Wc.cell? ⟨R, 0, none⟩ = some (.int .i64 0) := (blk_cell BR.out 0).trans rfl; have r1 : Wc.cell? ⟨R, 1, none⟩ = some (.int .i64 0) := (blk_cell BR.out 1).trans rfl; have r2 : Wc.cell? ⟨R, 2, none⟩ = some (.int .i64 0) := (blk_cell BR.out 2).trans rfl; have r3 : Wc.cell? ⟨R, 3, none⟩ = some (.int .i64 0) := (blk_cell BR.out 3).trans rfl; have r4 : Wc.cell? ⟨R, 4, none⟩ = some (.int .i64 0) := (blk_cell BR.out 4).trans rfl; have r5 : Wc.cell? ⟨R, 5, none⟩ = some (.int .i64 0) := (blk_cell BR.out 5).trans rfl; have r6 : Wc.cell? ⟨R, 6, none⟩ = some (.int .i64 0) := (blk_cell BR.out 6).trans rfl; have a0 : Wc.cell? ⟨Q, 0, none⟩ = some (.int .i64 0) := (blk_cell BQ.out 0).trans rfl; have a1 : Wc.cell? ⟨Q, 1, none⟩ = some (.int .i64 0) := (blk_cell BQ.out 1).trans rfl; have a2 : Wc.cell? ⟨Q, 2, none⟩ = some (.int .i64 0) := (blk_cell BQ.out 2).trans rfl; have a3 : Wc.cell? ⟨Q, 3, none⟩ = some (.int .i64 0) := (blk_cell BQ.out 3).trans rfl; have fr0 := blk_frozen BR.out 0; have fr1 := blk_frozen BR.out 1; have fr2 := blk_frozen BR.out 2; have fr3 := blk_frozen BR.out 3; have fr4 := blk_frozen BR.out 4; have fr5 := blk_frozen BR.out 5; have fr6 := blk_frozen BR.out 6; have fa0 := blk_frozen BQ.out 0; have fa1 := blk_frozen BQ.out 1; have fa2 := blk_frozen BQ.out 2; have fa3 := blk_frozen BQ.out 3)
      | (clear tokA_; go_at_call 132; refine (num_Get.calls k A0 c0 l0 p1 p2 _ (Kd.C_below HR0.out HBW.out) HC0.out HP.out).mono ?_; rintro e W1 ⟨rfl, hb⟩; have n0 := Aside0.mk (blk_below (g := R) (o := .cells #[.int .i64 0, .int .i64 0, .int .i64 0, .int .i64 0, .int .i64 0, .int .i64 0, .int .i64 0] 62 (0, 0)) (BR.out) hb); have n1 := Aside0.mk (blk_below (g := Q) (o := .cells #[.int .i64 0, .int .i64 0, .int .i64 0, .int .i64 0] 240 (0, 0)) (BQ.out) hb); have n2 := Aside0.mk (below_step (by repeat (first | exact HBW.out | (refine below_set ?_ HGR.out) | (refine below_set ?_ HGQ.out))) hb); clear BR BQ HBW hb; have BR := n0; have BQ := n1; have HBW := n2; clear n0 n1 n2; clear r0 r1 r2 r3 r4 r5 r6 a0 a1 a2 a3 fr0 fr1 fr2 fr3 fr4 fr5 fr6 fa0 fa1 fa2 fa3; have r0 : W1.cell? ⟨R, 0, none⟩ = some (.int .i64 0) := (blk_cell BR.out 0).trans rfl; have r1 : W1.cell? ⟨R, 1, none⟩ = some (.int .i64 0) := (blk_cell BR.out 1).trans rfl; have r2 : W1.cell? ⟨R, 2, none⟩ = some (.int .i64 0) := (blk_cell BR.out 2).trans rfl; have r3 : W1.cell? ⟨R, 3, none⟩ = some (.int .i64 0) := (blk_cell BR.out 3).trans rfl; have r4 : W1.cell? ⟨R, 4, none⟩ = some (.int .i64 0) := (blk_cell BR.out 4).trans rfl; have r5 : W1.cell? ⟨R, 5, none⟩ = some (.int .i64 0) := (blk_cell BR.out 5).trans rfl; have r6 : W1.cell? ⟨R, 6, none⟩ = some (.int .i64 0) := (blk_cell BR.out 6).trans rfl; have a0 : W1.cell? ⟨Q, 0, none⟩ = some (.int .i64 0) := (blk_cell BQ.out 0).trans rfl; have a1 : W1.cell? ⟨Q, 1, none⟩ = some (.int .i64 0) := (blk_cell BQ.out 1).trans rfl; have a2 : W1.cell? ⟨Q, 2, none⟩ = some (.int .i64 0) := (blk_cell BQ.out 2).trans rfl; have a3 : W1.cell? ⟨Q, 3, none⟩ = some (.int .i64 0) := (blk_cell BQ.out 3).trans rfl; have fr0 := blk_frozen BR.out 0; have fr1 := blk_frozen BR.out 1; have fr2 := blk_frozen BR.out 2; have fr3 := blk_frozen BR.out 3; have fr4 := blk_frozen BR.out 4; have fr5 := blk_frozen BR.out 5; have fr6 := blk_frozen BR.out 6; have fa0 := blk_frozen BQ.out 0; have fa1 := blk_frozen BQ.out 1; have fa2 := blk_frozen BQ.out 2; have fa3 := blk_frozen BQ.out 3)
      | (clear tokB_; go_at_call 179; refine (num_GetSigned.calls k A1 (c0 - p2.toNat) l1 q1 q2 _ (Kd.C_below HR1.out (below_set (below_set HBW.out HGR.out) HGQ.out)) HC1.out HQ.out).mono ?_; rintro e W2 ⟨rfl, hb⟩; have n0 := Aside0.mk (blk_below (g := R) (o := .cells #[.int .i64 0, .int .i64 p1, .int .i64 0, .int .i64 0, .int .i64 0, .int .i64 0, .int .i64 0] 62 (0, 0)) (blk_far (blk_put BR.out 1 _ rfl) (p := ⟨Q, 0, none⟩) NRQ.out _) hb); have n1 := Aside0.mk (blk_below (g := Q) (o := .cells #[.int .i64 p2, .int .i64 0, .int .i64 0, .int .i64 0] 240 (0, 0)) (blk_put (blk_far BQ.out (p := ⟨R, 1, none⟩) (Ne.symm NRQ.out) _) 0 _ rfl) hb); have n2 := Aside0.mk (below_step (by repeat (first | exact HBW.out | (refine below_set ?_ HGR.out) | (refine below_set ?_ HGQ.out))) hb); clear BR BQ HBW hb; have BR := n0; have BQ := n1; have HBW := n2; clear n0 n1 n2; clear r0 r1 r2 r3 r4 r5 r6 a0 a1 a2 a3 fr0 fr1 fr2 fr3 fr4 fr5 fr6 fa0 fa1 fa2 fa3; have r0 : W2.cell? ⟨R, 0, none⟩ = some (.int .i64 0) := (blk_cell BR.out 0).trans rfl; have r1 : W2.cell? ⟨R, 1, none⟩ = some (.int .i64 p1) := (blk_cell BR.out 1).trans rfl; have r2 : W2.cell? ⟨R, 2, none⟩ = some (.int .i64 0) := (blk_cell BR.out 2).trans rfl; have r3 : W2.cell? ⟨R, 3, none⟩ = some (.int .i64 0) := (blk_cell BR.out 3).trans rfl; have r4 : W2.cell? ⟨R, 4, none⟩ = some (.int .i64 0) := (blk_cell BR.out 4).trans rfl; have r5 : W2.cell? ⟨R, 5, none⟩ = some (.int .i64 0) := (blk_cell BR.out 5).trans rfl; have r6 : W2.cell? ⟨R, 6, none⟩ = some (.int .i64 0) := (blk_cell BR.out 6).trans rfl; have a0 : W2.cell? ⟨Q, 0, none⟩ = some (.int .i64 p2) := (blk_cell BQ.out 0).trans rfl; have a1 : W2.cell? ⟨Q, 1, none⟩ = some (.int .i64 0) := (blk_cell BQ.out 1).trans rfl; have a2 : W2.cell? ⟨Q, 2, none⟩ = some (.int .i64 0) := (blk_cell BQ.out 2).trans rfl; have a3 : W2.cell? ⟨Q, 3, none⟩ = some (.int .i64 0) := (blk_cell BQ.out 3).trans rfl; have fr0 := blk_frozen BR.out 0; have fr1 := blk_frozen BR.out 1; have fr2 := blk_frozen BR.out 2; have fr3 := blk_frozen BR.out 3; have fr4 := blk_frozen BR.out 4; have fr5 := blk_frozen BR.out 5; have fr6 := blk_frozen BR.out 6; have fa0 := blk_frozen BQ.out 0; have fa1 := blk_frozen BQ.out 1; have fa2 := blk_frozen BQ.out 2; have fa3 := blk_frozen BQ.out 3)
      | (clear tokC_; go_at_call 180; refine (codec_GetOp.calls k A2 (c0 - p2.toNat - q2.toNat) l2 o1 o2 o3 o4 _ (Kd.C_below HR2.out (below_set (below_set HBW.out HGR.out) HGQ.out)) HC2.out HOp.out).mono ?_; rintro e W3 ⟨rfl, hb⟩; have n0 := Aside0.mk (blk_below (g := R) (o := .cells #[.int .i64 0, .int .i64 p1, .int .i64 q1, .int .i64 0, .int .i64 0, .int .i64 0, .int .i64 0] 62 (0, 0)) (blk_far (blk_put BR.out 2 _ rfl) (p := ⟨Q, 1, none⟩) NRQ.out _) hb); have n1 := Aside0.mk (blk_below (g := Q) (o := .cells #[.int .i64 p2, .int .i64 q2, .int .i64 0, .int .i64 0] 240 (0, 0)) (blk_put (blk_far BQ.out (p := ⟨R, 2, none⟩) (Ne.symm NRQ.out) _) 1 _ rfl) hb); have n2 := Aside0.mk (below_step (by repeat (first | exact HBW.out | (refine below_set ?_ HGR.out) | (refine below_set ?_ HGQ.out))) hb); clear BR BQ HBW hb; have BR := n0; have BQ := n1; have HBW := n2; clear n0 n1 n2; clear r0 r1 r2 r3 r4 r5 r6 a0 a1 a2 a3 fr0 fr1 fr2 fr3 fr4 fr5 fr6 fa0 fa1 fa2 fa3; have r0 : W3.cell? ⟨R, 0, none⟩ = some (.int .i64 0) := (blk_cell BR.out 0).trans rfl; have r1 : W3.cell? ⟨R, 1, none⟩ = some (.int .i64 p1) := (blk_cell BR.out 1).trans rfl; have r2 : W3.cell? ⟨R, 2, none⟩ = some (.int .i64 q1) := (blk_cell BR.out 2).trans rfl; have r3 : W3.cell? ⟨R, 3, none⟩ = some (.int .i64 0) := (blk_cell BR.out 3).trans rfl; have r4 : W3.cell? ⟨R, 4, none⟩ = some (.int .i64 0) := (blk_cell BR.out 4).trans rfl; have r5 : W3.cell? ⟨R, 5, none⟩ = some (.int .i64 0) := (blk_cell BR.out 5).trans rfl; have r6 : W3.cell? ⟨R, 6, none⟩ = some (.int .i64 0) := (blk_cell BR.out 6).trans rfl; have a0 : W3.cell? ⟨Q, 0, none⟩ = some (.int .i64 p2) := (blk_cell BQ.out 0).trans rfl; have a1 : W3.cell? ⟨Q, 1, none⟩ = some (.int .i64 q2) := (blk_cell BQ.out 1).trans rfl; have a2 : W3.cell? ⟨Q, 2, none⟩ = some (.int .i64 0) := (blk_cell BQ.out 2).trans rfl; have a3 : W3.cell? ⟨Q, 3, none⟩ = some (.int .i64 0) := (blk_cell BQ.out 3).trans rfl; have fr0 := blk_frozen BR.out 0; have fr1 := blk_frozen BR.out 1; have fr2 := blk_frozen BR.out 2; have fr3 := blk_frozen BR.out 3; have fr4 := blk_frozen BR.out 4; have fr5 := blk_frozen BR.out 5; have fr6 := blk_frozen BR.out 6; have fa0 := blk_frozen BQ.out 0; have fa1 := blk_frozen BQ.out 1; have fa2 := blk_frozen BQ.out 2; have fa3 := blk_frozen BQ.out 3)
      | (clear tokD_; go_at_call 179; refine (num_GetSigned.calls k A3 (c0 - p2.toNat - q2.toNat - o4.toNat) l3 s1 s2 _ (Kd.C_below HR3.out (below_set (below_set (below_set (below_set HBW.out HGR.out) HGR.out) HGR.out) HGQ.out)) HC3.out HS.out).mono ?_; rintro e W4 ⟨rfl, hb⟩; have n0 := Aside0.mk (blk_below (g := R) (o := .cells #[.int .i64 0, .int .i64 p1, .int .i64 q1, .int .i64 o1, .int .i64 o2, .int .i64 o3, .int .i64 0] 62 (0, 0)) (blk_far (block_record.put3 BR.out) (p := ⟨Q, 2, none⟩) NRQ.out _) hb); have n1 := Aside0.mk (blk_below (g := Q) (o := .cells #[.int .i64 p2, .int .i64 q2, .int .i64 o4, .int .i64 0] 240 (0, 0)) (blk_put (blk_far (blk_far (blk_far BQ.out (p := ⟨R, 3, none⟩) (Ne.symm NRQ.out) _) (p := ⟨R, 4, none⟩) (Ne.symm NRQ.out) _) (p := ⟨R, 5, none⟩) (Ne.symm NRQ.out) _) 2 _ rfl) hb); have n2 := Aside0.mk (below_step (by repeat (first | exact HBW.out | (refine below_set ?_ HGR.out) | (refine below_set ?_ HGQ.out))) hb); clear BR BQ HBW hb; have BR := n0; have BQ := n1; have HBW := n2; clear n0 n1 n2; clear r0 r1 r2 r3 r4 r5 r6 a0 a1 a2 a3 fr0 fr1 fr2 fr3 fr4 fr5 fr6 fa0 fa1 fa2 fa3; have r0 : W4.cell? ⟨R, 0, none⟩ = some (.int .i64 0) := (blk_cell BR.out 0).trans rfl; have r1 : W4.cell? ⟨R, 1, none⟩ = some (.int .i64 p1) := (blk_cell BR.out 1).trans rfl; have r2 : W4.cell? ⟨R, 2, none⟩ = some (.int .i64 q1) := (blk_cell BR.out 2).trans rfl; have r3 : W4.cell? ⟨R, 3, none⟩ = some (.int .i64 o1) := (blk_cell BR.out 3).trans rfl; have r4 : W4.cell? ⟨R, 4, none⟩ = some (.int .i64 o2) := (blk_cell BR.out 4).trans rfl; have r5 : W4.cell? ⟨R, 5, none⟩ = some (.int .i64 o3) := (blk_cell BR.out 5).trans rfl; have r6 : W4.cell? ⟨R, 6, none⟩ = some (.int .i64 0) := (blk_cell BR.out 6).trans rfl; have a0 : W4.cell? ⟨Q, 0, none⟩ = some (.int .i64 p2) := (blk_cell BQ.out 0).trans rfl; have a1 : W4.cell? ⟨Q, 1, none⟩ = some (.int .i64 q2) := (blk_cell BQ.out 1).trans rfl; have a2 : W4.cell? ⟨Q, 2, none⟩ = some (.int .i64 o4) := (blk_cell BQ.out 2).trans rfl; have a3 : W4.cell? ⟨Q, 3, none⟩ = some (.int .i64 0) := (blk_cell BQ.out 3).trans rfl; have fr0 := blk_frozen BR.out 0; have fr1 := blk_frozen BR.out 1; have fr2 := blk_frozen BR.out 2; have fr3 := blk_frozen BR.out 3; have fr4 := blk_frozen BR.out 4; have fr5 := blk_frozen BR.out 5; have fr6 := blk_frozen BR.out 6; have fa0 := blk_frozen BQ.out 0; have fa1 := blk_frozen BQ.out 1; have fa2 := blk_frozen BQ.out 2; have fa3 := blk_frozen BQ.out 3))
    refine wp_loop_rounds 5 ?_
    repeat any_goals (rw [rounds_succ]; go_wp2)
    refine bodyPost_ret (results_ct rfl _ _ R 62 (block_record.cs z62) (0, 0) _ rfl (block_record.put7 (blk_far (blk_put BR.out 6 _ rfl) (p := ⟨Q, 3, none⟩) NRQ.out _)) Tryz.underlying62 rfl (by kernel_rfl)) rfl ⟨rfl, ?_⟩
    exact block_record.below7 (below_set (below_set HBW.out HGR.out) HGQ.out) HGR.out
  have t0 : (p2 == 0) = false := beq_eq_false_iff_ne.mpr z0
  by_cases z1 : q2 = 0
  · have t1 : (q2 == 0) = true := beq_iff_eq.mpr z1
    have h := H.out
    unfold block_record.of at h
    rw [if_pos (by simp only; omega)] at h
    simp only [Prod.mk.injEq] at h
    obtain ⟨rfl, rfl⟩ := h
    clear z1
    go_enter Tryz.func157, Tryz.ntmps157
    have tokA_ : True := trivial
    have tokB_ : True := trivial
    have tokC_ : True := trivial
    have tokD_ : True := trivial
    go_wp2_with (first
      | ((with_reducible refine gate_dst (N := 2) rfl ?_); refine box_event ?hg (N := 2) ?hd (cs := #[.int .i64 0, .int .i64 0, .int .i64 0, .int .i64 0, .int .i64 0, .int .i64 0, .int .i64 0]) (t := 62) ?hr ?_; (case hd => rfl); (case hg => rfl); (case hr => first | (go_simp; done) | (go_simp; rfl)); intro R hg Wb hbox hb; have BR := Aside0.mk hbox; have HBW := Aside0.mk (below_step HB.out hb); have HGR := Aside0.mk (show w.heap.size ≤ R by rw [hg]; exact below_size HB.out); clear hg hbox hb)
      | ((with_reducible refine gate_dst (N := 4) rfl ?_); refine box_event ?hg (N := 4) ?hd (cs := #[.int .i64 0, .int .i64 0, .int .i64 0, .int .i64 0]) (t := 240) ?hr ?_; (case hd => rfl); (case hg => rfl); (case hr => first | (go_simp; done) | (go_simp; rfl)); intro Q hg Wc hbox hb; have NRQ := Aside0.mk (show R ≠ Q by rw [hg]; exact Nat.ne_of_lt (blk_lt BR.out)); have HGQ := Aside0.mk (show w.heap.size ≤ Q by rw [hg]; exact below_size HBW.out); have n0 := Aside0.mk (blk_below BR.out hb); have BQ := Aside0.mk hbox; have n2 := Aside0.mk (below_step HBW.out hb); clear BR HBW hg hbox hb; have BR := n0; have HBW := n2; clear n0 n2; have nrq := NRQ.out; have nqr := Ne.symm NRQ.out; have r0 : Wc.cell? ⟨R, 0, none⟩ = some (.int .i64 0) := (blk_cell BR.out 0).trans rfl; have r1 : Wc.cell? ⟨R, 1, none⟩ = some (.int .i64 0) := (blk_cell BR.out 1).trans rfl; have r2 : Wc.cell? ⟨R, 2, none⟩ = some (.int .i64 0) := (blk_cell BR.out 2).trans rfl; have r3 : Wc.cell? ⟨R, 3, none⟩ = some (.int .i64 0) := (blk_cell BR.out 3).trans rfl; have r4 : Wc.cell? ⟨R, 4, none⟩ = some (.int .i64 0) := (blk_cell BR.out 4).trans rfl; have r5 : Wc.cell? ⟨R, 5, none⟩ = some (.int .i64 0) := (blk_cell BR.out 5).trans rfl; have r6 : Wc.cell? ⟨R, 6, none⟩ = some (.int .i64 0) := (blk_cell BR.out 6).trans rfl; have a0 : Wc.cell? ⟨Q, 0, none⟩ = some (.int .i64 0) := (blk_cell BQ.out 0).trans rfl; have a1 : Wc.cell? ⟨Q, 1, none⟩ = some (.int .i64 0) := (blk_cell BQ.out 1).trans rfl; have a2 : Wc.cell? ⟨Q, 2, none⟩ = some (.int .i64 0) := (blk_cell BQ.out 2).trans rfl; have a3 : Wc.cell? ⟨Q, 3, none⟩ = some (.int .i64 0) := (blk_cell BQ.out 3).trans rfl; have fr0 := blk_frozen BR.out 0; have fr1 := blk_frozen BR.out 1; have fr2 := blk_frozen BR.out 2; have fr3 := blk_frozen BR.out 3; have fr4 := blk_frozen BR.out 4; have fr5 := blk_frozen BR.out 5; have fr6 := blk_frozen BR.out 6; have fa0 := blk_frozen BQ.out 0; have fa1 := blk_frozen BQ.out 1; have fa2 := blk_frozen BQ.out 2; have fa3 := blk_frozen BQ.out 3)
      | (clear tokA_; go_at_call 132; refine (num_Get.calls k A0 c0 l0 p1 p2 _ (Kd.C_below HR0.out HBW.out) HC0.out HP.out).mono ?_; rintro e W1 ⟨rfl, hb⟩; have n0 := Aside0.mk (blk_below (g := R) (o := .cells #[.int .i64 0, .int .i64 0, .int .i64 0, .int .i64 0, .int .i64 0, .int .i64 0, .int .i64 0] 62 (0, 0)) (BR.out) hb); have n1 := Aside0.mk (blk_below (g := Q) (o := .cells #[.int .i64 0, .int .i64 0, .int .i64 0, .int .i64 0] 240 (0, 0)) (BQ.out) hb); have n2 := Aside0.mk (below_step (by repeat (first | exact HBW.out | (refine below_set ?_ HGR.out) | (refine below_set ?_ HGQ.out))) hb); clear BR BQ HBW hb; have BR := n0; have BQ := n1; have HBW := n2; clear n0 n1 n2; clear r0 r1 r2 r3 r4 r5 r6 a0 a1 a2 a3 fr0 fr1 fr2 fr3 fr4 fr5 fr6 fa0 fa1 fa2 fa3; have r0 : W1.cell? ⟨R, 0, none⟩ = some (.int .i64 0) := (blk_cell BR.out 0).trans rfl; have r1 : W1.cell? ⟨R, 1, none⟩ = some (.int .i64 0) := (blk_cell BR.out 1).trans rfl; have r2 : W1.cell? ⟨R, 2, none⟩ = some (.int .i64 0) := (blk_cell BR.out 2).trans rfl; have r3 : W1.cell? ⟨R, 3, none⟩ = some (.int .i64 0) := (blk_cell BR.out 3).trans rfl; have r4 : W1.cell? ⟨R, 4, none⟩ = some (.int .i64 0) := (blk_cell BR.out 4).trans rfl; have r5 : W1.cell? ⟨R, 5, none⟩ = some (.int .i64 0) := (blk_cell BR.out 5).trans rfl; have r6 : W1.cell? ⟨R, 6, none⟩ = some (.int .i64 0) := (blk_cell BR.out 6).trans rfl; have a0 : W1.cell? ⟨Q, 0, none⟩ = some (.int .i64 0) := (blk_cell BQ.out 0).trans rfl; have a1 : W1.cell? ⟨Q, 1, none⟩ = some (.int .i64 0) := (blk_cell BQ.out 1).trans rfl; have a2 : W1.cell? ⟨Q, 2, none⟩ = some (.int .i64 0) := (blk_cell BQ.out 2).trans rfl; have a3 : W1.cell? ⟨Q, 3, none⟩ = some (.int .i64 0) := (blk_cell BQ.out 3).trans rfl; have fr0 := blk_frozen BR.out 0; have fr1 := blk_frozen BR.out 1; have fr2 := blk_frozen BR.out 2; have fr3 := blk_frozen BR.out 3; have fr4 := blk_frozen BR.out 4; have fr5 := blk_frozen BR.out 5; have fr6 := blk_frozen BR.out 6; have fa0 := blk_frozen BQ.out 0; have fa1 := blk_frozen BQ.out 1; have fa2 := blk_frozen BQ.out 2; have fa3 := blk_frozen BQ.out 3)
      | (clear tokB_; go_at_call 179; refine (num_GetSigned.calls k A1 (c0 - p2.toNat) l1 q1 q2 _ (Kd.C_below HR1.out (below_set (below_set HBW.out HGR.out) HGQ.out)) HC1.out HQ.out).mono ?_; rintro e W2 ⟨rfl, hb⟩; have n0 := Aside0.mk (blk_below (g := R) (o := .cells #[.int .i64 0, .int .i64 p1, .int .i64 0, .int .i64 0, .int .i64 0, .int .i64 0, .int .i64 0] 62 (0, 0)) (blk_far (blk_put BR.out 1 _ rfl) (p := ⟨Q, 0, none⟩) NRQ.out _) hb); have n1 := Aside0.mk (blk_below (g := Q) (o := .cells #[.int .i64 p2, .int .i64 0, .int .i64 0, .int .i64 0] 240 (0, 0)) (blk_put (blk_far BQ.out (p := ⟨R, 1, none⟩) (Ne.symm NRQ.out) _) 0 _ rfl) hb); have n2 := Aside0.mk (below_step (by repeat (first | exact HBW.out | (refine below_set ?_ HGR.out) | (refine below_set ?_ HGQ.out))) hb); clear BR BQ HBW hb; have BR := n0; have BQ := n1; have HBW := n2; clear n0 n1 n2; clear r0 r1 r2 r3 r4 r5 r6 a0 a1 a2 a3 fr0 fr1 fr2 fr3 fr4 fr5 fr6 fa0 fa1 fa2 fa3; have r0 : W2.cell? ⟨R, 0, none⟩ = some (.int .i64 0) := (blk_cell BR.out 0).trans rfl; have r1 : W2.cell? ⟨R, 1, none⟩ = some (.int .i64 p1) := (blk_cell BR.out 1).trans rfl; have r2 : W2.cell? ⟨R, 2, none⟩ = some (.int .i64 0) := (blk_cell BR.out 2).trans rfl; have r3 : W2.cell? ⟨R, 3, none⟩ = some (.int .i64 0) := (blk_cell BR.out 3).trans rfl; have r4 : W2.cell? ⟨R, 4, none⟩ = some (.int .i64 0) := (blk_cell BR.out 4).trans rfl; have r5 : W2.cell? ⟨R, 5, none⟩ = some (.int .i64 0) := (blk_cell BR.out 5).trans rfl; have r6 : W2.cell? ⟨R, 6, none⟩ = some (.int .i64 0) := (blk_cell BR.out 6).trans rfl; have a0 : W2.cell? ⟨Q, 0, none⟩ = some (.int .i64 p2) := (blk_cell BQ.out 0).trans rfl; have a1 : W2.cell? ⟨Q, 1, none⟩ = some (.int .i64 0) := (blk_cell BQ.out 1).trans rfl; have a2 : W2.cell? ⟨Q, 2, none⟩ = some (.int .i64 0) := (blk_cell BQ.out 2).trans rfl; have a3 : W2.cell? ⟨Q, 3, none⟩ = some (.int .i64 0) := (blk_cell BQ.out 3).trans rfl; have fr0 := blk_frozen BR.out 0; have fr1 := blk_frozen BR.out 1; have fr2 := blk_frozen BR.out 2; have fr3 := blk_frozen BR.out 3; have fr4 := blk_frozen BR.out 4; have fr5 := blk_frozen BR.out 5; have fr6 := blk_frozen BR.out 6; have fa0 := blk_frozen BQ.out 0; have fa1 := blk_frozen BQ.out 1; have fa2 := blk_frozen BQ.out 2; have fa3 := blk_frozen BQ.out 3)
      | (clear tokC_; go_at_call 180; refine (codec_GetOp.calls k A2 (c0 - p2.toNat - q2.toNat) l2 o1 o2 o3 o4 _ (Kd.C_below HR2.out (below_set (below_set HBW.out HGR.out) HGQ.out)) HC2.out HOp.out).mono ?_; rintro e W3 ⟨rfl, hb⟩; have n0 := Aside0.mk (blk_below (g := R) (o := .cells #[.int .i64 0, .int .i64 p1, .int .i64 q1, .int .i64 0, .int .i64 0, .int .i64 0, .int .i64 0] 62 (0, 0)) (blk_far (blk_put BR.out 2 _ rfl) (p := ⟨Q, 1, none⟩) NRQ.out _) hb); have n1 := Aside0.mk (blk_below (g := Q) (o := .cells #[.int .i64 p2, .int .i64 q2, .int .i64 0, .int .i64 0] 240 (0, 0)) (blk_put (blk_far BQ.out (p := ⟨R, 2, none⟩) (Ne.symm NRQ.out) _) 1 _ rfl) hb); have n2 := Aside0.mk (below_step (by repeat (first | exact HBW.out | (refine below_set ?_ HGR.out) | (refine below_set ?_ HGQ.out))) hb); clear BR BQ HBW hb; have BR := n0; have BQ := n1; have HBW := n2; clear n0 n1 n2; clear r0 r1 r2 r3 r4 r5 r6 a0 a1 a2 a3 fr0 fr1 fr2 fr3 fr4 fr5 fr6 fa0 fa1 fa2 fa3; have r0 : W3.cell? ⟨R, 0, none⟩ = some (.int .i64 0) := (blk_cell BR.out 0).trans rfl; have r1 : W3.cell? ⟨R, 1, none⟩ = some (.int .i64 p1) := (blk_cell BR.out 1).trans rfl; have r2 : W3.cell? ⟨R, 2, none⟩ = some (.int .i64 q1) := (blk_cell BR.out 2).trans rfl; have r3 : W3.cell? ⟨R, 3, none⟩ = some (.int .i64 0) := (blk_cell BR.out 3).trans rfl; have r4 : W3.cell? ⟨R, 4, none⟩ = some (.int .i64 0) := (blk_cell BR.out 4).trans rfl; have r5 : W3.cell? ⟨R, 5, none⟩ = some (.int .i64 0) := (blk_cell BR.out 5).trans rfl; have r6 : W3.cell? ⟨R, 6, none⟩ = some (.int .i64 0) := (blk_cell BR.out 6).trans rfl; have a0 : W3.cell? ⟨Q, 0, none⟩ = some (.int .i64 p2) := (blk_cell BQ.out 0).trans rfl; have a1 : W3.cell? ⟨Q, 1, none⟩ = some (.int .i64 q2) := (blk_cell BQ.out 1).trans rfl; have a2 : W3.cell? ⟨Q, 2, none⟩ = some (.int .i64 0) := (blk_cell BQ.out 2).trans rfl; have a3 : W3.cell? ⟨Q, 3, none⟩ = some (.int .i64 0) := (blk_cell BQ.out 3).trans rfl; have fr0 := blk_frozen BR.out 0; have fr1 := blk_frozen BR.out 1; have fr2 := blk_frozen BR.out 2; have fr3 := blk_frozen BR.out 3; have fr4 := blk_frozen BR.out 4; have fr5 := blk_frozen BR.out 5; have fr6 := blk_frozen BR.out 6; have fa0 := blk_frozen BQ.out 0; have fa1 := blk_frozen BQ.out 1; have fa2 := blk_frozen BQ.out 2; have fa3 := blk_frozen BQ.out 3)
      | (clear tokD_; go_at_call 179; refine (num_GetSigned.calls k A3 (c0 - p2.toNat - q2.toNat - o4.toNat) l3 s1 s2 _ (Kd.C_below HR3.out (below_set (below_set (below_set (below_set HBW.out HGR.out) HGR.out) HGR.out) HGQ.out)) HC3.out HS.out).mono ?_; rintro e W4 ⟨rfl, hb⟩; have n0 := Aside0.mk (blk_below (g := R) (o := .cells #[.int .i64 0, .int .i64 p1, .int .i64 q1, .int .i64 o1, .int .i64 o2, .int .i64 o3, .int .i64 0] 62 (0, 0)) (blk_far (block_record.put3 BR.out) (p := ⟨Q, 2, none⟩) NRQ.out _) hb); have n1 := Aside0.mk (blk_below (g := Q) (o := .cells #[.int .i64 p2, .int .i64 q2, .int .i64 o4, .int .i64 0] 240 (0, 0)) (blk_put (blk_far (blk_far (blk_far BQ.out (p := ⟨R, 3, none⟩) (Ne.symm NRQ.out) _) (p := ⟨R, 4, none⟩) (Ne.symm NRQ.out) _) (p := ⟨R, 5, none⟩) (Ne.symm NRQ.out) _) 2 _ rfl) hb); have n2 := Aside0.mk (below_step (by repeat (first | exact HBW.out | (refine below_set ?_ HGR.out) | (refine below_set ?_ HGQ.out))) hb); clear BR BQ HBW hb; have BR := n0; have BQ := n1; have HBW := n2; clear n0 n1 n2; clear r0 r1 r2 r3 r4 r5 r6 a0 a1 a2 a3 fr0 fr1 fr2 fr3 fr4 fr5 fr6 fa0 fa1 fa2 fa3; have r0 : W4.cell? ⟨R, 0, none⟩ = some (.int .i64 0) := (blk_cell BR.out 0).trans rfl; have r1 : W4.cell? ⟨R, 1, none⟩ = some (.int .i64 p1) := (blk_cell BR.out 1).trans rfl; have r2 : W4.cell? ⟨R, 2, none⟩ = some (.int .i64 q1) := (blk_cell BR.out 2).trans rfl; have r3 : W4.cell? ⟨R, 3, none⟩ = some (.int .i64 o1) := (blk_cell BR.out 3).trans rfl; have r4 : W4.cell? ⟨R, 4, none⟩ = some (.int .i64 o2) := (blk_cell BR.out 4).trans rfl; have r5 : W4.cell? ⟨R, 5, none⟩ = some (.int .i64 o3) := (blk_cell BR.out 5).trans rfl; have r6 : W4.cell? ⟨R, 6, none⟩ = some (.int .i64 0) := (blk_cell BR.out 6).trans rfl; have a0 : W4.cell? ⟨Q, 0, none⟩ = some (.int .i64 p2) := (blk_cell BQ.out 0).trans rfl; have a1 : W4.cell? ⟨Q, 1, none⟩ = some (.int .i64 q2) := (blk_cell BQ.out 1).trans rfl; have a2 : W4.cell? ⟨Q, 2, none⟩ = some (.int .i64 o4) := (blk_cell BQ.out 2).trans rfl; have a3 : W4.cell? ⟨Q, 3, none⟩ = some (.int .i64 0) := (blk_cell BQ.out 3).trans rfl; have fr0 := blk_frozen BR.out 0; have fr1 := blk_frozen BR.out 1; have fr2 := blk_frozen BR.out 2; have fr3 := blk_frozen BR.out 3; have fr4 := blk_frozen BR.out 4; have fr5 := blk_frozen BR.out 5; have fr6 := blk_frozen BR.out 6; have fa0 := blk_frozen BQ.out 0; have fa1 := blk_frozen BQ.out 1; have fa2 := blk_frozen BQ.out 2; have fa3 := blk_frozen BQ.out 3))
    refine wp_loop_rounds 5 ?_
    repeat any_goals (rw [rounds_succ]; go_wp2)
    refine bodyPost_ret (results_ct rfl _ _ R 62 (block_record.cs z62) (0, 0) _ rfl (block_record.put7 (blk_far (blk_put BR.out 6 _ rfl) (p := ⟨Q, 3, none⟩) NRQ.out _)) Tryz.underlying62 rfl (by kernel_rfl)) rfl ⟨rfl, ?_⟩
    exact block_record.below7 (below_set (below_set HBW.out HGR.out) HGQ.out) HGR.out
  have t1 : (q2 == 0) = false := beq_eq_false_iff_ne.mpr z1
  by_cases z2 : o4 = 0
  · have t2 : (o4 == 0) = true := beq_iff_eq.mpr z2
    have h := H.out
    unfold block_record.of at h
    rw [if_pos (by simp only; omega)] at h
    simp only [Prod.mk.injEq] at h
    obtain ⟨rfl, rfl⟩ := h
    clear z2
    go_enter Tryz.func157, Tryz.ntmps157
    have tokA_ : True := trivial
    have tokB_ : True := trivial
    have tokC_ : True := trivial
    have tokD_ : True := trivial
    go_wp2_with (first
      | ((with_reducible refine gate_dst (N := 2) rfl ?_); refine box_event ?hg (N := 2) ?hd (cs := #[.int .i64 0, .int .i64 0, .int .i64 0, .int .i64 0, .int .i64 0, .int .i64 0, .int .i64 0]) (t := 62) ?hr ?_; (case hd => rfl); (case hg => rfl); (case hr => first | (go_simp; done) | (go_simp; rfl)); intro R hg Wb hbox hb; have BR := Aside0.mk hbox; have HBW := Aside0.mk (below_step HB.out hb); have HGR := Aside0.mk (show w.heap.size ≤ R by rw [hg]; exact below_size HB.out); clear hg hbox hb)
      | ((with_reducible refine gate_dst (N := 4) rfl ?_); refine box_event ?hg (N := 4) ?hd (cs := #[.int .i64 0, .int .i64 0, .int .i64 0, .int .i64 0]) (t := 240) ?hr ?_; (case hd => rfl); (case hg => rfl); (case hr => first | (go_simp; done) | (go_simp; rfl)); intro Q hg Wc hbox hb; have NRQ := Aside0.mk (show R ≠ Q by rw [hg]; exact Nat.ne_of_lt (blk_lt BR.out)); have HGQ := Aside0.mk (show w.heap.size ≤ Q by rw [hg]; exact below_size HBW.out); have n0 := Aside0.mk (blk_below BR.out hb); have BQ := Aside0.mk hbox; have n2 := Aside0.mk (below_step HBW.out hb); clear BR HBW hg hbox hb; have BR := n0; have HBW := n2; clear n0 n2; have nrq := NRQ.out; have nqr := Ne.symm NRQ.out; have r0 : Wc.cell? ⟨R, 0, none⟩ = some (.int .i64 0) := (blk_cell BR.out 0).trans rfl; have r1 : Wc.cell? ⟨R, 1, none⟩ = some (.int .i64 0) := (blk_cell BR.out 1).trans rfl; have r2 : Wc.cell? ⟨R, 2, none⟩ = some (.int .i64 0) := (blk_cell BR.out 2).trans rfl; have r3 : Wc.cell? ⟨R, 3, none⟩ = some (.int .i64 0) := (blk_cell BR.out 3).trans rfl; have r4 : Wc.cell? ⟨R, 4, none⟩ = some (.int .i64 0) := (blk_cell BR.out 4).trans rfl; have r5 : Wc.cell? ⟨R, 5, none⟩ = some (.int .i64 0) := (blk_cell BR.out 5).trans rfl; have r6 : Wc.cell? ⟨R, 6, none⟩ = some (.int .i64 0) := (blk_cell BR.out 6).trans rfl; have a0 : Wc.cell? ⟨Q, 0, none⟩ = some (.int .i64 0) := (blk_cell BQ.out 0).trans rfl; have a1 : Wc.cell? ⟨Q, 1, none⟩ = some (.int .i64 0) := (blk_cell BQ.out 1).trans rfl; have a2 : Wc.cell? ⟨Q, 2, none⟩ = some (.int .i64 0) := (blk_cell BQ.out 2).trans rfl; have a3 : Wc.cell? ⟨Q, 3, none⟩ = some (.int .i64 0) := (blk_cell BQ.out 3).trans rfl; have fr0 := blk_frozen BR.out 0; have fr1 := blk_frozen BR.out 1; have fr2 := blk_frozen BR.out 2; have fr3 := blk_frozen BR.out 3; have fr4 := blk_frozen BR.out 4; have fr5 := blk_frozen BR.out 5; have fr6 := blk_frozen BR.out 6; have fa0 := blk_frozen BQ.out 0; have fa1 := blk_frozen BQ.out 1; have fa2 := blk_frozen BQ.out 2; have fa3 := blk_frozen BQ.out 3)
      | (clear tokA_; go_at_call 132; refine (num_Get.calls k A0 c0 l0 p1 p2 _ (Kd.C_below HR0.out HBW.out) HC0.out HP.out).mono ?_; rintro e W1 ⟨rfl, hb⟩; have n0 := Aside0.mk (blk_below (g := R) (o := .cells #[.int .i64 0, .int .i64 0, .int .i64 0, .int .i64 0, .int .i64 0, .int .i64 0, .int .i64 0] 62 (0, 0)) (BR.out) hb); have n1 := Aside0.mk (blk_below (g := Q) (o := .cells #[.int .i64 0, .int .i64 0, .int .i64 0, .int .i64 0] 240 (0, 0)) (BQ.out) hb); have n2 := Aside0.mk (below_step (by repeat (first | exact HBW.out | (refine below_set ?_ HGR.out) | (refine below_set ?_ HGQ.out))) hb); clear BR BQ HBW hb; have BR := n0; have BQ := n1; have HBW := n2; clear n0 n1 n2; clear r0 r1 r2 r3 r4 r5 r6 a0 a1 a2 a3 fr0 fr1 fr2 fr3 fr4 fr5 fr6 fa0 fa1 fa2 fa3; have r0 : W1.cell? ⟨R, 0, none⟩ = some (.int .i64 0) := (blk_cell BR.out 0).trans rfl; have r1 : W1.cell? ⟨R, 1, none⟩ = some (.int .i64 0) := (blk_cell BR.out 1).trans rfl; have r2 : W1.cell? ⟨R, 2, none⟩ = some (.int .i64 0) := (blk_cell BR.out 2).trans rfl; have r3 : W1.cell? ⟨R, 3, none⟩ = some (.int .i64 0) := (blk_cell BR.out 3).trans rfl; have r4 : W1.cell? ⟨R, 4, none⟩ = some (.int .i64 0) := (blk_cell BR.out 4).trans rfl; have r5 : W1.cell? ⟨R, 5, none⟩ = some (.int .i64 0) := (blk_cell BR.out 5).trans rfl; have r6 : W1.cell? ⟨R, 6, none⟩ = some (.int .i64 0) := (blk_cell BR.out 6).trans rfl; have a0 : W1.cell? ⟨Q, 0, none⟩ = some (.int .i64 0) := (blk_cell BQ.out 0).trans rfl; have a1 : W1.cell? ⟨Q, 1, none⟩ = some (.int .i64 0) := (blk_cell BQ.out 1).trans rfl; have a2 : W1.cell? ⟨Q, 2, none⟩ = some (.int .i64 0) := (blk_cell BQ.out 2).trans rfl; have a3 : W1.cell? ⟨Q, 3, none⟩ = some (.int .i64 0) := (blk_cell BQ.out 3).trans rfl; have fr0 := blk_frozen BR.out 0; have fr1 := blk_frozen BR.out 1; have fr2 := blk_frozen BR.out 2; have fr3 := blk_frozen BR.out 3; have fr4 := blk_frozen BR.out 4; have fr5 := blk_frozen BR.out 5; have fr6 := blk_frozen BR.out 6; have fa0 := blk_frozen BQ.out 0; have fa1 := blk_frozen BQ.out 1; have fa2 := blk_frozen BQ.out 2; have fa3 := blk_frozen BQ.out 3)
      | (clear tokB_; go_at_call 179; refine (num_GetSigned.calls k A1 (c0 - p2.toNat) l1 q1 q2 _ (Kd.C_below HR1.out (below_set (below_set HBW.out HGR.out) HGQ.out)) HC1.out HQ.out).mono ?_; rintro e W2 ⟨rfl, hb⟩; have n0 := Aside0.mk (blk_below (g := R) (o := .cells #[.int .i64 0, .int .i64 p1, .int .i64 0, .int .i64 0, .int .i64 0, .int .i64 0, .int .i64 0] 62 (0, 0)) (blk_far (blk_put BR.out 1 _ rfl) (p := ⟨Q, 0, none⟩) NRQ.out _) hb); have n1 := Aside0.mk (blk_below (g := Q) (o := .cells #[.int .i64 p2, .int .i64 0, .int .i64 0, .int .i64 0] 240 (0, 0)) (blk_put (blk_far BQ.out (p := ⟨R, 1, none⟩) (Ne.symm NRQ.out) _) 0 _ rfl) hb); have n2 := Aside0.mk (below_step (by repeat (first | exact HBW.out | (refine below_set ?_ HGR.out) | (refine below_set ?_ HGQ.out))) hb); clear BR BQ HBW hb; have BR := n0; have BQ := n1; have HBW := n2; clear n0 n1 n2; clear r0 r1 r2 r3 r4 r5 r6 a0 a1 a2 a3 fr0 fr1 fr2 fr3 fr4 fr5 fr6 fa0 fa1 fa2 fa3; have r0 : W2.cell? ⟨R, 0, none⟩ = some (.int .i64 0) := (blk_cell BR.out 0).trans rfl; have r1 : W2.cell? ⟨R, 1, none⟩ = some (.int .i64 p1) := (blk_cell BR.out 1).trans rfl; have r2 : W2.cell? ⟨R, 2, none⟩ = some (.int .i64 0) := (blk_cell BR.out 2).trans rfl; have r3 : W2.cell? ⟨R, 3, none⟩ = some (.int .i64 0) := (blk_cell BR.out 3).trans rfl; have r4 : W2.cell? ⟨R, 4, none⟩ = some (.int .i64 0) := (blk_cell BR.out 4).trans rfl; have r5 : W2.cell? ⟨R, 5, none⟩ = some (.int .i64 0) := (blk_cell BR.out 5).trans rfl; have r6 : W2.cell? ⟨R, 6, none⟩ = some (.int .i64 0) := (blk_cell BR.out 6).trans rfl; have a0 : W2.cell? ⟨Q, 0, none⟩ = some (.int .i64 p2) := (blk_cell BQ.out 0).trans rfl; have a1 : W2.cell? ⟨Q, 1, none⟩ = some (.int .i64 0) := (blk_cell BQ.out 1).trans rfl; have a2 : W2.cell? ⟨Q, 2, none⟩ = some (.int .i64 0) := (blk_cell BQ.out 2).trans rfl; have a3 : W2.cell? ⟨Q, 3, none⟩ = some (.int .i64 0) := (blk_cell BQ.out 3).trans rfl; have fr0 := blk_frozen BR.out 0; have fr1 := blk_frozen BR.out 1; have fr2 := blk_frozen BR.out 2; have fr3 := blk_frozen BR.out 3; have fr4 := blk_frozen BR.out 4; have fr5 := blk_frozen BR.out 5; have fr6 := blk_frozen BR.out 6; have fa0 := blk_frozen BQ.out 0; have fa1 := blk_frozen BQ.out 1; have fa2 := blk_frozen BQ.out 2; have fa3 := blk_frozen BQ.out 3)
      | (clear tokC_; go_at_call 180; refine (codec_GetOp.calls k A2 (c0 - p2.toNat - q2.toNat) l2 o1 o2 o3 o4 _ (Kd.C_below HR2.out (below_set (below_set HBW.out HGR.out) HGQ.out)) HC2.out HOp.out).mono ?_; rintro e W3 ⟨rfl, hb⟩; have n0 := Aside0.mk (blk_below (g := R) (o := .cells #[.int .i64 0, .int .i64 p1, .int .i64 q1, .int .i64 0, .int .i64 0, .int .i64 0, .int .i64 0] 62 (0, 0)) (blk_far (blk_put BR.out 2 _ rfl) (p := ⟨Q, 1, none⟩) NRQ.out _) hb); have n1 := Aside0.mk (blk_below (g := Q) (o := .cells #[.int .i64 p2, .int .i64 q2, .int .i64 0, .int .i64 0] 240 (0, 0)) (blk_put (blk_far BQ.out (p := ⟨R, 2, none⟩) (Ne.symm NRQ.out) _) 1 _ rfl) hb); have n2 := Aside0.mk (below_step (by repeat (first | exact HBW.out | (refine below_set ?_ HGR.out) | (refine below_set ?_ HGQ.out))) hb); clear BR BQ HBW hb; have BR := n0; have BQ := n1; have HBW := n2; clear n0 n1 n2; clear r0 r1 r2 r3 r4 r5 r6 a0 a1 a2 a3 fr0 fr1 fr2 fr3 fr4 fr5 fr6 fa0 fa1 fa2 fa3; have r0 : W3.cell? ⟨R, 0, none⟩ = some (.int .i64 0) := (blk_cell BR.out 0).trans rfl; have r1 : W3.cell? ⟨R, 1, none⟩ = some (.int .i64 p1) := (blk_cell BR.out 1).trans rfl; have r2 : W3.cell? ⟨R, 2, none⟩ = some (.int .i64 q1) := (blk_cell BR.out 2).trans rfl; have r3 : W3.cell? ⟨R, 3, none⟩ = some (.int .i64 0) := (blk_cell BR.out 3).trans rfl; have r4 : W3.cell? ⟨R, 4, none⟩ = some (.int .i64 0) := (blk_cell BR.out 4).trans rfl; have r5 : W3.cell? ⟨R, 5, none⟩ = some (.int .i64 0) := (blk_cell BR.out 5).trans rfl; have r6 : W3.cell? ⟨R, 6, none⟩ = some (.int .i64 0) := (blk_cell BR.out 6).trans rfl; have a0 : W3.cell? ⟨Q, 0, none⟩ = some (.int .i64 p2) := (blk_cell BQ.out 0).trans rfl; have a1 : W3.cell? ⟨Q, 1, none⟩ = some (.int .i64 q2) := (blk_cell BQ.out 1).trans rfl; have a2 : W3.cell? ⟨Q, 2, none⟩ = some (.int .i64 0) := (blk_cell BQ.out 2).trans rfl; have a3 : W3.cell? ⟨Q, 3, none⟩ = some (.int .i64 0) := (blk_cell BQ.out 3).trans rfl; have fr0 := blk_frozen BR.out 0; have fr1 := blk_frozen BR.out 1; have fr2 := blk_frozen BR.out 2; have fr3 := blk_frozen BR.out 3; have fr4 := blk_frozen BR.out 4; have fr5 := blk_frozen BR.out 5; have fr6 := blk_frozen BR.out 6; have fa0 := blk_frozen BQ.out 0; have fa1 := blk_frozen BQ.out 1; have fa2 := blk_frozen BQ.out 2; have fa3 := blk_frozen BQ.out 3)
      | (clear tokD_; go_at_call 179; refine (num_GetSigned.calls k A3 (c0 - p2.toNat - q2.toNat - o4.toNat) l3 s1 s2 _ (Kd.C_below HR3.out (below_set (below_set (below_set (below_set HBW.out HGR.out) HGR.out) HGR.out) HGQ.out)) HC3.out HS.out).mono ?_; rintro e W4 ⟨rfl, hb⟩; have n0 := Aside0.mk (blk_below (g := R) (o := .cells #[.int .i64 0, .int .i64 p1, .int .i64 q1, .int .i64 o1, .int .i64 o2, .int .i64 o3, .int .i64 0] 62 (0, 0)) (blk_far (block_record.put3 BR.out) (p := ⟨Q, 2, none⟩) NRQ.out _) hb); have n1 := Aside0.mk (blk_below (g := Q) (o := .cells #[.int .i64 p2, .int .i64 q2, .int .i64 o4, .int .i64 0] 240 (0, 0)) (blk_put (blk_far (blk_far (blk_far BQ.out (p := ⟨R, 3, none⟩) (Ne.symm NRQ.out) _) (p := ⟨R, 4, none⟩) (Ne.symm NRQ.out) _) (p := ⟨R, 5, none⟩) (Ne.symm NRQ.out) _) 2 _ rfl) hb); have n2 := Aside0.mk (below_step (by repeat (first | exact HBW.out | (refine below_set ?_ HGR.out) | (refine below_set ?_ HGQ.out))) hb); clear BR BQ HBW hb; have BR := n0; have BQ := n1; have HBW := n2; clear n0 n1 n2; clear r0 r1 r2 r3 r4 r5 r6 a0 a1 a2 a3 fr0 fr1 fr2 fr3 fr4 fr5 fr6 fa0 fa1 fa2 fa3; have r0 : W4.cell? ⟨R, 0, none⟩ = some (.int .i64 0) := (blk_cell BR.out 0).trans rfl; have r1 : W4.cell? ⟨R, 1, none⟩ = some (.int .i64 p1) := (blk_cell BR.out 1).trans rfl; have r2 : W4.cell? ⟨R, 2, none⟩ = some (.int .i64 q1) := (blk_cell BR.out 2).trans rfl; have r3 : W4.cell? ⟨R, 3, none⟩ = some (.int .i64 o1) := (blk_cell BR.out 3).trans rfl; have r4 : W4.cell? ⟨R, 4, none⟩ = some (.int .i64 o2) := (blk_cell BR.out 4).trans rfl; have r5 : W4.cell? ⟨R, 5, none⟩ = some (.int .i64 o3) := (blk_cell BR.out 5).trans rfl; have r6 : W4.cell? ⟨R, 6, none⟩ = some (.int .i64 0) := (blk_cell BR.out 6).trans rfl; have a0 : W4.cell? ⟨Q, 0, none⟩ = some (.int .i64 p2) := (blk_cell BQ.out 0).trans rfl; have a1 : W4.cell? ⟨Q, 1, none⟩ = some (.int .i64 q2) := (blk_cell BQ.out 1).trans rfl; have a2 : W4.cell? ⟨Q, 2, none⟩ = some (.int .i64 o4) := (blk_cell BQ.out 2).trans rfl; have a3 : W4.cell? ⟨Q, 3, none⟩ = some (.int .i64 0) := (blk_cell BQ.out 3).trans rfl; have fr0 := blk_frozen BR.out 0; have fr1 := blk_frozen BR.out 1; have fr2 := blk_frozen BR.out 2; have fr3 := blk_frozen BR.out 3; have fr4 := blk_frozen BR.out 4; have fr5 := blk_frozen BR.out 5; have fr6 := blk_frozen BR.out 6; have fa0 := blk_frozen BQ.out 0; have fa1 := blk_frozen BQ.out 1; have fa2 := blk_frozen BQ.out 2; have fa3 := blk_frozen BQ.out 3))
    refine wp_loop_rounds 5 ?_
    repeat any_goals (rw [rounds_succ]; go_wp2)
    refine bodyPost_ret (results_ct rfl _ _ R 62 (block_record.cs z62) (0, 0) _ rfl (block_record.put7 (blk_far (blk_put BR.out 6 _ rfl) (p := ⟨Q, 3, none⟩) NRQ.out _)) Tryz.underlying62 rfl (by kernel_rfl)) rfl ⟨rfl, ?_⟩
    exact block_record.below7 (below_set (below_set HBW.out HGR.out) HGQ.out) HGR.out
  have t2 : (o4 == 0) = false := beq_eq_false_iff_ne.mpr z2
  by_cases z3 : s2 = 0
  · have t3 : (s2 == 0) = true := beq_iff_eq.mpr z3
    have h := H.out
    unfold block_record.of at h
    rw [if_pos (by simp only; omega)] at h
    simp only [Prod.mk.injEq] at h
    obtain ⟨rfl, rfl⟩ := h
    clear z3
    go_enter Tryz.func157, Tryz.ntmps157
    have tokA_ : True := trivial
    have tokB_ : True := trivial
    have tokC_ : True := trivial
    have tokD_ : True := trivial
    go_wp2_with (first
      | ((with_reducible refine gate_dst (N := 2) rfl ?_); refine box_event ?hg (N := 2) ?hd (cs := #[.int .i64 0, .int .i64 0, .int .i64 0, .int .i64 0, .int .i64 0, .int .i64 0, .int .i64 0]) (t := 62) ?hr ?_; (case hd => rfl); (case hg => rfl); (case hr => first | (go_simp; done) | (go_simp; rfl)); intro R hg Wb hbox hb; have BR := Aside0.mk hbox; have HBW := Aside0.mk (below_step HB.out hb); have HGR := Aside0.mk (show w.heap.size ≤ R by rw [hg]; exact below_size HB.out); clear hg hbox hb)
      | ((with_reducible refine gate_dst (N := 4) rfl ?_); refine box_event ?hg (N := 4) ?hd (cs := #[.int .i64 0, .int .i64 0, .int .i64 0, .int .i64 0]) (t := 240) ?hr ?_; (case hd => rfl); (case hg => rfl); (case hr => first | (go_simp; done) | (go_simp; rfl)); intro Q hg Wc hbox hb; have NRQ := Aside0.mk (show R ≠ Q by rw [hg]; exact Nat.ne_of_lt (blk_lt BR.out)); have HGQ := Aside0.mk (show w.heap.size ≤ Q by rw [hg]; exact below_size HBW.out); have n0 := Aside0.mk (blk_below BR.out hb); have BQ := Aside0.mk hbox; have n2 := Aside0.mk (below_step HBW.out hb); clear BR HBW hg hbox hb; have BR := n0; have HBW := n2; clear n0 n2; have nrq := NRQ.out; have nqr := Ne.symm NRQ.out; have r0 : Wc.cell? ⟨R, 0, none⟩ = some (.int .i64 0) := (blk_cell BR.out 0).trans rfl; have r1 : Wc.cell? ⟨R, 1, none⟩ = some (.int .i64 0) := (blk_cell BR.out 1).trans rfl; have r2 : Wc.cell? ⟨R, 2, none⟩ = some (.int .i64 0) := (blk_cell BR.out 2).trans rfl; have r3 : Wc.cell? ⟨R, 3, none⟩ = some (.int .i64 0) := (blk_cell BR.out 3).trans rfl; have r4 : Wc.cell? ⟨R, 4, none⟩ = some (.int .i64 0) := (blk_cell BR.out 4).trans rfl; have r5 : Wc.cell? ⟨R, 5, none⟩ = some (.int .i64 0) := (blk_cell BR.out 5).trans rfl; have r6 : Wc.cell? ⟨R, 6, none⟩ = some (.int .i64 0) := (blk_cell BR.out 6).trans rfl; have a0 : Wc.cell? ⟨Q, 0, none⟩ = some (.int .i64 0) := (blk_cell BQ.out 0).trans rfl; have a1 : Wc.cell? ⟨Q, 1, none⟩ = some (.int .i64 0) := (blk_cell BQ.out 1).trans rfl; have a2 : Wc.cell? ⟨Q, 2, none⟩ = some (.int .i64 0) := (blk_cell BQ.out 2).trans rfl; have a3 : Wc.cell? ⟨Q, 3, none⟩ = some (.int .i64 0) := (blk_cell BQ.out 3).trans rfl; have fr0 := blk_frozen BR.out 0; have fr1 := blk_frozen BR.out 1; have fr2 := blk_frozen BR.out 2; have fr3 := blk_frozen BR.out 3; have fr4 := blk_frozen BR.out 4; have fr5 := blk_frozen BR.out 5; have fr6 := blk_frozen BR.out 6; have fa0 := blk_frozen BQ.out 0; have fa1 := blk_frozen BQ.out 1; have fa2 := blk_frozen BQ.out 2; have fa3 := blk_frozen BQ.out 3)
      | (clear tokA_; go_at_call 132; refine (num_Get.calls k A0 c0 l0 p1 p2 _ (Kd.C_below HR0.out HBW.out) HC0.out HP.out).mono ?_; rintro e W1 ⟨rfl, hb⟩; have n0 := Aside0.mk (blk_below (g := R) (o := .cells #[.int .i64 0, .int .i64 0, .int .i64 0, .int .i64 0, .int .i64 0, .int .i64 0, .int .i64 0] 62 (0, 0)) (BR.out) hb); have n1 := Aside0.mk (blk_below (g := Q) (o := .cells #[.int .i64 0, .int .i64 0, .int .i64 0, .int .i64 0] 240 (0, 0)) (BQ.out) hb); have n2 := Aside0.mk (below_step (by repeat (first | exact HBW.out | (refine below_set ?_ HGR.out) | (refine below_set ?_ HGQ.out))) hb); clear BR BQ HBW hb; have BR := n0; have BQ := n1; have HBW := n2; clear n0 n1 n2; clear r0 r1 r2 r3 r4 r5 r6 a0 a1 a2 a3 fr0 fr1 fr2 fr3 fr4 fr5 fr6 fa0 fa1 fa2 fa3; have r0 : W1.cell? ⟨R, 0, none⟩ = some (.int .i64 0) := (blk_cell BR.out 0).trans rfl; have r1 : W1.cell? ⟨R, 1, none⟩ = some (.int .i64 0) := (blk_cell BR.out 1).trans rfl; have r2 : W1.cell? ⟨R, 2, none⟩ = some (.int .i64 0) := (blk_cell BR.out 2).trans rfl; have r3 : W1.cell? ⟨R, 3, none⟩ = some (.int .i64 0) := (blk_cell BR.out 3).trans rfl; have r4 : W1.cell? ⟨R, 4, none⟩ = some (.int .i64 0) := (blk_cell BR.out 4).trans rfl; have r5 : W1.cell? ⟨R, 5, none⟩ = some (.int .i64 0) := (blk_cell BR.out 5).trans rfl; have r6 : W1.cell? ⟨R, 6, none⟩ = some (.int .i64 0) := (blk_cell BR.out 6).trans rfl; have a0 : W1.cell? ⟨Q, 0, none⟩ = some (.int .i64 0) := (blk_cell BQ.out 0).trans rfl; have a1 : W1.cell? ⟨Q, 1, none⟩ = some (.int .i64 0) := (blk_cell BQ.out 1).trans rfl; have a2 : W1.cell? ⟨Q, 2, none⟩ = some (.int .i64 0) := (blk_cell BQ.out 2).trans rfl; have a3 : W1.cell? ⟨Q, 3, none⟩ = some (.int .i64 0) := (blk_cell BQ.out 3).trans rfl; have fr0 := blk_frozen BR.out 0; have fr1 := blk_frozen BR.out 1; have fr2 := blk_frozen BR.out 2; have fr3 := blk_frozen BR.out 3; have fr4 := blk_frozen BR.out 4; have fr5 := blk_frozen BR.out 5; have fr6 := blk_frozen BR.out 6; have fa0 := blk_frozen BQ.out 0; have fa1 := blk_frozen BQ.out 1; have fa2 := blk_frozen BQ.out 2; have fa3 := blk_frozen BQ.out 3)
      | (clear tokB_; go_at_call 179; refine (num_GetSigned.calls k A1 (c0 - p2.toNat) l1 q1 q2 _ (Kd.C_below HR1.out (below_set (below_set HBW.out HGR.out) HGQ.out)) HC1.out HQ.out).mono ?_; rintro e W2 ⟨rfl, hb⟩; have n0 := Aside0.mk (blk_below (g := R) (o := .cells #[.int .i64 0, .int .i64 p1, .int .i64 0, .int .i64 0, .int .i64 0, .int .i64 0, .int .i64 0] 62 (0, 0)) (blk_far (blk_put BR.out 1 _ rfl) (p := ⟨Q, 0, none⟩) NRQ.out _) hb); have n1 := Aside0.mk (blk_below (g := Q) (o := .cells #[.int .i64 p2, .int .i64 0, .int .i64 0, .int .i64 0] 240 (0, 0)) (blk_put (blk_far BQ.out (p := ⟨R, 1, none⟩) (Ne.symm NRQ.out) _) 0 _ rfl) hb); have n2 := Aside0.mk (below_step (by repeat (first | exact HBW.out | (refine below_set ?_ HGR.out) | (refine below_set ?_ HGQ.out))) hb); clear BR BQ HBW hb; have BR := n0; have BQ := n1; have HBW := n2; clear n0 n1 n2; clear r0 r1 r2 r3 r4 r5 r6 a0 a1 a2 a3 fr0 fr1 fr2 fr3 fr4 fr5 fr6 fa0 fa1 fa2 fa3; have r0 : W2.cell? ⟨R, 0, none⟩ = some (.int .i64 0) := (blk_cell BR.out 0).trans rfl; have r1 : W2.cell? ⟨R, 1, none⟩ = some (.int .i64 p1) := (blk_cell BR.out 1).trans rfl; have r2 : W2.cell? ⟨R, 2, none⟩ = some (.int .i64 0) := (blk_cell BR.out 2).trans rfl; have r3 : W2.cell? ⟨R, 3, none⟩ = some (.int .i64 0) := (blk_cell BR.out 3).trans rfl; have r4 : W2.cell? ⟨R, 4, none⟩ = some (.int .i64 0) := (blk_cell BR.out 4).trans rfl; have r5 : W2.cell? ⟨R, 5, none⟩ = some (.int .i64 0) := (blk_cell BR.out 5).trans rfl; have r6 : W2.cell? ⟨R, 6, none⟩ = some (.int .i64 0) := (blk_cell BR.out 6).trans rfl; have a0 : W2.cell? ⟨Q, 0, none⟩ = some (.int .i64 p2) := (blk_cell BQ.out 0).trans rfl; have a1 : W2.cell? ⟨Q, 1, none⟩ = some (.int .i64 0) := (blk_cell BQ.out 1).trans rfl; have a2 : W2.cell? ⟨Q, 2, none⟩ = some (.int .i64 0) := (blk_cell BQ.out 2).trans rfl; have a3 : W2.cell? ⟨Q, 3, none⟩ = some (.int .i64 0) := (blk_cell BQ.out 3).trans rfl; have fr0 := blk_frozen BR.out 0; have fr1 := blk_frozen BR.out 1; have fr2 := blk_frozen BR.out 2; have fr3 := blk_frozen BR.out 3; have fr4 := blk_frozen BR.out 4; have fr5 := blk_frozen BR.out 5; have fr6 := blk_frozen BR.out 6; have fa0 := blk_frozen BQ.out 0; have fa1 := blk_frozen BQ.out 1; have fa2 := blk_frozen BQ.out 2; have fa3 := blk_frozen BQ.out 3)
      | (clear tokC_; go_at_call 180; refine (codec_GetOp.calls k A2 (c0 - p2.toNat - q2.toNat) l2 o1 o2 o3 o4 _ (Kd.C_below HR2.out (below_set (below_set HBW.out HGR.out) HGQ.out)) HC2.out HOp.out).mono ?_; rintro e W3 ⟨rfl, hb⟩; have n0 := Aside0.mk (blk_below (g := R) (o := .cells #[.int .i64 0, .int .i64 p1, .int .i64 q1, .int .i64 0, .int .i64 0, .int .i64 0, .int .i64 0] 62 (0, 0)) (blk_far (blk_put BR.out 2 _ rfl) (p := ⟨Q, 1, none⟩) NRQ.out _) hb); have n1 := Aside0.mk (blk_below (g := Q) (o := .cells #[.int .i64 p2, .int .i64 q2, .int .i64 0, .int .i64 0] 240 (0, 0)) (blk_put (blk_far BQ.out (p := ⟨R, 2, none⟩) (Ne.symm NRQ.out) _) 1 _ rfl) hb); have n2 := Aside0.mk (below_step (by repeat (first | exact HBW.out | (refine below_set ?_ HGR.out) | (refine below_set ?_ HGQ.out))) hb); clear BR BQ HBW hb; have BR := n0; have BQ := n1; have HBW := n2; clear n0 n1 n2; clear r0 r1 r2 r3 r4 r5 r6 a0 a1 a2 a3 fr0 fr1 fr2 fr3 fr4 fr5 fr6 fa0 fa1 fa2 fa3; have r0 : W3.cell? ⟨R, 0, none⟩ = some (.int .i64 0) := (blk_cell BR.out 0).trans rfl; have r1 : W3.cell? ⟨R, 1, none⟩ = some (.int .i64 p1) := (blk_cell BR.out 1).trans rfl; have r2 : W3.cell? ⟨R, 2, none⟩ = some (.int .i64 q1) := (blk_cell BR.out 2).trans rfl; have r3 : W3.cell? ⟨R, 3, none⟩ = some (.int .i64 0) := (blk_cell BR.out 3).trans rfl; have r4 : W3.cell? ⟨R, 4, none⟩ = some (.int .i64 0) := (blk_cell BR.out 4).trans rfl; have r5 : W3.cell? ⟨R, 5, none⟩ = some (.int .i64 0) := (blk_cell BR.out 5).trans rfl; have r6 : W3.cell? ⟨R, 6, none⟩ = some (.int .i64 0) := (blk_cell BR.out 6).trans rfl; have a0 : W3.cell? ⟨Q, 0, none⟩ = some (.int .i64 p2) := (blk_cell BQ.out 0).trans rfl; have a1 : W3.cell? ⟨Q, 1, none⟩ = some (.int .i64 q2) := (blk_cell BQ.out 1).trans rfl; have a2 : W3.cell? ⟨Q, 2, none⟩ = some (.int .i64 0) := (blk_cell BQ.out 2).trans rfl; have a3 : W3.cell? ⟨Q, 3, none⟩ = some (.int .i64 0) := (blk_cell BQ.out 3).trans rfl; have fr0 := blk_frozen BR.out 0; have fr1 := blk_frozen BR.out 1; have fr2 := blk_frozen BR.out 2; have fr3 := blk_frozen BR.out 3; have fr4 := blk_frozen BR.out 4; have fr5 := blk_frozen BR.out 5; have fr6 := blk_frozen BR.out 6; have fa0 := blk_frozen BQ.out 0; have fa1 := blk_frozen BQ.out 1; have fa2 := blk_frozen BQ.out 2; have fa3 := blk_frozen BQ.out 3)
      | (clear tokD_; go_at_call 179; refine (num_GetSigned.calls k A3 (c0 - p2.toNat - q2.toNat - o4.toNat) l3 s1 s2 _ (Kd.C_below HR3.out (below_set (below_set (below_set (below_set HBW.out HGR.out) HGR.out) HGR.out) HGQ.out)) HC3.out HS.out).mono ?_; rintro e W4 ⟨rfl, hb⟩; have n0 := Aside0.mk (blk_below (g := R) (o := .cells #[.int .i64 0, .int .i64 p1, .int .i64 q1, .int .i64 o1, .int .i64 o2, .int .i64 o3, .int .i64 0] 62 (0, 0)) (blk_far (block_record.put3 BR.out) (p := ⟨Q, 2, none⟩) NRQ.out _) hb); have n1 := Aside0.mk (blk_below (g := Q) (o := .cells #[.int .i64 p2, .int .i64 q2, .int .i64 o4, .int .i64 0] 240 (0, 0)) (blk_put (blk_far (blk_far (blk_far BQ.out (p := ⟨R, 3, none⟩) (Ne.symm NRQ.out) _) (p := ⟨R, 4, none⟩) (Ne.symm NRQ.out) _) (p := ⟨R, 5, none⟩) (Ne.symm NRQ.out) _) 2 _ rfl) hb); have n2 := Aside0.mk (below_step (by repeat (first | exact HBW.out | (refine below_set ?_ HGR.out) | (refine below_set ?_ HGQ.out))) hb); clear BR BQ HBW hb; have BR := n0; have BQ := n1; have HBW := n2; clear n0 n1 n2; clear r0 r1 r2 r3 r4 r5 r6 a0 a1 a2 a3 fr0 fr1 fr2 fr3 fr4 fr5 fr6 fa0 fa1 fa2 fa3; have r0 : W4.cell? ⟨R, 0, none⟩ = some (.int .i64 0) := (blk_cell BR.out 0).trans rfl; have r1 : W4.cell? ⟨R, 1, none⟩ = some (.int .i64 p1) := (blk_cell BR.out 1).trans rfl; have r2 : W4.cell? ⟨R, 2, none⟩ = some (.int .i64 q1) := (blk_cell BR.out 2).trans rfl; have r3 : W4.cell? ⟨R, 3, none⟩ = some (.int .i64 o1) := (blk_cell BR.out 3).trans rfl; have r4 : W4.cell? ⟨R, 4, none⟩ = some (.int .i64 o2) := (blk_cell BR.out 4).trans rfl; have r5 : W4.cell? ⟨R, 5, none⟩ = some (.int .i64 o3) := (blk_cell BR.out 5).trans rfl; have r6 : W4.cell? ⟨R, 6, none⟩ = some (.int .i64 0) := (blk_cell BR.out 6).trans rfl; have a0 : W4.cell? ⟨Q, 0, none⟩ = some (.int .i64 p2) := (blk_cell BQ.out 0).trans rfl; have a1 : W4.cell? ⟨Q, 1, none⟩ = some (.int .i64 q2) := (blk_cell BQ.out 1).trans rfl; have a2 : W4.cell? ⟨Q, 2, none⟩ = some (.int .i64 o4) := (blk_cell BQ.out 2).trans rfl; have a3 : W4.cell? ⟨Q, 3, none⟩ = some (.int .i64 0) := (blk_cell BQ.out 3).trans rfl; have fr0 := blk_frozen BR.out 0; have fr1 := blk_frozen BR.out 1; have fr2 := blk_frozen BR.out 2; have fr3 := blk_frozen BR.out 3; have fr4 := blk_frozen BR.out 4; have fr5 := blk_frozen BR.out 5; have fr6 := blk_frozen BR.out 6; have fa0 := blk_frozen BQ.out 0; have fa1 := blk_frozen BQ.out 1; have fa2 := blk_frozen BQ.out 2; have fa3 := blk_frozen BQ.out 3))
    refine wp_loop_rounds 5 ?_
    repeat any_goals (rw [rounds_succ]; go_wp2)
    refine bodyPost_ret (results_ct rfl _ _ R 62 (block_record.cs z62) (0, 0) _ rfl (block_record.put7 (blk_far (blk_put BR.out 6 _ rfl) (p := ⟨Q, 3, none⟩) NRQ.out _)) Tryz.underlying62 rfl (by kernel_rfl)) rfl ⟨rfl, ?_⟩
    exact block_record.below7 (below_set (below_set HBW.out HGR.out) HGQ.out) HGR.out
  have t3 : (s2 == 0) = false := beq_eq_false_iff_ne.mpr z3
  have h := H.out
  unfold block_record.of at h
  rw [if_neg (by simp only; omega)] at h
  simp only [Prod.mk.injEq] at h
  obtain ⟨rfl, rfl⟩ := h
  have hX := HX.out
  clear z0 z1 z2 z3
  go_enter Tryz.func157, Tryz.ntmps157
  have tokA_ : True := trivial
  have tokB_ : True := trivial
  have tokC_ : True := trivial
  have tokD_ : True := trivial
  go_wp2_with (first
    | ((with_reducible refine gate_dst (N := 2) rfl ?_); refine box_event ?hg (N := 2) ?hd (cs := #[.int .i64 0, .int .i64 0, .int .i64 0, .int .i64 0, .int .i64 0, .int .i64 0, .int .i64 0]) (t := 62) ?hr ?_; (case hd => rfl); (case hg => rfl); (case hr => first | (go_simp; done) | (go_simp; rfl)); intro R hg Wb hbox hb; have BR := Aside0.mk hbox; have HBW := Aside0.mk (below_step HB.out hb); have HGR := Aside0.mk (show w.heap.size ≤ R by rw [hg]; exact below_size HB.out); clear hg hbox hb)
    | ((with_reducible refine gate_dst (N := 4) rfl ?_); refine box_event ?hg (N := 4) ?hd (cs := #[.int .i64 0, .int .i64 0, .int .i64 0, .int .i64 0]) (t := 240) ?hr ?_; (case hd => rfl); (case hg => rfl); (case hr => first | (go_simp; done) | (go_simp; rfl)); intro Q hg Wc hbox hb; have NRQ := Aside0.mk (show R ≠ Q by rw [hg]; exact Nat.ne_of_lt (blk_lt BR.out)); have HGQ := Aside0.mk (show w.heap.size ≤ Q by rw [hg]; exact below_size HBW.out); have n0 := Aside0.mk (blk_below BR.out hb); have BQ := Aside0.mk hbox; have n2 := Aside0.mk (below_step HBW.out hb); clear BR HBW hg hbox hb; have BR := n0; have HBW := n2; clear n0 n2; have nrq := NRQ.out; have nqr := Ne.symm NRQ.out; have r0 : Wc.cell? ⟨R, 0, none⟩ = some (.int .i64 0) := (blk_cell BR.out 0).trans rfl; have r1 : Wc.cell? ⟨R, 1, none⟩ = some (.int .i64 0) := (blk_cell BR.out 1).trans rfl; have r2 : Wc.cell? ⟨R, 2, none⟩ = some (.int .i64 0) := (blk_cell BR.out 2).trans rfl; have r3 : Wc.cell? ⟨R, 3, none⟩ = some (.int .i64 0) := (blk_cell BR.out 3).trans rfl; have r4 : Wc.cell? ⟨R, 4, none⟩ = some (.int .i64 0) := (blk_cell BR.out 4).trans rfl; have r5 : Wc.cell? ⟨R, 5, none⟩ = some (.int .i64 0) := (blk_cell BR.out 5).trans rfl; have r6 : Wc.cell? ⟨R, 6, none⟩ = some (.int .i64 0) := (blk_cell BR.out 6).trans rfl; have a0 : Wc.cell? ⟨Q, 0, none⟩ = some (.int .i64 0) := (blk_cell BQ.out 0).trans rfl; have a1 : Wc.cell? ⟨Q, 1, none⟩ = some (.int .i64 0) := (blk_cell BQ.out 1).trans rfl; have a2 : Wc.cell? ⟨Q, 2, none⟩ = some (.int .i64 0) := (blk_cell BQ.out 2).trans rfl; have a3 : Wc.cell? ⟨Q, 3, none⟩ = some (.int .i64 0) := (blk_cell BQ.out 3).trans rfl; have fr0 := blk_frozen BR.out 0; have fr1 := blk_frozen BR.out 1; have fr2 := blk_frozen BR.out 2; have fr3 := blk_frozen BR.out 3; have fr4 := blk_frozen BR.out 4; have fr5 := blk_frozen BR.out 5; have fr6 := blk_frozen BR.out 6; have fa0 := blk_frozen BQ.out 0; have fa1 := blk_frozen BQ.out 1; have fa2 := blk_frozen BQ.out 2; have fa3 := blk_frozen BQ.out 3)
    | (clear tokA_; go_at_call 132; refine (num_Get.calls k A0 c0 l0 p1 p2 _ (Kd.C_below HR0.out HBW.out) HC0.out HP.out).mono ?_; rintro e W1 ⟨rfl, hb⟩; have n0 := Aside0.mk (blk_below (g := R) (o := .cells #[.int .i64 0, .int .i64 0, .int .i64 0, .int .i64 0, .int .i64 0, .int .i64 0, .int .i64 0] 62 (0, 0)) (BR.out) hb); have n1 := Aside0.mk (blk_below (g := Q) (o := .cells #[.int .i64 0, .int .i64 0, .int .i64 0, .int .i64 0] 240 (0, 0)) (BQ.out) hb); have n2 := Aside0.mk (below_step (by repeat (first | exact HBW.out | (refine below_set ?_ HGR.out) | (refine below_set ?_ HGQ.out))) hb); clear BR BQ HBW hb; have BR := n0; have BQ := n1; have HBW := n2; clear n0 n1 n2; clear r0 r1 r2 r3 r4 r5 r6 a0 a1 a2 a3 fr0 fr1 fr2 fr3 fr4 fr5 fr6 fa0 fa1 fa2 fa3; have r0 : W1.cell? ⟨R, 0, none⟩ = some (.int .i64 0) := (blk_cell BR.out 0).trans rfl; have r1 : W1.cell? ⟨R, 1, none⟩ = some (.int .i64 0) := (blk_cell BR.out 1).trans rfl; have r2 : W1.cell? ⟨R, 2, none⟩ = some (.int .i64 0) := (blk_cell BR.out 2).trans rfl; have r3 : W1.cell? ⟨R, 3, none⟩ = some (.int .i64 0) := (blk_cell BR.out 3).trans rfl; have r4 : W1.cell? ⟨R, 4, none⟩ = some (.int .i64 0) := (blk_cell BR.out 4).trans rfl; have r5 : W1.cell? ⟨R, 5, none⟩ = some (.int .i64 0) := (blk_cell BR.out 5).trans rfl; have r6 : W1.cell? ⟨R, 6, none⟩ = some (.int .i64 0) := (blk_cell BR.out 6).trans rfl; have a0 : W1.cell? ⟨Q, 0, none⟩ = some (.int .i64 0) := (blk_cell BQ.out 0).trans rfl; have a1 : W1.cell? ⟨Q, 1, none⟩ = some (.int .i64 0) := (blk_cell BQ.out 1).trans rfl; have a2 : W1.cell? ⟨Q, 2, none⟩ = some (.int .i64 0) := (blk_cell BQ.out 2).trans rfl; have a3 : W1.cell? ⟨Q, 3, none⟩ = some (.int .i64 0) := (blk_cell BQ.out 3).trans rfl; have fr0 := blk_frozen BR.out 0; have fr1 := blk_frozen BR.out 1; have fr2 := blk_frozen BR.out 2; have fr3 := blk_frozen BR.out 3; have fr4 := blk_frozen BR.out 4; have fr5 := blk_frozen BR.out 5; have fr6 := blk_frozen BR.out 6; have fa0 := blk_frozen BQ.out 0; have fa1 := blk_frozen BQ.out 1; have fa2 := blk_frozen BQ.out 2; have fa3 := blk_frozen BQ.out 3)
    | (clear tokB_; go_at_call 179; refine (num_GetSigned.calls k A1 (c0 - p2.toNat) l1 q1 q2 _ (Kd.C_below HR1.out (below_set (below_set HBW.out HGR.out) HGQ.out)) HC1.out HQ.out).mono ?_; rintro e W2 ⟨rfl, hb⟩; have n0 := Aside0.mk (blk_below (g := R) (o := .cells #[.int .i64 0, .int .i64 p1, .int .i64 0, .int .i64 0, .int .i64 0, .int .i64 0, .int .i64 0] 62 (0, 0)) (blk_far (blk_put BR.out 1 _ rfl) (p := ⟨Q, 0, none⟩) NRQ.out _) hb); have n1 := Aside0.mk (blk_below (g := Q) (o := .cells #[.int .i64 p2, .int .i64 0, .int .i64 0, .int .i64 0] 240 (0, 0)) (blk_put (blk_far BQ.out (p := ⟨R, 1, none⟩) (Ne.symm NRQ.out) _) 0 _ rfl) hb); have n2 := Aside0.mk (below_step (by repeat (first | exact HBW.out | (refine below_set ?_ HGR.out) | (refine below_set ?_ HGQ.out))) hb); clear BR BQ HBW hb; have BR := n0; have BQ := n1; have HBW := n2; clear n0 n1 n2; clear r0 r1 r2 r3 r4 r5 r6 a0 a1 a2 a3 fr0 fr1 fr2 fr3 fr4 fr5 fr6 fa0 fa1 fa2 fa3; have r0 : W2.cell? ⟨R, 0, none⟩ = some (.int .i64 0) := (blk_cell BR.out 0).trans rfl; have r1 : W2.cell? ⟨R, 1, none⟩ = some (.int .i64 p1) := (blk_cell BR.out 1).trans rfl; have r2 : W2.cell? ⟨R, 2, none⟩ = some (.int .i64 0) := (blk_cell BR.out 2).trans rfl; have r3 : W2.cell? ⟨R, 3, none⟩ = some (.int .i64 0) := (blk_cell BR.out 3).trans rfl; have r4 : W2.cell? ⟨R, 4, none⟩ = some (.int .i64 0) := (blk_cell BR.out 4).trans rfl; have r5 : W2.cell? ⟨R, 5, none⟩ = some (.int .i64 0) := (blk_cell BR.out 5).trans rfl; have r6 : W2.cell? ⟨R, 6, none⟩ = some (.int .i64 0) := (blk_cell BR.out 6).trans rfl; have a0 : W2.cell? ⟨Q, 0, none⟩ = some (.int .i64 p2) := (blk_cell BQ.out 0).trans rfl; have a1 : W2.cell? ⟨Q, 1, none⟩ = some (.int .i64 0) := (blk_cell BQ.out 1).trans rfl; have a2 : W2.cell? ⟨Q, 2, none⟩ = some (.int .i64 0) := (blk_cell BQ.out 2).trans rfl; have a3 : W2.cell? ⟨Q, 3, none⟩ = some (.int .i64 0) := (blk_cell BQ.out 3).trans rfl; have fr0 := blk_frozen BR.out 0; have fr1 := blk_frozen BR.out 1; have fr2 := blk_frozen BR.out 2; have fr3 := blk_frozen BR.out 3; have fr4 := blk_frozen BR.out 4; have fr5 := blk_frozen BR.out 5; have fr6 := blk_frozen BR.out 6; have fa0 := blk_frozen BQ.out 0; have fa1 := blk_frozen BQ.out 1; have fa2 := blk_frozen BQ.out 2; have fa3 := blk_frozen BQ.out 3)
    | (clear tokC_; go_at_call 180; refine (codec_GetOp.calls k A2 (c0 - p2.toNat - q2.toNat) l2 o1 o2 o3 o4 _ (Kd.C_below HR2.out (below_set (below_set HBW.out HGR.out) HGQ.out)) HC2.out HOp.out).mono ?_; rintro e W3 ⟨rfl, hb⟩; have n0 := Aside0.mk (blk_below (g := R) (o := .cells #[.int .i64 0, .int .i64 p1, .int .i64 q1, .int .i64 0, .int .i64 0, .int .i64 0, .int .i64 0] 62 (0, 0)) (blk_far (blk_put BR.out 2 _ rfl) (p := ⟨Q, 1, none⟩) NRQ.out _) hb); have n1 := Aside0.mk (blk_below (g := Q) (o := .cells #[.int .i64 p2, .int .i64 q2, .int .i64 0, .int .i64 0] 240 (0, 0)) (blk_put (blk_far BQ.out (p := ⟨R, 2, none⟩) (Ne.symm NRQ.out) _) 1 _ rfl) hb); have n2 := Aside0.mk (below_step (by repeat (first | exact HBW.out | (refine below_set ?_ HGR.out) | (refine below_set ?_ HGQ.out))) hb); clear BR BQ HBW hb; have BR := n0; have BQ := n1; have HBW := n2; clear n0 n1 n2; clear r0 r1 r2 r3 r4 r5 r6 a0 a1 a2 a3 fr0 fr1 fr2 fr3 fr4 fr5 fr6 fa0 fa1 fa2 fa3; have r0 : W3.cell? ⟨R, 0, none⟩ = some (.int .i64 0) := (blk_cell BR.out 0).trans rfl; have r1 : W3.cell? ⟨R, 1, none⟩ = some (.int .i64 p1) := (blk_cell BR.out 1).trans rfl; have r2 : W3.cell? ⟨R, 2, none⟩ = some (.int .i64 q1) := (blk_cell BR.out 2).trans rfl; have r3 : W3.cell? ⟨R, 3, none⟩ = some (.int .i64 0) := (blk_cell BR.out 3).trans rfl; have r4 : W3.cell? ⟨R, 4, none⟩ = some (.int .i64 0) := (blk_cell BR.out 4).trans rfl; have r5 : W3.cell? ⟨R, 5, none⟩ = some (.int .i64 0) := (blk_cell BR.out 5).trans rfl; have r6 : W3.cell? ⟨R, 6, none⟩ = some (.int .i64 0) := (blk_cell BR.out 6).trans rfl; have a0 : W3.cell? ⟨Q, 0, none⟩ = some (.int .i64 p2) := (blk_cell BQ.out 0).trans rfl; have a1 : W3.cell? ⟨Q, 1, none⟩ = some (.int .i64 q2) := (blk_cell BQ.out 1).trans rfl; have a2 : W3.cell? ⟨Q, 2, none⟩ = some (.int .i64 0) := (blk_cell BQ.out 2).trans rfl; have a3 : W3.cell? ⟨Q, 3, none⟩ = some (.int .i64 0) := (blk_cell BQ.out 3).trans rfl; have fr0 := blk_frozen BR.out 0; have fr1 := blk_frozen BR.out 1; have fr2 := blk_frozen BR.out 2; have fr3 := blk_frozen BR.out 3; have fr4 := blk_frozen BR.out 4; have fr5 := blk_frozen BR.out 5; have fr6 := blk_frozen BR.out 6; have fa0 := blk_frozen BQ.out 0; have fa1 := blk_frozen BQ.out 1; have fa2 := blk_frozen BQ.out 2; have fa3 := blk_frozen BQ.out 3)
    | (clear tokD_; go_at_call 179; refine (num_GetSigned.calls k A3 (c0 - p2.toNat - q2.toNat - o4.toNat) l3 s1 s2 _ (Kd.C_below HR3.out (below_set (below_set (below_set (below_set HBW.out HGR.out) HGR.out) HGR.out) HGQ.out)) HC3.out HS.out).mono ?_; rintro e W4 ⟨rfl, hb⟩; have n0 := Aside0.mk (blk_below (g := R) (o := .cells #[.int .i64 0, .int .i64 p1, .int .i64 q1, .int .i64 o1, .int .i64 o2, .int .i64 o3, .int .i64 0] 62 (0, 0)) (blk_far (block_record.put3 BR.out) (p := ⟨Q, 2, none⟩) NRQ.out _) hb); have n1 := Aside0.mk (blk_below (g := Q) (o := .cells #[.int .i64 p2, .int .i64 q2, .int .i64 o4, .int .i64 0] 240 (0, 0)) (blk_put (blk_far (blk_far (blk_far BQ.out (p := ⟨R, 3, none⟩) (Ne.symm NRQ.out) _) (p := ⟨R, 4, none⟩) (Ne.symm NRQ.out) _) (p := ⟨R, 5, none⟩) (Ne.symm NRQ.out) _) 2 _ rfl) hb); have n2 := Aside0.mk (below_step (by repeat (first | exact HBW.out | (refine below_set ?_ HGR.out) | (refine below_set ?_ HGQ.out))) hb); clear BR BQ HBW hb; have BR := n0; have BQ := n1; have HBW := n2; clear n0 n1 n2; clear r0 r1 r2 r3 r4 r5 r6 a0 a1 a2 a3 fr0 fr1 fr2 fr3 fr4 fr5 fr6 fa0 fa1 fa2 fa3; have r0 : W4.cell? ⟨R, 0, none⟩ = some (.int .i64 0) := (blk_cell BR.out 0).trans rfl; have r1 : W4.cell? ⟨R, 1, none⟩ = some (.int .i64 p1) := (blk_cell BR.out 1).trans rfl; have r2 : W4.cell? ⟨R, 2, none⟩ = some (.int .i64 q1) := (blk_cell BR.out 2).trans rfl; have r3 : W4.cell? ⟨R, 3, none⟩ = some (.int .i64 o1) := (blk_cell BR.out 3).trans rfl; have r4 : W4.cell? ⟨R, 4, none⟩ = some (.int .i64 o2) := (blk_cell BR.out 4).trans rfl; have r5 : W4.cell? ⟨R, 5, none⟩ = some (.int .i64 o3) := (blk_cell BR.out 5).trans rfl; have r6 : W4.cell? ⟨R, 6, none⟩ = some (.int .i64 0) := (blk_cell BR.out 6).trans rfl; have a0 : W4.cell? ⟨Q, 0, none⟩ = some (.int .i64 p2) := (blk_cell BQ.out 0).trans rfl; have a1 : W4.cell? ⟨Q, 1, none⟩ = some (.int .i64 q2) := (blk_cell BQ.out 1).trans rfl; have a2 : W4.cell? ⟨Q, 2, none⟩ = some (.int .i64 o4) := (blk_cell BQ.out 2).trans rfl; have a3 : W4.cell? ⟨Q, 3, none⟩ = some (.int .i64 0) := (blk_cell BQ.out 3).trans rfl; have fr0 := blk_frozen BR.out 0; have fr1 := blk_frozen BR.out 1; have fr2 := blk_frozen BR.out 2; have fr3 := blk_frozen BR.out 3; have fr4 := blk_frozen BR.out 4; have fr5 := blk_frozen BR.out 5; have fr6 := blk_frozen BR.out 6; have fa0 := blk_frozen BQ.out 0; have fa1 := blk_frozen BQ.out 1; have fa2 := blk_frozen BQ.out 2; have fa3 := blk_frozen BQ.out 3))
  refine wp_loop_rounds 5 ?_
  repeat any_goals (rw [rounds_succ]; go_wp2)
  refine bodyPost_ret (results_ct rfl _ _ R 62 (block_record.cs ⟨0, p1, q1, ⟨o1, o2, o3⟩, s1⟩) (0, 0) _ rfl (block_record.put7 (blk_far (blk_put BR.out 6 _ rfl) (p := ⟨Q, 3, none⟩) NRQ.out _)) Tryz.underlying62 rfl (by kernel_rfl)) rfl ⟨rfl, ?_⟩
  exact block_record.below7 (below_set (below_set HBW.out HGR.out) HGQ.out) HGR.out
/-! ### block_Decode: function 133 -/
theorem block_Decode.append_law {P : Program} {ops : Array Oper} {o : Oper} {a : Act} {Q : Exit → Act → World → Prop} {Kc : Act → World → Prop} {E : Prop} {α : Type} (d : Kd α) {w0 W : World} (base : Nat) (hgd : o.guard = none) (s x : Operand) (t e : TypeId) (z : Value) (bytes : Nat)
    (ho : o.op = .call { callee := .builtin .append, args := #[s, x], argTypes := #[t, t] })
    (ht : P.underlying t = some (.slice e)) (hinfo : (P.info? e).map (fun i => (i.zero, i.size, i.bytes)) = some (some z, d.sz, bytes)) (hz : z.cells.size = d.sz) (hs0 : 0 < d.sz) (hb0 : 0 < bytes)
    (v : Value) (xs : List α) (p : α) (cs : List Value) (ok okp : Nat → Prop) (hs : a.eval s = v) (hx : a.eval x = .slice (some ⟨W.heap.size, 0, none⟩) 1 1) (hp : d.M W base okp p cs) (hokp : ∀ k, okp k → ok k ∧ some k ≠ v.ownBlock) (hfresh : ∀ k, W.heap.size ≤ k → ok k)
    (HO : d.R e W base ok v xs) (HB : Below base w0 W) (hbase : base ≤ W.heap.size) (hl : (xs.length + 1) * bytes ≤ 140737488355328)
    (h : ∀ v1 w1, d.R e w1 base ok v1 (xs ++ [p]) → Below base w0 w1 → W.grownBy w1 v.ownBlock → (v1.ownBlock = v.ownBlock ∨ ∃ b, v1.ownBlock = some b ∧ W.heap.size ≤ b) → Kc (a.put o.dst v1) w1) :
    if Region.wanted o (yielded ops a.tmps) = true then Oper.wp P o a (W.alloc (.cells cs.toArray e)) Kc Q else E := by
  have hw : Region.wanted o (yielded ops a.tmps) = true := by simp [Region.wanted, hgd]
  have h2 := Kd.R_append_step (P := P) (ops := ops) (o := o) (a := a) (Q := Q) (Kc := Kc) d base hw s x t e z bytes ho ht hinfo hz hs0 hb0 v xs p cs ok okp hs hx hp hokp hfresh HO HB hbase hl h
  rw [if_pos hw] at h2 ⊢
  exact h2
/-- So many records, one behind the other; f: what each process's last one had. -/
def block_Decode.go (k : Nat) (first : Int) : Nat → Nat → (Int → Int) → List S62 → List Int → Option (Option (List S62))
  | 0, _, _, l, _ => some (some l)
  | n + 1, i, f, l, rest => (block_record.f k rest).bind fun r => if r.2 = 0 then some none else
      (if 0 ≤ r.2 then (if r.2 ≤ rest.length then (if 0 ≤ r.1.f1 ∧ r.1.f1 < 4611686018427387904 then
        block_Decode.go k first n (i + 1) (Go.Proofs.YtgljebaiakhbfaaGreat.MapAid.upd f r.1.f1 (wrap64 (r.1.f2 + f r.1.f1))) (l ++ [⟨wrap64 (first + (i : Int)), r.1.f1, wrap64 (r.1.f2 + f r.1.f1), r.1.f3, r.1.f4⟩]) (rest.drop r.2.toNat)
      else none) else none) else none)
def block_Decode.fin (k : Nat) (l0 : List Int) : Option (List S62) → Option (List S62 × Int)
  | none => some ([], 3)
  | some l => (block_Encode.f k l).bind fun c => if c.2 = 0 then ((bytes_Equal.f c.1 l0).bind fun t => if t = true then some (l, 0) else some ([], 3)) else some ([], 3)
def block_Decode.f (k : Nat) (l0 : List Int) : Option (List S62 × Int) :=
  (num_Get.f k l0).bind fun p => (if 0 ≤ p.2 then (if p.2 ≤ l0.length then
  ((num_Get.f k (l0.drop p.2.toNat)).bind fun q => (if p.2 = 0 ∨ q.2 = 0 ∨ q.1 > 256 then some ([], 3) else (if 0 ≤ q.2 then (if p.2 + q.2 ≤ l0.length then
    ((block_Decode.go k p.1 q.1.toNat 0 (fun _ => 0) [] (l0.drop (p.2 + q.2).toNat)).bind fun o => block_Decode.fin k l0 o)
  else none) else none))) else none) else none)
set_option maxHeartbeats 8000000 in
set_option maxRecDepth 100000 in
theorem block_Decode.calls (k : Nat) (A0 : Option Addr) (c0 : Nat) (l0 : List Int) (r1 : List S62) (r2 : Int) (w : World) (hr0 : Kd.C (Kd.int .u8) w A0 l0.length l0) (hc0 : l0.length ≤ c0) (h : block_Decode.f k l0 = some (r1, r2)) :
    Calls Tryz.prog 133 #[.slice A0 l0.length c0] w fun e w' => ∃ v0_ : Value, e = .returned (.tuple #[v0_, .int .i64 r2]) ∧ Kd.R k62 62 w' w.heap.size (fun _ => True) v0_ r1 ∧ Below w.heap.size w w' := by
  have hmm := @run_makeMap Tryz.prog
  have hu62 := Tryz.underlying62
  have hu38 := Tryz.underlying38
  unfold block_Decode.f at h
  rw [Option.bind_eq_some_iff] at h
  obtain ⟨⟨p1, p2⟩, hp, h⟩ := h
  by_cases hp0 : 0 ≤ p2
  case neg => exact absurd h (by simp [hp0])
  by_cases hp1 : p2 ≤ l0.length
  case neg => exact absurd h (by simp [hp1])
  rw [if_pos hp0, if_pos hp1, Option.bind_eq_some_iff] at h
  obtain ⟨⟨q1, q2⟩, hq, h⟩ := h
  obtain ⟨l1, hl1⟩ : ∃ l1, l1 = l0.drop p2.toNat := ⟨_, rfl⟩
  simp only [← hl1] at hq h
  have hinf : (Tryz.prog.info? 5).map (fun i => (i.zero, i.size, i.bytes)) = some (some (.int .u8 0), 1, 1) := by kernel_rfl
  obtain ⟨ii, hii, _, hz1, _⟩ := info_parts hinf
  have hL := hr0.2.1
  obtain ⟨A1, hrun1, hread1, hlen1⟩ := print_cut_int (P := Tryz.prog) (k := .u8) 26 5 Tryz.underlying26 hii hz1 A0 c0 l0 p2 hp0 hp1 hc0
  rw [← hl1] at hrun1 hread1 hlen1
  have e0 := Kd.reads_of_C (enc := Value.int .u8) (d := (0 : Int)) (h1 := fun _ => rfl) hr0
  have e1 := hread1 w e0
  have HR0 := Aside0.mk hr0
  have HR1 := Aside0.mk (Kd.C_of_reads (enc := Value.int .u8) (d := (0 : Int)) (h1 := fun _ => rfl) e1)
  have HC0 := Aside0.mk hc0
  have HC1 := Aside0.mk hlen1
  have HP := Aside0.mk hp
  have HQ := Aside0.mk hq
  have hB0 := Below.refl w.heap.size w
  have HB := Aside0.mk hB0
  have HII := Aside0.mk hii
  have HZ1 := Aside0.mk hz1
  have E0 := Aside0.mk e0
  clear hinf hii hz1 hread1 hlen1 e0 e1 hr0 hc0 hp hq hl1 hB0
  by_cases z0 : p2 = 0
  · have t0 : (p2 == 0) = true := beq_iff_eq.mpr z0
    rw [if_pos (by omega)] at h
    clear z0
    go_enter Tryz.func133, Tryz.ntmps133
    have tokA_ : True := trivial
    have tokB_ : True := trivial
    go_wp2_with (first | (clear tokA_; go_at_call 132; refine (num_Get.calls k A0 c0 l0 p1 p2 _ HR0.out HC0.out HP.out).mono ?_; rintro e W1 ⟨rfl, hb⟩; have HB1 := Aside0.mk (below_step HB.out hb); clear hb) | (clear tokB_; go_at_call 132; refine (num_Get.calls k A1 (c0 - p2.toNat) l1 q1 q2 _ (Kd.C_below HR1.out HB1.out) HC1.out HQ.out).mono ?_; rintro e W2 ⟨rfl, hb⟩; have HB2 := Aside0.mk (below_step HB1.out hb); clear hb))
    simp only [Option.some.injEq, Prod.mk.injEq] at h
    obtain ⟨rfl, rfl⟩ := h
    go_ret2
    exact ⟨_, rfl, Kd.R_nil _ _ _ _ _, HB2.out⟩
  have t0 : (p2 == 0) = false := beq_eq_false_iff_ne.mpr z0
  by_cases z1 : q2 = 0
  · have t1 : (q2 == 0) = true := beq_iff_eq.mpr z1
    rw [if_pos (by omega)] at h
    clear z1
    go_enter Tryz.func133, Tryz.ntmps133
    have tokA_ : True := trivial
    have tokB_ : True := trivial
    go_wp2_with (first | (clear tokA_; go_at_call 132; refine (num_Get.calls k A0 c0 l0 p1 p2 _ HR0.out HC0.out HP.out).mono ?_; rintro e W1 ⟨rfl, hb⟩; have HB1 := Aside0.mk (below_step HB.out hb); clear hb) | (clear tokB_; go_at_call 132; refine (num_Get.calls k A1 (c0 - p2.toNat) l1 q1 q2 _ (Kd.C_below HR1.out HB1.out) HC1.out HQ.out).mono ?_; rintro e W2 ⟨rfl, hb⟩; have HB2 := Aside0.mk (below_step HB1.out hb); clear hb))
    simp only [Option.some.injEq, Prod.mk.injEq] at h
    obtain ⟨rfl, rfl⟩ := h
    go_ret2
    exact ⟨_, rfl, Kd.R_nil _ _ _ _ _, HB2.out⟩
  have t1 : (q2 == 0) = false := beq_eq_false_iff_ne.mpr z1
  by_cases z2 : q1 > 256
  · have t2 : decide (256 < q1) = true := decide_eq_true z2
    rw [if_pos (by omega)] at h
    clear z0 z1 z2
    go_enter Tryz.func133, Tryz.ntmps133
    have tokA_ : True := trivial
    have tokB_ : True := trivial
    go_wp2_with (first | (clear tokA_; go_at_call 132; refine (num_Get.calls k A0 c0 l0 p1 p2 _ HR0.out HC0.out HP.out).mono ?_; rintro e W1 ⟨rfl, hb⟩; have HB1 := Aside0.mk (below_step HB.out hb); clear hb) | (clear tokB_; go_at_call 132; refine (num_Get.calls k A1 (c0 - p2.toNat) l1 q1 q2 _ (Kd.C_below HR1.out HB1.out) HC1.out HQ.out).mono ?_; rintro e W2 ⟨rfl, hb⟩; have HB2 := Aside0.mk (below_step HB1.out hb); clear hb))
    simp only [Option.some.injEq, Prod.mk.injEq] at h
    obtain ⟨rfl, rfl⟩ := h
    go_ret2
    exact ⟨_, rfl, Kd.R_nil _ _ _ _ _, HB2.out⟩
  have t2 : decide (256 < q1) = false := decide_eq_false z2
  rw [if_neg (by omega)] at h
  by_cases hq0 : 0 ≤ q2
  case neg => exact absurd h (by simp [hq0])
  by_cases hq1 : p2 + q2 ≤ l0.length
  case neg => exact absurd h (by simp [hq1])
  rw [if_pos hq0, if_pos hq1, Option.bind_eq_some_iff] at h
  obtain ⟨o, hgo, hfin⟩ := h
  obtain ⟨l2, hl2⟩ : ∃ l2, l2 = l0.drop (p2 + q2).toNat := ⟨_, rfl⟩
  simp only [← hl2] at hgo
  obtain ⟨A2, hrun2, hread2, hlen2⟩ := print_cut_int (P := Tryz.prog) (k := .u8) 26 5 Tryz.underlying26 HII.out HZ1.out A0 c0 l0 (p2 + q2) (by omega) hq1 HC0.out
  rw [← hl2] at hrun2 hread2 hlen2
  have HR2 := Aside0.mk (Kd.C_of_reads (enc := Value.int .u8) (d := (0 : Int)) (h1 := fun _ => rfl) (hread2 w E0.out))
  have HC2 := Aside0.mk hlen2
  have HG := Aside0.mk hgo
  have HF := Aside0.mk hfin
  have hq256 : q1 ≤ 256 := by omega
  have HQ256 := Aside0.mk hq256
  have hsum1 : p2 + q2 ≤ 9223372036854775807 := by omega
  have hsum0 : -9223372036854775808 ≤ p2 + q2 := by omega
  have hws : wrap64 (p2 + q2) = p2 + q2 := by unfold wrap64; omega
  clear hl2 hread2 hlen2 hgo hfin z0 z1 z2 hL hp1 hq1 hq256
  go_enter Tryz.func133, Tryz.ntmps133
  have tokA_ : True := trivial
  have tokB_ : True := trivial
  go_wp2_with (first | (clear tokA_; go_at_call 132; refine (num_Get.calls k A0 c0 l0 p1 p2 _ HR0.out HC0.out HP.out).mono ?_; rintro e W1 ⟨rfl, hb⟩; have HB1 := Aside0.mk (below_step HB.out hb); clear hb) | (clear tokB_; go_at_call 132; refine (num_Get.calls k A1 (c0 - p2.toNat) l1 q1 q2 _ (Kd.C_below HR1.out HB1.out) HC1.out HQ.out).mono ?_; rintro e W2 ⟨rfl, hb⟩; have HB2 := Aside0.mk (below_step HB1.out hb); clear hb))
  clear hws hsum1 hsum0 hrun1 hrun2 t0 t1 t2 hmm
  have HM := Aside0.mk (Go.Proofs.YtgljebaiakhbfaaGreat.MapAid.IsM.made Tryz.prog 3 W2)
  have HMw := Aside0.mk (below_size HB2.out)
  have HBm := Aside0.mk (below_alloc HB2.out (.map #[] 0))
  obtain ⟨M, hM⟩ : ∃ M, M = W2.heap.size := ⟨_, rfl⟩
  rw [← hM] at HM HMw ⊢
  obtain ⟨Wm, hWm⟩ : ∃ Wm, Wm = W2.alloc (.map #[] 0) := ⟨_, rfl⟩
  rw [← hWm] at HM HBm ⊢
  clear hM hWm HB1 HB2 HB
  go_loopg [9, 10, 45] q1.toNat (fun kq v9 v10 v45 w' => ∃ (i : Nat) (f : Int → Int) (ys : List S62) (A : Option Addr) (c : Nat) (rest : List Int), v45 = .int .i64 i ∧ v10 = .slice A rest.length c ∧ Aside0 (i + kq = q1.toNat ∧ ys.length = i) ∧ Aside0 (block_Decode.go k p1 kq i f ys rest = some o) ∧ Aside0 (Kd.C (Kd.int .u8) w A rest.length rest) ∧ Aside0 (rest.length ≤ c) ∧ Aside0 (Kd.R k62 62 w' w.heap.size (fun _ => True) v9 ys) ∧ Aside0 (Go.Proofs.YtgljebaiakhbfaaGreat.MapAid.IsM Tryz.prog 3 w' M i f) ∧ Aside0 (Below w.heap.size w w'))
  case atStart => exact ⟨0, _, [], A2, _, l2, rfl, rfl, ⟨by omega, rfl⟩, HG, HR2, HC2, ⟨Kd.R_nil _ _ _ _ _⟩, HM, HBm⟩
  case round =>
    clear HG HR2 HC2 HM HBm
    obtain ⟨i, f, ys, A, c, rest, rfl, rfl, HI, HG, HR, HC, HO, HM, HB⟩ := hrel
    have hi := HI.out
    have hq256 := HQ256.out
    cases gk with
    | zero =>
      have c1 : decide ((i : Int) < q1) = false := decide_eq_false (by omega)
      have h := HG.out
      simp only [block_Decode.go, Option.some.injEq] at h
      subst h
      have h := HF.out
      simp only [block_Decode.fin] at h
      rw [Option.bind_eq_some_iff] at h
      obtain ⟨⟨cb, ce⟩, he, h⟩ := h
      have HE := Aside0.mk he
      obtain ⟨Ay, cy, ey⟩ := Kd.R_slice HO.out
      subst ey
      clear hi he HF HG HM hq256
      have tokC_ : True := trivial
      by_cases ze : ce = 0
      · subst ze
        rw [if_pos rfl, Option.bind_eq_some_iff] at h
        obtain ⟨t, ht, h⟩ := h
        have HT := Aside0.mk ht
        clear ht
        cases t with
        | false =>
          rw [if_neg (by decide)] at h
          simp only [Option.some.injEq, Prod.mk.injEq] at h
          obtain ⟨rfl, rfl⟩ := h
          have tok1_ : True := trivial
          go_wp2_with (first | (clear tokC_; go_at_call 88; refine (block_Encode.calls k Ay cy ys cb 0 _ (Kd.R_reads' HO.out).2.2 (Kd.R_reads' HO.out).2.1 HE.out).mono ?_; rintro e W8 ⟨v8, rfl, ho, hb⟩; have HO8 := Aside0.mk (Kd.R_below HO.out hb); have HC8 := Aside0.mk (Kd.R_lower ho (below_size HB.out)); have HB8 := Aside0.mk (below_step HB.out hb); clear ho hb; obtain ⟨Ac, cc, ec⟩ := Kd.R_slice HC8.out; subst ec) | (go_at_call 49; clear tok1_; refine (bytes_Equal.calls Ac cc cb A0 c0 l0 false _ (Kd.R_reads' HC8.out).2.2 (Kd.R_reads' HC8.out).2.1 (Kd.C_below HR0.out HB8.out) HC0.out HT.out).mono ?_; rintro e W9 ⟨rfl, ⟨nd, rfl⟩⟩))
          go_ret2
          exact ⟨_, rfl, Kd.R_nil _ _ _ _ _, pw_below_drewN HB8.out _⟩
        | true =>
          rw [if_pos rfl] at h
          simp only [Option.some.injEq, Prod.mk.injEq] at h
          obtain ⟨rfl, rfl⟩ := h
          have tok2_ : True := trivial
          go_wp2_with (first | (clear tokC_; go_at_call 88; refine (block_Encode.calls k Ay cy ys cb 0 _ (Kd.R_reads' HO.out).2.2 (Kd.R_reads' HO.out).2.1 HE.out).mono ?_; rintro e W8 ⟨v8, rfl, ho, hb⟩; have HO8 := Aside0.mk (Kd.R_below HO.out hb); have HC8 := Aside0.mk (Kd.R_lower ho (below_size HB.out)); have HB8 := Aside0.mk (below_step HB.out hb); clear ho hb; obtain ⟨Ac, cc, ec⟩ := Kd.R_slice HC8.out; subst ec) | (go_at_call 49; clear tok2_; refine (bytes_Equal.calls Ac cc cb A0 c0 l0 true _ (Kd.R_reads' HC8.out).2.2 (Kd.R_reads' HC8.out).2.1 (Kd.C_below HR0.out HB8.out) HC0.out HT.out).mono ?_; rintro e W9 ⟨rfl, ⟨nd, rfl⟩⟩))
          go_ret2
          exact ⟨_, rfl, Kd.R_drewN HO8.out _, pw_below_drewN HB8.out _⟩
      · rw [if_neg ze] at h
        have te : (ce != 0) = true := bne_iff_ne.mpr ze
        simp only [Option.some.injEq, Prod.mk.injEq] at h
        obtain ⟨rfl, rfl⟩ := h
        clear ze
        go_wp2_with (clear tokC_; go_at_call 88; refine (block_Encode.calls k Ay cy ys cb ce _ (Kd.R_reads' HO.out).2.2 (Kd.R_reads' HO.out).2.1 HE.out).mono ?_; rintro e W8 ⟨v8, rfl, ho, hb⟩; have HO8 := Aside0.mk (Kd.R_below HO.out hb); have HC8 := Aside0.mk (Kd.R_lower ho (below_size HB.out)); have HB8 := Aside0.mk (below_step HB.out hb); clear ho hb; obtain ⟨Ac, cc, ec⟩ := Kd.R_slice HC8.out; subst ec)
        go_ret2
        exact ⟨_, rfl, Kd.R_nil _ _ _ _ _, HB8.out⟩
    | succ n =>
      have c1 : decide ((i : Int) < q1) = true := decide_eq_true (by omega)
      have h := HG.out
      simp only [block_Decode.go] at h
      rw [Option.bind_eq_some_iff] at h
      obtain ⟨⟨x, sz⟩, hr, h⟩ := h
      have HRC := Aside0.mk hr
      clear hr HG hi hq256
      have tokD_ : True := trivial
      by_cases hz : sz = 0
      · have tz : (sz == 0) = true := beq_iff_eq.mpr hz
        rw [if_pos hz] at h
        simp only [Option.some.injEq] at h
        subst h
        have h := HF.out
        simp only [block_Decode.fin, Option.some.injEq, Prod.mk.injEq] at h
        obtain ⟨rfl, rfl⟩ := h
        clear hz HF
        go_wp2_with (first | (clear tokD_; go_at_call 157; refine (block_record.calls k A c rest x sz _ (Kd.C_below HR.out HB.out) HC.out HRC.out).mono ?_; rintro e W3 ⟨rfl, hb⟩; unfold block_record.cs; have HO3 := Aside0.mk (Kd.R_below HO.out hb); have HM3 := Aside0.mk (HM.out.below hb); have HB3 := Aside0.mk (below_step HB.out hb); clear hb HO HM HB) | ((with_reducible refine gate_dst (N := 12) rfl ?_); refine box_event ?hg (N := 12) ?hd (cs := #[.int .i64 0, .int .i64 0, .int .i64 0, .int .i64 0, .int .i64 0, .int .i64 0, .int .i64 0]) (t := 62) ?hr ?_; (case hd => rfl); (case hg => rfl); (case hr => first | (go_simp; done) | (go_simp; rfl)); intro G hg Wb hbox hb; have HOb := Aside0.mk (Kd.R_below (Kd.R_elderB HO3.out G (Nat.le_of_eq hg.symm)) hb); have HMb := Aside0.mk (HM3.out.below hb); have BKb := Aside0.mk hbox; have HBb := Aside0.mk (below_step HB3.out hb); have HGW := Aside0.mk (show w.heap.size ≤ G by rw [hg]; exact below_size HB3.out); clear hg hbox hb HO3 HM3 HB3; have zc0 := (blk_cell BKb.out 0).trans rfl; have zc1 := (blk_cell BKb.out 1).trans rfl; have zc2 := (blk_cell BKb.out 2).trans rfl; have zc3 := (blk_cell BKb.out 3).trans rfl; have zc4 := (blk_cell BKb.out 4).trans rfl; have zc5 := (blk_cell BKb.out 5).trans rfl; have zc6 := (blk_cell BKb.out 6).trans rfl; have zf0 := blk_frozen BKb.out 0; have zf1 := blk_frozen BKb.out 1; have zf2 := blk_frozen BKb.out 2; have zf3 := blk_frozen BKb.out 3; have zf4 := blk_frozen BKb.out 4; have zf5 := blk_frozen BKb.out 5; have zf6 := blk_frozen BKb.out 6))
        go_ret2
        exact ⟨_, rfl, Kd.R_nil _ _ _ _ _, block_Encode.st_below HBb.out HGW.out x⟩
      · have tz : (sz == 0) = false := beq_eq_false_iff_ne.mpr hz
        rw [if_neg hz] at h
        by_cases hz0 : 0 ≤ sz
        case neg => exact absurd h (by simp [hz0])
        by_cases hz1 : sz ≤ rest.length
        case neg => exact absurd h (by simp [hz1])
        by_cases hk : 0 ≤ x.f1 ∧ x.f1 < 4611686018427387904
        case neg => exact absurd h (by simp [hz0, hz1, hk])
        rw [if_pos hz0, if_pos hz1, if_pos hk] at h
        obtain ⟨rest', hrest'⟩ : ∃ rest', rest' = rest.drop sz.toNat := ⟨_, rfl⟩
        obtain ⟨ys', hys'⟩ : ∃ ys' : List S62, ys' = ys ++ [⟨wrap64 (p1 + (i : Int)), x.f1, wrap64 (x.f2 + f x.f1), x.f3, x.f4⟩] := ⟨_, rfl⟩
        simp only [← hrest', ← hys'] at h
        obtain ⟨A', hrun', hread', hlen'⟩ := print_cut_int (P := Tryz.prog) (k := .u8) 26 5 Tryz.underlying26 HII.out HZ1.out A c rest sz hz0 hz1 HC.out
        rw [← hrest'] at hrun' hread' hlen'
        have HR' := Aside0.mk (Kd.C_of_reads (enc := Value.int .u8) (d := (0 : Int)) (h1 := fun _ => rfl) (hread' w (Kd.reads_of_C (enc := Value.int .u8) (d := (0 : Int)) (h1 := fun _ => rfl) HR.out)))
        have HC' := Aside0.mk hlen'
        have HG5 := Aside0.mk h
        have NY := Aside0.mk hys'
        have HW1 := Aside0.mk (block_Encode.wf_of (n := x.f1) (by omega) (by omega))
        clear h hz hz1 hk hrest' hys' hread' hlen' 
        go_upto_region 15 with (first | (clear tokD_; go_at_call 157; refine (block_record.calls k A c rest x sz _ (Kd.C_below HR.out HB.out) HC.out HRC.out).mono ?_; rintro e W3 ⟨rfl, hb⟩; unfold block_record.cs; have HO3 := Aside0.mk (Kd.R_below HO.out hb); have HM3 := Aside0.mk (HM.out.below hb); have HB3 := Aside0.mk (below_step HB.out hb); clear hb HO HM HB) | ((with_reducible refine gate_dst (N := 12) rfl ?_); refine box_event ?hg (N := 12) ?hd (cs := #[.int .i64 0, .int .i64 0, .int .i64 0, .int .i64 0, .int .i64 0, .int .i64 0, .int .i64 0]) (t := 62) ?hr ?_; (case hd => rfl); (case hg => rfl); (case hr => first | (go_simp; done) | (go_simp; rfl)); intro G hg Wb hbox hb; have HOb := Aside0.mk (Kd.R_below (Kd.R_elderB HO3.out G (Nat.le_of_eq hg.symm)) hb); have HMb := Aside0.mk (HM3.out.below hb); have BKb := Aside0.mk hbox; have HBb := Aside0.mk (below_step HB3.out hb); have HGW := Aside0.mk (show w.heap.size ≤ G by rw [hg]; exact below_size HB3.out); clear hg hbox hb HO3 HM3 HB3; have zc0 := (blk_cell BKb.out 0).trans rfl; have zc1 := (blk_cell BKb.out 1).trans rfl; have zc2 := (blk_cell BKb.out 2).trans rfl; have zc3 := (blk_cell BKb.out 3).trans rfl; have zc4 := (blk_cell BKb.out 4).trans rfl; have zc5 := (blk_cell BKb.out 5).trans rfl; have zc6 := (blk_cell BKb.out 6).trans rfl; have zf0 := blk_frozen BKb.out 0; have zf1 := blk_frozen BKb.out 1; have zf2 := blk_frozen BKb.out 2; have zf3 := blk_frozen BKb.out 3; have zf4 := blk_frozen BKb.out 4; have zf5 := blk_frozen BKb.out 5; have zf6 := blk_frozen BKb.out 6))
        (try simp only [Act.put, List.setIfInBounds_toArray, List.set_cons_zero, List.set_cons_succ])
        obtain ⟨Ws, hw⟩ : ∃ Ws, Ws = (block_Encode.st Wb G x).setCell ⟨G, 0, none⟩ (.int .i64 (wrap64 (p1 + (i : Int)))) := ⟨_, rfl⟩
        show Code.wp _ _ _ _ ((block_Encode.st Wb G x).setCell ⟨G, 0, none⟩ (.int .i64 (wrap64 (p1 + (i : Int)))))
        rw [← hw]
        have NMG := Aside0.mk (HMb.out.ne BKb.out)
        have HOs := Aside0.mk (show Kd.R k62 62 Ws w.heap.size (fun k_ => True ∧ k_ ≠ G) u9 ys by rw [hw]; exact Kd.R_far (p := ⟨G, 0, none⟩) (Kd.R_step HOb.out (fun j hj _ => block_Encode.st_far Wb hj.2 x)) (fun _ hk => hk.2) _)
        have HMs := Aside0.mk (show Go.Proofs.YtgljebaiakhbfaaGreat.MapAid.IsM Tryz.prog 3 Ws M i f by rw [hw]; exact (HMb.out.move (block_Encode.st_far Wb NMG.out x)).far (p := ⟨G, 0, none⟩) NMG.out _)
        have BKs := Aside0.mk (show Ws.heap[G]? = some (.cells #[.int .i64 (wrap64 (p1 + (i : Int))), .int .i64 x.f1, .int .i64 x.f2, .int .i64 x.f3.f0, .int .i64 x.f3.f1, .int .i64 x.f3.f2, .int .i64 x.f4] 62 (0, 0)) by rw [hw]; exact blk_put (block_Encode.st_heap BKb.out x) 0 _ rfl)
        have HBs := Aside0.mk (show Below w.heap.size w Ws by rw [hw]; exact below_set (block_Encode.st_below HBb.out HGW.out x) HGW.out)
        clear hw HOb HMb BKb HBb zc0 zc1 zc2 zc3 zc4 zc5 zc6 zf0 zf1 zf2 zf3 zf4 zf5 zf6
        have hlk := (HMs.out.lookup (x := x.f1) Tryz.underlying3 Tryz.underlying185 (by kernel_rfl) HW1.out).1
        have sc0 : Ws.cell? ⟨G, 0, none⟩ = some (.int .i64 (wrap64 (p1 + (i : Int)))) := (blk_cell BKs.out 0).trans rfl
        have sc1 : Ws.cell? ⟨G, 1, none⟩ = some (.int .i64 x.f1) := (blk_cell BKs.out 1).trans rfl
        have sc2 : Ws.cell? ⟨G, 2, none⟩ = some (.int .i64 x.f2) := (blk_cell BKs.out 2).trans rfl
        have sc3 : Ws.cell? ⟨G, 3, none⟩ = some (.int .i64 x.f3.f0) := (blk_cell BKs.out 3).trans rfl
        have sc4 : Ws.cell? ⟨G, 4, none⟩ = some (.int .i64 x.f3.f1) := (blk_cell BKs.out 4).trans rfl
        have sc5 : Ws.cell? ⟨G, 5, none⟩ = some (.int .i64 x.f3.f2) := (blk_cell BKs.out 5).trans rfl
        have sc6 : Ws.cell? ⟨G, 6, none⟩ = some (.int .i64 x.f4) := (blk_cell BKs.out 6).trans rfl
        have sf2 := blk_frozen BKs.out 2
        go_wp2_with (at_mapUpdate; refine Go.Proofs.YtgljebaiakhbfaaGreat.MapAid.wpList_mapUpdate_is rfl _ _ _ 185 rfl (HMs.out.far (p := ⟨G, 2, none⟩) NMG.out (.int .i64 (wrap64 (x.f2 + f x.f1)))) Tryz.underlying3 Tryz.underlying185 (by unfold maxLen; have := HI.out; have := HQ256.out; omega) rfl rfl rfl HW1.out (wrap64_wf _) ?_; intro W7 hm hg
                     have HO7 := Aside0.mk (Kd.R_mono (Kd.R_grown ((HMs.out.far (p := ⟨G, 2, none⟩) NMG.out (.int .i64 (wrap64 (x.f2 + f x.f1)))).row (Kd.R_far (p := ⟨G, 2, none⟩) HOs.out (fun _ hk => hk.2) (.int .i64 (wrap64 (x.f2 + f x.f1))))) hg (fun j hj e => hj.2 (Option.some.inj e))) (ok' := fun k_ => True ∧ k_ ≠ G) (fun _ hk => hk.1))
                     have BK7 := Aside0.mk (blk_grown (blk_put BKs.out 2 (.int .i64 (wrap64 (x.f2 + f x.f1))) rfl) hg (fun e => NMG.out (Option.some.inj e).symm))
                     have HB7 := Aside0.mk (Below.grown (below_set HBs.out HGW.out) hg (below_size (below_set HBs.out HGW.out)) (fun j hj => by cases hj; exact HMw.out))
                     have HM7 := Aside0.mk hm
                     clear hm hg hlk sc0 sc1 sc2 sc3 sc4 sc5 sc6 sf2 HOs HMs BKs HBs)
        have vc0 : W7.cell? ⟨G, 0, none⟩ = some (.int .i64 (wrap64 (p1 + (i : Int)))) := (blk_cell BK7.out 0).trans rfl
        have vc1 : W7.cell? ⟨G, 1, none⟩ = some (.int .i64 x.f1) := (blk_cell BK7.out 1).trans rfl
        have vc2 : W7.cell? ⟨G, 2, none⟩ = some (.int .i64 (wrap64 (x.f2 + f x.f1))) := (blk_cell BK7.out 2).trans rfl
        have vc3 : W7.cell? ⟨G, 3, none⟩ = some (.int .i64 x.f3.f0) := (blk_cell BK7.out 3).trans rfl
        have vc4 : W7.cell? ⟨G, 4, none⟩ = some (.int .i64 x.f3.f1) := (blk_cell BK7.out 4).trans rfl
        have vc5 : W7.cell? ⟨G, 5, none⟩ = some (.int .i64 x.f3.f2) := (blk_cell BK7.out 5).trans rfl
        have vc6 : W7.cell? ⟨G, 6, none⟩ = some (.int .i64 x.f4) := (blk_cell BK7.out 6).trans rfl
        go_region_law (first
          | (refine block_Decode.append_law k62 (w0 := w) (W := W7.drew) w.heap.size rfl (.tmp 72) (.tmp 74) 22 62 (.agg #[.int .i64 0, .int .i64 0, .int .i64 0, .int .i64 0, .int .i64 0, .int .i64 0, .int .i64 0]) 56 rfl Tryz.underlying22 info62 rfl (by decide) (by omega) u9 ys ⟨wrap64 (p1 + (i : Int)), x.f1, wrap64 (x.f2 + f x.f1), x.f3, x.f4⟩ [.int .i64 (wrap64 (p1 + (i : Int))), .int .i64 x.f1, .int .i64 (wrap64 (x.f2 + f x.f1)), .int .i64 x.f3.f0, .int .i64 x.f3.f1, .int .i64 x.f3.f2, .int .i64 x.f4] (fun k_ => True ∧ k_ ≠ G) (fun _ => False) rfl rfl (k62_mkM _ _ _ _) (fun _ hk => hk.elim) (fun k_ hk => ⟨trivial, Kd.freshB BK7.out k_ hk⟩) (Kd.R_drew HO7.out) (below_drew1 HB7.out) (below_size (below_drew1 HB7.out)) (by have := HI.out; have := HQ256.out; omega) ?_
             intro v8 W8 ho hb hg hat
             rw [← NY.out] at ho
             have HM8 := Aside0.mk ((HM7.out.drew).move (w1 := W8) (hg.block M HM7.out.drew.lt (HM7.out.drew.ne_own (Kd.R_drew HO7.out))))
             have HO8 := Aside0.mk (Kd.R_mono (ok' := fun _ => True) ho (fun _ _ => trivial))
             have HB8 := Aside0.mk hb
             clear ho hb hg hat))
        all_goals
          go_wp2
          go_roundg n
          case measure => omega
          case rel =>
            have hi := HI.out
            have hq256 := HQ256.out
            exact ⟨i + 1, _, ys', A', _, rest', (by first | rfl | (rw [show wrap64 ((i : Int) + 1) = ((i + 1 : Nat) : Int) by unfold wrap64; omega]) | go_num), rfl, ⟨by omega, by rw [NY.out, List.length_append]; simp; omega⟩, HG5, HR', HC', HO8, HM8, HB8⟩
/-! ### segment_fit: function 16 -/
def segment_fit.l0 : Nat → List (S62) → Int → List (S62) → Int → Int → Option (Bool)
  | 0, _, _, _, _, _ => none
  | k + 1, x0, x1, x7, x8, x9 => if x9 < x8 then (if 0 ≤ x9 then (if x9 < (x7.length : Int) then ((schema_Fits.f ((rd_T62 x7 x9).f0) ((rd_T62 x7 x9).f1) ((rd_T62 x7 x9).f2) ((rd_T62 x7 x9).f3.f0) ((rd_T62 x7 x9).f3.f1) ((rd_T62 x7 x9).f3.f2) ((rd_T62 x7 x9).f4)).bind fun t419 => (if t419 = true then (if ((rd_T62 x7 x9).f0) = (wrap64 (x1 + x9)) then (segment_fit.l0 k x0 x1 x7 x8 (wrap64 (x9 + 1))) else (some false)) else (some false))) else (none)) else (none)) else (some (decide ((x0.length : Int) ≤ 4096)))
def segment_fit.f (k : Nat) (l0 : List (S62)) (a1 : Int) : Option (Bool) := segment_fit.l0 k l0 a1 l0 (l0.length : Int) 0
set_option maxHeartbeats 8000000 in
set_option maxRecDepth 100000 in
theorem segment_fit.calls (k : Nat) (A0 : Option Addr) (c0 : Nat) (l0 : List (S62)) (a1 : Int) (r : Bool) (w : World) (hr0 : Kd.C k62 w A0 l0.length l0) (hc0 : l0.length ≤ c0) (h : segment_fit.f k l0 a1 = some r) :
    Calls Tryz.prog 16 #[.slice A0 l0.length c0, .int .i64 a1] w fun e w' => e = .returned (.bool r) ∧ Below w.heap.size w w' := by
  have hu62 := Tryz.underlying62
  have HR0 := Aside0.mk hr0
  have HC0 := Aside0.mk hc0
  clear hr0 hc0
  have HB := Aside0.mk (Below.refl w.heap.size w)
  have H : (segment_fit.l0 k l0 a1 l0 (l0.length : Int) 0) = some r := h
  clear h
  have H' := Aside0.mk H
  clear H
  go_enter Tryz.func16, Tryz.ntmps16
  go_wp2
  go_loopg [9] k (fun kq v9 w' => ∃ (x9_1 : Int), v9 = .int .i64 x9_1 ∧ Aside0 (segment_fit.l0 kq l0 a1 l0 (l0.length : Int) x9_1 = some r) ∧ Aside0 (kq ≤ k) ∧ Aside0 (Below w.heap.size w w'))
  case atStart => exact ⟨(0), (by first | rfl | (simp; done) | (simp [*]; done)), H', ⟨Nat.le_refl _⟩, ⟨by repeat (first | (with_reducible first | exact HB.out | apply below_alloc | apply pw_below_drewN | apply below_drew1) | exact HB.out)⟩⟩
  case round =>
    clear H'
    try clear c1
    try clear p2
    obtain ⟨x9_1, rfl, HA, HK1, HB⟩ := hrel
    cases gk with
    | zero => exact absurd HA.out (by simp [segment_fit.l0])
    | succ k1 =>
      have H := HA.out
      clear HA
      simp only [segment_fit.l0] at H
      by_cases c3 : x9_1 < (l0.length : Int)
      · rw [if_pos c3] at H
        have c3b0 : decide (x9_1 < (l0.length : Int)) = true := decide_eq_true c3
        clear c3
        by_cases c4 : 0 ≤ x9_1
        · rw [if_pos c4] at H
          have c4b0 : decide (0 ≤ x9_1) = true := decide_eq_true c4
          clear c4
          by_cases c5 : x9_1 < (l0.length : Int)
          · rw [if_pos c5] at H
            have c5b0 : decide (x9_1 < (l0.length : Int)) = true := decide_eq_true c5
            clear c5
            replace H := Option.bind_eq_some_iff.mp H
            obtain ⟨t419, A60, H⟩ := H
            replace H : (if t419 = true then (if ((rd_T62 l0 x9_1).f0) = (wrap64 (a1 + x9_1)) then (segment_fit.l0 k1 l0 a1 l0 (l0.length : Int) (wrap64 (x9_1 + 1))) else (some false)) else (some false)) = some r := H
            have A6 := Aside0.mk A60
            clear A60
            by_cases c7 : t419 = true
            · subst c7
              have H1 : (if ((rd_T62 l0 x9_1).f0) = (wrap64 (a1 + x9_1)) then (segment_fit.l0 k1 l0 a1 l0 (l0.length : Int) (wrap64 (x9_1 + 1))) else (some false)) = some r := by rw [if_pos rfl] at H; exact H
              clear H
              have H := H1
              clear H1
              by_cases c8 : ((rd_T62 l0 x9_1).f0) = (wrap64 (a1 + x9_1))
              · rw [if_pos c8] at H
                have c8b0 : (((rd_T62 l0 x9_1).f0) == (wrap64 (a1 + x9_1))) = true := beq_iff_eq.mpr c8
                have c8b1 : (((rd_T62 l0 x9_1).f0) != (wrap64 (a1 + x9_1))) = false := bne_eq_false_iff_eq.mpr c8
                clear c8
                have H' := Aside0.mk H
                clear H
                have p417 : 0 ≤ (x9_1 : Int) := of_decide_eq_true (by first | (with_reducible assumption) | assumption)
                have q417 : x9_1 < (l0.length : Int) := of_decide_eq_true (by first | (with_reducible assumption) | assumption)
                obtain ⟨ad417, e417, hx417_0, hx417_1, hx417_2, hx417_3, hx417_4, hx417_5, hx417_6⟩ := at_T62 HR0.out x9_1 p417 q417
                cases e417
                replace hx417_0 := (HB.out.cell (World.block_lt_of_cell? w _ hx417_0)).trans hx417_0
                replace hx417_1 := (HB.out.cell (World.block_lt_of_cell? w _ hx417_1)).trans hx417_1
                replace hx417_2 := (HB.out.cell (World.block_lt_of_cell? w _ hx417_2)).trans hx417_2
                replace hx417_3 := (HB.out.cell (World.block_lt_of_cell? w _ hx417_3)).trans hx417_3
                replace hx417_4 := (HB.out.cell (World.block_lt_of_cell? w _ hx417_4)).trans hx417_4
                replace hx417_5 := (HB.out.cell (World.block_lt_of_cell? w _ hx417_5)).trans hx417_5
                replace hx417_6 := (HB.out.cell (World.block_lt_of_cell? w _ hx417_6)).trans hx417_6
                replace p417 := eq_true p417
                replace q417 := eq_true q417
                have tok3_ : True := trivial
                go_wp2_with (first | ((with_reducible refine gate_dst (N := 6) rfl ?_); refine box_event ?hg (N := 6) ?hd (cs := #[.int .i64 0, .int .i64 0, .int .i64 0, .int .i64 0, .int .i64 0, .int .i64 0, .int .i64 0]) (t := 62) ?hr ?_; (case hd => rfl); (case hg => rfl); (case hr => first | (go_simp; done) | (go_simp; rfl)); intro gb418 hg w9 hbox hb; have n0_ := Aside0.mk (below_step (by repeat (first | (with_reducible first | exact HB.out | apply below_alloc | apply pw_below_drewN | apply below_drew1) | exact HB.out)) hb); have n1_ := Aside0.mk (hbox); have n2_ := Aside0.mk ((by rw [hg]; exact (below_size (by repeat (first | (with_reducible first | exact HB.out | apply below_alloc | apply pw_below_drewN | apply below_drew1) | exact HB.out))) : w.heap.size ≤ gb418)); have n3_ := Aside0.mk ((by rw [hg]; exact (below_size (by repeat (first | (with_reducible first | exact HB.out | apply below_alloc | apply pw_below_drewN | apply below_drew1) | exact HB.out))) : w.heap.size ≤ gb418)); clear HB; have HB := n0_; have BK418 := n1_; have GW418 := n2_; have GE418 := n3_; clear n0_ n1_ n2_ n3_; clear hb hbox hg; have hcz10_0 : w9.cell? ⟨gb418, 0, none⟩ = some (.int .i64 0) := (blk_cell BK418.out 0).trans rfl; have hcz10_1 : w9.cell? ⟨gb418, 1, none⟩ = some (.int .i64 0) := (blk_cell BK418.out 1).trans rfl; have hcz10_2 : w9.cell? ⟨gb418, 2, none⟩ = some (.int .i64 0) := (blk_cell BK418.out 2).trans rfl; have hcz10_3 : w9.cell? ⟨gb418, 3, none⟩ = some (.int .i64 0) := (blk_cell BK418.out 3).trans rfl; have hcz10_4 : w9.cell? ⟨gb418, 4, none⟩ = some (.int .i64 0) := (blk_cell BK418.out 4).trans rfl; have hcz10_5 : w9.cell? ⟨gb418, 5, none⟩ = some (.int .i64 0) := (blk_cell BK418.out 5).trans rfl; have hcz10_6 : w9.cell? ⟨gb418, 6, none⟩ = some (.int .i64 0) := (blk_cell BK418.out 6).trans rfl; have hfz10_0 := blk_frozen BK418.out 0; have hfz10_1 := blk_frozen BK418.out 1; have hfz10_2 := blk_frozen BK418.out 2; have hfz10_3 := blk_frozen BK418.out 3; have hfz10_4 := blk_frozen BK418.out 4; have hfz10_5 := blk_frozen BK418.out 5; have hfz10_6 := blk_frozen BK418.out 6) | ((with_reducible refine gate_callee (f := 43) rfl ?_); clear tok3_; refine goesL_ (some 15) rfl rfl Tryz.func43 (by kernel_rfl) rfl #[.agg #[.int .i64 ((rd_T62 l0 x9_1).f0), .int .i64 ((rd_T62 l0 x9_1).f1), .int .i64 ((rd_T62 l0 x9_1).f2), .int .i64 ((rd_T62 l0 x9_1).f3.f0), .int .i64 ((rd_T62 l0 x9_1).f3.f1), .int .i64 ((rd_T62 l0 x9_1).f3.f2), .int .i64 ((rd_T62 l0 x9_1).f4)]] rfl (by (try simp only [List.map_toArray, List.map_cons, List.map_nil]); first | done | rfl | (simp only [List.length_drop, List.length_take]; rfl)) ?_; (with_reducible refine (schema_Fits.calls ((rd_T62 l0 x9_1).f0) ((rd_T62 l0 x9_1).f1) ((rd_T62 l0 x9_1).f2) ((rd_T62 l0 x9_1).f3.f0) ((rd_T62 l0 x9_1).f3.f1) ((rd_T62 l0 x9_1).f3.f2) ((rd_T62 l0 x9_1).f4) true _ A6.out).mono ?_); rintro e w11 ⟨rfl, hb⟩; refine ⟨_, rfl, ?_⟩; have n0_ := Aside0.mk (blk_below (g := gb418) (o := .cells #[.int .i64 ((rd_T62 l0 x9_1).f0), .int .i64 ((rd_T62 l0 x9_1).f1), .int .i64 ((rd_T62 l0 x9_1).f2), .int .i64 ((rd_T62 l0 x9_1).f3.f0), .int .i64 ((rd_T62 l0 x9_1).f3.f1), .int .i64 ((rd_T62 l0 x9_1).f3.f2), .int .i64 ((rd_T62 l0 x9_1).f4)] 62 (0, 0)) (by (with_reducible repeat (first | refine blk_drewN ?_ _ | refine blk_drew ?_ | refine blk_alloc ?_ _)); refine blk_put (cs := #[.int .i64 ((rd_T62 l0 x9_1).f0), .int .i64 ((rd_T62 l0 x9_1).f1), .int .i64 ((rd_T62 l0 x9_1).f2), .int .i64 ((rd_T62 l0 x9_1).f3.f0), .int .i64 ((rd_T62 l0 x9_1).f3.f1), .int .i64 ((rd_T62 l0 x9_1).f3.f2), .int .i64 0]) ?_ 6 _ (by first | rfl | (simp only [gt_iff_lt, *]; rfl) | (simp [*]; done)); (with_reducible repeat (first | refine blk_drewN ?_ _ | refine blk_drew ?_ | refine blk_alloc ?_ _)); refine blk_put (cs := #[.int .i64 ((rd_T62 l0 x9_1).f0), .int .i64 ((rd_T62 l0 x9_1).f1), .int .i64 ((rd_T62 l0 x9_1).f2), .int .i64 ((rd_T62 l0 x9_1).f3.f0), .int .i64 ((rd_T62 l0 x9_1).f3.f1), .int .i64 0, .int .i64 0]) ?_ 5 _ (by first | rfl | (simp only [gt_iff_lt, *]; rfl) | (simp [*]; done)); (with_reducible repeat (first | refine blk_drewN ?_ _ | refine blk_drew ?_ | refine blk_alloc ?_ _)); refine blk_put (cs := #[.int .i64 ((rd_T62 l0 x9_1).f0), .int .i64 ((rd_T62 l0 x9_1).f1), .int .i64 ((rd_T62 l0 x9_1).f2), .int .i64 ((rd_T62 l0 x9_1).f3.f0), .int .i64 0, .int .i64 0, .int .i64 0]) ?_ 4 _ (by first | rfl | (simp only [gt_iff_lt, *]; rfl) | (simp [*]; done)); (with_reducible repeat (first | refine blk_drewN ?_ _ | refine blk_drew ?_ | refine blk_alloc ?_ _)); refine blk_put (cs := #[.int .i64 ((rd_T62 l0 x9_1).f0), .int .i64 ((rd_T62 l0 x9_1).f1), .int .i64 ((rd_T62 l0 x9_1).f2), .int .i64 0, .int .i64 0, .int .i64 0, .int .i64 0]) ?_ 3 _ (by first | rfl | (simp only [gt_iff_lt, *]; rfl) | (simp [*]; done)); (with_reducible repeat (first | refine blk_drewN ?_ _ | refine blk_drew ?_ | refine blk_alloc ?_ _)); refine blk_put (cs := #[.int .i64 ((rd_T62 l0 x9_1).f0), .int .i64 ((rd_T62 l0 x9_1).f1), .int .i64 0, .int .i64 0, .int .i64 0, .int .i64 0, .int .i64 0]) ?_ 2 _ (by first | rfl | (simp only [gt_iff_lt, *]; rfl) | (simp [*]; done)); (with_reducible repeat (first | refine blk_drewN ?_ _ | refine blk_drew ?_ | refine blk_alloc ?_ _)); refine blk_put (cs := #[.int .i64 ((rd_T62 l0 x9_1).f0), .int .i64 0, .int .i64 0, .int .i64 0, .int .i64 0, .int .i64 0, .int .i64 0]) ?_ 1 _ (by first | rfl | (simp only [gt_iff_lt, *]; rfl) | (simp [*]; done)); (with_reducible repeat (first | refine blk_drewN ?_ _ | refine blk_drew ?_ | refine blk_alloc ?_ _)); refine blk_put (cs := #[.int .i64 0, .int .i64 0, .int .i64 0, .int .i64 0, .int .i64 0, .int .i64 0, .int .i64 0]) ?_ 0 _ (by first | rfl | (simp only [gt_iff_lt, *]; rfl) | (simp [*]; done)); (with_reducible repeat (first | refine blk_drewN ?_ _ | refine blk_drew ?_ | refine blk_alloc ?_ _)); exact BK418.out) hb); have n1_ := Aside0.mk (below_step (by repeat (first | (with_reducible first | exact HB.out | apply below_alloc | apply pw_below_drewN | apply below_drew1 | refine below_set ?_ GE418.out) | exact HB.out)) hb); clear BK418; clear HB; have BK418 := n0_; have HB := n1_; clear n0_ n1_; (try clear hb); (try clear hb2); (try clear hk); (try clear hi); have hcz12_0 : w11.cell? ⟨gb418, 0, none⟩ = some (.int .i64 ((rd_T62 l0 x9_1).f0)) := (blk_cell BK418.out 0).trans rfl; have hcz12_1 : w11.cell? ⟨gb418, 1, none⟩ = some (.int .i64 ((rd_T62 l0 x9_1).f1)) := (blk_cell BK418.out 1).trans rfl; have hcz12_2 : w11.cell? ⟨gb418, 2, none⟩ = some (.int .i64 ((rd_T62 l0 x9_1).f2)) := (blk_cell BK418.out 2).trans rfl; have hcz12_3 : w11.cell? ⟨gb418, 3, none⟩ = some (.int .i64 ((rd_T62 l0 x9_1).f3.f0)) := (blk_cell BK418.out 3).trans rfl; have hcz12_4 : w11.cell? ⟨gb418, 4, none⟩ = some (.int .i64 ((rd_T62 l0 x9_1).f3.f1)) := (blk_cell BK418.out 4).trans rfl; have hcz12_5 : w11.cell? ⟨gb418, 5, none⟩ = some (.int .i64 ((rd_T62 l0 x9_1).f3.f2)) := (blk_cell BK418.out 5).trans rfl; have hcz12_6 : w11.cell? ⟨gb418, 6, none⟩ = some (.int .i64 ((rd_T62 l0 x9_1).f4)) := (blk_cell BK418.out 6).trans rfl; have hfz12_0 := blk_frozen BK418.out 0; have hfz12_1 := blk_frozen BK418.out 1; have hfz12_2 := blk_frozen BK418.out 2; have hfz12_3 := blk_frozen BK418.out 3; have hfz12_4 := blk_frozen BK418.out 4; have hfz12_5 := blk_frozen BK418.out 5; have hfz12_6 := blk_frozen BK418.out 6))
                go_roundg k1
                case measure => have := HK1.out; omega
                case rel => exact ⟨(wrap64 (x9_1 + 1)), (by first | rfl | (simp; done) | (simp [*]; done)), H', ⟨by have := HK1.out; omega⟩, ⟨by repeat (first | (with_reducible first | exact HB.out | apply below_alloc | apply pw_below_drewN | apply below_drew1 | refine below_set ?_ GE418.out) | exact HB.out)⟩⟩
              · rw [if_neg c8] at H
                have c8b0 : (((rd_T62 l0 x9_1).f0) == (wrap64 (a1 + x9_1))) = false := beq_eq_false_iff_ne.mpr c8
                have c8b1 : (((rd_T62 l0 x9_1).f0) != (wrap64 (a1 + x9_1))) = true := bne_iff_ne.mpr c8
                obtain rfl := Option.some.inj H
                have p417 : 0 ≤ (x9_1 : Int) := of_decide_eq_true (by first | (with_reducible assumption) | assumption)
                have q417 : x9_1 < (l0.length : Int) := of_decide_eq_true (by first | (with_reducible assumption) | assumption)
                obtain ⟨ad417, e417, hx417_0, hx417_1, hx417_2, hx417_3, hx417_4, hx417_5, hx417_6⟩ := at_T62 HR0.out x9_1 p417 q417
                cases e417
                replace hx417_0 := (HB.out.cell (World.block_lt_of_cell? w _ hx417_0)).trans hx417_0
                replace hx417_1 := (HB.out.cell (World.block_lt_of_cell? w _ hx417_1)).trans hx417_1
                replace hx417_2 := (HB.out.cell (World.block_lt_of_cell? w _ hx417_2)).trans hx417_2
                replace hx417_3 := (HB.out.cell (World.block_lt_of_cell? w _ hx417_3)).trans hx417_3
                replace hx417_4 := (HB.out.cell (World.block_lt_of_cell? w _ hx417_4)).trans hx417_4
                replace hx417_5 := (HB.out.cell (World.block_lt_of_cell? w _ hx417_5)).trans hx417_5
                replace hx417_6 := (HB.out.cell (World.block_lt_of_cell? w _ hx417_6)).trans hx417_6
                replace p417 := eq_true p417
                replace q417 := eq_true q417
                have tok4_ : True := trivial
                go_wp2_with (first | ((with_reducible refine gate_dst (N := 6) rfl ?_); refine box_event ?hg (N := 6) ?hd (cs := #[.int .i64 0, .int .i64 0, .int .i64 0, .int .i64 0, .int .i64 0, .int .i64 0, .int .i64 0]) (t := 62) ?hr ?_; (case hd => rfl); (case hg => rfl); (case hr => first | (go_simp; done) | (go_simp; rfl)); intro gb418 hg w13 hbox hb; have n0_ := Aside0.mk (below_step (by repeat (first | (with_reducible first | exact HB.out | apply below_alloc | apply pw_below_drewN | apply below_drew1) | exact HB.out)) hb); have n1_ := Aside0.mk (hbox); have n2_ := Aside0.mk ((by rw [hg]; exact (below_size (by repeat (first | (with_reducible first | exact HB.out | apply below_alloc | apply pw_below_drewN | apply below_drew1) | exact HB.out))) : w.heap.size ≤ gb418)); have n3_ := Aside0.mk ((by rw [hg]; exact (below_size (by repeat (first | (with_reducible first | exact HB.out | apply below_alloc | apply pw_below_drewN | apply below_drew1) | exact HB.out))) : w.heap.size ≤ gb418)); clear HB; have HB := n0_; have BK418 := n1_; have GW418 := n2_; have GE418 := n3_; clear n0_ n1_ n2_ n3_; clear hb hbox hg; have hcz14_0 : w13.cell? ⟨gb418, 0, none⟩ = some (.int .i64 0) := (blk_cell BK418.out 0).trans rfl; have hcz14_1 : w13.cell? ⟨gb418, 1, none⟩ = some (.int .i64 0) := (blk_cell BK418.out 1).trans rfl; have hcz14_2 : w13.cell? ⟨gb418, 2, none⟩ = some (.int .i64 0) := (blk_cell BK418.out 2).trans rfl; have hcz14_3 : w13.cell? ⟨gb418, 3, none⟩ = some (.int .i64 0) := (blk_cell BK418.out 3).trans rfl; have hcz14_4 : w13.cell? ⟨gb418, 4, none⟩ = some (.int .i64 0) := (blk_cell BK418.out 4).trans rfl; have hcz14_5 : w13.cell? ⟨gb418, 5, none⟩ = some (.int .i64 0) := (blk_cell BK418.out 5).trans rfl; have hcz14_6 : w13.cell? ⟨gb418, 6, none⟩ = some (.int .i64 0) := (blk_cell BK418.out 6).trans rfl; have hfz14_0 := blk_frozen BK418.out 0; have hfz14_1 := blk_frozen BK418.out 1; have hfz14_2 := blk_frozen BK418.out 2; have hfz14_3 := blk_frozen BK418.out 3; have hfz14_4 := blk_frozen BK418.out 4; have hfz14_5 := blk_frozen BK418.out 5; have hfz14_6 := blk_frozen BK418.out 6) | ((with_reducible refine gate_callee (f := 43) rfl ?_); clear tok4_; refine goesL_ (some 15) rfl rfl Tryz.func43 (by kernel_rfl) rfl #[.agg #[.int .i64 ((rd_T62 l0 x9_1).f0), .int .i64 ((rd_T62 l0 x9_1).f1), .int .i64 ((rd_T62 l0 x9_1).f2), .int .i64 ((rd_T62 l0 x9_1).f3.f0), .int .i64 ((rd_T62 l0 x9_1).f3.f1), .int .i64 ((rd_T62 l0 x9_1).f3.f2), .int .i64 ((rd_T62 l0 x9_1).f4)]] rfl (by (try simp only [List.map_toArray, List.map_cons, List.map_nil]); first | done | rfl | (simp only [List.length_drop, List.length_take]; rfl)) ?_; (with_reducible refine (schema_Fits.calls ((rd_T62 l0 x9_1).f0) ((rd_T62 l0 x9_1).f1) ((rd_T62 l0 x9_1).f2) ((rd_T62 l0 x9_1).f3.f0) ((rd_T62 l0 x9_1).f3.f1) ((rd_T62 l0 x9_1).f3.f2) ((rd_T62 l0 x9_1).f4) true _ A6.out).mono ?_); rintro e w15 ⟨rfl, hb⟩; refine ⟨_, rfl, ?_⟩; have n0_ := Aside0.mk (blk_below (g := gb418) (o := .cells #[.int .i64 ((rd_T62 l0 x9_1).f0), .int .i64 ((rd_T62 l0 x9_1).f1), .int .i64 ((rd_T62 l0 x9_1).f2), .int .i64 ((rd_T62 l0 x9_1).f3.f0), .int .i64 ((rd_T62 l0 x9_1).f3.f1), .int .i64 ((rd_T62 l0 x9_1).f3.f2), .int .i64 ((rd_T62 l0 x9_1).f4)] 62 (0, 0)) (by (with_reducible repeat (first | refine blk_drewN ?_ _ | refine blk_drew ?_ | refine blk_alloc ?_ _)); refine blk_put (cs := #[.int .i64 ((rd_T62 l0 x9_1).f0), .int .i64 ((rd_T62 l0 x9_1).f1), .int .i64 ((rd_T62 l0 x9_1).f2), .int .i64 ((rd_T62 l0 x9_1).f3.f0), .int .i64 ((rd_T62 l0 x9_1).f3.f1), .int .i64 ((rd_T62 l0 x9_1).f3.f2), .int .i64 0]) ?_ 6 _ (by first | rfl | (simp only [gt_iff_lt, *]; rfl) | (simp [*]; done)); (with_reducible repeat (first | refine blk_drewN ?_ _ | refine blk_drew ?_ | refine blk_alloc ?_ _)); refine blk_put (cs := #[.int .i64 ((rd_T62 l0 x9_1).f0), .int .i64 ((rd_T62 l0 x9_1).f1), .int .i64 ((rd_T62 l0 x9_1).f2), .int .i64 ((rd_T62 l0 x9_1).f3.f0), .int .i64 ((rd_T62 l0 x9_1).f3.f1), .int .i64 0, .int .i64 0]) ?_ 5 _ (by first | rfl | (simp only [gt_iff_lt, *]; rfl) | (simp [*]; done)); (with_reducible repeat (first | refine blk_drewN ?_ _ | refine blk_drew ?_ | refine blk_alloc ?_ _)); refine blk_put (cs := #[.int .i64 ((rd_T62 l0 x9_1).f0), .int .i64 ((rd_T62 l0 x9_1).f1), .int .i64 ((rd_T62 l0 x9_1).f2), .int .i64 ((rd_T62 l0 x9_1).f3.f0), .int .i64 0, .int .i64 0, .int .i64 0]) ?_ 4 _ (by first | rfl | (simp only [gt_iff_lt, *]; rfl) | (simp [*]; done)); (with_reducible repeat (first | refine blk_drewN ?_ _ | refine blk_drew ?_ | refine blk_alloc ?_ _)); refine blk_put (cs := #[.int .i64 ((rd_T62 l0 x9_1).f0), .int .i64 ((rd_T62 l0 x9_1).f1), .int .i64 ((rd_T62 l0 x9_1).f2), .int .i64 0, .int .i64 0, .int .i64 0, .int .i64 0]) ?_ 3 _ (by first | rfl | (simp only [gt_iff_lt, *]; rfl) | (simp [*]; done)); (with_reducible repeat (first | refine blk_drewN ?_ _ | refine blk_drew ?_ | refine blk_alloc ?_ _)); refine blk_put (cs := #[.int .i64 ((rd_T62 l0 x9_1).f0), .int .i64 ((rd_T62 l0 x9_1).f1), .int .i64 0, .int .i64 0, .int .i64 0, .int .i64 0, .int .i64 0]) ?_ 2 _ (by first | rfl | (simp only [gt_iff_lt, *]; rfl) | (simp [*]; done)); (with_reducible repeat (first | refine blk_drewN ?_ _ | refine blk_drew ?_ | refine blk_alloc ?_ _)); refine blk_put (cs := #[.int .i64 ((rd_T62 l0 x9_1).f0), .int .i64 0, .int .i64 0, .int .i64 0, .int .i64 0, .int .i64 0, .int .i64 0]) ?_ 1 _ (by first | rfl | (simp only [gt_iff_lt, *]; rfl) | (simp [*]; done)); (with_reducible repeat (first | refine blk_drewN ?_ _ | refine blk_drew ?_ | refine blk_alloc ?_ _)); refine blk_put (cs := #[.int .i64 0, .int .i64 0, .int .i64 0, .int .i64 0, .int .i64 0, .int .i64 0, .int .i64 0]) ?_ 0 _ (by first | rfl | (simp only [gt_iff_lt, *]; rfl) | (simp [*]; done)); (with_reducible repeat (first | refine blk_drewN ?_ _ | refine blk_drew ?_ | refine blk_alloc ?_ _)); exact BK418.out) hb); have n1_ := Aside0.mk (below_step (by repeat (first | (with_reducible first | exact HB.out | apply below_alloc | apply pw_below_drewN | apply below_drew1 | refine below_set ?_ GE418.out) | exact HB.out)) hb); clear BK418; clear HB; have BK418 := n0_; have HB := n1_; clear n0_ n1_; (try clear hb); (try clear hb2); (try clear hk); (try clear hi); have hcz16_0 : w15.cell? ⟨gb418, 0, none⟩ = some (.int .i64 ((rd_T62 l0 x9_1).f0)) := (blk_cell BK418.out 0).trans rfl; have hcz16_1 : w15.cell? ⟨gb418, 1, none⟩ = some (.int .i64 ((rd_T62 l0 x9_1).f1)) := (blk_cell BK418.out 1).trans rfl; have hcz16_2 : w15.cell? ⟨gb418, 2, none⟩ = some (.int .i64 ((rd_T62 l0 x9_1).f2)) := (blk_cell BK418.out 2).trans rfl; have hcz16_3 : w15.cell? ⟨gb418, 3, none⟩ = some (.int .i64 ((rd_T62 l0 x9_1).f3.f0)) := (blk_cell BK418.out 3).trans rfl; have hcz16_4 : w15.cell? ⟨gb418, 4, none⟩ = some (.int .i64 ((rd_T62 l0 x9_1).f3.f1)) := (blk_cell BK418.out 4).trans rfl; have hcz16_5 : w15.cell? ⟨gb418, 5, none⟩ = some (.int .i64 ((rd_T62 l0 x9_1).f3.f2)) := (blk_cell BK418.out 5).trans rfl; have hcz16_6 : w15.cell? ⟨gb418, 6, none⟩ = some (.int .i64 ((rd_T62 l0 x9_1).f4)) := (blk_cell BK418.out 6).trans rfl; have hfz16_0 := blk_frozen BK418.out 0; have hfz16_1 := blk_frozen BK418.out 1; have hfz16_2 := blk_frozen BK418.out 2; have hfz16_3 := blk_frozen BK418.out 3; have hfz16_4 := blk_frozen BK418.out 4; have hfz16_5 := blk_frozen BK418.out 5; have hfz16_6 := blk_frozen BK418.out 6))
                go_ret
                exact ⟨by first | rfl | (simp [errW_none, errW_some] <;> rfl) | (simp [*, errW_none, errW_some] <;> rfl), by repeat (first | (with_reducible first | exact HB.out | apply below_alloc | apply pw_below_drewN | apply below_drew1 | refine below_set ?_ GE418.out) | exact HB.out)⟩
            · replace c7 := Bool.eq_false_iff.mpr c7
              subst c7
              have H1 : (some false) = some r := by rw [if_neg (show ¬ (false = true) by decide)] at H; exact H
              clear H
              have H := H1
              clear H1
              obtain rfl := Option.some.inj H
              have p417 : 0 ≤ (x9_1 : Int) := of_decide_eq_true (by first | (with_reducible assumption) | assumption)
              have q417 : x9_1 < (l0.length : Int) := of_decide_eq_true (by first | (with_reducible assumption) | assumption)
              obtain ⟨ad417, e417, hx417_0, hx417_1, hx417_2, hx417_3, hx417_4, hx417_5, hx417_6⟩ := at_T62 HR0.out x9_1 p417 q417
              cases e417
              replace hx417_0 := (HB.out.cell (World.block_lt_of_cell? w _ hx417_0)).trans hx417_0
              replace hx417_1 := (HB.out.cell (World.block_lt_of_cell? w _ hx417_1)).trans hx417_1
              replace hx417_2 := (HB.out.cell (World.block_lt_of_cell? w _ hx417_2)).trans hx417_2
              replace hx417_3 := (HB.out.cell (World.block_lt_of_cell? w _ hx417_3)).trans hx417_3
              replace hx417_4 := (HB.out.cell (World.block_lt_of_cell? w _ hx417_4)).trans hx417_4
              replace hx417_5 := (HB.out.cell (World.block_lt_of_cell? w _ hx417_5)).trans hx417_5
              replace hx417_6 := (HB.out.cell (World.block_lt_of_cell? w _ hx417_6)).trans hx417_6
              replace p417 := eq_true p417
              replace q417 := eq_true q417
              have tok5_ : True := trivial
              go_wp2_with (first | ((with_reducible refine gate_dst (N := 6) rfl ?_); refine box_event ?hg (N := 6) ?hd (cs := #[.int .i64 0, .int .i64 0, .int .i64 0, .int .i64 0, .int .i64 0, .int .i64 0, .int .i64 0]) (t := 62) ?hr ?_; (case hd => rfl); (case hg => rfl); (case hr => first | (go_simp; done) | (go_simp; rfl)); intro gb418 hg w17 hbox hb; have n0_ := Aside0.mk (below_step (by repeat (first | (with_reducible first | exact HB.out | apply below_alloc | apply pw_below_drewN | apply below_drew1) | exact HB.out)) hb); have n1_ := Aside0.mk (hbox); have n2_ := Aside0.mk ((by rw [hg]; exact (below_size (by repeat (first | (with_reducible first | exact HB.out | apply below_alloc | apply pw_below_drewN | apply below_drew1) | exact HB.out))) : w.heap.size ≤ gb418)); have n3_ := Aside0.mk ((by rw [hg]; exact (below_size (by repeat (first | (with_reducible first | exact HB.out | apply below_alloc | apply pw_below_drewN | apply below_drew1) | exact HB.out))) : w.heap.size ≤ gb418)); clear HB; have HB := n0_; have BK418 := n1_; have GW418 := n2_; have GE418 := n3_; clear n0_ n1_ n2_ n3_; clear hb hbox hg; have hcz18_0 : w17.cell? ⟨gb418, 0, none⟩ = some (.int .i64 0) := (blk_cell BK418.out 0).trans rfl; have hcz18_1 : w17.cell? ⟨gb418, 1, none⟩ = some (.int .i64 0) := (blk_cell BK418.out 1).trans rfl; have hcz18_2 : w17.cell? ⟨gb418, 2, none⟩ = some (.int .i64 0) := (blk_cell BK418.out 2).trans rfl; have hcz18_3 : w17.cell? ⟨gb418, 3, none⟩ = some (.int .i64 0) := (blk_cell BK418.out 3).trans rfl; have hcz18_4 : w17.cell? ⟨gb418, 4, none⟩ = some (.int .i64 0) := (blk_cell BK418.out 4).trans rfl; have hcz18_5 : w17.cell? ⟨gb418, 5, none⟩ = some (.int .i64 0) := (blk_cell BK418.out 5).trans rfl; have hcz18_6 : w17.cell? ⟨gb418, 6, none⟩ = some (.int .i64 0) := (blk_cell BK418.out 6).trans rfl; have hfz18_0 := blk_frozen BK418.out 0; have hfz18_1 := blk_frozen BK418.out 1; have hfz18_2 := blk_frozen BK418.out 2; have hfz18_3 := blk_frozen BK418.out 3; have hfz18_4 := blk_frozen BK418.out 4; have hfz18_5 := blk_frozen BK418.out 5; have hfz18_6 := blk_frozen BK418.out 6) | ((with_reducible refine gate_callee (f := 43) rfl ?_); clear tok5_; refine goesL_ (some 15) rfl rfl Tryz.func43 (by kernel_rfl) rfl #[.agg #[.int .i64 ((rd_T62 l0 x9_1).f0), .int .i64 ((rd_T62 l0 x9_1).f1), .int .i64 ((rd_T62 l0 x9_1).f2), .int .i64 ((rd_T62 l0 x9_1).f3.f0), .int .i64 ((rd_T62 l0 x9_1).f3.f1), .int .i64 ((rd_T62 l0 x9_1).f3.f2), .int .i64 ((rd_T62 l0 x9_1).f4)]] rfl (by (try simp only [List.map_toArray, List.map_cons, List.map_nil]); first | done | rfl | (simp only [List.length_drop, List.length_take]; rfl)) ?_; (with_reducible refine (schema_Fits.calls ((rd_T62 l0 x9_1).f0) ((rd_T62 l0 x9_1).f1) ((rd_T62 l0 x9_1).f2) ((rd_T62 l0 x9_1).f3.f0) ((rd_T62 l0 x9_1).f3.f1) ((rd_T62 l0 x9_1).f3.f2) ((rd_T62 l0 x9_1).f4) false _ A6.out).mono ?_); rintro e w19 ⟨rfl, hb⟩; refine ⟨_, rfl, ?_⟩; have n0_ := Aside0.mk (blk_below (g := gb418) (o := .cells #[.int .i64 ((rd_T62 l0 x9_1).f0), .int .i64 ((rd_T62 l0 x9_1).f1), .int .i64 ((rd_T62 l0 x9_1).f2), .int .i64 ((rd_T62 l0 x9_1).f3.f0), .int .i64 ((rd_T62 l0 x9_1).f3.f1), .int .i64 ((rd_T62 l0 x9_1).f3.f2), .int .i64 ((rd_T62 l0 x9_1).f4)] 62 (0, 0)) (by (with_reducible repeat (first | refine blk_drewN ?_ _ | refine blk_drew ?_ | refine blk_alloc ?_ _)); refine blk_put (cs := #[.int .i64 ((rd_T62 l0 x9_1).f0), .int .i64 ((rd_T62 l0 x9_1).f1), .int .i64 ((rd_T62 l0 x9_1).f2), .int .i64 ((rd_T62 l0 x9_1).f3.f0), .int .i64 ((rd_T62 l0 x9_1).f3.f1), .int .i64 ((rd_T62 l0 x9_1).f3.f2), .int .i64 0]) ?_ 6 _ (by first | rfl | (simp only [gt_iff_lt, *]; rfl) | (simp [*]; done)); (with_reducible repeat (first | refine blk_drewN ?_ _ | refine blk_drew ?_ | refine blk_alloc ?_ _)); refine blk_put (cs := #[.int .i64 ((rd_T62 l0 x9_1).f0), .int .i64 ((rd_T62 l0 x9_1).f1), .int .i64 ((rd_T62 l0 x9_1).f2), .int .i64 ((rd_T62 l0 x9_1).f3.f0), .int .i64 ((rd_T62 l0 x9_1).f3.f1), .int .i64 0, .int .i64 0]) ?_ 5 _ (by first | rfl | (simp only [gt_iff_lt, *]; rfl) | (simp [*]; done)); (with_reducible repeat (first | refine blk_drewN ?_ _ | refine blk_drew ?_ | refine blk_alloc ?_ _)); refine blk_put (cs := #[.int .i64 ((rd_T62 l0 x9_1).f0), .int .i64 ((rd_T62 l0 x9_1).f1), .int .i64 ((rd_T62 l0 x9_1).f2), .int .i64 ((rd_T62 l0 x9_1).f3.f0), .int .i64 0, .int .i64 0, .int .i64 0]) ?_ 4 _ (by first | rfl | (simp only [gt_iff_lt, *]; rfl) | (simp [*]; done)); (with_reducible repeat (first | refine blk_drewN ?_ _ | refine blk_drew ?_ | refine blk_alloc ?_ _)); refine blk_put (cs := #[.int .i64 ((rd_T62 l0 x9_1).f0), .int .i64 ((rd_T62 l0 x9_1).f1), .int .i64 ((rd_T62 l0 x9_1).f2), .int .i64 0, .int .i64 0, .int .i64 0, .int .i64 0]) ?_ 3 _ (by first | rfl | (simp only [gt_iff_lt, *]; rfl) | (simp [*]; done)); (with_reducible repeat (first | refine blk_drewN ?_ _ | refine blk_drew ?_ | refine blk_alloc ?_ _)); refine blk_put (cs := #[.int .i64 ((rd_T62 l0 x9_1).f0), .int .i64 ((rd_T62 l0 x9_1).f1), .int .i64 0, .int .i64 0, .int .i64 0, .int .i64 0, .int .i64 0]) ?_ 2 _ (by first | rfl | (simp only [gt_iff_lt, *]; rfl) | (simp [*]; done)); (with_reducible repeat (first | refine blk_drewN ?_ _ | refine blk_drew ?_ | refine blk_alloc ?_ _)); refine blk_put (cs := #[.int .i64 ((rd_T62 l0 x9_1).f0), .int .i64 0, .int .i64 0, .int .i64 0, .int .i64 0, .int .i64 0, .int .i64 0]) ?_ 1 _ (by first | rfl | (simp only [gt_iff_lt, *]; rfl) | (simp [*]; done)); (with_reducible repeat (first | refine blk_drewN ?_ _ | refine blk_drew ?_ | refine blk_alloc ?_ _)); refine blk_put (cs := #[.int .i64 0, .int .i64 0, .int .i64 0, .int .i64 0, .int .i64 0, .int .i64 0, .int .i64 0]) ?_ 0 _ (by first | rfl | (simp only [gt_iff_lt, *]; rfl) | (simp [*]; done)); (with_reducible repeat (first | refine blk_drewN ?_ _ | refine blk_drew ?_ | refine blk_alloc ?_ _)); exact BK418.out) hb); have n1_ := Aside0.mk (below_step (by repeat (first | (with_reducible first | exact HB.out | apply below_alloc | apply pw_below_drewN | apply below_drew1 | refine below_set ?_ GE418.out) | exact HB.out)) hb); clear BK418; clear HB; have BK418 := n0_; have HB := n1_; clear n0_ n1_; (try clear hb); (try clear hb2); (try clear hk); (try clear hi)))
              go_ret
              exact ⟨by first | rfl | (simp [errW_none, errW_some] <;> rfl) | (simp [*, errW_none, errW_some] <;> rfl), by repeat (first | (with_reducible first | exact HB.out | apply below_alloc | apply pw_below_drewN | apply below_drew1 | refine below_set ?_ GE418.out) | exact HB.out)⟩
          · rw [if_neg c5] at H
            exact absurd H (by simp)
        · rw [if_neg c4] at H
          exact absurd H (by simp)
      · rw [if_neg c3] at H
        have c3b0 : decide (x9_1 < (l0.length : Int)) = false := decide_eq_false c3
        clear c3
        obtain rfl := Option.some.inj H
        go_wp2
        go_ret
        exact ⟨by first | rfl | (simp [errW_none, errW_some] <;> rfl) | (simp [*, errW_none, errW_some] <;> rfl), by repeat (first | (with_reducible first | exact HB.out | apply below_alloc | apply pw_below_drewN | apply below_drew1) | exact HB.out)⟩
/-! ### slices_Index_int_int: function 195 -/
def slices_Index_int_int.l0 : Nat → List Int → Int → Int → Int → Option (Int)
  | 0, _, _, _, _ => none
  | k + 1, x0, x1, x7, x8 => if x8 < x7 then (if 0 ≤ x8 then (if x8 < (x0.length : Int) then (if x1 = (rd x0 x8) then (some x8) else (slices_Index_int_int.l0 k x0 x1 x7 (wrap64 (x8 + 1)))) else (none)) else (none)) else (some (-1))
def slices_Index_int_int.f (k : Nat) (l0 : List Int) (a1 : Int) : Option (Int) := slices_Index_int_int.l0 k l0 a1 (l0.length : Int) 0
set_option maxHeartbeats 8000000 in
set_option maxRecDepth 100000 in
theorem slices_Index_int_int.calls (k : Nat) (A0 : Option Addr) (c0 : Nat) (l0 : List Int) (a1 : Int) (r : Int) (w : World) (hr0 : Kd.C (Kd.int .i64) w A0 l0.length l0) (hc0 : l0.length ≤ c0) (h : slices_Index_int_int.f k l0 a1 = some r) :
    Calls Tryz.prog 195 #[.slice A0 l0.length c0, .int .i64 a1] w fun e w' => e = .returned (.int .i64 r) ∧ Drawn0 w w' := by
  have HR0 := Aside0.mk hr0
  have HC0 := Aside0.mk hc0
  clear hr0 hc0
  have H : (slices_Index_int_int.l0 k l0 a1 (l0.length : Int) 0) = some r := h
  clear h
  have H' := Aside0.mk H
  clear H
  go_enter Tryz.func195, Tryz.ntmps195
  go_wp2
  go_loopg [8] k (fun kq v8 w' => ∃ (x8_1 : Int), v8 = .int .i64 x8_1 ∧ Aside0 (slices_Index_int_int.l0 kq l0 a1 (l0.length : Int) x8_1 = some r) ∧ Aside0 (kq ≤ k) ∧ Drawn0 w w')
  case atStart => exact ⟨(0), (by first | rfl | (simp; done) | (simp [*]; done)), H', ⟨Nat.le_refl _⟩, by repeat (first | exact Drawn0.refl _ | apply Drawn0.step)⟩
  case round =>
    clear H'
    try clear c1
    try clear p2
    obtain ⟨x8_1, rfl, HA, HK1, ⟨m1, rfl⟩⟩ := hrel
    cases gk with
    | zero => exact absurd HA.out (by simp [slices_Index_int_int.l0])
    | succ k1 =>
      have H := HA.out
      clear HA
      simp only [slices_Index_int_int.l0] at H
      by_cases c3 : x8_1 < (l0.length : Int)
      · rw [if_pos c3] at H
        have c3b0 : decide (x8_1 < (l0.length : Int)) = true := decide_eq_true c3
        clear c3
        by_cases c4 : 0 ≤ x8_1
        · rw [if_pos c4] at H
          have c4b0 : decide (0 ≤ x8_1) = true := decide_eq_true c4
          clear c4
          by_cases c5 : x8_1 < (l0.length : Int)
          · rw [if_pos c5] at H
            have c5b0 : decide (x8_1 < (l0.length : Int)) = true := decide_eq_true c5
            clear c5
            by_cases c6 : a1 = (rd l0 x8_1)
            · rw [if_pos c6] at H
              have c6b0 : (a1 == (rd l0 x8_1)) = true := beq_iff_eq.mpr c6
              have c6b1 : (a1 != (rd l0 x8_1)) = false := bne_eq_false_iff_eq.mpr c6
              clear c6
              obtain rfl := Option.some.inj H
              have p432 : 0 ≤ (x8_1 : Int) := of_decide_eq_true (by first | (with_reducible assumption) | assumption)
              have q432 : x8_1 < (l0.length : Int) := of_decide_eq_true (by first | (with_reducible assumption) | assumption)
              obtain ⟨ad432, e432, hx432_0⟩ := Kd.at_int HR0.out x8_1 p432 q432
              cases e432
              replace p432 := eq_true p432
              replace q432 := eq_true q432
              go_wp2
              go_ret
              exact ⟨by first | rfl | (simp; done) | (simp [*]; done), by repeat (first | exact Drawn0.refl _ | apply Drawn0.step)⟩
            · rw [if_neg c6] at H
              have c6b0 : (a1 == (rd l0 x8_1)) = false := beq_eq_false_iff_ne.mpr c6
              have c6b1 : (a1 != (rd l0 x8_1)) = true := bne_iff_ne.mpr c6
              have H' := Aside0.mk H
              clear H
              have p432 : 0 ≤ (x8_1 : Int) := of_decide_eq_true (by first | (with_reducible assumption) | assumption)
              have q432 : x8_1 < (l0.length : Int) := of_decide_eq_true (by first | (with_reducible assumption) | assumption)
              obtain ⟨ad432, e432, hx432_0⟩ := Kd.at_int HR0.out x8_1 p432 q432
              cases e432
              replace p432 := eq_true p432
              replace q432 := eq_true q432
              go_wp2
              go_roundg k1
              case measure => have := HK1.out; omega
              case rel => exact ⟨(wrap64 (x8_1 + 1)), (by first | rfl | (simp; done) | (simp [*]; done)), H', ⟨by have := HK1.out; omega⟩, by repeat (first | exact Drawn0.refl _ | apply Drawn0.step)⟩
          · rw [if_neg c5] at H
            exact absurd H (by simp)
        · rw [if_neg c4] at H
          exact absurd H (by simp)
      · rw [if_neg c3] at H
        have c3b0 : decide (x8_1 < (l0.length : Int)) = false := decide_eq_false c3
        clear c3
        obtain rfl := Option.some.inj H
        go_wp2
        go_ret
        exact ⟨by first | rfl | (simp; done) | (simp [*]; done), by repeat (first | exact Drawn0.refl _ | apply Drawn0.step)⟩

/-- A state of type 62 at block g of W; what its slices lead to came in by w0. -/
def IsS62 (w0 W : World) (g : Nat) (f0 : Int) (f1 : Int) (f2 : Int) (f3 : Int) (f4 : Int) (f5 : Int) (f6 : Int) : Prop := W.heap[g]? = some (.cells #[.int .i64 f0, .int .i64 f1, .int .i64 f2, .int .i64 f3, .int .i64 f4, .int .i64 f5, .int .i64 f6] 62 (0, 0)) ∧ w0.heap.size ≤ g
theorem IsS62.grown {w0 W : World} {g : Nat} {f0 : Int} {f1 : Int} {f2 : Int} {f3 : Int} {f4 : Int} {f5 : Int} {f6 : Int} {W1 : World} {row : Option Nat} (h : IsS62 w0 W g f0 f1 f2 f3 f4 f5 f6) (hw : W.grownBy W1 row) (hne : some g ≠ row) : IsS62 w0 W1 g f0 f1 f2 f3 f4 f5 f6 := by
  obtain ⟨hb, hg⟩ := h
  exact ⟨blk_grown hb hw hne, hg⟩
theorem IsS62.kept {w0 W : World} {g : Nat} {f0 : Int} {f1 : Int} {f2 : Int} {f3 : Int} {f4 : Int} {f5 : Int} {f6 : Int} {W1 : World} {S : Nat → Prop} (h : IsS62 w0 W g f0 f1 f2 f3 f4 f5 f6) (hk : Kept W W1 S) (hne : ¬ S g) : IsS62 w0 W1 g f0 f1 f2 f3 f4 f5 f6 := by
  obtain ⟨hb, hg⟩ := h
  exact ⟨blk_kept hb hk hne, hg⟩
theorem IsS62.below {w0 W : World} {g : Nat} {f0 : Int} {f1 : Int} {f2 : Int} {f3 : Int} {f4 : Int} {f5 : Int} {f6 : Int} {W1 : World} (h : IsS62 w0 W g f0 f1 f2 f3 f4 f5 f6) (hw : Below W.heap.size W W1) : IsS62 w0 W1 g f0 f1 f2 f3 f4 f5 f6 := h.grown (grown_of_below hw none) (by simp)
theorem IsS62.alloc {w0 W : World} {g : Nat} {f0 : Int} {f1 : Int} {f2 : Int} {f3 : Int} {f4 : Int} {f5 : Int} {f6 : Int} (h : IsS62 w0 W g f0 f1 f2 f3 f4 f5 f6) (o : Obj) : IsS62 w0 (W.alloc o) g f0 f1 f2 f3 f4 f5 f6 := h.below (below_alloc (Below.refl _ _) o)
theorem IsS62.drewN {w0 W : World} {g : Nat} {f0 : Int} {f1 : Int} {f2 : Int} {f3 : Int} {f4 : Int} {f5 : Int} {f6 : Int} (h : IsS62 w0 W g f0 f1 f2 f3 f4 f5 f6) (m : Nat) : IsS62 w0 (W.drewN m) g f0 f1 f2 f3 f4 f5 f6 := h
theorem IsS62.apart {w0 W : World} {g : Nat} {f0 : Int} {f1 : Int} {f2 : Int} {f3 : Int} {f4 : Int} {f5 : Int} {f6 : Int} {α : Type} {d : Kd α} {e : Nat} {base : Nat} {ok : Nat → Prop} {v : Value} {xs : List α} (h : IsS62 w0 W g f0 f1 f2 f3 f4 f5 f6) (ho : d.R e W base ok v xs) (ht : ∀ q, q ∈ e :: d.E → q ≠ 62) : d.R e W base (fun k => ok k ∧ k ≠ g) v xs := by
  obtain ⟨hb, hg⟩ := h
  exact Kd.R_types ho hb ht
theorem IsS62.own_ne {w0 W : World} {g : Nat} {f0 : Int} {f1 : Int} {f2 : Int} {f3 : Int} {f4 : Int} {f5 : Int} {f6 : Int} {α : Type} {d : Kd α} {e : Nat} {base : Nat} {ok : Nat → Prop} {v : Value} {xs : List α} (h : IsS62 w0 W g f0 f1 f2 f3 f4 f5 f6) (ho : d.R e W base ok v xs) (ht : e ≠ 62) : some g ≠ v.ownBlock := by
  obtain ⟨hb, hg⟩ := h
  exact Kd.R_ne ho hb ht
theorem IsS62.lt {w0 W : World} {g : Nat} {f0 : Int} {f1 : Int} {f2 : Int} {f3 : Int} {f4 : Int} {f5 : Int} {f6 : Int} (h : IsS62 w0 W g f0 f1 f2 f3 f4 f5 f6) : g < W.heap.size := by
  obtain ⟨hb, hg⟩ := h
  exact blk_lt hb
theorem IsS62.ge {w0 W : World} {g : Nat} {f0 : Int} {f1 : Int} {f2 : Int} {f3 : Int} {f4 : Int} {f5 : Int} {f6 : Int} (h : IsS62 w0 W g f0 f1 f2 f3 f4 f5 f6) : w0.heap.size ≤ g := by
  obtain ⟨hb, hg⟩ := h
  exact hg
theorem cellS62_0 {W : World} {g : Nat} {f0 : Int} {f1 : Int} {f2 : Int} {f3 : Int} {f4 : Int} {f5 : Int} {f6 : Int} (h : W.heap[g]? = some (.cells #[.int .i64 f0, .int .i64 f1, .int .i64 f2, .int .i64 f3, .int .i64 f4, .int .i64 f5, .int .i64 f6] 62 (0, 0))) : W.cell? ⟨g, 0, none⟩ = some (.int .i64 f0) := (blk_cell h 0).trans rfl
theorem IsS62.set_0 {w0 W : World} {g : Nat} {f0 : Int} {f1 : Int} {f2 : Int} {f3 : Int} {f4 : Int} {f5 : Int} {f6 : Int} (h : IsS62 w0 W g f0 f1 f2 f3 f4 f5 f6) (x : Int) : IsS62 w0 (W.setCell ⟨g, 0, none⟩ (.int .i64 x)) g x f1 f2 f3 f4 f5 f6 := by
  obtain ⟨hb, hg⟩ := h
  exact ⟨by simpa using blk_set hb 0 (.int .i64 x), hg⟩
theorem cellS62_1 {W : World} {g : Nat} {f0 : Int} {f1 : Int} {f2 : Int} {f3 : Int} {f4 : Int} {f5 : Int} {f6 : Int} (h : W.heap[g]? = some (.cells #[.int .i64 f0, .int .i64 f1, .int .i64 f2, .int .i64 f3, .int .i64 f4, .int .i64 f5, .int .i64 f6] 62 (0, 0))) : W.cell? ⟨g, 1, none⟩ = some (.int .i64 f1) := (blk_cell h 1).trans rfl
theorem IsS62.set_1 {w0 W : World} {g : Nat} {f0 : Int} {f1 : Int} {f2 : Int} {f3 : Int} {f4 : Int} {f5 : Int} {f6 : Int} (h : IsS62 w0 W g f0 f1 f2 f3 f4 f5 f6) (x : Int) : IsS62 w0 (W.setCell ⟨g, 1, none⟩ (.int .i64 x)) g f0 x f2 f3 f4 f5 f6 := by
  obtain ⟨hb, hg⟩ := h
  exact ⟨by simpa using blk_set hb 1 (.int .i64 x), hg⟩
theorem cellS62_2 {W : World} {g : Nat} {f0 : Int} {f1 : Int} {f2 : Int} {f3 : Int} {f4 : Int} {f5 : Int} {f6 : Int} (h : W.heap[g]? = some (.cells #[.int .i64 f0, .int .i64 f1, .int .i64 f2, .int .i64 f3, .int .i64 f4, .int .i64 f5, .int .i64 f6] 62 (0, 0))) : W.cell? ⟨g, 2, none⟩ = some (.int .i64 f2) := (blk_cell h 2).trans rfl
theorem IsS62.set_2 {w0 W : World} {g : Nat} {f0 : Int} {f1 : Int} {f2 : Int} {f3 : Int} {f4 : Int} {f5 : Int} {f6 : Int} (h : IsS62 w0 W g f0 f1 f2 f3 f4 f5 f6) (x : Int) : IsS62 w0 (W.setCell ⟨g, 2, none⟩ (.int .i64 x)) g f0 f1 x f3 f4 f5 f6 := by
  obtain ⟨hb, hg⟩ := h
  exact ⟨by simpa using blk_set hb 2 (.int .i64 x), hg⟩
theorem cellS62_3 {W : World} {g : Nat} {f0 : Int} {f1 : Int} {f2 : Int} {f3 : Int} {f4 : Int} {f5 : Int} {f6 : Int} (h : W.heap[g]? = some (.cells #[.int .i64 f0, .int .i64 f1, .int .i64 f2, .int .i64 f3, .int .i64 f4, .int .i64 f5, .int .i64 f6] 62 (0, 0))) : W.cell? ⟨g, 3, none⟩ = some (.int .i64 f3) := (blk_cell h 3).trans rfl
theorem IsS62.set_3 {w0 W : World} {g : Nat} {f0 : Int} {f1 : Int} {f2 : Int} {f3 : Int} {f4 : Int} {f5 : Int} {f6 : Int} (h : IsS62 w0 W g f0 f1 f2 f3 f4 f5 f6) (x : Int) : IsS62 w0 (W.setCell ⟨g, 3, none⟩ (.int .i64 x)) g f0 f1 f2 x f4 f5 f6 := by
  obtain ⟨hb, hg⟩ := h
  exact ⟨by simpa using blk_set hb 3 (.int .i64 x), hg⟩
theorem cellS62_4 {W : World} {g : Nat} {f0 : Int} {f1 : Int} {f2 : Int} {f3 : Int} {f4 : Int} {f5 : Int} {f6 : Int} (h : W.heap[g]? = some (.cells #[.int .i64 f0, .int .i64 f1, .int .i64 f2, .int .i64 f3, .int .i64 f4, .int .i64 f5, .int .i64 f6] 62 (0, 0))) : W.cell? ⟨g, 4, none⟩ = some (.int .i64 f4) := (blk_cell h 4).trans rfl
theorem IsS62.set_4 {w0 W : World} {g : Nat} {f0 : Int} {f1 : Int} {f2 : Int} {f3 : Int} {f4 : Int} {f5 : Int} {f6 : Int} (h : IsS62 w0 W g f0 f1 f2 f3 f4 f5 f6) (x : Int) : IsS62 w0 (W.setCell ⟨g, 4, none⟩ (.int .i64 x)) g f0 f1 f2 f3 x f5 f6 := by
  obtain ⟨hb, hg⟩ := h
  exact ⟨by simpa using blk_set hb 4 (.int .i64 x), hg⟩
theorem cellS62_5 {W : World} {g : Nat} {f0 : Int} {f1 : Int} {f2 : Int} {f3 : Int} {f4 : Int} {f5 : Int} {f6 : Int} (h : W.heap[g]? = some (.cells #[.int .i64 f0, .int .i64 f1, .int .i64 f2, .int .i64 f3, .int .i64 f4, .int .i64 f5, .int .i64 f6] 62 (0, 0))) : W.cell? ⟨g, 5, none⟩ = some (.int .i64 f5) := (blk_cell h 5).trans rfl
theorem IsS62.set_5 {w0 W : World} {g : Nat} {f0 : Int} {f1 : Int} {f2 : Int} {f3 : Int} {f4 : Int} {f5 : Int} {f6 : Int} (h : IsS62 w0 W g f0 f1 f2 f3 f4 f5 f6) (x : Int) : IsS62 w0 (W.setCell ⟨g, 5, none⟩ (.int .i64 x)) g f0 f1 f2 f3 f4 x f6 := by
  obtain ⟨hb, hg⟩ := h
  exact ⟨by simpa using blk_set hb 5 (.int .i64 x), hg⟩
theorem cellS62_6 {W : World} {g : Nat} {f0 : Int} {f1 : Int} {f2 : Int} {f3 : Int} {f4 : Int} {f5 : Int} {f6 : Int} (h : W.heap[g]? = some (.cells #[.int .i64 f0, .int .i64 f1, .int .i64 f2, .int .i64 f3, .int .i64 f4, .int .i64 f5, .int .i64 f6] 62 (0, 0))) : W.cell? ⟨g, 6, none⟩ = some (.int .i64 f6) := (blk_cell h 6).trans rfl
theorem IsS62.set_6 {w0 W : World} {g : Nat} {f0 : Int} {f1 : Int} {f2 : Int} {f3 : Int} {f4 : Int} {f5 : Int} {f6 : Int} (h : IsS62 w0 W g f0 f1 f2 f3 f4 f5 f6) (x : Int) : IsS62 w0 (W.setCell ⟨g, 6, none⟩ (.int .i64 x)) g f0 f1 f2 f3 f4 f5 x := by
  obtain ⟨hb, hg⟩ := h
  exact ⟨by simpa using blk_set hb 6 (.int .i64 x), hg⟩
/-! ### schema_get: function 196 -/
def schema_get.f (k : Nat) (s0_0 : Int) (s0_1 : Int) (s0_2 : Int) (s0_3 : Int) (s0_4 : Int) (s0_5 : Int) (s0_6 : Int) (a1 : Int) (l2 : List Int) : Option (Int × Int × Int × Int × Int × Int × Int × Int) := if a1 = 1 then ((num_Get.f k l2).bind fun bt433 => (some (bt433.2, bt433.1, s0_1, s0_2, s0_3, s0_4, s0_5, s0_6))) else (if a1 = 2 then ((num_Get.f k l2).bind fun bt435 => (some (bt435.2, s0_0, bt435.1, s0_2, s0_3, s0_4, s0_5, s0_6))) else (if a1 = 3 then ((num_Get.f k l2).bind fun bt437 => (some (bt437.2, s0_0, s0_1, bt437.1, s0_3, s0_4, s0_5, s0_6))) else (if a1 = 4 then ((codec_GetOp.f k l2).bind fun bt439 => (some (bt439.2.2.2, s0_0, s0_1, s0_2, bt439.1, bt439.2.1, bt439.2.2.1, s0_6))) else (if a1 = 5 then ((num_GetSigned.f k l2).bind fun bt443 => (some (bt443.2, s0_0, s0_1, s0_2, s0_3, s0_4, s0_5, bt443.1))) else (some (0, s0_0, s0_1, s0_2, s0_3, s0_4, s0_5, s0_6))))))
set_option maxHeartbeats 8000000 in
set_option maxRecDepth 100000 in
theorem schema_get.calls (k : Nat) (g : Nat) (s0_0 : Int) (s0_1 : Int) (s0_2 : Int) (s0_3 : Int) (s0_4 : Int) (s0_5 : Int) (s0_6 : Int) (a1 : Int) (A2 : Option Addr) (c2 : Nat) (l2 : List Int) (r1 : Int) (r2 : Int) (r3 : Int) (r4 : Int) (r5 : Int) (r6 : Int) (r7 : Int) (r8 : Int) (w0 w : World) (hI : IsS62 w0 w g s0_0 s0_1 s0_2 s0_3 s0_4 s0_5 s0_6) (hB : Below w0.heap.size w0 w) (hr2 : Kd.C (Kd.int .u8) w A2 l2.length l2) (hc2 : l2.length ≤ c2) (hf2 : ∀ ad, A2 = some ad → 0 < l2.length → ad.block ≠ g) (h : schema_get.f k s0_0 s0_1 s0_2 s0_3 s0_4 s0_5 s0_6 a1 l2 = some (r1, r2, r3, r4, r5, r6, r7, r8)) :
    Calls Tryz.prog 196 #[.pointer (some ⟨g, 0, none⟩), .int .i64 a1, .slice A2 l2.length c2] w fun e w' => e = .returned (.int .i64 r1) ∧ IsS62 w0 w' g r2 r3 r4 r5 r6 r7 r8 ∧ Below w0.heap.size w0 w' ∧ KeepBut w w' g none := by
  have hu38 := Tryz.underlying38
  have HR2 := Aside0.mk hr2
  have HC2 := Aside0.mk hc2
  clear hr2 hc2
  have HI0 := Aside0.mk hI
  have HK := Aside0.mk (KeepBut.refl w g none)
  have HL := Aside0.mk hB.size
  clear hI
  have HW0 := Aside0.mk hB.size
  have HB := Aside0.mk hB
  clear hB
  have H : (if a1 = 1 then ((num_Get.f k l2).bind fun bt433 => (some (bt433.2, bt433.1, s0_1, s0_2, s0_3, s0_4, s0_5, s0_6))) else (if a1 = 2 then ((num_Get.f k l2).bind fun bt435 => (some (bt435.2, s0_0, bt435.1, s0_2, s0_3, s0_4, s0_5, s0_6))) else (if a1 = 3 then ((num_Get.f k l2).bind fun bt437 => (some (bt437.2, s0_0, s0_1, bt437.1, s0_3, s0_4, s0_5, s0_6))) else (if a1 = 4 then ((codec_GetOp.f k l2).bind fun bt439 => (some (bt439.2.2.2, s0_0, s0_1, s0_2, bt439.1, bt439.2.1, bt439.2.2.1, s0_6))) else (if a1 = 5 then ((num_GetSigned.f k l2).bind fun bt443 => (some (bt443.2, s0_0, s0_1, s0_2, s0_3, s0_4, s0_5, bt443.1))) else (some (0, s0_0, s0_1, s0_2, s0_3, s0_4, s0_5, s0_6))))))) = some (r1, r2, r3, r4, r5, r6, r7, r8) := h
  clear h
  by_cases c4 : a1 = 1
  · rw [if_pos c4] at H
    have c4b0 : (a1 == 1) = true := beq_iff_eq.mpr c4
    have c4b1 : (a1 != 1) = false := bne_eq_false_iff_eq.mpr c4
    clear c4
    replace H := Option.bind_eq_some_iff.mp H
    obtain ⟨⟨t433, t434⟩, A50, H⟩ := H
    replace H : (some (t434, t433, s0_1, s0_2, s0_3, s0_4, s0_5, s0_6)) = some (r1, r2, r3, r4, r5, r6, r7, r8) := H
    have A5 := Aside0.mk A50
    clear A50
    simp only [Option.some.injEq, Prod.mk.injEq] at H
    obtain ⟨rfl, rfl, rfl, rfl, rfl, rfl, rfl, rfl⟩ := H
    go_enter Tryz.func196, Tryz.ntmps196
    go_wp2_with (first | ((with_reducible refine gate_callee (f := 132) rfl ?_); refine goesL_ (some 13) rfl rfl Tryz.func132 (by kernel_rfl) rfl #[.slice A2 l2.length c2] rfl (by (try simp only [List.map_toArray, List.map_cons, List.map_nil]); first | done | rfl | (simp only [List.length_drop, List.length_take]; rfl)) ?_; (with_reducible refine (num_Get.calls k _ _ l2 t433 t434 _ ?side1 ?side2 A5.out).mono ?_); (case side1 => exact Kd.C_keep 0 HR2.out (by repeat (first | (with_reducible first | exact HK.out | apply KeepBut.set_ | apply keep_drewN | apply keep_drew | apply keep_alloc) | exact HK.out)) hf2); (case side2 => exact HC2.out); rintro e w6 ⟨rfl, hb⟩; refine ⟨_, rfl, ?_⟩; have n0_ := Aside0.mk (IsS62.below (by repeat (first | (with_reducible first | exact HI0.out | apply IsS62.alloc | apply IsS62.drewN | apply IsS62.drew | apply IsS62.set_0 | apply IsS62.set_1 | apply IsS62.set_2 | apply IsS62.set_3 | apply IsS62.set_4 | apply IsS62.set_5 | apply IsS62.set_6) | exact HI0.out)) hb); have n1_ := Aside0.mk (KeepBut.trans (by repeat (first | (with_reducible first | exact HK.out | apply KeepBut.set_ | apply keep_drewN | apply keep_drew | apply keep_alloc) | exact HK.out)) (KeepBut.of_below hb g none) (.inl rfl)); have n2_ := Aside0.mk (below_step (by repeat (first | (with_reducible first | exact HB.out | apply below_alloc | apply pw_below_drewN | apply below_drew1 | refine below_set ?_ (IsS62.ge HI0.out)) | exact HB.out)) hb); clear HI0; clear HK; clear HB; have HI0 := n0_; have HK := n1_; have HB := n2_; clear n0_ n1_ n2_; (try clear hb); (try clear hb2); (try clear hk); (try clear hi); obtain ⟨HGz7, hgz7⟩ := HI0.out; have hcz7_0 := cellS62_0 HGz7; have hcz7_1 := cellS62_1 HGz7; have hcz7_2 := cellS62_2 HGz7; have hcz7_3 := cellS62_3 HGz7; have hcz7_4 := cellS62_4 HGz7; have hcz7_5 := cellS62_5 HGz7; have hcz7_6 := cellS62_6 HGz7; have hfz7_0 := blk_frozen HGz7 0; have hfz7_1 := blk_frozen HGz7 1; have hfz7_2 := blk_frozen HGz7 2; have hfz7_3 := blk_frozen HGz7 3; have hfz7_4 := blk_frozen HGz7 4; have hfz7_5 := blk_frozen HGz7 5; have hfz7_6 := blk_frozen HGz7 6; clear HGz7 hgz7))
    go_ret
    exact ⟨by first | rfl | (simp [errW_none, errW_some] <;> rfl) | (simp [*, errW_none, errW_some] <;> rfl), by repeat (first | (with_reducible first | exact HI0.out | apply IsS62.alloc | apply IsS62.drewN | apply IsS62.drew | apply IsS62.set_0 | apply IsS62.set_1 | apply IsS62.set_2 | apply IsS62.set_3 | apply IsS62.set_4 | apply IsS62.set_5 | apply IsS62.set_6) | exact HI0.out), by repeat (first | (with_reducible first | exact HB.out | apply below_alloc | apply pw_below_drewN | apply below_drew1 | refine below_set ?_ (IsS62.ge HI0.out)) | exact HB.out), by repeat (first | (with_reducible first | exact HK.out | apply KeepBut.set_ | apply keep_drewN | apply keep_drew | apply keep_alloc) | exact HK.out)⟩
  · rw [if_neg c4] at H
    have c4b0 : (a1 == 1) = false := beq_eq_false_iff_ne.mpr c4
    have c4b1 : (a1 != 1) = true := bne_iff_ne.mpr c4
    by_cases c8 : a1 = 2
    · rw [if_pos c8] at H
      have c8b0 : (a1 == 2) = true := beq_iff_eq.mpr c8
      have c8b1 : (a1 != 2) = false := bne_eq_false_iff_eq.mpr c8
      clear c8
      replace H := Option.bind_eq_some_iff.mp H
      obtain ⟨⟨t435, t436⟩, A90, H⟩ := H
      replace H : (some (t436, s0_0, t435, s0_2, s0_3, s0_4, s0_5, s0_6)) = some (r1, r2, r3, r4, r5, r6, r7, r8) := H
      have A9 := Aside0.mk A90
      clear A90
      simp only [Option.some.injEq, Prod.mk.injEq] at H
      obtain ⟨rfl, rfl, rfl, rfl, rfl, rfl, rfl, rfl⟩ := H
      go_enter Tryz.func196, Tryz.ntmps196
      go_wp2_with (first | ((with_reducible refine gate_callee (f := 132) rfl ?_); refine goesL_ (some 23) rfl rfl Tryz.func132 (by kernel_rfl) rfl #[.slice A2 l2.length c2] rfl (by (try simp only [List.map_toArray, List.map_cons, List.map_nil]); first | done | rfl | (simp only [List.length_drop, List.length_take]; rfl)) ?_; (with_reducible refine (num_Get.calls k _ _ l2 t435 t436 _ ?side1 ?side2 A9.out).mono ?_); (case side1 => exact Kd.C_keep 0 HR2.out (by repeat (first | (with_reducible first | exact HK.out | apply KeepBut.set_ | apply keep_drewN | apply keep_drew | apply keep_alloc) | exact HK.out)) hf2); (case side2 => exact HC2.out); rintro e w10 ⟨rfl, hb⟩; refine ⟨_, rfl, ?_⟩; have n0_ := Aside0.mk (IsS62.below (by repeat (first | (with_reducible first | exact HI0.out | apply IsS62.alloc | apply IsS62.drewN | apply IsS62.drew | apply IsS62.set_0 | apply IsS62.set_1 | apply IsS62.set_2 | apply IsS62.set_3 | apply IsS62.set_4 | apply IsS62.set_5 | apply IsS62.set_6) | exact HI0.out)) hb); have n1_ := Aside0.mk (KeepBut.trans (by repeat (first | (with_reducible first | exact HK.out | apply KeepBut.set_ | apply keep_drewN | apply keep_drew | apply keep_alloc) | exact HK.out)) (KeepBut.of_below hb g none) (.inl rfl)); have n2_ := Aside0.mk (below_step (by repeat (first | (with_reducible first | exact HB.out | apply below_alloc | apply pw_below_drewN | apply below_drew1 | refine below_set ?_ (IsS62.ge HI0.out)) | exact HB.out)) hb); clear HI0; clear HK; clear HB; have HI0 := n0_; have HK := n1_; have HB := n2_; clear n0_ n1_ n2_; (try clear hb); (try clear hb2); (try clear hk); (try clear hi); obtain ⟨HGz11, hgz11⟩ := HI0.out; have hcz11_0 := cellS62_0 HGz11; have hcz11_1 := cellS62_1 HGz11; have hcz11_2 := cellS62_2 HGz11; have hcz11_3 := cellS62_3 HGz11; have hcz11_4 := cellS62_4 HGz11; have hcz11_5 := cellS62_5 HGz11; have hcz11_6 := cellS62_6 HGz11; have hfz11_0 := blk_frozen HGz11 0; have hfz11_1 := blk_frozen HGz11 1; have hfz11_2 := blk_frozen HGz11 2; have hfz11_3 := blk_frozen HGz11 3; have hfz11_4 := blk_frozen HGz11 4; have hfz11_5 := blk_frozen HGz11 5; have hfz11_6 := blk_frozen HGz11 6; clear HGz11 hgz11))
      go_ret
      exact ⟨by first | rfl | (simp [errW_none, errW_some] <;> rfl) | (simp [*, errW_none, errW_some] <;> rfl), by repeat (first | (with_reducible first | exact HI0.out | apply IsS62.alloc | apply IsS62.drewN | apply IsS62.drew | apply IsS62.set_0 | apply IsS62.set_1 | apply IsS62.set_2 | apply IsS62.set_3 | apply IsS62.set_4 | apply IsS62.set_5 | apply IsS62.set_6) | exact HI0.out), by repeat (first | (with_reducible first | exact HB.out | apply below_alloc | apply pw_below_drewN | apply below_drew1 | refine below_set ?_ (IsS62.ge HI0.out)) | exact HB.out), by repeat (first | (with_reducible first | exact HK.out | apply KeepBut.set_ | apply keep_drewN | apply keep_drew | apply keep_alloc) | exact HK.out)⟩
    · rw [if_neg c8] at H
      have c8b0 : (a1 == 2) = false := beq_eq_false_iff_ne.mpr c8
      have c8b1 : (a1 != 2) = true := bne_iff_ne.mpr c8
      by_cases c12 : a1 = 3
      · rw [if_pos c12] at H
        have c12b0 : (a1 == 3) = true := beq_iff_eq.mpr c12
        have c12b1 : (a1 != 3) = false := bne_eq_false_iff_eq.mpr c12
        clear c12
        replace H := Option.bind_eq_some_iff.mp H
        obtain ⟨⟨t437, t438⟩, A130, H⟩ := H
        replace H : (some (t438, s0_0, s0_1, t437, s0_3, s0_4, s0_5, s0_6)) = some (r1, r2, r3, r4, r5, r6, r7, r8) := H
        have A13 := Aside0.mk A130
        clear A130
        simp only [Option.some.injEq, Prod.mk.injEq] at H
        obtain ⟨rfl, rfl, rfl, rfl, rfl, rfl, rfl, rfl⟩ := H
        go_enter Tryz.func196, Tryz.ntmps196
        go_wp2_with (first | ((with_reducible refine gate_callee (f := 132) rfl ?_); refine goesL_ (some 33) rfl rfl Tryz.func132 (by kernel_rfl) rfl #[.slice A2 l2.length c2] rfl (by (try simp only [List.map_toArray, List.map_cons, List.map_nil]); first | done | rfl | (simp only [List.length_drop, List.length_take]; rfl)) ?_; (with_reducible refine (num_Get.calls k _ _ l2 t437 t438 _ ?side1 ?side2 A13.out).mono ?_); (case side1 => exact Kd.C_keep 0 HR2.out (by repeat (first | (with_reducible first | exact HK.out | apply KeepBut.set_ | apply keep_drewN | apply keep_drew | apply keep_alloc) | exact HK.out)) hf2); (case side2 => exact HC2.out); rintro e w14 ⟨rfl, hb⟩; refine ⟨_, rfl, ?_⟩; have n0_ := Aside0.mk (IsS62.below (by repeat (first | (with_reducible first | exact HI0.out | apply IsS62.alloc | apply IsS62.drewN | apply IsS62.drew | apply IsS62.set_0 | apply IsS62.set_1 | apply IsS62.set_2 | apply IsS62.set_3 | apply IsS62.set_4 | apply IsS62.set_5 | apply IsS62.set_6) | exact HI0.out)) hb); have n1_ := Aside0.mk (KeepBut.trans (by repeat (first | (with_reducible first | exact HK.out | apply KeepBut.set_ | apply keep_drewN | apply keep_drew | apply keep_alloc) | exact HK.out)) (KeepBut.of_below hb g none) (.inl rfl)); have n2_ := Aside0.mk (below_step (by repeat (first | (with_reducible first | exact HB.out | apply below_alloc | apply pw_below_drewN | apply below_drew1 | refine below_set ?_ (IsS62.ge HI0.out)) | exact HB.out)) hb); clear HI0; clear HK; clear HB; have HI0 := n0_; have HK := n1_; have HB := n2_; clear n0_ n1_ n2_; (try clear hb); (try clear hb2); (try clear hk); (try clear hi); obtain ⟨HGz15, hgz15⟩ := HI0.out; have hcz15_0 := cellS62_0 HGz15; have hcz15_1 := cellS62_1 HGz15; have hcz15_2 := cellS62_2 HGz15; have hcz15_3 := cellS62_3 HGz15; have hcz15_4 := cellS62_4 HGz15; have hcz15_5 := cellS62_5 HGz15; have hcz15_6 := cellS62_6 HGz15; have hfz15_0 := blk_frozen HGz15 0; have hfz15_1 := blk_frozen HGz15 1; have hfz15_2 := blk_frozen HGz15 2; have hfz15_3 := blk_frozen HGz15 3; have hfz15_4 := blk_frozen HGz15 4; have hfz15_5 := blk_frozen HGz15 5; have hfz15_6 := blk_frozen HGz15 6; clear HGz15 hgz15))
        go_ret
        exact ⟨by first | rfl | (simp [errW_none, errW_some] <;> rfl) | (simp [*, errW_none, errW_some] <;> rfl), by repeat (first | (with_reducible first | exact HI0.out | apply IsS62.alloc | apply IsS62.drewN | apply IsS62.drew | apply IsS62.set_0 | apply IsS62.set_1 | apply IsS62.set_2 | apply IsS62.set_3 | apply IsS62.set_4 | apply IsS62.set_5 | apply IsS62.set_6) | exact HI0.out), by repeat (first | (with_reducible first | exact HB.out | apply below_alloc | apply pw_below_drewN | apply below_drew1 | refine below_set ?_ (IsS62.ge HI0.out)) | exact HB.out), by repeat (first | (with_reducible first | exact HK.out | apply KeepBut.set_ | apply keep_drewN | apply keep_drew | apply keep_alloc) | exact HK.out)⟩
      · rw [if_neg c12] at H
        have c12b0 : (a1 == 3) = false := beq_eq_false_iff_ne.mpr c12
        have c12b1 : (a1 != 3) = true := bne_iff_ne.mpr c12
        by_cases c16 : a1 = 4
        · rw [if_pos c16] at H
          have c16b0 : (a1 == 4) = true := beq_iff_eq.mpr c16
          have c16b1 : (a1 != 4) = false := bne_eq_false_iff_eq.mpr c16
          clear c16
          replace H := Option.bind_eq_some_iff.mp H
          obtain ⟨⟨t439, t440, t441, t442⟩, A170, H⟩ := H
          replace H : (some (t442, s0_0, s0_1, s0_2, t439, t440, t441, s0_6)) = some (r1, r2, r3, r4, r5, r6, r7, r8) := H
          have A17 := Aside0.mk A170
          clear A170
          simp only [Option.some.injEq, Prod.mk.injEq] at H
          obtain ⟨rfl, rfl, rfl, rfl, rfl, rfl, rfl, rfl⟩ := H
          go_enter Tryz.func196, Tryz.ntmps196
          go_wp2_with (first | ((with_reducible refine gate_callee (f := 180) rfl ?_); refine goesL_ (some 43) rfl rfl Tryz.func180 (by kernel_rfl) rfl #[.slice A2 l2.length c2] rfl (by (try simp only [List.map_toArray, List.map_cons, List.map_nil]); first | done | rfl | (simp only [List.length_drop, List.length_take]; rfl)) ?_; (with_reducible refine (codec_GetOp.calls k _ _ l2 t439 t440 t441 t442 _ ?side1 ?side2 A17.out).mono ?_); (case side1 => exact Kd.C_keep 0 HR2.out (by repeat (first | (with_reducible first | exact HK.out | apply KeepBut.set_ | apply keep_drewN | apply keep_drew | apply keep_alloc) | exact HK.out)) hf2); (case side2 => exact HC2.out); rintro e w18 ⟨rfl, hb⟩; refine ⟨_, rfl, ?_⟩; have n0_ := Aside0.mk (IsS62.below (by repeat (first | (with_reducible first | exact HI0.out | apply IsS62.alloc | apply IsS62.drewN | apply IsS62.drew | apply IsS62.set_0 | apply IsS62.set_1 | apply IsS62.set_2 | apply IsS62.set_3 | apply IsS62.set_4 | apply IsS62.set_5 | apply IsS62.set_6) | exact HI0.out)) hb); have n1_ := Aside0.mk (KeepBut.trans (by repeat (first | (with_reducible first | exact HK.out | apply KeepBut.set_ | apply keep_drewN | apply keep_drew | apply keep_alloc) | exact HK.out)) (KeepBut.of_below hb g none) (.inl rfl)); have n2_ := Aside0.mk (below_step (by repeat (first | (with_reducible first | exact HB.out | apply below_alloc | apply pw_below_drewN | apply below_drew1 | refine below_set ?_ (IsS62.ge HI0.out)) | exact HB.out)) hb); clear HI0; clear HK; clear HB; have HI0 := n0_; have HK := n1_; have HB := n2_; clear n0_ n1_ n2_; (try clear hb); (try clear hb2); (try clear hk); (try clear hi); obtain ⟨HGz19, hgz19⟩ := HI0.out; have hcz19_0 := cellS62_0 HGz19; have hcz19_1 := cellS62_1 HGz19; have hcz19_2 := cellS62_2 HGz19; have hcz19_3 := cellS62_3 HGz19; have hcz19_4 := cellS62_4 HGz19; have hcz19_5 := cellS62_5 HGz19; have hcz19_6 := cellS62_6 HGz19; have hfz19_0 := blk_frozen HGz19 0; have hfz19_1 := blk_frozen HGz19 1; have hfz19_2 := blk_frozen HGz19 2; have hfz19_3 := blk_frozen HGz19 3; have hfz19_4 := blk_frozen HGz19 4; have hfz19_5 := blk_frozen HGz19 5; have hfz19_6 := blk_frozen HGz19 6; clear HGz19 hgz19))
          go_ret
          exact ⟨by first | rfl | (simp [errW_none, errW_some] <;> rfl) | (simp [*, errW_none, errW_some] <;> rfl), by repeat (first | (with_reducible first | exact HI0.out | apply IsS62.alloc | apply IsS62.drewN | apply IsS62.drew | apply IsS62.set_0 | apply IsS62.set_1 | apply IsS62.set_2 | apply IsS62.set_3 | apply IsS62.set_4 | apply IsS62.set_5 | apply IsS62.set_6) | exact HI0.out), by repeat (first | (with_reducible first | exact HB.out | apply below_alloc | apply pw_below_drewN | apply below_drew1 | refine below_set ?_ (IsS62.ge HI0.out)) | exact HB.out), by repeat (first | (with_reducible first | exact HK.out | apply KeepBut.set_ | apply keep_drewN | apply keep_drew | apply keep_alloc) | exact HK.out)⟩
        · rw [if_neg c16] at H
          have c16b0 : (a1 == 4) = false := beq_eq_false_iff_ne.mpr c16
          have c16b1 : (a1 != 4) = true := bne_iff_ne.mpr c16
          by_cases c20 : a1 = 5
          · rw [if_pos c20] at H
            have c20b0 : (a1 == 5) = true := beq_iff_eq.mpr c20
            have c20b1 : (a1 != 5) = false := bne_eq_false_iff_eq.mpr c20
            clear c20
            replace H := Option.bind_eq_some_iff.mp H
            obtain ⟨⟨t443, t444⟩, A210, H⟩ := H
            replace H : (some (t444, s0_0, s0_1, s0_2, s0_3, s0_4, s0_5, t443)) = some (r1, r2, r3, r4, r5, r6, r7, r8) := H
            have A21 := Aside0.mk A210
            clear A210
            simp only [Option.some.injEq, Prod.mk.injEq] at H
            obtain ⟨rfl, rfl, rfl, rfl, rfl, rfl, rfl, rfl⟩ := H
            go_enter Tryz.func196, Tryz.ntmps196
            go_wp2_with (first | ((with_reducible refine gate_callee (f := 179) rfl ?_); refine goesL_ (some 53) rfl rfl Tryz.func179 (by kernel_rfl) rfl #[.slice A2 l2.length c2] rfl (by (try simp only [List.map_toArray, List.map_cons, List.map_nil]); first | done | rfl | (simp only [List.length_drop, List.length_take]; rfl)) ?_; (with_reducible refine (num_GetSigned.calls k _ _ l2 t443 t444 _ ?side1 ?side2 A21.out).mono ?_); (case side1 => exact Kd.C_keep 0 HR2.out (by repeat (first | (with_reducible first | exact HK.out | apply KeepBut.set_ | apply keep_drewN | apply keep_drew | apply keep_alloc) | exact HK.out)) hf2); (case side2 => exact HC2.out); rintro e w22 ⟨rfl, hb⟩; refine ⟨_, rfl, ?_⟩; have n0_ := Aside0.mk (IsS62.below (by repeat (first | (with_reducible first | exact HI0.out | apply IsS62.alloc | apply IsS62.drewN | apply IsS62.drew | apply IsS62.set_0 | apply IsS62.set_1 | apply IsS62.set_2 | apply IsS62.set_3 | apply IsS62.set_4 | apply IsS62.set_5 | apply IsS62.set_6) | exact HI0.out)) hb); have n1_ := Aside0.mk (KeepBut.trans (by repeat (first | (with_reducible first | exact HK.out | apply KeepBut.set_ | apply keep_drewN | apply keep_drew | apply keep_alloc) | exact HK.out)) (KeepBut.of_below hb g none) (.inl rfl)); have n2_ := Aside0.mk (below_step (by repeat (first | (with_reducible first | exact HB.out | apply below_alloc | apply pw_below_drewN | apply below_drew1 | refine below_set ?_ (IsS62.ge HI0.out)) | exact HB.out)) hb); clear HI0; clear HK; clear HB; have HI0 := n0_; have HK := n1_; have HB := n2_; clear n0_ n1_ n2_; (try clear hb); (try clear hb2); (try clear hk); (try clear hi); obtain ⟨HGz23, hgz23⟩ := HI0.out; have hcz23_0 := cellS62_0 HGz23; have hcz23_1 := cellS62_1 HGz23; have hcz23_2 := cellS62_2 HGz23; have hcz23_3 := cellS62_3 HGz23; have hcz23_4 := cellS62_4 HGz23; have hcz23_5 := cellS62_5 HGz23; have hcz23_6 := cellS62_6 HGz23; have hfz23_0 := blk_frozen HGz23 0; have hfz23_1 := blk_frozen HGz23 1; have hfz23_2 := blk_frozen HGz23 2; have hfz23_3 := blk_frozen HGz23 3; have hfz23_4 := blk_frozen HGz23 4; have hfz23_5 := blk_frozen HGz23 5; have hfz23_6 := blk_frozen HGz23 6; clear HGz23 hgz23))
            go_ret
            exact ⟨by first | rfl | (simp [errW_none, errW_some] <;> rfl) | (simp [*, errW_none, errW_some] <;> rfl), by repeat (first | (with_reducible first | exact HI0.out | apply IsS62.alloc | apply IsS62.drewN | apply IsS62.drew | apply IsS62.set_0 | apply IsS62.set_1 | apply IsS62.set_2 | apply IsS62.set_3 | apply IsS62.set_4 | apply IsS62.set_5 | apply IsS62.set_6) | exact HI0.out), by repeat (first | (with_reducible first | exact HB.out | apply below_alloc | apply pw_below_drewN | apply below_drew1 | refine below_set ?_ (IsS62.ge HI0.out)) | exact HB.out), by repeat (first | (with_reducible first | exact HK.out | apply KeepBut.set_ | apply keep_drewN | apply keep_drew | apply keep_alloc) | exact HK.out)⟩
          · rw [if_neg c20] at H
            have c20b0 : (a1 == 5) = false := beq_eq_false_iff_ne.mpr c20
            have c20b1 : (a1 != 5) = true := bne_iff_ne.mpr c20
            simp only [Option.some.injEq, Prod.mk.injEq] at H
            obtain ⟨rfl, rfl, rfl, rfl, rfl, rfl, rfl, rfl⟩ := H
            go_enter Tryz.func196, Tryz.ntmps196
            go_wp2
            go_ret
            exact ⟨by first | rfl | (simp [errW_none, errW_some] <;> rfl) | (simp [*, errW_none, errW_some] <;> rfl), by repeat (first | (with_reducible first | exact HI0.out | apply IsS62.alloc | apply IsS62.drewN | apply IsS62.drew | apply IsS62.set_0 | apply IsS62.set_1 | apply IsS62.set_2 | apply IsS62.set_3 | apply IsS62.set_4 | apply IsS62.set_5 | apply IsS62.set_6) | exact HI0.out), by repeat (first | (with_reducible first | exact HB.out | apply below_alloc | apply pw_below_drewN | apply below_drew1 | refine below_set ?_ (IsS62.ge HI0.out)) | exact HB.out), by repeat (first | (with_reducible first | exact HK.out | apply KeepBut.set_ | apply keep_drewN | apply keep_drew | apply keep_alloc) | exact HK.out)⟩

end Go.Proofs.YtgljebaiakhbfaaGreat.QTopUpgrades
