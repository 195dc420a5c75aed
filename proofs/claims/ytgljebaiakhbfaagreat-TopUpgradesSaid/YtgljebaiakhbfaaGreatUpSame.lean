/- What this text proves: two lists of records that are one are told to be the same; condition: both are read. -/
import Derived.Test.YtgljebaiakhbfaaGreatQTopUpgradesyD0
namespace Go.Proofs.YtgljebaiakhbfaaGreat.QTopUpgrades
open Go.RowKit Go.Proofs.YtgljebaiakhbfaaGreatW.PrintWords Go.Proofs.YtgljebaiakhbfaaGreatW.PrintLast Go.Proofs.YtgljebaiakhbfaaGreatW.PrintMore
set_option linter.unusedVariables false
set_option linter.unusedSimpArgs false
set_option maxRecDepth 100000
theorem eqOp (d : Nat) (w : World) (x0 y0 : Int) (x1 y1 : Int) (x2 y2 : Int) :
    (Op.equalIn (d + 2) 38 (.agg #[.int .i64 x0, .int .i64 x1, .int .i64 x2]) (.agg #[.int .i64 y0, .int .i64 y1, .int .i64 y2])).run Tryz.prog w = .ok (x0 == y0 && (x1 == y1 && (x2 == y2))) w := by
  refine eqA_of Tryz.underlying38 (by kernel_rfl) ?_
  refine eqf_cons (by rfl) (by go_simp; rfl) (by go_simp; rfl) (by go_simp) ?_
  refine eqf_cons (by rfl) (by go_simp; rfl) (by go_simp; rfl) (by go_simp) ?_
  exact eqf_last (by rfl) (by go_simp; rfl) (by go_simp; rfl) (by go_simp)
theorem eqRec (d : Nat) (w : World) (x0 x1 x2 x3 x4 x5 x6 : Int) :
    (Op.equalIn (d + 3) 62 (.agg #[.int .i64 x0, .int .i64 x1, .int .i64 x2, .int .i64 x3, .int .i64 x4, .int .i64 x5, .int .i64 x6]) (.agg #[.int .i64 x0, .int .i64 x1, .int .i64 x2, .int .i64 x3, .int .i64 x4, .int .i64 x5, .int .i64 x6])).run Tryz.prog w = .ok true w := by
  have h : (Op.equalIn (d + 3) 62 (.agg #[.int .i64 x0, .int .i64 x1, .int .i64 x2, .int .i64 x3, .int .i64 x4, .int .i64 x5, .int .i64 x6]) (.agg #[.int .i64 x0, .int .i64 x1, .int .i64 x2, .int .i64 x3, .int .i64 x4, .int .i64 x5, .int .i64 x6])).run Tryz.prog w = .ok (x0 == x0 && (x1 == x1 && (x2 == x2 && ((x3 == x3 && (x4 == x4 && (x5 == x5))) && (x6 == x6))))) w := by
    refine eqA_of Tryz.underlying62 (by kernel_rfl) ?_
    refine eqf_cons (by rfl) (by go_simp; rfl) (by go_simp; rfl) (by go_simp) ?_
    refine eqf_cons (by rfl) (by go_simp; rfl) (by go_simp; rfl) (by go_simp) ?_
    refine eqf_cons (by rfl) (by go_simp; rfl) (by go_simp; rfl) (by go_simp) ?_
    refine eqf_cons (by rfl) (by first | (go_simp; done) | (go_simp; rfl)) (by first | (go_simp; done) | (go_simp; rfl)) (eqOp d w _ _ _ _ _ _) ?_
    exact eqf_last (by rfl) (by go_simp; rfl) (by go_simp; rfl) (by go_simp)
  simpa using h
attribute [local go_sem high] eqRec
set_option maxHeartbeats 8000000 in
theorem same_calls (A0 : Option Addr) (c0 : Nat) (A1 : Option Addr) (c1 : Nat) (l : List S62) (w : World) (hr0 : Kd.C k62 w A0 l.length l) (hr1 : Kd.C k62 w A1 l.length l) (hl : l.length ≤ 1000000) :
    Calls Tryz.prog 8 #[.slice A0 l.length c0, .slice A1 l.length c1] w fun e w' => e = .returned (.bool true) ∧ Below w.heap.size w w' := by
  have hu62 := Tryz.underlying62
  have HR0 := Aside0.mk hr0
  have HR1 := Aside0.mk hr1
  have HL := Aside0.mk hl
  clear hr0 hr1
  have t1 : ((l.length : Int) != (l.length : Int)) = false := by simp
  go_enter Tryz.func8, Tryz.ntmps8
  go_wp2
  go_loopg [5] (l.length + 1) (fun kq v5 w' => ∃ (i : Nat), v5 = .int .i64 i ∧ Aside0 (i ≤ l.length ∧ l.length + 1 ≤ i + kq) ∧ Aside0 (Below w.heap.size w w'))
  case atStart => exact ⟨0, rfl, ⟨by omega⟩, ⟨Below.refl _ _⟩⟩
  case round =>
    obtain ⟨i, rfl, HI, HB⟩ := hrel
    cases gk with
    | zero => exact absurd HI.out (by omega)
    | succ k1 =>
      by_cases hlt : i < l.length
      · obtain ⟨ad0, e0, hx0, hx1, hx2, hx3, hx4, hx5, hx6⟩ := at_T62 (Kd.C_below HR0.out HB.out) (i : Int) (by omega) (by omega)
        cases e0
        obtain ⟨ad1, e1, hy0, hy1, hy2, hy3, hy4, hy5, hy6⟩ := at_T62 (Kd.C_below HR1.out HB.out) (i : Int) (by omega) (by omega)
        cases e1
        obtain ⟨r, hr⟩ : ∃ r, r = rd_T62 l (i : Int) := ⟨_, rfl⟩
        rw [← hr] at hx0 hx1 hx2 hx3 hx4 hx5 hx6 hy0 hy1 hy2 hy3 hy4 hy5 hy6
        rw [Int.toNat_natCast] at hx0 hx1 hx2 hx3 hx4 hx5 hx6 hy0 hy1 hy2 hy3 hy4 hy5 hy6
        clear hr
        go_upto_region 6 with fail
        go_quiet (fail)
        go_wp2
        go_roundg k1
        case measure => omega
        case rel => exact ⟨i + 1, by go_num, ⟨by have := HI.out; omega⟩, ⟨pw_below_drewN HB.out _⟩⟩
      · go_wp2
        go_ret
        exact ⟨rfl, HB.out⟩
end Go.Proofs.YtgljebaiakhbfaaGreat.QTopUpgrades
