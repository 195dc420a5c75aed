/- What this text proves: the functions that a law reaches, as functions on numbers and lists, and that Go's come to their answers; no condition. Written by the kit's print program, turned (wip/tools/patch_print.py). -/
import Derived.Test.YtjkkkmgeolfhfaaQCrcBurstsx0
namespace Go.Proofs.Ytjkkkmgeolfhfaa.QCrcBursts
open Go.RowKit Go.Proofs.YtjkkkmgeolfhfaaW.PrintWords Go.Proofs.YtjkkkmgeolfhfaaW.PrintLast Go.Proofs.YtjkkkmgeolfhfaaW.PrintMore
attribute [local go_sem] max2_int min2_int max_two min_two max_three min_three max_four min_four   -- for this text's walks alone
set_option linter.unusedVariables false
set_option linter.unusedSimpArgs false

-- NOT PRINTED: function 12 (crc_Table)

/-! ### crc_More: function 15 -/
def crc_More.f (a0 : Int) (l1 : List Int) : Option (Int) := Go.Proofs.Ytjkkkmgeolfhfaa.Own.moreF a0 l1
theorem crc_More.calls (a0 : Int) (A1 : Option Addr) (c1 : Nat) (l1 : List Int) (r : Int) (w : World) (hr1 : Kd.C (Kd.int .u8) w A1 l1.length l1) (hc1 : l1.length ≤ c1) (h : crc_More.f a0 l1 = some r) :
    Calls Try.prog 15 #[.int .u32 a0, .slice A1 l1.length c1] w fun e w' => e = .returned (.int .u32 r) ∧ Below w.heap.size w w' :=
  Go.Proofs.Ytjkkkmgeolfhfaa.Own.more_calls a0 A1 c1 l1 r w hr1 hc1 h

/-! ### crc_Sum: function 13 -/
def crc_Sum.f (l0 : List Int) : Option (Int) := (crc_More.f 0 l0).bind fun t101 => (some t101)
set_option maxHeartbeats 8000000 in
set_option maxRecDepth 100000 in
theorem crc_Sum.calls (A0 : Option Addr) (c0 : Nat) (l0 : List Int) (r : Int) (w : World) (hr0 : Kd.C (Kd.int .u8) w A0 l0.length l0) (hc0 : l0.length ≤ c0) (h : crc_Sum.f l0 = some r) :
    Calls Try.prog 13 #[.slice A0 l0.length c0] w fun e w' => e = .returned (.int .u32 r) ∧ Below w.heap.size w w' := by
  have HR0 := Aside0.mk hr0
  have HC0 := Aside0.mk hc0
  clear hr0 hc0
  have HB := Aside0.mk (Below.refl w.heap.size w)
  have H : ((crc_More.f 0 l0).bind fun t101 => (some t101)) = some r := h
  clear h
  replace H := Option.bind_eq_some_iff.mp H
  obtain ⟨t101, A20, H⟩ := H
  replace H : (some t101) = some r := H
  have A2 := Aside0.mk A20
  clear A20
  obtain rfl := Option.some.inj H
  go_enter Try.func13, Try.ntmps13
  go_wp2_with (first | ((with_reducible refine gate_callee (f := 15) rfl ?_); refine goesL_ (some 4) rfl rfl Try.func15 (by kernel_rfl) rfl #[.int .u32 0, .slice A0 l0.length c0] rfl (by (try simp only [List.map_toArray, List.map_cons, List.map_nil]); first | done | rfl | (simp only [List.length_drop, List.length_take]; rfl)) ?_; (with_reducible refine (crc_More.calls 0 _ _ l0 t101 _ ?side1 ?side2 A2.out).mono ?_); (case side1 => repeat (first | exact HR0.out | (with_reducible refine Kd.C_alloc ?_ _) | (with_reducible refine Kd.C_drewN ?_ _) | (with_reducible refine Kd.C_drew ?_))); (case side2 => exact HC0.out); rintro e w3 ⟨rfl, hb⟩; refine ⟨_, rfl, ?_⟩; have n0_ := Aside0.mk (below_step (by repeat (first | (with_reducible first | exact HB.out | apply below_alloc | apply pw_below_drewN | apply below_drew1) | exact HB.out)) hb); clear HB; have HB := n0_; clear n0_; (try clear hb); (try clear hb2); (try clear hk); (try clear hi)))
  go_ret
  exact ⟨by first | rfl | (simp [errW_none, errW_some] <;> rfl) | (simp [*, errW_none, errW_some] <;> rfl), by repeat (first | (with_reducible first | exact HB.out | apply below_alloc | apply pw_below_drewN | apply below_drew1) | exact HB.out)⟩

/-! ### ferrymanlaw02_awake: function 11 -/
def ferrymanlaw02_awake.f : Option (Bool) := some true
theorem sum9 : crc_Sum.f [49, 50, 51, 52, 53, 54, 55, 56, 57] = some 3808858755 := by
  have e : crc_More.f 0 [49, 50, 51, 52, 53, 54, 55, 56, 57] = some 3808858755 := by decide +kernel
  unfold crc_Sum.f
  rw [e]
  rfl
theorem sum0 : crc_Sum.f [] = some 0 := by
  have e : crc_More.f 0 [] = some 0 := by decide +kernel
  unfold crc_Sum.f
  rw [e]
  rfl
theorem nine_reads (W : World) : Kd.C (Kd.int .u8) (W.alloc (.cells #[.int .u8 49, .int .u8 50, .int .u8 51, .int .u8 52, .int .u8 53, .int .u8 54, .int .u8 55, .int .u8 56, .int .u8 57] 5 (9, 10))) (some ⟨W.heap.size, 0, none⟩) 9 [49, 50, 51, 52, 53, 54, 55, 56, 57] := by
  refine Kd.C_of_reads (readsInt_of.1 ⟨rfl, by decide, fun _ => ⟨_, rfl, fun i hi => ?_⟩⟩)
  have hi : i < 9 := hi
  have e : (⟨W.heap.size, 0, none⟩ : Addr).add i = ⟨W.heap.size, i, none⟩ := by unfold Addr.add; split <;> simp_all
  rw [e, World.cell?_alloc_mark]
  have key : ∀ i : Fin 9, (#[Value.int .u8 49, .int .u8 50, .int .u8 51, .int .u8 52, .int .u8 53, .int .u8 54, .int .u8 55, .int .u8 56, .int .u8 57])[i.val]? = some (.int .u8 (rd [49, 50, 51, 52, 53, 54, 55, 56, 57] (i.val : Nat))) := by
    intro i
    obtain ⟨i, hi⟩ := i
    rcases i with _ | _ | _ | _ | _ | _ | _ | _ | _ | i
    all_goals first | rfl | omega
  exact key ⟨i, hi⟩
set_option maxHeartbeats 8000000 in
set_option maxRecDepth 100000 in
theorem ferrymanlaw02_awake.calls (r : Bool) (w : World) (h : ferrymanlaw02_awake.f = some r) :
    Calls Try.prog 11 #[] w fun e w' => e = .returned (.bool r) ∧ Below w.heap.size w w' := by
  obtain rfl := Option.some.inj h
  clear h
  have kc := fun (w : World) (C : Array Value) (n c : Nat) => Lib.run_convert_bytes_const (P := Try.prog) w 23 5 C n c Try.underlying23 Try.underlying5
  have tok1_ : True := trivial
  go_enter Try.func11, Try.ntmps11
  go_wp2_with (first
    | (go_at_call 13; clear tok1_; refine (crc_Sum.calls (some ⟨w.heap.size, 0, none⟩) 9 [49, 50, 51, 52, 53, 54, 55, 56, 57] 3808858755 _ (nine_reads w) (Nat.le_refl _) sum9).mono ?_; rintro e w1 ⟨rfl, hb⟩; have HB := Aside0.mk (below_step (below_alloc (Below.refl _ _) _) hb); clear hb)
    | (go_at_call 13; refine (crc_Sum.calls none 0 [] 0 _ (Kd.C_nil _ _) (Nat.le_refl _) sum0).mono ?_; rintro e w2 ⟨rfl, hb⟩; have HB2 := Aside0.mk (below_step HB.out hb); clear hb))
  go_ret
  exact ⟨rfl, HB2.out⟩

/-! ### ferrymanlaw02_CrcBursts: function 5 -/
mutual
def ferrymanlaw02_CrcBursts.j0 : Nat → List Int → Int → Int → Bool → Bool → Option (Bool)
  | 0, _, _, _, _, _ => none
  | k + 1, x0, x1, x2, x7, x30 => if x30 = true then (some x7) else (if ([] : List Int).length + x0.length < 140737488355328 then (ferrymanlaw02_CrcBursts.l0 k x0 x1 x2 x7 (([] : List Int) ++ x0) false 0) else (none))
def ferrymanlaw02_CrcBursts.l0 : Nat → List Int → Int → Int → Bool → List Int → Bool → Int → Option (Bool)
  | 0, _, _, _, _, _, _, _ => none
  | k + 1, x0, x1, x2, x7, x8, x9, x10 => if x10 < 32 then (if 0 ≤ (IntKind.u64.wrap (x10)) then (if (Int.tmod (shr .u32 x2 (IntKind.u64.wrap (x10))) 2) = 1 then (if (wrap64 (x1 + x10)) < (wrap64 (8 * (x8.length : Int))) then (if 0 ≤ (wrap64 (Int.tdiv (wrap64 (x1 + x10)) 8)) then (if (wrap64 (Int.tdiv (wrap64 (x1 + x10)) 8)) < (x8.length : Int) then (if 0 ≤ (IntKind.u64.wrap (Int.tmod (wrap64 (x1 + x10)) 8)) then (ferrymanlaw02_CrcBursts.l0 k x0 x1 x2 x7 (x8.set ((wrap64 (Int.tdiv (wrap64 (x1 + x10)) 8)) : Int).toNat (Go.bits .xor .u8 (rd x8 (wrap64 (Int.tdiv (wrap64 (x1 + x10)) 8))) (shl .u8 1 (IntKind.u64.wrap (Int.tmod (wrap64 (x1 + x10)) 8))))) true (wrap64 (x10 + 1))) else (none)) else (none)) else (none)) else (ferrymanlaw02_CrcBursts.l0 k x0 x1 x2 x7 x8 x9 (wrap64 (x10 + 1)))) else (ferrymanlaw02_CrcBursts.l0 k x0 x1 x2 x7 x8 x9 (wrap64 (x10 + 1)))) else (none)) else (if x7 = true then ((crc_Sum.f x0).bind fun t108 => ((crc_Sum.f x8).bind fun t109 => (some ((t108 != t109) == x9)))) else (some false))
end
def ferrymanlaw02_CrcBursts.f (k : Nat) (l0 : List Int) (a1 : Int) (a2 : Int) : Option (Bool) := (ferrymanlaw02_awake.f).bind fun t102 => (if (l0.length : Int) > 1000 then (ferrymanlaw02_CrcBursts.j0 k l0 a1 a2 t102 true) else (if a1 < 0 then (ferrymanlaw02_CrcBursts.j0 k l0 a1 a2 t102 true) else (if a1 ≥ (wrap64 (8 * (l0.length : Int))) then (ferrymanlaw02_CrcBursts.j0 k l0 a1 a2 t102 true) else (ferrymanlaw02_CrcBursts.j0 k l0 a1 a2 t102 (a2 == 0)))))
theorem ferrymanlaw02_CrcBursts.mono_l : ∀ k, (∀ y0 y1 y2 y3 y4, LeO (ferrymanlaw02_CrcBursts.j0 k y0 y1 y2 y3 y4) (ferrymanlaw02_CrcBursts.j0 (k + 1) y0 y1 y2 y3 y4)) ∧ (∀ y0 y1 y2 y3 y4 y5 y6, LeO (ferrymanlaw02_CrcBursts.l0 k y0 y1 y2 y3 y4 y5 y6) (ferrymanlaw02_CrcBursts.l0 (k + 1) y0 y1 y2 y3 y4 y5 y6))
  | 0 => ⟨fun _ _ _ _ _ r h => by simp [ferrymanlaw02_CrcBursts.j0] at h, fun _ _ _ _ _ _ _ r h => by simp [ferrymanlaw02_CrcBursts.l0] at h⟩
  | k + 1 => by
    obtain ⟨ih0, ih1⟩ := ferrymanlaw02_CrcBursts.mono_l k
    refine ⟨?_, ?_⟩
    · intro y0 y1 y2 y3 y4
      unfold ferrymanlaw02_CrcBursts.j0
      repeat' first
      | (with_reducible exact ih0 _ _ _ _ _)
      | (with_reducible exact ih1 _ _ _ _ _ _ _)
      | (with_reducible exact LeO.refl _)
      | (with_reducible exact LeO.none _)
      | (with_reducible refine LeO.ite ?_ ?_)
      | (with_reducible refine LeO.bind ?_ (fun _ => ?_))
      | exact ih0 _ _ _ _ _
      | exact ih1 _ _ _ _ _ _ _
      | exact LeO.none _
      | refine LeO.ite ?_ ?_
      | refine LeO.bind ?_ (fun _ => ?_)
    · intro y0 y1 y2 y3 y4 y5 y6
      unfold ferrymanlaw02_CrcBursts.l0
      repeat' first
      | (with_reducible exact ih0 _ _ _ _ _)
      | (with_reducible exact ih1 _ _ _ _ _ _ _)
      | (with_reducible exact LeO.refl _)
      | (with_reducible exact LeO.none _)
      | (with_reducible refine LeO.ite ?_ ?_)
      | (with_reducible refine LeO.bind ?_ (fun _ => ?_))
      | exact ih0 _ _ _ _ _
      | exact ih1 _ _ _ _ _ _ _
      | exact LeO.none _
      | refine LeO.ite ?_ ?_
      | refine LeO.bind ?_ (fun _ => ?_)
theorem ferrymanlaw02_CrcBursts.mono : ∀ a0 a1 a2 k, LeO (ferrymanlaw02_CrcBursts.f k a0 a1 a2) (ferrymanlaw02_CrcBursts.f (k + 1) a0 a1 a2) := by
  intro a0 a1 a2 k
  obtain ⟨ih0, ih1⟩ := ferrymanlaw02_CrcBursts.mono_l k
  unfold ferrymanlaw02_CrcBursts.f
  repeat' first
      | (with_reducible exact ih0 _ _ _ _ _)
      | (with_reducible exact ih1 _ _ _ _ _ _ _)
      | (with_reducible exact LeO.refl _)
      | (with_reducible exact LeO.none _)
      | (with_reducible refine LeO.ite ?_ ?_)
      | (with_reducible refine LeO.bind ?_ (fun _ => ?_))
      | exact ih0 _ _ _ _ _
      | exact ih1 _ _ _ _ _ _ _
      | exact LeO.none _
      | refine LeO.ite ?_ ?_
      | refine LeO.bind ?_ (fun _ => ?_)
set_option maxHeartbeats 8000000 in
set_option maxRecDepth 100000 in
theorem ferrymanlaw02_CrcBursts.calls (k : Nat) (A0 : Option Addr) (c0 : Nat) (l0 : List Int) (a1 : Int) (a2 : Int) (r : Bool) (w : World) (hr0 : Kd.C (Kd.int .u8) w A0 l0.length l0) (hc0 : l0.length ≤ c0) (h : ferrymanlaw02_CrcBursts.f k l0 a1 a2 = some r) :
    Calls Try.prog 5 #[.slice A0 l0.length c0, .int .i64 a1, .int .u32 a2] w fun e w' => e = .returned (.bool r) ∧ Below w.heap.size w w' := by
  have HR0 := Aside0.mk hr0
  have HC0 := Aside0.mk hc0
  clear hr0 hc0
  have HB := Aside0.mk (Below.refl w.heap.size w)
  have H : ((ferrymanlaw02_awake.f).bind fun t102 => (if (l0.length : Int) > 1000 then (ferrymanlaw02_CrcBursts.j0 k l0 a1 a2 t102 true) else (if a1 < 0 then (ferrymanlaw02_CrcBursts.j0 k l0 a1 a2 t102 true) else (if a1 ≥ (wrap64 (8 * (l0.length : Int))) then (ferrymanlaw02_CrcBursts.j0 k l0 a1 a2 t102 true) else (ferrymanlaw02_CrcBursts.j0 k l0 a1 a2 t102 (a2 == 0)))))) = some r := h
  clear h
  replace H := Option.bind_eq_some_iff.mp H
  obtain ⟨t102, A40, H⟩ := H
  replace H : (if (l0.length : Int) > 1000 then (ferrymanlaw02_CrcBursts.j0 k l0 a1 a2 t102 true) else (if a1 < 0 then (ferrymanlaw02_CrcBursts.j0 k l0 a1 a2 t102 true) else (if a1 ≥ (wrap64 (8 * (l0.length : Int))) then (ferrymanlaw02_CrcBursts.j0 k l0 a1 a2 t102 true) else (ferrymanlaw02_CrcBursts.j0 k l0 a1 a2 t102 (a2 == 0))))) = some r := H
  have A4 := Aside0.mk A40
  clear A40
  have HC5 := Aside0.mk H
  clear H
  go_enter Try.func5, Try.ntmps5
  go_upto_region 2 with (first | ((with_reducible refine gate_callee (f := 11) rfl ?_); refine goesL_ (some 12) rfl rfl Try.func11 (by kernel_rfl) rfl #[] rfl (by (try simp only [List.map_toArray, List.map_cons, List.map_nil]); first | done | rfl | (simp only [List.length_drop, List.length_take]; rfl)) ?_; (with_reducible refine (ferrymanlaw02_awake.calls  t102 _ A4.out).mono ?_); rintro e w6 ⟨rfl, hb⟩; refine ⟨_, rfl, ?_⟩; have n0_ := Aside0.mk (below_step (by repeat (first | (with_reducible first | exact HB.out | apply below_alloc | apply pw_below_drewN | apply below_drew1) | exact HB.out)) hb); clear HB; have HB := n0_; clear n0_; (try clear hb); (try clear hb2); (try clear hk); (try clear hi)))
  (try simp only [Act.put, List.setIfInBounds_toArray, List.set_cons_zero, List.set_cons_succ])
  go_cut [30] (fun v30 wc => ∃ (kq : Nat) (x30_4 : Bool), v30 = .bool x30_4 ∧ Aside0 (ferrymanlaw02_CrcBursts.j0 kq l0 a1 a2 t102 x30_4 = some r) ∧ Aside0 (kq ≤ k) ∧ Aside0 (Below w.heap.size w wc))
  case first =>
    have H := HC5.out
    clear HC5
    by_cases c7 : (l0.length : Int) > 1000
    · rw [if_pos c7] at H
      have c7b0 : decide (1000 < (l0.length : Int)) = true := decide_eq_true c7
      have c7b1 : decide (1000 < l0.length) = true := decide_eq_true (by omega)
      clear c7
      (first | rw [c7b0] | rw [c7b1] | (simp only [i64_w, i32_w]; rw [c7b0]) | skip)
      have H' := Aside0.mk H
      clear H
      go_wp2
      go_meet
      case rel => exact ⟨_, (true), (by first | rfl | (simp; done) | (simp [*]; done)), H', ⟨by first | omega | exact Nat.le_refl _⟩, ⟨by repeat (first | (with_reducible first | exact HB.out | apply below_alloc | apply pw_below_drewN | apply below_drew1) | exact HB.out)⟩⟩
    · rw [if_neg c7] at H
      have c7b0 : decide (1000 < (l0.length : Int)) = false := decide_eq_false c7
      have c7b1 : decide (1000 < l0.length) = false := decide_eq_false (by omega)
      clear c7
      (first | rw [c7b0] | rw [c7b1] | (simp only [i64_w, i32_w]; rw [c7b0]) | skip)
      by_cases c8 : a1 < 0
      · rw [if_pos c8] at H
        have c8b0 : decide (a1 < 0) = true := decide_eq_true c8
        clear c8
        have H' := Aside0.mk H
        clear H
        go_wp2
        go_meet
        case rel => exact ⟨_, (true), (by first | rfl | (simp; done) | (simp [*]; done)), H', ⟨by first | omega | exact Nat.le_refl _⟩, ⟨by repeat (first | (with_reducible first | exact HB.out | apply below_alloc | apply pw_below_drewN | apply below_drew1) | exact HB.out)⟩⟩
      · rw [if_neg c8] at H
        have c8b0 : decide (a1 < 0) = false := decide_eq_false c8
        clear c8
        by_cases c9 : a1 ≥ (wrap64 (8 * (l0.length : Int)))
        · rw [if_pos c9] at H
          have c9b0 : decide ((wrap64 (8 * (l0.length : Int))) ≤ a1) = true := decide_eq_true c9
          clear c9
          have H' := Aside0.mk H
          clear H
          go_wp2
          go_meet
          case rel => exact ⟨_, (true), (by first | rfl | (simp; done) | (simp [*]; done)), H', ⟨by first | omega | exact Nat.le_refl _⟩, ⟨by repeat (first | (with_reducible first | exact HB.out | apply below_alloc | apply pw_below_drewN | apply below_drew1) | exact HB.out)⟩⟩
        · rw [if_neg c9] at H
          have c9b0 : decide ((wrap64 (8 * (l0.length : Int))) ≤ a1) = false := decide_eq_false c9
          clear c9
          have H' := Aside0.mk H
          clear H
          go_wp2
          go_meet
          case rel => exact ⟨_, ((a2 == 0)), (by first | rfl | (simp; done) | (simp [*]; done)), H', ⟨by first | omega | exact Nat.le_refl _⟩, ⟨by repeat (first | (with_reducible first | exact HB.out | apply below_alloc | apply pw_below_drewN | apply below_drew1) | exact HB.out)⟩⟩
  case rest =>
    clear HC5
    try clear c1
    try clear p2
    try clear c5
    try clear p6
    try clear c7
    try clear c7b0
    try clear c7b1
    try clear c8
    try clear c8b0
    try clear c9
    try clear c9b0
    obtain ⟨kq, x30_4, rfl, HA, HJ4, HB⟩ := hcut
    cases kq with
    | zero => exact absurd HA.out (by simp [ferrymanlaw02_CrcBursts.j0])
    | succ kj4 =>
      have H := HA.out
      clear HA
      simp only [ferrymanlaw02_CrcBursts.j0] at H
      by_cases c10 : x30_4 = true
      · subst c10
        have H1 : (some t102) = some r := by rw [if_pos rfl] at H; exact H
        clear H
        have H := H1
        clear H1
        obtain rfl := Option.some.inj H
        go_wp2
        go_ret
        exact ⟨by first | rfl | (simp [errW_none, errW_some] <;> rfl) | (simp [*, errW_none, errW_some] <;> rfl), by repeat (first | (with_reducible first | exact HB.out | apply below_alloc | apply pw_below_drewN | apply below_drew1) | exact HB.out)⟩
      · replace c10 := Bool.eq_false_iff.mpr c10
        subst c10
        have H1 : (if ([] : List Int).length + l0.length < 140737488355328 then (ferrymanlaw02_CrcBursts.l0 kj4 l0 a1 a2 t102 (([] : List Int) ++ l0) false 0) else (none)) = some r := by rw [if_neg (show ¬ (false = true) by decide)] at H; exact H
        clear H
        have H := H1
        clear H1
        by_cases c11 : ([] : List Int).length + l0.length < 140737488355328
        · rw [if_pos c11] at H
          have LMc11 := Aside0.mk c11
          clear c11
          obtain ⟨y103, hy103⟩ : ∃ y_ : List Int, y_ = (([] : List Int) ++ l0) := ⟨_, rfl⟩
          replace H : (ferrymanlaw02_CrcBursts.l0 kj4 l0 a1 a2 t102 y103 false 0) = some r := by first | (rw [hy103]; with_reducible exact H) | (have H2_ := (Option.bind_some _ _).symm.trans H; rw [hy103]; with_reducible exact H2_) | (have H2_ := (Option.bind_some _ _).symm.trans H; with_reducible exact H2_) | with_reducible exact H | (rw [hy103]; exact H) | exact H
          have Ny103 := Aside0.mk hy103
          clear hy103
          have H' := Aside0.mk H
          clear H
          go_wp2_with (first | ((with_reducible refine gate_builtin (b := .append) (xs := #[.const (.slice none 0 0), .tmp 32]) rfl ?_); (try (refine gate_guard (by rfl) ?_; dsimp only)); at_builtin; refine Kd.R_append_rows (Kd.int .u8) (w0 := w) w.heap.size rfl (.const (.slice none 0 0)) (.tmp 32) 23 5 (.int .u8 0) 1 rfl Try.underlying23 info5 rfl (by decide) (by omega) (.slice none 0 0) ([] : List Int) l0 _ _ _ (fun _ => True) (fun _ => False) rfl rfl ?aO ?aR (fun _ _ h => h) (fun _ h => h.elim) ?aF ?aB ?aS ?aL ?_; (case aR => repeat (first | exact (Kd.C_below HR0.out HB.out) | (with_reducible refine Kd.C_alloc ?_ _) | (with_reducible refine Kd.C_drewN ?_ _) | (with_reducible refine Kd.C_drew ?_))); (case aB => exact (by repeat (first | (with_reducible first | exact HB.out | apply below_alloc | apply pw_below_drewN | apply below_drew1) | exact HB.out))); (case aF => exact (fun _ _ => trivial)); (case aO => exact ((Kd.R_nil _ _ _ _ (fun _ => True)))); (case aS => exact (below_size (by repeat (first | (with_reducible first | exact HB.out | apply below_alloc | apply pw_below_drewN | apply below_drew1) | exact HB.out)))); (case aL => have := LMc11.out; omega); intro v104 w12 ho hb hg hat; rw [← Ny103.out] at ho; have n0_ := Aside0.mk (hb); have n1_ := Aside0.mk (ho); clear HB; have HB := n0_; have HO105 := n1_; clear n0_ n1_; clear ho hb hg hat))
          go_loopg [9, 10] kj4 (fun kq v9 v10 w' => ∃ (x8_2 : List Int) (x9_2 : Bool) (x10_2 : Int), v9 = .bool x9_2 ∧ v10 = .int .i64 x10_2 ∧ Aside0 (ferrymanlaw02_CrcBursts.l0 kq l0 a1 a2 t102 x8_2 x9_2 x10_2 = some r) ∧ Aside0 (kq ≤ kj4) ∧ Aside0 (Kd.R (Kd.int .u8) 5 w' w.heap.size (fun _ => True) v104 x8_2) ∧ Aside0 (Below w.heap.size w w'))
          case atStart => exact ⟨(y103), (false), (0), (by first | rfl | (simp; done) | (simp [*]; done)), (by first | rfl | (simp; done) | (simp [*]; done)), H', ⟨Nat.le_refl _⟩, ⟨by (with_reducible repeat (first | apply Kd.R_alloc | apply Kd.R_drewN | apply Kd.R_drew)); exact HO105.out⟩, ⟨by repeat (first | (with_reducible first | exact HB.out | apply below_alloc | apply pw_below_drewN | apply below_drew1) | exact HB.out)⟩⟩
          case round =>
            clear H'
            try clear c1
            try clear p2
            try clear c5
            try clear p6
            try clear c7
            try clear c7b0
            try clear c7b1
            try clear c8
            try clear c8b0
            try clear c9
            try clear c9b0
            try clear c10
            try clear c11
            try clear p2
            try clear p6
            obtain ⟨x8_2, x9_2, x10_2, rfl, rfl, HA, HK2, HO_8, HB⟩ := hrel
            cases gk with
            | zero => exact absurd HA.out (by simp [ferrymanlaw02_CrcBursts.l0])
            | succ k2 =>
              have H := HA.out
              clear HA
              simp only [ferrymanlaw02_CrcBursts.l0] at H
              by_cases c13 : x10_2 < 32
              · rw [if_pos c13] at H
                have c13b0 : decide (x10_2 < 32) = true := decide_eq_true c13
                clear c13
                obtain ⟨ji14, hji14⟩ : ∃ j_ : Int, (IntKind.u64.wrap (x10_2)) = j_ := ⟨_, rfl⟩
                replace H : (if 0 ≤ (ji14) then (if (Int.tmod (shr .u32 a2 (ji14)) 2) = 1 then (if (wrap64 (a1 + x10_2)) < (wrap64 (8 * (x8_2.length : Int))) then (if 0 ≤ (wrap64 (Int.tdiv (wrap64 (a1 + x10_2)) 8)) then (if (wrap64 (Int.tdiv (wrap64 (a1 + x10_2)) 8)) < (x8_2.length : Int) then (if 0 ≤ (IntKind.u64.wrap (Int.tmod (wrap64 (a1 + x10_2)) 8)) then (ferrymanlaw02_CrcBursts.l0 k2 l0 a1 a2 t102 (x8_2.set ((wrap64 (Int.tdiv (wrap64 (a1 + x10_2)) 8)) : Int).toNat (Go.bits .xor .u8 (rd x8_2 (wrap64 (Int.tdiv (wrap64 (a1 + x10_2)) 8))) (shl .u8 1 (IntKind.u64.wrap (Int.tmod (wrap64 (a1 + x10_2)) 8))))) true (wrap64 (x10_2 + 1))) else (none)) else (none)) else (none)) else (ferrymanlaw02_CrcBursts.l0 k2 l0 a1 a2 t102 x8_2 x9_2 (wrap64 (x10_2 + 1)))) else (ferrymanlaw02_CrcBursts.l0 k2 l0 a1 a2 t102 x8_2 x9_2 (wrap64 (x10_2 + 1)))) else (none)) = some r := by first | (rw [hji14] at H; exact H) | (simp only [hji14] at H ⊢; exact H)
                by_cases c15 : 0 ≤ (ji14)
                · rw [if_pos c15] at H
                  have c15b0 := eq_true c15
                  have c15b1 : decide (0 ≤ (ji14)) = true := decide_eq_true c15
                  clear c15
                  obtain ⟨ji16, hji16⟩ : ∃ j_ : Int, (shr .u32 a2 (ji14)) = j_ := ⟨_, rfl⟩
                  replace H : (if (Int.tmod (ji16) 2) = 1 then (if (wrap64 (a1 + x10_2)) < (wrap64 (8 * (x8_2.length : Int))) then (if 0 ≤ (wrap64 (Int.tdiv (wrap64 (a1 + x10_2)) 8)) then (if (wrap64 (Int.tdiv (wrap64 (a1 + x10_2)) 8)) < (x8_2.length : Int) then (if 0 ≤ (IntKind.u64.wrap (Int.tmod (wrap64 (a1 + x10_2)) 8)) then (ferrymanlaw02_CrcBursts.l0 k2 l0 a1 a2 t102 (x8_2.set ((wrap64 (Int.tdiv (wrap64 (a1 + x10_2)) 8)) : Int).toNat (Go.bits .xor .u8 (rd x8_2 (wrap64 (Int.tdiv (wrap64 (a1 + x10_2)) 8))) (shl .u8 1 (IntKind.u64.wrap (Int.tmod (wrap64 (a1 + x10_2)) 8))))) true (wrap64 (x10_2 + 1))) else (none)) else (none)) else (none)) else (ferrymanlaw02_CrcBursts.l0 k2 l0 a1 a2 t102 x8_2 x9_2 (wrap64 (x10_2 + 1)))) else (ferrymanlaw02_CrcBursts.l0 k2 l0 a1 a2 t102 x8_2 x9_2 (wrap64 (x10_2 + 1)))) = some r := by first | (rw [hji16] at H; exact H) | (simp only [hji16] at H ⊢; exact H)
                  have hji16_ : (a2 / 2 ^ min (ji14).toNat 32) = ji16 := hji16
                  have hji16z : (ji14) ≤ 32 → (a2 / 2 ^ (ji14).toNat) = ji16 := shr_small hji16
                  by_cases c17 : (Int.tmod (ji16) 2) = 1
                  · rw [if_pos c17] at H
                    have c17b0 : ((Int.tmod (ji16) 2) == 1) = true := beq_iff_eq.mpr c17
                    have c17b1 : ((Int.tmod (ji16) 2) != 1) = false := bne_eq_false_iff_eq.mpr c17
                    clear c17
                    by_cases c18 : (wrap64 (a1 + x10_2)) < (wrap64 (8 * (x8_2.length : Int)))
                    · rw [if_pos c18] at H
                      have c18b0 : decide ((wrap64 (a1 + x10_2)) < (wrap64 (8 * (x8_2.length : Int)))) = true := decide_eq_true c18
                      clear c18
                      obtain ⟨ji19, hji19⟩ : ∃ j_ : Int, (wrap64 (Int.tdiv (wrap64 (a1 + x10_2)) 8)) = j_ := ⟨_, rfl⟩
                      replace H : (if 0 ≤ (ji19) then (if (ji19) < (x8_2.length : Int) then (if 0 ≤ (IntKind.u64.wrap (Int.tmod (wrap64 (a1 + x10_2)) 8)) then (ferrymanlaw02_CrcBursts.l0 k2 l0 a1 a2 t102 (x8_2.set ((ji19) : Int).toNat (Go.bits .xor .u8 (rd x8_2 (ji19)) (shl .u8 1 (IntKind.u64.wrap (Int.tmod (wrap64 (a1 + x10_2)) 8))))) true (wrap64 (x10_2 + 1))) else (none)) else (none)) else (none)) = some r := by first | (rw [hji19] at H; exact H) | (simp only [hji19] at H ⊢; exact H)
                      have hji19w : (IntKind.i64.wrap (Int.tdiv (wrap64 (a1 + x10_2)) 8)) = ji19 := (i64_w _).trans hji19
                      by_cases c20 : 0 ≤ (ji19)
                      · rw [if_pos c20] at H
                        have c20b0 : decide (0 ≤ (ji19)) = true := decide_eq_true c20
                        clear c20
                        by_cases c21 : (ji19) < (x8_2.length : Int)
                        · rw [if_pos c21] at H
                          have c21b0 : decide ((ji19) < (x8_2.length : Int)) = true := decide_eq_true c21
                          clear c21
                          obtain ⟨ji22, hji22⟩ : ∃ j_ : Int, (IntKind.u64.wrap (Int.tmod (wrap64 (a1 + x10_2)) 8)) = j_ := ⟨_, rfl⟩
                          replace H : (if 0 ≤ (ji22) then (ferrymanlaw02_CrcBursts.l0 k2 l0 a1 a2 t102 (x8_2.set ((ji19) : Int).toNat (Go.bits .xor .u8 (rd x8_2 (ji19)) (shl .u8 1 (ji22)))) true (wrap64 (x10_2 + 1))) else (none)) = some r := by first | (rw [hji22] at H; exact H) | (simp only [hji22] at H ⊢; exact H)
                          by_cases c23 : 0 ≤ (ji22)
                          · rw [if_pos c23] at H
                            have c23b0 := eq_true c23
                            have c23b1 : decide (0 ≤ (ji22)) = true := decide_eq_true c23
                            clear c23
                            obtain ⟨ji24, hji24⟩ : ∃ j_ : Int, (shl .u8 1 (ji22)) = j_ := ⟨_, rfl⟩
                            replace H : (ferrymanlaw02_CrcBursts.l0 k2 l0 a1 a2 t102 (x8_2.set ((ji19) : Int).toNat (Go.bits .xor .u8 (rd x8_2 (ji19)) (ji24))) true (wrap64 (x10_2 + 1))) = some r := by first | (rw [hji24] at H; exact H) | (simp only [hji24] at H ⊢; exact H)
                            have hji24_ : (IntKind.u8.wrap (1 * 2 ^ min (ji22).toNat 8)) = ji24 := hji24
                            have hji24z : (ji22) ≤ 8 → (IntKind.u8.wrap (1 * 2 ^ (ji22).toNat)) = ji24 := shl_small hji24
                            have hji24u : (IntKind.u8.wrap (2 ^ min (ji22).toNat 8)) = ji24 := by have h_ := hji24_; rw [Int.one_mul] at h_; exact h_
                            have hji24v : (ji22) ≤ 8 → (IntKind.u8.wrap (2 ^ (ji22).toNat)) = ji24 := fun hle_ => by have h_ := hji24z hle_; rw [Int.one_mul] at h_; exact h_
                            obtain ⟨y107, hy107⟩ : ∃ y_ : List Int, y_ = (x8_2.set ((ji19) : Int).toNat (Go.bits .xor .u8 (rd x8_2 (ji19)) (ji24))) := ⟨_, rfl⟩
                            replace H : (ferrymanlaw02_CrcBursts.l0 k2 l0 a1 a2 t102 y107 true (wrap64 (x10_2 + 1))) = some r := by first | (rw [hy107]; with_reducible exact H) | (have H2_ := (Option.bind_some _ _).symm.trans H; rw [hy107]; with_reducible exact H2_) | (have H2_ := (Option.bind_some _ _).symm.trans H; with_reducible exact H2_) | with_reducible exact H | (rw [hy107]; exact H) | exact H
                            have Ny107 := Aside0.mk hy107
                            clear hy107
                            have H' := Aside0.mk H
                            clear H
                            obtain ⟨Ao26, co26, eo26⟩ := Kd.R_slice HO_8.out
                            subst eo26
                            have p106 : 0 ≤ ((ji19) : Int) := of_decide_eq_true (by first | (with_reducible assumption) | assumption)
                            have q106 : (ji19) < (x8_2.length : Int) := of_decide_eq_true (by first | (with_reducible assumption) | assumption)
                            obtain ⟨ad106, e106, hx106_0⟩ := Kd.at_int (Kd.R_reads' HO_8.out).2.2 (ji19) p106 q106
                            cases e106
                            replace p106 := eq_true p106
                            replace q106 := eq_true q106
                            have p25 : 0 ≤ ((ji19) : Int) := of_decide_eq_true (by first | (with_reducible assumption) | assumption)
                            have q25 : ((ji19) : Int) < ((x8_2.length : Int) : Int) := of_decide_eq_true (by first | (with_reducible assumption) | assumption)
                            obtain ⟨go25, co25, eo25, gb25, gl25, cl25, HG25⟩ := Kd.R_form HO_8.out (by omega)
                            (first | cases eo25 | (injection eo25 with ea_ en_ ec_; (first | subst ea_ | (injection ea_ with ea_; subst ea_)); subst ec_; clear en_))
                            have GB25 := Aside0.mk gb25
                            have GG25 := Aside0.mk HG25
                            clear gb25 gl25 HG25
                            (first | simp only [add_plain] at hx106_0 | skip)
                            obtain ⟨hx25_0, hf25_0⟩ := Kd.R_celln 0 HO_8.out ((ji19) : Int) p25 q25
                            replace p25 := eq_true p25
                            replace q25 := eq_true q25
                            have HP27 := Kd.R_putg HO_8.out ((ji19) : Int) (Go.bits .xor .u8 (rd x8_2 (ji19)) (ji24))
                            go_wp2_with (first | ((with_reducible refine gate_store (t := 5) (p := 67) rfl ?_); refine store_event (t := 5) (p := 67) (v := ?vo_w28) (w1 := (wr.setCell ⟨go25, ((ji19) : Int).toNat, none⟩ (.int .u8 (Go.bits .xor .u8 (rd x8_2 (ji19)) (ji24))))) ?hg ?ho ?hn ?hr ?_; (case ho => rfl); (case hg => rfl); (case hn => rfl); (case hr => first | (go_simp; done) | (go_simp; rfl)); intro w28 hw; have hg : wr.grownBy w28 (some go25) := (by rw [hw]; exact HP27.2); have hp_ : Kd.R (Kd.int .u8) 5 w28 w.heap.size (fun _ => True) (.slice (some ⟨go25, 0, none⟩) x8_2.length co26) y107 := (by rw [hw, Ny107.out]; exact HP27.1); clear HP27; have n0_ := Aside0.mk (hp_); have n1_ := Aside0.mk ((by rw [hw]; exact below_set (HB.out) GB25.out : Below w.heap.size w w28)); clear HO_8; clear HB; have HO_8 := n0_; have HB := n1_; clear n0_ n1_; clear hg hw hp_))
                            go_roundg k2
                            case measure => have := HJ4.out; have := HK2.out; omega
                            case rel => exact ⟨(y107), (true), (wrap64 (x10_2 + 1)), (by first | rfl | (simp; done) | (simp [*]; done)), (by first | rfl | (simp; done) | (simp [*]; done)), H', ⟨by have := HJ4.out; have := HK2.out; omega⟩, ⟨by (with_reducible repeat (first | apply Kd.R_alloc | apply Kd.R_drewN | apply Kd.R_drew)); exact HO_8.out⟩, ⟨by repeat (first | (with_reducible first | exact HB.out | apply below_alloc | apply pw_below_drewN | apply below_drew1) | exact HB.out)⟩⟩
                          · rw [if_neg c23] at H
                            exact absurd H (by simp)
                        · rw [if_neg c21] at H
                          exact absurd H (by simp)
                      · rw [if_neg c20] at H
                        exact absurd H (by simp)
                    · rw [if_neg c18] at H
                      have c18b0 : decide ((wrap64 (a1 + x10_2)) < (wrap64 (8 * (x8_2.length : Int)))) = false := decide_eq_false c18
                      clear c18
                      have H' := Aside0.mk H
                      clear H
                      obtain ⟨Ao29, co29, eo29⟩ := Kd.R_slice HO_8.out
                      subst eo29
                      go_wp2
                      go_roundg k2
                      case measure => have := HJ4.out; have := HK2.out; omega
                      case rel => exact ⟨(x8_2), (x9_2), (wrap64 (x10_2 + 1)), (by first | rfl | (simp; done) | (simp [*]; done)), (by first | rfl | (simp; done) | (simp [*]; done)), H', ⟨by have := HJ4.out; have := HK2.out; omega⟩, ⟨by (with_reducible repeat (first | apply Kd.R_alloc | apply Kd.R_drewN | apply Kd.R_drew)); exact HO_8.out⟩, ⟨by repeat (first | (with_reducible first | exact HB.out | apply below_alloc | apply pw_below_drewN | apply below_drew1) | exact HB.out)⟩⟩
                  · rw [if_neg c17] at H
                    have c17b0 : ((Int.tmod (ji16) 2) == 1) = false := beq_eq_false_iff_ne.mpr c17
                    have c17b1 : ((Int.tmod (ji16) 2) != 1) = true := bne_iff_ne.mpr c17
                    have H' := Aside0.mk H
                    clear H
                    go_wp2
                    go_roundg k2
                    case measure => have := HJ4.out; have := HK2.out; omega
                    case rel => exact ⟨(x8_2), (x9_2), (wrap64 (x10_2 + 1)), (by first | rfl | (simp; done) | (simp [*]; done)), (by first | rfl | (simp; done) | (simp [*]; done)), H', ⟨by have := HJ4.out; have := HK2.out; omega⟩, ⟨by (with_reducible repeat (first | apply Kd.R_alloc | apply Kd.R_drewN | apply Kd.R_drew)); exact HO_8.out⟩, ⟨by repeat (first | (with_reducible first | exact HB.out | apply below_alloc | apply pw_below_drewN | apply below_drew1) | exact HB.out)⟩⟩
                · rw [if_neg c15] at H
                  exact absurd H (by simp)
              · rw [if_neg c13] at H
                have c13b0 : decide (x10_2 < 32) = false := decide_eq_false c13
                clear c13
                by_cases c30 : t102 = true
                · subst c30
                  have H1 : ((crc_Sum.f l0).bind fun t108 => ((crc_Sum.f x8_2).bind fun t109 => (some ((t108 != t109) == x9_2)))) = some r := by rw [if_pos rfl] at H; exact H
                  clear H
                  have H := H1
                  clear H1
                  replace H := Option.bind_eq_some_iff.mp H
                  obtain ⟨t108, A310, H⟩ := H
                  replace H : ((crc_Sum.f x8_2).bind fun t109 => (some ((t108 != t109) == x9_2))) = some r := H
                  have A31 := Aside0.mk A310
                  clear A310
                  replace H := Option.bind_eq_some_iff.mp H
                  obtain ⟨t109, A320, H⟩ := H
                  replace H : (some ((t108 != t109) == x9_2)) = some r := H
                  have A32 := Aside0.mk A320
                  clear A320
                  obtain rfl := Option.some.inj H
                  have tok1_ : True := trivial; have tok2_ : True := trivial
                  go_wp2_with (first | (go_at_call 13; clear tok1_; (with_reducible refine (crc_Sum.calls _ _ l0 t108 _ ?side1 ?side2 A31.out).mono ?_); (case side1 => repeat (first | exact (Kd.C_below HR0.out HB.out) | (with_reducible refine Kd.C_alloc ?_ _) | (with_reducible refine Kd.C_drewN ?_ _) | (with_reducible refine Kd.C_drew ?_))); (case side2 => exact HC0.out); rintro e w33 ⟨rfl, hb⟩; have n0_ := Aside0.mk (Kd.R_below (by (with_reducible repeat (first | apply Kd.R_alloc | apply Kd.R_drewN | apply Kd.R_drew)); exact HO_8.out) hb); have n1_ := Aside0.mk (below_step (by repeat (first | (with_reducible first | exact HB.out | apply below_alloc | apply pw_below_drewN | apply below_drew1) | exact HB.out)) hb); clear HO_8; clear HB; have HO_8 := n0_; have HB := n1_; clear n0_ n1_; (try clear hb); (try clear hb2); (try clear hk); (try clear hi); obtain ⟨Ao34, co34, eo34⟩ := Kd.R_slice HO_8.out; subst eo34) | (go_at_call 13; clear tok2_; (with_reducible refine (crc_Sum.calls _ _ x8_2 t109 _ ?side1 ?side2 A32.out).mono ?_); (case side1 => repeat (first | exact (Kd.R_reads' HO_8.out).2.2 | (with_reducible refine Kd.C_alloc ?_ _) | (with_reducible refine Kd.C_drewN ?_ _) | (with_reducible refine Kd.C_drew ?_))); (case side2 => exact (Kd.R_reads' HO_8.out).2.1); rintro e w35 ⟨rfl, hb⟩; have n0_ := Aside0.mk (Kd.R_below (by (with_reducible repeat (first | apply Kd.R_alloc | apply Kd.R_drewN | apply Kd.R_drew)); exact HO_8.out) hb); have n1_ := Aside0.mk (below_step (by repeat (first | (with_reducible first | exact HB.out | apply below_alloc | apply pw_below_drewN | apply below_drew1) | exact HB.out)) hb); clear HO_8; clear HB; have HO_8 := n0_; have HB := n1_; clear n0_ n1_; (try clear hb); (try clear hb2); (try clear hk); (try clear hi)))
                  go_ret
                  exact ⟨by first | rfl | (simp [errW_none, errW_some] <;> rfl) | (simp [*, errW_none, errW_some] <;> rfl), by repeat (first | (with_reducible first | exact HB.out | apply below_alloc | apply pw_below_drewN | apply below_drew1) | exact HB.out)⟩
                · replace c30 := Bool.eq_false_iff.mpr c30
                  subst c30
                  have H1 : (some false) = some r := by rw [if_neg (show ¬ (false = true) by decide)] at H; exact H
                  clear H
                  have H := H1
                  clear H1
                  obtain rfl := Option.some.inj H
                  go_wp2
                  go_ret
                  exact ⟨by first | rfl | (simp [errW_none, errW_some] <;> rfl) | (simp [*, errW_none, errW_some] <;> rfl), by repeat (first | (with_reducible first | exact HB.out | apply below_alloc | apply pw_below_drewN | apply below_drew1) | exact HB.out)⟩
        · rw [if_neg c11] at H
          exact absurd H (by simp)

/-- THE ONE PURE STATEMENT of ferrymanlaw02_CrcBursts: yours. -/
def ferrymanlaw02_CrcBursts.Pure : Prop := ∀ (l0 : List Int) (a1 : Int) (a2 : Int), l0.length ≤ maxLen → l0.length * 1 ≤ 140737488351232 → (∀ x ∈ l0, (Lit.int .u8 x).wf = true) → (Lit.int .i64 a1).wf = true → (Lit.int .u32 a2).wf = true → ∃ k, ferrymanlaw02_CrcBursts.f k l0 a1 a2 = some true
theorem ferrymanlaw02_CrcBursts.walk (P : ferrymanlaw02_CrcBursts.Pure) (a0 : Option Addr) (len0 cap0 : Nat) (z0 : List Int) (a1 : Int) (a2 : Int) (w : World) (w0 : (a0 = none ∧ len0 = 0 ∧ cap0 = 0 ∧ z0 = []) ∨ ∃ x, a0 = some x ∧ len0 ≤ cap0 ∧ cap0 ≤ maxLen ∧ z0.length = cap0 ∧ (∀ i, i < z0.length → w.cell? (x.add i) = some (.int .u8 (z0.getD i 0))) ∧ ∀ n ∈ z0, (Lit.int .u8 n).wf = true) (y0 : len0 * 1 ≤ 140737488351232) (w1 : (Lit.int .i64 a1).wf = true) (w2 : (Lit.int .u32 a2).wf = true) :
    Calls Try.prog 5 #[.slice a0 len0 cap0, .int .i64 a1, .int .u32 a2] w fun e w' => e = .returned (.bool true) ∧ Below w.heap.size w w' := by
  obtain ⟨l0, rfl, hr0, hm0, hw0, hc0⟩ := ReadsInt.ofRowC w0
  obtain ⟨k, h⟩ := P l0 a1 a2 hm0 y0 hw0 w1 w2
  refine (ferrymanlaw02_CrcBursts.calls k _ _ l0 a1 a2 true w (Kd.C_of_reads (d := (0 : Int)) (h1 := fun _ => rfl) hr0) hc0 h).mono ?_
  rintro e w' ⟨rfl, hd⟩
  exact ⟨rfl, hd⟩

end Go.Proofs.Ytjkkkmgeolfhfaa.QCrcBursts
