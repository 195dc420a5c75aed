/- What this text proves: the functions that a law reaches, as functions on numbers and lists, and that Go's come to their answers; no condition. Written by the kit's print program, turned (wip/tools/patch_print.py). -/
import Derived.Test.YtjkkkmgeolfhfaaQCrcSumsx0
namespace Go.Proofs.Ytjkkkmgeolfhfaa.QCrcSums
open Go.RowKit Go.Proofs.YtjkkkmgeolfhfaaW.PrintWords Go.Proofs.YtjkkkmgeolfhfaaW.PrintLast Go.Proofs.YtjkkkmgeolfhfaaW.PrintMore
attribute [local go_sem] max2_int min2_int max_two min_two max_three min_three max_four min_four   -- for this text's walks alone
set_option linter.unusedVariables false
set_option linter.unusedSimpArgs false

-- NOT PRINTED: function 12 (crc_Table)

/-! ### crc_More: function 15 -/
def crc_More.f (a0 : Int) (l1 : List Int) : Option (Int) := Go.Proofs.Ytjkkkmgeolfhfaa.Own.moreF a0 l1
theorem crc_More.calls (a0 : Int) (A1 : Option Addr) (c1 : Nat) (l1 : List Int) (r : Int) (w : World) (hr1 : Kd.C (Kd.int .u8) w A1 l1.length l1) (hc1 : l1.length ≤ c1) (h : crc_More.f a0 l1 = some r) :
    Calls Try.prog 15 #[.int .u32 a0, .slice A1 l1.length c1] w fun e w' => e = .returned (.int .u32 r) ∧ Below w.heap.size w w' :=
  Go.Proofs.Ytjkkkmgeolfhfaa.Own.more_calls a0 A1 c1 l1 r w hr1 hc1 h

/-! ### crc_Sum: function 13 -/
def crc_Sum.f (l0 : List Int) : Option (Int) := (crc_More.f 0 l0).bind fun t101 => (some t101)
set_option maxHeartbeats 8000000 in
set_option maxRecDepth 100000 in
theorem crc_Sum.calls (A0 : Option Addr) (c0 : Nat) (l0 : List Int) (r : Int) (w : World) (hr0 : Kd.C (Kd.int .u8) w A0 l0.length l0) (hc0 : l0.length ≤ c0) (h : crc_Sum.f l0 = some r) :
    Calls Try.prog 13 #[.slice A0 l0.length c0] w fun e w' => e = .returned (.int .u32 r) ∧ Below w.heap.size w w' := by
  have HR0 := Aside0.mk hr0
  have HC0 := Aside0.mk hc0
  clear hr0 hc0
  have HB := Aside0.mk (Below.refl w.heap.size w)
  have H : ((crc_More.f 0 l0).bind fun t101 => (some t101)) = some r := h
  clear h
  replace H := Option.bind_eq_some_iff.mp H
  obtain ⟨t101, A20, H⟩ := H
  replace H : (some t101) = some r := H
  have A2 := Aside0.mk A20
  clear A20
  obtain rfl := Option.some.inj H
  go_enter Try.func13, Try.ntmps13
  go_wp2_with (first | ((with_reducible refine gate_callee (f := 15) rfl ?_); refine goesL_ (some 4) rfl rfl Try.func15 (by kernel_rfl) rfl #[.int .u32 0, .slice A0 l0.length c0] rfl (by (try simp only [List.map_toArray, List.map_cons, List.map_nil]); first | done | rfl | (simp only [List.length_drop, List.length_take]; rfl)) ?_; (with_reducible refine (crc_More.calls 0 _ _ l0 t101 _ ?side1 ?side2 A2.out).mono ?_); (case side1 => repeat (first | exact HR0.out | (with_reducible refine Kd.C_alloc ?_ _) | (with_reducible refine Kd.C_drewN ?_ _) | (with_reducible refine Kd.C_drew ?_))); (case side2 => exact HC0.out); rintro e w3 ⟨rfl, hb⟩; refine ⟨_, rfl, ?_⟩; have n0_ := Aside0.mk (below_step (by repeat (first | (with_reducible first | exact HB.out | apply below_alloc | apply pw_below_drewN | apply below_drew1) | exact HB.out)) hb); clear HB; have HB := n0_; clear n0_; (try clear hb); (try clear hb2); (try clear hk); (try clear hi)))
  go_ret
  exact ⟨by first | rfl | (simp [errW_none, errW_some] <;> rfl) | (simp [*, errW_none, errW_some] <;> rfl), by repeat (first | (with_reducible first | exact HB.out | apply below_alloc | apply pw_below_drewN | apply below_drew1) | exact HB.out)⟩

/-! ### ferrymanlaw02_awake: function 11 -/
def ferrymanlaw02_awake.f : Option (Bool) := some true
theorem sum9 : crc_Sum.f [49, 50, 51, 52, 53, 54, 55, 56, 57] = some 3808858755 := by
  have e : crc_More.f 0 [49, 50, 51, 52, 53, 54, 55, 56, 57] = some 3808858755 := by decide +kernel
  unfold crc_Sum.f
  rw [e]
  rfl
theorem sum0 : crc_Sum.f [] = some 0 := by
  have e : crc_More.f 0 [] = some 0 := by decide +kernel
  unfold crc_Sum.f
  rw [e]
  rfl
theorem nine_reads (W : World) : Kd.C (Kd.int .u8) (W.alloc (.cells #[.int .u8 49, .int .u8 50, .int .u8 51, .int .u8 52, .int .u8 53, .int .u8 54, .int .u8 55, .int .u8 56, .int .u8 57] 5 (9, 10))) (some ⟨W.heap.size, 0, none⟩) 9 [49, 50, 51, 52, 53, 54, 55, 56, 57] := by
  refine Kd.C_of_reads (readsInt_of.1 ⟨rfl, by decide, fun _ => ⟨_, rfl, fun i hi => ?_⟩⟩)
  have hi : i < 9 := hi
  have e : (⟨W.heap.size, 0, none⟩ : Addr).add i = ⟨W.heap.size, i, none⟩ := by unfold Addr.add; split <;> simp_all
  rw [e, World.cell?_alloc_mark]
  have key : ∀ i : Fin 9, (#[Value.int .u8 49, .int .u8 50, .int .u8 51, .int .u8 52, .int .u8 53, .int .u8 54, .int .u8 55, .int .u8 56, .int .u8 57])[i.val]? = some (.int .u8 (rd [49, 50, 51, 52, 53, 54, 55, 56, 57] (i.val : Nat))) := by
    intro i
    obtain ⟨i, hi⟩ := i
    rcases i with _ | _ | _ | _ | _ | _ | _ | _ | _ | i
    all_goals first | rfl | omega
  exact key ⟨i, hi⟩
set_option maxHeartbeats 8000000 in
set_option maxRecDepth 100000 in
theorem ferrymanlaw02_awake.calls (r : Bool) (w : World) (h : ferrymanlaw02_awake.f = some r) :
    Calls Try.prog 11 #[] w fun e w' => e = .returned (.bool r) ∧ Below w.heap.size w w' := by
  obtain rfl := Option.some.inj h
  clear h
  have kc := fun (w : World) (C : Array Value) (n c : Nat) => Lib.run_convert_bytes_const (P := Try.prog) w 23 5 C n c Try.underlying23 Try.underlying5
  have tok1_ : True := trivial
  go_enter Try.func11, Try.ntmps11
  go_wp2_with (first
    | (go_at_call 13; clear tok1_; refine (crc_Sum.calls (some ⟨w.heap.size, 0, none⟩) 9 [49, 50, 51, 52, 53, 54, 55, 56, 57] 3808858755 _ (nine_reads w) (Nat.le_refl _) sum9).mono ?_; rintro e w1 ⟨rfl, hb⟩; have HB := Aside0.mk (below_step (below_alloc (Below.refl _ _) _) hb); clear hb)
    | (go_at_call 13; refine (crc_Sum.calls none 0 [] 0 _ (Kd.C_nil _ _) (Nat.le_refl _) sum0).mono ?_; rintro e w2 ⟨rfl, hb⟩; have HB2 := Aside0.mk (below_step HB.out hb); clear hb))
  go_ret
  exact ⟨rfl, HB2.out⟩

/-! ### ferrymanref02_Entry: function 17 -/
def ferrymanref02_Entry.l0 : Nat → Int → Int → Option (Int)
  | 0, _, _ => none
  | k + 1, x3, x4 => if x4 < 8 then (if (Int.tmod x3 2) = 1 then (ferrymanref02_Entry.l0 k (Go.bits .xor .u32 ((Int.tdiv x3 2) % 4294967296) 2197175160) (wrap64 (x4 + 1))) else (ferrymanref02_Entry.l0 k ((Int.tdiv x3 2) % 4294967296) (wrap64 (x4 + 1)))) else (some x3)
def ferrymanref02_Entry.f (k : Nat) (a0 : Int) : Option (Int) := ferrymanref02_Entry.l0 k ((a0) % 4294967296) 0
theorem ferrymanref02_Entry.mono_l : ∀ k, (∀ y0 y1, LeO (ferrymanref02_Entry.l0 k y0 y1) (ferrymanref02_Entry.l0 (k + 1) y0 y1))
  | 0 => fun _ _ r h => by simp [ferrymanref02_Entry.l0] at h
  | k + 1 => by
    have ih0 := ferrymanref02_Entry.mono_l k
    · intro y0 y1
      unfold ferrymanref02_Entry.l0
      repeat' first
      | (with_reducible exact ih0 _ _)
      | (with_reducible exact LeO.refl _)
      | (with_reducible exact LeO.none _)
      | (with_reducible refine LeO.ite ?_ ?_)
      | (with_reducible refine LeO.bind ?_ (fun _ => ?_))
      | exact ih0 _ _
      | exact LeO.none _
      | refine LeO.ite ?_ ?_
      | refine LeO.bind ?_ (fun _ => ?_)
theorem ferrymanref02_Entry.mono : ∀ a0 k, LeO (ferrymanref02_Entry.f k a0) (ferrymanref02_Entry.f (k + 1) a0) := by
  intro a0 k
  have ih0 := ferrymanref02_Entry.mono_l k
  unfold ferrymanref02_Entry.f
  repeat' first
      | (with_reducible exact ih0 _ _)
      | (with_reducible exact LeO.refl _)
      | (with_reducible exact LeO.none _)
      | (with_reducible refine LeO.ite ?_ ?_)
      | (with_reducible refine LeO.bind ?_ (fun _ => ?_))
      | exact ih0 _ _
      | exact LeO.none _
      | refine LeO.ite ?_ ?_
      | refine LeO.bind ?_ (fun _ => ?_)
set_option maxHeartbeats 8000000 in
set_option maxRecDepth 100000 in
theorem ferrymanref02_Entry.calls (k : Nat) (a0 : Int) (r : Int) (w : World) (h : ferrymanref02_Entry.f k a0 = some r) :
    Calls Try.prog 17 #[.int .u8 a0] w fun e w' => e = .returned (.int .u32 r) ∧ Drawn0 w w' := by
  have H : (ferrymanref02_Entry.l0 k ((a0) % 4294967296) 0) = some r := h
  clear h
  have H' := Aside0.mk H
  clear H
  go_enter Try.func17, Try.ntmps17
  go_wp2
  go_loopg [3, 4] k (fun kq v3 v4 w' => ∃ (x3_1 : Int) (x4_1 : Int), v3 = .int .u32 x3_1 ∧ v4 = .int .i64 x4_1 ∧ Aside0 (ferrymanref02_Entry.l0 kq x3_1 x4_1 = some r) ∧ Aside0 (kq ≤ k) ∧ Drawn0 w w')
  case atStart => exact ⟨((a0) % 4294967296), (0), (by first | rfl | (simp; done) | (simp [*]; done)), (by first | rfl | (simp; done) | (simp [*]; done)), H', ⟨Nat.le_refl _⟩, by repeat (first | exact Drawn0.refl _ | apply Drawn0.step)⟩
  case round =>
    clear H'
    try clear c1
    obtain ⟨x3_1, x4_1, rfl, rfl, HA, HK1, ⟨m1, rfl⟩⟩ := hrel
    cases gk with
    | zero => exact absurd HA.out (by simp [ferrymanref02_Entry.l0])
    | succ k1 =>
      have H := HA.out
      clear HA
      simp only [ferrymanref02_Entry.l0] at H
      by_cases c2 : x4_1 < 8
      · rw [if_pos c2] at H
        have c2b0 : decide (x4_1 < 8) = true := decide_eq_true c2
        clear c2
        by_cases c3 : (Int.tmod x3_1 2) = 1
        · rw [if_pos c3] at H
          have c3b0 : ((Int.tmod x3_1 2) == 1) = true := beq_iff_eq.mpr c3
          have c3b1 : ((Int.tmod x3_1 2) != 1) = false := bne_eq_false_iff_eq.mpr c3
          clear c3
          have H' := Aside0.mk H
          clear H
          go_wp2
          go_roundg k1
          case measure => have := HK1.out; omega
          case rel => exact ⟨(Go.bits .xor .u32 ((Int.tdiv x3_1 2) % 4294967296) 2197175160), (wrap64 (x4_1 + 1)), (by first | rfl | (simp; done) | (simp [*]; done)), (by first | rfl | (simp; done) | (simp [*]; done)), H', ⟨by have := HK1.out; omega⟩, by repeat (first | exact Drawn0.refl _ | apply Drawn0.step)⟩
        · rw [if_neg c3] at H
          have c3b0 : ((Int.tmod x3_1 2) == 1) = false := beq_eq_false_iff_ne.mpr c3
          have c3b1 : ((Int.tmod x3_1 2) != 1) = true := bne_iff_ne.mpr c3
          have H' := Aside0.mk H
          clear H
          go_wp2
          go_roundg k1
          case measure => have := HK1.out; omega
          case rel => exact ⟨((Int.tdiv x3_1 2) % 4294967296), (wrap64 (x4_1 + 1)), (by first | rfl | (simp; done) | (simp [*]; done)), (by first | rfl | (simp; done) | (simp [*]; done)), H', ⟨by have := HK1.out; omega⟩, by repeat (first | exact Drawn0.refl _ | apply Drawn0.step)⟩
      · rw [if_neg c2] at H
        have c2b0 : decide (x4_1 < 8) = false := decide_eq_false c2
        clear c2
        obtain rfl := Option.some.inj H
        go_wp2
        go_ret
        exact ⟨by first | rfl | (simp; done) | (simp [*]; done), by repeat (first | exact Drawn0.refl _ | apply Drawn0.step)⟩

/-! ### ferrymanref02_More: function 16 -/
def ferrymanref02_More.l0 : Nat → List Int → Int → Int → Option (Int)
  | 0, _, _, _ => none
  | k + 1, x1, x5, x6 => if x6 < (x1.length : Int) then (if 0 ≤ x6 then ((ferrymanref02_Entry.f k (Go.bits .xor .u8 ((x5) % 256) (rd x1 x6))).bind fun t103 => (ferrymanref02_More.l0 k x1 (Go.bits .xor .u32 t103 ((Int.tdiv x5 256) % 4294967296)) (wrap64 (x6 + 1)))) else (none)) else (some (Go.bits .xor .u32 4294967295 x5))
def ferrymanref02_More.f (k : Nat) (a0 : Int) (l1 : List Int) : Option (Int) := ferrymanref02_More.l0 k l1 (Go.bits .xor .u32 4294967295 a0) 0
theorem ferrymanref02_More.mono_l : ∀ k, (∀ y0 y1 y2, LeO (ferrymanref02_More.l0 k y0 y1 y2) (ferrymanref02_More.l0 (k + 1) y0 y1 y2))
  | 0 => fun _ _ _ r h => by simp [ferrymanref02_More.l0] at h
  | k + 1 => by
    have ih0 := ferrymanref02_More.mono_l k
    · intro y0 y1 y2
      unfold ferrymanref02_More.l0
      repeat' first
      | (with_reducible exact ih0 _ _ _)
      | (with_reducible exact ferrymanref02_Entry.mono _ _)
      | (with_reducible exact LeO.refl _)
      | (with_reducible exact LeO.none _)
      | (with_reducible refine LeO.ite ?_ ?_)
      | (with_reducible refine LeO.bind ?_ (fun _ => ?_))
      | exact ih0 _ _ _
      | exact ferrymanref02_Entry.mono _ _
      | exact LeO.none _
      | refine LeO.ite ?_ ?_
      | refine LeO.bind ?_ (fun _ => ?_)
theorem ferrymanref02_More.mono : ∀ a0 a1 k, LeO (ferrymanref02_More.f k a0 a1) (ferrymanref02_More.f (k + 1) a0 a1) := by
  intro a0 a1 k
  have ih0 := ferrymanref02_More.mono_l k
  unfold ferrymanref02_More.f
  repeat' first
      | (with_reducible exact ih0 _ _ _)
      | (with_reducible exact ferrymanref02_Entry.mono _ _)
      | (with_reducible exact LeO.refl _)
      | (with_reducible exact LeO.none _)
      | (with_reducible refine LeO.ite ?_ ?_)
      | (with_reducible refine LeO.bind ?_ (fun _ => ?_))
      | exact ih0 _ _ _
      | exact ferrymanref02_Entry.mono _ _
      | exact LeO.none _
      | refine LeO.ite ?_ ?_
      | refine LeO.bind ?_ (fun _ => ?_)
set_option maxHeartbeats 8000000 in
set_option maxRecDepth 100000 in
theorem ferrymanref02_More.calls (k : Nat) (a0 : Int) (A1 : Option Addr) (c1 : Nat) (l1 : List Int) (r : Int) (w : World) (hr1 : Kd.C (Kd.int .u8) w A1 l1.length l1) (hc1 : l1.length ≤ c1) (h : ferrymanref02_More.f k a0 l1 = some r) :
    Calls Try.prog 16 #[.int .u32 a0, .slice A1 l1.length c1] w fun e w' => e = .returned (.int .u32 r) ∧ Drawn0 w w' := by
  have HR1 := Aside0.mk hr1
  have HC1 := Aside0.mk hc1
  clear hr1 hc1
  have H : (ferrymanref02_More.l0 k l1 (Go.bits .xor .u32 4294967295 a0) 0) = some r := h
  clear h
  have H' := Aside0.mk H
  clear H
  go_enter Try.func16, Try.ntmps16
  go_wp2
  go_loopg [5, 6] k (fun kq v5 v6 w' => ∃ (x5_1 : Int) (x6_1 : Int), v5 = .int .u32 x5_1 ∧ v6 = .int .i64 x6_1 ∧ Aside0 (ferrymanref02_More.l0 kq l1 x5_1 x6_1 = some r) ∧ Aside0 (kq ≤ k) ∧ Drawn0 w w')
  case atStart => exact ⟨(Go.bits .xor .u32 4294967295 a0), (0), (by first | rfl | (simp; done) | (simp [*]; done)), (by first | rfl | (simp; done) | (simp [*]; done)), H', ⟨Nat.le_refl _⟩, by repeat (first | exact Drawn0.refl _ | apply Drawn0.step)⟩
  case round =>
    clear H'
    try clear c1
    try clear p2
    obtain ⟨x5_1, x6_1, rfl, rfl, HA, HK1, ⟨m1, rfl⟩⟩ := hrel
    cases gk with
    | zero => exact absurd HA.out (by simp [ferrymanref02_More.l0])
    | succ k1 =>
      have H := HA.out
      clear HA
      simp only [ferrymanref02_More.l0] at H
      by_cases c3 : x6_1 < (l1.length : Int)
      · rw [if_pos c3] at H
        have c3b0 : decide (x6_1 < (l1.length : Int)) = true := decide_eq_true c3
        clear c3
        by_cases c4 : 0 ≤ x6_1
        · rw [if_pos c4] at H
          have c4b0 : decide (0 ≤ x6_1) = true := decide_eq_true c4
          clear c4
          replace H := Option.bind_eq_some_iff.mp H
          obtain ⟨t103, A50, H⟩ := H
          replace H : (ferrymanref02_More.l0 k1 l1 (Go.bits .xor .u32 t103 ((Int.tdiv x5_1 256) % 4294967296)) (wrap64 (x6_1 + 1))) = some r := H
          have A5 := Aside0.mk A50
          clear A50
          have H' := Aside0.mk H
          clear H
          have p102 : 0 ≤ (x6_1 : Int) := of_decide_eq_true (by first | (with_reducible assumption) | assumption)
          have q102 : x6_1 < (l1.length : Int) := of_decide_eq_true (by first | (with_reducible assumption) | assumption)
          obtain ⟨ad102, e102, hx102_0⟩ := Kd.at_int HR1.out x6_1 p102 q102
          cases e102
          replace p102 := eq_true p102
          replace q102 := eq_true q102
          go_wp2_with (first | ((with_reducible refine gate_callee (f := 17) rfl ?_); refine goesL_ (some 22) rfl rfl Try.func17 (by kernel_rfl) rfl #[.int .u8 (Go.bits .xor .u8 ((x5_1) % 256) (rd l1 x6_1))] rfl (by (try simp only [List.map_toArray, List.map_cons, List.map_nil]); first | done | rfl | (simp only [List.length_drop, List.length_take]; rfl)) ?_; (with_reducible refine (ferrymanref02_Entry.calls k1 (Go.bits .xor .u8 ((x5_1) % 256) (rd l1 x6_1)) t103 _ A5.out).mono ?_); rintro e w' ⟨rfl, ⟨nd, rfl⟩⟩; refine ⟨_, rfl, ?_⟩))
          go_roundg k1
          case measure => have := HK1.out; omega
          case rel => exact ⟨(Go.bits .xor .u32 t103 ((Int.tdiv x5_1 256) % 4294967296)), (wrap64 (x6_1 + 1)), (by first | rfl | (simp; done) | (simp [*]; done)), (by first | rfl | (simp; done) | (simp [*]; done)), H', ⟨by have := HK1.out; omega⟩, by repeat (first | exact Drawn0.refl _ | apply Drawn0.step)⟩
        · rw [if_neg c4] at H
          exact absurd H (by simp)
      · rw [if_neg c3] at H
        have c3b0 : decide (x6_1 < (l1.length : Int)) = false := decide_eq_false c3
        clear c3
        obtain rfl := Option.some.inj H
        go_wp2
        go_ret
        exact ⟨by first | rfl | (simp; done) | (simp [*]; done), by repeat (first | exact Drawn0.refl _ | apply Drawn0.step)⟩

/-! ### ferrymanref02_Sum: function 14 -/
def ferrymanref02_Sum.f (k : Nat) (l0 : List Int) : Option (Int) := (ferrymanref02_More.f k 0 l0).bind fun t104 => (some t104)
theorem ferrymanref02_Sum.mono : ∀ a0 k, LeO (ferrymanref02_Sum.f k a0) (ferrymanref02_Sum.f (k + 1) a0) := by
  intro a0 k
  unfold ferrymanref02_Sum.f
  repeat' first
      | (with_reducible exact ferrymanref02_More.mono _ _ _)
      | (with_reducible exact LeO.refl _)
      | (with_reducible exact LeO.none _)
      | (with_reducible refine LeO.ite ?_ ?_)
      | (with_reducible refine LeO.bind ?_ (fun _ => ?_))
      | exact ferrymanref02_More.mono _ _ _
      | exact LeO.none _
      | refine LeO.ite ?_ ?_
      | refine LeO.bind ?_ (fun _ => ?_)
set_option maxHeartbeats 8000000 in
set_option maxRecDepth 100000 in
theorem ferrymanref02_Sum.calls (k : Nat) (A0 : Option Addr) (c0 : Nat) (l0 : List Int) (r : Int) (w : World) (hr0 : Kd.C (Kd.int .u8) w A0 l0.length l0) (hc0 : l0.length ≤ c0) (h : ferrymanref02_Sum.f k l0 = some r) :
    Calls Try.prog 14 #[.slice A0 l0.length c0] w fun e w' => e = .returned (.int .u32 r) ∧ Drawn0 w w' := by
  have HR0 := Aside0.mk hr0
  have HC0 := Aside0.mk hc0
  clear hr0 hc0
  have H : ((ferrymanref02_More.f k 0 l0).bind fun t104 => (some t104)) = some r := h
  clear h
  replace H := Option.bind_eq_some_iff.mp H
  obtain ⟨t104, A20, H⟩ := H
  replace H : (some t104) = some r := H
  have A2 := Aside0.mk A20
  clear A20
  obtain rfl := Option.some.inj H
  go_enter Try.func14, Try.ntmps14
  go_wp2_with (first | ((with_reducible refine gate_callee (f := 16) rfl ?_); refine goesL_ (some 4) rfl rfl Try.func16 (by kernel_rfl) rfl #[.int .u32 0, .slice A0 l0.length c0] rfl (by (try simp only [List.map_toArray, List.map_cons, List.map_nil]); first | done | rfl | (simp only [List.length_drop, List.length_take]; rfl)) ?_; (with_reducible refine (ferrymanref02_More.calls k 0 _ _ l0 t104 _ ?side1 ?side2 A2.out).mono ?_); (case side1 => repeat (first | exact HR0.out | (with_reducible refine Kd.C_alloc ?_ _) | (with_reducible refine Kd.C_drewN ?_ _) | (with_reducible refine Kd.C_drew ?_))); (case side2 => exact HC0.out); rintro e w' ⟨rfl, ⟨nd, rfl⟩⟩; refine ⟨_, rfl, ?_⟩))
  go_ret
  exact ⟨by first | rfl | (simp; done) | (simp [*]; done), by repeat (first | exact Drawn0.refl _ | apply Drawn0.step)⟩

/-! ### ferrymanlaw02_CrcSums: function 3 -/
def ferrymanlaw02_CrcSums.Pure : Prop := ∀ (a0 : Int) (l1 : List Int) (a2 : Int), (Lit.int .u32 a0).wf = true → l1.length ≤ maxLen → l1.length * 1 ≤ 140737488351232 → (∀ x ∈ l1, (Lit.int .u8 x).wf = true) → (Lit.int .u8 a2).wf = true →
  l1.length ≤ 3000 → ∃ k s m, crc_Sum.f l1 = some s ∧ ferrymanref02_Sum.f k l1 = some s ∧ crc_More.f a0 l1 = some m ∧ ferrymanref02_More.f k a0 l1 = some m ∧ ferrymanref02_Entry.f k a2 = some (Own.ent a2.toNat)
theorem tab_cell (W : World) (j : Nat) (h : j < 256) : (W.alloc (.cells (Own.tabv 256) 25)).cell? ⟨W.heap.size, j, none⟩ = some (.int .u32 (Own.ent j)) := by
  rw [World.cell?_alloc_new, Own.tabv_get _ _ h, if_pos h]
theorem held_more {w W W1 : World} {g a : Nat} {v : Value} (hS : Aside0 (Below w.heap.size w W) ∧ W.cell? ⟨g, a, none⟩ = some v) (hb : Below W.heap.size W W1) : Aside0 (Below w.heap.size w W1) ∧ W1.cell? ⟨g, a, none⟩ = some v :=
  ⟨⟨below_step hS.1.out hb⟩, (hb.cell (World.block_lt_of_cell? W _ hS.2)).trans hS.2⟩
theorem held_reads {w W : World} {g a n : Nat} {v : Value} {A : Option Addr} {l : List Int} (HR : Aside0 ((Kd.int IntKind.u8).C w A n l)) (hS : Aside0 (Below w.heap.size w W) ∧ W.cell? ⟨g, a, none⟩ = some v) : (Kd.int IntKind.u8).C W A n l := Kd.C_below HR.out hS.1.out
set_option maxHeartbeats 8000000 in
set_option maxRecDepth 100000 in
theorem sums_long (a0 : Int) (A1 : Option Addr) (c1 : Nat) (l1 : List Int) (a2 : Int) (w : World) (h : ((3000 : Int) < (l1.length : Int))) :
    Calls Try.prog 3 #[.int .u32 a0, .slice A1 l1.length c1, .int .u8 a2] w fun e w' => e = .returned (.bool true) ∧ Below w.heap.size w w' := by
  go_enter Try.func3, Try.ntmps3
  go_wp2_with (go_at_call 11; refine (ferrymanlaw02_awake.calls true _ rfl).mono ?_; rintro e w2 ⟨rfl, hb1⟩; have HB1 := Aside0.mk hb1; clear hb1)
  go_ret
  exact ⟨rfl, HB1.out⟩
set_option maxHeartbeats 8000000 in
set_option maxRecDepth 100000 in
theorem sums_short (a0 : Int) (A1 : Option Addr) (c1 : Nat) (l1 : List Int) (a : Nat) (s m : Int) (k : Nat) (w : World) (h : ((l1.length : Int) ≤ 3000)) (ha : a < 256)
    (hr1 : Kd.C (Kd.int .u8) w A1 l1.length l1) (hc1 : l1.length ≤ c1)
    (e1 : crc_Sum.f l1 = some s) (e2 : ferrymanref02_Sum.f k l1 = some s) (e3 : crc_More.f a0 l1 = some m) (e4 : ferrymanref02_More.f k a0 l1 = some m) (e5 : ferrymanref02_Entry.f k (a : Int) = some (Own.ent a)) :
    Calls Try.prog 3 #[.int .u32 a0, .slice A1 l1.length c1, .int .u8 (a : Int)] w fun e w' => e = .returned (.bool true) ∧ Below w.heap.size w w' := by
  have HR1 := Aside0.mk hr1
  have HC1 := Aside0.mk hc1
  have E1 := Aside0.mk e1
  have E2 := Aside0.mk e2
  have E3 := Aside0.mk e3
  have E4 := Aside0.mk e4
  have E5 := Aside0.mk e5
  clear hr1 hc1 e1 e2 e3 e4 e5
  have hz := fun w => Own.tabv_zero w
  have hrow := fun w : World => World.setRow_alloc_new w (Own.tabv 0) (Own.tabv 256) 25
  have tok1_ : True := trivial
  go_enter Try.func3, Try.ntmps3
  go_wp2_with (first
    | (go_at_call 11; refine (ferrymanlaw02_awake.calls true _ rfl).mono ?_; rintro e w2 ⟨rfl, hb1⟩; have HB1 := Aside0.mk hb1; clear hb1)
    | (go_at_call 12; refine (Own.table _).mono ?_; rintro e w3 ⟨rfl, hb2⟩; have HB2 := Aside0.mk hb2; clear hb2)
    | (clear tok1_; refine wpList_store_row rfl 25 (.tmp 8) (.tmp 14) rfl w3.heap.size (Own.tabv 256) rfl rfl 25 (Own.tabv 0) (heap_alloc_new w3 _) (by rw [Own.tabv_size]; kernel_rfl) (by rw [Own.tabv_size, Own.tabv_size]) (Own.tabv_one 256) ?_))
  rw [World.setRow_alloc_new]
  clear hrow hz
  have ta := tab_cell w3 a ha
  have HBt := Aside0.mk (below_alloc (below_step HB1.out HB2.out) (.cells (Own.tabv 256) 25))
  clear HB1 HB2
  obtain ⟨W0, hW0⟩ : ∃ W0, W0 = w3.alloc (.cells (Own.tabv 256) 25) := ⟨_, rfl⟩
  rw [← hW0] at HBt ta ⊢
  clear hW0
  obtain ⟨g, hg⟩ : ∃ g, g = w3.heap.size := ⟨_, rfl⟩
  rw [← hg] at ta ⊢
  clear hg
  have ia : (a : Int) < 256 := by omega
  have ja : 0 ≤ (a : Int) := by omega
  go_region_held3 (fun w' => Aside0 (Below w.heap.size w w') ∧ w'.cell? ⟨g, a, none⟩ = some (.int .u32 (Own.ent a)))
    (first | assumption | exact ⟨⟨below_drew1 HBt.out⟩, ta⟩ | go_keep)
    (first
      | (go_at_call 13; refine (crc_Sum.calls _ _ l1 s _ (held_reads HR1 (by assumption)) HC1.out E1.out).mono ?_; rintro e w' ⟨rfl, hb⟩; have hS2 := held_more (by assumption) hb; clear hb)
      | (go_at_call 14; refine (ferrymanref02_Sum.calls k _ _ l1 s _ (held_reads HR1 (by assumption)) HC1.out E2.out).mono ?_; rintro e w' ⟨rfl, hb⟩; have hS2 := held_more (by assumption) hb.below; clear hb)
      | (go_at_call 15; refine (crc_More.calls a0 _ _ l1 m _ (held_reads HR1 (by assumption)) HC1.out E3.out).mono ?_; rintro e w' ⟨rfl, hb⟩; have hS2 := held_more (by assumption) hb; clear hb)
      | (go_at_call 16; refine (ferrymanref02_More.calls k a0 _ _ l1 m _ (held_reads HR1 (by assumption)) HC1.out E4.out).mono ?_; rintro e w' ⟨rfl, hb⟩; have hS2 := held_more (by assumption) hb.below; clear hb)
      | (go_at_call 17; refine (ferrymanref02_Entry.calls k (a : Int) (Own.ent a) _ E5.out).mono ?_; rintro e w' ⟨rfl, hb⟩; have hS2 := held_more (by assumption) hb.below; clear hb))
  go_wp2
  go_ret
  exact ⟨rfl, hS2.1.out⟩
theorem ferrymanlaw02_CrcSums.walk (P : ferrymanlaw02_CrcSums.Pure) (a0 : Int) (a1 : Option Addr) (len1 cap1 : Nat) (z1 : List Int) (a2 : Int) (w : World) (w0 : (Lit.int .u32 a0).wf = true) (w1 : (a1 = none ∧ len1 = 0 ∧ cap1 = 0 ∧ z1 = []) ∨ ∃ x, a1 = some x ∧ len1 ≤ cap1 ∧ cap1 ≤ maxLen ∧ z1.length = cap1 ∧ (∀ i, i < z1.length → w.cell? (x.add i) = some (.int .u8 (z1.getD i 0))) ∧ ∀ n ∈ z1, (Lit.int .u8 n).wf = true) (y1 : len1 * 1 ≤ 140737488351232) (w2 : (Lit.int .u8 a2).wf = true) :
    Calls Try.prog 3 #[.int .u32 a0, .slice a1 len1 cap1, .int .u8 a2] w fun e w' => e = .returned (.bool true) ∧ Below w.heap.size w w' := by
  obtain ⟨l1, rfl, hr1, hm1, hw1, hc1⟩ := ReadsInt.ofRowC w1
  have r2 : 0 ≤ a2 ∧ a2 ≤ 255 := Go.bounds_u8 w2
  by_cases h : l1.length ≤ 3000
  · obtain ⟨k, s, m, e1, e2, e3, e4, e5⟩ := P a0 l1 a2 w0 hm1 y1 hw1 w2 h
    obtain ⟨a, rfl⟩ := Int.eq_ofNat_of_zero_le r2.1
    exact sums_short a0 a1 cap1 l1 a s m k w (by omega) (by omega) (Kd.C_of_reads (d := (0 : Int)) (h1 := fun _ => rfl) hr1) hc1 e1 e2 e3 e4 e5
  · exact sums_long a0 a1 cap1 l1 a2 w (by omega)

end Go.Proofs.Ytjkkkmgeolfhfaa.QCrcSums
