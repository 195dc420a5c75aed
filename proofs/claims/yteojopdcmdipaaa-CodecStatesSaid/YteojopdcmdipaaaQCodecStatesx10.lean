/- What this text proves: the functions that a law reaches, as functions on numbers and lists, and that Go's come to their answers; no condition. Written by the kit's print program, turned (wip/tools/patch_print.py). -/
import Derived.Test.YteojopdcmdipaaaQCodecStatesx0
import Derived.Test.YteojopdcmdipaaaQCodecStatesx6
import Derived.Test.YteojopdcmdipaaaQCodecStatesx9
namespace Go.Proofs.Yteojopdcmdipaaa.QCodecStates
open Go.RowKit Go.Proofs.YteojopdcmdipaaaW.PrintWords Go.Proofs.YteojopdcmdipaaaW.PrintLast Go.Proofs.YteojopdcmdipaaaW.PrintMore
attribute [local go_sem] max2_int min2_int max_two min_two max_three min_three max_four min_four   -- for this text's walks alone
set_option linter.unusedVariables false
set_option linter.unusedSimpArgs false

/-! ### ferrymanref05_DecodeState: function 18 -/
mutual
def ferrymanref05_DecodeState.j0 : Nat → List Int → Int → Int → Int → Int → Int → Int → Bool → Option (Int × List Int × Bool × Int × Int)
  | 0, _, _, _, _, _, _, _, _ => none
  | k + 1, x0, x4, x5, x6, x7, x8, x9, x54 => if x54 = true then (some (0, ([] : List Int), false, 0, 3)) else (if x6 > 0 then (ferrymanref05_DecodeState.j1 k x0 x5 x7 x8 x9 x4 (decide (x6 > 0)) (wrap64 (x6 - 1))) else (ferrymanref05_DecodeState.j1 k x0 x5 x7 x8 x9 x4 (decide (x6 > 0)) 0))
def ferrymanref05_DecodeState.j1 : Nat → List Int → Int → Int → Int → Int → Int → Bool → Int → Option (Int × List Int × Bool × Int × Int)
  | 0, _, _, _, _, _, _, _, _ => none
  | k + 1, x0, x5, x7, x8, x9, x243000, x243002, x243003 => ferrymanref05_DecodeState.l0 k x0 x8 (wrap64 ((wrap64 (x5 + x7)) + x9)) 0 x243000 ([] : List Int) x243002 x243003
def ferrymanref05_DecodeState.l0 : Nat → List Int → Int → Int → Int → Int → List Int → Bool → Int → Option (Int × List Int × Bool × Int × Int)
  | 0, _, _, _, _, _, _, _, _ => none
  | k + 1, x0, x8, x11, x12, x243000, x243001, x243002, x243003 => if x12 < x8 then (if 0 ≤ x11 then (if x11 ≤ (x0.length : Int) then ((ferrymanref01_GetSigned.f k (x0.drop (x11 : Int).toNat)).bind fun bt244 => (if bt244.2 = 0 then (some (0, ([] : List Int), false, 0, 3)) else (if x243001.length < 17592186044416 then (ferrymanref05_DecodeState.l0 k x0 x8 (wrap64 (x11 + bt244.2)) (wrap64 (x12 + 1)) x243000 (x243001 ++ [bt244.1]) x243002 x243003) else (none)))) else (none)) else (none)) else (if x11 = (x0.length : Int) then ((ferrymanref04_May.f k x243000 x243001 x243002 x243003).bind fun t249 => (if t249 = true then (some (x243000, x243001, x243002, x243003, 0)) else (some (0, ([] : List Int), false, 0, 1)))) else (some (0, ([] : List Int), false, 0, 3)))
end
def ferrymanref05_DecodeState.f (k : Nat) (l0 : List Int) : Option (Int × List Int × Bool × Int × Int) := (ferrymanref01_Get.f k l0).bind fun bt234 => (if 0 ≤ bt234.2 then (if bt234.2 ≤ (l0.length : Int) then ((ferrymanref01_Get.f k (l0.drop (bt234.2 : Int).toNat)).bind fun bt237 => (if 0 ≤ (wrap64 (bt234.2 + bt237.2)) then (if (wrap64 (bt234.2 + bt237.2)) ≤ (l0.length : Int) then ((ferrymanref01_Get.f k (l0.drop ((wrap64 (bt234.2 + bt237.2)) : Int).toNat)).bind fun bt240 => (if bt234.2 = 0 then (ferrymanref05_DecodeState.j0 k l0 bt234.1 bt234.2 bt237.1 bt237.2 bt240.1 bt240.2 true) else (if bt237.2 = 0 then (ferrymanref05_DecodeState.j0 k l0 bt234.1 bt234.2 bt237.1 bt237.2 bt240.1 bt240.2 true) else (if bt240.2 = 0 then (ferrymanref05_DecodeState.j0 k l0 bt234.1 bt234.2 bt237.1 bt237.2 bt240.1 bt240.2 true) else (if bt237.1 > 3 then (ferrymanref05_DecodeState.j0 k l0 bt234.1 bt234.2 bt237.1 bt237.2 bt240.1 bt240.2 true) else (ferrymanref05_DecodeState.j0 k l0 bt234.1 bt234.2 bt237.1 bt237.2 bt240.1 bt240.2 (decide (bt240.1 > 128)))))))) else (none)) else (none))) else (none)) else (none))
theorem ferrymanref05_DecodeState.mono_l : ∀ k, (∀ y0 y1 y2 y3 y4 y5 y6 y7, LeO (ferrymanref05_DecodeState.j0 k y0 y1 y2 y3 y4 y5 y6 y7) (ferrymanref05_DecodeState.j0 (k + 1) y0 y1 y2 y3 y4 y5 y6 y7)) ∧ (∀ y0 y1 y2 y3 y4 y5 y6 y7, LeO (ferrymanref05_DecodeState.j1 k y0 y1 y2 y3 y4 y5 y6 y7) (ferrymanref05_DecodeState.j1 (k + 1) y0 y1 y2 y3 y4 y5 y6 y7)) ∧ (∀ y0 y1 y2 y3 y4 y5 y6 y7, LeO (ferrymanref05_DecodeState.l0 k y0 y1 y2 y3 y4 y5 y6 y7) (ferrymanref05_DecodeState.l0 (k + 1) y0 y1 y2 y3 y4 y5 y6 y7))
  | 0 => ⟨fun _ _ _ _ _ _ _ _ r h => by simp [ferrymanref05_DecodeState.j0] at h, fun _ _ _ _ _ _ _ _ r h => by simp [ferrymanref05_DecodeState.j1] at h, fun _ _ _ _ _ _ _ _ r h => by simp [ferrymanref05_DecodeState.l0] at h⟩
  | k + 1 => by
    obtain ⟨ih0, ih1, ih2⟩ := ferrymanref05_DecodeState.mono_l k
    refine ⟨?_, ?_, ?_⟩
    · intro y0 y1 y2 y3 y4 y5 y6 y7
      unfold ferrymanref05_DecodeState.j0
      repeat' first
      | (with_reducible exact ih0 _ _ _ _ _ _ _ _)
      | (with_reducible exact ih1 _ _ _ _ _ _ _ _)
      | (with_reducible exact ih2 _ _ _ _ _ _ _ _)
      | (with_reducible exact ferrymanref01_Get.mono _ _)
      | (with_reducible exact ferrymanref01_GetSigned.mono _ _)
      | (with_reducible exact ferrymanref04_May.mono _ _ _ _ _)
      | (with_reducible exact LeO.refl _)
      | (with_reducible exact LeO.none _)
      | (with_reducible refine LeO.ite ?_ ?_)
      | (with_reducible refine LeO.bind ?_ (fun _ => ?_))
      | exact ih0 _ _ _ _ _ _ _ _
      | exact ih1 _ _ _ _ _ _ _ _
      | exact ih2 _ _ _ _ _ _ _ _
      | exact ferrymanref01_Get.mono _ _
      | exact ferrymanref01_GetSigned.mono _ _
      | exact ferrymanref04_May.mono _ _ _ _ _
      | exact LeO.none _
      | refine LeO.ite ?_ ?_
      | refine LeO.bind ?_ (fun _ => ?_)
    · intro y0 y1 y2 y3 y4 y5 y6 y7
      unfold ferrymanref05_DecodeState.j1
      repeat' first
      | (with_reducible exact ih0 _ _ _ _ _ _ _ _)
      | (with_reducible exact ih1 _ _ _ _ _ _ _ _)
      | (with_reducible exact ih2 _ _ _ _ _ _ _ _)
      | (with_reducible exact ferrymanref01_Get.mono _ _)
      | (with_reducible exact ferrymanref01_GetSigned.mono _ _)
      | (with_reducible exact ferrymanref04_May.mono _ _ _ _ _)
      | (with_reducible exact LeO.refl _)
      | (with_reducible exact LeO.none _)
      | (with_reducible refine LeO.ite ?_ ?_)
      | (with_reducible refine LeO.bind ?_ (fun _ => ?_))
      | exact ih0 _ _ _ _ _ _ _ _
      | exact ih1 _ _ _ _ _ _ _ _
      | exact ih2 _ _ _ _ _ _ _ _
      | exact ferrymanref01_Get.mono _ _
      | exact ferrymanref01_GetSigned.mono _ _
      | exact ferrymanref04_May.mono _ _ _ _ _
      | exact LeO.none _
      | refine LeO.ite ?_ ?_
      | refine LeO.bind ?_ (fun _ => ?_)
    · intro y0 y1 y2 y3 y4 y5 y6 y7
      unfold ferrymanref05_DecodeState.l0
      repeat' first
      | (with_reducible exact ih0 _ _ _ _ _ _ _ _)
      | (with_reducible exact ih1 _ _ _ _ _ _ _ _)
      | (with_reducible exact ih2 _ _ _ _ _ _ _ _)
      | (with_reducible exact ferrymanref01_Get.mono _ _)
      | (with_reducible exact ferrymanref01_GetSigned.mono _ _)
      | (with_reducible exact ferrymanref04_May.mono _ _ _ _ _)
      | (with_reducible exact LeO.refl _)
      | (with_reducible exact LeO.none _)
      | (with_reducible refine LeO.ite ?_ ?_)
      | (with_reducible refine LeO.bind ?_ (fun _ => ?_))
      | exact ih0 _ _ _ _ _ _ _ _
      | exact ih1 _ _ _ _ _ _ _ _
      | exact ih2 _ _ _ _ _ _ _ _
      | exact ferrymanref01_Get.mono _ _
      | exact ferrymanref01_GetSigned.mono _ _
      | exact ferrymanref04_May.mono _ _ _ _ _
      | exact LeO.none _
      | refine LeO.ite ?_ ?_
      | refine LeO.bind ?_ (fun _ => ?_)
theorem ferrymanref05_DecodeState.mono : ∀ a0 k, LeO (ferrymanref05_DecodeState.f k a0) (ferrymanref05_DecodeState.f (k + 1) a0) := by
  intro a0 k
  obtain ⟨ih0, ih1, ih2⟩ := ferrymanref05_DecodeState.mono_l k
  unfold ferrymanref05_DecodeState.f
  repeat' first
      | (with_reducible exact ih0 _ _ _ _ _ _ _ _)
      | (with_reducible exact ih1 _ _ _ _ _ _ _ _)
      | (with_reducible exact ih2 _ _ _ _ _ _ _ _)
      | (with_reducible exact ferrymanref01_Get.mono _ _)
      | (with_reducible exact ferrymanref01_GetSigned.mono _ _)
      | (with_reducible exact ferrymanref04_May.mono _ _ _ _ _)
      | (with_reducible exact LeO.refl _)
      | (with_reducible exact LeO.none _)
      | (with_reducible refine LeO.ite ?_ ?_)
      | (with_reducible refine LeO.bind ?_ (fun _ => ?_))
      | exact ih0 _ _ _ _ _ _ _ _
      | exact ih1 _ _ _ _ _ _ _ _
      | exact ih2 _ _ _ _ _ _ _ _
      | exact ferrymanref01_Get.mono _ _
      | exact ferrymanref01_GetSigned.mono _ _
      | exact ferrymanref04_May.mono _ _ _ _ _
      | exact LeO.none _
      | refine LeO.ite ?_ ?_
      | refine LeO.bind ?_ (fun _ => ?_)
set_option maxHeartbeats 8000000 in
set_option maxRecDepth 100000 in
theorem ferrymanref05_DecodeState.calls (k : Nat) (A0 : Option Addr) (c0 : Nat) (l0 : List Int) (r1 : Int) (r2 : List Int) (r3 : Bool) (r4 : Int) (r5 : Int) (w : World) (hr0 : Kd.C (Kd.int .u8) w A0 l0.length l0) (hc0 : l0.length ≤ c0) (h : ferrymanref05_DecodeState.f k l0 = some (r1, r2, r3, r4, r5)) :
    Calls Try.prog 18 #[.slice A0 l0.length c0] w fun e w' => ∃ v1_ : Value, e = .returned (.tuple #[.agg #[.int .i64 r1, v1_, .bool r3, .int .i64 r4], .int .i64 r5]) ∧ Kd.R (Kd.int .i64) 3 w' w.heap.size (fun _ => True) v1_ r2 ∧ Below w.heap.size w w' := by
  have hu35 := Try.underlying35
  have HR0 := Aside0.mk hr0
  have HC0 := Aside0.mk hc0
  clear hr0 hc0
  have HB := Aside0.mk (Below.refl w.heap.size w)
  have H : ((ferrymanref01_Get.f k l0).bind fun bt234 => (if 0 ≤ bt234.2 then (if bt234.2 ≤ (l0.length : Int) then ((ferrymanref01_Get.f k (l0.drop (bt234.2 : Int).toNat)).bind fun bt237 => (if 0 ≤ (wrap64 (bt234.2 + bt237.2)) then (if (wrap64 (bt234.2 + bt237.2)) ≤ (l0.length : Int) then ((ferrymanref01_Get.f k (l0.drop ((wrap64 (bt234.2 + bt237.2)) : Int).toNat)).bind fun bt240 => (if bt234.2 = 0 then (ferrymanref05_DecodeState.j0 k l0 bt234.1 bt234.2 bt237.1 bt237.2 bt240.1 bt240.2 true) else (if bt237.2 = 0 then (ferrymanref05_DecodeState.j0 k l0 bt234.1 bt234.2 bt237.1 bt237.2 bt240.1 bt240.2 true) else (if bt240.2 = 0 then (ferrymanref05_DecodeState.j0 k l0 bt234.1 bt234.2 bt237.1 bt237.2 bt240.1 bt240.2 true) else (if bt237.1 > 3 then (ferrymanref05_DecodeState.j0 k l0 bt234.1 bt234.2 bt237.1 bt237.2 bt240.1 bt240.2 true) else (ferrymanref05_DecodeState.j0 k l0 bt234.1 bt234.2 bt237.1 bt237.2 bt240.1 bt240.2 (decide (bt240.1 > 128)))))))) else (none)) else (none))) else (none)) else (none))) = some (r1, r2, r3, r4, r5) := h
  clear h
  replace H := Option.bind_eq_some_iff.mp H
  obtain ⟨⟨t234, t235⟩, A20, H⟩ := H
  replace H : (if 0 ≤ t235 then (if t235 ≤ (l0.length : Int) then ((ferrymanref01_Get.f k (l0.drop (t235 : Int).toNat)).bind fun bt237 => (if 0 ≤ (wrap64 (t235 + bt237.2)) then (if (wrap64 (t235 + bt237.2)) ≤ (l0.length : Int) then ((ferrymanref01_Get.f k (l0.drop ((wrap64 (t235 + bt237.2)) : Int).toNat)).bind fun bt240 => (if t235 = 0 then (ferrymanref05_DecodeState.j0 k l0 t234 t235 bt237.1 bt237.2 bt240.1 bt240.2 true) else (if bt237.2 = 0 then (ferrymanref05_DecodeState.j0 k l0 t234 t235 bt237.1 bt237.2 bt240.1 bt240.2 true) else (if bt240.2 = 0 then (ferrymanref05_DecodeState.j0 k l0 t234 t235 bt237.1 bt237.2 bt240.1 bt240.2 true) else (if bt237.1 > 3 then (ferrymanref05_DecodeState.j0 k l0 t234 t235 bt237.1 bt237.2 bt240.1 bt240.2 true) else (ferrymanref05_DecodeState.j0 k l0 t234 t235 bt237.1 bt237.2 bt240.1 bt240.2 (decide (bt240.1 > 128)))))))) else (none)) else (none))) else (none)) else (none)) = some (r1, r2, r3, r4, r5) := H
  have A2 := Aside0.mk A20
  clear A20
  by_cases c3 : 0 ≤ t235
  · rw [if_pos c3] at H
    have c3b0 := eq_true c3
    have c3b1 : decide (0 ≤ t235) = true := decide_eq_true c3
    clear c3
    by_cases c4 : t235 ≤ (l0.length : Int)
    · rw [if_pos c4] at H
      have c4b0 := eq_true c4
      have c4b1 : decide (t235 ≤ (l0.length : Int)) = true := decide_eq_true c4
      clear c4
      replace H := Option.bind_eq_some_iff.mp H
      obtain ⟨⟨t237, t238⟩, A50, H⟩ := H
      replace H : (if 0 ≤ (wrap64 (t235 + t238)) then (if (wrap64 (t235 + t238)) ≤ (l0.length : Int) then ((ferrymanref01_Get.f k (l0.drop ((wrap64 (t235 + t238)) : Int).toNat)).bind fun bt240 => (if t235 = 0 then (ferrymanref05_DecodeState.j0 k l0 t234 t235 t237 t238 bt240.1 bt240.2 true) else (if t238 = 0 then (ferrymanref05_DecodeState.j0 k l0 t234 t235 t237 t238 bt240.1 bt240.2 true) else (if bt240.2 = 0 then (ferrymanref05_DecodeState.j0 k l0 t234 t235 t237 t238 bt240.1 bt240.2 true) else (if t237 > 3 then (ferrymanref05_DecodeState.j0 k l0 t234 t235 t237 t238 bt240.1 bt240.2 true) else (ferrymanref05_DecodeState.j0 k l0 t234 t235 t237 t238 bt240.1 bt240.2 (decide (bt240.1 > 128)))))))) else (none)) else (none)) = some (r1, r2, r3, r4, r5) := H
      have A5 := Aside0.mk A50
      clear A50
      obtain ⟨ji6, hji6⟩ : ∃ j_ : Int, (wrap64 (t235 + t238)) = j_ := ⟨_, rfl⟩
      replace H : (if 0 ≤ (ji6) then (if (ji6) ≤ (l0.length : Int) then ((ferrymanref01_Get.f k (l0.drop ((ji6) : Int).toNat)).bind fun bt240 => (if t235 = 0 then (ferrymanref05_DecodeState.j0 k l0 t234 t235 t237 t238 bt240.1 bt240.2 true) else (if t238 = 0 then (ferrymanref05_DecodeState.j0 k l0 t234 t235 t237 t238 bt240.1 bt240.2 true) else (if bt240.2 = 0 then (ferrymanref05_DecodeState.j0 k l0 t234 t235 t237 t238 bt240.1 bt240.2 true) else (if t237 > 3 then (ferrymanref05_DecodeState.j0 k l0 t234 t235 t237 t238 bt240.1 bt240.2 true) else (ferrymanref05_DecodeState.j0 k l0 t234 t235 t237 t238 bt240.1 bt240.2 (decide (bt240.1 > 128)))))))) else (none)) else (none)) = some (r1, r2, r3, r4, r5) := by first | (rw [hji6] at H; exact H) | (simp only [hji6] at H ⊢; exact H)
      (try rw [hji6] at A2)
      (try rw [hji6] at A5)
      have hji6w : (IntKind.i64.wrap (t235 + t238)) = ji6 := (i64_w _).trans hji6
      by_cases c7 : 0 ≤ (ji6)
      · rw [if_pos c7] at H
        have c7b0 := eq_true c7
        have c7b1 : decide (0 ≤ (ji6)) = true := decide_eq_true c7
        clear c7
        by_cases c8 : (ji6) ≤ (l0.length : Int)
        · rw [if_pos c8] at H
          have c8b0 := eq_true c8
          have c8b1 : decide ((ji6) ≤ (l0.length : Int)) = true := decide_eq_true c8
          clear c8
          replace H := Option.bind_eq_some_iff.mp H
          obtain ⟨⟨t240, t241⟩, A90, H⟩ := H
          replace H : (if t235 = 0 then (ferrymanref05_DecodeState.j0 k l0 t234 t235 t237 t238 t240 t241 true) else (if t238 = 0 then (ferrymanref05_DecodeState.j0 k l0 t234 t235 t237 t238 t240 t241 true) else (if t241 = 0 then (ferrymanref05_DecodeState.j0 k l0 t234 t235 t237 t238 t240 t241 true) else (if t237 > 3 then (ferrymanref05_DecodeState.j0 k l0 t234 t235 t237 t238 t240 t241 true) else (ferrymanref05_DecodeState.j0 k l0 t234 t235 t237 t238 t240 t241 (decide (t240 > 128))))))) = some (r1, r2, r3, r4, r5) := H
          have A9 := Aside0.mk A90
          clear A90
          have HC10 := Aside0.mk H
          clear H
          go_enter Try.func18, Try.ntmps18
          go_upto_region 4 with (first | ((with_reducible refine gate_dst (N := 2) rfl ?_); refine box_event ?hg (N := 2) ?hd (cs := #[.int .i64 0, .slice none 0 0, .bool false, .int .i64 0]) (t := 35) ?hr ?_; (case hd => rfl); (case hg => rfl); (case hr => first | (go_simp; done) | (go_simp; rfl)); intro gb233 hg w11 hbox hb; have n0_ := Aside0.mk (below_step (by repeat (first | (with_reducible first | exact HB.out | apply below_alloc | apply pw_below_drewN | apply below_drew1) | exact HB.out)) hb); have n1_ := Aside0.mk (hbox); have n2_ := Aside0.mk ((by rw [hg]; exact (below_size (by repeat (first | (with_reducible first | exact HB.out | apply below_alloc | apply pw_below_drewN | apply below_drew1) | exact HB.out))) : w.heap.size ≤ gb233)); have n3_ := Aside0.mk ((by rw [hg]; exact (below_size (by repeat (first | (with_reducible first | exact HB.out | apply below_alloc | apply pw_below_drewN | apply below_drew1) | exact HB.out))) : w.heap.size ≤ gb233)); clear HB; have HB := n0_; have BK233 := n1_; have GW233 := n2_; have GE233 := n3_; clear n0_ n1_ n2_ n3_; clear hb hbox hg) | ((with_reducible refine gate_callee (f := 29) rfl ?_); refine goesL_ (some 18) rfl rfl Try.func29 (by kernel_rfl) rfl #[.slice A0 l0.length c0] rfl (by (try simp only [List.map_toArray, List.map_cons, List.map_nil]); first | done | rfl | (simp only [List.length_drop, List.length_take]; rfl)) ?_; (with_reducible refine (ferrymanref01_Get.calls k _ _ l0 t234 t235 _ ?side1 ?side2 A2.out).mono ?_); (case side1 => repeat (first | exact (Kd.C_below HR0.out HB.out) | (with_reducible refine Kd.C_alloc ?_ _) | (with_reducible refine Kd.C_drewN ?_ _) | (with_reducible refine Kd.C_drew ?_))); (case side2 => exact HC0.out); rintro e w' ⟨rfl, ⟨nd, rfl⟩⟩; refine ⟨_, rfl, ?_⟩; obtain ⟨i012, hi012, _, hsz12, _⟩ := info_parts info5; obtain ⟨A12, hcut12, hA12, hC12⟩ := print_drop_of (P := Try.prog) (Value.int .u8) 0 25 5 .i64 Try.underlying25 hi012 hsz12 A0 c0 l0 t235 (of_decide_eq_true (by first | (with_reducible assumption) | assumption)) (of_decide_eq_true (by first | (with_reducible assumption) | assumption)) HC0.out; have HR236 := Aside0.mk (Kd.C_of_reads (h1 := fun _ => rfl) (hA12 _ (Kd.reads_of_C HR0.out))); have HC236 := Aside0.mk hC12; clear hA12 hC12 hi012 hsz12) | ((with_reducible refine gate_callee (f := 29) rfl ?_); refine goesL_ (some 25) rfl rfl Try.func29 (by kernel_rfl) rfl #[.slice A12 (l0.drop (t235 : Int).toNat).length (c0 - t235.toNat)] rfl (by (try simp only [List.map_toArray, List.map_cons, List.map_nil]); first | done | (rw [show (l0.drop (t235 : Int).toNat).length = (l0.length - t235.toNat) from List.length_drop] <;> rfl) | rfl | (simp only [List.length_drop, List.length_take]; rfl)) ?_; (with_reducible refine (ferrymanref01_Get.calls k _ _ (l0.drop (t235 : Int).toNat) t237 t238 _ ?side1 ?side2 A5.out).mono ?_); (case side1 => repeat (first | exact (Kd.C_below HR236.out (by repeat (first | (with_reducible first | exact HB.out | apply below_alloc | apply pw_below_drewN | apply below_drew1 | refine below_set ?_ GE233.out) | exact HB.out))) | (with_reducible refine Kd.C_alloc ?_ _) | (with_reducible refine Kd.C_drewN ?_ _) | (with_reducible refine Kd.C_drew ?_))); (case side2 => exact HC236.out); rintro e w' ⟨rfl, ⟨nd, rfl⟩⟩; refine ⟨_, rfl, ?_⟩; obtain ⟨i013, hi013, _, hsz13, _⟩ := info_parts info5; obtain ⟨A13, hcut13, hA13, hC13⟩ := print_drop_of (P := Try.prog) (Value.int .u8) 0 25 5 .i64 Try.underlying25 hi013 hsz13 A0 c0 l0 (ji6) (of_decide_eq_true (by first | (with_reducible assumption) | assumption)) (of_decide_eq_true (by first | (with_reducible assumption) | assumption)) HC0.out; have HR239 := Aside0.mk (Kd.C_of_reads (h1 := fun _ => rfl) (hA13 _ (Kd.reads_of_C HR0.out))); have HC239 := Aside0.mk hC13; clear hA13 hC13 hi013 hsz13) | ((with_reducible refine gate_callee (f := 29) rfl ?_); refine goesL_ (some 34) rfl rfl Try.func29 (by kernel_rfl) rfl #[.slice A13 (l0.drop ((ji6) : Int).toNat).length (c0 - (ji6).toNat)] rfl (by (try simp only [List.map_toArray, List.map_cons, List.map_nil]); first | done | (rw [show (l0.drop ((ji6) : Int).toNat).length = (l0.length - (ji6).toNat) from List.length_drop] <;> rfl) | (simp only [hji6]; rfl) | rfl | (simp only [List.length_drop, List.length_take]; rfl)) ?_; (with_reducible refine (ferrymanref01_Get.calls k _ _ (l0.drop ((ji6) : Int).toNat) t240 t241 _ ?side1 ?side2 A9.out).mono ?_); (case side1 => repeat (first | exact (Kd.C_below HR239.out (by repeat (first | (with_reducible first | exact HB.out | apply below_alloc | apply pw_below_drewN | apply below_drew1 | refine below_set ?_ GE233.out) | exact HB.out))) | (with_reducible refine Kd.C_alloc ?_ _) | (with_reducible refine Kd.C_drewN ?_ _) | (with_reducible refine Kd.C_drew ?_))); (case side2 => exact HC239.out); rintro e w' ⟨rfl, ⟨nd, rfl⟩⟩; refine ⟨_, rfl, ?_⟩))
          (try simp only [Act.put, List.setIfInBounds_toArray, List.set_cons_zero, List.set_cons_succ])
          go_cut [54] (fun v54 wc => ∃ (kq : Nat) (x54_9 : Bool), v54 = .bool x54_9 ∧ Aside0 (ferrymanref05_DecodeState.j0 kq l0 t234 t235 t237 t238 t240 t241 x54_9 = some (r1, r2, r3, r4, r5)) ∧ Aside0 (kq ≤ k) ∧ Aside0 (wc.heap[gb233]? = some (.cells #[.int .i64 0, (.slice none 0 0), .bool false, .int .i64 0] 35 (0, 0))) ∧ Aside0 (Below w.heap.size w wc))
          case first =>
            have H := HC10.out
            clear HC10
            by_cases c14 : t235 = 0
            · rw [if_pos c14] at H
              have c14b0 : (t235 == 0) = true := beq_iff_eq.mpr c14
              have c14b1 : (t235 != 0) = false := bne_eq_false_iff_eq.mpr c14
              clear c14
              (first | rw [c14b0] | rw [c14b1] | (simp only [i64_w, i32_w]; rw [c14b0]) | skip)
              have H' := Aside0.mk H
              clear H
              go_wp2
              go_meet
              case rel => exact ⟨_, (true), (by first | rfl | (simp; done) | (simp [*]; done)), H', ⟨by first | omega | exact Nat.le_refl _⟩, ⟨by (with_reducible repeat (first | refine blk_drewN ?_ _ | refine blk_drew ?_ | refine blk_alloc ?_ _)); exact BK233.out⟩, ⟨by repeat (first | (with_reducible first | exact HB.out | apply below_alloc | apply pw_below_drewN | apply below_drew1 | refine below_set ?_ GE233.out) | exact HB.out)⟩⟩
            · rw [if_neg c14] at H
              have c14b0 : (t235 == 0) = false := beq_eq_false_iff_ne.mpr c14
              have c14b1 : (t235 != 0) = true := bne_iff_ne.mpr c14
              (first | rw [c14b0] | rw [c14b1] | (simp only [i64_w, i32_w]; rw [c14b0]) | skip)
              by_cases c15 : t238 = 0
              · rw [if_pos c15] at H
                have c15b0 : (t238 == 0) = true := beq_iff_eq.mpr c15
                have c15b1 : (t238 != 0) = false := bne_eq_false_iff_eq.mpr c15
                clear c15
                have H' := Aside0.mk H
                clear H
                go_wp2
                go_meet
                case rel => exact ⟨_, (true), (by first | rfl | (simp; done) | (simp [*]; done)), H', ⟨by first | omega | exact Nat.le_refl _⟩, ⟨by (with_reducible repeat (first | refine blk_drewN ?_ _ | refine blk_drew ?_ | refine blk_alloc ?_ _)); exact BK233.out⟩, ⟨by repeat (first | (with_reducible first | exact HB.out | apply below_alloc | apply pw_below_drewN | apply below_drew1 | refine below_set ?_ GE233.out) | exact HB.out)⟩⟩
              · rw [if_neg c15] at H
                have c15b0 : (t238 == 0) = false := beq_eq_false_iff_ne.mpr c15
                have c15b1 : (t238 != 0) = true := bne_iff_ne.mpr c15
                by_cases c16 : t241 = 0
                · rw [if_pos c16] at H
                  have c16b0 : (t241 == 0) = true := beq_iff_eq.mpr c16
                  have c16b1 : (t241 != 0) = false := bne_eq_false_iff_eq.mpr c16
                  clear c16
                  have H' := Aside0.mk H
                  clear H
                  go_wp2
                  go_meet
                  case rel => exact ⟨_, (true), (by first | rfl | (simp; done) | (simp [*]; done)), H', ⟨by first | omega | exact Nat.le_refl _⟩, ⟨by (with_reducible repeat (first | refine blk_drewN ?_ _ | refine blk_drew ?_ | refine blk_alloc ?_ _)); exact BK233.out⟩, ⟨by repeat (first | (with_reducible first | exact HB.out | apply below_alloc | apply pw_below_drewN | apply below_drew1 | refine below_set ?_ GE233.out) | exact HB.out)⟩⟩
                · rw [if_neg c16] at H
                  have c16b0 : (t241 == 0) = false := beq_eq_false_iff_ne.mpr c16
                  have c16b1 : (t241 != 0) = true := bne_iff_ne.mpr c16
                  by_cases c17 : t237 > 3
                  · rw [if_pos c17] at H
                    have c17b0 : decide (3 < t237) = true := decide_eq_true c17
                    clear c17
                    have H' := Aside0.mk H
                    clear H
                    go_wp2
                    go_meet
                    case rel => exact ⟨_, (true), (by first | rfl | (simp; done) | (simp [*]; done)), H', ⟨by first | omega | exact Nat.le_refl _⟩, ⟨by (with_reducible repeat (first | refine blk_drewN ?_ _ | refine blk_drew ?_ | refine blk_alloc ?_ _)); exact BK233.out⟩, ⟨by repeat (first | (with_reducible first | exact HB.out | apply below_alloc | apply pw_below_drewN | apply below_drew1 | refine below_set ?_ GE233.out) | exact HB.out)⟩⟩
                  · rw [if_neg c17] at H
                    have c17b0 : decide (3 < t237) = false := decide_eq_false c17
                    clear c17
                    have H' := Aside0.mk H
                    clear H
                    go_wp2
                    go_meet
                    case rel => exact ⟨_, (decide (t240 > 128)), (by first | rfl | (simp; done) | (simp [*]; done)), H', ⟨by first | omega | exact Nat.le_refl _⟩, ⟨by (with_reducible repeat (first | refine blk_drewN ?_ _ | refine blk_drew ?_ | refine blk_alloc ?_ _)); exact BK233.out⟩, ⟨by repeat (first | (with_reducible first | exact HB.out | apply below_alloc | apply pw_below_drewN | apply below_drew1 | refine below_set ?_ GE233.out) | exact HB.out)⟩⟩
          case rest =>
            clear HC10
            try clear c1
            try clear c2
            try clear p2
            try clear c3
            try clear c3b0
            try clear c3b1
            try clear c4
            try clear c4b0
            try clear c4b1
            try clear p6
            try clear c7
            try clear c7b0
            try clear c7b1
            try clear c8
            try clear c8b0
            try clear c8b1
            try clear c14
            try clear c14b0
            try clear c14b1
            try clear c15
            try clear c15b0
            try clear c15b1
            try clear c16
            try clear c16b0
            try clear c16b1
            try clear c17
            try clear c17b0
            obtain ⟨kq, x54_9, rfl, HA, HJ9, BK233, HB⟩ := hcut
            cases kq with
            | zero => exact absurd HA.out (by simp [ferrymanref05_DecodeState.j0])
            | succ kj9 =>
              have H := HA.out
              clear HA
              simp only [ferrymanref05_DecodeState.j0] at H
              by_cases c18 : x54_9 = true
              · subst c18
                have H1 : (some (0, ([] : List Int), false, 0, 3)) = some (r1, r2, r3, r4, r5) := by rw [if_pos rfl] at H; exact H
                clear H
                have H := H1
                clear H1
                simp only [Option.some.injEq, Prod.mk.injEq] at H
                obtain ⟨rfl, rfl, rfl, rfl, rfl⟩ := H
                have hcz19_0 : wc.cell? ⟨gb233, 0, none⟩ = some (.int .i64 0) := (blk_cell BK233.out 0).trans rfl
                have hcz19_1 : wc.cell? ⟨gb233, 1, none⟩ = some (.slice none 0 0) := (blk_cell BK233.out 1).trans rfl
                have hcz19_2 : wc.cell? ⟨gb233, 2, none⟩ = some (.bool false) := (blk_cell BK233.out 2).trans rfl
                have hcz19_3 : wc.cell? ⟨gb233, 3, none⟩ = some (.int .i64 0) := (blk_cell BK233.out 3).trans rfl
                have hfz19_0 := blk_frozen BK233.out 0
                have hfz19_1 := blk_frozen BK233.out 1
                have hfz19_2 := blk_frozen BK233.out 2
                have hfz19_3 := blk_frozen BK233.out 3
                go_wp2
                refine bodyPost_ret (results_ct rfl _ _ gb233 35 #[.int .i64 0, .slice none 0 0, .bool false, .int .i64 0] (0, 0) _ rfl (by (with_reducible repeat (first | refine blk_drewN ?_ _ | refine blk_drew ?_ | refine blk_alloc ?_ _)); refine blk_put (cs := #[.int .i64 0, .slice none 0 0, .bool false, .int .i64 0]) ?_ 3 _ (by first | rfl | (simp only [gt_iff_lt, *]; rfl) | (simp [*]; done)); (with_reducible repeat (first | refine blk_drewN ?_ _ | refine blk_drew ?_ | refine blk_alloc ?_ _)); refine blk_put (cs := #[.int .i64 0, .slice none 0 0, .bool false, .int .i64 0]) ?_ 2 _ (by first | rfl | (simp only [gt_iff_lt, *]; rfl) | (simp [*]; done)); (with_reducible repeat (first | refine blk_drewN ?_ _ | refine blk_drew ?_ | refine blk_alloc ?_ _)); refine blk_put (cs := #[.int .i64 0, .slice none 0 0, .bool false, .int .i64 0]) ?_ 1 _ (by first | rfl | (simp only [gt_iff_lt, *]; rfl) | (simp [*]; done)); (with_reducible repeat (first | refine blk_drewN ?_ _ | refine blk_drew ?_ | refine blk_alloc ?_ _)); refine blk_put (cs := #[.int .i64 0, .slice none 0 0, .bool false, .int .i64 0]) ?_ 0 _ (by first | rfl | (simp only [gt_iff_lt, *]; rfl) | (simp [*]; done)); (with_reducible repeat (first | refine blk_drewN ?_ _ | refine blk_drew ?_ | refine blk_alloc ?_ _)); exact BK233.out) Try.underlying35 rfl (by kernel_rfl)) rfl ?_
                exact ⟨_, by first | rfl | (simp [errW_none, errW_some] <;> rfl) | (simp only [← hji6]; first | rfl | (simp [errW_none, errW_some] <;> rfl)) | (simp [*, errW_none, errW_some] <;> rfl), by first | exact Kd.R_nil _ _ _ _ _ | exact Kd.N_nil _ _ _ _ _ | exact Kd.V_nil _ _ _ _ _ | exact Kd.Q_nil _ _ _ _ _ | exact Kd.S_nil _ _ _ _ _, by repeat (first | (with_reducible first | exact HB.out | apply below_alloc | apply pw_below_drewN | apply below_drew1 | refine below_set ?_ GE233.out) | exact HB.out)⟩
              · replace c18 := Bool.eq_false_iff.mpr c18
                subst c18
                have H1 : (if t237 > 0 then (ferrymanref05_DecodeState.j1 kj9 l0 t235 t238 t240 t241 t234 (decide (t237 > 0)) (wrap64 (t237 - 1))) else (ferrymanref05_DecodeState.j1 kj9 l0 t235 t238 t240 t241 t234 (decide (t237 > 0)) 0)) = some (r1, r2, r3, r4, r5) := by rw [if_neg (show ¬ (false = true) by decide)] at H; exact H
                clear H
                have H := H1
                clear H1
                have HC20 := Aside0.mk H
                clear H
                go_upto_if 61 with (first | ((with_reducible refine gate_dst (N := 10) rfl ?_); refine box_event ?hg (N := 10) ?hd (cs := #[.int .i64 0, .slice none 0 0, .bool false, .int .i64 0]) (t := 35) ?hr ?_; (case hd => rfl); (case hg => rfl); (case hr => first | (go_simp; done) | (go_simp; rfl)); intro gb242 hg w21 hbox hb; have n0_ := Aside0.mk (blk_below (g := gb233) (o := .cells #[.int .i64 0, .slice none 0 0, .bool false, .int .i64 0] 35 (0, 0)) (by (with_reducible repeat (first | refine blk_drewN ?_ _ | refine blk_drew ?_ | refine blk_alloc ?_ _)); exact BK233.out) hb); have n1_ := Aside0.mk (below_step (by repeat (first | (with_reducible first | exact HB.out | apply below_alloc | apply pw_below_drewN | apply below_drew1 | refine below_set ?_ GE233.out) | exact HB.out)) hb); have n2_ := Aside0.mk (hbox); have n3_ := Aside0.mk ((by rw [hg]; exact (below_size (by repeat (first | (with_reducible first | exact HB.out | apply below_alloc | apply pw_below_drewN | apply below_drew1 | refine below_set ?_ GE233.out) | exact HB.out))) : w.heap.size ≤ gb242)); have n4_ := Aside0.mk ((by rw [hg]; exact (below_size (by repeat (first | (with_reducible first | exact HB.out | apply below_alloc | apply pw_below_drewN | apply below_drew1 | refine below_set ?_ GE233.out) | exact HB.out))) : w.heap.size ≤ gb242)); have n5_ := Aside0.mk ((by rw [hg]; exact Nat.ne_of_lt (blk_lt (g := gb233) (o := .cells #[.int .i64 0, .slice none 0 0, .bool false, .int .i64 0] 35 (0, 0)) (by (with_reducible repeat (first | refine blk_drewN ?_ _ | refine blk_drew ?_ | refine blk_alloc ?_ _)); exact BK233.out)) : gb233 ≠ gb242)); have n6_ := Aside0.mk ((by rw [hg]; exact Nat.ne_of_gt (blk_lt (g := gb233) (o := .cells #[.int .i64 0, .slice none 0 0, .bool false, .int .i64 0] 35 (0, 0)) (by (with_reducible repeat (first | refine blk_drewN ?_ _ | refine blk_drew ?_ | refine blk_alloc ?_ _)); exact BK233.out)) : gb242 ≠ gb233)); clear BK233; clear HB; have BK233 := n0_; have HB := n1_; have BK242 := n2_; have GW242 := n3_; have GE242 := n4_; have NB233_242 := n5_; have NB242_233 := n6_; clear n0_ n1_ n2_ n3_ n4_ n5_ n6_; clear hb hbox hg; have hnb22 := NB242_233.out; have hnc22 := NB233_242.out; have hcz23_0 : w21.cell? ⟨gb242, 0, none⟩ = some (.int .i64 0) := (blk_cell BK242.out 0).trans rfl; have hcz23_1 : w21.cell? ⟨gb242, 1, none⟩ = some (.slice none 0 0) := (blk_cell BK242.out 1).trans rfl; have hcz23_2 : w21.cell? ⟨gb242, 2, none⟩ = some (.bool false) := (blk_cell BK242.out 2).trans rfl; have hcz23_3 : w21.cell? ⟨gb242, 3, none⟩ = some (.int .i64 0) := (blk_cell BK242.out 3).trans rfl; have hfz23_0 := blk_frozen BK242.out 0; have hfz23_1 := blk_frozen BK242.out 1; have hfz23_2 := blk_frozen BK242.out 2; have hfz23_3 := blk_frozen BK242.out 3))
                (try simp only [Act.put, List.setIfInBounds_toArray, List.set_cons_zero, List.set_cons_succ])
                go_cut [] (fun wc => ∃ (kq : Nat) (x243003_19 : Int), Aside0 (ferrymanref05_DecodeState.j1 kq l0 t235 t238 t240 t241 t234 (decide (t237 > 0)) x243003_19 = some (r1, r2, r3, r4, r5)) ∧ Aside0 (kq ≤ kj9) ∧ Aside0 (wc.heap[gb233]? = some (.cells #[.int .i64 0, (.slice none 0 0), .bool false, .int .i64 0] 35 (0, 0))) ∧ Aside0 (wc.heap[gb242]? = some (.cells #[.int .i64 t234, (.slice none 0 0), .bool (decide (t237 > 0)), .int .i64 x243003_19] 35 (0, 0))) ∧ Aside0 (Below w.heap.size w wc))
                case first =>
                  have H := HC20.out
                  clear HC20
                  by_cases c24 : t237 > 0
                  · rw [if_pos c24] at H
                    have c24b0 : decide (0 < t237) = true := decide_eq_true c24
                    clear c24
                    (first | rw [c24b0] | rw [c24b1] | (simp only [i64_w, i32_w]; rw [c24b0]) | skip)
                    have H' := Aside0.mk H
                    clear H
                    have hnb25 := NB242_233.out
                    have hnc25 := NB233_242.out
                    have hcz26_0 : w21.cell? ⟨gb242, 0, none⟩ = some (.int .i64 0) := (blk_cell BK242.out 0).trans rfl
                    have hcz26_1 : w21.cell? ⟨gb242, 1, none⟩ = some (.slice none 0 0) := (blk_cell BK242.out 1).trans rfl
                    have hcz26_2 : w21.cell? ⟨gb242, 2, none⟩ = some (.bool false) := (blk_cell BK242.out 2).trans rfl
                    have hcz26_3 : w21.cell? ⟨gb242, 3, none⟩ = some (.int .i64 0) := (blk_cell BK242.out 3).trans rfl
                    have hfz26_0 := blk_frozen BK242.out 0
                    have hfz26_1 := blk_frozen BK242.out 1
                    have hfz26_2 := blk_frozen BK242.out 2
                    have hfz26_3 := blk_frozen BK242.out 3
                    go_wp2
                    go_meet
                    case rel => exact ⟨_, (wrap64 (t237 - 1)), H', ⟨by have := HJ9.out; first | omega | exact Nat.le_refl _⟩, ⟨by (with_reducible repeat (first | refine blk_drewN ?_ _ | refine blk_drew ?_ | refine blk_alloc ?_ _)); refine blk_far ?_ NB233_242.out _; (with_reducible repeat (first | refine blk_drewN ?_ _ | refine blk_drew ?_ | refine blk_alloc ?_ _)); refine blk_far ?_ NB233_242.out _; (with_reducible repeat (first | refine blk_drewN ?_ _ | refine blk_drew ?_ | refine blk_alloc ?_ _)); refine blk_far ?_ NB233_242.out _; (with_reducible repeat (first | refine blk_drewN ?_ _ | refine blk_drew ?_ | refine blk_alloc ?_ _)); refine blk_far ?_ NB233_242.out _; (with_reducible repeat (first | refine blk_drewN ?_ _ | refine blk_drew ?_ | refine blk_alloc ?_ _)); refine blk_far ?_ NB233_242.out _; (with_reducible repeat (first | refine blk_drewN ?_ _ | refine blk_drew ?_ | refine blk_alloc ?_ _)); exact BK233.out⟩, ⟨by (with_reducible repeat (first | refine blk_drewN ?_ _ | refine blk_drew ?_ | refine blk_alloc ?_ _)); refine blk_put (cs := #[.int .i64 t234, .slice none 0 0, .bool (decide (t237 > 0)), .int .i64 0]) ?_ 3 _ (by first | rfl | (simp only [gt_iff_lt, *]; rfl) | (simp [*]; done)); (with_reducible repeat (first | refine blk_drewN ?_ _ | refine blk_drew ?_ | refine blk_alloc ?_ _)); refine blk_put (cs := #[.int .i64 t234, .slice none 0 0, .bool (decide (t237 > 0)), .int .i64 0]) ?_ 3 _ (by first | rfl | (simp only [gt_iff_lt, *]; rfl) | (simp [*]; done)); (with_reducible repeat (first | refine blk_drewN ?_ _ | refine blk_drew ?_ | refine blk_alloc ?_ _)); refine blk_put (cs := #[.int .i64 t234, .slice none 0 0, .bool false, .int .i64 0]) ?_ 2 _ (by first | rfl | (simp only [gt_iff_lt, *]; rfl) | (simp [*]; done)); (with_reducible repeat (first | refine blk_drewN ?_ _ | refine blk_drew ?_ | refine blk_alloc ?_ _)); refine blk_put (cs := #[.int .i64 t234, .slice none 0 0, .bool false, .int .i64 0]) ?_ 1 _ (by first | rfl | (simp only [gt_iff_lt, *]; rfl) | (simp [*]; done)); (with_reducible repeat (first | refine blk_drewN ?_ _ | refine blk_drew ?_ | refine blk_alloc ?_ _)); refine blk_put (cs := #[.int .i64 0, .slice none 0 0, .bool false, .int .i64 0]) ?_ 0 _ (by first | rfl | (simp only [gt_iff_lt, *]; rfl) | (simp [*]; done)); (with_reducible repeat (first | refine blk_drewN ?_ _ | refine blk_drew ?_ | refine blk_alloc ?_ _)); exact BK242.out⟩, ⟨by repeat (first | (with_reducible first | exact HB.out | apply below_alloc | apply pw_below_drewN | apply below_drew1 | refine below_set ?_ GE233.out | refine below_set ?_ GE242.out) | exact HB.out)⟩⟩
                  · rw [if_neg c24] at H
                    have c24b0 : decide (0 < t237) = false := decide_eq_false c24
                    clear c24
                    (first | rw [c24b0] | rw [c24b1] | (simp only [i64_w, i32_w]; rw [c24b0]) | skip)
                    have H' := Aside0.mk H
                    clear H
                    go_wp2
                    go_meet
                    case rel => exact ⟨_, (0), H', ⟨by have := HJ9.out; first | omega | exact Nat.le_refl _⟩, ⟨by (with_reducible repeat (first | refine blk_drewN ?_ _ | refine blk_drew ?_ | refine blk_alloc ?_ _)); refine blk_far ?_ NB233_242.out _; (with_reducible repeat (first | refine blk_drewN ?_ _ | refine blk_drew ?_ | refine blk_alloc ?_ _)); refine blk_far ?_ NB233_242.out _; (with_reducible repeat (first | refine blk_drewN ?_ _ | refine blk_drew ?_ | refine blk_alloc ?_ _)); refine blk_far ?_ NB233_242.out _; (with_reducible repeat (first | refine blk_drewN ?_ _ | refine blk_drew ?_ | refine blk_alloc ?_ _)); refine blk_far ?_ NB233_242.out _; (with_reducible repeat (first | refine blk_drewN ?_ _ | refine blk_drew ?_ | refine blk_alloc ?_ _)); exact BK233.out⟩, ⟨by (with_reducible repeat (first | refine blk_drewN ?_ _ | refine blk_drew ?_ | refine blk_alloc ?_ _)); refine blk_put (cs := #[.int .i64 t234, .slice none 0 0, .bool (decide (t237 > 0)), .int .i64 0]) ?_ 3 _ (by first | rfl | (simp only [gt_iff_lt, *]; rfl) | (simp [*]; done)); (with_reducible repeat (first | refine blk_drewN ?_ _ | refine blk_drew ?_ | refine blk_alloc ?_ _)); refine blk_put (cs := #[.int .i64 t234, .slice none 0 0, .bool false, .int .i64 0]) ?_ 2 _ (by first | rfl | (simp only [gt_iff_lt, *]; rfl) | (simp [*]; done)); (with_reducible repeat (first | refine blk_drewN ?_ _ | refine blk_drew ?_ | refine blk_alloc ?_ _)); refine blk_put (cs := #[.int .i64 t234, .slice none 0 0, .bool false, .int .i64 0]) ?_ 1 _ (by first | rfl | (simp only [gt_iff_lt, *]; rfl) | (simp [*]; done)); (with_reducible repeat (first | refine blk_drewN ?_ _ | refine blk_drew ?_ | refine blk_alloc ?_ _)); refine blk_put (cs := #[.int .i64 0, .slice none 0 0, .bool false, .int .i64 0]) ?_ 0 _ (by first | rfl | (simp only [gt_iff_lt, *]; rfl) | (simp [*]; done)); (with_reducible repeat (first | refine blk_drewN ?_ _ | refine blk_drew ?_ | refine blk_alloc ?_ _)); exact BK242.out⟩, ⟨by repeat (first | (with_reducible first | exact HB.out | apply below_alloc | apply pw_below_drewN | apply below_drew1 | refine below_set ?_ GE233.out | refine below_set ?_ GE242.out) | exact HB.out)⟩⟩
                case rest =>
                  clear HC20
                  try clear c1
                  try clear c2
                  try clear p2
                  try clear c3
                  try clear c3b0
                  try clear c3b1
                  try clear c4
                  try clear c4b0
                  try clear c4b1
                  try clear p6
                  try clear c7
                  try clear c7b0
                  try clear c7b1
                  try clear c8
                  try clear c8b0
                  try clear c8b1
                  try clear c14
                  try clear c14b0
                  try clear c14b1
                  try clear c15
                  try clear c15b0
                  try clear c15b1
                  try clear c16
                  try clear c16b0
                  try clear c16b1
                  try clear c17
                  try clear c17b0
                  try clear c18
                  try clear c22
                  try clear c24
                  try clear c24b0
                  try clear c25
                  try clear hcz19_0
                  try clear hcz19_1
                  try clear hcz19_2
                  try clear hcz19_3
                  try clear hcz23_0
                  try clear hcz23_1
                  try clear hcz23_2
                  try clear hcz23_3
                  try clear hcz26_0
                  try clear hcz26_1
                  try clear hcz26_2
                  try clear hcz26_3
                  try clear hfz19_0
                  try clear hfz19_1
                  try clear hfz19_2
                  try clear hfz19_3
                  try clear hfz23_0
                  try clear hfz23_1
                  try clear hfz23_2
                  try clear hfz23_3
                  try clear hfz26_0
                  try clear hfz26_1
                  try clear hfz26_2
                  try clear hfz26_3
                  try clear p2
                  try clear p6
                  obtain ⟨kq, x243003_19, HA, HJ19, BK233, BK242, HB⟩ := hcut
                  cases kq with
                  | zero => exact absurd HA.out (by simp [ferrymanref05_DecodeState.j1])
                  | succ kj19 =>
                    have H := HA.out
                    clear HA
                    simp only [ferrymanref05_DecodeState.j1] at H
                    have H' := Aside0.mk H
                    clear H
                    go_wp2
                    go_loopg [11, 12] kj19 (fun kq v11 v12 w' => ∃ (x11_3 : Int) (x12_3 : Int) (x234000_3 : Int) (x234002_3 : Bool) (x234003_3 : Int) (x243001_3 : List Int) (u243001 : Value), v11 = .int .i64 x11_3 ∧ v12 = .int .i64 x12_3 ∧ Aside0 (ferrymanref05_DecodeState.l0 kq l0 t240 x11_3 x12_3 t234 x243001_3 (decide (t237 > 0)) x243003_19 = some (r1, r2, r3, r4, r5)) ∧ Aside0 (kq ≤ kj19) ∧ Aside0 (Kd.R (Kd.int .i64) 3 w' w.heap.size (fun _ => True) u243001 x243001_3) ∧ Aside0 (w'.heap[gb233]? = some (.cells #[.int .i64 x234000_3, (.slice none 0 0), .bool x234002_3, .int .i64 x234003_3] 35 (0, 0))) ∧ Aside0 (w'.heap[gb242]? = some (.cells #[.int .i64 t234, u243001, .bool (decide (t237 > 0)), .int .i64 x243003_19] 35 (0, 0))) ∧ Aside0 (Below w.heap.size w w'))
                    case atStart => exact ⟨(wrap64 ((wrap64 (t235 + t238)) + t241)), (0), (0), (false), (0), (([] : List Int)), (.slice none 0 0), (by first | rfl | (simp; done) | (simp [*]; done)), (by first | rfl | (simp; done) | (simp [*]; done)), H', ⟨Nat.le_refl _⟩, ⟨by first | exact Kd.R_nil _ _ _ _ _ | exact Kd.N_nil _ _ _ _ _ | exact Kd.V_nil _ _ _ _ _ | exact Kd.Q_nil _ _ _ _ _ | exact Kd.S_nil _ _ _ _ _⟩, ⟨by (with_reducible repeat (first | refine blk_drewN ?_ _ | refine blk_drew ?_ | refine blk_alloc ?_ _)); exact BK233.out⟩, ⟨by (with_reducible repeat (first | refine blk_drewN ?_ _ | refine blk_drew ?_ | refine blk_alloc ?_ _)); exact BK242.out⟩, ⟨by repeat (first | (with_reducible first | exact HB.out | apply below_alloc | apply pw_below_drewN | apply below_drew1 | refine below_set ?_ GE233.out | refine below_set ?_ GE242.out) | exact HB.out)⟩⟩
                    case round =>
                      clear H'
                      try clear c1
                      try clear c2
                      try clear p2
                      try clear c3
                      try clear c3b0
                      try clear c3b1
                      try clear c4
                      try clear c4b0
                      try clear c4b1
                      try clear p6
                      try clear c7
                      try clear c7b0
                      try clear c7b1
                      try clear c8
                      try clear c8b0
                      try clear c8b1
                      try clear c14
                      try clear c14b0
                      try clear c14b1
                      try clear c15
                      try clear c15b0
                      try clear c15b1
                      try clear c16
                      try clear c16b0
                      try clear c16b1
                      try clear c17
                      try clear c17b0
                      try clear c18
                      try clear c22
                      try clear c24
                      try clear c24b0
                      try clear c25
                      try clear hcz19_0
                      try clear hcz19_1
                      try clear hcz19_2
                      try clear hcz19_3
                      try clear hcz23_0
                      try clear hcz23_1
                      try clear hcz23_2
                      try clear hcz23_3
                      try clear hcz26_0
                      try clear hcz26_1
                      try clear hcz26_2
                      try clear hcz26_3
                      try clear hfz19_0
                      try clear hfz19_1
                      try clear hfz19_2
                      try clear hfz19_3
                      try clear hfz23_0
                      try clear hfz23_1
                      try clear hfz23_2
                      try clear hfz23_3
                      try clear hfz26_0
                      try clear hfz26_1
                      try clear hfz26_2
                      try clear hfz26_3
                      try clear p2
                      try clear p6
                      obtain ⟨x11_3, x12_3, x234000_3, x234002_3, x234003_3, x243001_3, u243001, rfl, rfl, HA, HK3, HO_243001, BK233, BK242, HB⟩ := hrel
                      cases gk with
                      | zero => exact absurd HA.out (by simp [ferrymanref05_DecodeState.l0])
                      | succ k3 =>
                        have H := HA.out
                        clear HA
                        simp only [ferrymanref05_DecodeState.l0] at H
                        by_cases c27 : x12_3 < t240
                        · rw [if_pos c27] at H
                          have c27b0 : decide (x12_3 < t240) = true := decide_eq_true c27
                          clear c27
                          by_cases c28 : 0 ≤ x11_3
                          · rw [if_pos c28] at H
                            have c28b0 := eq_true c28
                            have c28b1 : decide (0 ≤ x11_3) = true := decide_eq_true c28
                            clear c28
                            by_cases c29 : x11_3 ≤ (l0.length : Int)
                            · rw [if_pos c29] at H
                              have c29b0 := eq_true c29
                              have c29b1 : decide (x11_3 ≤ (l0.length : Int)) = true := decide_eq_true c29
                              clear c29
                              replace H := Option.bind_eq_some_iff.mp H
                              obtain ⟨⟨t244, t245⟩, A300, H⟩ := H
                              replace H : (if t245 = 0 then (some (0, ([] : List Int), false, 0, 3)) else (if x243001_3.length < 17592186044416 then (ferrymanref05_DecodeState.l0 k3 l0 t240 (wrap64 (x11_3 + t245)) (wrap64 (x12_3 + 1)) t234 (x243001_3 ++ [t244]) (decide (t237 > 0)) x243003_19) else (none))) = some (r1, r2, r3, r4, r5) := H
                              have A30 := Aside0.mk A300
                              clear A300
                              by_cases c31 : t245 = 0
                              · rw [if_pos c31] at H
                                have c31b0 : (t245 == 0) = true := beq_iff_eq.mpr c31
                                have c31b1 : (t245 != 0) = false := bne_eq_false_iff_eq.mpr c31
                                clear c31
                                simp only [Option.some.injEq, Prod.mk.injEq] at H
                                obtain ⟨rfl, rfl, rfl, rfl, rfl⟩ := H
                                obtain ⟨i032, hi032, _, hsz32, _⟩ := info_parts info5
                                obtain ⟨A32, hcut32, hA32, hC32⟩ := print_drop_of (P := Try.prog) (Value.int .u8) 0 25 5 .i64 Try.underlying25 hi032 hsz32 A0 c0 l0 x11_3 (of_decide_eq_true (by first | (with_reducible assumption) | assumption)) (of_decide_eq_true (by first | (with_reducible assumption) | assumption)) HC0.out
                                have HR243 := Aside0.mk (Kd.C_of_reads (h1 := fun _ => rfl) (hA32 _ (Kd.reads_of_C HR0.out)))
                                have HC243 := Aside0.mk hC32
                                clear hA32 hC32 hi032 hsz32
                                go_wp2_with (first | ((with_reducible refine gate_callee (f := 30) rfl ?_); refine goesL_ (some 79) rfl rfl Try.func30 (by kernel_rfl) rfl #[.slice A32 (l0.drop (x11_3 : Int).toNat).length (c0 - x11_3.toNat)] rfl (by (try simp only [List.map_toArray, List.map_cons, List.map_nil]); first | done | (rw [show (l0.drop (x11_3 : Int).toNat).length = (l0.length - x11_3.toNat) from List.length_drop] <;> rfl) | rfl | (simp only [List.length_drop, List.length_take]; rfl)) ?_; (with_reducible refine (ferrymanref01_GetSigned.calls k3 _ _ (l0.drop (x11_3 : Int).toNat) t244 t245 _ ?side1 ?side2 A30.out).mono ?_); (case side1 => repeat (first | exact (Kd.C_below HR243.out HB.out) | (with_reducible refine Kd.C_alloc ?_ _) | (with_reducible refine Kd.C_drewN ?_ _) | (with_reducible refine Kd.C_drew ?_))); (case side2 => exact HC243.out); rintro e w' ⟨rfl, ⟨nd, rfl⟩⟩; refine ⟨_, rfl, ?_⟩; (try (rw [drewN_self wr]; generalize hq_ : World.drewN wr _ = wr; have n0_ : Aside0 (Kd.R (Kd.int .i64) 3 wr w.heap.size (fun _ => True) u243001 x243001_3) := ⟨by rw [← hq_]; exact (by (with_reducible repeat (first | apply Kd.R_alloc | apply Kd.R_drewN | apply Kd.R_drew)); exact HO_243001.out)⟩; have n1_ : Aside0 (wr.heap[gb233]? = some (.cells #[.int .i64 x234000_3, .slice none 0 0, .bool x234002_3, .int .i64 x234003_3] 35 (0, 0))) := ⟨by rw [← hq_]; exact (by (with_reducible repeat (first | refine blk_drewN ?_ _ | refine blk_drew ?_ | refine blk_alloc ?_ _)); exact BK233.out)⟩; have n2_ : Aside0 (wr.heap[gb242]? = some (.cells #[.int .i64 t234, u243001, .bool (decide (t237 > 0)), .int .i64 x243003_19] 35 (0, 0))) := ⟨by rw [← hq_]; exact (by (with_reducible repeat (first | refine blk_drewN ?_ _ | refine blk_drew ?_ | refine blk_alloc ?_ _)); exact BK242.out)⟩; have n3_ : Aside0 (Below w.heap.size w wr) := ⟨by rw [← hq_]; exact (by repeat (first | (with_reducible first | exact HB.out | apply below_alloc | apply pw_below_drewN | apply below_drew1 | refine below_set ?_ GE233.out | refine below_set ?_ GE242.out) | exact HB.out))⟩; clear HO_243001 BK233 BK242 HB hq_; have HO_243001 := n0_; have BK233 := n1_; have BK242 := n2_; have HB := n3_; clear n0_ n1_ n2_ n3_)); have hnb33 := NB233_242.out; have hnc33 := NB242_233.out; have hcz34_0 : wr.cell? ⟨gb233, 0, none⟩ = some (.int .i64 x234000_3) := (blk_cell BK233.out 0).trans rfl; have hcz34_1 : wr.cell? ⟨gb233, 1, none⟩ = some (.slice none 0 0) := (blk_cell BK233.out 1).trans rfl; have hcz34_2 : wr.cell? ⟨gb233, 2, none⟩ = some (.bool x234002_3) := (blk_cell BK233.out 2).trans rfl; have hcz34_3 : wr.cell? ⟨gb233, 3, none⟩ = some (.int .i64 x234003_3) := (blk_cell BK233.out 3).trans rfl; have hfz34_0 := blk_frozen BK233.out 0; have hfz34_1 := blk_frozen BK233.out 1; have hfz34_2 := blk_frozen BK233.out 2; have hfz34_3 := blk_frozen BK233.out 3))
                                refine bodyPost_ret (results_ct rfl _ _ gb233 35 #[.int .i64 0, .slice none 0 0, .bool false, .int .i64 0] (0, 0) _ rfl (by (with_reducible repeat (first | refine blk_drewN ?_ _ | refine blk_drew ?_ | refine blk_alloc ?_ _)); refine blk_put (cs := #[.int .i64 0, .slice none 0 0, .bool false, .int .i64 x234003_3]) ?_ 3 _ (by first | rfl | (simp only [gt_iff_lt, *]; rfl) | (simp [*]; done)); (with_reducible repeat (first | refine blk_drewN ?_ _ | refine blk_drew ?_ | refine blk_alloc ?_ _)); refine blk_put (cs := #[.int .i64 0, .slice none 0 0, .bool x234002_3, .int .i64 x234003_3]) ?_ 2 _ (by first | rfl | (simp only [gt_iff_lt, *]; rfl) | (simp [*]; done)); (with_reducible repeat (first | refine blk_drewN ?_ _ | refine blk_drew ?_ | refine blk_alloc ?_ _)); refine blk_put (cs := #[.int .i64 0, .slice none 0 0, .bool x234002_3, .int .i64 x234003_3]) ?_ 1 _ (by first | rfl | (simp only [gt_iff_lt, *]; rfl) | (simp [*]; done)); (with_reducible repeat (first | refine blk_drewN ?_ _ | refine blk_drew ?_ | refine blk_alloc ?_ _)); refine blk_put (cs := #[.int .i64 x234000_3, .slice none 0 0, .bool x234002_3, .int .i64 x234003_3]) ?_ 0 _ (by first | rfl | (simp only [gt_iff_lt, *]; rfl) | (simp [*]; done)); (with_reducible repeat (first | refine blk_drewN ?_ _ | refine blk_drew ?_ | refine blk_alloc ?_ _)); exact BK233.out) Try.underlying35 rfl (by kernel_rfl)) rfl ?_
                                exact ⟨_, by first | rfl | (simp [errW_none, errW_some] <;> rfl) | (simp only [← hji6]; first | rfl | (simp [errW_none, errW_some] <;> rfl)) | (simp [*, errW_none, errW_some] <;> rfl), by first | exact Kd.R_nil _ _ _ _ _ | exact Kd.N_nil _ _ _ _ _ | exact Kd.V_nil _ _ _ _ _ | exact Kd.Q_nil _ _ _ _ _ | exact Kd.S_nil _ _ _ _ _, by repeat (first | (with_reducible first | exact HB.out | apply below_alloc | apply pw_below_drewN | apply below_drew1 | refine below_set ?_ GE233.out | refine below_set ?_ GE242.out) | exact HB.out)⟩
                              · rw [if_neg c31] at H
                                have c31b0 : (t245 == 0) = false := beq_eq_false_iff_ne.mpr c31
                                have c31b1 : (t245 != 0) = true := bne_iff_ne.mpr c31
                                by_cases c35 : x243001_3.length < 17592186044416
                                · rw [if_pos c35] at H
                                  have LMc35 := Aside0.mk c35
                                  clear c35
                                  obtain ⟨y246, hy246⟩ : ∃ y_ : List Int, y_ = (x243001_3 ++ [t244]) := ⟨_, rfl⟩
                                  replace H : (ferrymanref05_DecodeState.l0 k3 l0 t240 (wrap64 (x11_3 + t245)) (wrap64 (x12_3 + 1)) t234 y246 (decide (t237 > 0)) x243003_19) = some (r1, r2, r3, r4, r5) := by first | (rw [hy246]; with_reducible exact H) | (have H2_ := (Option.bind_some _ _).symm.trans H; rw [hy246]; with_reducible exact H2_) | (have H2_ := (Option.bind_some _ _).symm.trans H; with_reducible exact H2_) | with_reducible exact H | (rw [hy246]; exact H) | exact H
                                  have Ny246 := Aside0.mk hy246
                                  clear hy246
                                  have H' := Aside0.mk H
                                  clear H
                                  obtain ⟨i036, hi036, _, hsz36, _⟩ := info_parts info5
                                  obtain ⟨A36, hcut36, hA36, hC36⟩ := print_drop_of (P := Try.prog) (Value.int .u8) 0 25 5 .i64 Try.underlying25 hi036 hsz36 A0 c0 l0 x11_3 (of_decide_eq_true (by first | (with_reducible assumption) | assumption)) (of_decide_eq_true (by first | (with_reducible assumption) | assumption)) HC0.out
                                  have HR243 := Aside0.mk (Kd.C_of_reads (h1 := fun _ => rfl) (hA36 _ (Kd.reads_of_C HR0.out)))
                                  have HC243 := Aside0.mk hC36
                                  clear hA36 hC36 hi036 hsz36
                                  have tok1_ : True := trivial; have tok2_ : True := trivial
                                  go_wp2_with (first | ((with_reducible refine gate_callee (f := 30) rfl ?_); clear tok1_; refine goesL_ (some 79) rfl rfl Try.func30 (by kernel_rfl) rfl #[.slice A36 (l0.drop (x11_3 : Int).toNat).length (c0 - x11_3.toNat)] rfl (by (try simp only [List.map_toArray, List.map_cons, List.map_nil]); first | done | (rw [show (l0.drop (x11_3 : Int).toNat).length = (l0.length - x11_3.toNat) from List.length_drop] <;> rfl) | rfl | (simp only [List.length_drop, List.length_take]; rfl)) ?_; (with_reducible refine (ferrymanref01_GetSigned.calls k3 _ _ (l0.drop (x11_3 : Int).toNat) t244 t245 _ ?side1 ?side2 A30.out).mono ?_); (case side1 => repeat (first | exact (Kd.C_below HR243.out HB.out) | (with_reducible refine Kd.C_alloc ?_ _) | (with_reducible refine Kd.C_drewN ?_ _) | (with_reducible refine Kd.C_drew ?_))); (case side2 => exact HC243.out); rintro e w' ⟨rfl, ⟨nd, rfl⟩⟩; refine ⟨_, rfl, ?_⟩; (try (rw [drewN_self wr]; generalize hq_ : World.drewN wr _ = wr; have n0_ : Aside0 (Kd.R (Kd.int .i64) 3 wr w.heap.size (fun _ => True) u243001 x243001_3) := ⟨by rw [← hq_]; exact (by (with_reducible repeat (first | apply Kd.R_alloc | apply Kd.R_drewN | apply Kd.R_drew)); exact HO_243001.out)⟩; have n1_ : Aside0 (wr.heap[gb233]? = some (.cells #[.int .i64 x234000_3, .slice none 0 0, .bool x234002_3, .int .i64 x234003_3] 35 (0, 0))) := ⟨by rw [← hq_]; exact (by (with_reducible repeat (first | refine blk_drewN ?_ _ | refine blk_drew ?_ | refine blk_alloc ?_ _)); exact BK233.out)⟩; have n2_ : Aside0 (wr.heap[gb242]? = some (.cells #[.int .i64 t234, u243001, .bool (decide (t237 > 0)), .int .i64 x243003_19] 35 (0, 0))) := ⟨by rw [← hq_]; exact (by (with_reducible repeat (first | refine blk_drewN ?_ _ | refine blk_drew ?_ | refine blk_alloc ?_ _)); exact BK242.out)⟩; have n3_ : Aside0 (Below w.heap.size w wr) := ⟨by rw [← hq_]; exact (by repeat (first | (with_reducible first | exact HB.out | apply below_alloc | apply pw_below_drewN | apply below_drew1 | refine below_set ?_ GE233.out | refine below_set ?_ GE242.out) | exact HB.out))⟩; clear HO_243001 BK233 BK242 HB hq_; have HO_243001 := n0_; have BK233 := n1_; have BK242 := n2_; have HB := n3_; clear n0_ n1_ n2_ n3_)); have hnb37 := NB242_233.out; have hnc37 := NB233_242.out; have hcz38_0 : wr.cell? ⟨gb242, 0, none⟩ = some (.int .i64 t234) := (blk_cell BK242.out 0).trans rfl; have hcz38_1 : wr.cell? ⟨gb242, 1, none⟩ = some (u243001) := (blk_cell BK242.out 1).trans rfl; have hcz38_2 : wr.cell? ⟨gb242, 2, none⟩ = some (.bool (decide (t237 > 0))) := (blk_cell BK242.out 2).trans rfl; have hcz38_3 : wr.cell? ⟨gb242, 3, none⟩ = some (.int .i64 x243003_19) := (blk_cell BK242.out 3).trans rfl; have hfz38_0 := blk_frozen BK242.out 0; have hfz38_1 := blk_frozen BK242.out 1; have hfz38_2 := blk_frozen BK242.out 2; have hfz38_3 := blk_frozen BK242.out 3) | ((with_reducible refine gate_builtin (b := .append) (xs := #[.tmp 86, .tmp 88]) rfl ?_); clear tok2_; at_builtin; refine Kd.R_append (Kd.int .i64) (w0 := w) w.heap.size rfl (.tmp 86) (.tmp 88) 33 3 (.int .i64 0) 8 rfl Try.underlying33 info3 rfl (by decide) (by omega) u243001 x243001_3 t244 [.int .i64 t244] (fun _ => True) (fun _ => False) rfl rfl ?aP (fun _ hk => hk.elim) ?aF ?aO ?aB ?aS ?aL ?_; (case aP => exact rfl); (case aB => exact (by repeat (first | (with_reducible first | exact HB.out | apply below_alloc | apply pw_below_drewN | apply below_drew1 | refine below_set ?_ GE233.out | refine below_set ?_ GE242.out) | exact HB.out))); (case aF => exact (fun _ _ => trivial)); (case aO => exact (by (with_reducible repeat (first | apply Kd.R_alloc | apply Kd.R_drewN | apply Kd.R_drew)); exact HO_243001.out)); (case aS => exact (below_size (by repeat (first | (with_reducible first | exact HB.out | apply below_alloc | apply pw_below_drewN | apply below_drew1 | refine below_set ?_ GE233.out | refine below_set ?_ GE242.out) | exact HB.out)))); (case aL => have := LMc35.out; omega); intro v247 w39 ho hb hg hat; rw [← Ny246.out] at ho; have n0_ := Aside0.mk (blk_grown (g := gb233) (o := .cells #[.int .i64 x234000_3, .slice none 0 0, .bool x234002_3, .int .i64 x234003_3] 35 (0, 0)) (by (with_reducible repeat (first | refine blk_drewN ?_ _ | refine blk_drew ?_ | refine blk_alloc ?_ _)); exact BK233.out) hg (Kd.R_ne HO_243001.out BK233.out (by decide))); have n1_ := Aside0.mk (blk_grown (g := gb242) (o := .cells #[.int .i64 t234, u243001, .bool (decide (t237 > 0)), .int .i64 x243003_19] 35 (0, 0)) (by (with_reducible repeat (first | refine blk_drewN ?_ _ | refine blk_drew ?_ | refine blk_alloc ?_ _)); exact BK242.out) hg (Kd.R_ne HO_243001.out BK242.out (by decide))); have n2_ := Aside0.mk (hb); have n3_ := Aside0.mk (ho); clear BK233; clear BK242; clear HB; clear HO_243001; have BK233 := n0_; have BK242 := n1_; have HB := n2_; have HO248 := n3_; clear n0_ n1_ n2_ n3_; clear ho hb hg hat; obtain ⟨Ao40, co40, eo40⟩ := Kd.R_slice HO248.out; subst eo40; have hcz41_0 : w39.cell? ⟨gb242, 0, none⟩ = some (.int .i64 t234) := (blk_cell BK242.out 0).trans rfl; have hcz41_1 : w39.cell? ⟨gb242, 1, none⟩ = some (u243001) := (blk_cell BK242.out 1).trans rfl; have hcz41_2 : w39.cell? ⟨gb242, 2, none⟩ = some (.bool (decide (t237 > 0))) := (blk_cell BK242.out 2).trans rfl; have hcz41_3 : w39.cell? ⟨gb242, 3, none⟩ = some (.int .i64 x243003_19) := (blk_cell BK242.out 3).trans rfl; have hfz41_0 := blk_frozen BK242.out 0; have hfz41_1 := blk_frozen BK242.out 1; have hfz41_2 := blk_frozen BK242.out 2; have hfz41_3 := blk_frozen BK242.out 3))
                                  go_roundg k3
                                  case measure => have := HJ9.out; have := HJ19.out; have := HK3.out; omega
                                  case rel => exact ⟨(wrap64 (x11_3 + t245)), (wrap64 (x12_3 + 1)), (x234000_3), (x234002_3), (x234003_3), (y246), (.slice Ao40 y246.length co40), (by first | rfl | (simp; done) | (simp [*]; done)), (by first | rfl | (simp; done) | (simp [*]; done)), H', ⟨by have := HJ9.out; have := HJ19.out; have := HK3.out; omega⟩, ⟨by (with_reducible repeat (first | apply Kd.R_alloc | apply Kd.R_drewN | apply Kd.R_drew)); exact Kd.R_mono (Kd.R_far (p := ⟨gb242, 1, none⟩) (Kd.R_types HO248.out BK242.out (by decide)) (fun _ hk => hk.2) (.slice Ao40 y246.length co40)) (fun _ hk => trivial)⟩, ⟨by (with_reducible repeat (first | refine blk_drewN ?_ _ | refine blk_drew ?_ | refine blk_alloc ?_ _)); refine blk_far ?_ NB233_242.out _; (with_reducible repeat (first | refine blk_drewN ?_ _ | refine blk_drew ?_ | refine blk_alloc ?_ _)); exact BK233.out⟩, ⟨by (with_reducible repeat (first | refine blk_drewN ?_ _ | refine blk_drew ?_ | refine blk_alloc ?_ _)); refine blk_put (cs := #[.int .i64 t234, u243001, .bool (decide (t237 > 0)), .int .i64 x243003_19]) ?_ 1 _ (by first | rfl | (simp only [gt_iff_lt, *]; rfl) | (simp [*]; done)); (with_reducible repeat (first | refine blk_drewN ?_ _ | refine blk_drew ?_ | refine blk_alloc ?_ _)); exact BK242.out⟩, ⟨by repeat (first | (with_reducible first | exact HB.out | apply below_alloc | apply pw_below_drewN | apply below_drew1 | refine below_set ?_ GE233.out | refine below_set ?_ GE242.out) | exact HB.out)⟩⟩
                                · rw [if_neg c35] at H
                                  exact absurd H (by simp)
                            · rw [if_neg c29] at H
                              exact absurd H (by simp)
                          · rw [if_neg c28] at H
                            exact absurd H (by simp)
                        · rw [if_neg c27] at H
                          have c27b0 : decide (x12_3 < t240) = false := decide_eq_false c27
                          clear c27
                          by_cases c42 : x11_3 = (l0.length : Int)
                          · rw [if_pos c42] at H
                            have c42b0 : (x11_3 == (l0.length : Int)) = true := beq_iff_eq.mpr c42
                            have c42b1 : (x11_3 != (l0.length : Int)) = false := bne_eq_false_iff_eq.mpr c42
                            clear c42
                            replace H := Option.bind_eq_some_iff.mp H
                            obtain ⟨t249, A430, H⟩ := H
                            replace H : (if t249 = true then (some (t234, x243001_3, (decide (t237 > 0)), x243003_19, 0)) else (some (0, ([] : List Int), false, 0, 1))) = some (r1, r2, r3, r4, r5) := H
                            have A43 := Aside0.mk A430
                            clear A430
                            by_cases c44 : t249 = true
                            · subst c44
                              have H1 : (some (t234, x243001_3, (decide (t237 > 0)), x243003_19, 0)) = some (r1, r2, r3, r4, r5) := by rw [if_pos rfl] at H; exact H
                              clear H
                              have H := H1
                              clear H1
                              simp only [Option.some.injEq, Prod.mk.injEq] at H
                              obtain ⟨rfl, rfl, rfl, rfl, rfl⟩ := H
                              have hnb45 := NB242_233.out
                              have hnc45 := NB233_242.out
                              have hcz46_0 : wr.cell? ⟨gb242, 0, none⟩ = some (.int .i64 t234) := (blk_cell BK242.out 0).trans rfl
                              have hcz46_1 : wr.cell? ⟨gb242, 1, none⟩ = some (u243001) := (blk_cell BK242.out 1).trans rfl
                              have hcz46_2 : wr.cell? ⟨gb242, 2, none⟩ = some (.bool (decide (t237 > 0))) := (blk_cell BK242.out 2).trans rfl
                              have hcz46_3 : wr.cell? ⟨gb242, 3, none⟩ = some (.int .i64 x243003_19) := (blk_cell BK242.out 3).trans rfl
                              have hfz46_0 := blk_frozen BK242.out 0
                              have hfz46_1 := blk_frozen BK242.out 1
                              have hfz46_2 := blk_frozen BK242.out 2
                              have hfz46_3 := blk_frozen BK242.out 3
                              obtain ⟨Ao47, co47, eo47⟩ := Kd.R_slice HO_243001.out
                              subst eo47
                              go_wp2_with (first | ((with_reducible refine gate_callee (f := 33) rfl ?_); refine goesL_ (some 100) rfl rfl Try.func33 (by kernel_rfl) rfl #[.agg #[.int .i64 t234, .slice Ao47 x243001_3.length co47, .bool (decide (t237 > 0)), .int .i64 x243003_19]] rfl (by (try simp only [List.map_toArray, List.map_cons, List.map_nil]); first | done | rfl | (simp only [List.length_drop, List.length_take]; rfl)) ?_; (with_reducible refine (ferrymanref04_May.calls k3 t234 _ _ x243001_3 (decide (t237 > 0)) x243003_19 true _ ?side1 ?side2 A43.out).mono ?_); (case side1 => repeat (first | exact (Kd.R_reads' HO_243001.out).2.2 | (with_reducible refine Kd.C_alloc ?_ _) | (with_reducible refine Kd.C_drewN ?_ _) | (with_reducible refine Kd.C_drew ?_))); (case side2 => exact (Kd.R_reads' HO_243001.out).2.1); rintro e w48 ⟨rfl, hb⟩; refine ⟨_, rfl, ?_⟩; have n0_ := Aside0.mk (Kd.R_below (by (with_reducible repeat (first | apply Kd.R_alloc | apply Kd.R_drewN | apply Kd.R_drew)); exact HO_243001.out) hb); have n1_ := Aside0.mk (blk_below (g := gb233) (o := .cells #[.int .i64 x234000_3, .slice none 0 0, .bool x234002_3, .int .i64 x234003_3] 35 (0, 0)) (by (with_reducible repeat (first | refine blk_drewN ?_ _ | refine blk_drew ?_ | refine blk_alloc ?_ _)); exact BK233.out) hb); have n2_ := Aside0.mk (blk_below (g := gb242) (o := .cells #[.int .i64 t234, .slice Ao47 x243001_3.length co47, .bool (decide (t237 > 0)), .int .i64 x243003_19] 35 (0, 0)) (by (with_reducible repeat (first | refine blk_drewN ?_ _ | refine blk_drew ?_ | refine blk_alloc ?_ _)); exact BK242.out) hb); have n3_ := Aside0.mk (below_step (by repeat (first | (with_reducible first | exact HB.out | apply below_alloc | apply pw_below_drewN | apply below_drew1 | refine below_set ?_ GE233.out | refine below_set ?_ GE242.out) | exact HB.out)) hb); clear HO_243001; clear BK233; clear BK242; clear HB; have HO_243001 := n0_; have BK233 := n1_; have BK242 := n2_; have HB := n3_; clear n0_ n1_ n2_ n3_; (try clear hb); (try clear hb2); (try clear hk); (try clear hi); have hcz49_0 : w48.cell? ⟨gb242, 0, none⟩ = some (.int .i64 t234) := (blk_cell BK242.out 0).trans rfl; have hcz49_1 : w48.cell? ⟨gb242, 1, none⟩ = some (.slice Ao47 x243001_3.length co47) := (blk_cell BK242.out 1).trans rfl; have hcz49_2 : w48.cell? ⟨gb242, 2, none⟩ = some (.bool (decide (t237 > 0))) := (blk_cell BK242.out 2).trans rfl; have hcz49_3 : w48.cell? ⟨gb242, 3, none⟩ = some (.int .i64 x243003_19) := (blk_cell BK242.out 3).trans rfl; have hfz49_0 := blk_frozen BK242.out 0; have hfz49_1 := blk_frozen BK242.out 1; have hfz49_2 := blk_frozen BK242.out 2; have hfz49_3 := blk_frozen BK242.out 3; have hcz50_0 : w48.cell? ⟨gb233, 0, none⟩ = some (.int .i64 x234000_3) := (blk_cell BK233.out 0).trans rfl; have hcz50_1 : w48.cell? ⟨gb233, 1, none⟩ = some (.slice none 0 0) := (blk_cell BK233.out 1).trans rfl; have hcz50_2 : w48.cell? ⟨gb233, 2, none⟩ = some (.bool x234002_3) := (blk_cell BK233.out 2).trans rfl; have hcz50_3 : w48.cell? ⟨gb233, 3, none⟩ = some (.int .i64 x234003_3) := (blk_cell BK233.out 3).trans rfl; have hfz50_0 := blk_frozen BK233.out 0; have hfz50_1 := blk_frozen BK233.out 1; have hfz50_2 := blk_frozen BK233.out 2; have hfz50_3 := blk_frozen BK233.out 3))
                              refine bodyPost_ret (results_ct rfl _ _ gb233 35 #[.int .i64 t234, .slice Ao47 x243001_3.length co47, .bool (decide (t237 > 0)), .int .i64 x243003_19] (0, 0) _ rfl (by (with_reducible repeat (first | refine blk_drewN ?_ _ | refine blk_drew ?_ | refine blk_alloc ?_ _)); refine blk_put (cs := #[.int .i64 t234, .slice Ao47 x243001_3.length co47, .bool (decide (t237 > 0)), .int .i64 x234003_3]) ?_ 3 _ (by first | rfl | (simp only [gt_iff_lt, *]; rfl) | (simp [*]; done)); (with_reducible repeat (first | refine blk_drewN ?_ _ | refine blk_drew ?_ | refine blk_alloc ?_ _)); refine blk_put (cs := #[.int .i64 t234, .slice Ao47 x243001_3.length co47, .bool x234002_3, .int .i64 x234003_3]) ?_ 2 _ (by first | rfl | (simp only [gt_iff_lt, *]; rfl) | (simp [*]; done)); (with_reducible repeat (first | refine blk_drewN ?_ _ | refine blk_drew ?_ | refine blk_alloc ?_ _)); refine blk_put (cs := #[.int .i64 t234, .slice none 0 0, .bool x234002_3, .int .i64 x234003_3]) ?_ 1 _ (by first | rfl | (simp only [gt_iff_lt, *]; rfl) | (simp [*]; done)); (with_reducible repeat (first | refine blk_drewN ?_ _ | refine blk_drew ?_ | refine blk_alloc ?_ _)); refine blk_put (cs := #[.int .i64 x234000_3, .slice none 0 0, .bool x234002_3, .int .i64 x234003_3]) ?_ 0 _ (by first | rfl | (simp only [gt_iff_lt, *]; rfl) | (simp [*]; done)); (with_reducible repeat (first | refine blk_drewN ?_ _ | refine blk_drew ?_ | refine blk_alloc ?_ _)); exact BK233.out) Try.underlying35 rfl (by kernel_rfl)) rfl ?_
                              exact ⟨_, by first | rfl | (simp [errW_none, errW_some] <;> rfl) | (simp only [← hji6]; first | rfl | (simp [errW_none, errW_some] <;> rfl)) | (simp [*, errW_none, errW_some] <;> rfl), by (with_reducible repeat (first | apply Kd.R_alloc | apply Kd.R_drewN | apply Kd.R_drew)); exact Kd.R_mono (Kd.R_far (p := ⟨gb233, 3, none⟩) (Kd.R_far (p := ⟨gb233, 2, none⟩) (Kd.R_far (p := ⟨gb233, 1, none⟩) (Kd.R_far (p := ⟨gb233, 0, none⟩) (Kd.R_types HO_243001.out BK233.out (by decide)) (fun _ hk => hk.2) (.int .i64 t234)) (fun _ hk => hk.2) (.slice Ao47 x243001_3.length co47)) (fun _ hk => hk.2) (.bool (decide (t237 > 0)))) (fun _ hk => hk.2) (.int .i64 x243003_19)) (fun _ hk => trivial), by repeat (first | (with_reducible first | exact HB.out | apply below_alloc | apply pw_below_drewN | apply below_drew1 | refine below_set ?_ GE233.out | refine below_set ?_ GE242.out) | exact HB.out)⟩
                            · replace c44 := Bool.eq_false_iff.mpr c44
                              subst c44
                              have H1 : (some (0, ([] : List Int), false, 0, 1)) = some (r1, r2, r3, r4, r5) := by rw [if_neg (show ¬ (false = true) by decide)] at H; exact H
                              clear H
                              have H := H1
                              clear H1
                              simp only [Option.some.injEq, Prod.mk.injEq] at H
                              obtain ⟨rfl, rfl, rfl, rfl, rfl⟩ := H
                              have hnb51 := NB242_233.out
                              have hnc51 := NB233_242.out
                              have hcz52_0 : wr.cell? ⟨gb242, 0, none⟩ = some (.int .i64 t234) := (blk_cell BK242.out 0).trans rfl
                              have hcz52_1 : wr.cell? ⟨gb242, 1, none⟩ = some (u243001) := (blk_cell BK242.out 1).trans rfl
                              have hcz52_2 : wr.cell? ⟨gb242, 2, none⟩ = some (.bool (decide (t237 > 0))) := (blk_cell BK242.out 2).trans rfl
                              have hcz52_3 : wr.cell? ⟨gb242, 3, none⟩ = some (.int .i64 x243003_19) := (blk_cell BK242.out 3).trans rfl
                              have hfz52_0 := blk_frozen BK242.out 0
                              have hfz52_1 := blk_frozen BK242.out 1
                              have hfz52_2 := blk_frozen BK242.out 2
                              have hfz52_3 := blk_frozen BK242.out 3
                              obtain ⟨Ao53, co53, eo53⟩ := Kd.R_slice HO_243001.out
                              subst eo53
                              go_wp2_with (first | ((with_reducible refine gate_callee (f := 33) rfl ?_); refine goesL_ (some 100) rfl rfl Try.func33 (by kernel_rfl) rfl #[.agg #[.int .i64 t234, .slice Ao53 x243001_3.length co53, .bool (decide (t237 > 0)), .int .i64 x243003_19]] rfl (by (try simp only [List.map_toArray, List.map_cons, List.map_nil]); first | done | rfl | (simp only [List.length_drop, List.length_take]; rfl)) ?_; (with_reducible refine (ferrymanref04_May.calls k3 t234 _ _ x243001_3 (decide (t237 > 0)) x243003_19 false _ ?side1 ?side2 A43.out).mono ?_); (case side1 => repeat (first | exact (Kd.R_reads' HO_243001.out).2.2 | (with_reducible refine Kd.C_alloc ?_ _) | (with_reducible refine Kd.C_drewN ?_ _) | (with_reducible refine Kd.C_drew ?_))); (case side2 => exact (Kd.R_reads' HO_243001.out).2.1); rintro e w54 ⟨rfl, hb⟩; refine ⟨_, rfl, ?_⟩; have n0_ := Aside0.mk (Kd.R_below (by (with_reducible repeat (first | apply Kd.R_alloc | apply Kd.R_drewN | apply Kd.R_drew)); exact HO_243001.out) hb); have n1_ := Aside0.mk (blk_below (g := gb233) (o := .cells #[.int .i64 x234000_3, .slice none 0 0, .bool x234002_3, .int .i64 x234003_3] 35 (0, 0)) (by (with_reducible repeat (first | refine blk_drewN ?_ _ | refine blk_drew ?_ | refine blk_alloc ?_ _)); exact BK233.out) hb); have n2_ := Aside0.mk (blk_below (g := gb242) (o := .cells #[.int .i64 t234, .slice Ao53 x243001_3.length co53, .bool (decide (t237 > 0)), .int .i64 x243003_19] 35 (0, 0)) (by (with_reducible repeat (first | refine blk_drewN ?_ _ | refine blk_drew ?_ | refine blk_alloc ?_ _)); exact BK242.out) hb); have n3_ := Aside0.mk (below_step (by repeat (first | (with_reducible first | exact HB.out | apply below_alloc | apply pw_below_drewN | apply below_drew1 | refine below_set ?_ GE233.out | refine below_set ?_ GE242.out) | exact HB.out)) hb); clear HO_243001; clear BK233; clear BK242; clear HB; have HO_243001 := n0_; have BK233 := n1_; have BK242 := n2_; have HB := n3_; clear n0_ n1_ n2_ n3_; (try clear hb); (try clear hb2); (try clear hk); (try clear hi); have hcz55_0 : w54.cell? ⟨gb233, 0, none⟩ = some (.int .i64 x234000_3) := (blk_cell BK233.out 0).trans rfl; have hcz55_1 : w54.cell? ⟨gb233, 1, none⟩ = some (.slice none 0 0) := (blk_cell BK233.out 1).trans rfl; have hcz55_2 : w54.cell? ⟨gb233, 2, none⟩ = some (.bool x234002_3) := (blk_cell BK233.out 2).trans rfl; have hcz55_3 : w54.cell? ⟨gb233, 3, none⟩ = some (.int .i64 x234003_3) := (blk_cell BK233.out 3).trans rfl; have hfz55_0 := blk_frozen BK233.out 0; have hfz55_1 := blk_frozen BK233.out 1; have hfz55_2 := blk_frozen BK233.out 2; have hfz55_3 := blk_frozen BK233.out 3))
                              refine bodyPost_ret (results_ct rfl _ _ gb233 35 #[.int .i64 0, .slice none 0 0, .bool false, .int .i64 0] (0, 0) _ rfl (by (with_reducible repeat (first | refine blk_drewN ?_ _ | refine blk_drew ?_ | refine blk_alloc ?_ _)); refine blk_put (cs := #[.int .i64 0, .slice none 0 0, .bool false, .int .i64 x234003_3]) ?_ 3 _ (by first | rfl | (simp only [gt_iff_lt, *]; rfl) | (simp [*]; done)); (with_reducible repeat (first | refine blk_drewN ?_ _ | refine blk_drew ?_ | refine blk_alloc ?_ _)); refine blk_put (cs := #[.int .i64 0, .slice none 0 0, .bool x234002_3, .int .i64 x234003_3]) ?_ 2 _ (by first | rfl | (simp only [gt_iff_lt, *]; rfl) | (simp [*]; done)); (with_reducible repeat (first | refine blk_drewN ?_ _ | refine blk_drew ?_ | refine blk_alloc ?_ _)); refine blk_put (cs := #[.int .i64 0, .slice none 0 0, .bool x234002_3, .int .i64 x234003_3]) ?_ 1 _ (by first | rfl | (simp only [gt_iff_lt, *]; rfl) | (simp [*]; done)); (with_reducible repeat (first | refine blk_drewN ?_ _ | refine blk_drew ?_ | refine blk_alloc ?_ _)); refine blk_put (cs := #[.int .i64 x234000_3, .slice none 0 0, .bool x234002_3, .int .i64 x234003_3]) ?_ 0 _ (by first | rfl | (simp only [gt_iff_lt, *]; rfl) | (simp [*]; done)); (with_reducible repeat (first | refine blk_drewN ?_ _ | refine blk_drew ?_ | refine blk_alloc ?_ _)); exact BK233.out) Try.underlying35 rfl (by kernel_rfl)) rfl ?_
                              exact ⟨_, by first | rfl | (simp [errW_none, errW_some] <;> rfl) | (simp only [← hji6]; first | rfl | (simp [errW_none, errW_some] <;> rfl)) | (simp [*, errW_none, errW_some] <;> rfl), by first | exact Kd.R_nil _ _ _ _ _ | exact Kd.N_nil _ _ _ _ _ | exact Kd.V_nil _ _ _ _ _ | exact Kd.Q_nil _ _ _ _ _ | exact Kd.S_nil _ _ _ _ _, by repeat (first | (with_reducible first | exact HB.out | apply below_alloc | apply pw_below_drewN | apply below_drew1 | refine below_set ?_ GE233.out | refine below_set ?_ GE242.out) | exact HB.out)⟩
                          · rw [if_neg c42] at H
                            have c42b0 : (x11_3 == (l0.length : Int)) = false := beq_eq_false_iff_ne.mpr c42
                            have c42b1 : (x11_3 != (l0.length : Int)) = true := bne_iff_ne.mpr c42
                            simp only [Option.some.injEq, Prod.mk.injEq] at H
                            obtain ⟨rfl, rfl, rfl, rfl, rfl⟩ := H
                            have hnb56 := NB233_242.out
                            have hnc56 := NB242_233.out
                            have hcz57_0 : wr.cell? ⟨gb233, 0, none⟩ = some (.int .i64 x234000_3) := (blk_cell BK233.out 0).trans rfl
                            have hcz57_1 : wr.cell? ⟨gb233, 1, none⟩ = some (.slice none 0 0) := (blk_cell BK233.out 1).trans rfl
                            have hcz57_2 : wr.cell? ⟨gb233, 2, none⟩ = some (.bool x234002_3) := (blk_cell BK233.out 2).trans rfl
                            have hcz57_3 : wr.cell? ⟨gb233, 3, none⟩ = some (.int .i64 x234003_3) := (blk_cell BK233.out 3).trans rfl
                            have hfz57_0 := blk_frozen BK233.out 0
                            have hfz57_1 := blk_frozen BK233.out 1
                            have hfz57_2 := blk_frozen BK233.out 2
                            have hfz57_3 := blk_frozen BK233.out 3
                            go_wp2
                            refine bodyPost_ret (results_ct rfl _ _ gb233 35 #[.int .i64 0, .slice none 0 0, .bool false, .int .i64 0] (0, 0) _ rfl (by (with_reducible repeat (first | refine blk_drewN ?_ _ | refine blk_drew ?_ | refine blk_alloc ?_ _)); refine blk_put (cs := #[.int .i64 0, .slice none 0 0, .bool false, .int .i64 x234003_3]) ?_ 3 _ (by first | rfl | (simp only [gt_iff_lt, *]; rfl) | (simp [*]; done)); (with_reducible repeat (first | refine blk_drewN ?_ _ | refine blk_drew ?_ | refine blk_alloc ?_ _)); refine blk_put (cs := #[.int .i64 0, .slice none 0 0, .bool x234002_3, .int .i64 x234003_3]) ?_ 2 _ (by first | rfl | (simp only [gt_iff_lt, *]; rfl) | (simp [*]; done)); (with_reducible repeat (first | refine blk_drewN ?_ _ | refine blk_drew ?_ | refine blk_alloc ?_ _)); refine blk_put (cs := #[.int .i64 0, .slice none 0 0, .bool x234002_3, .int .i64 x234003_3]) ?_ 1 _ (by first | rfl | (simp only [gt_iff_lt, *]; rfl) | (simp [*]; done)); (with_reducible repeat (first | refine blk_drewN ?_ _ | refine blk_drew ?_ | refine blk_alloc ?_ _)); refine blk_put (cs := #[.int .i64 x234000_3, .slice none 0 0, .bool x234002_3, .int .i64 x234003_3]) ?_ 0 _ (by first | rfl | (simp only [gt_iff_lt, *]; rfl) | (simp [*]; done)); (with_reducible repeat (first | refine blk_drewN ?_ _ | refine blk_drew ?_ | refine blk_alloc ?_ _)); exact BK233.out) Try.underlying35 rfl (by kernel_rfl)) rfl ?_
                            exact ⟨_, by first | rfl | (simp [errW_none, errW_some] <;> rfl) | (simp only [← hji6]; first | rfl | (simp [errW_none, errW_some] <;> rfl)) | (simp [*, errW_none, errW_some] <;> rfl), by first | exact Kd.R_nil _ _ _ _ _ | exact Kd.N_nil _ _ _ _ _ | exact Kd.V_nil _ _ _ _ _ | exact Kd.Q_nil _ _ _ _ _ | exact Kd.S_nil _ _ _ _ _, by repeat (first | (with_reducible first | exact HB.out | apply below_alloc | apply pw_below_drewN | apply below_drew1 | refine below_set ?_ GE233.out | refine below_set ?_ GE242.out) | exact HB.out)⟩
        · rw [if_neg c8] at H
          exact absurd H (by simp)
      · rw [if_neg c7] at H
        exact absurd H (by simp)
    · rw [if_neg c4] at H
      exact absurd H (by simp)
  · rw [if_neg c3] at H
    exact absurd H (by simp)

end Go.Proofs.Yteojopdcmdipaaa.QCodecStates
