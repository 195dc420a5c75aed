/- What this text proves: words of a printed walk, as far as the row needs them; no condition. Out of the kit's print program; what isn't used is struck by wip/tools/slim.py. -/
import Derived.Test.YtgljebaiakhbfaaGreatQTopUpgradesx0
import Derived.Test.YtgljebaiakhbfaaGreatQTopUpgradesyA0
import Derived.Test.YtgljebaiakhbfaaGreatQTopUpgradesyA1
import Derived.Test.YtgljebaiakhbfaaGreatQTopUpgradesyB0
import Derived.Test.YtgljebaiakhbfaaGreatQTopUpgradesyB1
namespace Go.Proofs.YtgljebaiakhbfaaGreat.QTopUpgrades
open Go.RowKit Go.Proofs.YtgljebaiakhbfaaGreatW.PrintWords Go.Proofs.YtgljebaiakhbfaaGreatW.PrintLast Go.Proofs.YtgljebaiakhbfaaGreatW.PrintMore
attribute [local go_sem] max2_int min2_int max_two min_two max_three min_three max_four min_four   -- for this text's walks alone
set_option linter.unusedVariables false
set_option linter.unusedSimpArgs false

/-! ### slices_Clone_byte_byte: function 137 -/
-- GIVEN slices.Clone[[]byte,byte]=../up/CloneByte.given:making
def slices_Clone_byte_byte.f (l0 : List Int) : Option (List Int) := if l0.length < 140737488350000 then some l0 else none
theorem slices_Clone_byte_byte.empty {g b : Nat} {w : World} (hb : b ≤ g) (h : w.heap[g]? = some (.cells #[] 5 (0, 0))) : Kd.R (Kd.int .u8) 5 w b (fun _ => True) (.slice (some ⟨g, 0, none⟩) 0 0) [] :=
  ⟨fun _ _ => trivial, [], ⟨by simp, .inr ⟨g, 0, #[], rfl, hb, h, Nat.le_refl _, Nat.zero_le _, by simp, by simp⟩⟩, Reps.none _ _⟩
set_option maxHeartbeats 8000000 in
theorem slices_Clone_byte_byte.calls (A0 : Option Addr) (c0 : Nat) (l0 : List Int) (r : List Int) (w : World) (hr0 : Kd.C (Kd.int .u8) w A0 l0.length l0) (hc0 : l0.length ≤ c0) (h : slices_Clone_byte_byte.f l0 = some r) :
    Calls Tryz.prog 137 #[.slice A0 l0.length c0] w fun e w' => ∃ v0_ : Value, e = .returned v0_ ∧ Kd.R (Kd.int .u8) 5 w' w.heap.size (fun _ => True) v0_ r ∧ Below w.heap.size w w' := by
  unfold slices_Clone_byte_byte.f at h
  split at h
  case isFalse => cases h
  rename_i hl
  obtain rfl := Option.some.inj h
  clear h
  have HR := Aside0.mk hr0
  have hn := Aside0.mk hl
  have hinf : (Tryz.prog.info? 5).map (fun i => (i.zero, i.size, i.bytes)) = some (some (.int .u8 0), 1, 1) := by kernel_rfl
  have HI := Aside0.mk hinf
  clear hinf hl hr0
  cases A0 with
  | none =>
    have h0 : l0 = [] := by
      rcases Nat.eq_zero_or_pos l0.length with h0 | h0
      · exact List.eq_nil_of_length_eq_zero h0
      · obtain ⟨ad, e, _⟩ := HR.out.2.2 h0
        cases e
    subst h0
    have heq := fun W : World => Lib.run_eql_slice_nil (P := Tryz.prog) W 26 5 none 0 c0 0 0 Tryz.underlying26
    go_enter Tryz.func137, Tryz.ntmps137
    go_wp2
    go_ret
    exact ⟨_, rfl, Kd.R_nil _ _ _ _ _, Below.refl _ _⟩
  | some ad =>
    have heq := fun W : World => Lib.run_eql_slice_nil (P := Tryz.prog) W 26 5 (some ad) l0.length c0 0 0 Tryz.underlying26
    go_enter Tryz.func137, Tryz.ntmps137
    go_wp2_with (first | ((with_reducible refine gate_builtin (b := .append) (xs := #[.tmp 5, .tmp 6]) rfl ?_); at_builtin; refine Kd.R_append_rows (Kd.int .u8) (w0 := w) w.heap.size rfl (.tmp 5) (.tmp 6) 26 5 (.int .u8 0) 1 rfl Tryz.underlying26 HI.out rfl (by decide) (by omega) (.slice (some ⟨w.heap.size, 0, none⟩) 0 0) [] l0 _ _ _ (fun _ => True) (fun _ => False) rfl rfl (slices_Clone_byte_byte.empty (Nat.le_refl _) (blk_new w _)) (Kd.C_alloc HR.out _) (fun _ _ h => h) (fun _ h => h.elim) (fun _ _ => trivial) (below_alloc (Below.refl _ _) _) (by rw [World.size_alloc]; omega) (by have := hn.out; simp only [List.length_nil]; omega) ?_; intro v1 w1 ho hb hg hat; have HO := Aside0.mk ho; have HB := Aside0.mk hb; clear ho hb hg hat))
    go_ret
    exact ⟨_, rfl, HO.out, HB.out⟩
/-! ### slices_ContainsFunc_byte_byte: function 177 -/
-- GIVEN slices.ContainsFunc[[]byte,byte]=../up/OpenFunc.given:arg1=ferryman/frame.open$1
def slices_ContainsFunc_byte_byte.f (l0 : List Int) (a1 : Int) : Option (Bool) := some (l0.any fun n => decide (n < 128))
set_option maxHeartbeats 8000000 in
set_option maxRecDepth 100000 in
theorem open1_calls (n : Int) (w : World) : Calls Tryz.prog 178 #[.int .u8 n] w fun e w' => e = .returned (.bool (decide (n < 128))) ∧ w = w' := by
  go_enter Tryz.func178, Tryz.ntmps178
  go_wp2
  go_ret
  exact ⟨rfl, rfl⟩
/-- The place of the first byte that ends a number. -/
def endAt : List Int → Nat → Int
  | [], _ => -1
  | n :: l, i => if (decide (n < 128)) = true then (i : Int) else endAt l (i + 1)
theorem endAt_any : ∀ (l : List Int) (i : Nat), decide (endAt l i ≥ 0) = l.any fun n => decide (n < 128)
  | [], _ => rfl
  | n :: l, i => by
    rw [endAt, List.any_cons]
    by_cases h : (decide (n < 128)) = true
    · rw [if_pos h, h]; simp
    · rw [if_neg h, endAt_any l (i + 1)]
      have : (decide (n < 128)) = false := by cases hh : (decide (n < 128)) <;> simp_all
      rw [this]; rfl
set_option maxHeartbeats 8000000 in
set_option maxRecDepth 100000 in
theorem index8_calls (A0 : Option Addr) (c0 : Nat) (l0 : List Int) (w : World) (hr0 : Kd.C (Kd.int .u8) w A0 l0.length l0) (hc0 : l0.length ≤ c0) :
    Calls Tryz.prog 193 #[.slice A0 l0.length c0, .func (.func 178) #[] #[]] w fun e w' => e = .returned (.int .i64 (endAt l0 0)) ∧ w = w' := by
  have HR := Aside0.mk hr0
  have HL := Aside0.mk hr0.2.1
  clear hr0 hc0
  go_enter Tryz.func193, Tryz.ntmps193
  go_wp2
  go_loop [8] (fun v8 => ∃ i : Nat, i ≤ l0.length ∧ v8 = .int .i64 i ∧ Aside0 (endAt (l0.drop i) i = endAt l0 0)) (fun v8 => l0.length - (intOf v8).toNat)
  case atStart => exact ⟨0, by omega, rfl, ⟨rfl⟩⟩
  case round =>
    obtain ⟨i, hi, rfl, HI⟩ := hrel
    have hl := HL.out
    by_cases hlt : i < l0.length
    · obtain ⟨ad, e1, hx⟩ := Kd.at_int HR.out (i : Int) (by omega) (by omega)
      cases e1
      obtain ⟨n, hn⟩ : ∃ n, n = l0[i] := ⟨_, rfl⟩
      have hd : l0.drop i = n :: l0.drop (i + 1) := by rw [List.drop_eq_getElem_cons hlt, hn]
      have hrd : rd l0 (i : Int) = n := by unfold rd; rw [Int.toNat_natCast, List.getD_eq_getElem?_getD, List.getElem?_eq_getElem hlt, hn]; rfl
      rw [hrd, Int.toNat_natCast] at hx
      have h2 := HI.out
      rw [hd, endAt] at h2
      have H2 := Aside0.mk h2
      clear h2 hd hrd hn
      by_cases hp : (decide (n < 128)) = true
      · go_wp2_with (go_at_call 178; refine (open1_calls n _).mono ?_; rintro e w' ⟨rfl, rfl⟩)
        go_ret
        have h2 := H2.out
        rw [if_pos hp] at h2
        refine ⟨?_, rfl⟩
        show Ending.returned (.int .i64 (i : Int)) = _
        rw [h2]
      · have hp2 : (decide (n < 128)) = false := by cases hh : (decide (n < 128)) <;> simp_all
        clear hp
        go_wp2_with (go_at_call 178; refine (open1_calls n _).mono ?_; rintro e w' ⟨rfl, rfl⟩)
        go_round
        case rel =>
          have h2 := H2.out
          rw [if_neg (by rw [hp2]; simp)] at h2
          exact ⟨i + 1, by omega, by go_num, ⟨h2⟩⟩
        case measure => simp [intOf]; omega
    · have hi2 : l0.drop i = [] := List.drop_eq_nil_of_le (by omega)
      have h2 := HI.out
      rw [hi2, endAt] at h2
      have H2 := Aside0.mk h2
      clear h2 hi2
      go_wp2
      go_ret
      refine ⟨?_, rfl⟩
      show Ending.returned (.int .i64 (-1)) = _
      rw [H2.out]
set_option maxHeartbeats 8000000 in
set_option maxRecDepth 100000 in
theorem slices_ContainsFunc_byte_byte.calls (A0 : Option Addr) (c0 : Nat) (l0 : List Int) (a1 : Int) (r : Bool) (w : World) (hr0 : Kd.C (Kd.int .u8) w A0 l0.length l0) (hc0 : l0.length ≤ c0) (h : slices_ContainsFunc_byte_byte.f l0 a1 = some r) :
    Calls Tryz.prog 177 #[.slice A0 l0.length c0, .func (.func 178) #[] #[]] w fun e w' => e = .returned (.bool r) ∧ Drawn0 w w' := by
  have H := Aside0.mk (Option.some.inj h)
  have HR := Aside0.mk hr0
  have HC := Aside0.mk hc0
  clear h hr0 hc0
  have HA := Aside0.mk (endAt_any l0 0)
  go_enter Tryz.func177, Tryz.ntmps177
  go_wp2_with (go_at_call 193; refine (index8_calls _ _ l0 _ HR.out HC.out).mono ?_; rintro e w' ⟨rfl, rfl⟩)
  go_ret
  refine ⟨?_, Drawn0.refl _⟩
  rw [← H.out, ← HA.out]
  rfl
/-! ### frame_open: function 155 -/
def frame_open.f (l0 : List Int) : Option (Bool) := if (l0.length : Int) < 10 then ((slices_ContainsFunc_byte_byte.f l0 0).bind fun t255 => (some (!t255))) else (some false)
set_option maxHeartbeats 8000000 in
set_option maxRecDepth 100000 in
theorem frame_open.calls (A0 : Option Addr) (c0 : Nat) (l0 : List Int) (r : Bool) (w : World) (hr0 : Kd.C (Kd.int .u8) w A0 l0.length l0) (hc0 : l0.length ≤ c0) (h : frame_open.f l0 = some r) :
    Calls Tryz.prog 155 #[.slice A0 l0.length c0] w fun e w' => e = .returned (.bool r) ∧ Drawn0 w w' := by
  have HR0 := Aside0.mk hr0
  have HC0 := Aside0.mk hc0
  clear hr0 hc0
  have H : (if (l0.length : Int) < 10 then ((slices_ContainsFunc_byte_byte.f l0 0).bind fun t255 => (some (!t255))) else (some false)) = some r := h
  clear h
  by_cases c2 : (l0.length : Int) < 10
  · rw [if_pos c2] at H
    have c2b0 : decide ((l0.length : Int) < 10) = true := decide_eq_true c2
    have c2b1 : decide (l0.length < 10) = true := decide_eq_true (by omega)
    clear c2
    replace H := Option.bind_eq_some_iff.mp H
    obtain ⟨t255, A30, H⟩ := H
    replace H : (some (!t255)) = some r := H
    have A3 := Aside0.mk A30
    clear A30
    obtain rfl := Option.some.inj H
    go_enter Tryz.func155, Tryz.ntmps155
    go_wp2_with (first | (go_at_call 177; (with_reducible refine (slices_ContainsFunc_byte_byte.calls _ _ l0 0 t255 _ ?side1 ?side2 A3.out).mono ?_); (case side1 => repeat (first | exact HR0.out | (with_reducible refine Kd.C_alloc ?_ _) | (with_reducible refine Kd.C_drewN ?_ _) | (with_reducible refine Kd.C_drew ?_))); (case side2 => exact HC0.out); rintro e w' ⟨rfl, ⟨nd, rfl⟩⟩))
    go_ret
    exact ⟨by first | rfl | (simp; done) | (simp [*]; done), by repeat (first | exact Drawn0.refl _ | apply Drawn0.step)⟩
  · rw [if_neg c2] at H
    have c2b0 : decide ((l0.length : Int) < 10) = false := decide_eq_false c2
    have c2b1 : decide (l0.length < 10) = false := decide_eq_false (by omega)
    clear c2
    obtain rfl := Option.some.inj H
    go_enter Tryz.func155, Tryz.ntmps155
    go_wp2
    go_ret
    exact ⟨by first | rfl | (simp; done) | (simp [*]; done), by repeat (first | exact Drawn0.refl _ | apply Drawn0.step)⟩
/-! ### frame_Decode: function 131 -/
-- GIVEN ferryman/frame.Decode=../up/FDecode.given:making:rounds
/-- A cut with a capacity of its own. -/
theorem frame_Decode.cut3 {P : Program} (t e : TypeId) {i : TypeInfo} (ht : P.underlying t = some (.slice e)) (hi : P.info? e = some i) (hsz : i.size = 1) (A : Option Addr) (n c : Nat) (l j : Nat) (h1 : l ≤ j) (hm : j ≤ n) (hc : n ≤ c) :
    (∀ W : World, (Instr.slice t (.slice A n c) none (some (.int .i64 (j : Int))) (some (.int .i64 (j : Int)))).run P W = .ok (.slice A j j) W) ∧
    (∀ W : World, (Instr.slice t (.slice A n c) (some (.int .i64 (l : Int))) (some (.int .i64 (j : Int))) (some (.int .i64 (j : Int)))).run P W = .ok (.slice (if j = l then A else A.map (·.add (l * 1))) (j - l) (j - l)) W) := by
  have hel : P.elem t = e := by simp [Program.elem, ht]
  have hu : P.underlying t = some (.slice (P.elem t)) := by rw [hel]; exact ht
  have ha : (A.map fun x => x.add 0) = A := by cases A <;> simp [Addr.add]
  constructor <;> intro W
  · rw [run_slice_hm W t A n c hu .i64 .i64 (j : Int) (j : Int) (by omega) (by omega) (by omega), hel]
    simp [sizeOf, typeInfo, hi, sliced, Result.andThen, ha]
  · rw [run_slice_lhm W t A n c hu .i64 .i64 .i64 (l : Int) (j : Int) (j : Int) (by omega) (by omega) (by omega) (by omega), hel]
    simp [sizeOf, typeInfo, hi, hsz, sliced, Result.andThen]
/-- The whole frame that bytes begin with; none, if there is none. -/
def frame_Decode.f (k : Nat) (l0 : List Int) : Option (List Int × Int × Int) :=
  (frame_open.f l0).bind fun o => (num_Get.f k l0).bind fun p =>
    if o = false ∧ 0 < p.2 ∧ 0 ≤ p.1 ∧ p.1 ≤ 1048576 ∧ p.2 + p.1 + 4 ≤ (l0.length : Int) then
      (frame_sum.f k (l0.take p.2.toNat) ((l0.take (p.2.toNat + p.1.toNat)).drop p.2.toNat)).bind fun s =>
      (slices_Equal_byte_byte.f k ((l0.take (p.2.toNat + p.1.toNat + 4)).drop (p.2.toNat + p.1.toNat)) s).bind fun e =>
      (slices_Clone_byte_byte.f ((l0.take (p.2.toNat + p.1.toNat)).drop p.2.toNat)).bind fun d =>
      if e = true then some (d, p.2 + p.1 + 4, 0) else none
    else none
set_option maxHeartbeats 8000000 in
set_option maxRecDepth 100000 in
theorem frame_Decode.calls (k : Nat) (A0 : Option Addr) (c0 : Nat) (l0 : List Int) (r1 : List Int) (r2 r3 : Int) (w : World) (hr0 : Kd.C (Kd.int .u8) w A0 l0.length l0) (hc0 : l0.length ≤ c0) (h : frame_Decode.f k l0 = some (r1, r2, r3)) :
    Calls Tryz.prog 131 #[.slice A0 l0.length c0] w fun e w' => ∃ v0_ : Value, e = .returned (.tuple #[v0_, .int .i64 r2, .int .i64 r3]) ∧ Kd.R (Kd.int .u8) 5 w' w.heap.size (fun _ => True) v0_ r1 ∧ Below w.heap.size w w' := by
  unfold frame_Decode.f at h
  rw [Option.bind_eq_some_iff] at h
  obtain ⟨o, ho, h⟩ := h
  rw [Option.bind_eq_some_iff] at h
  obtain ⟨⟨n', m'⟩, hg, h⟩ := h
  split at h
  case isFalse => cases h
  rename_i hc
  obtain ⟨rfl, hm0, hn0, hn1, hlen⟩ := hc
  obtain ⟨m, rfl⟩ := Int.eq_ofNat_of_zero_le (Int.le_of_lt hm0)
  obtain ⟨n, rfl⟩ := Int.eq_ofNat_of_zero_le hn0
  simp only [Int.toNat_natCast] at h
  rw [Option.bind_eq_some_iff] at h
  obtain ⟨s, hs, h⟩ := h
  rw [Option.bind_eq_some_iff] at h
  obtain ⟨e, he, h⟩ := h
  rw [Option.bind_eq_some_iff] at h
  obtain ⟨d, hd, h⟩ := h
  split at h
  case isFalse => cases h
  rename_i het
  subst het
  have hmax := hr0.2.1
  have hlen' : m + n + 4 ≤ l0.length := by omega
  obtain ⟨i0, hi0, _, hsz, _⟩ := info_parts info5
  have hz1 : i0.size = 1 := hsz
  have hcutA := (frame_Decode.cut3 (P := Tryz.prog) 26 5 Tryz.underlying26 hi0 hz1 A0 l0.length c0 0 m (by omega) (by omega) hc0).1
  have hcutB := (frame_Decode.cut3 (P := Tryz.prog) 26 5 Tryz.underlying26 hi0 hz1 A0 l0.length c0 m (m + n) (by omega) (by omega) hc0).2
  obtain ⟨AC, hcutC, hC3, hlC⟩ := print_mid_int (P := Tryz.prog) (k := .u8) 26 5 Tryz.underlying26 hi0 hz1 A0 c0 l0 ((m : Int) + n) ((m : Int) + n + 4) (by omega) (by omega) (by omega) hc0
  have tn1 : ((m : Int) + n).toNat = m + n := by omega
  have tn2 : ((m : Int) + n + 4).toNat = m + n + 4 := by omega
  rw [tn1, tn2] at hcutC hC3 hlC
  have h1 := Kd.C_take (m := m) hr0 (by omega)
  have h2 := Kd.C_mid (lo := m) (hi := m + n) (c := m + n) (Kd.C_take (m := m + n) hr0 (by omega)) (by omega) (by rw [List.length_take]; omega) (by rw [List.length_take]; omega)
  rw [List.take_take, Nat.min_self] at h2
  have h3 := Kd.C_of_reads (enc := Value.int .u8) (d := (0 : Int)) (h1 := fun _ => rfl) (hC3 w (Kd.reads_of_C (enc := Value.int .u8) (d := (0 : Int)) (h1 := fun _ => rfl) hr0))
  obtain ⟨l1, hl1⟩ : ∃ l1, l1 = l0.take m := ⟨_, rfl⟩
  obtain ⟨l2, hl2⟩ : ∃ l2, l2 = (l0.take (m + n)).drop m := ⟨_, rfl⟩
  obtain ⟨l3, hl3⟩ : ∃ l3, l3 = (l0.take (m + n + 4)).drop (m + n) := ⟨_, rfl⟩
  have e1 : l1.length = m := by rw [hl1, List.length_take]; omega
  have e2 : l2.length = n := by rw [hl2, List.length_drop, List.length_take]; omega
  have e3 : l3.length = 4 := by rw [hl3, List.length_drop, List.length_take]; omega
  simp only [← hl1, ← hl2, ← hl3] at hs he hd h1 h2 h3 hcutC hC3 hlC
  obtain ⟨AB, hAB⟩ : ∃ AB, AB = (if m + n = m then A0 else A0.map (·.add (m * 1))) := ⟨_, rfl⟩
  have hszk : (Kd.int .u8).sz = 1 := rfl
  rw [hszk, ← hAB] at h2
  rw [← hAB, show m + n - m = l2.length by omega] at hcutB
  have hcA : ∀ W : World, (Instr.slice 26 (.slice A0 l0.length c0) none (some (.int .i64 (m : Int))) (some (.int .i64 (m : Int)))).run Tryz.prog W = .ok (.slice A0 l1.length l1.length) W := by rw [e1]; exact hcutA
  have hcB : ∀ W : World, (Instr.slice 26 (.slice A0 l0.length c0) (some (.int .i64 (m : Int))) (some (.int .i64 ((m : Int) + n))) (some (.int .i64 ((m : Int) + n)))).run Tryz.prog W = .ok (.slice AB l2.length l2.length) W := by rw [show ((m : Int) + n) = ((m + n : Nat) : Int) by omega]; exact hcutB
  have b1 : ((m : Int) == 0) = false := by simp; omega
  have b2 : decide ((1048576 : Int) < (n : Int)) = false := decide_eq_false (by omega)
  have b2' : decide (1048576 < n) = false := decide_eq_false (by omega)
  have b3 : decide ((l0.length : Int) < (m : Int) + 4 + n) = false := decide_eq_false (by omega)
  have w1 : IntKind.i64.wrap ((m : Int) + 4) = (m : Int) + 4 := IntWalk.i64_in _ (by omega)
  have w2 : IntKind.i64.wrap ((m : Int) + 4 + n) = (m : Int) + 4 + n := IntWalk.i64_in _ (by omega)
  have w3 : IntKind.i64.wrap ((m : Int) + n) = (m : Int) + n := IntWalk.i64_in _ (by omega)
  have w4 : IntKind.i64.wrap ((m : Int) + n + 4) = (m : Int) + n + 4 := IntWalk.i64_in _ (by omega)
  have HR0 := Aside0.mk (And.intro hr0 hc0)
  have HO := Aside0.mk ho
  have HG := Aside0.mk hg
  have HS := Aside0.mk hs
  have HE := Aside0.mk he
  have HD := Aside0.mk hd
  have H := Aside0.mk (Option.some.inj h)
  have H1 := Aside0.mk h1
  have H2 := Aside0.mk h2
  have H3 := Aside0.mk h3
  have HLC := Aside0.mk hlC
  clear h ho hg hs he hd hm0 hn0 hn1 hlen hr0 hc0 hmax hlen' hcutA hcutB hC3 hlC tn1 tn2 h1 h2 h3 hl1 hl2 hl3 e1 e2 e3 hAB hszk hsz hz1
  have HB := Aside0.mk (Below.refl w.heap.size w)
  go_enter Tryz.func131, Tryz.ntmps131
  go_upto_region 10 with (first
    | (go_at_call 155; refine (frame_open.calls A0 c0 l0 false w HR0.out.1 HR0.out.2 HO.out).mono ?_; rintro e wq ⟨rfl, ⟨q, rfl⟩⟩)
    | (go_at_call 132; refine (num_Get.calls k A0 c0 l0 _ _ _ (Kd.C_drewN HR0.out.1 _) HR0.out.2 HG.out).mono ?_; rintro e wg ⟨rfl, hb⟩; have HBg := Aside0.mk (below_step (pw_below_drewN (Below.refl w.heap.size w) _) hb); clear hb))
  go_quiet (fail)
  go_upto_region 11 with fail
  go_region_with (first
    | (go_at_call 127; refine (frame_sum.calls k A0 l1.length l1 AB l2.length l2 s _ (Kd.C_below H1.out (below_step HBg.out (by repeat (first | exact Below.refl _ _ | apply below_drew1 | apply pw_below_drewN)))) (Nat.le_refl _) (Kd.C_below H2.out (below_step HBg.out (by repeat (first | exact Below.refl _ _ | apply below_drew1 | apply pw_below_drewN)))) (Nat.le_refl _) HS.out).mono ?_; rintro e ws ⟨vs, rfl, ho, hb⟩; obtain ⟨As, cs, rfl⟩ := Kd.R_slice ho; have HBs := Aside0.mk (below_step (below_step HBg.out (by repeat (first | exact Below.refl _ _ | apply below_drew1 | apply pw_below_drewN))) hb : Below w.heap.size w ws); have HCs := Aside0.mk (Kd.R_reads' ho).2; clear ho hb)
    | (go_at_call 143; refine (slices_Equal_byte_byte.calls k AC (c0 - (m + n)) l3 As cs s true _ (Kd.C_below H3.out (below_step HBs.out (by repeat (first | exact Below.refl _ _ | apply below_drew1 | apply pw_below_drewN)))) HLC.out (Kd.C_below HCs.out.2 (by repeat (first | exact Below.refl _ _ | apply below_drew1 | apply pw_below_drewN))) HCs.out.1 HE.out).mono ?_; rintro e we ⟨rfl, ⟨q, rfl⟩⟩))
  go_wp2_with (go_at_call 137; refine (slices_Clone_byte_byte.calls AB l2.length l2 d _ (Kd.C_below H2.out (below_step HBs.out (by repeat (first | exact Below.refl _ _ | apply below_drew1 | apply pw_below_drewN)))) (Nat.le_refl _) HD.out).mono ?_; rintro e wd ⟨vd, rfl, ho, hb⟩; have HBd := Aside0.mk (below_step (below_step HBs.out (by repeat (first | exact Below.refl _ _ | apply below_drew1 | apply pw_below_drewN))) hb : Below w.heap.size w wd); have HOd := Aside0.mk (Kd.R_lower ho (below_size (below_step HBs.out (by repeat (first | exact Below.refl _ _ | apply below_drew1 | apply pw_below_drewN))))); clear ho hb)
  go_ret3
  have hq := H.out
  simp only [Prod.mk.injEq] at hq
  obtain ⟨rfl, rfl, rfl⟩ := hq
  exact ⟨_, by first | rfl | (simp; done) | (simp [*]; done), HOd.out, HBd.out⟩
/-! ### frame_walk: function 90 -/
def frame_walk.l0 : Nat → List Int → List (List Int) → Int → Option ((List (List Int)) × Int × Int)
  | 0, _, _, _ => none
  | k + 1, x0, x2, x3 => if x3 < (x0.length : Int) then (if 0 ≤ x3 then (if x3 ≤ (x0.length : Int) then ((frame_Decode.f k (x0.drop (x3 : Int).toNat)).bind fun bt257 => (if bt257.2.2 = 0 then (if x2.length < 5864062014805 then (frame_walk.l0 k x0 (x2 ++ [bt257.1]) (wrap64 (x3 + bt257.2.1))) else (none)) else (some (x2, x3, bt257.2.2)))) else (none)) else (none)) else (some (x2, x3, 0))
def frame_walk.f (k : Nat) (l0 : List Int) : Option ((List (List Int)) × Int × Int) := frame_walk.l0 k l0 ([] : List (List Int)) 0
set_option maxHeartbeats 8000000 in
set_option maxRecDepth 100000 in
theorem frame_walk.calls (k : Nat) (A0 : Option Addr) (c0 : Nat) (l0 : List Int) (r1 : List (List Int)) (r2 : Int) (r3 : Int) (w : World) (hr0 : Kd.C (Kd.int .u8) w A0 l0.length l0) (hc0 : l0.length ≤ c0) (h : frame_walk.f k l0 = some (r1, r2, r3)) :
    Calls Tryz.prog 90 #[.slice A0 l0.length c0] w fun e w' => ∃ v0_ : Value, e = .returned (.tuple #[v0_, .int .i64 r2, .int .i64 r3]) ∧ Kd.S (Kd.slice 5 (Kd.int .u8)) 26 w' w.heap.size (fun _ => True) v0_ r1 ∧ Below w.heap.size w w' := by
  have HR0 := Aside0.mk hr0
  have HC0 := Aside0.mk hc0
  clear hr0 hc0
  have HB := Aside0.mk (Below.refl w.heap.size w)
  have H : (frame_walk.l0 k l0 ([] : List (List Int)) 0) = some (r1, r2, r3) := h
  clear h
  have H' := Aside0.mk H
  clear H
  go_enter Tryz.func90, Tryz.ntmps90
  go_wp2
  go_loopg [2, 3] k (fun kq v2 v3 w' => ∃ (x2_1 : List (List Int)) (x3_1 : Int), v3 = .int .i64 x3_1 ∧ Aside0 (frame_walk.l0 kq l0 x2_1 x3_1 = some (r1, r2, r3)) ∧ Aside0 (kq ≤ k) ∧ Aside0 (Kd.S (Kd.slice 5 (Kd.int .u8)) 26 w' w.heap.size (fun _ => True) v2 x2_1) ∧ Aside0 (Below w.heap.size w w'))
  case atStart => exact ⟨(([] : List (List Int))), (0), (by first | rfl | (simp; done) | (simp [*]; done)), H', ⟨Nat.le_refl _⟩, ⟨by first | exact Kd.S_nil _ _ _ _ _ | exact Kd.N_nil _ _ _ _ _ | exact Kd.V_nil _ _ _ _ _ | exact Kd.Q_nil _ _ _ _ _ | exact Kd.R_nil _ _ _ _ _⟩, ⟨by repeat (first | (with_reducible first | exact HB.out | apply below_alloc | apply pw_below_drewN | apply below_drew1) | exact HB.out)⟩⟩
  case round =>
    clear H'
    obtain ⟨x2_1, x3_1, rfl, HA, HK1, HO_2, HB⟩ := hrel
    cases gk with
    | zero => exact absurd HA.out (by simp [frame_walk.l0])
    | succ k1 =>
      have H := HA.out
      clear HA
      simp only [frame_walk.l0] at H
      by_cases c2 : x3_1 < (l0.length : Int)
      · rw [if_pos c2] at H
        have c2b0 : decide (x3_1 < (l0.length : Int)) = true := decide_eq_true c2
        clear c2
        by_cases c3 : 0 ≤ x3_1
        · rw [if_pos c3] at H
          have c3b0 := eq_true c3
          have c3b1 : decide (0 ≤ x3_1) = true := decide_eq_true c3
          clear c3
          by_cases c4 : x3_1 ≤ (l0.length : Int)
          · rw [if_pos c4] at H
            have c4b0 := eq_true c4
            have c4b1 : decide (x3_1 ≤ (l0.length : Int)) = true := decide_eq_true c4
            clear c4
            replace H := Option.bind_eq_some_iff.mp H
            obtain ⟨⟨t257, t258, t259⟩, A50, H⟩ := H
            replace H : (if t259 = 0 then (if x2_1.length < 5864062014805 then (frame_walk.l0 k1 l0 (x2_1 ++ [t257]) (wrap64 (x3_1 + t258))) else (none)) else (some (x2_1, x3_1, t259))) = some (r1, r2, r3) := H
            have A5 := Aside0.mk A50
            clear A50
            by_cases c6 : t259 = 0
            · rw [if_pos c6] at H
              have c6b0 : (t259 == 0) = true := beq_iff_eq.mpr c6
              have c6b1 : (t259 != 0) = false := bne_eq_false_iff_eq.mpr c6
              clear c6
              by_cases c7 : x2_1.length < 5864062014805
              · rw [if_pos c7] at H
                have LMc7 := Aside0.mk c7
                clear c7
                obtain ⟨y262, hy262⟩ : ∃ y_ : List (List Int), y_ = (x2_1 ++ [t257]) := ⟨_, rfl⟩
                replace H : (frame_walk.l0 k1 l0 y262 (wrap64 (x3_1 + t258))) = some (r1, r2, r3) := by first | (rw [hy262]; with_reducible exact H) | (have H2_ := (Option.bind_some _ _).symm.trans H; rw [hy262]; with_reducible exact H2_) | (have H2_ := (Option.bind_some _ _).symm.trans H; with_reducible exact H2_) | with_reducible exact H | (rw [hy262]; exact H) | exact H
                have Ny262 := Aside0.mk hy262
                clear hy262
                have H' := Aside0.mk H
                clear H
                obtain ⟨i08, hi08, _, hsz8, _⟩ := info_parts info5
                obtain ⟨A8, hcut8, hA8, hC8⟩ := print_drop_of (P := Tryz.prog) (Value.int .u8) 0 26 5 .i64 Tryz.underlying26 hi08 hsz8 A0 c0 l0 x3_1 (of_decide_eq_true (by first | (with_reducible assumption) | assumption)) (of_decide_eq_true (by first | (with_reducible assumption) | assumption)) HC0.out
                have HR256 := Aside0.mk (Kd.C_of_reads (h1 := fun _ => rfl) (hA8 _ (Kd.reads_of_C HR0.out)))
                have HC256 := Aside0.mk hC8
                clear hA8 hC8 hi08 hsz8
                have tok1_ : True := trivial; have tok2_ : True := trivial
                go_wp2_with (first | ((with_reducible refine gate_callee (f := 131) rfl ?_); clear tok1_; refine goesL_ (some 16) rfl rfl Tryz.func131 (by kernel_rfl) rfl #[.slice A8 (l0.drop (x3_1 : Int).toNat).length (c0 - x3_1.toNat)] rfl (by (try simp only [List.map_toArray, List.map_cons, List.map_nil]); first | done | (rw [show (l0.drop (x3_1 : Int).toNat).length = (l0.length - x3_1.toNat) from List.length_drop] <;> rfl) | rfl | (simp only [List.length_drop, List.length_take]; rfl)) ?_; (with_reducible refine (frame_Decode.calls k1 _ _ (l0.drop (x3_1 : Int).toNat) t257 t258 t259 _ ?side1 ?side2 A5.out).mono ?_); (case side1 => repeat (first | exact (Kd.C_below HR256.out HB.out) | (with_reducible refine Kd.C_alloc ?_ _) | (with_reducible refine Kd.C_drewN ?_ _) | (with_reducible refine Kd.C_drew ?_))); (case side2 => exact HC256.out); rintro e w9 ⟨v260, rfl, ho0, hb⟩; refine ⟨_, rfl, ?_⟩; have n0_ := Aside0.mk (Kd.S_elder' (by (with_reducible repeat (first | apply Kd.S_alloc | apply Kd.S_drewN | apply Kd.S_drew)); exact HO_2.out) (Kd.R_base ho0) hb); have n1_ := Aside0.mk (Kd.R_lower ho0 (below_size (by repeat (first | (with_reducible first | exact HB.out | apply below_alloc | apply pw_below_drewN | apply below_drew1) | exact HB.out)))); have n2_ := Aside0.mk (below_step (by repeat (first | (with_reducible first | exact HB.out | apply below_alloc | apply pw_below_drewN | apply below_drew1) | exact HB.out)) hb); clear HO_2; clear HB; have HO_2 := n0_; have HO261 := n1_; have HB := n2_; clear n0_ n1_ n2_; (try clear hb); (try clear hb2); (try clear hk); (try clear hi); (try clear ho0); obtain ⟨Ao11, co11, eo11⟩ := Kd.R_slice HO261.out; subst eo11) | ((with_reducible refine gate_builtin (b := .append) (xs := #[.tmp 25, .tmp 27]) rfl ?_); clear tok2_; at_builtin; refine Kd.S_append (Kd.slice 5 (Kd.int .u8)) (w0 := w) w.heap.size rfl (.tmp 25) (.tmp 27) 55 26 (.slice none 0 0) 24 rfl Tryz.underlying55 info26 rfl (by decide) (by omega) u2 x2_1 t257 [.slice Ao11 t257.length co11] (fun _ => True) (fun k_ => some k_ = (.slice Ao11 t257.length co11 : Value).ownBlock) rfl rfl ?aP (fun k_ hk_ => ((Kd.R_mono (ok' := fun k_ => ((fun _ => True)) k_ ∧ some k_ ≠ (u2 : Value).ownBlock) (Kd.R_apart' (HO261.out) (Kd.S_typed HO_2.out) (by decide)) (fun k_ hk => ⟨trivial, hk.2⟩))).1 k_ hk_.symm) ?aF ?aO ?aB ?aS ?aL ?_; (case aP => exact Kd.M_row (Kd.R_mono (Kd.R_tight rfl (Kd.R_mono (ok' := fun k_ => ((fun _ => True)) k_ ∧ some k_ ≠ (u2 : Value).ownBlock) (Kd.R_apart' (HO261.out) (Kd.S_typed HO_2.out) (by decide)) (fun k_ hk => ⟨trivial, hk.2⟩))) (fun _ h_ => h_))); (case aB => exact (by repeat (first | (with_reducible first | exact HB.out | apply below_alloc | apply pw_below_drewN | apply below_drew1) | exact HB.out))); (case aF => exact (fun _ _ => trivial)); (case aO => exact (by (with_reducible repeat (first | apply Kd.S_alloc | apply Kd.S_drewN | apply Kd.S_drew)); exact Kd.S_mono HO_2.out (fun k_ hk => ⟨trivial, fun e_ => hk.2 e_⟩))); (case aS => exact (below_size (by repeat (first | (with_reducible first | exact HB.out | apply below_alloc | apply pw_below_drewN | apply below_drew1) | exact HB.out)))); (case aL => have := LMc7.out; omega); intro v263 w10 ho hb hg hat; rw [← Ny262.out] at ho; have n0_ := Aside0.mk (hb); have n1_ := Aside0.mk (ho); clear HB; clear HO_2; clear HO261; have HB := n0_; have HO264 := n1_; clear n0_ n1_; clear ho hb hg hat))
                go_roundg k1
                case measure => have := HK1.out; omega
                case rel => exact ⟨(y262), (wrap64 (x3_1 + t258)), (by first | rfl | (simp; done) | (simp [*]; done)), H', ⟨by have := HK1.out; omega⟩, ⟨by (with_reducible repeat (first | apply Kd.S_alloc | apply Kd.S_drewN | apply Kd.S_drew)); exact HO264.out⟩, ⟨by repeat (first | (with_reducible first | exact HB.out | apply below_alloc | apply pw_below_drewN | apply below_drew1) | exact HB.out)⟩⟩
              · rw [if_neg c7] at H
                exact absurd H (by simp)
            · rw [if_neg c6] at H
              have c6b0 : (t259 == 0) = false := beq_eq_false_iff_ne.mpr c6
              have c6b1 : (t259 != 0) = true := bne_iff_ne.mpr c6
              simp only [Option.some.injEq, Prod.mk.injEq] at H
              obtain ⟨rfl, rfl, rfl⟩ := H
              obtain ⟨i012, hi012, _, hsz12, _⟩ := info_parts info5
              obtain ⟨A12, hcut12, hA12, hC12⟩ := print_drop_of (P := Tryz.prog) (Value.int .u8) 0 26 5 .i64 Tryz.underlying26 hi012 hsz12 A0 c0 l0 x3_1 (of_decide_eq_true (by first | (with_reducible assumption) | assumption)) (of_decide_eq_true (by first | (with_reducible assumption) | assumption)) HC0.out
              have HR256 := Aside0.mk (Kd.C_of_reads (h1 := fun _ => rfl) (hA12 _ (Kd.reads_of_C HR0.out)))
              have HC256 := Aside0.mk hC12
              clear hA12 hC12 hi012 hsz12
              go_wp2_with (first | ((with_reducible refine gate_callee (f := 131) rfl ?_); refine goesL_ (some 16) rfl rfl Tryz.func131 (by kernel_rfl) rfl #[.slice A12 (l0.drop (x3_1 : Int).toNat).length (c0 - x3_1.toNat)] rfl (by (try simp only [List.map_toArray, List.map_cons, List.map_nil]); first | done | (rw [show (l0.drop (x3_1 : Int).toNat).length = (l0.length - x3_1.toNat) from List.length_drop] <;> rfl) | rfl | (simp only [List.length_drop, List.length_take]; rfl)) ?_; (with_reducible refine (frame_Decode.calls k1 _ _ (l0.drop (x3_1 : Int).toNat) t257 t258 t259 _ ?side1 ?side2 A5.out).mono ?_); (case side1 => repeat (first | exact (Kd.C_below HR256.out HB.out) | (with_reducible refine Kd.C_alloc ?_ _) | (with_reducible refine Kd.C_drewN ?_ _) | (with_reducible refine Kd.C_drew ?_))); (case side2 => exact HC256.out); rintro e w13 ⟨v260, rfl, ho0, hb⟩; refine ⟨_, rfl, ?_⟩; have n0_ := Aside0.mk (Kd.S_elder' (by (with_reducible repeat (first | apply Kd.S_alloc | apply Kd.S_drewN | apply Kd.S_drew)); exact HO_2.out) (Kd.R_base ho0) hb); have n1_ := Aside0.mk (Kd.R_lower ho0 (below_size (by repeat (first | (with_reducible first | exact HB.out | apply below_alloc | apply pw_below_drewN | apply below_drew1) | exact HB.out)))); have n2_ := Aside0.mk (below_step (by repeat (first | (with_reducible first | exact HB.out | apply below_alloc | apply pw_below_drewN | apply below_drew1) | exact HB.out)) hb); clear HO_2; clear HB; have HO_2 := n0_; have HO261 := n1_; have HB := n2_; clear n0_ n1_ n2_; (try clear hb); (try clear hb2); (try clear hk); (try clear hi); (try clear ho0)))
              go_ret3
              exact ⟨_, by first | rfl | (simp [errW_none, errW_some] <;> rfl) | (simp [*, errW_none, errW_some] <;> rfl), by (with_reducible repeat (first | apply Kd.S_alloc | apply Kd.S_drewN | apply Kd.S_drew)); exact Kd.S_mono HO_2.out (fun _ hk => trivial), by repeat (first | (with_reducible first | exact HB.out | apply below_alloc | apply pw_below_drewN | apply below_drew1) | exact HB.out)⟩
          · rw [if_neg c4] at H
            exact absurd H (by simp)
        · rw [if_neg c3] at H
          exact absurd H (by simp)
      · rw [if_neg c2] at H
        have c2b0 : decide (x3_1 < (l0.length : Int)) = false := decide_eq_false c2
        clear c2
        simp only [Option.some.injEq, Prod.mk.injEq] at H
        obtain ⟨rfl, rfl, rfl⟩ := H
        go_wp2
        go_ret3
        exact ⟨_, by first | rfl | (simp [errW_none, errW_some] <;> rfl) | (simp [*, errW_none, errW_some] <;> rfl), by (with_reducible repeat (first | apply Kd.S_alloc | apply Kd.S_drewN | apply Kd.S_drew)); exact HO_2.out, by repeat (first | (with_reducible first | exact HB.out | apply below_alloc | apply pw_below_drewN | apply below_drew1) | exact HB.out)⟩
/-! ### frame_All: function 46 -/
def frame_All.f (k : Nat) (l0 : List Int) : Option ((List (List Int)) × Int) := (frame_walk.f k l0).bind fun bt265 => (if bt265.2.2 = 0 then (some (bt265.1, 0)) else (some (([] : List (List Int)), bt265.2.2)))
set_option maxHeartbeats 8000000 in
set_option maxRecDepth 100000 in
theorem frame_All.calls (k : Nat) (A0 : Option Addr) (c0 : Nat) (l0 : List Int) (r1 : List (List Int)) (r2 : Int) (w : World) (hr0 : Kd.C (Kd.int .u8) w A0 l0.length l0) (hc0 : l0.length ≤ c0) (h : frame_All.f k l0 = some (r1, r2)) :
    Calls Tryz.prog 46 #[.slice A0 l0.length c0] w fun e w' => ∃ v0_ : Value, e = .returned (.tuple #[v0_, .int .i64 r2]) ∧ Kd.S (Kd.slice 5 (Kd.int .u8)) 26 w' w.heap.size (fun _ => True) v0_ r1 ∧ Below w.heap.size w w' := by
  have HR0 := Aside0.mk hr0
  have HC0 := Aside0.mk hc0
  clear hr0 hc0
  have HB := Aside0.mk (Below.refl w.heap.size w)
  have H : ((frame_walk.f k l0).bind fun bt265 => (if bt265.2.2 = 0 then (some (bt265.1, 0)) else (some (([] : List (List Int)), bt265.2.2)))) = some (r1, r2) := h
  clear h
  replace H := Option.bind_eq_some_iff.mp H
  obtain ⟨⟨t265, t266, t267⟩, A20, H⟩ := H
  replace H : (if t267 = 0 then (some (t265, 0)) else (some (([] : List (List Int)), t267))) = some (r1, r2) := H
  have A2 := Aside0.mk A20
  clear A20
  by_cases c3 : t267 = 0
  · rw [if_pos c3] at H
    have c3b0 : (t267 == 0) = true := beq_iff_eq.mpr c3
    have c3b1 : (t267 != 0) = false := bne_eq_false_iff_eq.mpr c3
    clear c3
    simp only [Option.some.injEq, Prod.mk.injEq] at H
    obtain ⟨rfl, rfl⟩ := H
    go_enter Tryz.func46, Tryz.ntmps46
    go_wp2_with (first | ((with_reducible refine gate_callee (f := 90) rfl ?_); refine goesL_ (some 9) rfl rfl Tryz.func90 (by kernel_rfl) rfl #[.slice A0 l0.length c0] rfl (by (try simp only [List.map_toArray, List.map_cons, List.map_nil]); first | done | rfl | (simp only [List.length_drop, List.length_take]; rfl)) ?_; (with_reducible refine (frame_walk.calls k _ _ l0 t265 t266 t267 _ ?side1 ?side2 A2.out).mono ?_); (case side1 => repeat (first | exact HR0.out | (with_reducible refine Kd.C_alloc ?_ _) | (with_reducible refine Kd.C_drewN ?_ _) | (with_reducible refine Kd.C_drew ?_))); (case side2 => exact HC0.out); rintro e w4 ⟨v268, rfl, ho0, hb⟩; refine ⟨_, rfl, ?_⟩; have n0_ := Aside0.mk (Kd.S_lower ho0 (below_size (by repeat (first | (with_reducible first | exact HB.out | apply below_alloc | apply pw_below_drewN | apply below_drew1) | exact HB.out)))); have n1_ := Aside0.mk (below_step (by repeat (first | (with_reducible first | exact HB.out | apply below_alloc | apply pw_below_drewN | apply below_drew1) | exact HB.out)) hb); clear HB; have HO269 := n0_; have HB := n1_; clear n0_ n1_; (try clear hb); (try clear hb2); (try clear hk); (try clear hi); (try clear ho0)))
    go_ret2
    exact ⟨_, by first | rfl | (simp [errW_none, errW_some] <;> rfl) | (simp [*, errW_none, errW_some] <;> rfl), by (with_reducible repeat (first | apply Kd.S_alloc | apply Kd.S_drewN | apply Kd.S_drew)); exact HO269.out, by repeat (first | (with_reducible first | exact HB.out | apply below_alloc | apply pw_below_drewN | apply below_drew1) | exact HB.out)⟩
  · rw [if_neg c3] at H
    have c3b0 : (t267 == 0) = false := beq_eq_false_iff_ne.mpr c3
    have c3b1 : (t267 != 0) = true := bne_iff_ne.mpr c3
    simp only [Option.some.injEq, Prod.mk.injEq] at H
    obtain ⟨rfl, rfl⟩ := H
    go_enter Tryz.func46, Tryz.ntmps46
    go_wp2_with (first | ((with_reducible refine gate_callee (f := 90) rfl ?_); refine goesL_ (some 9) rfl rfl Tryz.func90 (by kernel_rfl) rfl #[.slice A0 l0.length c0] rfl (by (try simp only [List.map_toArray, List.map_cons, List.map_nil]); first | done | rfl | (simp only [List.length_drop, List.length_take]; rfl)) ?_; (with_reducible refine (frame_walk.calls k _ _ l0 t265 t266 t267 _ ?side1 ?side2 A2.out).mono ?_); (case side1 => repeat (first | exact HR0.out | (with_reducible refine Kd.C_alloc ?_ _) | (with_reducible refine Kd.C_drewN ?_ _) | (with_reducible refine Kd.C_drew ?_))); (case side2 => exact HC0.out); rintro e w5 ⟨v268, rfl, ho0, hb⟩; refine ⟨_, rfl, ?_⟩; have n0_ := Aside0.mk (Kd.S_lower ho0 (below_size (by repeat (first | (with_reducible first | exact HB.out | apply below_alloc | apply pw_below_drewN | apply below_drew1) | exact HB.out)))); have n1_ := Aside0.mk (below_step (by repeat (first | (with_reducible first | exact HB.out | apply below_alloc | apply pw_below_drewN | apply below_drew1) | exact HB.out)) hb); clear HB; have HO269 := n0_; have HB := n1_; clear n0_ n1_; (try clear hb); (try clear hb2); (try clear hk); (try clear hi); (try clear ho0)))
    go_ret2
    exact ⟨_, by first | rfl | (simp [errW_none, errW_some] <;> rfl) | (simp [*, errW_none, errW_some] <;> rfl), by first | exact Kd.S_nil _ _ _ _ _ | exact Kd.N_nil _ _ _ _ _ | exact Kd.V_nil _ _ _ _ _ | exact Kd.Q_nil _ _ _ _ _ | exact Kd.R_nil _ _ _ _ _, by repeat (first | (with_reducible first | exact HB.out | apply below_alloc | apply pw_below_drewN | apply below_drew1) | exact HB.out)⟩
/-! ### schema_Decode: function 158 -/
-- GIVEN ferryman/schema.Decode=../up/SDecode.given:making:rounds
theorem fblk2 (w : World) (o1 o2 : Obj) : ((w.alloc o1).alloc o2).heap[w.heap.size + 1]? = some o2 := by
  have := blk_new (w.alloc o1) o2
  rwa [World.size_alloc] at this
theorem fblk3 (w : World) (o1 o2 o3 : Obj) : (((w.alloc o1).alloc o2).alloc o3).heap[w.heap.size + 1 + 1]? = some o3 := by
  have := blk_new ((w.alloc o1).alloc o2) o3
  rwa [World.size_alloc, World.size_alloc] at this
/-- A block of numbers, read as a row. -/
theorem block_C {w : World} {g : Nat} {t : TypeId} (fs : List Int) (hl : fs.length ≤ 9223372036854775807) (h : w.heap[g]? = some (.cells (fs.map (Value.int .i64)).toArray t (0, 0))) : Kd.C (Kd.int .i64) w (some ⟨g, 0, none⟩) fs.length fs := by
  refine Kd.C_of_reads (d := (0 : Int)) (h1 := fun _ => rfl) ⟨rfl, hl, fun _ => ⟨_, rfl, fun j hj => ?_⟩⟩
  have h2 := blk_cell h j
  rw [List.getElem?_toArray, List.getElem?_map, List.getElem?_eq_getElem hj] at h2
  have h3 : fs.getD j 0 = fs[j] := by rw [List.getD_eq_getElem?_getD, List.getElem?_eq_getElem hj]; rfl
  rw [h3]
  rcases j with _ | j
  · simpa [Addr.add] using h2
  · simpa [Addr.add] using h2
/-- The fields of a version: a row that is read. -/
def FieldsOf (w : World) (fs : List Int) (e : Ending) (w' : World) : Prop :=
  ∃ ad, e = .returned (.slice (some ad) fs.length fs.length) ∧ Kd.C (Kd.int .i64) w' (some ad) fs.length fs ∧ Below w.heap.size w w'
set_option maxHeartbeats 8000000 in
set_option maxRecDepth 100000 in
theorem fields_one (w : World) : Calls Tryz.prog 129 #[.int .i64 1] w (FieldsOf w [1, 2, 4]) := by
  go_enter Tryz.func129, Tryz.ntmps129
  go_wp2
  go_ret
  exact ⟨⟨w.heap.size + 1, 0, none⟩, rfl, block_C [1, 2, 4] (by decide) (blk_alloc (blk_alloc (blk_alloc (fblk2 w _ _) _) _) _), below_alloc (below_alloc (below_alloc (below_alloc (below_alloc (Below.refl _ _) _) _) _) _) _⟩
set_option maxHeartbeats 8000000 in
set_option maxRecDepth 100000 in
theorem fields_two (w : World) : Calls Tryz.prog 129 #[.int .i64 2] w (FieldsOf w [1, 2, 3, 4]) := by
  go_enter Tryz.func129, Tryz.ntmps129
  go_wp2
  go_ret
  exact ⟨⟨w.heap.size + 1 + 1, 0, none⟩, rfl, block_C [1, 2, 3, 4] (by decide) (blk_alloc (blk_alloc (fblk3 w _ _ _) _) _), below_alloc (below_alloc (below_alloc (below_alloc (below_alloc (Below.refl _ _) _) _) _) _) _⟩
/-- The fields of an elder version. -/
def fieldsE (v : Int) : List Int := if v = 1 then [1, 2, 4] else [1, 2, 3, 4]
theorem fields_calls (v : Int) (w : World) (hv : v = 1 ∨ v = 2) : Calls Tryz.prog 129 #[.int .i64 v] w (FieldsOf w (fieldsE v)) := by
  rcases hv with rfl | rfl
  · exact fields_one w
  · exact fields_two w
theorem addr_at (g m : Nat) : (⟨g, 0, none⟩ : Addr).add m = ⟨g, m, none⟩ := by
  rcases m with _ | m
  · simp [Addr.add]
  · simp [Addr.add]
/-- A row of numbers is the same behind a store past its end. -/
theorem row_past {w : World} {base g m c : Nat} {xs : List Int} (h : Kd.R (Kd.int .i64) 3 w base (fun _ => True) (.slice (some ⟨g, 0, none⟩) m c) xs) (hm : m = xs.length) (v : Value) : Kd.R (Kd.int .i64) 3 (w.setCell ⟨g, m, none⟩ v) base (fun _ => True) (.slice (some ⟨g, 0, none⟩) m c) xs := by
  obtain ⟨h0, inner, ho, hr⟩ := h
  refine ⟨fun _ _ => trivial, inner, ?_, hr⟩
  obtain ⟨h1, h2⟩ := ho
  refine ⟨h1, ?_⟩
  rcases h2 with ⟨hv, _⟩ | ⟨g', cap, cur, hv, hb, hh, hnc, hcm, hcs, ht⟩
  · cases hv
  · injection hv with ha hn hc
    injection ha with ha
    injection ha with hg
    subst hg
    refine .inr ⟨g, cap, cur.setIfInBounds m v, by rw [hn, hc], hb, blk_set hh m v, hnc, hcm, by rw [Array.size_setIfInBounds]; exact hcs, ?_⟩
    rw [← ht]
    apply List.ext_getElem?
    intro j
    rw [List.getElem?_take, List.getElem?_take]
    have hs1 : (Kd.int .i64).sz = 1 := rfl
    rw [hs1]
    by_cases hj : j < xs.length * 1
    · rw [if_pos hj, if_pos hj, Array.getElem?_toList, Array.getElem?_toList, Array.getElem?_setIfInBounds, if_neg (by omega)]
    · rw [if_neg hj, if_neg hj]
/-- Room behind a row of numbers. -/
theorem row_room {w : World} {base g m c : Nat} {xs : List Int} (h : Kd.R (Kd.int .i64) 3 w base (fun _ => True) (.slice (some ⟨g, 0, none⟩) m c) xs) (hm : m < c) : (w.cell? ⟨g, m, none⟩).isSome = true ∧ w.frozen? ⟨g, m, none⟩ = false := by
  obtain ⟨h0, inner, ho, hr⟩ := h
  rcases ho.2 with ⟨hv, _⟩ | ⟨g', cap, cur, hv, hb, hh, hnc, hcm, hcs, ht⟩
  · cases hv
  · injection hv with ha hn hc
    injection ha with ha
    injection ha with hg
    subst hg hc
    have hs1 : (Kd.int .i64).sz = 1 := rfl
    rw [hs1] at hcs
    refine ⟨?_, blk_frozen hh m⟩
    rw [blk_cell hh m, Array.getElem?_eq_getElem (by omega)]
    rfl
set_option maxHeartbeats 8000000 in
set_option maxRecDepth 100000 in
/-- slices.Delete(l, 0, 1), l a row of the caller's own. -/
theorem delete_first (g c n m : Nat) (x : Int) (xs : List Int) (w0 w : World) (hn : n = m + 1) (hm : m = xs.length) (hB : Below w0.heap.size w0 w) (h : Kd.R (Kd.int .i64) 3 w w0.heap.size (fun _ => True) (.slice (some ⟨g, 0, none⟩) n c) (x :: xs)) :
    Calls Tryz.prog 183 #[.slice (some ⟨g, 0, none⟩) n c, .int .i64 0, .int .i64 1] w fun e w' => e = .returned (.slice (some ⟨g, 0, none⟩) m c) ∧ Kd.R (Kd.int .i64) 3 w' w0.heap.size (fun _ => True) (.slice (some ⟨g, 0, none⟩) m c) xs ∧ Below w0.heap.size w0 w' ∧ Kept w w' (fun k => k = g) := by
  have hinf : (Tryz.prog.info? 3).map (fun i => (i.zero, i.size, i.bytes)) = some (some (.int .i64 0), 1, 8) := by kernel_rfl
  obtain ⟨i0, hi0, hz0, hsz, _⟩ := info_parts hinf
  have hz1 : i0.size = 1 := hsz
  have hnc : n ≤ c := (Kd.R_reads' h).2.1
  have hel : Tryz.prog.elem 34 = 3 := by simp [Program.elem, Tryz.underlying34]
  have hu : Tryz.prog.underlying 34 = some (.slice (Tryz.prog.elem 34)) := by rw [hel]; exact Tryz.underlying34
  have r13 : ∀ W : World, (Instr.slice 34 (.slice (some ⟨g, 0, none⟩) n c) (some (.int .i64 0)) (some (.int .i64 1)) (some (.int .i64 (n : Int)))).run Tryz.prog W = .ok (.slice (some ⟨g, 0, none⟩) 1 n) W := by
    intro W
    rw [run_slice_lhm W _ _ n c hu .i64 .i64 .i64 0 1 (n : Int) (by omega) (by omega) (by omega) (by omega), hel]
    simp [sizeOf, typeInfo, hi0, hz1, sliced, Result.andThen, Addr.add]
  have r22 := cut_to (P := Tryz.prog) 34 3 .i64 Tryz.underlying34 hi0 (some ⟨g, 0, none⟩) n c 0 (by omega) (by omega) hnc
  have r25 := cut_from (P := Tryz.prog) 34 3 .i64 Tryz.underlying34 hi0 1 hz1 (some ⟨g, 0, none⟩) n c 1 (by omega) (by omega)
  have r31 : ∀ W : World, (Instr.slice 34 (.slice (some ⟨g, 0, none⟩) m c) (some (.int .i64 (m : Int))) (some (.int .i64 (n : Int))) none).run Tryz.prog W = .ok (.slice (some ⟨g, m, none⟩) 1 (c - m)) W := by
    intro W
    rw [run_slice_lh W _ _ m c hu .i64 .i64 (m : Int) (n : Int) (by omega) (by omega) (by omega), hel]
    have e1 : ¬ c = m := by omega
    have e2 : n - m = 1 := by omega
    simp [sizeOf, typeInfo, hi0, hz1, sliced, Result.andThen, e1, e2, addr_at]
  obtain ⟨A2, hA2⟩ : ∃ A2, A2 = (if c = (1 : Int).toNat then some ⟨g, 0, none⟩ else (some (⟨g, 0, none⟩ : Addr)).map (·.add ((1 : Int).toNat * 1))) := ⟨_, rfl⟩
  rw [← hA2, show n - (1 : Int).toNat = m by simp; omega] at r25
  have HI := Aside0.mk (And.intro hi0 hz1)
  have HZ := Aside0.mk hz0
  have HN := Aside0.mk (And.intro hn (And.intro hm (And.intro hnc hA2)))
  have HB := Aside0.mk hB
  have HO := Aside0.mk h
  have HK := Aside0.mk (Kept.refl w (fun k => k = g))
  rw [show (0 : Int).toNat = 0 from rfl] at r22
  rw [show (1 : Int).toNat = 1 from rfl] at r25 hA2
  clear hinf hi0 hz0 hsz hz1 hnc hel hu hA2 hn hm hB h
  go_enter Tryz.func183, Tryz.ntmps183
  go_upto_region 5 with fail
  go_still_tail 6, (by kernel_rfl)
  change wpList _ _ _ _ _ w.drew
  obtain ⟨w2, hw2⟩ : ∃ w2, w2 = w.drew := ⟨_, rfl⟩
  have ho2 : Kd.R (Kd.int .i64) 3 w2 w0.heap.size (fun _ => True) (.slice (some ⟨g, 0, none⟩) n c) (x :: xs) := by rw [hw2]; exact Kd.R_drew HO.out
  have hb2 : Below w0.heap.size w0 w2 := by rw [hw2]; exact below_drew1 HB.out
  have hk2 : Kept w w2 (fun k => k = g) := by rw [hw2]; exact Kept.of_below (below_drew1 (Below.refl _ _)) _
  rw [← hw2]
  clear hw2
  have HO2 := Aside0.mk ho2
  have HB2 := Aside0.mk hb2
  have HK2 := Aside0.mk hk2
  have hinf2 : (Tryz.prog.info? 3).map (·.size) = some (Kd.int .i64).sz := by rw [HI.out.1]; exact congrArg some HI.out.2
  have HF := Aside0.mk hinf2
  clear ho2 hb2 hk2 hinf2 HO HB HK
  go_wp2_with ((with_reducible refine gate_builtin (b := .append) (xs := #[.tmp 22, .tmp 25]) rfl ?_); at_builtin; refine Kd.R_delete (Kd.int .i64) (w0 := w0) w0.heap.size rfl (.tmp 22) (.tmp 25) 34 3 rfl Tryz.underlying34 HF.out (g := g) (n := n) (c := c) (k := 0) (m := m) (c2 := c - 1) (A := A2) rfl rfl HN.out.2.2.2 (by have := HN.out.1; omega) HO2.out (by have := HN.out.1; omega) HB2.out (below_size HB2.out) ?_
               intro w3 ho hb hg
               obtain ⟨hn, hm, hnc, hA2⟩ := HN.out
               rw [show n - 1 = m by omega] at ho ⊢
               replace ho : Kd.R (Kd.int .i64) 3 w3 w0.heap.size (fun _ => True) (.slice (some ⟨g, 0, none⟩) m c) xs := ho
               obtain ⟨hc3, hf3⟩ := row_room ho (by omega)
               have hcl := Lib.run_clear_slice (P := Tryz.prog) w3 34 3 0 (.int .i64 0) Tryz.underlying34 (fun W => by simp [zeroValue, typeInfo, HI.out.1, HZ.out]) rfl rfl g m 1 (c - m) (by omega) (fun j hj => by rw [show j = 0 by omega]; exact hc3) (fun j hj => by rw [show j = 0 by omega]; exact hf3)
               change (_ : Sem Value).run Tryz.prog w3 = .ok (.tuple #[]) (w3.setCell ⟨g, m, none⟩ (.int .i64 0)) at hcl
               have hgb : w0.heap.size ≤ g := Kd.R_base ho g (by simp [Value.ownBlock])
               have HO3 := Aside0.mk (row_past ho hm (.int .i64 0))
               have HB3 := Aside0.mk (below_set hb hgb : Below w0.heap.size w0 (w3.setCell ⟨g, m, none⟩ (.int .i64 0)))
               have HK3 := Aside0.mk (show Kept w (w3.setCell ⟨g, m, none⟩ (.int .i64 0)) (fun k => k = g) from
                 ⟨by have := HK2.out.1; have := hg.size; simp; omega, fun i hi hne => ((Below.heap_setCell w3 ⟨g, m, none⟩ _ i hne).trans (hg.block i (by have := HK2.out.1; omega) (fun e => hne (by injection e)))).trans (HK2.out.2 i hi hne)⟩)
               clear hn hm hnc hA2 ho hb hg hc3 hf3 hgb)
  go_ret
  exact ⟨rfl, HO3.out, HB3.out, HK3.out⟩
theorem cloneI.empty {g b : Nat} {w : World} (hb : b ≤ g) (h : w.heap[g]? = some (.cells #[] 3 (0, 0))) : Kd.R (Kd.int .i64) 3 w b (fun _ => True) (.slice (some ⟨g, 0, none⟩) 0 0) [] :=
  ⟨fun _ _ => trivial, [], ⟨by simp, .inr ⟨g, 0, #[], rfl, hb, h, Nat.le_refl _, Nat.zero_le _, by simp, by simp⟩⟩, Reps.none _ _⟩
set_option maxHeartbeats 8000000 in
theorem cloneI.calls (A0 : Option Addr) (c0 : Nat) (l0 : List Int) (w : World) (hr0 : Kd.C (Kd.int .i64) w A0 l0.length l0) (hc0 : l0.length ≤ c0) (hl : l0.length ≤ 1000) :
    Calls Tryz.prog 125 #[.slice A0 l0.length c0] w fun e w' => ∃ v0_ : Value, e = .returned v0_ ∧ Kd.R (Kd.int .i64) 3 w' w.heap.size (fun _ => True) v0_ l0 ∧ Below w.heap.size w w' := by
  have HR := Aside0.mk hr0
  have hn := Aside0.mk hl
  have hinf : (Tryz.prog.info? 3).map (fun i => (i.zero, i.size, i.bytes)) = some (some (.int .i64 0), 1, 8) := by kernel_rfl
  have HI := Aside0.mk hinf
  clear hinf hl hr0
  cases A0 with
  | none =>
    have h0 : l0 = [] := by
      rcases Nat.eq_zero_or_pos l0.length with h0 | h0
      · exact List.eq_nil_of_length_eq_zero h0
      · obtain ⟨ad, e, _⟩ := HR.out.2.2 h0
        cases e
    subst h0
    have heq := fun W : World => Lib.run_eql_slice_nil (P := Tryz.prog) W 34 3 none 0 c0 0 0 Tryz.underlying34
    go_enter Tryz.func125, Tryz.ntmps125
    go_wp2
    go_ret
    exact ⟨_, rfl, Kd.R_nil _ _ _ _ _, Below.refl _ _⟩
  | some ad =>
    have heq := fun W : World => Lib.run_eql_slice_nil (P := Tryz.prog) W 34 3 (some ad) l0.length c0 0 0 Tryz.underlying34
    go_enter Tryz.func125, Tryz.ntmps125
    go_wp2_with (first | ((with_reducible refine gate_builtin (b := .append) (xs := #[.tmp 5, .tmp 6]) rfl ?_); at_builtin; refine Kd.R_append_rows (Kd.int .i64) (w0 := w) w.heap.size rfl (.tmp 5) (.tmp 6) 34 3 (.int .i64 0) 8 rfl Tryz.underlying34 HI.out rfl (by decide) (by omega) (.slice (some ⟨w.heap.size, 0, none⟩) 0 0) [] l0 _ _ _ (fun _ => True) (fun _ => False) rfl rfl (cloneI.empty (Nat.le_refl _) (blk_new w _)) (Kd.C_alloc HR.out _) (fun _ _ h => h) (fun _ h => h.elim) (fun _ _ => trivial) (below_alloc (Below.refl _ _) _) (by rw [World.size_alloc]; omega) (by have := hn.out; simp only [List.length_nil]; omega) ?_; intro v1 w1 ho hb hg hat; have HO := Aside0.mk ho; have HB := Aside0.mk hb; clear ho hb hg hat))
    go_ret
    exact ⟨_, rfl, HO.out, HB.out⟩
/-- The fields of a list, one behind the other, and nothing behind them; what a record had ahead of them. -/
def readF (k : Nat) : List Int → List Int → Int → Int → Int → Int → Int → Int → Int → Option (Int × Int × Int × Int × Int × Int × Int)
  | [], b, r0, r1, r2, r3, r4, r5, r6 => if b.length = 0 then some (r0, r1, r2, r3, r4, r5, r6) else none
  | x :: fs, b, r0, r1, r2, r3, r4, r5, r6 => (num_Get.f k b).bind fun p => if p.1 = x ∧ 0 < p.2 ∧ p.2 ≤ b.length then
      (schema_get.f k r0 r1 r2 r3 r4 r5 r6 x (b.drop p.2.toNat)).bind fun q => if 0 < q.1 ∧ q.1 ≤ (b.drop p.2.toNat).length then
        readF k fs ((b.drop p.2.toNat).drop q.1.toNat) q.2.1 q.2.2.1 q.2.2.2.1 q.2.2.2.2.1 q.2.2.2.2.2.1 q.2.2.2.2.2.2.1 q.2.2.2.2.2.2.2 else none else none
def schema_read.f (k : Nat) (v : Int) (b : List Int) : Option (Int × Int × Int × Int × Int × Int × Int) :=
  if v = 1 ∨ v = 2 then (readF k (fieldsE v) b 0 0 0 0 0 0 0).bind fun r => (schema_Fits.f r.1 r.2.1 r.2.2.1 r.2.2.2.1 r.2.2.2.2.1 r.2.2.2.2.2.1 r.2.2.2.2.2.2).bind fun t => if t = true then some r else none else none
theorem index_first (x : Int) (fs : List Int) : slices_Index_int_int.f 1 (x :: fs) x = some 0 := by
  unfold slices_Index_int_int.f slices_Index_int_int.l0
  have h1 : (0 : Int) < ((x :: fs).length : Int) := by simp
  rw [if_pos h1, if_pos (Int.le_refl 0), if_pos h1, if_pos (by simp [rd])]
theorem index_head (A : Option Addr) (c n : Nat) (x : Int) (fs : List Int) (w : World) (hn : n = fs.length + 1) (hC : Kd.C (Kd.int .i64) w A n (x :: fs)) (hc : n ≤ c) :
    Calls Tryz.prog 195 #[.slice A n c, .int .i64 x] w fun e w' => e = .returned (.int .i64 0) ∧ Drawn0 w w' := by
  subst hn
  exact slices_Index_int_int.calls 1 A c (x :: fs) x 0 w hC hc (index_first x fs)
/-- What a call of schema.read leaves. -/
def ReadOf (w : World) (r0 r1 r2 r3 r4 r5 r6 : Int) (e : Ending) (w' : World) : Prop :=
  e = .returned (.tuple #[.agg #[.int .i64 r0, .int .i64 r1, .int .i64 r2, .int .i64 r3, .int .i64 r4, .int .i64 r5, .int .i64 r6], .int .i64 0]) ∧ Below w.heap.size w w'
set_option maxHeartbeats 8000000 in
set_option maxRecDepth 100000 in
theorem schema_read.calls (k : Nat) (a0 : Int) (A1 : Option Addr) (c1 : Nat) (l1 : List Int) (r0 r1 r2 r3 r4 r5 r6 : Int) (w : World) (hr1 : Kd.C (Kd.int .u8) w A1 l1.length l1) (hc1 : l1.length ≤ c1) (h : schema_read.f k a0 l1 = some (r0, r1, r2, r3, r4, r5, r6)) :
    Calls Tryz.prog 181 #[.int .i64 a0, .slice A1 l1.length c1] w (ReadOf w r0 r1 r2 r3 r4 r5 r6) := by
  have hu62 := Tryz.underlying62
  have hu38 := Tryz.underlying38
  unfold schema_read.f at h
  split at h
  case isFalse => cases h
  rename_i hv
  rw [Option.bind_eq_some_iff] at h
  obtain ⟨⟨s0, s1, s2, s3, s4, s5, s6⟩, hf, h⟩ := h
  rw [Option.bind_eq_some_iff] at h
  obtain ⟨t, ht, h⟩ := h
  split at h
  case isFalse => cases h
  rename_i htt
  subst htt
  obtain ⟨rfl, rfl, rfl, rfl, rfl, rfl, rfl⟩ : s0 = r0 ∧ s1 = r1 ∧ s2 = r2 ∧ s3 = r3 ∧ s4 = r4 ∧ s5 = r5 ∧ s6 = r6 := by
    have := Option.some.inj h
    simp only [Prod.mk.injEq] at this
    exact this
  obtain ⟨fs0, hfs0⟩ : ∃ fs, fs = fieldsE a0 := ⟨_, rfl⟩
  have hL : 0 < fs0.length ∧ fs0.length ≤ 1000 ∧ fs0.Pairwise (· < ·) ∧ (∀ x ∈ fs0, (-1 : Int) < x) := by
    rw [hfs0]
    unfold fieldsE
    split <;> exact ⟨by decide, by decide, by decide, by decide⟩
  rw [← hfs0] at hf
  have HV := Aside0.mk hv
  have HT := Aside0.mk ht
  have HF := Aside0.mk hf
  have HL := Aside0.mk hL
  have HR1 := Aside0.mk hr1
  have HC1 := Aside0.mk hc1
  have HE := Aside0.mk hfs0
  clear h hv ht hf hr1 hc1 hfs0 hL
  go_enter Tryz.func181, Tryz.ntmps181
  go_upto_region 1 with fail
  obtain ⟨w1, hw1⟩ : ∃ w1, w1 = w.alloc (.cells #[.int .i64 0, .int .i64 0, .int .i64 0, .int .i64 0, .int .i64 0, .int .i64 0, .int .i64 0] 62) := ⟨_, rfl⟩
  have HI1 := Aside0.mk (show IsS62 w w1 w.heap.size 0 0 0 0 0 0 0 by rw [hw1]; exact ⟨blk_new w _, Nat.le_refl _⟩)
  have HB1 := Aside0.mk (show Below w.heap.size w w1 by rw [hw1]; exact below_alloc (Below.refl _ _) _)
  rw [← hw1]
  clear hw1
  go_upto_region 2 with (first
    | (go_at_call 129; refine (fields_calls a0 _ HV.out).mono ?_; rintro e w2 ⟨ad, rfl, hg, hb⟩; rw [← HE.out] at hg ⊢; have HG := Aside0.mk hg; have HI2 := Aside0.mk (HI1.out.below hb); have HB2 := Aside0.mk (below_step HB1.out hb); clear hg hb HI1 HB1)
    | (go_at_call 125; refine (cloneI.calls (some ad) fs0.length fs0 _ HG.out (Nat.le_refl _) HL.out.2.1).mono ?_; rintro e w3 ⟨v3, rfl, ho, hb⟩; obtain ⟨gl, cl, rfl, _⟩ := Kd.R_form ho HL.out.1; have HO3 := Aside0.mk (Kd.R_lower ho (below_size HB2.out)); have HI3 := Aside0.mk (HI2.out.below hb); have HB3 := Aside0.mk (below_step HB2.out hb); clear ho hb HI2 HB2))
  go_wp2
  go_loopg [1, 6, 7] (fs0.length + 1) (fun kq v1 v6 v7 w' => ∃ (A : Option Addr) (c : Nat) (b fs : List Int) (n cl : Nat) (last q0 q1 q2 q3 q4 q5 q6 : Int), v1 = .slice A b.length c ∧ v6 = .slice (some ⟨gl, 0, none⟩) n cl ∧ v7 = .int .i64 last ∧ Aside0 (n = fs.length ∧ n < kq ∧ n ≤ 1000 ∧ fs.Pairwise (· < ·) ∧ ∀ x ∈ fs, last < x) ∧ Aside0 (Kd.C (Kd.int .u8) w A b.length b ∧ b.length ≤ c) ∧ Aside0 (readF k fs b q0 q1 q2 q3 q4 q5 q6 = some (s0, s1, s2, s3, s4, s5, s6)) ∧ Aside0 (IsS62 w w' w.heap.size q0 q1 q2 q3 q4 q5 q6) ∧ Aside0 (Kd.R (Kd.int .i64) 3 w' w.heap.size (fun _ => True) (.slice (some ⟨gl, 0, none⟩) n cl) fs) ∧ Aside0 (Below w.heap.size w w'))
  case atStart => exact ⟨A1, c1, l1, fs0, fs0.length, cl, -1, 0, 0, 0, 0, 0, 0, 0, rfl, rfl, rfl, ⟨⟨rfl, by omega, HL.out.2.1, HL.out.2.2⟩⟩, ⟨⟨HR1.out, HC1.out⟩⟩, HF, HI3, HO3, HB3⟩
  case round =>
    clear HO3 HI3 HB3 HF HR1 HC1 HG HL HE HV
    obtain ⟨A, c, b, fs, n, cl, last, q0, q1, q2, q3, q4, q5, q6, rfl, rfl, rfl, HN, HC, HA, HI, HO, HB⟩ := hrel
    cases gk with
    | zero => exact absurd HN.out.2.1 (by omega)
    | succ k1 =>
      cases fs with
      | nil =>
        obtain ⟨hn, _⟩ := HN.out
        simp only [List.length_nil] at hn
        subst hn
        have h2 := HA.out
        unfold readF at h2
        by_cases hb0 : b.length = 0
        case neg => exact absurd h2 (by simp [hb0])
        rw [if_pos hb0] at h2
        have e1 := Option.some.inj h2
        simp only [Prod.mk.injEq] at e1
        obtain ⟨rfl, rfl, rfl, rfl, rfl, rfl, rfl⟩ := e1
        have d0 : decide (0 < (b.length : Int)) = false := decide_eq_false (by omega)
        have d0' : decide (0 < b.length) = false := decide_eq_false (by omega)
        have hr := (fun i => blk_cell HI.out.1 i)
        have hz := (fun i => blk_frozen HI.out.1 i)
        clear hb0 h2
        go_upto_region 23 with (go_at_call 43; refine (schema_Fits.calls q0 q1 q2 q3 q4 q5 q6 true _ HT.out).mono ?_; rintro e w4 ⟨rfl, hb⟩; have HI4 := Aside0.mk (HI.out.below hb); have HB4 := Aside0.mk (below_step HB.out hb); clear hb)
        clear hr hz
        have hr := (fun i => blk_cell HI4.out.1 i)
        have hz := (fun i => blk_frozen HI4.out.1 i)
        go_wp2
        refine bodyPost_ret (results_ct rfl _ _ w.heap.size 62 #[.int .i64 q0, .int .i64 q1, .int .i64 q2, .int .i64 q3, .int .i64 q4, .int .i64 q5, .int .i64 q6] (0, 0) _ rfl (block_record.put7 HI4.out.1) Tryz.underlying62 rfl (by kernel_rfl)) rfl ⟨rfl, ?_⟩
        exact block_record.below7 HB4.out (Nat.le_refl _)
      | cons x fs =>
        obtain ⟨hn, hnk, hn1, hps, hlast⟩ := HN.out
        have h2 := HA.out
        unfold readF at h2
        rw [Option.bind_eq_some_iff] at h2
        obtain ⟨⟨p1, p2⟩, hp, h2⟩ := h2
        split at h2
        case isFalse => cases h2
        rename_i hpc
        obtain ⟨hpx, hp0, hpl⟩ := hpc
        simp only at hpx hp0 hpl h2
        subst hpx
        rw [Option.bind_eq_some_iff] at h2
        obtain ⟨⟨g1, g2, g3, g4, g5, g6, g7, g8⟩, hg, h2⟩ := h2
        split at h2
        case isFalse => cases h2
        rename_i hgc
        obtain ⟨hg0, hgl⟩ := hgc
        simp only at hg0 hgl h2
        have hinf : (Tryz.prog.info? 5).map (fun i => (i.zero, i.size, i.bytes)) = some (some (.int .u8 0), 1, 1) := info5
        obtain ⟨ii, hii, _, hz1, _⟩ := info_parts hinf
        obtain ⟨hC, hc⟩ := HC.out
        obtain ⟨A2, hrun2, hread2, hlen2⟩ := print_cut_int (P := Tryz.prog) (k := .u8) 26 5 Tryz.underlying26 hii hz1 A c b p2 (by omega) hpl hc
        obtain ⟨b2, hb2⟩ : ∃ b2, b2 = b.drop p2.toNat := ⟨_, rfl⟩
        rw [← hb2] at hg hgl h2 hrun2 hread2 hlen2
        obtain ⟨A3, hrun3, hread3, hlen3⟩ := print_cut_int (P := Tryz.prog) (k := .u8) 26 5 Tryz.underlying26 hii hz1 A2 (c - p2.toNat) b2 g1 (by omega) hgl hlen2
        obtain ⟨b3, hb3⟩ : ∃ b3, b3 = b2.drop g1.toNat := ⟨_, rfl⟩
        rw [← hb3] at h2 hrun3 hread3 hlen3
        have e2 := hread2 w (Kd.reads_of_C (enc := Value.int .u8) (d := (0 : Int)) (h1 := fun _ => rfl) hC)
        have e3 := hread3 w e2
        have H2 := Aside0.mk (And.intro (Kd.C_of_reads (enc := Value.int .u8) (d := (0 : Int)) (h1 := fun _ => rfl) e2) hlen2)
        have H3 := Aside0.mk (And.intro (Kd.C_of_reads (enc := Value.int .u8) (d := (0 : Int)) (h1 := fun _ => rfl) e3) hlen3)
        have HP := Aside0.mk hp
        have HG := Aside0.mk hg
        have HA2 := Aside0.mk h2
        have d0 : decide (0 < (b.length : Int)) = true := decide_eq_true (by omega)
        have d0' : decide (0 < b.length) = true := decide_eq_true (by omega)
        have d1 : (p2 == 0) = false := beq_eq_false_iff_ne.mpr (by omega)
        have d2 : decide (p1 ≤ last) = false := decide_eq_false (by have := hlast p1 List.mem_cons_self; omega)
        have d3 : (g1 == 0) = false := beq_eq_false_iff_ne.mpr (by omega)
        obtain ⟨m, hm⟩ : ∃ m, m = fs.length := ⟨_, rfl⟩
        have hnm : n = m + 1 := by rw [hn, List.length_cons, hm]
        have HM := Aside0.mk (And.intro hnm (And.intro hm (And.intro (show m < k1 by omega) (And.intro (show m ≤ 1000 by omega) hps))))
        have hCl : Kd.C (Kd.int .i64) wr (some ⟨gl, 0, none⟩) n (p1 :: fs) := by
          have := (Kd.R_reads' HO.out).2.2
          rwa [← hn] at this
        have hncl := (Kd.R_reads' HO.out).2.1
        have HCl := Aside0.mk (And.intro hCl hncl)
        clear hn hnk hn1 hps hlast hp hp0 hpl hg hg0 hgl h2 hinf hii hz1 hC hc hread2 hread3 hlen2 hlen3 e2 e3 hb2 hb3 hm hnm hCl hncl HN HA
        go_upto_region 12 with (first
          | (go_at_call 132; refine (num_Get.calls k A c b p1 p2 _ (Kd.C_below HC.out.1 HB.out) HC.out.2 HP.out).mono ?_; rintro e w4 ⟨rfl, hb⟩; have HI4 := Aside0.mk (HI.out.below hb); have HB4 := Aside0.mk (below_step HB.out hb); have HO4 := Aside0.mk (Kd.R_below HO.out hb); have HCl4 := Aside0.mk (And.intro (Kd.C_below HCl.out.1 hb) HCl.out.2); clear hb)
          | (go_at_call 195; refine (index_head (some ⟨gl, 0, none⟩) cl n p1 fs _ (by rw [HM.out.1, HM.out.2.1]) HCl4.out.1 HCl4.out.2).mono ?_; rintro e w5 ⟨rfl, ⟨q, rfl⟩⟩))
        clear HI HB HO HCl HCl4
        have hgne := HI4.out.own_ne HO4.out (by decide)
        have HNE := Aside0.mk (show ¬ (w.heap.size = gl) from fun e => hgne (by rw [e]; simp [Value.ownBlock]))
        clear hgne
        go_upto_region 16 with (first
          | (go_at_call 183; refine (delete_first gl cl n m p1 fs w _ HM.out.1 HM.out.2.1 (pw_below_drewN HB4.out q) (Kd.R_drewN HO4.out q)).mono ?_; rintro e w6 ⟨rfl, ho, hb, hk⟩; have HO6 := Aside0.mk ho; have HB6 := Aside0.mk hb; have HI6 := Aside0.mk (((HI4.out.drewN q).kept hk HNE.out)); clear ho hb hk)
          | (go_at_call 196; refine (schema_get.calls k w.heap.size q0 q1 q2 q3 q4 q5 q6 p1 A2 (c - p2.toNat) b2 g1 g2 g3 g4 g5 g6 g7 g8 w _ HI6.out HB6.out (Kd.C_below H2.out.1 HB6.out) H2.out.2 (fun a he hl => by subst he; exact Nat.ne_of_lt (Kd.C_lt H2.out.1 hl (by decide))) HG.out).mono ?_; rintro e w7 ⟨rfl, hi, hb, hk⟩; have HI7 := Aside0.mk hi; have HB7 := Aside0.mk hb; have HO7 := Aside0.mk (Kd.R_mono (ok' := fun _ => True) (Kd.R_keep (HI6.out.apart HO6.out (by decide)) hk (fun _ h => h.2)) (fun _ _ => trivial)); clear hi hb hk))
        go_wp2
        go_roundg k1
        case measure => omega
        case rel => exact ⟨A3, c - p2.toNat - g1.toNat, b3, fs, m, cl, p1, g2, g3, g4, g5, g6, g7, g8, rfl, rfl, rfl, ⟨⟨HM.out.2.1, HM.out.2.2.1, HM.out.2.2.2.1, (List.pairwise_cons.1 HM.out.2.2.2.2).2, (List.pairwise_cons.1 HM.out.2.2.2.2).1⟩⟩, H3, HA2, HI7, HO7, HB7⟩
/-- The record of an elder version that bytes are; none, if they are none. -/
def schema_Decode.f (k : Nat) (l0 : List Int) : Option (Int × Int × Int × Int × Int × Int × Int × Int) :=
  (num_Get.f k l0).bind fun p => if 0 < p.2 ∧ p.2 ≤ l0.length ∧ (p.1 = 1 ∨ p.1 = 2) then (schema_read.f k p.1 (l0.drop p.2.toNat)).bind fun r => some (r.1, r.2.1, r.2.2.1, r.2.2.2.1, r.2.2.2.2.1, r.2.2.2.2.2.1, r.2.2.2.2.2.2, 0) else none
set_option maxHeartbeats 8000000 in
set_option maxRecDepth 100000 in
theorem schema_Decode.calls (k : Nat) (A0 : Option Addr) (c0 : Nat) (l0 : List Int) (r1 r2 r3 r4 r5 r6 r7 r8 : Int) (w : World) (hr0 : Kd.C (Kd.int .u8) w A0 l0.length l0) (hc0 : l0.length ≤ c0) (h : schema_Decode.f k l0 = some (r1, r2, r3, r4, r5, r6, r7, r8)) :
    Calls Tryz.prog 158 #[.slice A0 l0.length c0] w fun e w' => e = .returned (.tuple #[.agg #[.int .i64 r1, .int .i64 r2, .int .i64 r3, .int .i64 r4, .int .i64 r5, .int .i64 r6, .int .i64 r7], .int .i64 r8]) ∧ Below w.heap.size w w' := by
  have hu62 := Tryz.underlying62
  have hu38 := Tryz.underlying38
  unfold schema_Decode.f at h
  rw [Option.bind_eq_some_iff] at h
  obtain ⟨⟨v, n⟩, hg, h⟩ := h
  split at h
  case isFalse => cases h
  rename_i hc
  obtain ⟨hn0, hnl, hv⟩ := hc
  simp only at hn0 hnl hv h
  rw [Option.bind_eq_some_iff] at h
  obtain ⟨⟨s0, s1, s2, s3, s4, s5, s6⟩, hs, h⟩ := h
  obtain ⟨rfl, rfl, rfl, rfl, rfl, rfl, rfl, rfl⟩ : s0 = r1 ∧ s1 = r2 ∧ s2 = r3 ∧ s3 = r4 ∧ s4 = r5 ∧ s5 = r6 ∧ s6 = r7 ∧ 0 = r8 := by
    have := Option.some.inj h
    simp only [Prod.mk.injEq] at this
    exact this
  obtain ⟨ii, hii, _, hz1, _⟩ := info_parts info5
  obtain ⟨A2, hrun2, hread2, hlen2⟩ := print_cut_int (P := Tryz.prog) (k := .u8) 26 5 Tryz.underlying26 hii hz1 A0 c0 l0 n (by omega) hnl hc0
  obtain ⟨b2, hb2⟩ : ∃ b2, b2 = l0.drop n.toNat := ⟨_, rfl⟩
  rw [← hb2] at hs hrun2 hread2 hlen2
  have e2 := hread2 w (Kd.reads_of_C (enc := Value.int .u8) (d := (0 : Int)) (h1 := fun _ => rfl) hr0)
  have H2 := Aside0.mk (And.intro (Kd.C_of_reads (enc := Value.int .u8) (d := (0 : Int)) (h1 := fun _ => rfl) e2) hlen2)
  have HR := Aside0.mk (And.intro hr0 hc0)
  have HG := Aside0.mk hg
  have HS := Aside0.mk hs
  have HV := Aside0.mk hv
  have d0 : ((l0.length : Int) == 0) = false := beq_eq_false_iff_ne.mpr (by omega)
  have d0' : (l0.length == 0) = false := beq_eq_false_iff_ne.mpr (by omega)
  have d1 : (n == 0) = false := beq_eq_false_iff_ne.mpr (by omega)
  clear h hg hs hv hn0 hnl hr0 hc0 hii hz1 hread2 hlen2 e2 hb2
  go_enter Tryz.func158, Tryz.ntmps158
  go_upto_region 3 with fail
  obtain ⟨w1, hw1⟩ : ∃ w1, w1 = w.alloc (.cells #[.int .i64 0, .int .i64 0, .int .i64 0, .int .i64 0, .int .i64 0, .int .i64 0, .int .i64 0] 62) := ⟨_, rfl⟩
  have HI1 := Aside0.mk (show IsS62 w w1 w.heap.size 0 0 0 0 0 0 0 by rw [hw1]; exact ⟨blk_new w _, Nat.le_refl _⟩)
  have HB1 := Aside0.mk (show Below w.heap.size w w1 by rw [hw1]; exact below_alloc (Below.refl _ _) _)
  rw [← hw1]
  clear hw1
  go_upto_region 6 with (go_at_call 132; refine (num_Get.calls k A0 c0 l0 v n _ (Kd.C_below HR.out.1 HB1.out) HR.out.2 HG.out).mono ?_; rintro e w2 ⟨rfl, hb⟩; have HI2 := Aside0.mk (HI1.out.below hb); have HB2 := Aside0.mk (below_step HB1.out hb); clear hb HI1 HB1)
  have heq := fun (W : World) (ad : Addr) (m : Nat) => Lib.run_eql_slice_nil (P := Tryz.prog) W 34 3 (some ad) m m 0 0 Tryz.underlying34
  go_upto_region 8 with (go_at_call 129; refine (fields_calls v _ HV.out).mono ?_; rintro e w3 ⟨ad, rfl, _, hb⟩; have HI3 := Aside0.mk (HI2.out.below hb); have HB3 := Aside0.mk (below_step HB2.out hb); clear hb HI2 HB2)
  clear heq
  go_upto_region 11 with (go_at_call 181; refine (schema_read.calls k v A2 (c0 - n.toNat) b2 s0 s1 s2 s3 s4 s5 s6 _ (Kd.C_below H2.out.1 HB3.out) H2.out.2 HS.out).mono ?_; rintro e w4 ⟨rfl, hb⟩; have HI4 := Aside0.mk (HI3.out.below hb); have HB4 := Aside0.mk (below_step HB3.out hb); clear hb HI3 HB3)
  have hlt := HI4.out.lt
  have HLT := Aside0.mk hlt
  clear hlt
  obtain ⟨w5, hw5⟩ : ∃ w5, w5 = w4.alloc (.cells #[.int .i64 s0, .int .i64 s1, .int .i64 s2, .int .i64 s3, .int .i64 s4, .int .i64 s5, .int .i64 s6] 62) := ⟨_, rfl⟩
  have HI5 := Aside0.mk (show IsS62 w w5 w.heap.size 0 0 0 0 0 0 0 by rw [hw5]; exact HI4.out.alloc _)
  have HJ5 := Aside0.mk (show w5.heap[w4.heap.size]? = some (.cells #[.int .i64 s0, .int .i64 s1, .int .i64 s2, .int .i64 s3, .int .i64 s4, .int .i64 s5, .int .i64 s6] 62 (0, 0)) by rw [hw5]; exact blk_new w4 _)
  have HB5 := Aside0.mk (show Below w.heap.size w w5 by rw [hw5]; exact below_alloc HB4.out _)
  rw [← hw5]
  clear hw5
  have hr := (fun i => blk_cell HI5.out.1 i)
  have hz := (fun i => blk_frozen HI5.out.1 i)
  have hr2 := (fun i => blk_cell HJ5.out i)
  go_wp2
  refine bodyPost_ret (results_ct rfl _ _ w.heap.size 62 #[.int .i64 s0, .int .i64 s1, .int .i64 s2, .int .i64 s3, .int .i64 s4, .int .i64 s5, .int .i64 s6] (0, 0) _ rfl (block_record.put7 HI5.out.1) Tryz.underlying62 rfl (by kernel_rfl)) rfl ⟨rfl, ?_⟩
  exact block_record.below7 HB5.out (Nat.le_refl _)
/-! ### segment_elder: function 134 -/
mutual
def segment_elder.l0 : Nat → Int → List Int → List (S62) → Option ((List (S62)) × Bool)
  | 0, _, _, _ => none
  | k + 1, x0, x1, x6 => if (x1.length : Int) > 0 then ((num_Get.f k x1).bind fun bt448 => (if bt448.2 = 0 then (segment_elder.j1 k x0 x1 x6 bt448.1 bt448.2 true) else (if bt448.1 = 0 then (segment_elder.j1 k x0 x1 x6 bt448.1 bt448.2 true) else (if bt448.1 > (wrap64 ((x1.length : Int) - bt448.2)) then (segment_elder.j1 k x0 x1 x6 bt448.1 bt448.2 true) else (if 0 ≤ bt448.2 then (if bt448.2 < (x1.length : Int) then (segment_elder.j1 k x0 x1 x6 bt448.1 bt448.2 ((rd x1 bt448.2) != ((x0) % 256))) else (none)) else (none)))))) else (some (x6, true))
def segment_elder.j1 : Nat → Int → List Int → List (S62) → Int → Int → Bool → Option ((List (S62)) × Bool)
  | 0, _, _, _, _, _, _ => none
  | k + 1, x0, x1, x6, x7, x8, x41 => if x41 = true then (some (([] : List (S62)), false)) else (if 0 ≤ x8 then (if x8 ≤ (wrap64 (x8 + x7)) then (if (wrap64 (x8 + x7)) ≤ (x1.length : Int) then ((schema_Decode.f k ((x1.take ((wrap64 (x8 + x7)) : Int).toNat).drop (x8 : Int).toNat)).bind fun bt456 => (if bt456.2.2.2.2.2.2.2 = 0 then (if x6.length < 2513169434916 then (if 0 ≤ (wrap64 (x8 + x7)) then (segment_elder.l0 k x0 (x1.drop ((wrap64 (x8 + x7)) : Int).toNat) (x6 ++ [(⟨bt456.1, bt456.2.1, bt456.2.2.1, (⟨bt456.2.2.2.1, bt456.2.2.2.2.1, bt456.2.2.2.2.2.1⟩ : S38), bt456.2.2.2.2.2.2.1⟩ : S62)])) else (none)) else (none)) else (some (([] : List (S62)), false)))) else (none)) else (none)) else (none))
end
def segment_elder.f (k : Nat) (a0 : Int) (l1 : List Int) : Option ((List (S62)) × Bool) := segment_elder.l0 k a0 l1 ([] : List (S62))
def segment_elder.T9 : Bool × List (List Nat × List Nat) := (true, [([], []), ([], []), ([1], [1]), ([0, 2], [0, 2]), ([], []), ([], []), ([], []), ([5, 6], [5, 6]), ([4, 7], [4, 7]), ([3, 3, 0, 1, 2, 3], [0, 3]), ([8, 9, 0, 1, 2, 3, 4, 5, 6, 7, 8, 9], [4, 8])])
def segment_elder.B9 : List Nat := [0, 0, 2, 7, 0, 0, 0, 96, 240, 15, 1023]
theorem segment_elder.tab9 : rtab .any (opsOf Tryz.f134 9) = segment_elder.T9 := by kernel_rfl
theorem segment_elder.bits9 : waitsOk segment_elder.T9.2 segment_elder.B9 = true := by kernel_rfl
set_option maxHeartbeats 8000000 in
set_option maxRecDepth 100000 in
theorem segment_elder.calls (k : Nat) (a0 : Int) (P1_ : Nat → Prop) (A1 : Option Addr) (c1 : Nat) (l1 : List Int) (r1 : List (S62)) (r2 : Bool) (w : World) (hs1 : Kd.V (Kd.int .u8) 5 w w.heap.size (fun k_ => P1_ k_) (.slice A1 l1.length c1) l1) (h : segment_elder.f k a0 l1 = some (r1, r2)) :
    Calls Tryz.prog 134 #[.int .i64 a0, .slice A1 l1.length c1] w fun e w' => ∃ v0_ : Value, e = .returned (.tuple #[v0_, .bool r2]) ∧ Kd.R k62 62 w' w.heap.size (fun k_ => (w.heap.size ≤ k_)) v0_ r1 ∧ Below w.heap.size w w' := by
  have hu62 := Tryz.underlying62
  have HO1 := Aside0.mk (show Kd.V (Kd.int .u8) 5 w w.heap.size (fun k_ => (P1_ k_ ∨ w.heap.size ≤ k_)) (.slice A1 l1.length c1) l1 from Kd.V_mono hs1 (fun k_ hk => .inl hk))
  have HB := Aside0.mk (Below.refl w.heap.size w)
  have H : (segment_elder.l0 k a0 l1 ([] : List (S62))) = some (r1, r2) := h
  clear h
  have H' := Aside0.mk H
  clear H
  go_enter Tryz.func134, Tryz.ntmps134
  go_wp2
  go_loopg [1, 6] k (fun kq v1 v6 w' => ∃ (x1_1 : List Int) (x6_1 : List (S62)), Aside0 (segment_elder.l0 kq a0 x1_1 x6_1 = some (r1, r2)) ∧ Aside0 (kq ≤ k) ∧ Aside0 (Kd.V (Kd.int .u8) 5 w' w.heap.size (fun k_ => (P1_ k_ ∨ w.heap.size ≤ k_) ∧ some k_ ≠ (v6 : Value).ownBlock) v1 x1_1) ∧ Aside0 (Kd.R k62 62 w' w.heap.size (fun k_ => (w.heap.size ≤ k_)) v6 x6_1) ∧ Aside0 (Below w.heap.size w w'))
  case atStart => exact ⟨(l1), (([] : List (S62))), H', ⟨Nat.le_refl _⟩, ⟨by (with_reducible repeat (first | apply Kd.V_alloc | apply Kd.V_drewN | apply Kd.V_drew)); exact Kd.V_mono HO1.out (fun _ hk => ⟨hk, (by simp [Value.ownBlock])⟩)⟩, ⟨by first | exact Kd.R_nil _ _ _ _ _ | exact Kd.N_nil _ _ _ _ _ | exact Kd.V_nil _ _ _ _ _ | exact Kd.Q_nil _ _ _ _ _ | exact Kd.S_nil _ _ _ _ _⟩, ⟨by repeat (first | (with_reducible first | exact HB.out | apply below_alloc | apply pw_below_drewN | apply below_drew1) | exact HB.out)⟩⟩
  case round =>
    clear H'
    try clear c1
    try clear p2
    obtain ⟨x1_1, x6_1, HA, HK1, HO_1, HO_6, HB⟩ := hrel
    cases gk with
    | zero => exact absurd HA.out (by simp [segment_elder.l0])
    | succ k1 =>
      have H := HA.out
      clear HA
      simp only [segment_elder.l0] at H
      by_cases c3 : (x1_1.length : Int) > 0
      · rw [if_pos c3] at H
        have c3b0 : decide (0 < (x1_1.length : Int)) = true := decide_eq_true c3
        have c3b1 : decide (0 < x1_1.length) = true := decide_eq_true (by omega)
        clear c3
        replace H := Option.bind_eq_some_iff.mp H
        obtain ⟨⟨t448, t449⟩, A40, H⟩ := H
        replace H : (if t449 = 0 then (segment_elder.j1 k1 a0 x1_1 x6_1 t448 t449 true) else (if t448 = 0 then (segment_elder.j1 k1 a0 x1_1 x6_1 t448 t449 true) else (if t448 > (wrap64 ((x1_1.length : Int) - t449)) then (segment_elder.j1 k1 a0 x1_1 x6_1 t448 t449 true) else (if 0 ≤ t449 then (if t449 < (x1_1.length : Int) then (segment_elder.j1 k1 a0 x1_1 x6_1 t448 t449 ((rd x1_1 t449) != ((a0) % 256))) else (none)) else (none))))) = some (r1, r2) := H
        have A4 := Aside0.mk A40
        clear A40
        have HC5 := Aside0.mk H
        clear H
        obtain ⟨Ao6, co6, eo6⟩ := Kd.V_slice HO_1.out
        subst eo6
        go_upto_region 4 with (first | ((with_reducible refine gate_callee (f := 132) rfl ?_); refine goesL_ (some 16) rfl rfl Tryz.func132 (by kernel_rfl) rfl #[.slice Ao6 x1_1.length co6] rfl (by (try simp only [List.map_toArray, List.map_cons, List.map_nil]); first | done | rfl | (simp only [List.length_drop, List.length_take]; rfl)) ?_; (with_reducible refine (num_Get.calls k1 _ _ x1_1 t448 t449 _ ?side1 ?side2 A4.out).mono ?_); (case side1 => repeat (first | exact (Kd.V_reads' HO_1.out).2.2 | (with_reducible refine Kd.C_alloc ?_ _) | (with_reducible refine Kd.C_drewN ?_ _) | (with_reducible refine Kd.C_drew ?_))); (case side2 => exact (Kd.V_reads' HO_1.out).2.1); rintro e w7 ⟨rfl, hb⟩; refine ⟨_, rfl, ?_⟩; have n0_ := Aside0.mk (Kd.V_below (by (with_reducible repeat (first | apply Kd.V_alloc | apply Kd.V_drewN | apply Kd.V_drew)); exact HO_1.out) hb); have n1_ := Aside0.mk (Kd.R_below (by (with_reducible repeat (first | apply Kd.R_alloc | apply Kd.R_drewN | apply Kd.R_drew)); exact HO_6.out) hb); have n2_ := Aside0.mk (below_step (by repeat (first | (with_reducible first | exact HB.out | apply below_alloc | apply pw_below_drewN | apply below_drew1) | exact HB.out)) hb); clear HO_1; clear HO_6; clear HB; have HO_1 := n0_; have HO_6 := n1_; have HB := n2_; clear n0_ n1_ n2_; (try clear hb); (try clear hb2); (try clear hk); (try clear hi)))
        (try simp only [Act.put, List.setIfInBounds_toArray, List.set_cons_zero, List.set_cons_succ])
        go_cut [41] (fun v41 wc => ∃ (kq : Nat) (x41_4 : Bool), v41 = .bool x41_4 ∧ Aside0 (segment_elder.j1 kq a0 x1_1 x6_1 t448 t449 x41_4 = some (r1, r2)) ∧ Aside0 (kq ≤ k1) ∧ Aside0 (Kd.V (Kd.int .u8) 5 wc w.heap.size (fun k_ => (P1_ k_ ∨ w.heap.size ≤ k_) ∧ some k_ ≠ (u6 : Value).ownBlock) (.slice Ao6 x1_1.length co6) x1_1) ∧ Aside0 (Kd.R k62 62 wc w.heap.size (fun k_ => (w.heap.size ≤ k_)) u6 x6_1) ∧ Aside0 (Below w.heap.size w wc))
        case first =>
          have H := HC5.out
          clear HC5
          by_cases c8 : t449 = 0
          · rw [if_pos c8] at H
            have c8b0 : (t449 == 0) = true := beq_iff_eq.mpr c8
            have c8b1 : (t449 != 0) = false := bne_eq_false_iff_eq.mpr c8
            clear c8
            (first | rw [c8b0] | rw [c8b1] | (simp only [i64_w, i32_w]; rw [c8b0]) | skip)
            have H' := Aside0.mk H
            clear H
            go_wp2
            go_meet
            case rel => exact ⟨_, (true), (by first | rfl | (simp; done) | (simp [*]; done)), H', ⟨by have := HK1.out; first | omega | exact Nat.le_refl _⟩, ⟨by (with_reducible repeat (first | apply Kd.V_alloc | apply Kd.V_drewN | apply Kd.V_drew)); exact HO_1.out⟩, ⟨by (with_reducible repeat (first | apply Kd.R_alloc | apply Kd.R_drewN | apply Kd.R_drew)); exact HO_6.out⟩, ⟨by repeat (first | (with_reducible first | exact HB.out | apply below_alloc | apply pw_below_drewN | apply below_drew1) | exact HB.out)⟩⟩
          · rw [if_neg c8] at H
            have c8b0 : (t449 == 0) = false := beq_eq_false_iff_ne.mpr c8
            have c8b1 : (t449 != 0) = true := bne_iff_ne.mpr c8
            (first | rw [c8b0] | rw [c8b1] | (simp only [i64_w, i32_w]; rw [c8b0]) | skip)
            by_cases c9 : t448 = 0
            · rw [if_pos c9] at H
              have c9b0 : (t448 == 0) = true := beq_iff_eq.mpr c9
              have c9b1 : (t448 != 0) = false := bne_eq_false_iff_eq.mpr c9
              clear c9
              have H' := Aside0.mk H
              clear H
              go_wp2
              go_meet
              case rel => exact ⟨_, (true), (by first | rfl | (simp; done) | (simp [*]; done)), H', ⟨by have := HK1.out; first | omega | exact Nat.le_refl _⟩, ⟨by (with_reducible repeat (first | apply Kd.V_alloc | apply Kd.V_drewN | apply Kd.V_drew)); exact HO_1.out⟩, ⟨by (with_reducible repeat (first | apply Kd.R_alloc | apply Kd.R_drewN | apply Kd.R_drew)); exact HO_6.out⟩, ⟨by repeat (first | (with_reducible first | exact HB.out | apply below_alloc | apply pw_below_drewN | apply below_drew1) | exact HB.out)⟩⟩
            · rw [if_neg c9] at H
              have c9b0 : (t448 == 0) = false := beq_eq_false_iff_ne.mpr c9
              have c9b1 : (t448 != 0) = true := bne_iff_ne.mpr c9
              by_cases c10 : t448 > (wrap64 ((x1_1.length : Int) - t449))
              · rw [if_pos c10] at H
                have c10b0 : decide ((wrap64 ((x1_1.length : Int) - t449)) < t448) = true := decide_eq_true c10
                clear c10
                have H' := Aside0.mk H
                clear H
                go_wp2
                go_meet
                case rel => exact ⟨_, (true), (by first | rfl | (simp; done) | (simp [*]; done)), H', ⟨by have := HK1.out; first | omega | exact Nat.le_refl _⟩, ⟨by (with_reducible repeat (first | apply Kd.V_alloc | apply Kd.V_drewN | apply Kd.V_drew)); exact HO_1.out⟩, ⟨by (with_reducible repeat (first | apply Kd.R_alloc | apply Kd.R_drewN | apply Kd.R_drew)); exact HO_6.out⟩, ⟨by repeat (first | (with_reducible first | exact HB.out | apply below_alloc | apply pw_below_drewN | apply below_drew1) | exact HB.out)⟩⟩
              · rw [if_neg c10] at H
                have c10b0 : decide ((wrap64 ((x1_1.length : Int) - t449)) < t448) = false := decide_eq_false c10
                clear c10
                by_cases c11 : 0 ≤ t449
                · rw [if_pos c11] at H
                  have c11b0 : decide (0 ≤ t449) = true := decide_eq_true c11
                  clear c11
                  by_cases c12 : t449 < (x1_1.length : Int)
                  · rw [if_pos c12] at H
                    have c12b0 : decide (t449 < (x1_1.length : Int)) = true := decide_eq_true c12
                    clear c12
                    have H' := Aside0.mk H
                    clear H
                    have p450 : 0 ≤ (t449 : Int) := of_decide_eq_true (by first | (with_reducible assumption) | assumption)
                    have q450 : t449 < (x1_1.length : Int) := of_decide_eq_true (by first | (with_reducible assumption) | assumption)
                    obtain ⟨ad450, e450, hx450_0⟩ := Kd.at_int (Kd.V_reads' HO_1.out).2.2 t449 p450 q450
                    cases e450
                    replace p450 := eq_true p450
                    replace q450 := eq_true q450
                    go_wp2
                    go_meet
                    case rel => exact ⟨_, (((rd x1_1 t449) != ((a0) % 256))), (by first | rfl | (simp; done) | (simp [*]; done)), H', ⟨by have := HK1.out; first | omega | exact Nat.le_refl _⟩, ⟨by (with_reducible repeat (first | apply Kd.V_alloc | apply Kd.V_drewN | apply Kd.V_drew)); exact HO_1.out⟩, ⟨by (with_reducible repeat (first | apply Kd.R_alloc | apply Kd.R_drewN | apply Kd.R_drew)); exact HO_6.out⟩, ⟨by repeat (first | (with_reducible first | exact HB.out | apply below_alloc | apply pw_below_drewN | apply below_drew1) | exact HB.out)⟩⟩
                  · rw [if_neg c12] at H
                    exact absurd H (by simp)
                · rw [if_neg c11] at H
                  exact absurd H (by simp)
        case rest =>
          clear HC5
          try clear c1
          try clear p2
          try clear c3
          try clear c3b0
          try clear c3b1
          try clear p4
          try clear q4
          try clear hx4
          try clear p6
          try clear c8
          try clear c8b0
          try clear c8b1
          try clear c9
          try clear c9b0
          try clear c9b1
          try clear c10
          try clear c10b0
          try clear c11
          try clear c11b0
          try clear c12
          try clear c12b0
          try clear hx450_0
          try clear p2
          try clear p450
          try clear q450
          obtain ⟨kq, x41_4, rfl, HA, HJ4, HO_1, HO_6, HB⟩ := hcut
          cases kq with
          | zero => exact absurd HA.out (by simp [segment_elder.j1])
          | succ kj4 =>
            have H := HA.out
            clear HA
            simp only [segment_elder.j1] at H
            by_cases c13 : x41_4 = true
            · subst c13
              have H1 : (some (([] : List (S62)), false)) = some (r1, r2) := by rw [if_pos rfl] at H; exact H
              clear H
              have H := H1
              clear H1
              simp only [Option.some.injEq, Prod.mk.injEq] at H
              obtain ⟨rfl, rfl⟩ := H
              go_wp2
              go_ret2
              exact ⟨_, by first | rfl | (simp [errW_none, errW_some] <;> rfl) | (simp [*, errW_none, errW_some] <;> rfl), by first | exact Kd.R_nil _ _ _ _ _ | exact Kd.N_nil _ _ _ _ _ | exact Kd.V_nil _ _ _ _ _ | exact Kd.Q_nil _ _ _ _ _ | exact Kd.S_nil _ _ _ _ _, by repeat (first | (with_reducible first | exact HB.out | apply below_alloc | apply pw_below_drewN | apply below_drew1) | exact HB.out)⟩
            · replace c13 := Bool.eq_false_iff.mpr c13
              subst c13
              have H1 : (if 0 ≤ t449 then (if t449 ≤ (wrap64 (t449 + t448)) then (if (wrap64 (t449 + t448)) ≤ (x1_1.length : Int) then ((schema_Decode.f kj4 ((x1_1.take ((wrap64 (t449 + t448)) : Int).toNat).drop (t449 : Int).toNat)).bind fun bt456 => (if bt456.2.2.2.2.2.2.2 = 0 then (if x6_1.length < 2513169434916 then (if 0 ≤ (wrap64 (t449 + t448)) then (segment_elder.l0 kj4 a0 (x1_1.drop ((wrap64 (t449 + t448)) : Int).toNat) (x6_1 ++ [(⟨bt456.1, bt456.2.1, bt456.2.2.1, (⟨bt456.2.2.2.1, bt456.2.2.2.2.1, bt456.2.2.2.2.2.1⟩ : S38), bt456.2.2.2.2.2.2.1⟩ : S62)])) else (none)) else (none)) else (some (([] : List (S62)), false)))) else (none)) else (none)) else (none)) = some (r1, r2) := by rw [if_neg (show ¬ (false = true) by decide)] at H; exact H
              clear H
              have H := H1
              clear H1
              by_cases c14 : 0 ≤ t449
              · rw [if_pos c14] at H
                have c14b0 := eq_true c14
                have c14b1 : decide (0 ≤ t449) = true := decide_eq_true c14
                clear c14
                by_cases c15 : t449 ≤ (wrap64 (t449 + t448))
                · rw [if_pos c15] at H
                  have c15b0 := eq_true c15
                  have c15b1 : decide (t449 ≤ (wrap64 (t449 + t448))) = true := decide_eq_true c15
                  by_cases c16 : (wrap64 (t449 + t448)) ≤ (x1_1.length : Int)
                  · rw [if_pos c16] at H
                    have c16b0 := eq_true c16
                    have c16b1 : decide ((wrap64 (t449 + t448)) ≤ (x1_1.length : Int)) = true := decide_eq_true c16
                    obtain ⟨y451, hy451⟩ : ∃ y_ : List Int, y_ = ((x1_1.take ((wrap64 (t449 + t448)) : Int).toNat).drop (t449 : Int).toNat) := ⟨_, rfl⟩
                    replace H : ((schema_Decode.f kj4 y451).bind fun bt456 => (if bt456.2.2.2.2.2.2.2 = 0 then (if x6_1.length < 2513169434916 then (if 0 ≤ (wrap64 (t449 + t448)) then (segment_elder.l0 kj4 a0 (x1_1.drop ((wrap64 (t449 + t448)) : Int).toNat) (x6_1 ++ [(⟨bt456.1, bt456.2.1, bt456.2.2.1, (⟨bt456.2.2.2.1, bt456.2.2.2.2.1, bt456.2.2.2.2.2.1⟩ : S38), bt456.2.2.2.2.2.2.1⟩ : S62)])) else (none)) else (none)) else (some (([] : List (S62)), false)))) = some (r1, r2) := by first | (rw [hy451]; with_reducible exact H) | (have H2_ := (Option.bind_some _ _).symm.trans H; rw [hy451]; with_reducible exact H2_) | (have H2_ := (Option.bind_some _ _).symm.trans H; with_reducible exact H2_) | with_reducible exact H | (rw [hy451]; exact H) | exact H
                    have Ny451 := Aside0.mk hy451
                    clear hy451
                    replace H := Option.bind_eq_some_iff.mp H
                    obtain ⟨⟨t456, t457, t458, t459, t460, t461, t462, t463⟩, A170, H⟩ := H
                    replace H : (if t463 = 0 then (if x6_1.length < 2513169434916 then (if 0 ≤ (wrap64 (t449 + t448)) then (segment_elder.l0 kj4 a0 (x1_1.drop ((wrap64 (t449 + t448)) : Int).toNat) (x6_1 ++ [(⟨t456, t457, t458, (⟨t459, t460, t461⟩ : S38), t462⟩ : S62)])) else (none)) else (none)) else (some (([] : List (S62)), false))) = some (r1, r2) := H
                    have A17 := Aside0.mk A170
                    clear A170
                    by_cases c18 : t463 = 0
                    · rw [if_pos c18] at H
                      have c18b0 : (t463 == 0) = true := beq_iff_eq.mpr c18
                      have c18b1 : (t463 != 0) = false := bne_eq_false_iff_eq.mpr c18
                      clear c18
                      by_cases c19 : x6_1.length < 2513169434916
                      · rw [if_pos c19] at H
                        have LMc19 := Aside0.mk c19
                        clear c19
                        obtain ⟨y465, hy465⟩ : ∃ y_ : List (S62), y_ = (x6_1 ++ [(⟨t456, t457, t458, (⟨t459, t460, t461⟩ : S38), t462⟩ : S62)]) := ⟨_, rfl⟩
                        replace H : (if 0 ≤ (wrap64 (t449 + t448)) then (segment_elder.l0 kj4 a0 (x1_1.drop ((wrap64 (t449 + t448)) : Int).toNat) y465) else (none)) = some (r1, r2) := by first | (rw [hy465]; with_reducible exact H) | (have H2_ := (Option.bind_some _ _).symm.trans H; rw [hy465]; with_reducible exact H2_) | (have H2_ := (Option.bind_some _ _).symm.trans H; with_reducible exact H2_) | with_reducible exact H | (rw [hy465]; exact H) | exact H
                        have Ny465 := Aside0.mk hy465
                        clear hy465
                        obtain ⟨ji20, hji20⟩ : ∃ j_ : Int, (wrap64 (t449 + t448)) = j_ := ⟨_, rfl⟩
                        replace H : (if 0 ≤ (ji20) then (segment_elder.l0 kj4 a0 (x1_1.drop ((ji20) : Int).toNat) y465) else (none)) = some (r1, r2) := by first | (rw [hji20] at H; exact H) | (simp only [hji20] at H ⊢; exact H)
                        (try rw [hji20] at c15b0)
                        (try rw [hji20] at c15b1)
                        (try rw [hji20] at c15)
                        (try rw [hji20] at c16b0)
                        (try rw [hji20] at c16b1)
                        (try rw [hji20] at c16)
                        (try rw [hji20] at Ny451)
                        (try rw [hji20] at A17)
                        have hji20w : (IntKind.i64.wrap (t449 + t448)) = ji20 := (i64_w _).trans hji20
                        by_cases c21 : 0 ≤ (ji20)
                        · rw [if_pos c21] at H
                          have c21b0 := eq_true c21
                          have c21b1 : decide (0 ≤ (ji20)) = true := decide_eq_true c21
                          clear c21
                          have c22b0 := eq_true (of_decide_eq_true (by first | (with_reducible assumption) | assumption) : (ji20) ≤ (x1_1.length : Int))
                          obtain ⟨y468, hy468⟩ : ∃ y_ : List Int, y_ = (x1_1.drop ((ji20) : Int).toNat) := ⟨_, rfl⟩
                          replace H : (segment_elder.l0 kj4 a0 y468 y465) = some (r1, r2) := by first | (rw [hy468]; with_reducible exact H) | (have H2_ := (Option.bind_some _ _).symm.trans H; rw [hy468]; with_reducible exact H2_) | (have H2_ := (Option.bind_some _ _).symm.trans H; with_reducible exact H2_) | with_reducible exact H | (rw [hy468]; exact H) | exact H
                          have Ny468 := Aside0.mk hy468
                          clear hy468
                          have H' := Aside0.mk H
                          clear H
                          have q23 : ((ji20) : Int) ≤ ((x1_1.length : Int) : Int) := of_decide_eq_true (by first | (with_reducible assumption) | assumption)
                          obtain ⟨i023, hi023, _, hsz23, _⟩ := info_parts info5
                          have hroom23 : x1_1.length ≤ co6 := (Kd.V_reads' HO_1.out).2.1
                          have hC23 : Kd.F (Kd.int .u8) _ _ Ao6 x1_1.length x1_1 := (Kd.V_at (base := w.heap.size) HO_1.out).2.2
                          have ql23 : (t449 : Int) ≤ ((ji20) : Int) := of_decide_eq_true (by first | (with_reducible assumption) | assumption)
                          have q023 : (0 : Int) ≤ (t449 : Int) := of_decide_eq_true (by first | (with_reducible assumption) | assumption)
                          have hcut23 := cut_mid (P := Tryz.prog) 26 5 .i64 .i64 Tryz.underlying26 hi023 1 hsz23 Ao6 x1_1.length co6 t449 (ji20) q023 ql23 q23 hroom23
                          have hr23 := Kd.F_mid (lo := (t449 : Int).toNat) (hi := ((ji20) : Int).toNat) (c := co6) hC23 (by omega) (by omega) hroom23
                          obtain ⟨A23, hA23⟩ : ∃ A1, A1 = (if co6 = (t449 : Int).toNat then Ao6 else (Ao6 : Option Addr).map (·.add ((t449 : Int).toNat * 1))) := ⟨_, rfl⟩
                          obtain ⟨c23, hc23⟩ : ∃ c1, c1 = co6 - (t449 : Int).toNat := ⟨_, rfl⟩
                          have hy23 : y451.length = ((ji20) : Int).toNat - (t449 : Int).toNat := (by rw [Ny451.out, List.length_drop, List.length_take] <;> omega)
                          rw [show ((x1_1).take ((ji20) : Int).toNat).drop (t449 : Int).toNat = y451 from Ny451.out.symm] at hr23
                          replace hr23 : Kd.F (Kd.int .u8) _ _ A23 y451.length y451 := (by rw [hA23]; exact hr23)
                          rw [← hy23, ← hA23, ← hc23] at hcut23
                          have HO455 := Aside0.mk (show Kd.V (Kd.int .u8) 5 _ w.heap.size _ (.slice A23 y451.length c23) y451 from Kd.V_mk (by rw [hy23, hc23]; exact Nat.sub_le_sub_right (Nat.le_trans (by omega) hroom23) _) hr23)
                          have HC455 := Aside0.mk (show y451.length ≤ c23 from by rw [hy23, hc23]; exact Nat.sub_le_sub_right (Nat.le_trans (by omega) hroom23) _)
                          clear hr23 hC23 hroom23 hi023 hsz23 hc23
                          have KY23 := Aside0.mk hy23
                          have KA23 := Aside0.mk hA23
                          clear hy23 hA23
                          replace q23 := eq_true q23
                          have tok1_ : True := trivial
                          try go_wp2_with (first | ((with_reducible refine gate_callee (f := 158) rfl ?_); clear tok1_; refine goesL_ (some 49) rfl rfl Tryz.func158 (by kernel_rfl) rfl #[.slice A23 y451.length c23] rfl (by (try simp only [List.map_toArray, List.map_cons, List.map_nil]); first | done | rfl | (simp only [List.length_drop, List.length_take]; rfl)) ?_; (with_reducible refine (schema_Decode.calls kj4 _ _ y451 t456 t457 t458 t459 t460 t461 t462 t463 _ ?side1 ?side2 A17.out).mono ?_); (case side1 => repeat (first | exact (Kd.V_reads' HO455.out).2.2 | (with_reducible refine Kd.C_alloc ?_ _) | (with_reducible refine Kd.C_drewN ?_ _) | (with_reducible refine Kd.C_drew ?_))); (case side2 => exact (Kd.V_reads' HO455.out).2.1); rintro e w24 ⟨rfl, hb⟩; refine ⟨_, rfl, ?_⟩; have n0_ := Aside0.mk (Kd.V_below (by (with_reducible repeat (first | apply Kd.V_alloc | apply Kd.V_drewN | apply Kd.V_drew)); exact HO_1.out) hb); have n1_ := Aside0.mk (Kd.R_below (by (with_reducible repeat (first | apply Kd.R_alloc | apply Kd.R_drewN | apply Kd.R_drew)); exact HO_6.out) hb); have n2_ := Aside0.mk (Kd.V_below (by (with_reducible repeat (first | apply Kd.V_alloc | apply Kd.V_drewN | apply Kd.V_drew)); exact HO455.out) hb); have n3_ := Aside0.mk (below_step (by repeat (first | (with_reducible first | exact HB.out | apply below_alloc | apply pw_below_drewN | apply below_drew1) | exact HB.out)) hb); clear HO_1; clear HO_6; clear HO455; clear HB; have HO_1 := n0_; have HO_6 := n1_; have HO455 := n2_; have HB := n3_; clear n0_ n1_ n2_ n3_; (try clear hb); (try clear hb2); (try clear hk); (try clear hi)) | ((with_reducible refine gate_dst (N := 9) rfl ?_); (try (refine gate_guard (by rfl) ?_; dsimp only)); refine box_event ?hg (N := 9) ?hd (cs := #[.int .i64 0, .int .i64 0, .int .i64 0, .int .i64 0, .int .i64 0, .int .i64 0, .int .i64 0]) (t := 62) ?hr ?_; (case hd => rfl); (case hg => rfl); (case hr => first | (go_simp; done) | (go_simp; rfl)); intro gb464 hg w25 hbox hb; have n0_ := Aside0.mk (Kd.V_below (Kd.V_elderB (by (with_reducible repeat (first | apply Kd.V_alloc | apply Kd.V_drewN | apply Kd.V_drew)); exact HO_1.out) gb464 (Nat.le_of_eq hg.symm)) hb); have n1_ := Aside0.mk (Kd.R_below (Kd.R_elderB (by (with_reducible repeat (first | apply Kd.R_alloc | apply Kd.R_drewN | apply Kd.R_drew)); exact HO_6.out) gb464 (Nat.le_of_eq hg.symm)) hb); have n2_ := Aside0.mk (Kd.V_below (Kd.V_elderB (by (with_reducible repeat (first | apply Kd.V_alloc | apply Kd.V_drewN | apply Kd.V_drew)); exact HO455.out) gb464 (Nat.le_of_eq hg.symm)) hb); have n3_ := Aside0.mk (below_step (by repeat (first | (with_reducible first | exact HB.out | apply below_alloc | apply pw_below_drewN | apply below_drew1) | exact HB.out)) hb); have n4_ := Aside0.mk (hbox); have n5_ := Aside0.mk ((by rw [hg]; exact (below_size (by repeat (first | (with_reducible first | exact HB.out | apply below_alloc | apply pw_below_drewN | apply below_drew1) | exact HB.out))) : w.heap.size ≤ gb464)); have n6_ := Aside0.mk ((by rw [hg]; exact (below_size (by repeat (first | (with_reducible first | exact HB.out | apply below_alloc | apply pw_below_drewN | apply below_drew1) | exact HB.out))) : w.heap.size ≤ gb464)); clear HO_1; clear HO_6; clear HO455; clear HB; have HO_1 := n0_; have HO_6 := n1_; have HO455 := n2_; have HB := n3_; have BK464 := n4_; have GW464 := n5_; have GE464 := n6_; clear n0_ n1_ n2_ n3_ n4_ n5_ n6_; clear hb hbox hg; have hcz26_0 : w25.cell? ⟨gb464, 0, none⟩ = some (.int .i64 0) := (blk_cell BK464.out 0).trans rfl; have hcz26_1 : w25.cell? ⟨gb464, 1, none⟩ = some (.int .i64 0) := (blk_cell BK464.out 1).trans rfl; have hcz26_2 : w25.cell? ⟨gb464, 2, none⟩ = some (.int .i64 0) := (blk_cell BK464.out 2).trans rfl; have hcz26_3 : w25.cell? ⟨gb464, 3, none⟩ = some (.int .i64 0) := (blk_cell BK464.out 3).trans rfl; have hcz26_4 : w25.cell? ⟨gb464, 4, none⟩ = some (.int .i64 0) := (blk_cell BK464.out 4).trans rfl; have hcz26_5 : w25.cell? ⟨gb464, 5, none⟩ = some (.int .i64 0) := (blk_cell BK464.out 5).trans rfl; have hcz26_6 : w25.cell? ⟨gb464, 6, none⟩ = some (.int .i64 0) := (blk_cell BK464.out 6).trans rfl; have hfz26_0 := blk_frozen BK464.out 0; have hfz26_1 := blk_frozen BK464.out 1; have hfz26_2 := blk_frozen BK464.out 2; have hfz26_3 := blk_frozen BK464.out 3; have hfz26_4 := blk_frozen BK464.out 4; have hfz26_5 := blk_frozen BK464.out 5; have hfz26_6 := blk_frozen BK464.out 6))
                          have n0_ : Aside0 (Kd.V (Kd.int .u8) 5 (((((((w25.setCell ⟨gb464, 0, none⟩ (.int .i64 t456)).setCell ⟨gb464, 1, none⟩ (.int .i64 t457)).setCell ⟨gb464, 2, none⟩ (.int .i64 t458)).setCell ⟨gb464, 3, none⟩ (.int .i64 t459)).setCell ⟨gb464, 4, none⟩ (.int .i64 t460)).setCell ⟨gb464, 5, none⟩ (.int .i64 t461)).setCell ⟨gb464, 6, none⟩ (.int .i64 t462)) w.heap.size (fun k_ => (P1_ k_ ∨ w.heap.size ≤ k_) ∧ some k_ ≠ (u6 : Value).ownBlock ∧ k_ ≠ gb464) (.slice Ao6 x1_1.length co6) x1_1) := ⟨by (with_reducible repeat (first | apply Kd.V_alloc | apply Kd.V_drewN | apply Kd.V_drew)); exact Kd.V_mono (Kd.V_far (p := ⟨gb464, 6, none⟩) (Kd.V_far (p := ⟨gb464, 5, none⟩) (Kd.V_far (p := ⟨gb464, 4, none⟩) (Kd.V_far (p := ⟨gb464, 3, none⟩) (Kd.V_far (p := ⟨gb464, 2, none⟩) (Kd.V_far (p := ⟨gb464, 1, none⟩) (Kd.V_far (p := ⟨gb464, 0, none⟩) (Kd.V_mono HO_1.out (fun k_ hk => (⟨hk, hk.2⟩ : _ ∧ k_ ≠ gb464))) (fun _ hk => hk.2) (.int .i64 t456)) (fun _ hk => hk.2) (.int .i64 t457)) (fun _ hk => hk.2) (.int .i64 t458)) (fun _ hk => hk.2) (.int .i64 t459)) (fun _ hk => hk.2) (.int .i64 t460)) (fun _ hk => hk.2) (.int .i64 t461)) (fun _ hk => hk.2) (.int .i64 t462)) (fun _ hk => ⟨hk.1.1.1, ⟨hk.1.1.2, hk.1.2⟩⟩)⟩
                          have n1_ : Aside0 (Kd.R k62 62 (((((((w25.setCell ⟨gb464, 0, none⟩ (.int .i64 t456)).setCell ⟨gb464, 1, none⟩ (.int .i64 t457)).setCell ⟨gb464, 2, none⟩ (.int .i64 t458)).setCell ⟨gb464, 3, none⟩ (.int .i64 t459)).setCell ⟨gb464, 4, none⟩ (.int .i64 t460)).setCell ⟨gb464, 5, none⟩ (.int .i64 t461)).setCell ⟨gb464, 6, none⟩ (.int .i64 t462)) w.heap.size (fun k_ => (w.heap.size ≤ k_) ∧ k_ ≠ gb464) u6 x6_1) := ⟨by (with_reducible repeat (first | apply Kd.R_alloc | apply Kd.R_drewN | apply Kd.R_drew)); exact Kd.R_mono (Kd.R_far (p := ⟨gb464, 6, none⟩) (Kd.R_far (p := ⟨gb464, 5, none⟩) (Kd.R_far (p := ⟨gb464, 4, none⟩) (Kd.R_far (p := ⟨gb464, 3, none⟩) (Kd.R_far (p := ⟨gb464, 2, none⟩) (Kd.R_far (p := ⟨gb464, 1, none⟩) (Kd.R_far (p := ⟨gb464, 0, none⟩) (Kd.R_mono HO_6.out (fun k_ hk => (⟨hk, hk.2⟩ : _ ∧ k_ ≠ gb464))) (fun _ hk => hk.2) (.int .i64 t456)) (fun _ hk => hk.2) (.int .i64 t457)) (fun _ hk => hk.2) (.int .i64 t458)) (fun _ hk => hk.2) (.int .i64 t459)) (fun _ hk => hk.2) (.int .i64 t460)) (fun _ hk => hk.2) (.int .i64 t461)) (fun _ hk => hk.2) (.int .i64 t462)) (fun _ hk => ⟨hk.1.1, hk.1.2⟩)⟩
                          have n2_ : Aside0 (Kd.V (Kd.int .u8) 5 (((((((w25.setCell ⟨gb464, 0, none⟩ (.int .i64 t456)).setCell ⟨gb464, 1, none⟩ (.int .i64 t457)).setCell ⟨gb464, 2, none⟩ (.int .i64 t458)).setCell ⟨gb464, 3, none⟩ (.int .i64 t459)).setCell ⟨gb464, 4, none⟩ (.int .i64 t460)).setCell ⟨gb464, 5, none⟩ (.int .i64 t461)).setCell ⟨gb464, 6, none⟩ (.int .i64 t462)) w.heap.size (fun k_ => (P1_ k_ ∨ w.heap.size ≤ k_) ∧ some k_ ≠ (u6 : Value).ownBlock ∧ k_ ≠ gb464) (.slice A23 y451.length c23) y451) := ⟨by (with_reducible repeat (first | apply Kd.V_alloc | apply Kd.V_drewN | apply Kd.V_drew)); exact Kd.V_mono (Kd.V_far (p := ⟨gb464, 6, none⟩) (Kd.V_far (p := ⟨gb464, 5, none⟩) (Kd.V_far (p := ⟨gb464, 4, none⟩) (Kd.V_far (p := ⟨gb464, 3, none⟩) (Kd.V_far (p := ⟨gb464, 2, none⟩) (Kd.V_far (p := ⟨gb464, 1, none⟩) (Kd.V_far (p := ⟨gb464, 0, none⟩) (Kd.V_mono HO455.out (fun k_ hk => (⟨hk, hk.2⟩ : _ ∧ k_ ≠ gb464))) (fun _ hk => hk.2) (.int .i64 t456)) (fun _ hk => hk.2) (.int .i64 t457)) (fun _ hk => hk.2) (.int .i64 t458)) (fun _ hk => hk.2) (.int .i64 t459)) (fun _ hk => hk.2) (.int .i64 t460)) (fun _ hk => hk.2) (.int .i64 t461)) (fun _ hk => hk.2) (.int .i64 t462)) (fun _ hk => ⟨hk.1.1.1, ⟨hk.1.1.2, hk.1.2⟩⟩)⟩
                          have n3_ : Aside0 ((((((((w25.setCell ⟨gb464, 0, none⟩ (.int .i64 t456)).setCell ⟨gb464, 1, none⟩ (.int .i64 t457)).setCell ⟨gb464, 2, none⟩ (.int .i64 t458)).setCell ⟨gb464, 3, none⟩ (.int .i64 t459)).setCell ⟨gb464, 4, none⟩ (.int .i64 t460)).setCell ⟨gb464, 5, none⟩ (.int .i64 t461)).setCell ⟨gb464, 6, none⟩ (.int .i64 t462)).heap[gb464]? = some (.cells #[.int .i64 t456, .int .i64 t457, .int .i64 t458, .int .i64 t459, .int .i64 t460, .int .i64 t461, .int .i64 t462] 62 (0, 0))) := ⟨by (with_reducible repeat (first | refine blk_drewN ?_ _ | refine blk_drew ?_ | refine blk_alloc ?_ _)); refine blk_put (cs := #[.int .i64 t456, .int .i64 t457, .int .i64 t458, .int .i64 t459, .int .i64 t460, .int .i64 t461, .int .i64 0]) ?_ 6 _ (by first | rfl | (simp only [gt_iff_lt, *]; rfl) | (simp [*]; done)); (with_reducible repeat (first | refine blk_drewN ?_ _ | refine blk_drew ?_ | refine blk_alloc ?_ _)); refine blk_put (cs := #[.int .i64 t456, .int .i64 t457, .int .i64 t458, .int .i64 t459, .int .i64 t460, .int .i64 0, .int .i64 0]) ?_ 5 _ (by first | rfl | (simp only [gt_iff_lt, *]; rfl) | (simp [*]; done)); (with_reducible repeat (first | refine blk_drewN ?_ _ | refine blk_drew ?_ | refine blk_alloc ?_ _)); refine blk_put (cs := #[.int .i64 t456, .int .i64 t457, .int .i64 t458, .int .i64 t459, .int .i64 0, .int .i64 0, .int .i64 0]) ?_ 4 _ (by first | rfl | (simp only [gt_iff_lt, *]; rfl) | (simp [*]; done)); (with_reducible repeat (first | refine blk_drewN ?_ _ | refine blk_drew ?_ | refine blk_alloc ?_ _)); refine blk_put (cs := #[.int .i64 t456, .int .i64 t457, .int .i64 t458, .int .i64 0, .int .i64 0, .int .i64 0, .int .i64 0]) ?_ 3 _ (by first | rfl | (simp only [gt_iff_lt, *]; rfl) | (simp [*]; done)); (with_reducible repeat (first | refine blk_drewN ?_ _ | refine blk_drew ?_ | refine blk_alloc ?_ _)); refine blk_put (cs := #[.int .i64 t456, .int .i64 t457, .int .i64 0, .int .i64 0, .int .i64 0, .int .i64 0, .int .i64 0]) ?_ 2 _ (by first | rfl | (simp only [gt_iff_lt, *]; rfl) | (simp [*]; done)); (with_reducible repeat (first | refine blk_drewN ?_ _ | refine blk_drew ?_ | refine blk_alloc ?_ _)); refine blk_put (cs := #[.int .i64 t456, .int .i64 0, .int .i64 0, .int .i64 0, .int .i64 0, .int .i64 0, .int .i64 0]) ?_ 1 _ (by first | rfl | (simp only [gt_iff_lt, *]; rfl) | (simp [*]; done)); (with_reducible repeat (first | refine blk_drewN ?_ _ | refine blk_drew ?_ | refine blk_alloc ?_ _)); refine blk_put (cs := #[.int .i64 0, .int .i64 0, .int .i64 0, .int .i64 0, .int .i64 0, .int .i64 0, .int .i64 0]) ?_ 0 _ (by first | rfl | (simp only [gt_iff_lt, *]; rfl) | (simp [*]; done)); (with_reducible repeat (first | refine blk_drewN ?_ _ | refine blk_drew ?_ | refine blk_alloc ?_ _)); exact BK464.out⟩
                          have n4_ : Aside0 (Below w.heap.size w (((((((w25.setCell ⟨gb464, 0, none⟩ (.int .i64 t456)).setCell ⟨gb464, 1, none⟩ (.int .i64 t457)).setCell ⟨gb464, 2, none⟩ (.int .i64 t458)).setCell ⟨gb464, 3, none⟩ (.int .i64 t459)).setCell ⟨gb464, 4, none⟩ (.int .i64 t460)).setCell ⟨gb464, 5, none⟩ (.int .i64 t461)).setCell ⟨gb464, 6, none⟩ (.int .i64 t462))) := ⟨by repeat (first | (with_reducible first | exact HB.out | apply below_alloc | apply pw_below_drewN | apply below_drew1 | refine below_set ?_ GE464.out) | exact HB.out)⟩
                          (try clear HO_1)
                          (try clear HO_6)
                          (try clear HO455)
                          (try clear BK464)
                          (try clear HB)
                          generalize (((((((w25.setCell ⟨gb464, 0, none⟩ (.int .i64 t456)).setCell ⟨gb464, 1, none⟩ (.int .i64 t457)).setCell ⟨gb464, 2, none⟩ (.int .i64 t458)).setCell ⟨gb464, 3, none⟩ (.int .i64 t459)).setCell ⟨gb464, 4, none⟩ (.int .i64 t460)).setCell ⟨gb464, 5, none⟩ (.int .i64 t461)).setCell ⟨gb464, 6, none⟩ (.int .i64 t462)) = w27 at n0_ n1_ n2_ n3_ n4_ ⊢
                          have HO_1 := n0_
                          have HO_6 := n1_
                          have HO455 := n2_
                          have BK464 := n3_
                          have HB := n4_
                          clear n0_ n1_ n2_ n3_ n4_
                          have n0_ := Aside0.mk (Kd.V_drew HO_1.out)
                          have n1_ := Aside0.mk (Kd.R_drew HO_6.out)
                          have n2_ := Aside0.mk (Kd.V_drew HO455.out)
                          have n3_ := Aside0.mk (blk_drew BK464.out)
                          have n4_ := Aside0.mk (below_drew1 HB.out)
                          clear HO_1
                          clear HO_6
                          try clear HO455
                          clear BK464
                          clear HB
                          have HO_1 := n0_
                          have HO_6 := n1_
                          have HO455 := n2_
                          have BK464 := n3_
                          have HB := n4_
                          clear n0_ n1_ n2_ n3_ n4_
                          have q29 : ((ji20) : Int) ≤ ((x1_1.length : Int) : Int) := of_decide_eq_true (by first | (with_reducible assumption) | assumption)
                          obtain ⟨i029, hi029, _, hsz29, _⟩ := info_parts info5
                          have hroom29 : x1_1.length ≤ co6 := (Kd.V_reads' HO_1.out).2.1
                          have hC29 : Kd.F (Kd.int .u8) _ _ Ao6 x1_1.length x1_1 := (Kd.V_at (base := w.heap.size) HO_1.out).2.2
                          have q029 : (0 : Int) ≤ ((ji20) : Int) := of_decide_eq_true (by first | (with_reducible assumption) | assumption)
                          have hcut29 := cut_from (P := Tryz.prog) 26 5 .i64 Tryz.underlying26 hi029 1 hsz29 Ao6 x1_1.length co6 (ji20) q029 q29
                          have hr29 := Kd.F_cut (m := ((ji20) : Int).toNat) (c := co6) hC29 (by omega) hroom29
                          obtain ⟨A29, hA29⟩ : ∃ A1, A1 = (if co6 = ((ji20) : Int).toNat then Ao6 else (Ao6 : Option Addr).map (·.add (((ji20) : Int).toNat * 1))) := ⟨_, rfl⟩
                          obtain ⟨c29, hc29⟩ : ∃ c1, c1 = co6 - ((ji20) : Int).toNat := ⟨_, rfl⟩
                          have hy29 : y468.length = x1_1.length - ((ji20) : Int).toNat := (by rw [Ny468.out, List.length_drop] <;> omega)
                          rw [show (x1_1).drop ((ji20) : Int).toNat = y468 from Ny468.out.symm] at hr29
                          replace hr29 : Kd.F (Kd.int .u8) _ _ A29 y468.length y468 := (by rw [hA29]; exact hr29)
                          rw [← hy29, ← hA29, ← hc29] at hcut29
                          have HO472 := Aside0.mk (show Kd.V (Kd.int .u8) 5 _ w.heap.size _ (.slice A29 y468.length c29) y468 from Kd.V_mk (by rw [hy29, hc29]; exact Nat.sub_le_sub_right hroom29 _) hr29)
                          have HC472 := Aside0.mk (show y468.length ≤ c29 from by rw [hy29, hc29]; exact Nat.sub_le_sub_right hroom29 _)
                          clear hr29 hC29 hroom29 hi029 hsz29 hc29
                          have KY29 := Aside0.mk hy29
                          have KA29 := Aside0.mk hA29
                          clear hy29 hA29
                          replace q29 := eq_true q29
                          refine start_ (n := 11) (S := fun w' => w'.cell? ⟨gb464, 0, none⟩ = some (.int .i64 t456) ∧ w'.cell? ⟨gb464, 1, none⟩ = some (.int .i64 t457) ∧ w'.cell? ⟨gb464, 2, none⟩ = some (.int .i64 t458) ∧ w'.cell? ⟨gb464, 3, none⟩ = some (.int .i64 t459) ∧ w'.cell? ⟨gb464, 4, none⟩ = some (.int .i64 t460) ∧ w'.cell? ⟨gb464, 5, none⟩ = some (.int .i64 t461) ∧ w'.cell? ⟨gb464, 6, none⟩ = some (.int .i64 t462)) (ds := []) #[false, false, false, false, false, false, false, false, false, false, false] (by kernel_rfl) rfl rfl ⟨(blk_cell BK464.out 0).trans rfl, (blk_cell BK464.out 1).trans rfl, (blk_cell BK464.out 2).trans rfl, (blk_cell BK464.out 3).trans rfl, (blk_cell BK464.out 4).trans rfl, (blk_cell BK464.out 5).trans rfl, (blk_cell BK464.out 6).trans rfl⟩ (fun hHeld => ?_); refine with_tabW segment_elder.tab9 segment_elder.bits9 (fun HT_ HW_ => ?_)
                          generalize w27.drew = w28 at HO_1 HO_6 HO455 BK464 HB HO472 hHeld ⊢
                          refine pure_ (i := 0) (N := some 54) (v := ?_) (a' := ?_) #[true, false, false, false, false, false, false, false, false, false, false] rfl rfl (any_of HT_.out (by kernel_rfl)) (fun _ _ _ h => h) (Or.inl ⟨by rfl, ?_⟩) ?_ ?_
                          rotate_left
                          · intro w'
                            go_simp
                            with_reducible rfl
                          rotate_left
                          · simp only [Act.put, List.setIfInBounds_toArray, List.set_cons_zero, List.set_cons_succ, i64_w, i32_w]
                            rfl
                          refine pure_ (i := 4) (N := some 58) (v := ?_) (a' := ?_) #[true, false, false, false, true, false, false, false, false, false, false] rfl rfl (any_of HT_.out (by kernel_rfl)) (fun _ _ _ h => h) (Or.inl ⟨by rfl, ?_⟩) ?_ ?_
                          rotate_left
                          · intro w'
                            go_simp
                            with_reducible rfl
                          rotate_left
                          · simp only [Act.put, List.setIfInBounds_toArray, List.set_cons_zero, List.set_cons_succ, i64_w, i32_w]
                            rfl
                          refine pure_ (i := 5) (N := some 59) (v := ?_) (a' := ?_) #[true, false, false, false, true, true, false, false, false, false, false] rfl rfl (any_of HT_.out (by kernel_rfl)) (fun _ _ _ h => h) (Or.inl ⟨by rfl, ?_⟩) ?_ ?_
                          rotate_left
                          · intro w'
                            go_simp
                            with_reducible rfl
                          rotate_left
                          · simp only [Act.put, List.setIfInBounds_toArray, List.set_cons_zero, List.set_cons_succ, i64_w, i32_w]
                            rfl
                          refine pure_ (i := 6) (N := some 60) (v := ?_) (a' := ?_) #[true, false, false, false, true, true, true, false, false, false, false] rfl rfl (any_of HT_.out (by kernel_rfl)) (fun _ _ _ h => h) (Or.inl ⟨by rfl, ?_⟩) ?_ ?_
                          rotate_left
                          · intro w'
                            go_simp
                            with_reducible rfl
                          rotate_left
                          · simp only [Act.put, List.setIfInBounds_toArray, List.set_cons_zero, List.set_cons_succ, i64_w, i32_w]
                            rfl
                          refine pure_ (i := 7) (N := some 61) (v := ?_) (a' := ?_) #[true, false, false, false, true, true, true, true, false, false, false] rfl rfl (any_of HT_.out (by kernel_rfl)) (fun _ _ _ h => h) (Or.inl ⟨by rfl, ?_⟩) ?_ ?_
                          rotate_left
                          · intro w'
                            go_simp
                            with_reducible rfl
                          rotate_left
                          · simp only [Act.put, List.setIfInBounds_toArray, List.set_cons_zero, List.set_cons_succ, i64_w, i32_w]
                            rfl
                          refine pure_ (i := 8) (N := some 62) (v := ?_) (a' := ?_) #[true, false, false, false, true, true, true, true, true, false, false] rfl rfl (any_of HT_.out (by kernel_rfl)) (fun _ _ _ h => h) (Or.inl ⟨by rfl, ?_⟩) ?_ ?_
                          rotate_left
                          · intro w'
                            go_simp
                            with_reducible rfl
                          rotate_left
                          · simp only [Act.put, List.setIfInBounds_toArray, List.set_cons_zero, List.set_cons_succ, i64_w, i32_w]
                            rfl
                          refine take_ (i := 1) (N := some 55) (v := ?_) (a' := ?_) #[true, true, false, false, true, true, true, true, true, false, false] rfl rfl (take_ofW HT_.out HW_.out (by kernel_rfl)) (fun _ _ _ h => h) (Or.inl ⟨by rfl, ?_⟩) hHeld ?_ ?_
                          rotate_left
                          · rintro w' ⟨s0, s1, s2, s3, s4, s5, s6⟩
                            go_simp
                            with_reducible rfl
                          rotate_left
                          · simp only [Act.put, List.setIfInBounds_toArray, List.set_cons_zero, List.set_cons_succ, i64_w, i32_w]
                            rfl
                          refine one_ (i := 2) (N := some 56) #[true, true, true, false, true, true, true, true, true, false, false] rfl rfl (one_of HT_.out (by kernel_rfl)) (by decide) (fun K hK => ?_)
                          refine value_ (w1 := ?_) (v := ?_) (by rfl) rfl ?_ ?_
                          rotate_left 2
                          · go_simp
                            constructor
                            · rfl
                            · rfl
                          refine hK.out _ _ ⟨(blk_cell (blk_alloc BK464.out _) 0).trans rfl, (blk_cell (blk_alloc BK464.out _) 1).trans rfl, (blk_cell (blk_alloc BK464.out _) 2).trans rfl, (blk_cell (blk_alloc BK464.out _) 3).trans rfl, (blk_cell (blk_alloc BK464.out _) 4).trans rfl, (blk_cell (blk_alloc BK464.out _) 5).trans rfl, (blk_cell (blk_alloc BK464.out _) 6).trans rfl⟩ (fun hHeld => ?_)
                          clear hK K
                          refine norm_ (a' := ?_) ?_ ?_
                          rotate_left
                          · show Act.put _ (some 56) _ = _
                            simp only [Act.put, List.setIfInBounds_toArray, List.set_cons_zero, List.set_cons_succ, i64_w, i32_w]
                            rfl
                          refine one_ (i := 3) (N := some 57) #[true, true, true, true, true, true, true, true, true, false, false] rfl rfl (one_of HT_.out (by kernel_rfl)) (by decide) (fun K hK => ?_)
                          refine Kd.R_append_step k62 (w0 := w) w.heap.size (by rfl) (.tmp 54) (.tmp 56) 22 62 (.agg #[(.int .i64 0), (.int .i64 0), (.int .i64 0), (.int .i64 0), (.int .i64 0), (.int .i64 0), (.int .i64 0)]) 56 rfl Tryz.underlying22 info62 rfl (by decide) (by omega) u6 x6_1 (⟨t456, t457, t458, (⟨t459, t460, t461⟩ : S38), t462⟩ : S62) [.int .i64 t456, .int .i64 t457, .int .i64 t458, .int .i64 t459, .int .i64 t460, .int .i64 t461, .int .i64 t462] (fun k_ => (w.heap.size ≤ k_) ∧ k_ ≠ gb464) (fun _ => False) rfl rfl ?aP (fun _ hk => hk.elim) ?aF ?aO ?aB ?aS ?aL ?_
                          (case aP => exact k62_mkM _ _ _ (⟨t456, t457, t458, (⟨t459, t460, t461⟩ : S38), t462⟩ : S62))
                          (case aB => exact (by repeat (first | (with_reducible first | exact HB.out | apply below_alloc | apply pw_below_drewN | apply below_drew1 | refine below_set ?_ GE464.out) | exact HB.out)))
                          (case aF => exact (fun k_ hk => ⟨(Nat.le_trans (below_size (by repeat (first | (with_reducible first | exact HB.out | apply below_alloc | apply pw_below_drewN | apply below_drew1 | refine below_set ?_ GE464.out) | exact HB.out))) hk), Kd.freshB (g := gb464) (o := .cells #[.int .i64 t456, .int .i64 t457, .int .i64 t458, .int .i64 t459, .int .i64 t460, .int .i64 t461, .int .i64 t462] 62 (0, 0)) (by (with_reducible repeat (first | refine blk_drewN ?_ _ | refine blk_drew ?_ | refine blk_alloc ?_ _)); exact BK464.out) k_ hk⟩))
                          (case aO => exact (by (with_reducible repeat (first | apply Kd.R_alloc | apply Kd.R_drewN | apply Kd.R_drew)); exact HO_6.out))
                          (case aS => exact (below_size (by repeat (first | (with_reducible first | exact HB.out | apply below_alloc | apply pw_below_drewN | apply below_drew1 | refine below_set ?_ GE464.out) | exact HB.out))))
                          (case aL => have := LMc19.out; omega)
                          intro v466 w30 ho hb hg hat
                          rw [← Ny465.out] at ho
                          have n0_ := Aside0.mk (Kd.V_afterv (ok := (fun k_ => (P1_ k_ ∨ w.heap.size ≤ k_) ∧ k_ ≠ gb464)) (by (with_reducible repeat (first | apply Kd.V_alloc | apply Kd.V_drewN | apply Kd.V_drew)); exact Kd.V_mono HO_1.out (fun _ hk => ⟨⟨hk.1, hk.2.2⟩, hk.2.1⟩)) hg hat)
                          have n1_ := Aside0.mk (Kd.V_afterv (ok := (fun k_ => (P1_ k_ ∨ w.heap.size ≤ k_) ∧ k_ ≠ gb464)) (by (with_reducible repeat (first | apply Kd.V_alloc | apply Kd.V_drewN | apply Kd.V_drew)); exact Kd.V_mono HO455.out (fun _ hk => ⟨⟨hk.1, hk.2.2⟩, hk.2.1⟩)) hg hat)
                          have n2_ := Aside0.mk (blk_grown (g := gb464) (o := .cells #[.int .i64 t456, .int .i64 t457, .int .i64 t458, .int .i64 t459, .int .i64 t460, .int .i64 t461, .int .i64 t462] 62 (0, 0)) (by (with_reducible repeat (first | refine blk_drewN ?_ _ | refine blk_drew ?_ | refine blk_alloc ?_ _)); exact BK464.out) hg (Kd.R_away HO_6.out (fun _ hk => hk.2)))
                          have n3_ := Aside0.mk (Kd.V_afterv (ok := (fun k_ => (P1_ k_ ∨ w.heap.size ≤ k_) ∧ k_ ≠ gb464)) (by (with_reducible repeat (first | apply Kd.V_alloc | apply Kd.V_drewN | apply Kd.V_drew)); exact Kd.V_mono HO472.out (fun _ hk => ⟨⟨hk.1, hk.2.2⟩, hk.2.1⟩)) hg hat)
                          have n4_ := Aside0.mk (hb)
                          have n5_ := Aside0.mk (ho)
                          clear HO_1
                          try clear HO455
                          clear BK464
                          try clear HO472
                          clear HB
                          clear HO_6
                          have HO_1 := n0_
                          have HO455 := n1_
                          have BK464 := n2_
                          have HO472 := n3_
                          have HB := n4_
                          have HO467 := n5_
                          clear n0_ n1_ n2_ n3_ n4_ n5_
                          clear ho hb hg hat
                          refine hK.out _ _ ⟨(blk_cell BK464.out 0).trans rfl, (blk_cell BK464.out 1).trans rfl, (blk_cell BK464.out 2).trans rfl, (blk_cell BK464.out 3).trans rfl, (blk_cell BK464.out 4).trans rfl, (blk_cell BK464.out 5).trans rfl, (blk_cell BK464.out 6).trans rfl⟩ (fun hHeld => ?_)
                          clear hK K
                          refine norm_ (a' := ?_) ?_ ?_
                          rotate_left
                          · show Act.put _ (some 57) _ = _
                            simp only [Act.put, List.setIfInBounds_toArray, List.set_cons_zero, List.set_cons_succ, i64_w, i32_w]
                            rfl
                          refine pure_ (i := 9) (N := some 6) (v := ?_) (a' := ?_) #[true, true, true, true, true, true, true, true, true, true, false] rfl rfl (any_of HT_.out (by kernel_rfl)) (fun _ _ _ h => h) (Or.inl ⟨by rfl, ?_⟩) ?_ ?_
                          rotate_left
                          · intro w'
                            go_simp
                            with_reducible rfl
                          rotate_left
                          · simp only [Act.put, List.setIfInBounds_toArray, List.set_cons_zero, List.set_cons_succ, i64_w, i32_w]
                            rfl
                          refine pure_ (i := 10) (N := some 1) (v := ?_) (a' := ?_) #[true, true, true, true, true, true, true, true, true, true, true] rfl rfl (any_of HT_.out (by kernel_rfl)) (fun _ _ _ h => h) (Or.inl ⟨by rfl, ?_⟩) ?_ ?_
                          rotate_left
                          · intro w'
                            go_simp
                            with_reducible rfl
                          rotate_left
                          · simp only [Act.put, List.setIfInBounds_toArray, List.set_cons_zero, List.set_cons_succ, i64_w, i32_w]
                            rfl
                          refine done_ (done_of HT_.out (by kernel_rfl)) ?_
                          try go_wp2
                          go_roundg kj4
                          case measure => have := HK1.out; have := HJ4.out; omega
                          case rel => exact ⟨(y468), (y465), H', ⟨by have := HK1.out; have := HJ4.out; omega⟩, ⟨by (with_reducible repeat (first | apply Kd.V_alloc | apply Kd.V_drewN | apply Kd.V_drew)); exact Kd.V_mono HO472.out (fun _ hk => ⟨hk.1.1, hk.2⟩)⟩, ⟨by (with_reducible repeat (first | apply Kd.R_alloc | apply Kd.R_drewN | apply Kd.R_drew)); exact Kd.R_mono HO467.out (fun _ hk => hk.1)⟩, ⟨by repeat (first | (with_reducible first | exact HB.out | apply below_alloc | apply pw_below_drewN | apply below_drew1 | refine below_set ?_ GE464.out) | exact HB.out)⟩⟩
                        · rw [if_neg c21] at H
                          exact absurd H (by simp)
                      · rw [if_neg c19] at H
                        exact absurd H (by simp)
                    · rw [if_neg c18] at H
                      have c18b0 : (t463 == 0) = false := beq_eq_false_iff_ne.mpr c18
                      have c18b1 : (t463 != 0) = true := bne_iff_ne.mpr c18
                      simp only [Option.some.injEq, Prod.mk.injEq] at H
                      obtain ⟨rfl, rfl⟩ := H
                      have q31 : ((wrap64 (t449 + t448)) : Int) ≤ ((x1_1.length : Int) : Int) := of_decide_eq_true (by first | (with_reducible assumption) | assumption)
                      obtain ⟨i031, hi031, _, hsz31, _⟩ := info_parts info5
                      have hroom31 : x1_1.length ≤ co6 := (Kd.V_reads' HO_1.out).2.1
                      have hC31 : Kd.F (Kd.int .u8) _ _ Ao6 x1_1.length x1_1 := (Kd.V_at (base := w.heap.size) HO_1.out).2.2
                      have ql31 : (t449 : Int) ≤ ((wrap64 (t449 + t448)) : Int) := of_decide_eq_true (by first | (with_reducible assumption) | assumption)
                      have q031 : (0 : Int) ≤ (t449 : Int) := of_decide_eq_true (by first | (with_reducible assumption) | assumption)
                      have hcut31 := cut_mid (P := Tryz.prog) 26 5 .i64 .i64 Tryz.underlying26 hi031 1 hsz31 Ao6 x1_1.length co6 t449 (wrap64 (t449 + t448)) q031 ql31 q31 hroom31
                      have hr31 := Kd.F_mid (lo := (t449 : Int).toNat) (hi := ((wrap64 (t449 + t448)) : Int).toNat) (c := co6) hC31 (by omega) (by omega) hroom31
                      obtain ⟨A31, hA31⟩ : ∃ A1, A1 = (if co6 = (t449 : Int).toNat then Ao6 else (Ao6 : Option Addr).map (·.add ((t449 : Int).toNat * 1))) := ⟨_, rfl⟩
                      obtain ⟨c31, hc31⟩ : ∃ c1, c1 = co6 - (t449 : Int).toNat := ⟨_, rfl⟩
                      have hy31 : y451.length = ((wrap64 (t449 + t448)) : Int).toNat - (t449 : Int).toNat := (by rw [Ny451.out, List.length_drop, List.length_take] <;> omega)
                      rw [show ((x1_1).take ((wrap64 (t449 + t448)) : Int).toNat).drop (t449 : Int).toNat = y451 from Ny451.out.symm] at hr31
                      replace hr31 : Kd.F (Kd.int .u8) _ _ A31 y451.length y451 := (by rw [hA31]; exact hr31)
                      rw [← hy31, ← hA31, ← hc31] at hcut31
                      have HO455 := Aside0.mk (show Kd.V (Kd.int .u8) 5 _ w.heap.size _ (.slice A31 y451.length c31) y451 from Kd.V_mk (by rw [hy31, hc31]; exact Nat.sub_le_sub_right (Nat.le_trans (by omega) hroom31) _) hr31)
                      have HC455 := Aside0.mk (show y451.length ≤ c31 from by rw [hy31, hc31]; exact Nat.sub_le_sub_right (Nat.le_trans (by omega) hroom31) _)
                      clear hr31 hC31 hroom31 hi031 hsz31 hc31
                      have KY31 := Aside0.mk hy31
                      have KA31 := Aside0.mk hA31
                      clear hy31 hA31
                      replace q31 := eq_true q31
                      have tok2_ : True := trivial
                      go_wp2_with (first | ((with_reducible refine gate_callee (f := 158) rfl ?_); clear tok2_; refine goesL_ (some 49) rfl rfl Tryz.func158 (by kernel_rfl) rfl #[.slice A31 y451.length c31] rfl (by (try simp only [List.map_toArray, List.map_cons, List.map_nil]); first | done | rfl | (simp only [List.length_drop, List.length_take]; rfl)) ?_; (with_reducible refine (schema_Decode.calls kj4 _ _ y451 t456 t457 t458 t459 t460 t461 t462 t463 _ ?side1 ?side2 A17.out).mono ?_); (case side1 => repeat (first | exact (Kd.V_reads' HO455.out).2.2 | (with_reducible refine Kd.C_alloc ?_ _) | (with_reducible refine Kd.C_drewN ?_ _) | (with_reducible refine Kd.C_drew ?_))); (case side2 => exact (Kd.V_reads' HO455.out).2.1); rintro e w32 ⟨rfl, hb⟩; refine ⟨_, rfl, ?_⟩; have n0_ := Aside0.mk (Kd.V_below (by (with_reducible repeat (first | apply Kd.V_alloc | apply Kd.V_drewN | apply Kd.V_drew)); exact HO_1.out) hb); have n1_ := Aside0.mk (Kd.R_below (by (with_reducible repeat (first | apply Kd.R_alloc | apply Kd.R_drewN | apply Kd.R_drew)); exact HO_6.out) hb); have n2_ := Aside0.mk (Kd.V_below (by (with_reducible repeat (first | apply Kd.V_alloc | apply Kd.V_drewN | apply Kd.V_drew)); exact HO455.out) hb); have n3_ := Aside0.mk (below_step (by repeat (first | (with_reducible first | exact HB.out | apply below_alloc | apply pw_below_drewN | apply below_drew1) | exact HB.out)) hb); clear HO_1; clear HO_6; clear HO455; clear HB; have HO_1 := n0_; have HO_6 := n1_; have HO455 := n2_; have HB := n3_; clear n0_ n1_ n2_ n3_; (try clear hb); (try clear hb2); (try clear hk); (try clear hi)) | ((with_reducible refine gate_dst (N := 9) rfl ?_); (try (refine gate_guard (by rfl) ?_; dsimp only)); refine box_event ?hg (N := 9) ?hd (cs := #[.int .i64 0, .int .i64 0, .int .i64 0, .int .i64 0, .int .i64 0, .int .i64 0, .int .i64 0]) (t := 62) ?hr ?_; (case hd => rfl); (case hg => rfl); (case hr => first | (go_simp; done) | (go_simp; rfl)); intro gb464 hg w33 hbox hb; have n0_ := Aside0.mk (Kd.V_below (Kd.V_elderB (by (with_reducible repeat (first | apply Kd.V_alloc | apply Kd.V_drewN | apply Kd.V_drew)); exact HO_1.out) gb464 (Nat.le_of_eq hg.symm)) hb); have n1_ := Aside0.mk (Kd.R_below (Kd.R_elderB (by (with_reducible repeat (first | apply Kd.R_alloc | apply Kd.R_drewN | apply Kd.R_drew)); exact HO_6.out) gb464 (Nat.le_of_eq hg.symm)) hb); have n2_ := Aside0.mk (Kd.V_below (Kd.V_elderB (by (with_reducible repeat (first | apply Kd.V_alloc | apply Kd.V_drewN | apply Kd.V_drew)); exact HO455.out) gb464 (Nat.le_of_eq hg.symm)) hb); have n3_ := Aside0.mk (below_step (by repeat (first | (with_reducible first | exact HB.out | apply below_alloc | apply pw_below_drewN | apply below_drew1) | exact HB.out)) hb); have n4_ := Aside0.mk (hbox); have n5_ := Aside0.mk ((by rw [hg]; exact (below_size (by repeat (first | (with_reducible first | exact HB.out | apply below_alloc | apply pw_below_drewN | apply below_drew1) | exact HB.out))) : w.heap.size ≤ gb464)); have n6_ := Aside0.mk ((by rw [hg]; exact (below_size (by repeat (first | (with_reducible first | exact HB.out | apply below_alloc | apply pw_below_drewN | apply below_drew1) | exact HB.out))) : w.heap.size ≤ gb464)); clear HO_1; clear HO_6; clear HO455; clear HB; have HO_1 := n0_; have HO_6 := n1_; have HO455 := n2_; have HB := n3_; have BK464 := n4_; have GW464 := n5_; have GE464 := n6_; clear n0_ n1_ n2_ n3_ n4_ n5_ n6_; clear hb hbox hg; have hcz34_0 : w33.cell? ⟨gb464, 0, none⟩ = some (.int .i64 0) := (blk_cell BK464.out 0).trans rfl; have hcz34_1 : w33.cell? ⟨gb464, 1, none⟩ = some (.int .i64 0) := (blk_cell BK464.out 1).trans rfl; have hcz34_2 : w33.cell? ⟨gb464, 2, none⟩ = some (.int .i64 0) := (blk_cell BK464.out 2).trans rfl; have hcz34_3 : w33.cell? ⟨gb464, 3, none⟩ = some (.int .i64 0) := (blk_cell BK464.out 3).trans rfl; have hcz34_4 : w33.cell? ⟨gb464, 4, none⟩ = some (.int .i64 0) := (blk_cell BK464.out 4).trans rfl; have hcz34_5 : w33.cell? ⟨gb464, 5, none⟩ = some (.int .i64 0) := (blk_cell BK464.out 5).trans rfl; have hcz34_6 : w33.cell? ⟨gb464, 6, none⟩ = some (.int .i64 0) := (blk_cell BK464.out 6).trans rfl; have hfz34_0 := blk_frozen BK464.out 0; have hfz34_1 := blk_frozen BK464.out 1; have hfz34_2 := blk_frozen BK464.out 2; have hfz34_3 := blk_frozen BK464.out 3; have hfz34_4 := blk_frozen BK464.out 4; have hfz34_5 := blk_frozen BK464.out 5; have hfz34_6 := blk_frozen BK464.out 6))
                      go_ret2
                      exact ⟨_, by first | rfl | (simp [errW_none, errW_some] <;> rfl) | (simp [*, errW_none, errW_some] <;> rfl), by first | exact Kd.R_nil _ _ _ _ _ | exact Kd.N_nil _ _ _ _ _ | exact Kd.V_nil _ _ _ _ _ | exact Kd.Q_nil _ _ _ _ _ | exact Kd.S_nil _ _ _ _ _, by repeat (first | (with_reducible first | exact HB.out | apply below_alloc | apply pw_below_drewN | apply below_drew1 | refine below_set ?_ GE464.out) | exact HB.out)⟩
                  · rw [if_neg c16] at H
                    exact absurd H (by simp)
                · rw [if_neg c15] at H
                  exact absurd H (by simp)
              · rw [if_neg c14] at H
                exact absurd H (by simp)
      · rw [if_neg c3] at H
        have c3b0 : decide (0 < (x1_1.length : Int)) = false := decide_eq_false c3
        have c3b1 : decide (0 < x1_1.length) = false := decide_eq_false (by omega)
        clear c3
        simp only [Option.some.injEq, Prod.mk.injEq] at H
        obtain ⟨rfl, rfl⟩ := H
        obtain ⟨Ao35, co35, eo35⟩ := Kd.V_slice HO_1.out
        subst eo35
        go_wp2
        go_ret2
        exact ⟨_, by first | rfl | (simp [errW_none, errW_some] <;> rfl) | (simp [*, errW_none, errW_some] <;> rfl), by (with_reducible repeat (first | apply Kd.R_alloc | apply Kd.R_drewN | apply Kd.R_drew)); exact HO_6.out, by repeat (first | (with_reducible first | exact HB.out | apply below_alloc | apply pw_below_drewN | apply below_drew1) | exact HB.out)⟩
/-! ### schema_Encode: function 89 -/
-- GIVEN ferryman/schema.Encode=../up/SEncode.given:making:rounds
/-- The fields of a record, one behind the other. -/
def putAll (k : Nat) (a0 a1 a2 a3 a4 a5 a6 : Int) : List Int → List Int → Option (List Int)
  | [], b => some b
  | f :: fs, b => (schema_put.f k b f a0 a1 a2 a3 a4 a5 a6).bind fun b' => putAll k a0 a1 a2 a3 a4 a5 a6 fs b'
/-- A record that fits, in an elder version; none otherwise. -/
def schema_Encode.f (k : Nat) (a0 a1_0 a1_1 a1_2 a1_3 a1_4 a1_5 a1_6 : Int) : Option (List Int × Int) :=
  if a0 = 1 ∨ a0 = 2 then (schema_Fits.f a1_0 a1_1 a1_2 a1_3 a1_4 a1_5 a1_6).bind fun t => if t = true then (num_Put.f k [] a0).bind fun b => (putAll k a1_0 a1_1 a1_2 a1_3 a1_4 a1_5 a1_6 (fieldsE a0) b).bind fun b' => some (b', 0) else none else none
set_option maxHeartbeats 8000000 in
set_option maxRecDepth 100000 in
theorem schema_Encode.calls (k : Nat) (a0 a1_0 a1_1 a1_2 a1_3 a1_4 a1_5 a1_6 : Int) (r1 : List Int) (r2 : Int) (w : World) (h : schema_Encode.f k a0 a1_0 a1_1 a1_2 a1_3 a1_4 a1_5 a1_6 = some (r1, r2)) :
    Calls Tryz.prog 89 #[.int .i64 a0, .agg #[.int .i64 a1_0, .int .i64 a1_1, .int .i64 a1_2, .int .i64 a1_3, .int .i64 a1_4, .int .i64 a1_5, .int .i64 a1_6]] w fun e w' => ∃ v0_ : Value, e = .returned (.tuple #[v0_, .int .i64 r2]) ∧ Kd.R (Kd.int .u8) 5 w' w.heap.size (fun _ => True) v0_ r1 ∧ Below w.heap.size w w' := by
  have hu62 := Tryz.underlying62
  have hu38 := Tryz.underlying38
  unfold schema_Encode.f at h
  split at h
  case isFalse => cases h
  rename_i hv
  rw [Option.bind_eq_some_iff] at h
  obtain ⟨t, ht, h⟩ := h
  split at h
  case isFalse => cases h
  rename_i htt
  subst htt
  rw [Option.bind_eq_some_iff] at h
  obtain ⟨b0, hb0, h⟩ := h
  rw [Option.bind_eq_some_iff] at h
  obtain ⟨b1, hb1, h⟩ := h
  obtain ⟨rfl, rfl⟩ := Prod.mk.inj (Option.some.inj h)
  have HV := Aside0.mk hv
  have HT := Aside0.mk ht
  have HB0 := Aside0.mk hb0
  have HB1 := Aside0.mk hb1
  clear h hv ht hb0 hb1
  go_enter Tryz.func89, Tryz.ntmps89
  go_upto_region 2 with (go_at_call 129; refine (fields_calls a0 _ HV.out).mono ?_; rintro e wf ⟨ad, rfl, hg, hb⟩; have HBF := Aside0.mk (below_step (below_alloc (Below.refl w.heap.size w) _) hb); have HG := Aside0.mk hg; have HR := Aside0.mk (blk_below (blk_new w (.cells #[.int .i64 a1_0, .int .i64 a1_1, .int .i64 a1_2, .int .i64 a1_3, .int .i64 a1_4, .int .i64 a1_5, .int .i64 a1_6] 62)) hb); clear hg hb)
  obtain ⟨fs, hfs⟩ : ∃ fs, fs = fieldsE a0 := ⟨_, rfl⟩
  rw [← hfs] at HB1 HG
  rw [← hfs]
  have HL := Aside0.mk (show fs.length ≤ 4 by rw [hfs]; unfold fieldsE; split <;> decide)
  clear hfs HV
  have heq := fun W : World => Lib.run_eql_slice_nil (P := Tryz.prog) W 34 3 (some ad) fs.length fs.length 0 0 Tryz.underlying34
  have hc := (fun i => blk_cell HR.out i)
  go_upto_region 6 with (go_at_call 43; refine (schema_Fits.calls a1_0 a1_1 a1_2 a1_3 a1_4 a1_5 a1_6 true _ HT.out).mono ?_; rintro e w1 ⟨rfl, hb⟩; have HB1' := Aside0.mk hb; clear hb)
  clear hc heq
  go_upto_region 7 with (go_at_call 22; refine (num_Put.calls k (fun _ => True) (.slice none 0 0) [] a0 b0 wf _ HB1'.out (Kd.R_nil _ _ _ _ _) HB0.out).mono ?_; rintro e w2 ⟨v2, rfl, ho, hb, hk⟩; have HO := Aside0.mk (Kd.R_mono (ok' := fun _ => True) ho (fun _ _ => trivial)); have HB := Aside0.mk hb; clear ho hb hk)
  go_wp2
  go_loopg [7, 23] (fs.length + 1) (fun kq v7 v23 w' => ∃ (b : List Int) (i : Nat), v23 = .int .i64 i ∧ Aside0 (i ≤ fs.length ∧ fs.length + 1 ≤ i + kq) ∧ Aside0 (putAll k a1_0 a1_1 a1_2 a1_3 a1_4 a1_5 a1_6 (fs.drop i) b = some b1) ∧ Aside0 (Kd.R (Kd.int .u8) 5 w' wf.heap.size (fun _ => True) v7 b) ∧ Aside0 (Below wf.heap.size wf w'))
  case atStart => exact ⟨b0, 0, rfl, ⟨by omega⟩, HB1, HO, HB⟩
  case round =>
    clear HB1 HO HB
    obtain ⟨b, i, rfl, HI, HA, HO, HB⟩ := hrel
    cases gk with
    | zero => exact absurd HI.out (by omega)
    | succ k1 =>
      by_cases hlt : i < fs.length
      · obtain ⟨ad', e1, hx⟩ := Kd.at_int (Kd.C_below HG.out HB.out) (i : Int) (by omega) (by omega)
        cases e1
        obtain ⟨f, hf⟩ : ∃ f, f = fs[i] := ⟨_, rfl⟩
        have hd : fs.drop i = f :: fs.drop (i + 1) := by rw [List.drop_eq_getElem_cons hlt, hf]
        have hrd : rd fs (i : Int) = f := by unfold rd; rw [Int.toNat_natCast, List.getD_eq_getElem?_getD, List.getElem?_eq_getElem hlt, hf]; rfl
        rw [hrd, Int.toNat_natCast] at hx
        have h2 := HA.out
        rw [hd, putAll, Option.bind_eq_some_iff] at h2
        obtain ⟨b', hb', h2⟩ := h2
        have HP := Aside0.mk hb'
        have H2 := Aside0.mk h2
        have hl := HL.out
        clear h2 hd hrd hf hb'
        have hc := (fun i => blk_cell (blk_below HR.out HB.out) i)
        go_wp2_with (go_at_call 130; refine (schema_put.calls k (fun _ => True) u7 b f a1_0 a1_1 a1_2 a1_3 a1_4 a1_5 a1_6 b' wf _ HB.out HO.out HP.out).mono ?_; rintro e w3 ⟨v3, rfl, ho, hb, hk⟩; have HO3 := Aside0.mk (Kd.R_mono (ok' := fun _ => True) ho (fun _ _ => trivial)); have HB3 := Aside0.mk hb; clear ho hb hk)
        go_roundg k1
        case measure => omega
        case rel => exact ⟨b', i + 1, by go_num, ⟨by have := HI.out; omega⟩, H2, HO3, HB3⟩
      · have h2 := HA.out
        rw [List.drop_eq_nil_of_le (by omega), putAll] at h2
        obtain rfl := Option.some.inj h2
        clear h2
        go_wp2
        go_ret2
        exact ⟨_, by first | rfl | (simp; done), Kd.R_lower HO.out (below_size HBF.out), below_step HBF.out HB.out⟩
/-! ### segment_data: function 44 -/
def segment_data.l0 : Nat → Int → List Int → List (S62) → Int → Int → Option (List Int)
  | 0, _, _, _, _, _ => none
  | k + 1, x0, x7, x20, x21, x22 => if x22 < x21 then (if 0 ≤ x22 then (if x22 < (x20.length : Int) then ((schema_Encode.f k x0 ((rd_T62 x20 x22).f0) ((rd_T62 x20 x22).f1) ((rd_T62 x20 x22).f2) ((rd_T62 x20 x22).f3.f0) ((rd_T62 x20 x22).f3.f1) ((rd_T62 x20 x22).f3.f2) ((rd_T62 x20 x22).f4)).bind fun bt608 => ((num_Put.f k x7 (bt608.1.length : Int)).bind fun t612 => (if t612.length + bt608.1.length < 140737488355328 then (segment_data.l0 k x0 (t612 ++ bt608.1) x20 x21 (wrap64 (x22 + 1))) else (none)))) else (none)) else (none)) else (some x7)
def segment_data.f (k : Nat) (a0 : Int) (l1 : List (S62)) : Option (List Int) := if a0 = 3 then ((block_Encode.f k l1).bind fun bt602 => (some bt602.1)) else (segment_data.l0 k a0 ([] : List Int) l1 (l1.length : Int) 0)
set_option maxHeartbeats 8000000 in
set_option maxRecDepth 100000 in
theorem segment_data.calls (k : Nat) (a0 : Int) (A1 : Option Addr) (c1 : Nat) (l1 : List (S62)) (r : List Int) (w : World) (hr1 : Kd.C k62 w A1 l1.length l1) (hc1 : l1.length ≤ c1) (h : segment_data.f k a0 l1 = some r) :
    Calls Tryz.prog 44 #[.int .i64 a0, .slice A1 l1.length c1] w fun e w' => ∃ v0_ : Value, e = .returned (v0_) ∧ Kd.R (Kd.int .u8) 5 w' w.heap.size (fun _ => True) v0_ r ∧ Below w.heap.size w w' := by
  have hu62 := Tryz.underlying62
  have HR1 := Aside0.mk hr1
  have HC1 := Aside0.mk hc1
  clear hr1 hc1
  have HB := Aside0.mk (Below.refl w.heap.size w)
  have H : (if a0 = 3 then ((block_Encode.f k l1).bind fun bt602 => (some bt602.1)) else (segment_data.l0 k a0 ([] : List Int) l1 (l1.length : Int) 0)) = some r := h
  clear h
  by_cases c3 : a0 = 3
  · rw [if_pos c3] at H
    have c3b0 : (a0 == 3) = true := beq_iff_eq.mpr c3
    have c3b1 : (a0 != 3) = false := bne_eq_false_iff_eq.mpr c3
    clear c3
    replace H := Option.bind_eq_some_iff.mp H
    obtain ⟨⟨t602, t603⟩, A40, H⟩ := H
    replace H : (some t602) = some r := H
    have A4 := Aside0.mk A40
    clear A40
    obtain rfl := Option.some.inj H
    go_enter Tryz.func44, Tryz.ntmps44
    go_wp2_with (first | ((with_reducible refine gate_callee (f := 88) rfl ?_); refine goesL_ (some 16) rfl rfl Tryz.func88 (by kernel_rfl) rfl #[.slice A1 l1.length c1] rfl (by (try simp only [List.map_toArray, List.map_cons, List.map_nil]); first | done | rfl | (simp only [List.length_drop, List.length_take]; rfl)) ?_; (with_reducible refine (block_Encode.calls k _ _ l1 t602 t603 _ ?side1 ?side2 A4.out).mono ?_); (case side1 => repeat (first | exact HR1.out | (with_reducible refine Kd.C_alloc ?_ _) | (with_reducible refine Kd.C_drewN ?_ _) | (with_reducible refine Kd.C_drew ?_))); (case side2 => exact HC1.out); rintro e w5 ⟨v604, rfl, ho0, hb⟩; refine ⟨_, rfl, ?_⟩; have n0_ := Aside0.mk (Kd.R_lower ho0 (below_size (by repeat (first | (with_reducible first | exact HB.out | apply below_alloc | apply pw_below_drewN | apply below_drew1) | exact HB.out)))); have n1_ := Aside0.mk (below_step (by repeat (first | (with_reducible first | exact HB.out | apply below_alloc | apply pw_below_drewN | apply below_drew1) | exact HB.out)) hb); clear HB; have HO605 := n0_; have HB := n1_; clear n0_ n1_; (try clear hb); (try clear hb2); (try clear hk); (try clear hi); (try clear ho0)))
    go_ret
    exact ⟨_, by first | rfl | (simp [errW_none, errW_some] <;> rfl) | (simp [*, errW_none, errW_some] <;> rfl), by (with_reducible repeat (first | apply Kd.R_alloc | apply Kd.R_drewN | apply Kd.R_drew)); exact HO605.out, by repeat (first | (with_reducible first | exact HB.out | apply below_alloc | apply pw_below_drewN | apply below_drew1) | exact HB.out)⟩
  · rw [if_neg c3] at H
    have c3b0 : (a0 == 3) = false := beq_eq_false_iff_ne.mpr c3
    have c3b1 : (a0 != 3) = true := bne_iff_ne.mpr c3
    have H' := Aside0.mk H
    clear H
    go_enter Tryz.func44, Tryz.ntmps44
    go_wp2
    go_loopg [7, 22] k (fun kq v7 v22 w' => ∃ (x7_1 : List Int) (x22_1 : Int), v22 = .int .i64 x22_1 ∧ Aside0 (segment_data.l0 kq a0 x7_1 l1 (l1.length : Int) x22_1 = some r) ∧ Aside0 (kq ≤ k) ∧ Aside0 (Kd.R (Kd.int .u8) 5 w' w.heap.size (fun _ => True) v7 x7_1) ∧ Aside0 (Below w.heap.size w w'))
    case atStart => exact ⟨(([] : List Int)), (0), (by first | rfl | (simp; done) | (simp [*]; done)), H', ⟨Nat.le_refl _⟩, ⟨by first | exact Kd.R_nil _ _ _ _ _ | exact Kd.N_nil _ _ _ _ _ | exact Kd.V_nil _ _ _ _ _ | exact Kd.Q_nil _ _ _ _ _ | exact Kd.S_nil _ _ _ _ _⟩, ⟨by repeat (first | (with_reducible first | exact HB.out | apply below_alloc | apply pw_below_drewN | apply below_drew1) | exact HB.out)⟩⟩
    case round =>
      clear H'
      try clear c1
      try clear p2
      try clear c3
      try clear c3b0
      try clear c3b1
      try clear c4
      obtain ⟨x7_1, x22_1, rfl, HA, HK1, HO_7, HB⟩ := hrel
      cases gk with
      | zero => exact absurd HA.out (by simp [segment_data.l0])
      | succ k1 =>
        have H := HA.out
        clear HA
        simp only [segment_data.l0] at H
        by_cases c6 : x22_1 < (l1.length : Int)
        · rw [if_pos c6] at H
          have c6b0 : decide (x22_1 < (l1.length : Int)) = true := decide_eq_true c6
          clear c6
          by_cases c7 : 0 ≤ x22_1
          · rw [if_pos c7] at H
            have c7b0 : decide (0 ≤ x22_1) = true := decide_eq_true c7
            clear c7
            by_cases c8 : x22_1 < (l1.length : Int)
            · rw [if_pos c8] at H
              have c8b0 : decide (x22_1 < (l1.length : Int)) = true := decide_eq_true c8
              clear c8
              replace H := Option.bind_eq_some_iff.mp H
              obtain ⟨⟨t608, t611⟩, A90, H⟩ := H
              replace H : ((num_Put.f k1 x7_1 (t608.length : Int)).bind fun t612 => (if t612.length + t608.length < 140737488355328 then (segment_data.l0 k1 a0 (t612 ++ t608) l1 (l1.length : Int) (wrap64 (x22_1 + 1))) else (none))) = some r := H
              have A9 := Aside0.mk A90
              clear A90
              replace H := Option.bind_eq_some_iff.mp H
              obtain ⟨t612, A100, H⟩ := H
              replace H : (if t612.length + t608.length < 140737488355328 then (segment_data.l0 k1 a0 (t612 ++ t608) l1 (l1.length : Int) (wrap64 (x22_1 + 1))) else (none)) = some r := H
              have A10 := Aside0.mk A100
              clear A100
              by_cases c11 : t612.length + t608.length < 140737488355328
              · rw [if_pos c11] at H
                have LMc11 := Aside0.mk c11
                clear c11
                obtain ⟨y615, hy615⟩ : ∃ y_ : List Int, y_ = (t612 ++ t608) := ⟨_, rfl⟩
                replace H : (segment_data.l0 k1 a0 y615 l1 (l1.length : Int) (wrap64 (x22_1 + 1))) = some r := by first | (rw [hy615]; with_reducible exact H) | (have H2_ := (Option.bind_some _ _).symm.trans H; rw [hy615]; with_reducible exact H2_) | (have H2_ := (Option.bind_some _ _).symm.trans H; with_reducible exact H2_) | with_reducible exact H | (rw [hy615]; exact H) | exact H
                have Ny615 := Aside0.mk hy615
                clear hy615
                have H' := Aside0.mk H
                clear H
                have p606 : 0 ≤ (x22_1 : Int) := of_decide_eq_true (by first | (with_reducible assumption) | assumption)
                have q606 : x22_1 < (l1.length : Int) := of_decide_eq_true (by first | (with_reducible assumption) | assumption)
                obtain ⟨ad606, e606, hx606_0, hx606_1, hx606_2, hx606_3, hx606_4, hx606_5, hx606_6⟩ := at_T62 HR1.out x22_1 p606 q606
                cases e606
                replace hx606_0 := (HB.out.cell (World.block_lt_of_cell? w _ hx606_0)).trans hx606_0
                replace hx606_1 := (HB.out.cell (World.block_lt_of_cell? w _ hx606_1)).trans hx606_1
                replace hx606_2 := (HB.out.cell (World.block_lt_of_cell? w _ hx606_2)).trans hx606_2
                replace hx606_3 := (HB.out.cell (World.block_lt_of_cell? w _ hx606_3)).trans hx606_3
                replace hx606_4 := (HB.out.cell (World.block_lt_of_cell? w _ hx606_4)).trans hx606_4
                replace hx606_5 := (HB.out.cell (World.block_lt_of_cell? w _ hx606_5)).trans hx606_5
                replace hx606_6 := (HB.out.cell (World.block_lt_of_cell? w _ hx606_6)).trans hx606_6
                replace p606 := eq_true p606
                replace q606 := eq_true q606
                have tok11_ : True := trivial; have tok12_ : True := trivial; have tok13_ : True := trivial
                go_wp2_with (first | ((with_reducible refine gate_dst (N := 9) rfl ?_); refine box_event ?hg (N := 9) ?hd (cs := #[.int .i64 0, .int .i64 0, .int .i64 0, .int .i64 0, .int .i64 0, .int .i64 0, .int .i64 0]) (t := 62) ?hr ?_; (case hd => rfl); (case hg => rfl); (case hr => first | (go_simp; done) | (go_simp; rfl)); intro gb607 hg w12 hbox hb; have n0_ := Aside0.mk (Kd.R_below (by (with_reducible repeat (first | apply Kd.R_alloc | apply Kd.R_drewN | apply Kd.R_drew)); exact HO_7.out) hb); have n1_ := Aside0.mk (below_step (by repeat (first | (with_reducible first | exact HB.out | apply below_alloc | apply pw_below_drewN | apply below_drew1) | exact HB.out)) hb); have n2_ := Aside0.mk (hbox); have n3_ := Aside0.mk ((by rw [hg]; exact (below_size (by repeat (first | (with_reducible first | exact HB.out | apply below_alloc | apply pw_below_drewN | apply below_drew1) | exact HB.out))) : w.heap.size ≤ gb607)); have n4_ := Aside0.mk ((by rw [hg]; exact (below_size (by repeat (first | (with_reducible first | exact HB.out | apply below_alloc | apply pw_below_drewN | apply below_drew1) | exact HB.out))) : w.heap.size ≤ gb607)); clear HO_7; clear HB; have HO_7 := n0_; have HB := n1_; have BK607 := n2_; have GW607 := n3_; have GE607 := n4_; clear n0_ n1_ n2_ n3_ n4_; clear hb hbox hg; have hcz13_0 : w12.cell? ⟨gb607, 0, none⟩ = some (.int .i64 0) := (blk_cell BK607.out 0).trans rfl; have hcz13_1 : w12.cell? ⟨gb607, 1, none⟩ = some (.int .i64 0) := (blk_cell BK607.out 1).trans rfl; have hcz13_2 : w12.cell? ⟨gb607, 2, none⟩ = some (.int .i64 0) := (blk_cell BK607.out 2).trans rfl; have hcz13_3 : w12.cell? ⟨gb607, 3, none⟩ = some (.int .i64 0) := (blk_cell BK607.out 3).trans rfl; have hcz13_4 : w12.cell? ⟨gb607, 4, none⟩ = some (.int .i64 0) := (blk_cell BK607.out 4).trans rfl; have hcz13_5 : w12.cell? ⟨gb607, 5, none⟩ = some (.int .i64 0) := (blk_cell BK607.out 5).trans rfl; have hcz13_6 : w12.cell? ⟨gb607, 6, none⟩ = some (.int .i64 0) := (blk_cell BK607.out 6).trans rfl; have hfz13_0 := blk_frozen BK607.out 0; have hfz13_1 := blk_frozen BK607.out 1; have hfz13_2 := blk_frozen BK607.out 2; have hfz13_3 := blk_frozen BK607.out 3; have hfz13_4 := blk_frozen BK607.out 4; have hfz13_5 := blk_frozen BK607.out 5; have hfz13_6 := blk_frozen BK607.out 6) | ((with_reducible refine gate_callee (f := 89) rfl ?_); clear tok11_; refine goesL_ (some 29) rfl rfl Tryz.func89 (by kernel_rfl) rfl #[.int .i64 a0, .agg #[.int .i64 ((rd_T62 l1 x22_1).f0), .int .i64 ((rd_T62 l1 x22_1).f1), .int .i64 ((rd_T62 l1 x22_1).f2), .int .i64 ((rd_T62 l1 x22_1).f3.f0), .int .i64 ((rd_T62 l1 x22_1).f3.f1), .int .i64 ((rd_T62 l1 x22_1).f3.f2), .int .i64 ((rd_T62 l1 x22_1).f4)]] rfl (by (try simp only [List.map_toArray, List.map_cons, List.map_nil]); first | done | rfl | (simp only [List.length_drop, List.length_take]; rfl)) ?_; (with_reducible refine (schema_Encode.calls k1 a0 ((rd_T62 l1 x22_1).f0) ((rd_T62 l1 x22_1).f1) ((rd_T62 l1 x22_1).f2) ((rd_T62 l1 x22_1).f3.f0) ((rd_T62 l1 x22_1).f3.f1) ((rd_T62 l1 x22_1).f3.f2) ((rd_T62 l1 x22_1).f4) t608 t611 _ A9.out).mono ?_); rintro e w14 ⟨v609, rfl, ho0, hb⟩; refine ⟨_, rfl, ?_⟩; have n0_ := Aside0.mk (Kd.R_elder' (by (with_reducible repeat (first | apply Kd.R_alloc | apply Kd.R_drewN | apply Kd.R_drew)); exact (Kd.R_mono (Kd.R_far (p := ⟨gb607, 6, none⟩) (Kd.R_far (p := ⟨gb607, 5, none⟩) (Kd.R_far (p := ⟨gb607, 4, none⟩) (Kd.R_far (p := ⟨gb607, 3, none⟩) (Kd.R_far (p := ⟨gb607, 2, none⟩) (Kd.R_far (p := ⟨gb607, 1, none⟩) (Kd.R_far (p := ⟨gb607, 0, none⟩) (Kd.R_types HO_7.out BK607.out (by decide)) (fun _ hk => hk.2) (.int .i64 ((rd_T62 l1 x22_1).f0))) (fun _ hk => hk.2) (.int .i64 ((rd_T62 l1 x22_1).f1))) (fun _ hk => hk.2) (.int .i64 ((rd_T62 l1 x22_1).f2))) (fun _ hk => hk.2) (.int .i64 ((rd_T62 l1 x22_1).f3.f0))) (fun _ hk => hk.2) (.int .i64 ((rd_T62 l1 x22_1).f3.f1))) (fun _ hk => hk.2) (.int .i64 ((rd_T62 l1 x22_1).f3.f2))) (fun _ hk => hk.2) (.int .i64 ((rd_T62 l1 x22_1).f4))) (fun _ h_ => h_.1))) (Kd.R_base ho0) hb); have n1_ := Aside0.mk (Kd.R_lower (Kd.R_new' ho0 (Kd.R_lt (by (with_reducible repeat (first | apply Kd.R_alloc | apply Kd.R_drewN | apply Kd.R_drew)); exact (Kd.R_mono (Kd.R_far (p := ⟨gb607, 6, none⟩) (Kd.R_far (p := ⟨gb607, 5, none⟩) (Kd.R_far (p := ⟨gb607, 4, none⟩) (Kd.R_far (p := ⟨gb607, 3, none⟩) (Kd.R_far (p := ⟨gb607, 2, none⟩) (Kd.R_far (p := ⟨gb607, 1, none⟩) (Kd.R_far (p := ⟨gb607, 0, none⟩) (Kd.R_types HO_7.out BK607.out (by decide)) (fun _ hk => hk.2) (.int .i64 ((rd_T62 l1 x22_1).f0))) (fun _ hk => hk.2) (.int .i64 ((rd_T62 l1 x22_1).f1))) (fun _ hk => hk.2) (.int .i64 ((rd_T62 l1 x22_1).f2))) (fun _ hk => hk.2) (.int .i64 ((rd_T62 l1 x22_1).f3.f0))) (fun _ hk => hk.2) (.int .i64 ((rd_T62 l1 x22_1).f3.f1))) (fun _ hk => hk.2) (.int .i64 ((rd_T62 l1 x22_1).f3.f2))) (fun _ hk => hk.2) (.int .i64 ((rd_T62 l1 x22_1).f4))) (fun _ h_ => h_.1))))) (below_size (by repeat (first | (with_reducible first | exact HB.out | apply below_alloc | apply pw_below_drewN | apply below_drew1 | refine below_set ?_ GE607.out) | exact HB.out)))); have n2_ := Aside0.mk (blk_below (g := gb607) (o := .cells #[.int .i64 ((rd_T62 l1 x22_1).f0), .int .i64 ((rd_T62 l1 x22_1).f1), .int .i64 ((rd_T62 l1 x22_1).f2), .int .i64 ((rd_T62 l1 x22_1).f3.f0), .int .i64 ((rd_T62 l1 x22_1).f3.f1), .int .i64 ((rd_T62 l1 x22_1).f3.f2), .int .i64 ((rd_T62 l1 x22_1).f4)] 62 (0, 0)) (by (with_reducible repeat (first | refine blk_drewN ?_ _ | refine blk_drew ?_ | refine blk_alloc ?_ _)); refine blk_put (cs := #[.int .i64 ((rd_T62 l1 x22_1).f0), .int .i64 ((rd_T62 l1 x22_1).f1), .int .i64 ((rd_T62 l1 x22_1).f2), .int .i64 ((rd_T62 l1 x22_1).f3.f0), .int .i64 ((rd_T62 l1 x22_1).f3.f1), .int .i64 ((rd_T62 l1 x22_1).f3.f2), .int .i64 0]) ?_ 6 _ (by first | rfl | (simp only [gt_iff_lt, *]; rfl) | (simp [*]; done)); (with_reducible repeat (first | refine blk_drewN ?_ _ | refine blk_drew ?_ | refine blk_alloc ?_ _)); refine blk_put (cs := #[.int .i64 ((rd_T62 l1 x22_1).f0), .int .i64 ((rd_T62 l1 x22_1).f1), .int .i64 ((rd_T62 l1 x22_1).f2), .int .i64 ((rd_T62 l1 x22_1).f3.f0), .int .i64 ((rd_T62 l1 x22_1).f3.f1), .int .i64 0, .int .i64 0]) ?_ 5 _ (by first | rfl | (simp only [gt_iff_lt, *]; rfl) | (simp [*]; done)); (with_reducible repeat (first | refine blk_drewN ?_ _ | refine blk_drew ?_ | refine blk_alloc ?_ _)); refine blk_put (cs := #[.int .i64 ((rd_T62 l1 x22_1).f0), .int .i64 ((rd_T62 l1 x22_1).f1), .int .i64 ((rd_T62 l1 x22_1).f2), .int .i64 ((rd_T62 l1 x22_1).f3.f0), .int .i64 0, .int .i64 0, .int .i64 0]) ?_ 4 _ (by first | rfl | (simp only [gt_iff_lt, *]; rfl) | (simp [*]; done)); (with_reducible repeat (first | refine blk_drewN ?_ _ | refine blk_drew ?_ | refine blk_alloc ?_ _)); refine blk_put (cs := #[.int .i64 ((rd_T62 l1 x22_1).f0), .int .i64 ((rd_T62 l1 x22_1).f1), .int .i64 ((rd_T62 l1 x22_1).f2), .int .i64 0, .int .i64 0, .int .i64 0, .int .i64 0]) ?_ 3 _ (by first | rfl | (simp only [gt_iff_lt, *]; rfl) | (simp [*]; done)); (with_reducible repeat (first | refine blk_drewN ?_ _ | refine blk_drew ?_ | refine blk_alloc ?_ _)); refine blk_put (cs := #[.int .i64 ((rd_T62 l1 x22_1).f0), .int .i64 ((rd_T62 l1 x22_1).f1), .int .i64 0, .int .i64 0, .int .i64 0, .int .i64 0, .int .i64 0]) ?_ 2 _ (by first | rfl | (simp only [gt_iff_lt, *]; rfl) | (simp [*]; done)); (with_reducible repeat (first | refine blk_drewN ?_ _ | refine blk_drew ?_ | refine blk_alloc ?_ _)); refine blk_put (cs := #[.int .i64 ((rd_T62 l1 x22_1).f0), .int .i64 0, .int .i64 0, .int .i64 0, .int .i64 0, .int .i64 0, .int .i64 0]) ?_ 1 _ (by first | rfl | (simp only [gt_iff_lt, *]; rfl) | (simp [*]; done)); (with_reducible repeat (first | refine blk_drewN ?_ _ | refine blk_drew ?_ | refine blk_alloc ?_ _)); refine blk_put (cs := #[.int .i64 0, .int .i64 0, .int .i64 0, .int .i64 0, .int .i64 0, .int .i64 0, .int .i64 0]) ?_ 0 _ (by first | rfl | (simp only [gt_iff_lt, *]; rfl) | (simp [*]; done)); (with_reducible repeat (first | refine blk_drewN ?_ _ | refine blk_drew ?_ | refine blk_alloc ?_ _)); exact BK607.out) hb); have n3_ := Aside0.mk (below_step (by repeat (first | (with_reducible first | exact HB.out | apply below_alloc | apply pw_below_drewN | apply below_drew1 | refine below_set ?_ GE607.out) | exact HB.out)) hb); clear HO_7; clear BK607; clear HB; have HO_7 := n0_; have HO610 := n1_; have BK607 := n2_; have HB := n3_; clear n0_ n1_ n2_ n3_; (try clear hb); (try clear hb2); (try clear hk); (try clear hi); (try clear ho0); obtain ⟨Ao15, co15, eo15⟩ := Kd.R_slice HO610.out; subst eo15; obtain ⟨Ao16, co16, eo16⟩ := Kd.R_slice HO_7.out; subst eo16) | ((with_reducible refine gate_callee (f := 22) rfl ?_); clear tok12_; refine goesL_ (some 35) rfl rfl Tryz.func22 (by kernel_rfl) rfl #[.slice Ao16 x7_1.length co16, .int .i64 (t608.length : Int)] rfl (by (try simp only [List.map_toArray, List.map_cons, List.map_nil]); first | done | rfl | (simp only [List.length_drop, List.length_take]; rfl)) ?_; (with_reducible refine (num_Put.calls k1 (fun k_ => some k_ = (.slice Ao16 x7_1.length co16 : Value).ownBlock) (.slice Ao16 x7_1.length co16) x7_1 (t608.length : Int) t612 w _ ?side1 ?side2 A10.out).mono ?_); (case side1 => repeat (first | (with_reducible first | exact HB.out | apply below_alloc | apply pw_below_drewN | apply below_drew1 | refine below_set ?_ GE607.out) | exact HB.out)); (case side2 => exact Kd.R_tight rfl HO_7.out); rintro e w17 ⟨v613, rfl, ho0, hb, hkp⟩; refine ⟨_, rfl, ?_⟩; have n0_ := Aside0.mk (blk_kept (by (with_reducible repeat (first | refine blk_drewN ?_ _ | refine blk_drew ?_ | refine blk_alloc ?_ _)); exact BK607.out) hkp (fun hs_ => (fun e_ => (Kd.R_ne HO_7.out BK607.out (by decide)) e_) hs_)); have n1_ := Aside0.mk (Kd.R_mono (ok' := fun k_ => some k_ ≠ (v613 : Value).ownBlock) (Kd.R_keptB (HO610.out) hkp (fun k_ hk_ hs_ => (hk_.2) hs_)) (fun k_ hk_ => fun e_ => Or.elim (ho0.1 k_ e_.symm) (fun hs_ => hk_.2.1 hs_) (fun hn_ => Nat.not_le.2 hk_.2.2 hn_))); have n2_ := Aside0.mk (Kd.R_mono (ok' := fun k_ => some k_ ≠ (.slice Ao15 t608.length co15 : Value).ownBlock) ho0 (fun k_ hk_ => Or.elim hk_ (fun hs_ => fun e_ => (((HO610.out).1 k_ e_.symm).2) hs_) (fun hn_ => (Kd.fresh' (Kd.R_lt (by (with_reducible repeat (first | apply Kd.R_alloc | apply Kd.R_drewN | apply Kd.R_drew)); exact HO610.out)) k_ hn_)))); have n3_ := Aside0.mk (hb); clear BK607; clear HO610; clear HB; clear HO_7; have BK607 := n0_; have HO610 := n1_; have HO614 := n2_; have HB := n3_; clear n0_ n1_ n2_ n3_; (try clear hb); (try clear hkp); (try clear ho0)) | ((with_reducible refine gate_builtin (b := .append) (xs := #[.tmp 35, .tmp 36]) rfl ?_); clear tok13_; at_builtin; refine Kd.R_append_rows (Kd.int .u8) (w0 := w) w.heap.size rfl (.tmp 35) (.tmp 36) 26 5 (.int .u8 0) 1 rfl Tryz.underlying26 info5 rfl (by decide) (by omega) v613 t612 t608 _ _ _ (fun k_ => some k_ ≠ (.slice Ao15 t608.length co15 : Value).ownBlock) (fun _ => False) rfl rfl ?aO ?aR (fun _ _ h => h) (fun _ h => h.elim) ?aF ?aB ?aS ?aL ?_; (case aR => repeat (first | exact (Kd.R_reads' HO610.out).2.2 | (with_reducible refine Kd.C_alloc ?_ _) | (with_reducible refine Kd.C_drewN ?_ _) | (with_reducible refine Kd.C_drew ?_))); (case aB => exact (by repeat (first | (with_reducible first | exact HB.out | apply below_alloc | apply pw_below_drewN | apply below_drew1 | refine below_set ?_ GE607.out) | exact HB.out))); (case aF => exact (fun k_ hk => Kd.fresh' (Kd.R_lt (by (with_reducible repeat (first | apply Kd.R_alloc | apply Kd.R_drewN | apply Kd.R_drew)); exact HO610.out)) k_ hk)); (case aO => exact (by (with_reducible repeat (first | apply Kd.R_alloc | apply Kd.R_drewN | apply Kd.R_drew)); exact HO614.out)); (case aS => exact (below_size (by repeat (first | (with_reducible first | exact HB.out | apply below_alloc | apply pw_below_drewN | apply below_drew1 | refine below_set ?_ GE607.out) | exact HB.out)))); (case aL => have := LMc11.out; omega); intro v616 w18 ho hb hg hat; rw [← Ny615.out] at ho; have n0_ := Aside0.mk (blk_grown (g := gb607) (o := .cells #[.int .i64 ((rd_T62 l1 x22_1).f0), .int .i64 ((rd_T62 l1 x22_1).f1), .int .i64 ((rd_T62 l1 x22_1).f2), .int .i64 ((rd_T62 l1 x22_1).f3.f0), .int .i64 ((rd_T62 l1 x22_1).f3.f1), .int .i64 ((rd_T62 l1 x22_1).f3.f2), .int .i64 ((rd_T62 l1 x22_1).f4)] 62 (0, 0)) (by (with_reducible repeat (first | refine blk_drewN ?_ _ | refine blk_drew ?_ | refine blk_alloc ?_ _)); exact BK607.out) hg (Kd.R_ne HO614.out BK607.out (by decide))); have n1_ := Aside0.mk (Kd.R_after (ok := (fun _ => True)) (by (with_reducible repeat (first | apply Kd.R_alloc | apply Kd.R_drewN | apply Kd.R_drew)); exact Kd.R_mono HO610.out (fun _ hk => ⟨trivial, hk⟩)) hg hat); have n2_ := Aside0.mk (hb); have n3_ := Aside0.mk (ho); clear BK607; clear HO610; clear HB; clear HO614; have BK607 := n0_; have HO610 := n1_; have HB := n2_; have HO617 := n3_; clear n0_ n1_ n2_ n3_; clear ho hb hg hat))
                go_roundg k1
                case measure => have := HK1.out; omega
                case rel => exact ⟨(y615), (wrap64 (x22_1 + 1)), (by first | rfl | (simp; done) | (simp [*]; done)), H', ⟨by have := HK1.out; omega⟩, ⟨by (with_reducible repeat (first | apply Kd.R_alloc | apply Kd.R_drewN | apply Kd.R_drew)); exact Kd.R_mono HO617.out (fun _ hk => trivial)⟩, ⟨by repeat (first | (with_reducible first | exact HB.out | apply below_alloc | apply pw_below_drewN | apply below_drew1 | refine below_set ?_ GE607.out) | exact HB.out)⟩⟩
              · rw [if_neg c11] at H
                exact absurd H (by simp)
            · rw [if_neg c8] at H
              exact absurd H (by simp)
          · rw [if_neg c7] at H
            exact absurd H (by simp)
        · rw [if_neg c6] at H
          have c6b0 : decide (x22_1 < (l1.length : Int)) = false := decide_eq_false c6
          clear c6
          obtain rfl := Option.some.inj H
          go_wp2
          go_ret
          exact ⟨_, by first | rfl | (simp [errW_none, errW_some] <;> rfl) | (simp [*, errW_none, errW_some] <;> rfl), by (with_reducible repeat (first | apply Kd.R_alloc | apply Kd.R_drewN | apply Kd.R_drew)); exact HO_7.out, by repeat (first | (with_reducible first | exact HB.out | apply below_alloc | apply pw_below_drewN | apply below_drew1) | exact HB.out)⟩
/-! ### segment_blocks: function 17 -/
-- GIVEN ferryman/segment.blocks=../up/Blocks.given:making:rounds
/-- A cut with a capacity of its own, from the beginning. -/
theorem segment_blocks.cut3 {P : Program} (t e : TypeId) {i : TypeInfo} (ht : P.underlying t = some (.slice e)) (hi : P.info? e = some i) (A : Option Addr) (n c : Nat) (j : Nat) (hm : j ≤ n) (hc : n ≤ c) :
    ∀ W : World, (Instr.slice t (.slice A n c) none (some (.int .i64 (j : Int))) (some (.int .i64 (j : Int)))).run P W = .ok (.slice A j j) W := by
  intro W
  have hel : P.elem t = e := by simp [Program.elem, ht]
  have hu : P.underlying t = some (.slice (P.elem t)) := by rw [hel]; exact ht
  have ha : (A.map fun x => x.add 0) = A := by cases A <;> simp [Addr.add]
  rw [run_slice_hm W t A n c hu .i64 .i64 (j : Int) (j : Int) (by omega) (by omega) (by omega), hel]
  simp [sizeOf, typeInfo, hi, sliced, Result.andThen, ha]
def segment_blocks.l0 : Nat → Int → List S62 → List (List Int) → Option (List (List Int))
  | 0, _, _, _ => none
  | k + 1, v, l, out => if l.length = 0 then some out else (segment_data.f k v (l.take 16)).bind fun d => (segment_framed.f k d).bind fun fr => if out.length < 5864062014805 then segment_blocks.l0 k v (l.drop 16) (out ++ [fr]) else none
def segment_blocks.f (k : Nat) (a0 : Int) (l1 : List S62) : Option (List (List Int)) := segment_blocks.l0 k a0 l1 []
set_option maxHeartbeats 8000000 in
set_option maxRecDepth 100000 in
theorem segment_blocks.calls (k : Nat) (a0 : Int) (A1 : Option Addr) (c1 : Nat) (l1 : List S62) (r : List (List Int)) (w : World) (hr1 : Kd.C k62 w A1 l1.length l1) (hc1 : l1.length ≤ c1) (h : segment_blocks.f k a0 l1 = some r) :
    Calls Tryz.prog 17 #[.int .i64 a0, .slice A1 l1.length c1] w fun e w' => ∃ v0_ : Value, e = .returned v0_ ∧ Kd.S (Kd.slice 5 (Kd.int .u8)) 26 w' w.heap.size (fun _ => True) v0_ r ∧ Below w.heap.size w w' := by
  have HR1 := Aside0.mk hr1
  have HC1 := Aside0.mk hc1
  clear hr1 hc1
  have HB := Aside0.mk (Below.refl w.heap.size w)
  have H' := Aside0.mk (show segment_blocks.l0 k a0 l1 [] = some r from h)
  clear h
  go_enter Tryz.func17, Tryz.ntmps17
  go_wp2
  go_loopg [1, 5] k (fun kq v1 v5 w' => ∃ (A : Option Addr) (c : Nat) (l : List S62) (out : List (List Int)), v1 = .slice A l.length c ∧ Aside0 (Kd.C k62 w A l.length l) ∧ Aside0 (l.length ≤ c) ∧ Aside0 (segment_blocks.l0 kq a0 l out = some r) ∧ Aside0 (kq ≤ k) ∧ Aside0 (Kd.S (Kd.slice 5 (Kd.int .u8)) 26 w' w.heap.size (fun _ => True) v5 out) ∧ Aside0 (Below w.heap.size w w'))
  case atStart => exact ⟨A1, c1, l1, [], rfl, HR1, HC1, H', ⟨Nat.le_refl _⟩, ⟨Kd.S_nil _ _ _ _ _⟩, HB⟩
  case round =>
    clear H' HB HR1 HC1
    obtain ⟨A, c, l, out, rfl, HR, HC, HA, HK1, HO, HB⟩ := hrel
    cases gk with
    | zero => exact absurd HA.out (by simp [segment_blocks.l0])
    | succ k1 =>
      have h := HA.out
      clear HA
      simp only [segment_blocks.l0] at h
      by_cases h0 : l.length = 0
      · rw [if_pos h0] at h
        obtain rfl := Option.some.inj h
        have c0 : decide (0 < (l.length : Int)) = false := decide_eq_false (by omega)
        have c0' : decide (0 < l.length) = false := decide_eq_false (by omega)
        clear h0 h
        go_wp2
        go_ret
        exact ⟨_, rfl, HO.out, HB.out⟩
      · rw [if_neg h0, Option.bind_eq_some_iff] at h
        obtain ⟨d, hd, h⟩ := h
        rw [Option.bind_eq_some_iff] at h
        obtain ⟨fr, hfr, h⟩ := h
        by_cases hlt : out.length < 5864062014805
        case neg => exact absurd h (by simp [hlt])
        rw [if_pos hlt] at h
        obtain ⟨i0, hi0, _, hsz, _⟩ := info_parts info62
        obtain ⟨n, hn, hn16, hnl, hmin, ht, hdr⟩ : ∃ n : Nat, 0 < n ∧ n ≤ 16 ∧ n ≤ l.length ∧ (if (16 : Int) < (l.length : Int) then (16 : Int) else (l.length : Int)) = (n : Int) ∧ l.take 16 = l.take n ∧ l.drop 16 = l.drop n := by
          by_cases h16 : 16 < l.length
          · exact ⟨16, by omega, by omega, by omega, by rw [if_pos (by omega)]; rfl, rfl, rfl⟩
          · exact ⟨l.length, by omega, by omega, by omega, by rw [if_neg (by omega)], by rw [List.take_of_length_le (by omega), List.take_of_length_le (Nat.le_refl _)], by rw [List.drop_eq_nil_of_le (by omega), List.drop_eq_nil_of_le (Nat.le_refl _)]⟩
        rw [ht] at hd
        rw [hdr] at h
        have hC1 := Kd.C_take (m := n) HR.out hnl
        have hC2 := Kd.C_drop (m := n) (c := c) HR.out hnl HC.out
        obtain ⟨l2, hl2⟩ : ∃ l2, l2 = l.take n := ⟨_, rfl⟩
        obtain ⟨l3, hl3⟩ : ∃ l3, l3 = l.drop n := ⟨_, rfl⟩
        have e2 : l2.length = n := by rw [hl2, List.length_take]; omega
        have e3 : l3.length = l.length - n := by rw [hl3, List.length_drop]
        rw [← hl2] at hd hC1
        rw [← hl3] at h hC2
        have hcut0 := segment_blocks.cut3 (P := Tryz.prog) 22 62 Tryz.underlying22 hi0 A l.length c n hnl HC.out
        have hcut : ∀ W : World, (Instr.slice 22 (.slice A l.length c) none (some (.int .i64 (n : Int))) (some (.int .i64 (n : Int)))).run Tryz.prog W = .ok (.slice A l2.length l2.length) W := by rw [e2]; exact hcut0
        have hcut2 := cut_from (P := Tryz.prog) 22 62 .i64 Tryz.underlying22 hi0 7 hsz A l.length c (n : Int) (by omega) (by omega)
        rw [Int.toNat_natCast, ← e3] at hcut2
        rw [show (Kd.sz k62) = 7 from rfl] at hC2
        obtain ⟨A3, hA3⟩ : ∃ A3, A3 = (if c = n then A else A.map (·.add (n * 7))) := ⟨_, rfl⟩
        rw [← hA3] at hcut2 hC2
        have hc3 := HC.out
        have H2 := Aside0.mk hC1
        have H3 := Aside0.mk hC2
        have HN := Aside0.mk (And.intro hn (And.intro hn16 (And.intro hnl (And.intro e2 (And.intro e3 hc3)))))
        have HD := Aside0.mk hd
        have HF := Aside0.mk hfr
        have HL := Aside0.mk hlt
        have H' := Aside0.mk h
        have c0 : decide (0 < (l.length : Int)) = true := decide_eq_true (by omega)
        have c0' : decide (0 < l.length) = true := decide_eq_true (by omega)
        clear h0 hn hn16 hnl ht hdr hC1 hC2 hl2 hl3 e2 e3 hA3 hd hfr h hlt hsz hc3 hcut0
        have tok1 : True := trivial
        have tok2 : True := trivial
        go_wp2_with (first
          | (go_at_call 44; clear tok1; refine (segment_data.calls k1 a0 A l2.length l2 d _ (Kd.C_below H2.out HB.out) (Nat.le_refl _) HD.out).mono ?_; rintro e w2 ⟨vd, rfl, ho, hb⟩; obtain ⟨Ad, cd, rfl⟩ := Kd.R_slice ho; have HO2 := Aside0.mk (Kd.S_below HO.out hb); have HB2 := Aside0.mk (below_step HB.out hb); have HCd := Aside0.mk (Kd.R_reads' ho).2; clear ho hb HO HB)
          | (go_at_call 42; clear tok2; refine (segment_framed.calls k1 Ad cd d fr _ HCd.out.2 HCd.out.1 HF.out).mono ?_; rintro e w3 ⟨vf, rfl, ho, hb⟩; have HO3 := Aside0.mk (Kd.S_elder' HO2.out (Kd.R_base ho) hb); have HB3 := Aside0.mk (below_step HB2.out hb); have HF3 := Aside0.mk (Kd.R_lower ho (below_size HB2.out)); obtain ⟨Af, cf, rfl⟩ := Kd.R_slice ho; clear ho hb HO2 HB2 HCd)
          | ((with_reducible refine gate_builtin (b := .append) (xs := #[.tmp 13, .tmp 21]) rfl ?_); at_builtin; refine Kd.S_append (Kd.slice 5 (Kd.int .u8)) (w0 := w) w.heap.size rfl (.tmp 13) (.tmp 21) 55 26 (.slice none 0 0) 24 rfl Tryz.underlying55 info26 rfl (by decide) (by omega) u5 out fr [.slice Af fr.length cf] (fun _ => True) (fun k_ => some k_ = (.slice Af fr.length cf : Value).ownBlock) rfl rfl ?aP (fun k_ hk_ => ((Kd.R_mono (ok' := fun k_ => ((fun _ => True)) k_ ∧ some k_ ≠ (u5 : Value).ownBlock) (Kd.R_apart' (HF3.out) (Kd.S_typed HO3.out) (by decide)) (fun k_ hk => ⟨trivial, hk.2⟩))).1 k_ hk_.symm) (fun _ _ => trivial) ?aO ?aB ?aS ?aL ?_; (case aP => exact Kd.M_row (Kd.R_mono (Kd.R_tight rfl (Kd.R_mono (ok' := fun k_ => ((fun _ => True)) k_ ∧ some k_ ≠ (u5 : Value).ownBlock) (Kd.R_apart' (HF3.out) (Kd.S_typed HO3.out) (by decide)) (fun k_ hk => ⟨trivial, hk.2⟩))) (fun _ h_ => h_))); (case aB => exact HB3.out); (case aO => exact Kd.S_mono HO3.out (fun k_ hk => ⟨trivial, fun e_ => hk.2 e_⟩)); (case aS => exact below_size HB3.out); (case aL => have := HL.out; omega); intro v4 w4 ho hb hg hat; have HO4 := Aside0.mk ho; have HB4 := Aside0.mk hb; clear ho hb hg hat))
        go_roundg k1
        case measure => have := HK1.out; omega
        case rel => exact ⟨A3, c - n, l3, out ++ [fr], rfl, H3, ⟨by have := HN.out; omega⟩, H', ⟨by have := HK1.out; omega⟩, HO4, HB4⟩

end Go.Proofs.YtgljebaiakhbfaaGreat.QTopUpgrades
