/- What this text proves: what TopUpgrades comes to, told by what its callees come to; condition: the argument's list is read. -/
import Derived.Test.YtgljebaiakhbfaaGreatUpDecode
import Derived.Test.YtgljebaiakhbfaaGreatUpSame
import Derived.Test.YtgljebaiakhbfaaGreatAwWorld
namespace Go.Proofs.YtgljebaiakhbfaaGreat.QTopUpgrades
open Go.RowKit Go.Proofs.YtgljebaiakhbfaaGreatW.PrintWords Go.Proofs.YtgljebaiakhbfaaGreatW.PrintLast Go.Proofs.YtgljebaiakhbfaaGreatW.PrintMore Go.Proofs.YtgljebaiakhbfaaGreat.Aw
set_option linter.unusedVariables false
set_option maxRecDepth 100000
set_option maxHeartbeats 8000000
/-- A record as numbers. -/
def tupR (r : S62) : List Int := [r.f0, r.f1, r.f2, r.f3.f0, r.f3.f1, r.f3.f2, r.f4]
theorem tupR_inj {r s : S62} (h : tupR r = tupR s) : r = s := by
  obtain ⟨a0, a1, a2, ⟨a3, a4, a5⟩, a6⟩ := r
  obtain ⟨b0, b1, b2, ⟨b3, b4, b5⟩, b6⟩ := s
  simp only [tupR, List.cons.injEq, and_true] at h
  obtain ⟨rfl, rfl, rfl, rfl, rfl, rfl, rfl⟩ := h
  rfl
theorem tupR_map : ∀ {l m : List S62}, l.map tupR = m.map tupR → l = m
  | [], [], _ => rfl
  | [], _ :: _, h => by simp at h
  | _ :: _, [], h => by simp at h
  | a :: l, b :: m, h => by
    rw [List.map_cons, List.map_cons, List.cons.injEq] at h
    rw [tupR_inj h.1, tupR_map h.2]
/-- What TopUpgrades comes to: true, if what is decoded is what it is to be. -/
def ferrymantop_TopUpgrades.f (k : Nat) (a0 : Int) (a1_0 : Int) (a1_1 : Int) (l1_2 : List S62) : Option Bool :=
  if l1_2.length > 100 then some true else (segment_Encode.f k a0 a1_0 a1_1 l1_2).bind fun b => if b.2 = 0 then (decodeF k b.1).bind fun x => (segment_Encode.f k 3 x.1 x.2.1 x.2.2).bind fun c => (decodeF k c.1).bind fun y =>
    if c.2 = 0 ∧ x.1 = a1_0 ∧ x.2.1 = a1_1 ∧ x.2.2.length = l1_2.length ∧ y.1 = x.1 ∧ y.2.1 = x.2.1 ∧ y.2.2.map tupR = x.2.2.map tupR then some true else none else some true
theorem text_of8 {w : World} {A : Option Addr} {n c : Nat} {xs : List Int} (h : (Kd.int .u8).C w A n xs) : (convert 26 9 (.slice A n c)).run Tryz.prog w = .ok (.string (strOfNums xs)) w :=
  Kd.C_string Tryz.underlying26 Tryz.underlying5 Tryz.underlying9 h
theorem upgrades_long (a0 kd f : Int) (A : Option Addr) (c : Nat) (l : List S62) (w : World) (hl : l.length > 100) :
    Calls Tryz.prog 3 #[.int .i64 a0, .agg #[.int .i64 kd, .int .i64 f, .slice A l.length c]] w fun e w' => e = .returned (.bool true) ∧ Below w.heap.size w w' := by
  have hu24 := Tryz.underlying24
  have d0 : decide (100 < (l.length : Int)) = true := decide_eq_true (by omega)
  have d0' : decide (100 < l.length) = true := decide_eq_true (by omega)
  clear hl
  go_enter Tryz.func3, Tryz.ntmps3
  go_upto_region 1 with fail
  obtain ⟨w1, hw1⟩ : ∃ w1, w1 = w.alloc (.cells #[.int .i64 kd, .int .i64 f, .slice A l.length c] 24) := ⟨_, rfl⟩
  have HS1 := Aside0.mk (show w1.heap[w.heap.size]? = some (.cells #[.int .i64 kd, .int .i64 f, .slice A l.length c] 24 (0, 0)) by rw [hw1]; exact blk_new w _)
  have HB1 := Aside0.mk (show Below w.heap.size w w1 by rw [hw1]; exact below_alloc (Below.refl _ _) _)
  rw [← hw1]
  clear hw1
  go_wp2_with (go_at_call 5; refine (awake_calls _).mono ?_; rintro e w2 ⟨rfl, hb⟩; have HB2 := Aside0.mk (below_step HB1.out hb); have hcs := (fun i => blk_cell (blk_below HS1.out hb) i); clear hb)
  go_ret
  exact ⟨rfl, HB2.out⟩
theorem upgrades_walk (k : Nat) (a0 kd f : Int) (A : Option Addr) (c : Nat) (l xs : List S62) (w : World) (b c2 : List Int) (e2 : Int) (hC : Kd.C k62 w A l.length l) (hc : l.length ≤ c) (hl : l.length ≤ 100) (hb : segment_Encode.f k a0 kd f l = some (b, e2))
    (hx : e2 = 0 → decodeF k b = some (kd, f, xs) ∧ segment_Encode.f k 3 kd f xs = some (c2, 0) ∧ decodeF k c2 = some (kd, f, xs) ∧ xs.length = l.length) :
    Calls Tryz.prog 3 #[.int .i64 a0, .agg #[.int .i64 kd, .int .i64 f, .slice A l.length c]] w fun e w' => e = .returned (.bool true) ∧ Below w.heap.size w w' := by
  have hu24 := Tryz.underlying24
  have d0 : decide (100 < (l.length : Int)) = false := decide_eq_false (by omega)
  have d0' : decide (100 < l.length) = false := decide_eq_false (by omega)
  have HC := Aside0.mk (And.intro hC hc)
  have HE := Aside0.mk hb
  have HL := Aside0.mk hl
  clear hC hc hb hl
  by_cases he : e2 = 0
  · subst he
    obtain ⟨hd1, hd2, hd3, hlen⟩ := hx rfl
    have HD := Aside0.mk (And.intro hd1 (And.intro hd2 (And.intro hd3 hlen)))
    have t1 : ((xs.length : Int) == (l.length : Int)) = true := by rw [hlen]; simp
    clear hd1 hd2 hd3 hlen hx
    go_enter Tryz.func3, Tryz.ntmps3
    go_upto_region 1 with fail
    obtain ⟨w1, hw1⟩ : ∃ w1, w1 = w.alloc (.cells #[.int .i64 kd, .int .i64 f, .slice A l.length c] 24) := ⟨_, rfl⟩
    have HS1 := Aside0.mk (show w1.heap[w.heap.size]? = some (.cells #[.int .i64 kd, .int .i64 f, .slice A l.length c] 24 (0, 0)) by rw [hw1]; exact blk_new w _)
    have HB1 := Aside0.mk (show Below w.heap.size w w1 by rw [hw1]; exact below_alloc (Below.refl _ _) _)
    rw [← hw1]
    clear hw1
    go_upto_region 4 with (go_at_call 5; refine (awake_calls _).mono ?_; rintro e w2 ⟨rfl, hb⟩; have HB2 := Aside0.mk (below_step HB1.out hb); have HS2 := Aside0.mk (blk_below HS1.out hb); have hcs := (fun i => blk_cell HS2.out i); clear hb)
    go_upto_region 7 with (go_at_call 6; refine (segment_Encode.calls k a0 kd f A c l b 0 _ (Kd.C_below HC.out.1 HB2.out) HC.out.2 HE.out).mono ?_; rintro e w3 ⟨vb, rfl, ho, hb⟩; obtain ⟨Ab, cb, rfl⟩ := Kd.R_slice ho; have HO3 := Aside0.mk (And.intro (Kd.R_reads' ho).2.2 (Kd.R_reads' ho).2.1); have HB3 := Aside0.mk (below_step HB2.out hb); have HS3 := Aside0.mk (blk_below HS2.out hb); clear ho hb hcs)
    go_upto_region 8 with (go_at_call 7; refine (segment_Decode.calls k Ab cb b kd f xs _ HO3.out.1 HO3.out.2 HD.out.1).mono ?_; rintro e w4 ⟨Ax, cx, rfl, ho, hb⟩; have HX4 := Aside0.mk (And.intro (Kd.R_reads' ho).2.2 (Kd.R_reads' ho).2.1); have HB4 := Aside0.mk (below_step HB3.out hb); have HS4 := Aside0.mk (blk_below HS3.out hb); clear ho hb)
    obtain ⟨w5, hw5⟩ : ∃ w5, w5 = w4.alloc (.cells #[.int .i64 kd, .int .i64 f, .slice Ax xs.length cx] 24) := ⟨_, rfl⟩
    obtain ⟨X, hX⟩ : ∃ X, X = w4.heap.size := ⟨_, rfl⟩
    have HP5 := Aside0.mk (show w5.heap[X]? = some (.cells #[.int .i64 kd, .int .i64 f, .slice Ax xs.length cx] 24 (0, 0)) by rw [hw5, hX]; exact blk_new w4 _)
    have HS5 := Aside0.mk (show w5.heap[w.heap.size]? = some (.cells #[.int .i64 kd, .int .i64 f, .slice A l.length c] 24 (0, 0)) by rw [hw5]; exact blk_alloc HS4.out _)
    have HB5 := Aside0.mk (show Below w.heap.size w w5 by rw [hw5]; exact below_alloc HB4.out _)
    have HX5 := Aside0.mk (show Kd.C k62 w5 Ax xs.length xs by rw [hw5]; exact Kd.C_alloc HX4.out.1 _)
    rw [← hw5, ← hX]
    clear hw5 hX
    have hcx := (fun i => blk_cell HP5.out i)
    go_upto_region 9 with (go_at_call 6; refine (segment_Encode.calls k 3 kd f Ax cx xs c2 0 _ HX5.out HX4.out.2 HD.out.2.1).mono ?_; rintro e w6 ⟨vc, rfl, ho, hb⟩; obtain ⟨Ac, cc, rfl⟩ := Kd.R_slice ho; have HO6 := Aside0.mk (And.intro (Kd.R_reads' ho).2.2 (Kd.R_reads' ho).2.1); have HB6 := Aside0.mk (below_step HB5.out hb); have HS6 := Aside0.mk (blk_below HS5.out hb); have HP6 := Aside0.mk (blk_below HP5.out hb); have HX6 := Aside0.mk (Kd.C_below HX5.out hb); clear ho hb hcx)
    go_upto_region 10 with (go_at_call 7; refine (segment_Decode.calls k Ac cc c2 kd f xs _ HO6.out.1 HO6.out.2 HD.out.2.2.1).mono ?_; rintro e w7 ⟨Ay, cy, rfl, ho, hb⟩; have HY7 := Aside0.mk (And.intro (Kd.R_reads' ho).2.2 (Kd.R_reads' ho).2.1); have HB7 := Aside0.mk (below_step HB6.out hb); have HS7 := Aside0.mk (blk_below HS6.out hb); have HP7 := Aside0.mk (blk_below HP6.out hb); have HX7 := Aside0.mk (Kd.C_below HX6.out hb); have HC7 := Aside0.mk (Kd.C_below HO6.out.1 hb); clear ho hb)
    obtain ⟨w8, hw8⟩ : ∃ w8, w8 = w7.alloc (.cells #[.int .i64 kd, .int .i64 f, .slice Ay xs.length cy] 24) := ⟨_, rfl⟩
    obtain ⟨Y, hY⟩ : ∃ Y, Y = w7.heap.size := ⟨_, rfl⟩
    have HQ8 := Aside0.mk (show w8.heap[Y]? = some (.cells #[.int .i64 kd, .int .i64 f, .slice Ay xs.length cy] 24 (0, 0)) by rw [hw8, hY]; exact blk_new w7 _)
    have HS8 := Aside0.mk (show w8.heap[w.heap.size]? = some (.cells #[.int .i64 kd, .int .i64 f, .slice A l.length c] 24 (0, 0)) by rw [hw8]; exact blk_alloc HS7.out _)
    have HP8 := Aside0.mk (show w8.heap[X]? = some (.cells #[.int .i64 kd, .int .i64 f, .slice Ax xs.length cx] 24 (0, 0)) by rw [hw8]; exact blk_alloc HP7.out _)
    have HB8 := Aside0.mk (show Below w.heap.size w w8 by rw [hw8]; exact below_alloc HB7.out _)
    have HX8 := Aside0.mk (show Kd.C k62 w8 Ax xs.length xs by rw [hw8]; exact Kd.C_alloc HX7.out _)
    have HY8 := Aside0.mk (show Kd.C k62 w8 Ay xs.length xs by rw [hw8]; exact Kd.C_alloc HY7.out.1 _)
    have HC8 := Aside0.mk (show Kd.C (Kd.int .u8) w8 Ac c2.length c2 by rw [hw8]; exact Kd.C_alloc HC7.out _)
    rw [← hw8, ← hY]
    clear hw8 hY
    have hcy := (fun i => blk_cell HQ8.out i)
    go_upto_region 11 with (go_at_call 6; refine (segment_Encode.calls k 3 kd f Ay cy xs c2 0 _ HY8.out HY7.out.2 HD.out.2.1).mono ?_; rintro e w9 ⟨vd, rfl, ho, hb⟩; obtain ⟨Ad, cd, rfl⟩ := Kd.R_slice ho; have HD9 := Aside0.mk (Kd.R_reads' ho).2.2; have HB9 := Aside0.mk (below_step HB8.out hb); have HS9 := Aside0.mk (blk_below HS8.out hb); have HP9 := Aside0.mk (blk_below HP8.out hb); have HQ9 := Aside0.mk (blk_below HQ8.out hb); have HX9 := Aside0.mk (Kd.C_below HX8.out hb); have HY9 := Aside0.mk (Kd.C_below HY8.out hb); have HC9 := Aside0.mk (Kd.C_below HC8.out hb); clear ho hb hcy)
    have hcx := (fun i => blk_cell HP9.out i)
    have hcy := (fun i => blk_cell HQ9.out i)
    go_upto_region 14 with (go_at_call 8; refine (same_calls Ax cx Ay cy xs _ HX9.out HY9.out (by have := HD.out.2.2.2; have := HL.out; omega)).mono ?_; rintro e w10 ⟨rfl, hb⟩; have HB10 := Aside0.mk (below_step HB9.out hb); have HS10 := Aside0.mk (blk_below HS9.out hb); have HP10 := Aside0.mk (blk_below HP9.out hb); have HV10 := Aside0.mk (And.intro (text_of8 (c := cc) (Kd.C_below HC9.out hb)) (text_of8 (c := cd) (Kd.C_below HD9.out hb))); clear hb hcx hcy)
    have hcv := HV10.out
    have hcs := (fun i => blk_cell HS10.out i)
    have hcp := (fun i => blk_cell HP10.out i)
    go_wp2
    go_ret
    exact ⟨by first | rfl | (simp; done) | (simp [*]; done), HB10.out⟩
  · have t1 : (e2 != 0) = true := by simpa using he
    clear hx he
    go_enter Tryz.func3, Tryz.ntmps3
    go_upto_region 1 with fail
    obtain ⟨w1, hw1⟩ : ∃ w1, w1 = w.alloc (.cells #[.int .i64 kd, .int .i64 f, .slice A l.length c] 24) := ⟨_, rfl⟩
    have HS1 := Aside0.mk (show w1.heap[w.heap.size]? = some (.cells #[.int .i64 kd, .int .i64 f, .slice A l.length c] 24 (0, 0)) by rw [hw1]; exact blk_new w _)
    have HB1 := Aside0.mk (show Below w.heap.size w w1 by rw [hw1]; exact below_alloc (Below.refl _ _) _)
    rw [← hw1]
    clear hw1
    go_upto_region 4 with (go_at_call 5; refine (awake_calls _).mono ?_; rintro e w2 ⟨rfl, hb⟩; have HB2 := Aside0.mk (below_step HB1.out hb); have HS2 := Aside0.mk (blk_below HS1.out hb); have hcs := (fun i => blk_cell HS2.out i); clear hb)
    go_wp2_with (go_at_call 6; refine (segment_Encode.calls k a0 kd f A c l b e2 _ (Kd.C_below HC.out.1 HB2.out) HC.out.2 HE.out).mono ?_; rintro e w3 ⟨vb, rfl, ho, hb⟩; have HB3 := Aside0.mk (below_step HB2.out hb); clear ho hb)
    go_ret
    exact ⟨rfl, HB3.out⟩
theorem ferrymantop_TopUpgrades.calls (k : Nat) (a0 : Int) (a1_0 a1_1 : Int) (A1_2 : Option Addr) (c1_2 : Nat) (l1_2 : List S62) (r : Bool) (w : World) (hr1_2 : Kd.C k62 w A1_2 l1_2.length l1_2) (hc1_2 : l1_2.length ≤ c1_2) (h : ferrymantop_TopUpgrades.f k a0 a1_0 a1_1 l1_2 = some r) :
    Calls Tryz.prog 3 #[.int .i64 a0, .agg #[.int .i64 a1_0, .int .i64 a1_1, .slice A1_2 l1_2.length c1_2]] w fun e w' => e = .returned (.bool r) ∧ Below w.heap.size w w' := by
  unfold ferrymantop_TopUpgrades.f at h
  split at h
  case isTrue hl =>
    obtain rfl := Option.some.inj h
    exact upgrades_long a0 a1_0 a1_1 A1_2 c1_2 l1_2 w hl
  case isFalse hl =>
    obtain ⟨⟨b, e⟩, hb, h⟩ := Option.bind_eq_some_iff.mp h
    simp only at h
    split at h
    case isFalse he =>
      obtain rfl := Option.some.inj h
      exact upgrades_walk k a0 a1_0 a1_1 A1_2 c1_2 l1_2 [] w b [] e hr1_2 hc1_2 (by omega) hb (fun h0 => absurd h0 he)
    case isTrue he =>
      obtain ⟨⟨x0, x1, xs⟩, hx, h⟩ := Option.bind_eq_some_iff.mp h
      obtain ⟨⟨c2, e2⟩, hc, h⟩ := Option.bind_eq_some_iff.mp h
      obtain ⟨⟨y0, y1, ys⟩, hy, h⟩ := Option.bind_eq_some_iff.mp h
      simp only at h hc hy
      split at h
      case isFalse => cases h
      case isTrue hq =>
        obtain rfl := Option.some.inj h
        obtain ⟨h1, h2, h3, h4, h5, h6, h7⟩ := hq
        have h8 := tupR_map h7
        rw [h2, h3] at hx
        rw [h1, h2, h3] at hc
        rw [h5, h6, h8, h2, h3] at hy
        exact upgrades_walk k a0 a1_0 a1_1 A1_2 c1_2 l1_2 xs w b c2 e hr1_2 hc1_2 (by omega) hb (fun _ => ⟨hx, hc, hy, h4⟩)
end Go.Proofs.YtgljebaiakhbfaaGreat.QTopUpgrades
