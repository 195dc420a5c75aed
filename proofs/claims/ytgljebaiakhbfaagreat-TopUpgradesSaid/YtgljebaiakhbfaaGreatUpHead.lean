/- What this text proves: what the reader of a segment comes to at the frames of one, and what is decoded; conditions: the data are a segment's. -/
import Derived.Test.YtgljebaiakhbfaaGreatQTopUpgradesyD0
import Derived.LoopN
namespace Go.Proofs.YtgljebaiakhbfaaGreat.QTopUpgrades
open Go.RowKit Go.Proofs.YtgljebaiakhbfaaGreatW.PrintWords Go.Proofs.YtgljebaiakhbfaaGreatW.PrintLast Go.Proofs.YtgljebaiakhbfaaGreatW.PrintMore
attribute [local go_sem] max2_int min2_int max_two min_two max_three min_three max_four min_four
set_option linter.unusedVariables false
set_option linter.unusedSimpArgs false
/-- A reader in memory. -/
def RdAt (W : World) (g : Nat) (v kd f : Int) (rs : Value) (full : Bool) : Prop := W.heap[g]? = some (.cells #[.int .i64 v, .int .i64 kd, .int .i64 f, rs, .bool full] 93 (0, 0))
theorem rd_put5 {W : World} {g : Nat} {v kd f v' kd' f' : Int} {rs rs' : Value} {b b' : Bool} (h : RdAt W g v kd f rs b) :
    RdAt (((((W.setCell ⟨g, 0, none⟩ (.int .i64 v')).setCell ⟨g, 1, none⟩ (.int .i64 kd')).setCell ⟨g, 2, none⟩ (.int .i64 f')).setCell ⟨g, 3, none⟩ rs').setCell ⟨g, 4, none⟩ (.bool b')).drew g v' kd' f' rs' b' := by
  have h0 := blk_put h 0 (.int .i64 v') (cs' := #[.int .i64 v', .int .i64 kd, .int .i64 f, rs, .bool b]) rfl
  have h1 := blk_put h0 1 (.int .i64 kd') (cs' := #[.int .i64 v', .int .i64 kd', .int .i64 f, rs, .bool b]) rfl
  have h2 := blk_put h1 2 (.int .i64 f') (cs' := #[.int .i64 v', .int .i64 kd', .int .i64 f', rs, .bool b]) rfl
  have h3 := blk_put h2 3 rs' (cs' := #[.int .i64 v', .int .i64 kd', .int .i64 f', rs', .bool b]) rfl
  exact blk_drew (blk_put h3 4 (.bool b') rfl)
theorem rd_below5 {w0 W : World} {g : Nat} {b0 b1 b2 b3 b4 : Value} (hb : Below w0.heap.size w0 W) (hG : w0.heap.size ≤ g) : Below w0.heap.size w0 (((((W.setCell ⟨g, 0, none⟩ b0).setCell ⟨g, 1, none⟩ b1).setCell ⟨g, 2, none⟩ b2).setCell ⟨g, 3, none⟩ b3).setCell ⟨g, 4, none⟩ b4) :=
  below_set (below_set (below_set (below_set (below_set hb hG) hG) hG) hG) hG
theorem kept_set {w W : World} {g j : Nat} {v : Value} (h : Kept w W (fun k => k = g)) : Kept w (W.setCell ⟨g, j, none⟩ v) (fun k => k = g) :=
  ⟨by have := h.1; simpa using this, fun i hi hn => (Below.heap_setCell W ⟨g, j, none⟩ v i hn).trans (h.2 i hi hn)⟩
theorem kept_drew {w W : World} {S : Nat → Prop} (h : Kept w W S) : Kept w W.drew S := ⟨h.1, h.2⟩
theorem rd_kept5 {w W : World} {g : Nat} {b0 b1 b2 b3 b4 : Value} (hb : Below w.heap.size w W) : Kept w (((((W.setCell ⟨g, 0, none⟩ b0).setCell ⟨g, 1, none⟩ b1).setCell ⟨g, 2, none⟩ b2).setCell ⟨g, 3, none⟩ b3).setCell ⟨g, 4, none⟩ b4).drew (fun k => k = g) :=
  kept_drew (kept_set (kept_set (kept_set (kept_set (kept_set (Kept.of_below hb _))))))
/-- The three numbers behind the first byte, and nothing behind them. -/
def headF (k : Nat) (d : List Int) : Option (Int × Int × Int) :=
  if 0 < d.length ∧ rd d 0 = 108 then (num_Get.f k (d.drop 1)).bind fun p => if 0 < p.2 ∧ p.2 ≤ (d.drop 1).length then
    (num_Get.f k ((d.drop 1).drop p.2.toNat)).bind fun q => if 0 < q.2 ∧ q.2 ≤ ((d.drop 1).drop p.2.toNat).length then
      (num_Get.f k (((d.drop 1).drop p.2.toNat).drop q.2.toNat)).bind fun s => if 0 < s.2 ∧ s.2 = (((d.drop 1).drop p.2.toNat).drop q.2.toNat).length then
        if segment_known.f p.1 = some true ∧ q.1 < 6 then some (p.1, q.1, s.1) else none else none else none else none else none
set_option maxHeartbeats 8000000 in
set_option maxRecDepth 100000 in
theorem head_calls (k g : Nat) (A : Option Addr) (c : Nat) (d : List Int) (v kd f : Int) (w0 w : World) (hb0 : Below w0.heap.size w0 w) (hg0 : w0.heap.size ≤ g) (hR : RdAt w g 0 0 0 (.slice none 0 0) false) (hC : Kd.C (Kd.int .u8) w A d.length d) (hc : d.length ≤ c) (h : headF k d = some (v, kd, f)) :
    Calls Tryz.prog 91 #[.pointer (some ⟨g, 0, none⟩), .slice A d.length c] w fun e w' => e = .returned (.int .i64 0) ∧ RdAt w' g v kd f (.slice none 0 0) true ∧ Below w0.heap.size w0 w' ∧ Kept w w' (fun k => k = g) := by
  unfold headF at h
  split at h
  case isFalse => cases h
  rename_i hd
  obtain ⟨hd0, hd1⟩ := hd
  obtain ⟨d1, hd1e⟩ : ∃ d1, d1 = d.drop 1 := ⟨_, rfl⟩
  rw [← hd1e, Option.bind_eq_some_iff] at h
  obtain ⟨⟨p1, p2⟩, hp, h⟩ := h
  split at h
  case isFalse => cases h
  rename_i hpc
  obtain ⟨hp0, hpl⟩ := hpc
  simp only at hp0 hpl h
  obtain ⟨d2, hd2e⟩ : ∃ d2, d2 = d1.drop p2.toNat := ⟨_, rfl⟩
  rw [← hd2e, Option.bind_eq_some_iff] at h
  obtain ⟨⟨q1, q2⟩, hq, h⟩ := h
  split at h
  case isFalse => cases h
  rename_i hqc
  obtain ⟨hq0, hql⟩ := hqc
  simp only at hq0 hql h
  obtain ⟨d3, hd3e⟩ : ∃ d3, d3 = d2.drop q2.toNat := ⟨_, rfl⟩
  rw [← hd3e, Option.bind_eq_some_iff] at h
  obtain ⟨⟨s1, s2⟩, hs, h⟩ := h
  split at h
  case isFalse => cases h
  rename_i hsc
  obtain ⟨hs0, hsl⟩ := hsc
  simp only at hs0 hsl h
  split at h
  case isFalse => cases h
  rename_i hkc
  obtain ⟨hkn, hk6⟩ := hkc
  obtain ⟨rfl, rfl, rfl⟩ : p1 = v ∧ q1 = kd ∧ s1 = f := by
    have := Option.some.inj h
    simp only [Prod.mk.injEq] at this
    exact this
  obtain ⟨ii, hii, _, hz1, _⟩ := info_parts info5
  obtain ⟨A1, hrun1, hread1, hlen1⟩ := print_cut_int (P := Tryz.prog) (k := .u8) 26 5 Tryz.underlying26 hii hz1 A c d 1 (by omega) (by omega) hc
  rw [show (1 : Int).toNat = 1 from rfl, ← hd1e] at hrun1 hread1 hlen1
  obtain ⟨A2, hrun2, hread2, hlen2⟩ := print_cut_int (P := Tryz.prog) (k := .u8) 26 5 Tryz.underlying26 hii hz1 A1 (c - 1) d1 p2 (by omega) hpl hlen1
  rw [← hd2e] at hrun2 hread2 hlen2
  obtain ⟨A3, hrun3, hread3, hlen3⟩ := print_cut_int (P := Tryz.prog) (k := .u8) 26 5 Tryz.underlying26 hii hz1 A2 (c - 1 - p2.toNat) d2 q2 (by omega) hql hlen2
  rw [← hd3e] at hrun3 hread3 hlen3
  obtain ⟨A4, hrun4, _, _⟩ := print_cut_int (P := Tryz.prog) (k := .u8) 26 5 Tryz.underlying26 hii hz1 A3 (c - 1 - p2.toNat - q2.toNat) d3 s2 (by omega) (by omega) hlen3
  rw [show (d3.drop s2.toNat).length = 0 by rw [List.length_drop]; omega] at hrun4
  have e0 := Kd.reads_of_C (enc := Value.int .u8) (d := (0 : Int)) (h1 := fun _ => rfl) hC
  have e1 := hread1 w e0
  have e2 := hread2 w e1
  have e3 := hread3 w e2
  have HD1 := Aside0.mk (And.intro (Kd.C_of_reads (enc := Value.int .u8) (d := (0 : Int)) (h1 := fun _ => rfl) e1) hlen1)
  have HD2 := Aside0.mk (And.intro (Kd.C_of_reads (enc := Value.int .u8) (d := (0 : Int)) (h1 := fun _ => rfl) e2) hlen2)
  have HD3 := Aside0.mk (And.intro (Kd.C_of_reads (enc := Value.int .u8) (d := (0 : Int)) (h1 := fun _ => rfl) e3) hlen3)
  obtain ⟨ad, hA, hx⟩ := Kd.at_int hC 0 (by omega) (by omega)
  subst hA
  rw [hd1, show ad.add (0 : Int).toNat = ad from by cases ad; simp [Addr.add]] at hx
  have HP := Aside0.mk hp
  have HQ := Aside0.mk hq
  have HS := Aside0.mk hs
  have HKN := Aside0.mk hkn
  have HR := Aside0.mk hR
  have HB := Aside0.mk (And.intro hb0 hg0)
  have t0 : ((d.length : Int) == 0) = false := beq_eq_false_iff_ne.mpr (by omega)
  have t0' : (d.length == 0) = false := beq_eq_false_iff_ne.mpr (by omega)
  have t1 : (p2 == 0) = false := beq_eq_false_iff_ne.mpr (by omega)
  have t2 : (q2 == 0) = false := beq_eq_false_iff_ne.mpr (by omega)
  have t3 : (s2 == 0) = false := beq_eq_false_iff_ne.mpr (by omega)
  have t4 : decide (6 ≤ q1) = false := decide_eq_false (by omega)
  clear h hd1 hp0 hpl hq0 hql hs0 hsl hp hq hs hkn hk6 hii hz1 hread1 hread2 hread3 hlen1 hlen2 hlen3 e0 e1 e2 e3 hd1e hd2e hd3e hR hC hc hb0 hg0
  have HK := Aside0.mk (Below.refl w.heap.size w)
  have tok1 : True := trivial
  have tok2 : True := trivial
  have tok3 : True := trivial
  go_enter Tryz.func91, Tryz.ntmps91
  go_upto_region 5 with fail
  obtain ⟨w1, hw1⟩ : ∃ w1, w1 = w.alloc (.cells #[.int .i64 0, .int .i64 0, .int .i64 0] 190) := ⟨_, rfl⟩
  obtain ⟨N, hN⟩ : ∃ N, N = w.heap.size := ⟨_, rfl⟩
  have HN1 := Aside0.mk (show w1.heap[N]? = some (.cells #[.int .i64 0, .int .i64 0, .int .i64 0] 190 (0, 0)) by rw [hw1, hN]; exact blk_new w _)
  have HG1 := Aside0.mk (show RdAt w1 g 0 0 0 (.slice none 0 0) false by rw [hw1]; exact blk_alloc HR.out _)
  have HB1 := Aside0.mk (show Below w.heap.size w w1 by rw [hw1]; exact below_alloc (Below.refl _ _) _)
  have HNE := Aside0.mk (show N ≠ g ∧ w.heap.size ≤ N by rw [hN]; exact ⟨Ne.symm (Nat.ne_of_lt (blk_lt HR.out)), Nat.le_refl _⟩)
  rw [← hw1, ← hN]
  clear hw1 hN hx
  have hn := (fun i => blk_cell HN1.out i)
  have hz := (fun i => blk_frozen HN1.out i)
  go_wp2
  refine wp_loop_rounds 4 ?_
  rw [rounds_succ]
  go_wp2_with (go_at_call 132; refine (num_Get.calls k A1 (c - 1) d1 p1 p2 _ (Kd.C_below HD1.out.1 HB1.out) HD1.out.2 HP.out).mono ?_; rintro e w2 ⟨rfl, hb⟩; have HN2 := Aside0.mk (blk_below HN1.out hb); have HG2 := Aside0.mk (blk_below HG1.out hb); have HB2 := Aside0.mk (below_step HB1.out hb); clear hb hn hz; have hn := (fun i => blk_cell HN2.out i); have hz := (fun i => blk_frozen HN2.out i))
  obtain ⟨w3, hw3⟩ : ∃ w3, w3 = w2.setCell ⟨N, 0, none⟩ (.int .i64 p1) := ⟨_, rfl⟩
  have HN3 := Aside0.mk (show w3.heap[N]? = some (.cells #[.int .i64 p1, .int .i64 0, .int .i64 0] 190 (0, 0)) by rw [hw3]; exact blk_put HN2.out 0 _ rfl)
  have HG3 := Aside0.mk (show RdAt w3 g 0 0 0 (.slice none 0 0) false by rw [hw3]; exact blk_far HG2.out (p := ⟨N, 0, none⟩) (Ne.symm HNE.out.1) _)
  have HB3 := Aside0.mk (show Below w.heap.size w w3 by rw [hw3]; exact below_set HB2.out HNE.out.2)
  rw [← hw3]
  clear hw3 hn hz
  have hn := (fun i => blk_cell HN3.out i)
  have hz := (fun i => blk_frozen HN3.out i)
  rw [rounds_succ]
  go_wp2_with (go_at_call 132; refine (num_Get.calls k A2 (c - 1 - p2.toNat) d2 q1 q2 _ (Kd.C_below HD2.out.1 HB3.out) HD2.out.2 HQ.out).mono ?_; rintro e w4 ⟨rfl, hb⟩; have HN4 := Aside0.mk (blk_below HN3.out hb); have HG4 := Aside0.mk (blk_below HG3.out hb); have HB4 := Aside0.mk (below_step HB3.out hb); clear hb hn hz; have hn := (fun i => blk_cell HN4.out i); have hz := (fun i => blk_frozen HN4.out i))
  obtain ⟨w5, hw5⟩ : ∃ w5, w5 = w4.setCell ⟨N, 1, none⟩ (.int .i64 q1) := ⟨_, rfl⟩
  have HN5 := Aside0.mk (show w5.heap[N]? = some (.cells #[.int .i64 p1, .int .i64 q1, .int .i64 0] 190 (0, 0)) by rw [hw5]; exact blk_put HN4.out 1 _ rfl)
  have HG5 := Aside0.mk (show RdAt w5 g 0 0 0 (.slice none 0 0) false by rw [hw5]; exact blk_far HG4.out (p := ⟨N, 1, none⟩) (Ne.symm HNE.out.1) _)
  have HB5 := Aside0.mk (show Below w.heap.size w w5 by rw [hw5]; exact below_set HB4.out HNE.out.2)
  rw [← hw5]
  clear hw5 hn hz
  have hn := (fun i => blk_cell HN5.out i)
  have hz := (fun i => blk_frozen HN5.out i)
  rw [rounds_succ]
  go_wp2_with (go_at_call 132; refine (num_Get.calls k A3 (c - 1 - p2.toNat - q2.toNat) d3 s1 s2 _ (Kd.C_below HD3.out.1 HB5.out) HD3.out.2 HS.out).mono ?_; rintro e w6 ⟨rfl, hb⟩; have HN6 := Aside0.mk (blk_below HN5.out hb); have HG6 := Aside0.mk (blk_below HG5.out hb); have HB6 := Aside0.mk (below_step HB5.out hb); clear hb hn hz; have hn := (fun i => blk_cell HN6.out i); have hz := (fun i => blk_frozen HN6.out i))
  obtain ⟨w7, hw7⟩ : ∃ w7, w7 = w6.setCell ⟨N, 2, none⟩ (.int .i64 s1) := ⟨_, rfl⟩
  have HN7 := Aside0.mk (show w7.heap[N]? = some (.cells #[.int .i64 p1, .int .i64 q1, .int .i64 s1] 190 (0, 0)) by rw [hw7]; exact blk_put HN6.out 2 _ rfl)
  have HG7 := Aside0.mk (show RdAt w7 g 0 0 0 (.slice none 0 0) false by rw [hw7]; exact blk_far HG6.out (p := ⟨N, 2, none⟩) (Ne.symm HNE.out.1) _)
  have HB7 := Aside0.mk (show Below w.heap.size w w7 by rw [hw7]; exact below_set HB6.out HNE.out.2)
  rw [← hw7]
  clear hw7 hn hz
  have hn := (fun i => blk_cell HN7.out i)
  have hz := (fun i => blk_frozen HN7.out i)
  rw [rounds_succ]
  go_upto_region 20 with (go_at_call 41; refine (segment_known.calls p1 true _ HKN.out).mono ?_; rintro e w8 ⟨rfl, ⟨q, rfl⟩⟩; have HN8 := Aside0.mk (blk_drewN HN7.out q); have HG8 := Aside0.mk (show RdAt (w7.drewN q) g 0 0 0 (.slice none 0 0) false from blk_drewN HG7.out q); have HB8 := Aside0.mk (pw_below_drewN HB7.out q); clear hn hz; have hn := (fun i => blk_cell HN8.out i))
  clear hn HN1 HN2 HN3 HN4 HN5 HN6 HN7 HG1 HG2 HG3 HG4 HG5 HG6 HG7 HB1 HB2 HB3 HB4 HB5 HB6 HB7 HD1 HD2 HD3 HP HQ HS hrun1 hrun2 hrun3 hrun4 t0 t0' t1 t2 t3 t4
  obtain ⟨w9, hw9⟩ : ∃ w9, w9 = w7.drewN q := ⟨_, rfl⟩
  rw [← hw9] at HN8 HG8 HB8 ⊢
  clear hw9
  have n0 : w9.cell? ⟨N, 0, none⟩ = some (.int .i64 p1) := (blk_cell HN8.out 0).trans rfl
  have n1 : w9.cell? ⟨N, 1, none⟩ = some (.int .i64 q1) := (blk_cell HN8.out 1).trans rfl
  have n2 : w9.cell? ⟨N, 2, none⟩ = some (.int .i64 s1) := (blk_cell HN8.out 2).trans rfl
  have hz := (fun i => blk_frozen HG8.out i)
  have hg := (fun i => blk_cell HG8.out i)
  have hne := HNE.out.1
  have hne2 := Ne.symm HNE.out.1
  go_region_with fail
  all_goals
    go_wp2
    go_ret
    exact ⟨rfl, rd_put5 HG8.out, below_drew1 (rd_below5 (below_step HB.out.1 HB8.out) HB.out.2), rd_kept5 HB8.out⟩
end Go.Proofs.YtgljebaiakhbfaaGreat.QTopUpgrades
